/- Disks: files whose bytes lie in blocks of their own, with any room; crashes in plain words. -/
import Derived.Test.YtbahiohlhhdkcaaDoorDkn
set_option linter.unusedSimpArgs false
namespace Go.Proofs.YtbahiohlhhdkcaaDoor
open Go.RowKit

/-- the bytes lie in a block of their own, from block B on, from its head on -/
def BW (B : Nat) (w : World) (u : Value) (b : List UInt8) : Prop :=
  Sl u8E (fun g fr => u.ownBlock = some g ∧ fr = (0, 0)) w u b ∧ ∃ A c, u = .slice A b.length c ∧ (A = none ∨ ∃ g, A = some ⟨g, 0, none⟩ ∧ B ≤ g ∧ g < w.heap.size)
theorem BW.lt {B : Nat} {w : World} {u : Value} {b : List UInt8} (h : BW B w u b) (g : Nat) (hg : u.ownBlock = some g) : B ≤ g ∧ g < w.heap.size := by
  obtain ⟨_, A, c, rfl, rfl | ⟨g', rfl, h1, h2⟩⟩ := h
  · cases hg
  · injection hg with e
    subst e
    exact ⟨h1, h2⟩
theorem BW.ok (B : Nat) : QOk (BW B) B where
  keep := fun {w w' u b} h hg => by
    refine ⟨h.1.keep fun g _ hs _ => hg g hs.1, ?_⟩
    obtain ⟨h0, A, c, rfl, rfl | ⟨g', rfl, h1, h2⟩⟩ := h
    · exact ⟨_, _, rfl, .inl rfl⟩
    · refine ⟨_, _, rfl, .inr ⟨g', rfl, h1, ?_⟩⟩
      have := hg g' rfl
      rw [Array.getElem?_eq_getElem h2] at this
      exact (Array.getElem?_eq_some_iff.1 this).1
  lt h := h.lt
  sl h := h.1.mono fun g fr hs _ => ⟨(h.lt g hs.1).1, hs.2⟩
theorem set_self {α : Type} {l : List α} {i : Nat} {x : α} (h : l[i]? = some x) : l.set i x = l := by
  obtain ⟨hi, rfl⟩ := List.getElem?_eq_some_iff.1 h
  exact List.set_getElem_self hi
theorem BO.w {B : Nat} {w : World} {u : Value} {b : List UInt8} (h : BO B w u b) : BW B w u b := by
  have h' : Own u8E (fun _ _ => False) w B 5 u b := Own.u8 h
  refine ⟨h'.sl (fun _ _ h _ => h.elim) (fun g hg _ _ => ⟨hg, rfl⟩), ?_⟩
  have hlt := h.lt
  obtain ⟨xs, ho, _⟩ := h
  rcases ho.2 with ⟨h0, hl⟩ | ⟨g, cap', cur, hv, _⟩
  · exact ⟨none, 0, by rw [h0, hl], .inl rfl⟩
  · exact ⟨_, _, hv, .inr ⟨g, rfl, hlt g (by rw [hv]; rfl)⟩⟩
theorem FP.w {B : Nat} {w : World} {v : Value} {fs : List Fi} {us : List Value} {k : Nat} (h : FP (BO B) B w v fs us k) : FP (BW B) B w v fs us k :=
  ⟨h.len, h.row, fun i u f hu hf hi => BO.w (h.own i u f hu hf hi), h.ne, h.rn, h.old⟩
/-- cut to its first m bytes -/
theorem BW.cut {B : Nat} {w : World} {A : Option Addr} {n c m c' : Nat} {b : List UInt8} (h : BW B w (.slice A n c) b) (hm : m ≤ n) (h1 : m ≤ c') (h2 : c' ≤ c) : BW B w (.slice A m c') (b.take m) := by
  obtain ⟨hs, A', c1, e, hA⟩ := h
  injection e with e1 e2 e3
  subst e1 e2 e3
  have hob : (Value.slice A m c').ownBlock = (Value.slice A b.length c).ownBlock := by cases A <;> rfl
  have hl : (b.take m).length = m := by simp; omega
  refine ⟨?_, A, c', by rw [hl], hA⟩
  rw [hob]
  have hs2 := hs.sliced (Nat.zero_le m) hm
  obtain ⟨A2, cap2, xs, e, hc, hmx, ha, hr, hx⟩ := hs2
  obtain ⟨_, _, e0, _, hm0, ha0⟩ := hs.shape
  injection e0 with e01 _ e03
  subst e01 e03
  refine ⟨A, c', xs, by rw [hl], by rw [hl]; exact h1, by omega, fun hn => by have := ha0 hn; omega, by simpa using hr, ?_⟩
  have hA2 : A2 = A ∨ c = 0 := by
    simp only [Go.sliced] at e
    injection e with e1 _ _
    rcases hA with rfl | ⟨g, rfl, _⟩
    · left; rw [← e1]; split <;> rfl
    · left; rw [← e1]; split <;> simp [add_lit']
  intro j u hu
  rcases hA2 with rfl | h0
  · exact hx j u hu
  · exfalso
    have hj := (List.getElem?_eq_some_iff.1 hu).1
    have := hr.1
    simp [u8E, flatE] at this
    omega
theorem run_cut_hm {B : Nat} {w : World} {A : Option Addr} {n c m : Nat} {b : List UInt8} (h : BW B w (.slice A n c) b) (hm : m ≤ n) (w' : World) {H : Int} (hH : H = m) :
    (Instr.sliceAt 25 (.slice A n c) none (some (.int .i64 H)) (some (.int .i64 H))).run Tryd.prog w' = .ok (.slice A m m) w' := by
  obtain ⟨hs, A', c1, e, hA⟩ := h
  injection e with e1 e2 e3
  subst e1 e2 e3
  obtain ⟨_, _, e0, hc0, hm0, ha0⟩ := hs.shape
  injection e0 with e01 _ e03
  subst e01 e03
  obtain ⟨i8, hi8, hy0, hy1, hy2⟩ := info_parts slice_info
  have he : Tryd.prog.elem 25 = 5 := by simp [Program.elem, Tryd.underlying25]
  subst hH
  rw [run_sliceAt_slice w' _ _ _ _ _ (by rw [he]; exact Tryd.underlying25), run_slice_hm w' _ _ _ c (by rw [he]; exact Tryd.underlying25) .i64 .i64 m m (by omega) (by omega) (by omega), he, run_size_of (E := u8E) hi8 hy1]
  rcases hA with rfl | ⟨g, rfl, _⟩
  · have := ha0 rfl
    have hb : b.length = 0 := by omega
    have hm0 : m = 0 := by omega
    subst hm0
    simp [Result.andThen, Go.sliced]
  · simp [Result.andThen, Go.sliced, add_lit']
theorem run_cut_h0 {B : Nat} {w : World} {A : Option Addr} {n c m : Nat} {b : List UInt8} (h : BW B w (.slice A n c) b) (hm : m ≤ n) (w' : World) {H : Int} (hH : H = m) :
    (Instr.sliceAt 25 (.slice A n c) none (some (.int .i64 H)) none).run Tryd.prog w' = .ok (.slice A m c) w' := by
  obtain ⟨hs, A', c1, e, hA⟩ := h
  injection e with e1 e2 e3
  subst e1 e2 e3
  obtain ⟨_, _, e0, hc0, hm0, ha0⟩ := hs.shape
  injection e0 with e01 _ e03
  subst e01 e03
  obtain ⟨i8, hi8, hy0, hy1, hy2⟩ := info_parts slice_info
  have he : Tryd.prog.elem 25 = 5 := by simp [Program.elem, Tryd.underlying25]
  subst hH
  rw [run_sliceAt_slice w' _ _ _ _ _ (by rw [he]; exact Tryd.underlying25), run_slice_h w' _ _ _ c (by rw [he]; exact Tryd.underlying25) .i64 m (by omega) (by omega), he, run_size_of (E := u8E) hi8 hy1]
  rcases hA with rfl | ⟨g, rfl, _⟩
  · have := ha0 rfl
    have hb : b.length = 0 := by omega
    have hm0 : m = 0 := by omega
    subst hm0
    simp [Result.andThen, Go.sliced]
  · simp [Result.andThen, Go.sliced, add_lit']

/-- one file's mark is another one -/
theorem FP.markW {B : Nat} {w : World} {g cap k i n : Nat} {fs : List Fi} {us : List Value} {f : Fi} {s : Int} (h : FP (BW B) B w (.slice (some ⟨g, 0, none⟩) n cap) fs us k) (hf : fs[i]? = some f) (hk : i < k) :
    FP (BW B) B (w.setCell ⟨g, i * 3 + 2, none⟩ (.int .i64 s)) (.slice (some ⟨g, 0, none⟩) n cap) (fs.set i ⟨f.n, f.b, s⟩) us k := by
  have hi := (List.getElem?_eq_some_iff.1 hf).1
  obtain ⟨u, hu⟩ := h.get hf
  obtain ⟨hg1, hg2⟩ := h.row.lt g rfl
  have hus : us.set i u = us := by
    have hiu := (List.getElem?_eq_some_iff.1 hu).1
    rw [List.getElem?_eq_getElem hiu] at hu
    cases hu
    exact List.set_getElem_self hiu
  have hoth : ∀ b, b ≠ g → (w.setCell ⟨g, i * 3 + 2, none⟩ (.int .i64 s)).heap[b]? = w.heap[b]? := fun b hb => heap_setCell_other w ⟨g, i * 3 + 2, none⟩ b _ hb
  have key := h.put (w' := w.setCell ⟨g, i * 3 + 2, none⟩ (.int .i64 s)) (BW.ok B) (i := i) (k' := k) (f' := ⟨f.n, f.b, s⟩) (u' := u) hi (.inl ⟨rfl, hk⟩) ?_ ?_ (fun b hb => hoth b (by omega)) (fun j uj gj huj hj hji hgj => ?_) (fun g' hg' => h.rn i u g' hu hk hg')
  · rwa [hus] at key
  · have := h.row.triSet (tris_get hf hu) 2 (.int .i64 s) (x' := ⟨.int .i64 f.n, u, .int .i64 s⟩) rfl rfl (oneCell_slice ((BW.ok B).sl (h.own i u f hu hf hk))) rfl (by omega)
    rw [tris_set fs us i ⟨f.n, f.b, s⟩ u] at this
    exact this
  · exact (BW.ok B).keep (h.own i u f hu hf hk) fun g' hg' => hoth g' (fun e => h.rn i u g' hu hk hg' (by rw [e]; rfl))
  · exact ⟨hoth gj (fun e => h.rn j uj gj huj hj hgj (by rw [e]; rfl)), fun e => hji (h.ne j i uj u gj huj hu hj hk hgj e)⟩
/-- one file is cut to its first m bytes -/
theorem FP.cutW {B : Nat} {w : World} {g cap k i n nn c m c' : Nat} {A : Option Addr} {fs : List Fi} {us : List Value} {f : Fi} (h : FP (BW B) B w (.slice (some ⟨g, 0, none⟩) n cap) fs us k) (hf : fs[i]? = some f) (hu : us[i]? = some (.slice A nn c)) (hk : i < k)
    (hm : m ≤ nn) (h1 : m ≤ c') (h2 : c' ≤ c) :
    FP (BW B) B (w.setCell ⟨g, i * 3 + 1, none⟩ (.slice A m c')) (.slice (some ⟨g, 0, none⟩) n cap) (fs.set i ⟨f.n, f.b.take m, f.s⟩) (us.set i (.slice A m c')) k := by
  have hi := (List.getElem?_eq_some_iff.1 hf).1
  obtain ⟨hg1, hg2⟩ := h.row.lt g rfl
  have hob : (Value.slice A m c').ownBlock = (Value.slice A nn c).ownBlock := by cases A <;> rfl
  have hoth : ∀ b, b ≠ g → (w.setCell ⟨g, i * 3 + 1, none⟩ (.slice A m c')).heap[b]? = w.heap[b]? := fun b hb => heap_setCell_other w ⟨g, i * 3 + 1, none⟩ b _ hb
  have hrn : ∀ g', (Value.slice A m c').ownBlock = some g' → (Value.slice (some ⟨g, 0, none⟩) n cap).ownBlock ≠ some g' := fun g' hg' => h.rn i _ g' hu hk (by rw [← hob]; exact hg')
  refine h.put (BW.ok B) hi (.inl ⟨rfl, hk⟩) ?_ ?_ (fun b hb => hoth b (by omega)) (fun j uj gj huj hj hji hgj => ?_) hrn
  · have := h.row.triSet (tris_get hf hu) 1 (.slice A m c') (x' := ⟨.int .i64 f.n, .slice A m c', .int .i64 f.s⟩) rfl rfl rfl rfl (by omega)
    rw [tris_set fs us i ⟨f.n, f.b.take m, f.s⟩ _] at this
    exact this
  · exact (BW.ok B).keep ((h.own i _ f hu hf hk).cut hm h1 h2) fun g' hg' => hoth g' (fun e => hrn g' hg' (by rw [e]; rfl))
  · exact ⟨hoth gj (fun e => h.rn j uj gj huj hj hgj (by rw [e]; rfl)), fun e => hji (h.ne j i uj _ gj huj hu hj hk hgj (by rw [← hob]; exact e))⟩
/-- one byte of one file is another one -/
theorem FP.byteW {B : Nat} {w : World} {g cap k i n nn c j : Nat} {A : Option Addr} {fs : List Fi} {us : List Value} {f : Fi} {x : UInt8} (h : FP (BW B) B w (.slice (some ⟨g, 0, none⟩) n cap) fs us k) (hf : fs[i]? = some f) (hu : us[i]? = some (.slice A nn c)) (hk : i < k) (hj : j < f.b.length) :
    ∃ y, A = some ⟨y, 0, none⟩ ∧ y ≠ g ∧ B ≤ y ∧ y < w.heap.size ∧ At (fun _ fr => fr = (0, 0)) w y j (.int .u8 (f.b[j].toNat : Int)) ∧
      FP (BW B) B (w.setCell ⟨y, j, none⟩ (.int .u8 (x.toNat : Int))) (.slice (some ⟨g, 0, none⟩) n cap) (fs.set i ⟨f.n, f.b.set j x, f.s⟩) us k := by
  have hi := (List.getElem?_eq_some_iff.1 hf).1
  have hq := h.own i _ f hu hf hk
  obtain ⟨b, off, e, hat⟩ := hq.1.byte hj
  obtain ⟨_, A', c1, e1, hA⟩ := id hq
  injection e1 with e1 e2 e3
  subst e1 e3
  rcases hA with rfl | ⟨y, rfl, hy1, hy2⟩
  · cases e
  injection e with e
  injection e with e4 e5
  subst e4 e5
  rw [Nat.zero_add] at hat
  have hyg : y ≠ g := fun e => h.rn i _ y hu hk rfl (by rw [e]; rfl)
  refine ⟨y, rfl, hyg, hy1, hy2, hat.mono (fun _ _ h _ => h.2), ?_⟩
  have hus : us.set i (.slice (some ⟨y, 0, none⟩) nn c) = us := by
    have hiu := (List.getElem?_eq_some_iff.1 hu).1
    rw [List.getElem?_eq_getElem hiu] at hu
    injection hu with hu
    rw [← hu]
    exact List.set_getElem_self hiu
  have hoth : ∀ b, b ≠ y → (w.setCell ⟨y, j, none⟩ (.int .u8 (x.toNat : Int))).heap[b]? = w.heap[b]? := fun b hb => heap_setCell_other w ⟨y, j, none⟩ b _ hb
  have key := h.put (w' := w.setCell ⟨y, j, none⟩ (.int .u8 (x.toNat : Int))) (BW.ok B) (i := i) (k' := k) (f' := ⟨f.n, f.b.set j x, f.s⟩) (u' := .slice (some ⟨y, 0, none⟩) nn c) hi (.inl ⟨rfl, hk⟩) ?_ ?_ (fun b hb => hoth b (by omega)) (fun m um gm hum hm hmi hgm => ?_) (fun g' hg' => h.rn i _ g' hu hk hg')
  · rwa [hus] at key
  · have hrow := (h.row.tri (S' := fun _ _ => False)).keep (w' := w.setCell ⟨y, j, none⟩ (.int .u8 (x.toNat : Int))) (fun g' hg' => hoth g' (fun e => by rw [e] at hg'; injection hg' with e2; exact hyg e2.symm)) (fun _ _ h _ => h.elim)
    have ht := tris_set fs us i ⟨f.n, f.b.set j x, f.s⟩ (.slice (some ⟨y, 0, none⟩) nn c)
    rw [← ht, set_self (tris_get hf hu)]
    exact hrow.tri
  · refine ⟨?_, some ⟨y, 0, none⟩, c, by rw [List.length_set, e2], .inr ⟨y, rfl, hy1, by simpa using hy2⟩⟩
    obtain ⟨hs, _⟩ := hq
    obtain ⟨A3, c3, xs, e3, k1, k2, k3, k4, k5⟩ := hs
    injection e3 with e31 e32 e33
    subst e31 e33
    have hxs : xs = f.b.map fun x => .int .u8 (x.toNat : Int) := k4.bytes
    obtain ⟨cc, ct, cfr, hb, hbj, hbf⟩ := hat
    refine ⟨some ⟨y, 0, none⟩, c, (f.b.set j x).map fun x => .int .u8 (x.toNat : Int), by rw [List.length_set, ← e32], by rw [List.length_set]; exact k1, k2, (fun h => by cases h), reps_bytes _, fun m u hm => ?_⟩
    refine ⟨y, 0, rfl, ?_⟩
    have hset := heap_setCell_same w y j cc ct (.int .u8 (x.toNat : Int)) (by rw [hb, hbf.2])
    refine ⟨_, ct, (0, 0), hset, ?_, rfl, rfl⟩
    rw [Nat.zero_add]
    rw [List.getElem?_map] at hm
    obtain ⟨z, hz, rfl⟩ := Option.map_eq_some_iff.1 hm
    rw [List.getElem?_set] at hz
    have hjc := (Array.getElem?_eq_some_iff.1 hbj).1
    by_cases hjm : j = m
    · subst hjm
      rw [if_pos rfl, if_pos hj] at hz
      cases hz
      simp [hjc]
    · rw [if_neg hjm] at hz
      have hold : xs[m]? = some (.int .u8 (z.toNat : Int)) := by rw [hxs, List.getElem?_map, hz]; rfl
      obtain ⟨b0, o0, e0, c0, t0, f0, hb0, hc0, _⟩ := k5 m _ hold
      injection e0 with e0
      injection e0 with e01 e02
      subst e01 e02
      rw [hb] at hb0
      injection hb0 with hb0
      injection hb0 with hb1 _ _
      subst hb1
      rw [Nat.zero_add] at hc0
      simp [Array.getElem?_setIfInBounds, hjm]
      simpa using hc0
  · exact ⟨hoth gm (fun e => by subst e; exact hmi (h.ne m i um _ gm hum hu hm hk hgm rfl)), fun e => hmi (h.ne m i um _ gm hum hu hm hk hgm e)⟩
end Go.Proofs.YtbahiohlhhdkcaaDoor
