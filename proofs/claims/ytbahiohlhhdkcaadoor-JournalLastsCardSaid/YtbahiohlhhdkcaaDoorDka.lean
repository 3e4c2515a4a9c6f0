/- Files and disks: how they read; a row of files whose bytes lie in rows of their own. -/
import Derived.Test.YtbahiohlhhdkcaaDoorByte
import Derived.Test.YtbahiohlhhdkcaaDoorRow
import Derived.Outline
namespace Go.Proofs.YtbahiohlhhdkcaaDoor
open Go.RowKit

structure Fi where
  n : Int
  b : List UInt8
  s : Int
  deriving DecidableEq, Inhabited

def fiE : Enc Fi where
  k := 3
  pos := by omega
  rd := fun S w cs p => ∃ u, cs = [.int .i64 p.n, u, .int .i64 p.s] ∧ Sl u8E S w u p.b
  len := fun ⟨_, h, _⟩ => by rw [h]; rfl
  mono := fun ⟨u, h, hs⟩ hm => ⟨u, h, hs.mono hm⟩
  keep := fun ⟨u, h, hs⟩ hk => ⟨u, h, hs.keep hk⟩
  one := fun ⟨u, h, hs⟩ x hx => by
    subst h
    obtain ⟨A, cap, rfl, _⟩ := hs.shape
    simp at hx
    rcases hx with rfl | rfl | rfl <;> rfl

/-- the i-th file of a slice: its three cells -/
theorem Sl.fi {S : Foot} {w : World} {A : Option Addr} {n cap : Nat} {l : List Fi} (h : Sl fiE S w (.slice A n cap) l) {i : Nat} (hi : i < l.length) :
    ∃ b off Av cv, A = some ⟨b, off, none⟩ ∧ At S w b (off + i * 3) (.int .i64 l[i].n) ∧ At S w b (off + i * 3 + 1) (.slice Av l[i].b.length cv) ∧ At S w b (off + i * 3 + 2) (.int .i64 l[i].s) ∧ Sl u8E S w (.slice Av l[i].b.length cv) l[i].b := by
  obtain ⟨_, _, _, _, hc⟩ := h.cells
  obtain ⟨b, off, cs, e, ⟨u, hu, hs⟩, _, hat⟩ := hc i _ (List.getElem?_eq_getElem hi)
  subst hu
  obtain ⟨Av, cv, rfl, _⟩ := hs.shape
  exact ⟨b, off, Av, cv, e, hat 0 _ rfl, hat 1 _ rfl, hat 2 _ rfl, hs⟩

/-! ### rows of three values -/
structure Tri where
  a : Value
  b : Value
  c : Value
def trE : Enc Tri where
  k := 3
  pos := by omega
  rd := fun _ _ cs x => cs = [x.a, x.b, x.c] ∧ x.a.oneCell' = true ∧ x.b.oneCell' = true ∧ x.c.oneCell' = true
  len := fun h => by rw [h.1]; rfl
  mono := fun h _ => h
  keep := fun h _ => h
  one := fun h u hu => by
    rw [h.1] at hu
    simp at hu
    rcases hu with rfl | rfl | rfl
    · exact h.2.1
    · exact h.2.2.1
    · exact h.2.2.2
theorem Own.tri {S S' : Foot} {w : World} {base : Nat} {t : TypeId} {v : Value} {l : List Tri} (h : Own trE S w base t v l) : Own trE S' w base t v l := by
  obtain ⟨xs, ho, hr⟩ := h
  exact ⟨xs, ho, hr.1, hr.2⟩
theorem Sl.tri {S : Foot} {w : World} {A : Option Addr} {n cap : Nat} {l : List Tri} (h : Sl trE S w (.slice A n cap) l) {i : Nat} {x : Tri} (hi : l[i]? = some x) :
    ∃ b off, A = some ⟨b, off, none⟩ ∧ At S w b (off + i * 3) x.a ∧ At S w b (off + i * 3 + 1) x.b ∧ At S w b (off + i * 3 + 2) x.c := by
  obtain ⟨_, _, _, _, hc⟩ := h.cells
  obtain ⟨b, off, cs, e, ⟨hrd, _⟩, _, hat⟩ := hc i _ hi
  subst hrd
  exact ⟨b, off, e, hat 0 _ rfl, hat 1 _ rfl, hat 2 _ rfl⟩
/-- a cell of an owned row of three values -/
theorem Own.tri3 {S : Foot} {w : World} {B g cap : Nat} {t : TypeId} {n : Nat} {l : List Tri} (h : Own trE S w B t (.slice (some ⟨g, 0, none⟩) n cap) l) {i : Nat} {x : Tri} (hi : l[i]? = some x) :
    At Any w g (i * 3) x.a ∧ At Any w g (i * 3 + 1) x.b ∧ At Any w g (i * 3 + 2) x.c := by
  obtain ⟨b, off, e, h0, h1, h2⟩ := h.slAny.tri hi
  injection e with e
  injection e with e1 e2
  subst e1 e2
  rw [Nat.zero_add] at h0 h1 h2
  exact ⟨h0, h1, h2⟩
theorem Own.free3 {S : Foot} {w : World} {B g cap : Nat} {t : TypeId} {n : Nat} {l : List Tri} (h : Own trE S w B t (.slice (some ⟨g, 0, none⟩) n cap) l) (o : Nat) : w.frozen? ⟨g, o, none⟩ = false := by
  obtain ⟨xs, ho, _⟩ := h
  rcases ho.2 with ⟨h0, _⟩ | ⟨g', cap', cur, hv, _, hh, _⟩
  · cases h0
  · injection hv with e1 _ _
    injection e1 with e1
    injection e1 with e1
    subst e1
    exact frozen_of_row w g o cur t hh

def tris : List Fi → List Value → List Tri
  | f :: fs, u :: us => ⟨.int .i64 f.n, u, .int .i64 f.s⟩ :: tris fs us
  | _, _ => []
theorem tris_len : ∀ (fs : List Fi) (us : List Value), us.length = fs.length → (tris fs us).length = fs.length
  | [], [], _ => rfl
  | f :: fs, u :: us, h => by simp [tris, tris_len fs us (by simpa using h)]
  | [], _ :: _, h => by simp at h
  | _ :: _, [], h => by simp at h
theorem tris_get : ∀ {fs : List Fi} {us : List Value} {i : Nat} {f : Fi} {u : Value}, fs[i]? = some f → us[i]? = some u → (tris fs us)[i]? = some ⟨.int .i64 f.n, u, .int .i64 f.s⟩
  | f' :: fs, u' :: us, 0, f, u, h, h' => by simp at h h'; subst h h'; rfl
  | f' :: fs, u' :: us, i + 1, f, u, h, h' => by simpa [tris] using tris_get (fs := fs) (us := us) (by simpa using h) (by simpa using h')
  | [], _, _, _, _, h, _ => by simp at h
  | _ :: _, [], _, _, _, _, h => by simp at h
theorem tris_set : ∀ (fs : List Fi) (us : List Value) (i : Nat) (f : Fi) (u : Value), (tris fs us).set i ⟨.int .i64 f.n, u, .int .i64 f.s⟩ = tris (fs.set i f) (us.set i u)
  | [], _, _, _, _ => by simp [tris]
  | _ :: _, [], 0, _, _ => by simp [tris]
  | _ :: _, [], _ + 1, _, _ => by simp [tris]
  | f' :: fs, u' :: us, 0, f, u => by simp [tris]
  | f' :: fs, u' :: us, i + 1, f, u => by simp [tris, tris_set fs us i f u]
theorem tris_append : ∀ (fs : List Fi) (us : List Value) (f : Fi) (u : Value), us.length = fs.length → tris (fs ++ [f]) (us ++ [u]) = tris fs us ++ [⟨.int .i64 f.n, u, .int .i64 f.s⟩]
  | [], [], _, _, _ => rfl
  | f' :: fs, u' :: us, f, u, h => by simp [tris, tris_append fs us f u (by simpa using h)]
  | [], _ :: _, _, _, h => by simp at h
  | _ :: _, [], _, _, h => by simp at h

/-! ### files whose bytes are owned one by one -/
structure QOk (Q : World → Value → List UInt8 → Prop) (B : Nat) : Prop where
  keep : ∀ {w w' : World} {u : Value} {b : List UInt8}, Q w u b → (∀ g, u.ownBlock = some g → w'.heap[g]? = w.heap[g]?) → Q w' u b
  lt : ∀ {w : World} {u : Value} {b : List UInt8}, Q w u b → ∀ g, u.ownBlock = some g → B ≤ g ∧ g < w.heap.size
  sl : ∀ {w : World} {u : Value} {b : List UInt8}, Q w u b → Sl u8E (Hi B) w u b
/-- v owns a row of files from block B on; the first k files' bytes are owned as Q says, block by block; the others' lie below B -/
structure FP (Q : World → Value → List UInt8 → Prop) (B : Nat) (w : World) (v : Value) (fs : List Fi) (us : List Value) (k : Nat) : Prop where
  len : us.length = fs.length
  row : Own trE Any w B 50 v (tris fs us)
  own : ∀ i u f, us[i]? = some u → fs[i]? = some f → i < k → Q w u f.b
  ne : ∀ i j u u' g, us[i]? = some u → us[j]? = some u' → i < k → j < k → u.ownBlock = some g → u'.ownBlock = some g → i = j
  rn : ∀ i u g, us[i]? = some u → i < k → u.ownBlock = some g → v.ownBlock ≠ some g
  old : ∀ i u f, us[i]? = some u → fs[i]? = some f → k ≤ i → Sl u8E (Lo B) w u f.b

def BO (B : Nat) (w : World) (u : Value) (b : List UInt8) : Prop := Own u8E Any w B 5 u b
theorem BO.ok (B : Nat) : QOk (BO B) B where
  keep h hg := ((h.u8 (S' := fun _ _ => False)).keep hg (fun _ _ h _ => h.elim)).u8
  lt h := h.lt
  sl h := (h.u8 (S' := fun _ _ => False)).sl (fun _ _ h _ => h.elim) (fun _ _ h _ => ⟨h, rfl⟩)

section
variable {Q : World → Value → List UInt8 → Prop} {B : Nat} {w w' : World} {v : Value} {fs : List Fi} {us : List Value} {k : Nat}

theorem FP.get (h : FP Q B w v fs us k) {i : Nat} {f : Fi} (hf : fs[i]? = some f) : ∃ u, us[i]? = some u := by
  have hi := (List.getElem?_eq_some_iff.1 hf).1
  exact ⟨us[i]'(by rw [h.len]; exact hi), List.getElem?_eq_getElem _⟩
theorem FP.nil : FP Q B w (.slice none 0 0) [] [] k := ⟨rfl, Own.nil, by simp, by simp, by simp, by simp⟩
theorem FP.lt (hQ : QOk Q B) (h : FP Q B w v fs us k) {i : Nat} {u : Value} {g : Nat} (hu : us[i]? = some u) (hi : i < k) (hg : u.ownBlock = some g) : B ≤ g ∧ g < w.heap.size := by
  have hl := (List.getElem?_eq_some_iff.1 hu).1
  rw [h.len] at hl
  exact hQ.lt (h.own i u _ hu (List.getElem?_eq_getElem hl) hi) g hg
/-- kept where the row, the owned bytes and what lies below B stay -/
theorem FP.keep (hQ : QOk Q B) (h : FP Q B w v fs us k) (hr : ∀ g, v.ownBlock = some g → w'.heap[g]? = w.heap[g]?) (hb : ∀ i u g, us[i]? = some u → i < k → u.ownBlock = some g → w'.heap[g]? = w.heap[g]?)
    (hl : ∀ b, b < B → w'.heap[b]? = w.heap[b]?) : FP Q B w' v fs us k where
  len := h.len
  row := ((h.row.tri (S' := fun _ _ => False)).keep hr (fun _ _ h _ => h.elim)).tri
  own i u f hu hf hi := hQ.keep (h.own i u f hu hf hi) (fun g hg => hb i u g hu hi hg)
  ne := h.ne
  rn := h.rn
  old i u f hu hf hi := (h.old i u f hu hf hi).keep fun b _ hs _ => hl b hs
theorem FP.below (hQ : QOk Q B) (h : FP Q B w v fs us k) (hb : Below w.heap.size w w') (hB : B ≤ w.heap.size) : FP Q B w' v fs us k :=
  h.keep hQ (fun g hg => hb.block g (h.row.lt g hg).2) (fun i u g hu hi hg => hb.block g (h.lt hQ hu hi hg).2) (fun b hl => hb.block b (by omega))
/-- as it reads -/
theorem FP.sl (hQ : QOk Q B) (h : FP Q B w v fs us fs.length) : Sl fiE (Hi B) w v fs := by
  have hl := tris_len fs us h.len
  have h1 := (h.row.tri (S' := fun _ _ => False)).sl (S' := Hi B) (fun _ _ h _ => h.elim) (fun _ _ h _ => ⟨h, rfl⟩)
  obtain ⟨A, cap, xs, e, hc, hm, ha, hr, hx⟩ := h1
  rw [hl] at e hc
  refine ⟨A, cap, xs, e, hc, hm, ha, ⟨by rw [hr.1, hl]; rfl, fun i f hf => ?_⟩, hx⟩
  obtain ⟨u, hu⟩ := h.get hf
  obtain ⟨h2, _⟩ := hr.2 i _ (tris_get hf hu)
  exact ⟨u, h2, hQ.sl (h.own i u f hu hf (List.getElem?_eq_some_iff.1 hf).1)⟩
/-- one file's bytes and numbers are put anew: the row's cells are already written in w' -/
theorem FP.put (hQ : QOk Q B) (h : FP Q B w v fs us k) {i k' : Nat} {f' : Fi} {u' : Value} (hi : i < fs.length) (hk : (k' = k ∧ i < k) ∨ (k' = k + 1 ∧ i = k))
    (hrow : Own trE Any w' B 50 v (tris (fs.set i f') (us.set i u'))) (hu' : Q w' u' f'.b)
    (hl : ∀ b, b < B → w'.heap[b]? = w.heap[b]?)
    (hb : ∀ j u g, us[j]? = some u → j < k → j ≠ i → u.ownBlock = some g → w'.heap[g]? = w.heap[g]? ∧ u'.ownBlock ≠ some g) (hv : ∀ g, u'.ownBlock = some g → v.ownBlock ≠ some g) : FP Q B w' v (fs.set i f') (us.set i u') k' := by
  have hiu : i < us.length := by rw [h.len]; exact hi
  have hlt : ∀ j, j < k' → j ≠ i → j < k := fun j h1 h2 => by omega
  refine ⟨by simp [h.len], hrow, fun j u f hu hf hj => ?_, fun j m u u1 g hu hu1 hj hm hg hg1 => ?_, fun j u g hu hj hg => ?_, fun j u f hu hf hj => ?_⟩
  · rw [List.getElem?_set] at hu hf
    by_cases hij : i = j
    · rw [if_pos hij, if_pos (by omega)] at hu hf
      cases hu; cases hf; exact hu'
    · rw [if_neg hij] at hu hf
      have hjk := hlt j hj (fun e => hij e.symm)
      exact hQ.keep (h.own j u f hu hf hjk) fun g hg => (hb j u g hu hjk (fun e => hij e.symm) hg).1
  · rw [List.getElem?_set] at hu hu1
    by_cases hij : i = j
    · by_cases him : i = m
      · omega
      · rw [if_pos hij, if_pos (by omega)] at hu
        rw [if_neg him] at hu1
        cases hu
        exact absurd hg (hb m u1 g hu1 (hlt m hm (fun e => him e.symm)) (fun e => him e.symm) hg1).2
    · rw [if_neg hij] at hu
      by_cases him : i = m
      · rw [if_pos him, if_pos (by omega)] at hu1
        cases hu1
        exact absurd hg1 (hb j u g hu (hlt j hj (fun e => hij e.symm)) (fun e => hij e.symm) hg).2
      · rw [if_neg him] at hu1
        exact h.ne j m u u1 g hu hu1 (hlt j hj (fun e => hij e.symm)) (hlt m hm (fun e => him e.symm)) hg hg1
  · rw [List.getElem?_set] at hu
    by_cases hij : i = j
    · rw [if_pos hij, if_pos (by omega)] at hu
      cases hu; exact hv g hg
    · rw [if_neg hij] at hu
      exact h.rn j u g hu (hlt j hj (fun e => hij e.symm)) hg
  · have hij : i ≠ j := by omega
    rw [List.getElem?_set, if_neg hij] at hu hf
    exact (h.old j u f hu hf (by omega)).keep fun b _ hs _ => hl b hs
end
end Go.Proofs.YtbahiohlhhdkcaaDoor
