/- Disks: deeds; arrays of four byte slices. -/
import Derived.Test.YtnblnlbchcepjaaDla
set_option linter.unusedSimpArgs false
namespace Go.Proofs.Ytnblnlbchcepjaa
open Go.RowKit

/-- a deed: all is synced; or bytes are appended to a file -/
structure Dd where
  y : Bool
  n : Int
  b : List UInt8
  deriving Inhabited
def deE : Enc Dd where
  k := 3
  pos := by omega
  rd := fun S w cs p => ∃ u, cs = [.bool p.y, .int .i64 p.n, u] ∧ Sl u8E S w u p.b
  len := fun ⟨_, h, _⟩ => by rw [h]; rfl
  mono := fun ⟨u, h, hs⟩ hm => ⟨u, h, hs.mono hm⟩
  keep := fun ⟨u, h, hs⟩ hk => ⟨u, h, hs.keep hk⟩
  one := fun ⟨u, h, hs⟩ x hx => by
    subst h
    obtain ⟨A, cap, rfl, _⟩ := hs.shape
    simp at hx
    rcases hx with rfl | rfl | rfl <;> rfl
theorem Sl.dd {S : Foot} {w : World} {A : Option Addr} {n cap : Nat} {l : List Dd} (h : Sl deE S w (.slice A n cap) l) {i : Nat} (hi : i < l.length) :
    ∃ b off Av cv, A = some ⟨b, off, none⟩ ∧ At S w b (off + i * 3) (.bool l[i].y) ∧ At S w b (off + i * 3 + 1) (.int .i64 l[i].n) ∧ At S w b (off + i * 3 + 2) (.slice Av l[i].b.length cv) ∧ Sl u8E S w (.slice Av l[i].b.length cv) l[i].b := by
  obtain ⟨_, _, _, _, hc⟩ := h.cells
  obtain ⟨b, off, cs, e, ⟨u, hu, hs⟩, _, hat⟩ := hc i _ (List.getElem?_eq_getElem hi)
  subst hu
  obtain ⟨Av, cv, rfl, _⟩ := hs.shape
  exact ⟨b, off, Av, cv, e, hat 0 _ rfl, hat 1 _ rfl, hat 2 _ rfl, hs⟩
/-- a box of four slices of bytes that lie from block B on -/
def A4 (B : Nat) (w : World) (b : Nat) (L : List (List UInt8)) : Prop :=
  ∃ us : List Value, us.length = 4 ∧ L.length = 4 ∧ w.heap[b]? = some (.cells us.toArray 42 (0, 0)) ∧ ∀ (i : Nat) (u : Value) (x : List UInt8), us[i]? = some u → L[i]? = some x → Sl u8E (Hi B) w u x
theorem A4.keep {B : Nat} {w w' : World} {b : Nat} {L : List (List UInt8)} (h : A4 B w b L) (hb : w'.heap[b]? = w.heap[b]?) (hk : ∀ g, B ≤ g → g < w.heap.size → w'.heap[g]? = w.heap[g]?) : A4 B w' b L := by
  obtain ⟨us, h1, h2, h3, h4⟩ := h
  exact ⟨us, h1, h2, hb.trans h3, fun i u x hu hx => (h4 i u x hu hx).keep fun g _ hs hl => hk g hs.1 hl⟩
theorem A4.below {B : Nat} {w w' : World} {b : Nat} {L : List (List UInt8)} (h : A4 B w b L) (hb : Below w.heap.size w w') : A4 B w' b L := by
  have hl : b < w.heap.size := by
    obtain ⟨us, _, _, h3, _⟩ := h
    exact (Array.getElem?_eq_some_iff.1 h3).1
  exact h.keep (hb.block b hl) fun g _ hg => hb.block g hg
theorem A4.at_ {B : Nat} {w : World} {b k : Nat} {L : List (List UInt8)} (h : A4 B w b L) (hk : k < 4) :
    ∃ x A c, L[k]? = some x ∧ w.cell? ⟨b, k, none⟩ = some (.slice A x.length c) ∧ Sl u8E (Hi B) w (.slice A x.length c) x ∧ w.frozen? ⟨b, k, none⟩ = false ∧ x.length ≤ c ∧ c ≤ maxLen := by
  obtain ⟨us, h1, h2, h3, h4⟩ := h
  have hu : us[k]? = some us[k] := List.getElem?_eq_getElem (by omega)
  have hx : L[k]? = some L[k] := List.getElem?_eq_getElem (by omega)
  have hs := h4 k _ _ hu hx
  obtain ⟨A, c, e, h5, h6, _⟩ := hs.shape
  rw [e] at hs
  refine ⟨L[k], A, c, hx, ?_, hs, frozen_of_row w b k _ _ h3, h5, h6⟩
  rw [cell_of_row w b k _ _ _ h3]
  simp [hu, e]
theorem A4.put {B : Nat} {w : World} {b k : Nat} {L : List (List UInt8)} {v : Value} {x : List UInt8} (h : A4 B w b L) (hb : b < B) (hv : Sl u8E (Hi B) w v x) : A4 B (w.setCell ⟨b, k, none⟩ v) b (L.set k x) := by
  obtain ⟨us, h1, h2, h3, h4⟩ := h
  have hoth : ∀ g, B ≤ g → (w.setCell ⟨b, k, none⟩ v).heap[g]? = w.heap[g]? := fun g hg => heap_setCell_other w ⟨b, k, none⟩ g v (by simp; omega)
  refine ⟨us.set k v, by simp [h1], by simp [h2], ?_, fun i u y hu hy => ?_⟩
  · rw [heap_setCell_same w b k _ _ v h3]; simp
  · rw [List.getElem?_set] at hu hy
    by_cases e : k = i
    · rw [if_pos e] at hu hy
      split at hu
      · injection hu with hu
        subst hu
        split at hy
        · injection hy with hy
          subst hy
          exact hv.keep fun g _ hs _ => hoth g hs.1
        · cases hy
      · cases hu
    · rw [if_neg e] at hu hy
      exact (h4 i u y hu hy).keep fun g _ hs _ => hoth g hs.1
theorem A4.four {B : Nat} {w : World} {b : Nat} {L : List (List UInt8)} (h : A4 B w b L) : ∃ A0 n0 c0 A1 n1 c1 A2 n2 c2 A3 n3 c3, w.heap[b]? = some (.cells #[.slice A0 n0 c0, .slice A1 n1 c1, .slice A2 n2 c2, .slice A3 n3 c3] 42 (0, 0)) ∧
    ∀ (W : World) (b' : Nat), W.heap[b']? = some (.cells #[.slice A0 n0 c0, .slice A1 n1 c1, .slice A2 n2 c2, .slice A3 n3 c3] 42 (0, 0)) → (∀ g, B ≤ g → g < w.heap.size → W.heap[g]? = w.heap[g]?) → A4 B W b' L := by
  obtain ⟨us, h1, h2, h3, h4⟩ := h
  match us, h1, L, h2 with
  | [u0, u1, u2, u3], _, [x0, x1, x2, x3], h2 =>
    obtain ⟨A0, c0, rfl, _⟩ := (h4 0 _ _ rfl rfl).shape
    obtain ⟨A1, c1, rfl, _⟩ := (h4 1 _ _ rfl rfl).shape
    obtain ⟨A2, c2, rfl, _⟩ := (h4 2 _ _ rfl rfl).shape
    obtain ⟨A3, c3, rfl, _⟩ := (h4 3 _ _ rfl rfl).shape
    exact ⟨A0, _, c0, A1, _, c1, A2, _, c2, A3, _, c3, h3, fun W b' hW hk => ⟨_, rfl, h2, hW, fun i u x hu hx => (h4 i u x hu hx).keep fun g _ hs hl => hk g hs.1 hl⟩⟩
theorem A4.nil {B : Nat} {w : World} {b : Nat} (h : w.heap[b]? = some (.cells #[.slice none 0 0, .slice none 0 0, .slice none 0 0, .slice none 0 0] 42 (0, 0))) : A4 B w b [[], [], [], []] :=
  ⟨[.slice none 0 0, .slice none 0 0, .slice none 0 0, .slice none 0 0], rfl, rfl, h, fun i u x hu hx => by
    match i, hu, hx with
    | 0, hu, hx => simp at hu hx; subst hu hx; exact Sl.nil
    | 1, hu, hx => simp at hu hx; subst hu hx; exact Sl.nil
    | 2, hu, hx => simp at hu hx; subst hu hx; exact Sl.nil
    | 3, hu, hx => simp at hu hx; subst hu hx; exact Sl.nil
    | i + 4, hu, _ => simp at hu⟩
/-- an answer whose files lie from block B on -/
def ApP (B : Nat) (R : Int) (F : List Fi) (E : Int) (w : World) (e : Ending) (w' : World) : Prop :=
  ∃ A c, e = .returned (.tuple #[.agg #[.int .i64 R, .slice A F.length c], .int .i64 E]) ∧ Sl fiE (Hi w.heap.size) w' (.slice A F.length c) F ∧ (c ≤ 9223372036854775807 ∧ B ≤ w.heap.size) ∧ Below w.heap.size w w'
theorem AnsS.p {B : Nat} {R : Int} {F : List Fi} {E : Int} {w w' : World} {e : Ending} (h : AnsS R F E w e w') (hB : B ≤ w.heap.size) : ApP B R F E w e w' := by
  obtain ⟨v', he, hs, hb⟩ := h
  obtain ⟨A, c, rfl, _, h2, _⟩ := hs.shape
  exact ⟨A, c, he, hs, ⟨h2, hB⟩, hb⟩
/-- two cells of one box and four of another are written -/
def six (w : World) (D S : Nat) (a b c d e f : Value) : World :=
  (((((w.setCell ⟨D, 0, none⟩ a).setCell ⟨D, 1, none⟩ b).setCell ⟨S, 0, none⟩ c).setCell ⟨S, 1, none⟩ d).setCell ⟨S, 2, none⟩ e).setCell ⟨S, 3, none⟩ f
theorem six_other (w : World) (D S : Nat) (a b c d e f : Value) (g : Nat) (h1 : g ≠ D) (h2 : g ≠ S) : (six w D S a b c d e f).heap[g]? = w.heap[g]? := by
  unfold six
  rw [heap_setCell_other _ ⟨S, 3, none⟩ g f h2, heap_setCell_other _ ⟨S, 2, none⟩ g e h2, heap_setCell_other _ ⟨S, 1, none⟩ g d h2, heap_setCell_other _ ⟨S, 0, none⟩ g c h2, heap_setCell_other _ ⟨D, 1, none⟩ g b h1, heap_setCell_other _ ⟨D, 0, none⟩ g a h1]
theorem six_D {w : World} {D S : Nat} (a b c d e f : Value) {z0 z1 : Value} {T : TypeId} (h : D ≠ S) (q : w.heap[D]? = some (.cells #[z0, z1] T (0, 0))) : (six w D S a b c d e f).heap[D]? = some (.cells #[a, b] T (0, 0)) := by
  unfold six
  rw [heap_setCell_other _ ⟨S, 3, none⟩ D f h, heap_setCell_other _ ⟨S, 2, none⟩ D e h, heap_setCell_other _ ⟨S, 1, none⟩ D d h, heap_setCell_other _ ⟨S, 0, none⟩ D c h]
  exact set2 q
theorem six_S {w : World} {D S : Nat} (a b c d e f : Value) {z0 z1 z2 z3 : Value} {T : TypeId} (h : S ≠ D) (q : w.heap[S]? = some (.cells #[z0, z1, z2, z3] T (0, 0))) : (six w D S a b c d e f).heap[S]? = some (.cells #[c, d, e, f] T (0, 0)) := by
  unfold six
  refine set4 (w := (w.setCell ⟨D, 0, none⟩ a).setCell ⟨D, 1, none⟩ b) (z0 := z0) (z1 := z1) (z2 := z2) (z3 := z3) ?_
  rw [heap_setCell_other _ ⟨D, 1, none⟩ S b h, heap_setCell_other _ ⟨D, 0, none⟩ S a h]
  exact q
theorem six_below {B : Nat} {v w : World} {D S : Nat} (a b c d e f : Value) (h : Below B v w) (h1 : B ≤ D) (h2 : B ≤ S) : Below B v (six w D S a b c d e f) := by
  unfold six
  exact bset (bset (bset (bset (bset (bset h h1) h1) h2) h2) h2) h2
theorem six_size (w : World) (D S : Nat) (a b c d e f : Value) : (six w D S a b c d e f).heap.size = w.heap.size := by
  simp [six]
theorem Inv.short {l : List Fi} {su al : List (List UInt8)} (h : Inv l su al) {k : Nat} (hk : k < 4) {x : List UInt8} (hx : al[k]? = some x) : x.length ≤ 4096 := by
  rcases h.lo k hk with ⟨_, b, _⟩ | ⟨f, s, a, b, _⟩
  · rw [hx] at b; injection b with b; subst b; simp
  · rw [hx] at b; injection b with b; subst b
    have h1 := sizeD_mem (look_num a).2
    have h2 := (formedD_size h.fd).1
    omega
/-- a world is known by what holds of it alone -/
theorem gen_w {f : World → Prop} {w : World} (C : World → Prop) (h : C w) (k : ∀ W, C W → f W) : f w := k w h
theorem deed_file (n : Int) : ∃ kk : Nat, kk < 4 ∧ wrap64 ((IntKind.u64.wrap n).tmod 4) = (kk : Int) := by
  have h0 : 0 ≤ IntKind.u64.wrap n := by
    simp only [IntKind.wrap]
    simp [IntKind.signed, IntKind.bits]
    omega
  obtain ⟨m, hm⟩ : ∃ m : Nat, IntKind.u64.wrap n = (m : Int) := ⟨(IntKind.u64.wrap n).toNat, by omega⟩
  rw [hm]
  refine ⟨m % 4, by omega, ?_⟩
  have h1 : ((m : Int).tmod 4) = ((m % 4 : Nat) : Int) := by rw [Int.tmod_eq_emod_of_nonneg (by omega)]; rfl
  rw [h1]
  unfold wrap64
  omega
end Go.Proofs.Ytnblnlbchcepjaa
