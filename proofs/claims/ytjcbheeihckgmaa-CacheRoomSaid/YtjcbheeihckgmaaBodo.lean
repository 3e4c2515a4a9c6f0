/- CachePuts, walked. -/
import Derived.Test.YtjcbheeihckgmaaBodn
namespace Go.Proofs.Ytjcbheeihckgmaa
open Go.RowKit

theorem Sl.st4 {α : Type} {E : Enc α} {lo hi : Nat} {w : World} {v : Value} {l : List α} {m : Nat} {u0 u1 u2 u3 : Value} (h : Sl E (fun b _ => lo ≤ b ∧ b < hi) w v l) (hm : m < lo ∨ hi ≤ m) :
    Sl E (fun b _ => lo ≤ b ∧ b < hi) ((((w.setCell ⟨m, 0, none⟩ u0).setCell ⟨m, 1, none⟩ u1).setCell ⟨m, 2, none⟩ u2).setCell ⟨m, 3, none⟩ u3) v l :=
  h.keep (fun b _ hs _ => by
    have hne : b ≠ m := by omega
    rw [heap_setCell_other _ _ _ _ hne, heap_setCell_other _ _ _ _ hne, heap_setCell_other _ _ _ _ hne, heap_setCell_other _ _ _ _ hne])

/-- bytes that read, whatever they are -/
def RdU (S : Foot) (w : World) (A : Option Addr) (n : Nat) : Prop := ∀ k, k < n → ∃ b off, A = some ⟨b, off, none⟩ ∧ ∃ y : UInt8, At S w b (off + k) (.int .u8 (y.toNat : Int))
theorem RdU.of {S : Foot} {w : World} {A : Option Addr} {n c : Nat} {l : List UInt8} (h : Sl u8E S w (.slice A n c) l) : RdU S w A n := by
  intro k hk
  have hn := h.cells.1
  subst hn
  obtain ⟨b, off, e, hat⟩ := h.byte hk
  exact ⟨b, off, e, _, hat⟩
theorem RdU.store {S : Foot} {w : World} {A : Option Addr} {n : Nat} (h : RdU S w A n) {S' : Foot} {b o : Nat} {u : Value} (h0 : At S' w b o u) (hS : ∀ b fr, S' b fr → fr = (0, 0)) (y : UInt8) :
    RdU S (w.setCell ⟨b, o, none⟩ (.int .u8 (y.toNat : Int))) A n := by
  intro k hk
  obtain ⟨b', off, e, z, c, t, fr, hb, hc, hs⟩ := h k hk
  obtain ⟨c0, t0, fr0, hb0, hc0, hs0⟩ := h0
  have := hS _ _ hs0
  subst this
  by_cases hbb : b' = b
  · subst hbb
    rw [hb] at hb0
    injection hb0 with hb0
    injection hb0 with e1 e2 e3
    subst e1 e2 e3
    have hrow := heap_setCell_same w b' o c t (.int .u8 (y.toNat : Int)) hb
    by_cases ho : o = off + k
    · subst ho
      refine ⟨b', off, e, y, _, t, _, hrow, ?_, hs⟩
      rw [Array.getElem?_setIfInBounds, if_pos rfl, if_pos (Array.getElem?_eq_some_iff.1 hc).1]
    · refine ⟨b', off, e, z, _, t, _, hrow, ?_, hs⟩
      rw [Array.getElem?_setIfInBounds, if_neg ho]
      exact hc
  · exact ⟨b', off, e, z, c, t, fr, (heap_setCell_other w ⟨b, o, none⟩ b' _ hbb).trans hb, hc, hs⟩
/-- bodies that read, whatever their bytes are -/
def RdB (B : Nat) (A : Option Addr) (w : World) (n : Nat) : Prop := ∀ i, i < n → ∃ g Av nv cv, A = some ⟨g, 0, none⟩ ∧ w.cell? ⟨g, i * 4 + 3, none⟩ = some (.slice Av nv cv) ∧ nv ≤ cv ∧ cv ≤ maxLen ∧ RdU (HiN B (some g)) w Av nv
theorem RdB.of {B : Nat} {w : World} {t : TypeId} {A : Option Addr} {c : Nat} {l : List Bd} (h : Own bdE (HiN B (Value.slice A l.length c).ownBlock) w B t (.slice A l.length c) l) : RdB B A w l.length := by
  intro i hi
  obtain ⟨xs, ho, hr⟩ := h
  obtain ⟨g, cap, e, _⟩ := ho.form (by omega)
  injection e with e1 e2 e3
  subst e1 e3
  obtain ⟨cs, ⟨u, hu, hs⟩, hl, hcs⟩ := hr.at_ (List.getElem?_eq_getElem hi)
  subst hu
  have hx : xs[i * 4 + 3]? = some u := hcs 3 _ rfl
  obtain ⟨Av, cv, rfl, h1, h2, _⟩ := hs.shape
  refine ⟨g, Av, _, cv, rfl, ?_, h1, h2, RdU.of hs⟩
  rw [ho.cellAt (i * 4 + 3) (by show i * 4 + 3 < l.length * 4; omega)]
  exact hx
theorem cell_far {w : World} {p q : Addr} {u : Value} (h : q.block ≠ p.block) : (w.setCell p u).cell? q = w.cell? q := by
  unfold World.cell?
  rw [heap_setCell_other w p q.block u h]
theorem RdB.store {B : Nat} {A : Option Addr} {w : World} {n g b o : Nat} {u : Value} (h : RdB B A w n) (hg : A = some ⟨g, 0, none⟩) (h0 : At (HiN B (some g)) w b o u) (y : UInt8) : RdB B A (w.setCell ⟨b, o, none⟩ (.int .u8 (y.toNat : Int))) n := by
  intro i hi
  obtain ⟨g', Av, nv, cv, e, hc, h1, h2, hr⟩ := h i hi
  rw [hg] at e
  injection e with e
  injection e with e
  subst e
  have hne : g ≠ b := by
    obtain ⟨_, _, _, _, _, hs⟩ := h0
    exact fun e => hs.2.2 (by rw [e])
  exact ⟨g, Av, nv, cv, hg, (cell_far hne).trans hc, h1, h2, hr.store h0 (fun _ _ h => h.2.1) y⟩

attribute [local go_sem] u8_flip
set_option maxHeartbeats 8000000 in
theorem cacheputs_c {S : Foot} {v : Value} {l : List Bd} {room : Int} {x : Bd} {Ax : Option Addr} {cx : Nat} {w : World} (hp : Sl bdE S w v l) (hx : Sl u8E S w (.slice Ax x.v.length cx) x.v) (hl : l.length ≤ 4611686018427387904) (hv : ∀ b ∈ l, b.v.length ≤ 4611686018427387904) (hxv : x.v.length ≤ 140737488355328) :
    Calls Try.prog 4 #[v, .int .i64 room, .agg #[.int .i64 x.o, .int .i64 x.c, .int .i64 x.n, .slice Ax x.v.length cx]] w fun e w' => e = .returned (.bool true) ∧ Below w.heap.size w w' := by
  have hp := hp.any
  have hx := hx.any
  obtain ⟨A, cap, rfl, hc1, hc2, _⟩ := hp.shape
  unfold maxLen at hc2
  have hbA : Below w.heap.size w (w.alloc (.cells #[.int .i64 x.o, .int .i64 x.c, .int .i64 x.n, .slice Ax x.v.length cx] 38)) := (Below.refl _ _).alloc (Nat.le_refl _) _
  go_enter Try.func4, Try.ntmps4
  go_wp2_with fail
  refine (alive_c (w := _)).mono ?_
  rintro e w1 ⟨rfl, b1⟩
  have hb1 := hbA.trans (b1.mono (by simp))
  have hp1 := hp.below hb1 (Nat.le_refl _)
  have hx1 := hx.below hb1 (Nat.le_refl _)
  have y0 := box_cell (cs := [.int .i64 x.o, .int .i64 x.c, .int .i64 x.n, .slice Ax x.v.length cx]) b1 (by simp) 0 _ rfl
  have y1 := box_cell (cs := [.int .i64 x.o, .int .i64 x.c, .int .i64 x.n, .slice Ax x.v.length cx]) b1 (by simp) 1 _ rfl
  have y2 := box_cell (cs := [.int .i64 x.o, .int .i64 x.c, .int .i64 x.n, .slice Ax x.v.length cx]) b1 (by simp) 2 _ rfl
  have y3 := box_cell (cs := [.int .i64 x.o, .int .i64 x.c, .int .i64 x.n, .slice Ax x.v.length cx]) b1 (by simp) 3 _ rfl
  have hyl : w.heap.size < w1.heap.size := by have := b1.size; simp at this; omega
  have n1 : w.heap.size ≠ w1.heap.size := by omega
  have n1' : w1.heap.size ≠ w.heap.size := by omega
  have HG := Lib.hid (great_c hp1 hl hv)
  by_cases hg : 1048576 ≤ l.length + used l
  · rw [decide_eq_true hg] at HG
    clear hg
    go_wp2_with fail
    refine HG.out.mono ?_
    rintro e w2 ⟨rfl, rfl⟩
    go_wp2
    go_ret
    exact ⟨rfl, hb1⟩
  rw [decide_eq_false hg] at HG
  have hlu : l.length ≤ 1048576 ∧ used l ≤ 1048576 := by omega
  clear hg
  go_wp2_with fail
  refine HG.out.mono ?_
  rintro e w2 ⟨rfl, rfl⟩
  go_wp2_with fail
  go_region_held3 (fun w' => w'.cell? ⟨w.heap.size, 0, none⟩ = some (.int .i64 x.o) ∧ w'.cell? ⟨w.heap.size, 1, none⟩ = some (.int .i64 x.c) ∧ w'.cell? ⟨w.heap.size, 2, none⟩ = some (.int .i64 x.n) ∧ w'.cell? ⟨w.heap.size, 3, none⟩ = some (.slice Ax x.v.length cx))
    (first | go_keep | (refine ⟨?_, ?_, ?_, ?_⟩ <;> (first | assumption | go_keep)))
    (first
      | (go_at_call 9; refine (rcopy_c (hp1.below (B := w1.heap.size) ((Below.refl w1.heap.size w1).drew) (Nat.le_refl _)) hlu.1 hlu.2).mono ?_; rintro e wC ⟨vo, rfl, oo, bC⟩; have bC := bundrew bC; have sC : w1.heap.size ≤ wC.heap.size := (by have h := bC.size; first | exact h | (simp only [World.size_alloc] at h; exact h)); have nC : w.heap.size ≠ wC.heap.size := (by omega); have nC' : wC.heap.size ≠ w.heap.size := (by omega); have ck0 := ((show Below w1.heap.size w1 wC from bC).cell (p := ⟨w.heap.size, 0, none⟩) hyl).trans y0; have ck1 := ((show Below w1.heap.size w1 wC from bC).cell (p := ⟨w.heap.size, 1, none⟩) hyl).trans y1; have ck2 := ((show Below w1.heap.size w1 wC from bC).cell (p := ⟨w.heap.size, 2, none⟩) hyl).trans y2; have ck3 := ((show Below w1.heap.size w1 wC from bC).cell (p := ⟨w.heap.size, 3, none⟩) hyl).trans y3)
      | (go_at_call 18; refine (rbody_c (b := x) (hx1.below (B := w1.heap.size) (show Below w1.heap.size w1 wC from bC) (Nat.le_refl _)) hxv).mono ?_; rintro e wB ⟨A4, c4, rfl, o4, bB⟩; have sB : wC.heap.size ≤ wB.heap.size := (by have h := bB.size; first | exact h | (simp only [World.size_alloc] at h; exact h)); have nB : w.heap.size ≠ wB.heap.size := (by omega); have nB' : wB.heap.size ≠ w.heap.size := (by omega); have bk0 := (((show Below w1.heap.size w1 wC from bC).trans (bB.mono (show Below w1.heap.size w1 wC from bC).size)).cell (p := ⟨w.heap.size, 0, none⟩) hyl).trans y0; have bk1 := (((show Below w1.heap.size w1 wC from bC).trans (bB.mono (show Below w1.heap.size w1 wC from bC).size)).cell (p := ⟨w.heap.size, 1, none⟩) hyl).trans y1; have bk2 := (((show Below w1.heap.size w1 wC from bC).trans (bB.mono (show Below w1.heap.size w1 wC from bC).size)).cell (p := ⟨w.heap.size, 2, none⟩) hyl).trans y2; have bk3 := (((show Below w1.heap.size w1 wC from bC).trans (bB.mono (show Below w1.heap.size w1 wC from bC).size)).cell (p := ⟨w.heap.size, 3, none⟩) hyl).trans y3)
      | (go_at_call 9; refine (rcopy_c (hp1.below (B := w1.heap.size) (((Below.refl w1.heap.size w1).drew).alloc ((Below.refl w1.heap.size w1).drew).size _) (Nat.le_refl _)) hlu.1 hlu.2).mono ?_; rintro e wC ⟨vo, rfl, oo, bC⟩; have sC : w1.heap.size + 1 ≤ wC.heap.size := (by have h := bC.size; first | exact h | (simp only [World.size_alloc] at h; exact h)); have nC : w.heap.size ≠ wC.heap.size := (by omega); have nC' : wC.heap.size ≠ w.heap.size := (by omega); have ck0 := (((((Below.refl w1.heap.size w1).drew).alloc ((Below.refl w1.heap.size w1).drew).size _).trans (bC.mono (((Below.refl w1.heap.size w1).drew).alloc ((Below.refl w1.heap.size w1).drew).size _).size)).cell (p := ⟨w.heap.size, 0, none⟩) hyl).trans y0; have ck1 := (((((Below.refl w1.heap.size w1).drew).alloc ((Below.refl w1.heap.size w1).drew).size _).trans (bC.mono (((Below.refl w1.heap.size w1).drew).alloc ((Below.refl w1.heap.size w1).drew).size _).size)).cell (p := ⟨w.heap.size, 1, none⟩) hyl).trans y1; have ck2 := (((((Below.refl w1.heap.size w1).drew).alloc ((Below.refl w1.heap.size w1).drew).size _).trans (bC.mono (((Below.refl w1.heap.size w1).drew).alloc ((Below.refl w1.heap.size w1).drew).size _).size)).cell (p := ⟨w.heap.size, 2, none⟩) hyl).trans y2; have ck3 := (((((Below.refl w1.heap.size w1).drew).alloc ((Below.refl w1.heap.size w1).drew).size _).trans (bC.mono (((Below.refl w1.heap.size w1).drew).alloc ((Below.refl w1.heap.size w1).drew).size _).size)).cell (p := ⟨w.heap.size, 3, none⟩) hyl).trans y3; have rrC : wC.heap[w1.heap.size]? = some (.cells #[.int .i64 0, .int .i64 0, .int .i64 0, .slice none 0 0] 38) := ((bC.block _ (by go_size)).trans (heap_alloc_new w1.drew (.cells #[.int .i64 0, .int .i64 0, .int .i64 0, .slice none 0 0] 38))); have zcC0 : wC.cell? ⟨w1.heap.size, 0, none⟩ = some (.int .i64 0) := cell_of_row _ _ 0 _ _ _ rrC; have zfC0 : wC.frozen? ⟨w1.heap.size, 0, none⟩ = false := frozen_of_row _ _ 0 _ _ rrC; have zcC1 : wC.cell? ⟨w1.heap.size, 1, none⟩ = some (.int .i64 0) := cell_of_row _ _ 1 _ _ _ rrC; have zfC1 : wC.frozen? ⟨w1.heap.size, 1, none⟩ = false := frozen_of_row _ _ 1 _ _ rrC; have zcC2 : wC.cell? ⟨w1.heap.size, 2, none⟩ = some (.int .i64 0) := cell_of_row _ _ 2 _ _ _ rrC; have zfC2 : wC.frozen? ⟨w1.heap.size, 2, none⟩ = false := frozen_of_row _ _ 2 _ _ rrC; have zcC3 : wC.cell? ⟨w1.heap.size, 3, none⟩ = some (.slice none 0 0) := cell_of_row _ _ 3 _ _ _ rrC; have zfC3 : wC.frozen? ⟨w1.heap.size, 3, none⟩ = false := frozen_of_row _ _ 3 _ _ rrC)
      | (go_at_call 18; refine (rbody_c (b := x) (hx1.below (B := w1.heap.size) ((show Below w1.heap.size w1 wC from bC).alloc (show Below w1.heap.size w1 wC from bC).size _) (Nat.le_refl _)) hxv).mono ?_; rintro e wB ⟨A4, c4, rfl, o4, bB⟩; have sB : wC.heap.size + 1 ≤ wB.heap.size := (by have h := bB.size; first | exact h | (simp only [World.size_alloc] at h; exact h)); have nB : w.heap.size ≠ wB.heap.size := (by omega); have nB' : wB.heap.size ≠ w.heap.size := (by omega); have bk0 := ((((show Below w1.heap.size w1 wC from bC).alloc (show Below w1.heap.size w1 wC from bC).size _).trans (bB.mono ((show Below w1.heap.size w1 wC from bC).alloc (show Below w1.heap.size w1 wC from bC).size _).size)).cell (p := ⟨w.heap.size, 0, none⟩) hyl).trans y0; have bk1 := ((((show Below w1.heap.size w1 wC from bC).alloc (show Below w1.heap.size w1 wC from bC).size _).trans (bB.mono ((show Below w1.heap.size w1 wC from bC).alloc (show Below w1.heap.size w1 wC from bC).size _).size)).cell (p := ⟨w.heap.size, 1, none⟩) hyl).trans y1; have bk2 := ((((show Below w1.heap.size w1 wC from bC).alloc (show Below w1.heap.size w1 wC from bC).size _).trans (bB.mono ((show Below w1.heap.size w1 wC from bC).alloc (show Below w1.heap.size w1 wC from bC).size _).size)).cell (p := ⟨w.heap.size, 2, none⟩) hyl).trans y2; have bk3 := ((((show Below w1.heap.size w1 wC from bC).alloc (show Below w1.heap.size w1 wC from bC).size _).trans (bB.mono ((show Below w1.heap.size w1 wC from bC).alloc (show Below w1.heap.size w1 wC from bC).size _).size)).cell (p := ⟨w.heap.size, 3, none⟩) hyl).trans y3; have rrB : wB.heap[wC.heap.size]? = some (.cells #[.int .i64 0, .int .i64 0, .int .i64 0, .slice none 0 0] 38) := ((bB.block _ (by go_size)).trans (heap_alloc_new wC (.cells #[.int .i64 0, .int .i64 0, .int .i64 0, .slice none 0 0] 38))); have zcB0 : wB.cell? ⟨wC.heap.size, 0, none⟩ = some (.int .i64 0) := cell_of_row _ _ 0 _ _ _ rrB; have zfB0 : wB.frozen? ⟨wC.heap.size, 0, none⟩ = false := frozen_of_row _ _ 0 _ _ rrB; have zcB1 : wB.cell? ⟨wC.heap.size, 1, none⟩ = some (.int .i64 0) := cell_of_row _ _ 1 _ _ _ rrB; have zfB1 : wB.frozen? ⟨wC.heap.size, 1, none⟩ = false := frozen_of_row _ _ 1 _ _ rrB; have zcB2 : wB.cell? ⟨wC.heap.size, 2, none⟩ = some (.int .i64 0) := cell_of_row _ _ 2 _ _ _ rrB; have zfB2 : wB.frozen? ⟨wC.heap.size, 2, none⟩ = false := frozen_of_row _ _ 2 _ _ rrB; have zcB3 : wB.cell? ⟨wC.heap.size, 3, none⟩ = some (.slice none 0 0) := cell_of_row _ _ 3 _ _ _ rrB; have zfB3 : wB.frozen? ⟨wC.heap.size, 3, none⟩ = false := frozen_of_row _ _ 3 _ _ rrB)
      | (go_at_call 18; refine (rbody_c (b := x) (hx1.below (B := w1.heap.size) ((((Below.refl w1.heap.size w1).drew).alloc ((Below.refl w1.heap.size w1).drew).size _).trans (bC.mono (((Below.refl w1.heap.size w1).drew).alloc ((Below.refl w1.heap.size w1).drew).size _).size)) (Nat.le_refl _)) hxv).mono ?_; rintro e wB ⟨A4, c4, rfl, o4, bB⟩; have sB : wC.heap.size ≤ wB.heap.size := (by have h := bB.size; first | exact h | (simp only [World.size_alloc] at h; exact h)); have nB : w.heap.size ≠ wB.heap.size := (by omega); have nB' : wB.heap.size ≠ w.heap.size := (by omega); have bk0 := ((((((Below.refl w1.heap.size w1).drew).alloc ((Below.refl w1.heap.size w1).drew).size _).trans (bC.mono (((Below.refl w1.heap.size w1).drew).alloc ((Below.refl w1.heap.size w1).drew).size _).size)).trans (bB.mono ((((Below.refl w1.heap.size w1).drew).alloc ((Below.refl w1.heap.size w1).drew).size _).trans (bC.mono (((Below.refl w1.heap.size w1).drew).alloc ((Below.refl w1.heap.size w1).drew).size _).size)).size)).cell (p := ⟨w.heap.size, 0, none⟩) hyl).trans y0; have bk1 := ((((((Below.refl w1.heap.size w1).drew).alloc ((Below.refl w1.heap.size w1).drew).size _).trans (bC.mono (((Below.refl w1.heap.size w1).drew).alloc ((Below.refl w1.heap.size w1).drew).size _).size)).trans (bB.mono ((((Below.refl w1.heap.size w1).drew).alloc ((Below.refl w1.heap.size w1).drew).size _).trans (bC.mono (((Below.refl w1.heap.size w1).drew).alloc ((Below.refl w1.heap.size w1).drew).size _).size)).size)).cell (p := ⟨w.heap.size, 1, none⟩) hyl).trans y1; have bk2 := ((((((Below.refl w1.heap.size w1).drew).alloc ((Below.refl w1.heap.size w1).drew).size _).trans (bC.mono (((Below.refl w1.heap.size w1).drew).alloc ((Below.refl w1.heap.size w1).drew).size _).size)).trans (bB.mono ((((Below.refl w1.heap.size w1).drew).alloc ((Below.refl w1.heap.size w1).drew).size _).trans (bC.mono (((Below.refl w1.heap.size w1).drew).alloc ((Below.refl w1.heap.size w1).drew).size _).size)).size)).cell (p := ⟨w.heap.size, 2, none⟩) hyl).trans y2; have bk3 := ((((((Below.refl w1.heap.size w1).drew).alloc ((Below.refl w1.heap.size w1).drew).size _).trans (bC.mono (((Below.refl w1.heap.size w1).drew).alloc ((Below.refl w1.heap.size w1).drew).size _).size)).trans (bB.mono ((((Below.refl w1.heap.size w1).drew).alloc ((Below.refl w1.heap.size w1).drew).size _).trans (bC.mono (((Below.refl w1.heap.size w1).drew).alloc ((Below.refl w1.heap.size w1).drew).size _).size)).size)).cell (p := ⟨w.heap.size, 3, none⟩) hyl).trans y3; have rrB : wB.heap[w1.heap.size]? = some (.cells #[.int .i64 0, .int .i64 0, .int .i64 0, .slice none 0 0] 38) := ((bB.block _ (by go_size)).trans ((bC.block _ (by go_size)).trans (heap_alloc_new w1.drew (.cells #[.int .i64 0, .int .i64 0, .int .i64 0, .slice none 0 0] 38)))); have zcB0 : wB.cell? ⟨w1.heap.size, 0, none⟩ = some (.int .i64 0) := cell_of_row _ _ 0 _ _ _ rrB; have zfB0 : wB.frozen? ⟨w1.heap.size, 0, none⟩ = false := frozen_of_row _ _ 0 _ _ rrB; have zcB1 : wB.cell? ⟨w1.heap.size, 1, none⟩ = some (.int .i64 0) := cell_of_row _ _ 1 _ _ _ rrB; have zfB1 : wB.frozen? ⟨w1.heap.size, 1, none⟩ = false := frozen_of_row _ _ 1 _ _ rrB; have zcB2 : wB.cell? ⟨w1.heap.size, 2, none⟩ = some (.int .i64 0) := cell_of_row _ _ 2 _ _ _ rrB; have zfB2 : wB.frozen? ⟨w1.heap.size, 2, none⟩ = false := frozen_of_row _ _ 2 _ _ rrB; have zcB3 : wB.cell? ⟨w1.heap.size, 3, none⟩ = some (.slice none 0 0) := cell_of_row _ _ 3 _ _ _ rrB; have zfB3 : wB.frozen? ⟨w1.heap.size, 3, none⟩ = false := frozen_of_row _ _ 3 _ _ rrB))
  · (have HO : Sl bdE _ (wB.alloc (.cells #[.int .i64 x.o, .int .i64 x.c, .int .i64 x.n, .slice A4 x.v.length c4] 38)) vo l := (((oo.slLoHi (B := w1.drew.heap.size) (fun b fr h _ => h.1) (Nat.le_refl _)).below bB (Nat.le_refl _)).below (B := wB.heap.size) ((Below.refl _ _).alloc (Nat.le_refl _) _) (Nat.le_refl _)); have HM : Sl u8E _ (wB.alloc (.cells #[.int .i64 x.o, .int .i64 x.c, .int .i64 x.n, .slice A4 x.v.length c4] 38)) (.slice A4 x.v.length c4) x.v := (((o4.u8 (S' := fun b _ => wC.heap.size ≤ b)).slLoHi (B := wC.heap.size) (fun b fr h _ => h) (Nat.le_refl _)).below (B := wB.heap.size) ((Below.refl _ _).alloc (Nat.le_refl _) _) (Nat.le_refl _)); have HB : Below w1.heap.size w1 (wB.alloc (.cells #[.int .i64 x.o, .int .i64 x.c, .int .i64 x.n, .slice A4 x.v.length c4] 38)) := (((show Below w1.heap.size w1 wC from bC).trans (bB.mono (show Below w1.heap.size w1 wC from bC).size)).alloc ((show Below w1.heap.size w1 wC from bC).trans (bB.mono (show Below w1.heap.size w1 wC from bC).size)).size _); have RM : (wB.alloc (.cells #[.int .i64 x.o, .int .i64 x.c, .int .i64 x.n, .slice A4 x.v.length c4] 38)).heap[wB.heap.size]? = some (.cells _ _ (0, 0)) := (heap_alloc_new wB (.cells #[.int .i64 x.o, .int .i64 x.c, .int .i64 x.n, .slice A4 x.v.length c4] 38)); have HMC := fun (w' : World) (hb : Below (wB.alloc (.cells #[.int .i64 x.o, .int .i64 x.c, .int .i64 x.n, .slice A4 x.v.length c4] 38)).heap.size (wB.alloc (.cells #[.int .i64 x.o, .int .i64 x.c, .int .i64 x.n, .slice A4 x.v.length c4] 38)) w') => (⟨(hb.cell (p := ⟨wB.heap.size, 0, none⟩) (by go_size)).trans (cell_of_row _ _ 0 _ _ _ RM), (hb.cell (p := ⟨wB.heap.size, 1, none⟩) (by go_size)).trans (cell_of_row _ _ 1 _ _ _ RM), (hb.cell (p := ⟨wB.heap.size, 2, none⟩) (by go_size)).trans (cell_of_row _ _ 2 _ _ _ RM), (hb.cell (p := ⟨wB.heap.size, 3, none⟩) (by go_size)).trans (cell_of_row _ _ 3 _ _ _ RM)⟩ : w'.cell? ⟨wB.heap.size, 0, none⟩ = some (.int .i64 x.o) ∧ w'.cell? ⟨wB.heap.size, 1, none⟩ = some (.int .i64 x.c) ∧ w'.cell? ⟨wB.heap.size, 2, none⟩ = some (.int .i64 x.n) ∧ w'.cell? ⟨wB.heap.size, 3, none⟩ = some (.slice A4 x.v.length c4)); obtain ⟨B, hB⟩ : ∃ B : Nat, B = (wB.alloc (.cells #[.int .i64 x.o, .int .i64 x.c, .int .i64 x.n, .slice A4 x.v.length c4] 38)).heap.size := ⟨_, rfl⟩)
    have hbw := hb1.trans (HB.mono hb1.size)
    go_wp2_with fail
    refine (put_c (x := x) HO.any HM.any hlu.1 hlu.2).mono ?_
    rintro e w10 ⟨vp, rfl, op, b10⟩
    have ho10 := HO.any.below b10 (Nat.le_refl _)
    have hm10 := HM.any.below b10 (Nat.le_refl _)
    have hb10 : Below w1.heap.size w1 w10 := HB.trans (b10.mono HB.size)
    have k0 := (hb10.cell (p := ⟨w.heap.size, 0, none⟩) hyl).trans y0
    have k1 := (hb10.cell (p := ⟨w.heap.size, 1, none⟩) hyl).trans y1
    have k2 := (hb10.cell (p := ⟨w.heap.size, 2, none⟩) hyl).trans y2
    have k3 := (hb10.cell (p := ⟨w.heap.size, 3, none⟩) hyl).trans y3
    have HR := Lib.hid (rput_c (room := room) (x := x) (hp1.below hb10 (Nat.le_refl _)) (hx1.below hb10 (Nat.le_refl _)) hlu.1 hlu.2)
    have hBw : w1.heap.size ≤ B := by rw [hB]; exact HB.size
    have hoL := HO.lo
    have hmL := HM.lo
    have hB10 : B ≤ w10.heap.size := by rw [hB]; exact b10.size
    rw [← hB] at op b10 HMC hoL hmL
    clear HO HM RM
    go_wp2_with fail
    refine HR.out.mono ?_
    rintro e w11 ⟨vq, rfl, oq, b11⟩
    have op11 := op.below b11 (Nat.le_refl _)
    have HS := Lib.hid (samebds_c op11.slAny oq.any)
    rw [beq_self_eq_true] at HS
    have ho11 := ho10.below b11 (Nat.le_refl _)
    have hb11 := bstep hb10 b11
    clear HR oq op
    generalize pute l room x = pe at *
    generalize put l room x = pl at *
    go_wp2_with (first
      | (go_at_call 15; refine HS.out.mono ?_; rintro e w12 ⟨rfl, b12⟩; have HF := Lib.hid (formed_c (room := room) (ho11.below b12 (Nat.le_refl _)) hlu.2))
      | (go_at_call 21; refine HF.out.mono ?_; rintro e w13 ⟨rfl, b13⟩; have HRF := Lib.hid (rformed_c (room := room) (hp1.below (bstep (bstep hb11 b12) b13) (Nat.le_refl _)) hlu.2))
      | (go_at_call 22; refine HRF.out.mono ?_; rintro e w14 ⟨rfl, b14⟩))
    have op14 := ((op11.below b12 (Nat.le_refl _)).below b13 (Nat.le_refl _)).below b14 (Nat.le_refl _)
    obtain ⟨A9, c9, rfl, hd1, hd2, _⟩ := op14.slAny.shape
    unfold maxLen at hd2
    have HRB := RdB.of op14
    generalize pl.length = n9 at *
    have b1014 : Below w10.heap.size w10 w14 := bstep (bstep (bstep b11 b12) b13) b14
    clear HS HF HRF op11 op14
    go_loopw [14] (fun i wr => ∃ q : Nat, q ≤ n9 ∧ i = .int .i64 q ∧ RdB B A9 wr n9 ∧ Below B w14 wr) (fun i _ => n9 - (intOf i).toNat)
    case atStart => exact ⟨0, Nat.zero_le _, rfl, HRB, Below.refl _ _⟩
    case round =>
      obtain ⟨q, hq, rfl, hrb, hbel⟩ := hrel
      by_cases hlt : q < n9
      · obtain ⟨g, Av, nv, cv, rfl, hc, hnv, hcv, hru⟩ := hrb q hlt
        unfold maxLen at hcv
        go_wp2
        go_loopw [15] (fun k wr2 => ∃ j : Nat, j ≤ nv ∧ k = .int .i64 j ∧ wr2.cell? ⟨g, q * 4 + 3, none⟩ = some (.slice Av nv cv) ∧ RdU (HiN B (some g)) wr2 Av nv ∧ RdB B (some ⟨g, 0, none⟩) wr2 n9 ∧ Below B w14 wr2) (fun k _ => nv - (intOf k).toNat)
        case atStart => exact ⟨0, Nat.zero_le _, rfl, hc, hru, hrb, hbel⟩
        case round =>
          obtain ⟨j, hj, rfl, hc2, hru2, hrb2, hbel2⟩ := hrel
          by_cases hlt2 : j < nv
          · obtain ⟨b, off, rfl, y, hat⟩ := hru2 j hlt2
            have hcell := hat.cell
            have hfr := hat.frozen (fun b fr h => h.2.1)
            have hst := hrb2.store rfl hat (xr y 255)
            have hsu := hru2.store hat (fun _ _ h => h.2.1) (xr y 255)
            have hge : B ≤ b := by obtain ⟨_, _, _, _, _, h⟩ := hat; exact h.1
            have hne : g ≠ b := by obtain ⟨_, _, _, _, _, h⟩ := hat; exact fun e => h.2.2 (by rw [e])
            have hcc := (cell_far (p := ⟨b, off + j, none⟩) (q := ⟨g, q * 4 + 3, none⟩) (u := .int .u8 ((xr y 255).toNat : Int)) hne).trans hc2
            clear hat
            go_wp2
            go_roundw
            case rel => exact ⟨j + 1, by omega, by go_num, hcc, hsu, hst, hbel2.setCell hge _⟩
            case measure => simp [intOf]; omega
          · go_wp2
            go_roundw
            case rel => exact ⟨q + 1, by omega, by go_num, hrb2, hbel2⟩
            case measure => simp [intOf]; omega
      · have bfin := (b10.trans (b1014.mono hB10)).trans hbel
        have hBr : B ≤ wr.heap.size := Nat.le_trans hB10 (Nat.le_trans b1014.size hbel.size)
        have b1r := HB.trans (bfin.mono hBw)
        have HSL := Lib.hid (samebds_c (hoL.lob bfin) (hp1.below b1r (Nat.le_refl _)))
        rw [beq_self_eq_true] at HSL
        go_wp2_with (first
          | (go_at_call 15; refine HSL.out.mono ?_; rintro e w15 ⟨rfl, b15⟩; have bfin2 := bfin.trans (b15.mono hBr); obtain ⟨m0, m1, m2, m3⟩ := HMC _ bfin2; have b1f := HB.trans (bfin2.mono hBw); have x0 := (b1f.cell (p := ⟨w.heap.size, 0, none⟩) hyl).trans y0; have x1 := (b1f.cell (p := ⟨w.heap.size, 1, none⟩) hyl).trans y1; have x2 := (b1f.cell (p := ⟨w.heap.size, 2, none⟩) hyl).trans y2; have x3 := (b1f.cell (p := ⟨w.heap.size, 3, none⟩) hyl).trans y3; have HSB := Lib.hid (samebd_c (a := x) (b := x) (hmL.lob bfin2).any (hx1.below b1f (Nat.le_refl _)).any))
          | (go_at_call 23; refine HSB.out.mono ?_; rintro e w16 ⟨rfl, b16⟩))
        go_ret
        rw [sameBd_dec, decide_eq_true rfl]
        exact ⟨rfl, bstep (hb1.trans (b1f.mono hb1.size)) b16⟩

  · (have HO : Sl bdE _ ((((wB.setCell ⟨wC.heap.size, 0, none⟩ (.int .i64 x.o)).setCell ⟨wC.heap.size, 1, none⟩ (.int .i64 x.c)).setCell ⟨wC.heap.size, 2, none⟩ (.int .i64 x.n)).setCell ⟨wC.heap.size, 3, none⟩ (.slice A4 x.v.length c4)) vo l := (Sl.st4 (m := wC.heap.size) (((oo.slLoHi (B := w1.drew.heap.size) (fun b fr h _ => h.1) (Nat.le_refl _)).below (B := wC.heap.size) ((Below.refl _ _).alloc (Nat.le_refl _) _) (Nat.le_refl _)).below bB (Nat.le_refl _)) (by go_size)); have HM : Sl u8E _ ((((wB.setCell ⟨wC.heap.size, 0, none⟩ (.int .i64 x.o)).setCell ⟨wC.heap.size, 1, none⟩ (.int .i64 x.c)).setCell ⟨wC.heap.size, 2, none⟩ (.int .i64 x.n)).setCell ⟨wC.heap.size, 3, none⟩ (.slice A4 x.v.length c4)) (.slice A4 x.v.length c4) x.v := (Sl.st4 (m := wC.heap.size) ((o4.u8 (S' := fun b _ => (wC.alloc (.cells #[.int .i64 0, .int .i64 0, .int .i64 0, .slice none 0 0] 38)).heap.size ≤ b)).slLoHi (B := (wC.alloc (.cells #[.int .i64 0, .int .i64 0, .int .i64 0, .slice none 0 0] 38)).heap.size) (fun b fr h _ => h) (Nat.le_refl _)) (by go_size)); have HB : Below w1.heap.size w1 ((((wB.setCell ⟨wC.heap.size, 0, none⟩ (.int .i64 x.o)).setCell ⟨wC.heap.size, 1, none⟩ (.int .i64 x.c)).setCell ⟨wC.heap.size, 2, none⟩ (.int .i64 x.n)).setCell ⟨wC.heap.size, 3, none⟩ (.slice A4 x.v.length c4)) := (((((((show Below w1.heap.size w1 wC from bC).alloc (show Below w1.heap.size w1 wC from bC).size _).trans (bB.mono ((show Below w1.heap.size w1 wC from bC).alloc (show Below w1.heap.size w1 wC from bC).size _).size)).setCell (p := ⟨wC.heap.size, 0, none⟩) (by show w1.heap.size ≤ wC.heap.size; omega) _).setCell (p := ⟨wC.heap.size, 1, none⟩) (by show w1.heap.size ≤ wC.heap.size; omega) _).setCell (p := ⟨wC.heap.size, 2, none⟩) (by show w1.heap.size ≤ wC.heap.size; omega) _).setCell (p := ⟨wC.heap.size, 3, none⟩) (by show w1.heap.size ≤ wC.heap.size; omega) _); have RM : ((((wB.setCell ⟨wC.heap.size, 0, none⟩ (.int .i64 x.o)).setCell ⟨wC.heap.size, 1, none⟩ (.int .i64 x.c)).setCell ⟨wC.heap.size, 2, none⟩ (.int .i64 x.n)).setCell ⟨wC.heap.size, 3, none⟩ (.slice A4 x.v.length c4)).heap[wC.heap.size]? = some (.cells _ _ (0, 0)) := (heap_setCell_same _ wC.heap.size 3 _ _ (.slice A4 x.v.length c4) (heap_setCell_same _ wC.heap.size 2 _ _ (.int .i64 x.n) (heap_setCell_same _ wC.heap.size 1 _ _ (.int .i64 x.c) (heap_setCell_same _ wC.heap.size 0 _ _ (.int .i64 x.o) ((bB.block _ (by go_size)).trans (heap_alloc_new wC (.cells #[.int .i64 0, .int .i64 0, .int .i64 0, .slice none 0 0] 38))))))); have HMC := fun (w' : World) (hb : Below ((((wB.setCell ⟨wC.heap.size, 0, none⟩ (.int .i64 x.o)).setCell ⟨wC.heap.size, 1, none⟩ (.int .i64 x.c)).setCell ⟨wC.heap.size, 2, none⟩ (.int .i64 x.n)).setCell ⟨wC.heap.size, 3, none⟩ (.slice A4 x.v.length c4)).heap.size ((((wB.setCell ⟨wC.heap.size, 0, none⟩ (.int .i64 x.o)).setCell ⟨wC.heap.size, 1, none⟩ (.int .i64 x.c)).setCell ⟨wC.heap.size, 2, none⟩ (.int .i64 x.n)).setCell ⟨wC.heap.size, 3, none⟩ (.slice A4 x.v.length c4)) w') => (⟨(hb.cell (p := ⟨wC.heap.size, 0, none⟩) (by go_size)).trans (cell_of_row _ _ 0 _ _ _ RM), (hb.cell (p := ⟨wC.heap.size, 1, none⟩) (by go_size)).trans (cell_of_row _ _ 1 _ _ _ RM), (hb.cell (p := ⟨wC.heap.size, 2, none⟩) (by go_size)).trans (cell_of_row _ _ 2 _ _ _ RM), (hb.cell (p := ⟨wC.heap.size, 3, none⟩) (by go_size)).trans (cell_of_row _ _ 3 _ _ _ RM)⟩ : w'.cell? ⟨wC.heap.size, 0, none⟩ = some (.int .i64 x.o) ∧ w'.cell? ⟨wC.heap.size, 1, none⟩ = some (.int .i64 x.c) ∧ w'.cell? ⟨wC.heap.size, 2, none⟩ = some (.int .i64 x.n) ∧ w'.cell? ⟨wC.heap.size, 3, none⟩ = some (.slice A4 x.v.length c4)); obtain ⟨B, hB⟩ : ∃ B : Nat, B = ((((wB.setCell ⟨wC.heap.size, 0, none⟩ (.int .i64 x.o)).setCell ⟨wC.heap.size, 1, none⟩ (.int .i64 x.c)).setCell ⟨wC.heap.size, 2, none⟩ (.int .i64 x.n)).setCell ⟨wC.heap.size, 3, none⟩ (.slice A4 x.v.length c4)).heap.size := ⟨_, rfl⟩)
    have hbw := hb1.trans (HB.mono hb1.size)
    go_wp2_with fail
    refine (put_c (x := x) HO.any HM.any hlu.1 hlu.2).mono ?_
    rintro e w10 ⟨vp, rfl, op, b10⟩
    have ho10 := HO.any.below b10 (Nat.le_refl _)
    have hm10 := HM.any.below b10 (Nat.le_refl _)
    have hb10 : Below w1.heap.size w1 w10 := HB.trans (b10.mono HB.size)
    have k0 := (hb10.cell (p := ⟨w.heap.size, 0, none⟩) hyl).trans y0
    have k1 := (hb10.cell (p := ⟨w.heap.size, 1, none⟩) hyl).trans y1
    have k2 := (hb10.cell (p := ⟨w.heap.size, 2, none⟩) hyl).trans y2
    have k3 := (hb10.cell (p := ⟨w.heap.size, 3, none⟩) hyl).trans y3
    have HR := Lib.hid (rput_c (room := room) (x := x) (hp1.below hb10 (Nat.le_refl _)) (hx1.below hb10 (Nat.le_refl _)) hlu.1 hlu.2)
    have hBw : w1.heap.size ≤ B := by rw [hB]; exact HB.size
    have hoL := HO.lo
    have hmL := HM.lo
    have hB10 : B ≤ w10.heap.size := by rw [hB]; exact b10.size
    rw [← hB] at op b10 HMC hoL hmL
    clear HO HM RM
    go_wp2_with fail
    refine HR.out.mono ?_
    rintro e w11 ⟨vq, rfl, oq, b11⟩
    have op11 := op.below b11 (Nat.le_refl _)
    have HS := Lib.hid (samebds_c op11.slAny oq.any)
    rw [beq_self_eq_true] at HS
    have ho11 := ho10.below b11 (Nat.le_refl _)
    have hb11 := bstep hb10 b11
    clear HR oq op
    generalize pute l room x = pe at *
    generalize put l room x = pl at *
    go_wp2_with (first
      | (go_at_call 15; refine HS.out.mono ?_; rintro e w12 ⟨rfl, b12⟩; have HF := Lib.hid (formed_c (room := room) (ho11.below b12 (Nat.le_refl _)) hlu.2))
      | (go_at_call 21; refine HF.out.mono ?_; rintro e w13 ⟨rfl, b13⟩; have HRF := Lib.hid (rformed_c (room := room) (hp1.below (bstep (bstep hb11 b12) b13) (Nat.le_refl _)) hlu.2))
      | (go_at_call 22; refine HRF.out.mono ?_; rintro e w14 ⟨rfl, b14⟩))
    have op14 := ((op11.below b12 (Nat.le_refl _)).below b13 (Nat.le_refl _)).below b14 (Nat.le_refl _)
    obtain ⟨A9, c9, rfl, hd1, hd2, _⟩ := op14.slAny.shape
    unfold maxLen at hd2
    have HRB := RdB.of op14
    generalize pl.length = n9 at *
    have b1014 : Below w10.heap.size w10 w14 := bstep (bstep (bstep b11 b12) b13) b14
    clear HS HF HRF op11 op14
    go_loopw [14] (fun i wr => ∃ q : Nat, q ≤ n9 ∧ i = .int .i64 q ∧ RdB B A9 wr n9 ∧ Below B w14 wr) (fun i _ => n9 - (intOf i).toNat)
    case atStart => exact ⟨0, Nat.zero_le _, rfl, HRB, Below.refl _ _⟩
    case round =>
      obtain ⟨q, hq, rfl, hrb, hbel⟩ := hrel
      by_cases hlt : q < n9
      · obtain ⟨g, Av, nv, cv, rfl, hc, hnv, hcv, hru⟩ := hrb q hlt
        unfold maxLen at hcv
        go_wp2
        go_loopw [15] (fun k wr2 => ∃ j : Nat, j ≤ nv ∧ k = .int .i64 j ∧ wr2.cell? ⟨g, q * 4 + 3, none⟩ = some (.slice Av nv cv) ∧ RdU (HiN B (some g)) wr2 Av nv ∧ RdB B (some ⟨g, 0, none⟩) wr2 n9 ∧ Below B w14 wr2) (fun k _ => nv - (intOf k).toNat)
        case atStart => exact ⟨0, Nat.zero_le _, rfl, hc, hru, hrb, hbel⟩
        case round =>
          obtain ⟨j, hj, rfl, hc2, hru2, hrb2, hbel2⟩ := hrel
          by_cases hlt2 : j < nv
          · obtain ⟨b, off, rfl, y, hat⟩ := hru2 j hlt2
            have hcell := hat.cell
            have hfr := hat.frozen (fun b fr h => h.2.1)
            have hst := hrb2.store rfl hat (xr y 255)
            have hsu := hru2.store hat (fun _ _ h => h.2.1) (xr y 255)
            have hge : B ≤ b := by obtain ⟨_, _, _, _, _, h⟩ := hat; exact h.1
            have hne : g ≠ b := by obtain ⟨_, _, _, _, _, h⟩ := hat; exact fun e => h.2.2 (by rw [e])
            have hcc := (cell_far (p := ⟨b, off + j, none⟩) (q := ⟨g, q * 4 + 3, none⟩) (u := .int .u8 ((xr y 255).toNat : Int)) hne).trans hc2
            clear hat
            go_wp2
            go_roundw
            case rel => exact ⟨j + 1, by omega, by go_num, hcc, hsu, hst, hbel2.setCell hge _⟩
            case measure => simp [intOf]; omega
          · go_wp2
            go_roundw
            case rel => exact ⟨q + 1, by omega, by go_num, hrb2, hbel2⟩
            case measure => simp [intOf]; omega
      · have bfin := (b10.trans (b1014.mono hB10)).trans hbel
        have hBr : B ≤ wr.heap.size := Nat.le_trans hB10 (Nat.le_trans b1014.size hbel.size)
        have b1r := HB.trans (bfin.mono hBw)
        have HSL := Lib.hid (samebds_c (hoL.lob bfin) (hp1.below b1r (Nat.le_refl _)))
        rw [beq_self_eq_true] at HSL
        go_wp2_with (first
          | (go_at_call 15; refine HSL.out.mono ?_; rintro e w15 ⟨rfl, b15⟩; have bfin2 := bfin.trans (b15.mono hBr); obtain ⟨m0, m1, m2, m3⟩ := HMC _ bfin2; have b1f := HB.trans (bfin2.mono hBw); have x0 := (b1f.cell (p := ⟨w.heap.size, 0, none⟩) hyl).trans y0; have x1 := (b1f.cell (p := ⟨w.heap.size, 1, none⟩) hyl).trans y1; have x2 := (b1f.cell (p := ⟨w.heap.size, 2, none⟩) hyl).trans y2; have x3 := (b1f.cell (p := ⟨w.heap.size, 3, none⟩) hyl).trans y3; have HSB := Lib.hid (samebd_c (a := x) (b := x) (hmL.lob bfin2).any (hx1.below b1f (Nat.le_refl _)).any))
          | (go_at_call 23; refine HSB.out.mono ?_; rintro e w16 ⟨rfl, b16⟩))
        go_ret
        rw [sameBd_dec, decide_eq_true rfl]
        exact ⟨rfl, bstep (hb1.trans (b1f.mono hb1.size)) b16⟩

  · (have HO : Sl bdE _ ((((wB.setCell ⟨w1.heap.size, 0, none⟩ (.int .i64 x.o)).setCell ⟨w1.heap.size, 1, none⟩ (.int .i64 x.c)).setCell ⟨w1.heap.size, 2, none⟩ (.int .i64 x.n)).setCell ⟨w1.heap.size, 3, none⟩ (.slice A4 x.v.length c4)) vo l := (Sl.st4 (m := w1.heap.size) ((oo.slLoHi (B := (w1.drew.alloc (.cells #[.int .i64 0, .int .i64 0, .int .i64 0, .slice none 0 0] 38)).heap.size) (fun b fr h _ => h.1) (Nat.le_refl _)).below bB (Nat.le_refl _)) (by go_size)); have HM : Sl u8E _ ((((wB.setCell ⟨w1.heap.size, 0, none⟩ (.int .i64 x.o)).setCell ⟨w1.heap.size, 1, none⟩ (.int .i64 x.c)).setCell ⟨w1.heap.size, 2, none⟩ (.int .i64 x.n)).setCell ⟨w1.heap.size, 3, none⟩ (.slice A4 x.v.length c4)) (.slice A4 x.v.length c4) x.v := (Sl.st4 (m := w1.heap.size) ((o4.u8 (S' := fun b _ => wC.heap.size ≤ b)).slLoHi (B := wC.heap.size) (fun b fr h _ => h) (Nat.le_refl _)) (by go_size)); have HB : Below w1.heap.size w1 ((((wB.setCell ⟨w1.heap.size, 0, none⟩ (.int .i64 x.o)).setCell ⟨w1.heap.size, 1, none⟩ (.int .i64 x.c)).setCell ⟨w1.heap.size, 2, none⟩ (.int .i64 x.n)).setCell ⟨w1.heap.size, 3, none⟩ (.slice A4 x.v.length c4)) := (((((((((Below.refl w1.heap.size w1).drew).alloc ((Below.refl w1.heap.size w1).drew).size _).trans (bC.mono (((Below.refl w1.heap.size w1).drew).alloc ((Below.refl w1.heap.size w1).drew).size _).size)).trans (bB.mono ((((Below.refl w1.heap.size w1).drew).alloc ((Below.refl w1.heap.size w1).drew).size _).trans (bC.mono (((Below.refl w1.heap.size w1).drew).alloc ((Below.refl w1.heap.size w1).drew).size _).size)).size)).setCell (p := ⟨w1.heap.size, 0, none⟩) (by show w1.heap.size ≤ w1.heap.size; omega) _).setCell (p := ⟨w1.heap.size, 1, none⟩) (by show w1.heap.size ≤ w1.heap.size; omega) _).setCell (p := ⟨w1.heap.size, 2, none⟩) (by show w1.heap.size ≤ w1.heap.size; omega) _).setCell (p := ⟨w1.heap.size, 3, none⟩) (by show w1.heap.size ≤ w1.heap.size; omega) _); have RM : ((((wB.setCell ⟨w1.heap.size, 0, none⟩ (.int .i64 x.o)).setCell ⟨w1.heap.size, 1, none⟩ (.int .i64 x.c)).setCell ⟨w1.heap.size, 2, none⟩ (.int .i64 x.n)).setCell ⟨w1.heap.size, 3, none⟩ (.slice A4 x.v.length c4)).heap[w1.heap.size]? = some (.cells _ _ (0, 0)) := (heap_setCell_same _ w1.heap.size 3 _ _ (.slice A4 x.v.length c4) (heap_setCell_same _ w1.heap.size 2 _ _ (.int .i64 x.n) (heap_setCell_same _ w1.heap.size 1 _ _ (.int .i64 x.c) (heap_setCell_same _ w1.heap.size 0 _ _ (.int .i64 x.o) ((bB.block _ (by go_size)).trans ((bC.block _ (by go_size)).trans (heap_alloc_new w1.drew (.cells #[.int .i64 0, .int .i64 0, .int .i64 0, .slice none 0 0] 38)))))))); have HMC := fun (w' : World) (hb : Below ((((wB.setCell ⟨w1.heap.size, 0, none⟩ (.int .i64 x.o)).setCell ⟨w1.heap.size, 1, none⟩ (.int .i64 x.c)).setCell ⟨w1.heap.size, 2, none⟩ (.int .i64 x.n)).setCell ⟨w1.heap.size, 3, none⟩ (.slice A4 x.v.length c4)).heap.size ((((wB.setCell ⟨w1.heap.size, 0, none⟩ (.int .i64 x.o)).setCell ⟨w1.heap.size, 1, none⟩ (.int .i64 x.c)).setCell ⟨w1.heap.size, 2, none⟩ (.int .i64 x.n)).setCell ⟨w1.heap.size, 3, none⟩ (.slice A4 x.v.length c4)) w') => (⟨(hb.cell (p := ⟨w1.heap.size, 0, none⟩) (by go_size)).trans (cell_of_row _ _ 0 _ _ _ RM), (hb.cell (p := ⟨w1.heap.size, 1, none⟩) (by go_size)).trans (cell_of_row _ _ 1 _ _ _ RM), (hb.cell (p := ⟨w1.heap.size, 2, none⟩) (by go_size)).trans (cell_of_row _ _ 2 _ _ _ RM), (hb.cell (p := ⟨w1.heap.size, 3, none⟩) (by go_size)).trans (cell_of_row _ _ 3 _ _ _ RM)⟩ : w'.cell? ⟨w1.heap.size, 0, none⟩ = some (.int .i64 x.o) ∧ w'.cell? ⟨w1.heap.size, 1, none⟩ = some (.int .i64 x.c) ∧ w'.cell? ⟨w1.heap.size, 2, none⟩ = some (.int .i64 x.n) ∧ w'.cell? ⟨w1.heap.size, 3, none⟩ = some (.slice A4 x.v.length c4)); obtain ⟨B, hB⟩ : ∃ B : Nat, B = ((((wB.setCell ⟨w1.heap.size, 0, none⟩ (.int .i64 x.o)).setCell ⟨w1.heap.size, 1, none⟩ (.int .i64 x.c)).setCell ⟨w1.heap.size, 2, none⟩ (.int .i64 x.n)).setCell ⟨w1.heap.size, 3, none⟩ (.slice A4 x.v.length c4)).heap.size := ⟨_, rfl⟩)
    have hbw := hb1.trans (HB.mono hb1.size)
    go_wp2_with fail
    refine (put_c (x := x) HO.any HM.any hlu.1 hlu.2).mono ?_
    rintro e w10 ⟨vp, rfl, op, b10⟩
    have ho10 := HO.any.below b10 (Nat.le_refl _)
    have hm10 := HM.any.below b10 (Nat.le_refl _)
    have hb10 : Below w1.heap.size w1 w10 := HB.trans (b10.mono HB.size)
    have k0 := (hb10.cell (p := ⟨w.heap.size, 0, none⟩) hyl).trans y0
    have k1 := (hb10.cell (p := ⟨w.heap.size, 1, none⟩) hyl).trans y1
    have k2 := (hb10.cell (p := ⟨w.heap.size, 2, none⟩) hyl).trans y2
    have k3 := (hb10.cell (p := ⟨w.heap.size, 3, none⟩) hyl).trans y3
    have HR := Lib.hid (rput_c (room := room) (x := x) (hp1.below hb10 (Nat.le_refl _)) (hx1.below hb10 (Nat.le_refl _)) hlu.1 hlu.2)
    have hBw : w1.heap.size ≤ B := by rw [hB]; exact HB.size
    have hoL := HO.lo
    have hmL := HM.lo
    have hB10 : B ≤ w10.heap.size := by rw [hB]; exact b10.size
    rw [← hB] at op b10 HMC hoL hmL
    clear HO HM RM
    go_wp2_with fail
    refine HR.out.mono ?_
    rintro e w11 ⟨vq, rfl, oq, b11⟩
    have op11 := op.below b11 (Nat.le_refl _)
    have HS := Lib.hid (samebds_c op11.slAny oq.any)
    rw [beq_self_eq_true] at HS
    have ho11 := ho10.below b11 (Nat.le_refl _)
    have hb11 := bstep hb10 b11
    clear HR oq op
    generalize pute l room x = pe at *
    generalize put l room x = pl at *
    go_wp2_with (first
      | (go_at_call 15; refine HS.out.mono ?_; rintro e w12 ⟨rfl, b12⟩; have HF := Lib.hid (formed_c (room := room) (ho11.below b12 (Nat.le_refl _)) hlu.2))
      | (go_at_call 21; refine HF.out.mono ?_; rintro e w13 ⟨rfl, b13⟩; have HRF := Lib.hid (rformed_c (room := room) (hp1.below (bstep (bstep hb11 b12) b13) (Nat.le_refl _)) hlu.2))
      | (go_at_call 22; refine HRF.out.mono ?_; rintro e w14 ⟨rfl, b14⟩))
    have op14 := ((op11.below b12 (Nat.le_refl _)).below b13 (Nat.le_refl _)).below b14 (Nat.le_refl _)
    obtain ⟨A9, c9, rfl, hd1, hd2, _⟩ := op14.slAny.shape
    unfold maxLen at hd2
    have HRB := RdB.of op14
    generalize pl.length = n9 at *
    have b1014 : Below w10.heap.size w10 w14 := bstep (bstep (bstep b11 b12) b13) b14
    clear HS HF HRF op11 op14
    go_loopw [14] (fun i wr => ∃ q : Nat, q ≤ n9 ∧ i = .int .i64 q ∧ RdB B A9 wr n9 ∧ Below B w14 wr) (fun i _ => n9 - (intOf i).toNat)
    case atStart => exact ⟨0, Nat.zero_le _, rfl, HRB, Below.refl _ _⟩
    case round =>
      obtain ⟨q, hq, rfl, hrb, hbel⟩ := hrel
      by_cases hlt : q < n9
      · obtain ⟨g, Av, nv, cv, rfl, hc, hnv, hcv, hru⟩ := hrb q hlt
        unfold maxLen at hcv
        go_wp2
        go_loopw [15] (fun k wr2 => ∃ j : Nat, j ≤ nv ∧ k = .int .i64 j ∧ wr2.cell? ⟨g, q * 4 + 3, none⟩ = some (.slice Av nv cv) ∧ RdU (HiN B (some g)) wr2 Av nv ∧ RdB B (some ⟨g, 0, none⟩) wr2 n9 ∧ Below B w14 wr2) (fun k _ => nv - (intOf k).toNat)
        case atStart => exact ⟨0, Nat.zero_le _, rfl, hc, hru, hrb, hbel⟩
        case round =>
          obtain ⟨j, hj, rfl, hc2, hru2, hrb2, hbel2⟩ := hrel
          by_cases hlt2 : j < nv
          · obtain ⟨b, off, rfl, y, hat⟩ := hru2 j hlt2
            have hcell := hat.cell
            have hfr := hat.frozen (fun b fr h => h.2.1)
            have hst := hrb2.store rfl hat (xr y 255)
            have hsu := hru2.store hat (fun _ _ h => h.2.1) (xr y 255)
            have hge : B ≤ b := by obtain ⟨_, _, _, _, _, h⟩ := hat; exact h.1
            have hne : g ≠ b := by obtain ⟨_, _, _, _, _, h⟩ := hat; exact fun e => h.2.2 (by rw [e])
            have hcc := (cell_far (p := ⟨b, off + j, none⟩) (q := ⟨g, q * 4 + 3, none⟩) (u := .int .u8 ((xr y 255).toNat : Int)) hne).trans hc2
            clear hat
            go_wp2
            go_roundw
            case rel => exact ⟨j + 1, by omega, by go_num, hcc, hsu, hst, hbel2.setCell hge _⟩
            case measure => simp [intOf]; omega
          · go_wp2
            go_roundw
            case rel => exact ⟨q + 1, by omega, by go_num, hrb2, hbel2⟩
            case measure => simp [intOf]; omega
      · have bfin := (b10.trans (b1014.mono hB10)).trans hbel
        have hBr : B ≤ wr.heap.size := Nat.le_trans hB10 (Nat.le_trans b1014.size hbel.size)
        have b1r := HB.trans (bfin.mono hBw)
        have HSL := Lib.hid (samebds_c (hoL.lob bfin) (hp1.below b1r (Nat.le_refl _)))
        rw [beq_self_eq_true] at HSL
        go_wp2_with (first
          | (go_at_call 15; refine HSL.out.mono ?_; rintro e w15 ⟨rfl, b15⟩; have bfin2 := bfin.trans (b15.mono hBr); obtain ⟨m0, m1, m2, m3⟩ := HMC _ bfin2; have b1f := HB.trans (bfin2.mono hBw); have x0 := (b1f.cell (p := ⟨w.heap.size, 0, none⟩) hyl).trans y0; have x1 := (b1f.cell (p := ⟨w.heap.size, 1, none⟩) hyl).trans y1; have x2 := (b1f.cell (p := ⟨w.heap.size, 2, none⟩) hyl).trans y2; have x3 := (b1f.cell (p := ⟨w.heap.size, 3, none⟩) hyl).trans y3; have HSB := Lib.hid (samebd_c (a := x) (b := x) (hmL.lob bfin2).any (hx1.below b1f (Nat.le_refl _)).any))
          | (go_at_call 23; refine HSB.out.mono ?_; rintro e w16 ⟨rfl, b16⟩))
        go_ret
        rw [sameBd_dec, decide_eq_true rfl]
        exact ⟨rfl, bstep (hb1.trans (b1f.mono hb1.size)) b16⟩

end Go.Proofs.Ytjcbheeihckgmaa
