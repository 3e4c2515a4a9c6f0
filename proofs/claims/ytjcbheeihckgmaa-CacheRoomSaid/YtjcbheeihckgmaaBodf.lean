/- Bodies: whether they are right, one's own copy, whether two are the same. -/
import Derived.Test.YtjcbheeihckgmaaBody
import Derived.Handy
import Derived.Deep.RegionHeld3
namespace Go.Proofs.Ytjcbheeihckgmaa
open Go.RowKit

theorem rstR_c (c n : Int) (w : World) :
    Calls Try.prog 32 #[.agg #[.int .i64 c, .int .i64 n]] w fun e w' => e = .returned (.bool (stR c n)) ∧ Below w.heap.size w w' := by
  by_cases h1 : (1 : Int) ≤ c
  · have d1 : decide ((1 : Int) ≤ c) = true := decide_eq_true h1
    by_cases h2 : (0 : Int) ≤ n
    · have d2 : decide ((0 : Int) ≤ n) = true := decide_eq_true h2
      by_cases h3 : n ≤ 63
      · have d3 : decide (n ≤ 63) = true := decide_eq_true h3
        have HR : Hid (stR c n = true) := by unfold Hid stR; simp; omega
        go_enter Try.func32, Try.ntmps32
        go_wp2
        go_ret
        rw [HR.out]
        exact ⟨rfl, (Below.refl _ _).alloc (Nat.le_refl _) _⟩
      · have d3 : decide (n ≤ 63) = false := decide_eq_false h3
        have HR : Hid (stR c n = false) := by unfold Hid stR; simp; omega
        go_enter Try.func32, Try.ntmps32
        go_wp2
        go_ret
        rw [HR.out]
        exact ⟨rfl, (Below.refl _ _).alloc (Nat.le_refl _) _⟩
    · have d2 : decide ((0 : Int) ≤ n) = false := decide_eq_false h2
      have HR : Hid (stR c n = false) := by unfold Hid stR; simp; omega
      go_enter Try.func32, Try.ntmps32
      go_wp2
      go_ret
      rw [HR.out]
      exact ⟨rfl, (Below.refl _ _).alloc (Nat.le_refl _) _⟩
  · have d1 : decide ((1 : Int) ≤ c) = false := decide_eq_false h1
    have HR : Hid (stR c n = false) := by unfold Hid stR; simp; omega
    go_enter Try.func32, Try.ntmps32
    go_wp2
    go_ret
    rw [HR.out]
    exact ⟨rfl, (Below.refl _ _).alloc (Nat.le_refl _) _⟩

theorem right_c (b : Bd) (Av : Option Addr) (cv : Nat) (w : World) :
    Calls Try.prog 30 #[.agg #[.int .i64 b.o, .int .i64 b.c, .int .i64 b.n, .slice Av b.v.length cv]] w fun e w' => e = .returned (.bool (right b)) ∧ Below w.heap.size w w' := by
  by_cases h1 : (0 : Int) ≤ b.o
  · have d1 : decide ((0 : Int) ≤ b.o) = true := decide_eq_true h1
    by_cases h2 : b.o < 256
    · have d2 : decide (b.o < 256) = true := decide_eq_true h2
      by_cases h3 : stR b.c b.n = true
      · have HS := fun w => Lib.hid (stR_c b.c b.n w)
        rw [h3] at HS
        by_cases h4 : (b.v.length : Int) ≤ 256
        · have d4 : decide ((b.v.length : Int) ≤ 256) = true := decide_eq_true h4
          have HR : Hid (right b = true) := by unfold Hid right; simp [h3]; omega
          clear h3
          go_enter Try.func30, Try.ntmps30
          go_wp2_with (go_at_call 33; refine (HS _).out.mono ?_; rintro e w1 ⟨rfl, b1⟩; have c3 := box_cell (cs := [.int .i64 b.o, .int .i64 b.c, .int .i64 b.n, .slice Av b.v.length cv]) b1 (by simp) 3 _ rfl)
          go_ret
          rw [HR.out]
          exact ⟨rfl, ((Below.refl _ _).alloc (Nat.le_refl _) _).trans (b1.mono (by simp))⟩
        · have d4 : decide ((b.v.length : Int) ≤ 256) = false := decide_eq_false h4
          have HR : Hid (right b = false) := by unfold Hid right; simp [h3]; omega
          clear h3
          go_enter Try.func30, Try.ntmps30
          go_wp2_with (go_at_call 33; refine (HS _).out.mono ?_; rintro e w1 ⟨rfl, b1⟩; have c3 := box_cell (cs := [.int .i64 b.o, .int .i64 b.c, .int .i64 b.n, .slice Av b.v.length cv]) b1 (by simp) 3 _ rfl)
          go_ret
          rw [HR.out]
          exact ⟨rfl, ((Below.refl _ _).alloc (Nat.le_refl _) _).trans (b1.mono (by simp))⟩
      · have h3' : stR b.c b.n = false := by simpa using h3
        have HS := fun w => Lib.hid (stR_c b.c b.n w)
        rw [h3'] at HS
        have HR : Hid (right b = false) := by unfold Hid right; simp [h3']
        clear h3 h3'
        go_enter Try.func30, Try.ntmps30
        go_wp2_with (go_at_call 33; refine (HS _).out.mono ?_; rintro e w1 ⟨rfl, b1⟩; have c3 := box_cell (cs := [.int .i64 b.o, .int .i64 b.c, .int .i64 b.n, .slice Av b.v.length cv]) b1 (by simp) 3 _ rfl)
        go_ret
        rw [HR.out]
        exact ⟨rfl, ((Below.refl _ _).alloc (Nat.le_refl _) _).trans (b1.mono (by simp))⟩
    · have d2 : decide (b.o < 256) = false := decide_eq_false h2
      have HR : Hid (right b = false) := by unfold Hid right; simp; omega
      go_enter Try.func30, Try.ntmps30
      go_wp2
      go_ret
      rw [HR.out]
      exact ⟨rfl, (Below.refl _ _).alloc (Nat.le_refl _) _⟩
  · have d1 : decide ((0 : Int) ≤ b.o) = false := decide_eq_false h1
    have HR : Hid (right b = false) := by unfold Hid right; simp; omega
    go_enter Try.func30, Try.ntmps30
    go_wp2
    go_ret
    rw [HR.out]
    exact ⟨rfl, (Below.refl _ _).alloc (Nat.le_refl _) _⟩

theorem rright_c (b : Bd) (Av : Option Addr) (cv : Nat) (w : World) :
    Calls Try.prog 24 #[.agg #[.int .i64 b.o, .int .i64 b.c, .int .i64 b.n, .slice Av b.v.length cv]] w fun e w' => e = .returned (.bool (right b)) ∧ Below w.heap.size w w' := by
  by_cases h1 : (0 : Int) ≤ b.o
  · have d1 : decide ((0 : Int) ≤ b.o) = true := decide_eq_true h1
    by_cases h2 : b.o ≤ 255
    · have d2 : decide (b.o ≤ 255) = true := decide_eq_true h2
      by_cases h3 : stR b.c b.n = true
      · have HS := fun w => Lib.hid (rstR_c b.c b.n w)
        rw [h3] at HS
        by_cases h4 : (b.v.length : Int) ≤ 256
        · have d4 : decide ((b.v.length : Int) ≤ 256) = true := decide_eq_true h4
          have HR : Hid (right b = true) := by unfold Hid right; simp [h3]; omega
          clear h3
          go_enter Try.func24, Try.ntmps24
          go_wp2_with (go_at_call 32; refine (HS _).out.mono ?_; rintro e w1 ⟨rfl, b1⟩; have c3 := box_cell (cs := [.int .i64 b.o, .int .i64 b.c, .int .i64 b.n, .slice Av b.v.length cv]) b1 (by simp) 3 _ rfl)
          go_ret
          rw [HR.out]
          exact ⟨rfl, ((Below.refl _ _).alloc (Nat.le_refl _) _).trans (b1.mono (by simp))⟩
        · have d4 : decide ((b.v.length : Int) ≤ 256) = false := decide_eq_false h4
          have HR : Hid (right b = false) := by unfold Hid right; simp [h3]; omega
          clear h3
          go_enter Try.func24, Try.ntmps24
          go_wp2_with (go_at_call 32; refine (HS _).out.mono ?_; rintro e w1 ⟨rfl, b1⟩; have c3 := box_cell (cs := [.int .i64 b.o, .int .i64 b.c, .int .i64 b.n, .slice Av b.v.length cv]) b1 (by simp) 3 _ rfl)
          go_ret
          rw [HR.out]
          exact ⟨rfl, ((Below.refl _ _).alloc (Nat.le_refl _) _).trans (b1.mono (by simp))⟩
      · have h3' : stR b.c b.n = false := by simpa using h3
        have HS := fun w => Lib.hid (rstR_c b.c b.n w)
        rw [h3'] at HS
        have HR : Hid (right b = false) := by unfold Hid right; simp [h3']
        clear h3 h3'
        go_enter Try.func24, Try.ntmps24
        go_wp2_with (go_at_call 32; refine (HS _).out.mono ?_; rintro e w1 ⟨rfl, b1⟩; have c3 := box_cell (cs := [.int .i64 b.o, .int .i64 b.c, .int .i64 b.n, .slice Av b.v.length cv]) b1 (by simp) 3 _ rfl)
        go_ret
        rw [HR.out]
        exact ⟨rfl, ((Below.refl _ _).alloc (Nat.le_refl _) _).trans (b1.mono (by simp))⟩
    · have d2 : decide (b.o ≤ 255) = false := decide_eq_false h2
      have HR : Hid (right b = false) := by unfold Hid right; simp; omega
      go_enter Try.func24, Try.ntmps24
      go_wp2
      go_ret
      rw [HR.out]
      exact ⟨rfl, (Below.refl _ _).alloc (Nat.le_refl _) _⟩
  · have d1 : decide ((0 : Int) ≤ b.o) = false := decide_eq_false h1
    have HR : Hid (right b = false) := by unfold Hid right; simp; omega
    go_enter Try.func24, Try.ntmps24
    go_wp2
    go_ret
    rw [HR.out]
    exact ⟨rfl, (Below.refl _ _).alloc (Nat.le_refl _) _⟩


/-- one's own body: the program's -/
theorem twin_c {S : Foot} {b : Bd} {v : Value} {w : World} (hp : Sl u8E S w v b.v) (hn : b.v.length ≤ 140737488355328) :
    Calls Try.prog 29 #[.agg #[.int .i64 b.o, .int .i64 b.c, .int .i64 b.n, v]] w fun e w' => ∃ Av cv, e = .returned (.agg #[.int .i64 b.o, .int .i64 b.c, .int .i64 b.n, .slice Av b.v.length cv]) ∧ Own u8E Any w' w.heap.size 5 (.slice Av b.v.length cv) b.v ∧ Below w.heap.size w w' := by
  obtain ⟨Av, cv, rfl, _⟩ := hp.shape
  go_enter Try.func29, Try.ntmps29
  go_wp2_with fail
  refine (clone_c ((hp.below (B := w.heap.size) (((Below.refl _ _).alloc (Nat.le_refl _) _).alloc (by simp) _) (Nat.le_refl _))) hn).mono ?_
  rintro e w1 ⟨v1, rfl, o1, b1⟩
  obtain ⟨A1, c1, rfl, _⟩ := o1.slAny.shape
  have bB := Below.trans ((Below.refl (w.heap.size + 1) (w.alloc (.cells #[.int .i64 b.o, .int .i64 b.c, .int .i64 b.n, .slice Av b.v.length cv] 38))).alloc (by simp) (.cells #[.int .i64 0, .int .i64 0, .int .i64 0, .slice none 0 0] 38)) (b1.mono (by simp))
  have x0 := box_cell (cs := [.int .i64 b.o, .int .i64 b.c, .int .i64 b.n, .slice Av b.v.length cv]) bB (by simp) 0 _ rfl
  have x1 := box_cell (cs := [.int .i64 b.o, .int .i64 b.c, .int .i64 b.n, .slice Av b.v.length cv]) bB (by simp) 1 _ rfl
  have x2 := box_cell (cs := [.int .i64 b.o, .int .i64 b.c, .int .i64 b.n, .slice Av b.v.length cv]) bB (by simp) 2 _ rfl
  have x3 := box_cell (cs := [.int .i64 b.o, .int .i64 b.c, .int .i64 b.n, .slice Av b.v.length cv]) bB (by simp) 3 _ rfl
  have xf := box_free (cs := [.int .i64 b.o, .int .i64 b.c, .int .i64 b.n, .slice Av b.v.length cv]) bB (by simp) 3
  have y0 := box_cell (cs := [.int .i64 0, .int .i64 0, .int .i64 0, .slice none 0 0]) b1 (by simp) 0 _ rfl
  have y1 := box_cell (cs := [.int .i64 0, .int .i64 0, .int .i64 0, .slice none 0 0]) b1 (by simp) 1 _ rfl
  have y2 := box_cell (cs := [.int .i64 0, .int .i64 0, .int .i64 0, .slice none 0 0]) b1 (by simp) 2 _ rfl
  have y3 := box_cell (cs := [.int .i64 0, .int .i64 0, .int .i64 0, .slice none 0 0]) b1 (by simp) 3 _ rfl
  have yf0 := box_free (cs := [.int .i64 0, .int .i64 0, .int .i64 0, .slice none 0 0]) b1 (by simp) 0
  have yf1 := box_free (cs := [.int .i64 0, .int .i64 0, .int .i64 0, .slice none 0 0]) b1 (by simp) 1
  have yf2 := box_free (cs := [.int .i64 0, .int .i64 0, .int .i64 0, .slice none 0 0]) b1 (by simp) 2
  have yf3 := box_free (cs := [.int .i64 0, .int .i64 0, .int .i64 0, .slice none 0 0]) b1 (by simp) 3
  simp only [World.size_alloc] at y0 y1 y2 y3 yf0 yf1 yf2 yf3
  clear bB
  go_wp2
  have q0 : w1.heap[w.heap.size + 1]? = some (.cells #[.int .i64 0, .int .i64 0, .int .i64 0, .slice none 0 0] 38 (0, 0)) := (b1.block _ (by simp)).trans (heap_alloc2_new w _ _)
  have q1 := (heap_setCell_other w1 ⟨w.heap.size, 3, none⟩ (w.heap.size + 1) (.slice A1 b.v.length c1) (by simp)).trans q0
  have q2 := heap_setCell_same _ (w.heap.size + 1) 0 _ _ (.int .i64 b.o) q1
  have q3 := heap_setCell_same _ (w.heap.size + 1) 1 _ _ (.int .i64 b.c) q2
  have q4 := heap_setCell_same _ (w.heap.size + 1) 2 _ _ (.int .i64 b.n) q3
  have q5 := heap_setCell_same _ (w.heap.size + 1) 3 _ _ (.slice A1 b.v.length c1) q4
  refine bodyPost_ret (results_cell_row rfl _ _ (w.heap.size + 1) 38 #[.int .i64 b.o, .int .i64 b.c, .int .i64 b.n, .slice A1 b.v.length c1] (0, 0) _ rfl q5 Try.underlying38 rfl (by kernel_rfl)) rfl ?_
  refine ⟨A1, c1, rfl, ?_, ?_⟩
  · exact (((((o1.byteFar (by simp <;> omega)).byteFar (by simp <;> omega)).byteFar (by simp <;> omega)).byteFar (by simp <;> omega)).byteFar (by simp <;> omega)).base_mono (by simp <;> omega)
  · exact ((((((((Below.refl _ _).alloc (Nat.le_refl _) _).alloc (by simp <;> omega) _).trans (b1.mono (by simp <;> omega))).setCell (by simp <;> omega) _).setCell (by simp <;> omega) _).setCell (by simp <;> omega) _).setCell (by simp <;> omega) _).setCell (by simp <;> omega) _
/-- one's own body: the document's -/
theorem rbody_c {S : Foot} {b : Bd} {v : Value} {w : World} (hp : Sl u8E S w v b.v) (hn : b.v.length ≤ 140737488355328) :
    Calls Try.prog 18 #[.agg #[.int .i64 b.o, .int .i64 b.c, .int .i64 b.n, v]] w fun e w' => ∃ Av cv, e = .returned (.agg #[.int .i64 b.o, .int .i64 b.c, .int .i64 b.n, .slice Av b.v.length cv]) ∧ Own u8E Any w' w.heap.size 5 (.slice Av b.v.length cv) b.v ∧ Below w.heap.size w w' := by
  obtain ⟨Av, cv, rfl, _⟩ := hp.shape
  go_enter Try.func18, Try.ntmps18
  go_wp2_with fail
  go_region_held3 (fun w' => w'.cell? ⟨w.heap.size, 0, none⟩ = some (.int .i64 b.o) ∧ w'.cell? ⟨w.heap.size, 1, none⟩ = some (.int .i64 b.c) ∧ w'.cell? ⟨w.heap.size, 2, none⟩ = some (.int .i64 b.n) ∧ w'.cell? ⟨w.heap.size, 3, none⟩ = some (.slice Av b.v.length cv))
    (first | go_keep)
    (first | (go_at_call 28; refine (copy_c (hp.below (B := w.heap.size) (((Below.refl _ _).alloc (Nat.le_refl _) _).alloc (by simp) _).drew (Nat.le_refl _)) hn).mono ?_; rintro e w1 ⟨v1, rfl, o1, b1⟩; have b1 := bundrew b1; obtain ⟨A1, c1, rfl, _⟩ := o1.slAny.shape; have bB := Below.trans ((Below.refl (w.heap.size + 1) (w.alloc (.cells #[.int .i64 b.o, .int .i64 b.c, .int .i64 b.n, .slice Av b.v.length cv] 38))).alloc (by simp) (.cells #[.int .i64 0, .int .i64 0, .int .i64 0, .slice none 0 0] 38)) (b1.mono (by simp)); have x0 := box_cell (cs := [.int .i64 b.o, .int .i64 b.c, .int .i64 b.n, .slice Av b.v.length cv]) bB (by simp) 0 _ rfl; have x1 := box_cell (cs := [.int .i64 b.o, .int .i64 b.c, .int .i64 b.n, .slice Av b.v.length cv]) bB (by simp) 1 _ rfl; have x2 := box_cell (cs := [.int .i64 b.o, .int .i64 b.c, .int .i64 b.n, .slice Av b.v.length cv]) bB (by simp) 2 _ rfl; have x3 := box_cell (cs := [.int .i64 b.o, .int .i64 b.c, .int .i64 b.n, .slice Av b.v.length cv]) bB (by simp) 3 _ rfl; have y0 := box_cell (cs := [.int .i64 0, .int .i64 0, .int .i64 0, .slice none 0 0]) b1 (by simp) 0 _ rfl; have y1 := box_cell (cs := [.int .i64 0, .int .i64 0, .int .i64 0, .slice none 0 0]) b1 (by simp) 1 _ rfl; have y2 := box_cell (cs := [.int .i64 0, .int .i64 0, .int .i64 0, .slice none 0 0]) b1 (by simp) 2 _ rfl; have y3 := box_cell (cs := [.int .i64 0, .int .i64 0, .int .i64 0, .slice none 0 0]) b1 (by simp) 3 _ rfl; have yf0 := box_free (cs := [.int .i64 0, .int .i64 0, .int .i64 0, .slice none 0 0]) b1 (by simp) 0; have yf1 := box_free (cs := [.int .i64 0, .int .i64 0, .int .i64 0, .slice none 0 0]) b1 (by simp) 1; have yf2 := box_free (cs := [.int .i64 0, .int .i64 0, .int .i64 0, .slice none 0 0]) b1 (by simp) 2; have yf3 := box_free (cs := [.int .i64 0, .int .i64 0, .int .i64 0, .slice none 0 0]) b1 (by simp) 3; simp only [World.size_alloc] at y0 y1 y2 y3 yf0 yf1 yf2 yf3; clear bB))
  go_wp2
  have q0 : w1.heap[w.heap.size + 1]? = some (.cells #[.int .i64 0, .int .i64 0, .int .i64 0, .slice none 0 0] 38 (0, 0)) := (b1.block _ (by simp)).trans (heap_alloc2_new w _ _)
  have q2 := heap_setCell_same _ (w.heap.size + 1) 0 _ _ (.int .i64 b.o) q0
  have q3 := heap_setCell_same _ (w.heap.size + 1) 1 _ _ (.int .i64 b.c) q2
  have q4 := heap_setCell_same _ (w.heap.size + 1) 2 _ _ (.int .i64 b.n) q3
  have q5 := heap_setCell_same _ (w.heap.size + 1) 3 _ _ (.slice A1 b.v.length c1) q4
  refine bodyPost_ret (results_cell_row rfl _ _ (w.heap.size + 1) 38 #[.int .i64 b.o, .int .i64 b.c, .int .i64 b.n, .slice A1 b.v.length c1] (0, 0) _ rfl q5 Try.underlying38 rfl (by kernel_rfl)) rfl ?_
  refine ⟨A1, c1, rfl, ?_, ?_⟩
  · exact ((((o1.byteFar (by simp <;> omega)).byteFar (by simp <;> omega)).byteFar (by simp <;> omega)).byteFar (by simp <;> omega)).base_mono (by simp <;> omega)
  · exact (((((((Below.refl _ _).alloc (Nat.le_refl _) _).alloc (by simp) _).trans (b1.mono (by simp <;> omega))).setCell (by simp) _).setCell (by simp) _).setCell (by simp) _).setCell (by simp) _

end Go.Proofs.Ytjcbheeihckgmaa
