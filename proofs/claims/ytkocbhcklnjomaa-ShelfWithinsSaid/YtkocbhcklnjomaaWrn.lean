/- Shelves: one write put, in plain words. -/
import Derived.Test.YtkocbhcklnjomaaWrm
namespace Go.Proofs.Ytkocbhcklnjomaa
open Go.RowKit

def newer (y x : Wr) : Bool := decide (cmpS y.c y.n x.c x.n < 0)
def put1 : List Wr → Wr → List Wr
  | [], x => [x]
  | y :: l, x => if x.o < y.o then x :: y :: l else if y.o = x.o then (if newer y x then x :: l else y :: l) else y :: put1 l x
theorem put1_miss {l : List Wr} {x : Wr} {i : Nat} (hi : i ≤ l.length) (hl : Lows l x.o i) (hh : Highs l x.o i) (hn : ∀ h : i < l.length, l[i].o ≠ x.o) : put1 l x = l.insertIdx i x := by
  induction l generalizing i with
  | nil => simp at hi; subst hi; rfl
  | cons y l ih =>
    cases i with
    | zero =>
      have h1 := hh 0 (by simp) (Nat.le_refl _)
      have h2 := hn (by simp)
      simp at h1 h2
      simp only [put1]
      rw [if_pos (by omega)]; rfl
    | succ i =>
      have h1 := hl 0 (by simp) (by omega)
      simp at h1 hi
      simp only [put1]
      rw [if_neg (by omega), if_neg (by omega), ih hi (fun m h hm => hl (m + 1) (by simpa using h) (by omega)) (fun m h hm => hh (m + 1) (by simpa using h) (by omega)) (fun h => hn (by simpa using h))]
      rfl
theorem put1_hit {l : List Wr} {x : Wr} {i : Nat} (hi : i < l.length) (hl : Lows l x.o i) (he : l[i].o = x.o) : put1 l x = if newer l[i] x then l.set i x else l := by
  induction l generalizing i with
  | nil => simp at hi
  | cons y l ih =>
    cases i with
    | zero =>
      simp at he
      simp only [put1]
      rw [if_neg (by omega), if_pos he]
      split <;> simp_all
    | succ i =>
      have h1 := hl 0 (by simp) (by omega)
      simp at h1 hi he
      simp only [put1]
      rw [if_neg (by omega), if_neg (by omega), ih hi (fun m h hm => hl (m + 1) (by simpa using h) (by omega)) he]
      simp only [List.getElem_cons_succ]
      split <;> simp
theorem formedA_put1 {l : List Wr} {x : Wr} {d : Int} (h : formedA d l = true) (hd : d < x.o) (hx : rightW x = true) : formedA d (put1 l x) = true := by
  induction l generalizing d with
  | nil => simp [put1, formedA, hx, hd]
  | cons y l ih =>
    simp only [formedA, Bool.and_eq_true, decide_eq_true_eq] at h
    obtain ⟨⟨h1, h2⟩, h3⟩ := h
    simp only [put1]
    split
    · simp [formedA, hx, hd, h1, h3]; assumption
    · split
      · rename_i he
        split
        · simp only [formedA, hx, Bool.true_and, Bool.and_eq_true, decide_eq_true_eq]; exact ⟨hd, by rw [← he]; exact h3⟩
        · simp [formedA, h1, h2, h3]
      · simp only [formedA, h1, Bool.true_and, Bool.and_eq_true, decide_eq_true_eq]
        exact ⟨h2, ih h3 (by omega)⟩
theorem formedA_low {l : List Wr} {d : Int} (h : formedA d l = true) : ∀ y ∈ l, d < y.o ∧ rightW y = true := by
  induction l generalizing d with
  | nil => simp
  | cons y l ih =>
    simp only [formedA, Bool.and_eq_true, decide_eq_true_eq] at h
    obtain ⟨⟨h1, h2⟩, h3⟩ := h
    intro z hz
    rcases List.mem_cons.1 hz with rfl | hz
    · exact ⟨h2, h1⟩
    · have := ih h3 z hz; exact ⟨by omega, this.2⟩
theorem formedA_up {l : List Wr} {d : Int} (h : formedA d l = true) : Up l := by
  induction l generalizing d with
  | nil => intro i j _ hj; simp at hj
  | cons y l ih =>
    simp only [formedA, Bool.and_eq_true, decide_eq_true_eq] at h
    obtain ⟨⟨h1, h2⟩, h3⟩ := h
    intro i j hij hj
    cases j with
    | zero => omega
    | succ j =>
      simp at hj
      cases i with
      | zero => exact (formedA_low h3 _ (List.getElem_mem hj)).1
      | succ i => exact ih h3 i j (by omega) hj
theorem formedA_len {l : List Wr} {d : Int} (h : formedA d l = true) (hd : d ≤ 255) : (l.length : Int) ≤ 255 - d := by
  induction l generalizing d with
  | nil => simp; omega
  | cons y l ih =>
    simp only [formedA, Bool.and_eq_true, decide_eq_true_eq] at h
    obtain ⟨⟨h1, h2⟩, h3⟩ := h
    have h4 : y.o ≤ 255 := by simp [rightW] at h1; omega
    have := ih h3 h4
    simp; omega
end Go.Proofs.Ytkocbhcklnjomaa
