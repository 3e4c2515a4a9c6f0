/- Disks: Get, in both texts. -/
import Derived.Test.YtbahiohlhhdkcaaDoorDkn
set_option linter.unusedSimpArgs false
namespace Go.Proofs.YtbahiohlhhdkcaaDoor
open Go.RowKit

theorem place_hit : ∀ {l : List Fi} {n : Int} {i : Nat} (hi : i < l.length), Lows l n i → l[i].n = n → placeP l n = (i : Int)
  | f :: r, n, 0, _, _, he => by simp at he; simp [placeP, he]
  | f :: r, n, i + 1, hi, hl, he => by
    have h0 : f.n < n := by have := hl 0 (by simp) (by omega); simpa using this
    have h1 := place_hit (l := r) (n := n) (i := i) (by simpa using hi) (fun m hm hmi => by have := hl (m + 1) (by simpa using hm) (by omega); simpa using this) (by simpa using he)
    rw [placeP, if_neg (by omega), h1, if_neg (by omega)]
    omega
theorem place_none : ∀ {l : List Fi} {n : Int}, (∀ (i : Nat) (h : i < l.length), l[i].n ≠ n) → placeP l n = -1
  | [], _, _ => rfl
  | f :: r, n, h => by
    have h0 := h 0 (by simp)
    have h1 := place_none (l := r) (n := n) (fun i hi => by have := h (i + 1) (by simpa using hi); simpa using this)
    rw [placeP, if_neg (by simpa using h0), h1, if_pos (by omega)]
/-- what the search handed back, in plain words -/
theorem placed_place {l : List Fi} {n : Int} {i : Nat} {f : Bool} (hu : Up l) (h : i ≤ l.length ∧ Lows l n i ∧ Highs l n i ∧ (f = true ↔ ∃ h : i < l.length, l[i].n = n)) :
    (f = true ∧ placeP l n = (i : Int) ∧ i < l.length) ∨ (f = false ∧ placeP l n = -1) := by
  obtain ⟨hi, hl, hh, hf⟩ := h
  cases f with
  | true =>
    obtain ⟨h1, h2⟩ := hf.1 rfl
    exact .inl ⟨rfl, place_hit h1 hl h2, h1⟩
  | false =>
    refine .inr ⟨rfl, place_none fun j hj e => ?_⟩
    rcases Nat.lt_trichotomy j i with h1 | h1 | h1
    · have := hl j hj h1; omega
    · subst h1
      have := hf.2 ⟨hj, e⟩
      cases this
    · have h2 := hh i (by omega) (Nat.le_refl _)
      have h3 := hu i j h1 hj
      omega
def gtE (room : Int) (l : List Fi) (n : Int) : Int := if formedD room l then (if placeP l n < 0 then 16 else 0) else 1
def gtB (room : Int) (l : List Fi) (n : Int) : List UInt8 := if gtE room l n = 0 then (match l[(placeP l n).toNat]? with | some f => f.b | none => []) else []
theorem gt_bad {room : Int} {l : List Fi} {n : Int} (h : formedD room l = false) : gtE room l n = 1 ∧ gtB room l n = [] := by
  have e : gtE room l n = 1 := by unfold gtE; rw [h]; rfl
  exact ⟨e, by unfold gtB; rw [e]; rfl⟩
theorem gt_none {room : Int} {l : List Fi} {n : Int} (h : formedD room l = true) (h2 : placeP l n = -1) : gtE room l n = 16 ∧ gtB room l n = [] := by
  have e : gtE room l n = 16 := by unfold gtE; rw [h, h2]; rfl
  exact ⟨e, by unfold gtB; rw [e]; rfl⟩
theorem gt_ok {room : Int} {l : List Fi} {n : Int} {i : Nat} (h : formedD room l = true) (h2 : placeP l n = (i : Int)) (hi : i < l.length) : gtE room l n = 0 ∧ gtB room l n = l[i].b := by
  have e : gtE room l n = 0 := by unfold gtE; rw [h, if_pos rfl, if_neg (by omega)]
  exact ⟨e, by unfold gtB; rw [if_pos e, h2, Int.toNat_natCast, List.getElem?_eq_getElem hi]⟩
def Got (B : List UInt8) (E : Int) (w : World) (e : Ending) (w' : World) : Prop :=
  ∃ v', e = .returned (.tuple #[v', .int .i64 E]) ∧ Own u8E Any w' w.heap.size 5 v' B ∧ Below w.heap.size w w'

end Go.Proofs.YtbahiohlhhdkcaaDoor
