/- Disks: the document's Append, in plain words. -/
import Derived.Test.YtbahiohlhhdkcaaDoorDkk
namespace Go.Proofs.YtbahiohlhhdkcaaDoor
open Go.RowKit

def reb : List Fi → Int → List Fi
  | [], n => [⟨n, [], 0⟩]
  | f :: r, n => if n < f.n then ⟨n, [], 0⟩ :: f :: r else f :: reb r n
theorem reb_place : ∀ {l : List Fi} {n : Int} (b : List UInt8), placeP l n < 0 → ∃ j : Nat, (reb l n)[j]? = some ⟨n, [], 0⟩ ∧ placeP (reb l n) n = (j : Int) ∧ (reb l n).set j ⟨n, b, 0⟩ = app1 l n b
  | [], n, b, _ => ⟨0, rfl, by simp [reb, placeP], rfl⟩
  | f :: r, n, b, h => by
    simp only [placeP] at h
    split at h
    · omega
    · rename_i hne
      simp only [reb, app1]
      split
      · exact ⟨0, rfl, by simp [placeP], rfl⟩
      · have hr : placeP r n < 0 := by split at h <;> omega
        obtain ⟨j, h1, h2, h3⟩ := reb_place (l := r) b hr
        refine ⟨j + 1, by simpa using h1, ?_, by simp [h3]⟩
        rw [placeP, if_neg hne, if_neg (by omega), h2]
        omega
theorem place_get : ∀ {l : List Fi} {n : Int}, 0 ≤ placeP l n → ∃ (j : Nat) (h : j < l.length), placeP l n = (j : Int) ∧ l[j].n = n
  | [], n, h => by simp [placeP] at h
  | f :: r, n, h => by
    simp only [placeP] at h ⊢
    by_cases e : f.n = n
    · exact ⟨0, by simp, by rw [if_pos e]; rfl, e⟩
    · rw [if_neg e] at h ⊢
      have hr : 0 ≤ placeP r n := by
        rcases Int.lt_or_le (placeP r n) 0 with h1 | h1
        · rw [if_pos h1] at h; omega
        · exact h1
      obtain ⟨j, hj, h1, h2⟩ := place_get hr
      exact ⟨j + 1, by simpa using hj, by rw [if_neg (by omega), h1]; omega, by simpa using h2⟩
theorem place_app {l : List Fi} {n : Int} {b : List UInt8} (hu : Up l) {j : Nat} (hj : j < l.length) (he : l[j].n = n) : app1 l n b = l.set j ⟨l[j].n, l[j].b ++ b, l[j].s⟩ :=
  app1_hit hj (fun m hm hmj => by have := hu m j hmj hj; omega) he
theorem reb_len : ∀ (l : List Fi) (n : Int), (reb l n).length = l.length + 1
  | [], _ => rfl
  | f :: r, n => by
    simp only [reb]
    split
    · rfl
    · simp [reb_len r n]
/-- one empty file more -/
theorem FP.snoc0 {B : Nat} {w w4 w5 : World} {v v' : Value} {fs : List Fi} {us : List Value} {n : Int} (h : FP (BO B) B w v fs us fs.length) (hB : B ≤ w.heap.size)
    (b4 : Below w.heap.size w w4) (o5 : Own trE Any w5 B 50 v' (tris fs us ++ [⟨.int .i64 n, .slice none 0 0, .int .i64 0⟩])) (g5 : w4.grownBy w5 v.ownBlock) (hv : v'.ownBlock = v.ownBlock ∨ v'.ownBlock = some w4.heap.size) :
    FP (BO B) B w5 v' (fs ++ [(⟨n, [], 0⟩ : Fi)]) (us ++ [.slice none 0 0]) (fs ++ [(⟨n, [], 0⟩ : Fi)]).length :=
  h.snoc (f := ⟨n, [], 0⟩) (w3 := w) (Below.refl _ _) hB Own.nil b4 o5 g5 hv
end Go.Proofs.YtbahiohlhhdkcaaDoor
