/- Plain laws of frames, more: frames one behind the other are cut as they were, cut anywhere those that are whole. -/
import Derived.Test.YtameigjggdagpaaDoorFlp
namespace Go.Proofs.YtameigjggdagpaaDoor

def fl (L : List (List UInt8)) : List UInt8 := L.flatMap sealed
def endsOf (L : List (List UInt8)) (k : Nat) : List Int := (List.range k).map fun j => ((fl (L.take (j + 1))).length : Int)
theorem fl_snoc (L : List (List UInt8)) {k : Nat} (h : k < L.length) : fl (L.take (k + 1)) = fl (L.take k) ++ sealed L[k] := by
  unfold fl
  rw [List.take_succ_eq_append_getElem h, List.flatMap_append]
  simp
theorem endsOf_snoc (L : List (List UInt8)) (k : Nat) : endsOf L (k + 1) = endsOf L k ++ [((fl (L.take (k + 1))).length : Int)] := by
  unfold endsOf
  rw [List.range_succ, List.map_append]
  rfl
theorem fl_split (L : List (List UInt8)) (k : Nat) : fl L = fl (L.take k) ++ fl (L.drop k) := by
  unfold fl
  rw [← List.flatMap_append, List.take_append_drop]
theorem fl_le (L : List (List UInt8)) (k : Nat) : (fl (L.take k)).length ≤ (fl L).length := by
  have := congrArg List.length (fl_split L k)
  rw [List.length_append] at this
  omega
theorem fl_bound (L : List (List UInt8)) (h : ∀ x ∈ L, x.length ≤ 4096) : (fl L).length ≤ L.length * 4104 := by
  induction L with
  | nil => simp [fl]
  | cons x L ih =>
    have h1 := ih (fun y hy => h y (List.mem_cons_of_mem _ hy))
    have h2 := h x List.mem_cons_self
    have : fl (x :: L) = sealed x ++ fl L := by simp [fl]
    rw [this, List.length_append, sealed_length, List.length_cons]
    omega

theorem cut_seq (L : List (List UInt8)) (r : List UInt8) (h : ∀ x ∈ L, x.length ≤ 1048576) : ∀ k, k ≤ L.length → cutK (fl L ++ r) k = (L.take k, (fl (L.take k)).length) := by
  intro k
  induction k with
  | zero => intro _; rfl
  | succ k ih =>
    intro hk
    have ih := ih (by omega)
    have hd : (fl L ++ r).drop (cutK (fl L ++ r) k).2 = sealed L[k] ++ (fl (L.drop (k + 1)) ++ r) := by
      rw [ih]
      show (fl L ++ r).drop (fl (L.take k)).length = _
      rw [fl_split L k, List.append_assoc, List.drop_left]
      have : L.drop k = L[k] :: L.drop (k + 1) := List.drop_eq_getElem_cons (by omega)
      rw [this]
      show sealed L[k] ++ fl (L.drop (k + 1)) ++ r = _
      rw [List.append_assoc]
    have ho := sealed_open L[k] (fl (L.drop (k + 1)) ++ r) (h _ (List.getElem_mem _))
    rw [cutK_yes (by rw [hd]; exact ho.1), hd, ho.2.1, ho.2.2, ih]
    show ((L.take k) ++ [L[k]], (fl (L.take k)).length + (8 + L[k].length)) = _
    rw [fl_snoc L (by omega), List.length_append, sealed_length, List.take_succ_eq_append_getElem (by omega)]
theorem cut_stops (L : List (List UInt8)) (r : List UInt8) (h : ∀ x ∈ L, x.length ≤ 1048576) (hr : openE r ≠ 0) : Stops (fl L ++ r) L.length := by
  unfold Stops
  rw [cut_seq L r h L.length (Nat.le_refl _)]
  show openE ((fl L ++ r).drop (fl (L.take L.length)).length) ≠ 0
  rw [List.take_length, List.drop_left]
  exact hr
/-- a beginning of a frame is none -/
theorem begun_open (p : List UInt8) (h : p.length ≤ 1048576) (m : Nat) (hm : m < (sealed p).length) : openE ((sealed p).take m) ≠ 0 := by
  rw [sealed_length] at hm
  have hl : ((sealed p).take m).length = m := by rw [List.length_take, sealed_length]; omega
  unfold openE
  rw [hl]
  by_cases h8 : m < 8
  · rw [if_pos h8]; decide
  · have hn : num ((sealed p).take m) = p.length := by
      have := sealed_num p [] h
      rw [List.append_nil] at this
      rw [← this]
      unfold num
      rw [List.take_take, Nat.min_eq_left (by omega)]
    rw [hn, if_neg h8, if_neg (by omega), if_pos (by omega)]
    decide

/-- all of it, cut -/
theorem cut_all (L : List (List UInt8)) (h : ∀ x ∈ L, x.length ≤ 1048576) {k : Nat} (hk : Stops (fl L) k) : cutK (fl L) k = (L, (fl L).length) := by
  have hs := cut_stops L [] h (by decide)
  have hq := cut_seq L [] h L.length (Nat.le_refl _)
  rw [List.append_nil] at hs hq
  rw [cutK_one hk hs, hq, List.take_length]
/-- cut anywhere: those that are whole -/
theorem cut_at (L : List (List UInt8)) (h : ∀ x ∈ L, x.length ≤ 1048576) (a k : Nat) (hk : k ≤ L.length) (h1 : (fl (L.take k)).length ≤ a) (h2 : k < L.length → a < (fl (L.take (k + 1))).length)
    {j : Nat} (hj : Stops ((fl L).take a) j) : cutK ((fl L).take a) j = (L.take k, (fl (L.take k)).length) := by
  have hcut : ∃ r, (fl L).take a = fl (L.take k) ++ r ∧ openE r ≠ 0 := by
    refine ⟨(fl (L.drop k)).take (a - (fl (L.take k)).length), ?_, ?_⟩
    · rw [fl_split L k, List.take_append, List.take_of_length_le h1]
    · by_cases hkl : k < L.length
      · have hd : L.drop k = L[k] :: L.drop (k + 1) := List.drop_eq_getElem_cons hkl
        have h3 := h2 hkl
        rw [fl_snoc L hkl, List.length_append] at h3
        have e : fl (L.drop k) = sealed L[k] ++ fl (L.drop (k + 1)) := by unfold fl; rw [hd, List.flatMap_cons]
        rw [e, List.take_append_of_le_length (by omega)]
        exact begun_open _ (h _ (List.getElem_mem _)) _ (by omega)
      · have : L.drop k = [] := List.drop_eq_nil_of_le (by omega)
        rw [this]
        simp [fl]
        decide
  obtain ⟨r, hr, hro⟩ := hcut
  have hh : ∀ x ∈ L.take k, x.length ≤ 1048576 := fun x hx => h x (List.mem_of_mem_take hx)
  have hs := cut_stops (L.take k) r hh hro
  have hq := cut_seq (L.take k) r hh (L.take k).length (Nat.le_refl _)
  rw [hr] at hj ⊢
  rw [cutK_one hj hs, hq, List.take_length]
end Go.Proofs.YtameigjggdagpaaDoor
