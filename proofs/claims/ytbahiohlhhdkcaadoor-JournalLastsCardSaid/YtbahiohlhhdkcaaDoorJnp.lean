/- The journal's scan: plain words, no program in sight. -/
import Derived.Test.YtbahiohlhhdkcaaDoorJnd
set_option linter.unusedSimpArgs false
namespace Go.Proofs.YtbahiohlhhdkcaaDoor

/-! the cut of all bytes -/
theorem stops_up {b : List UInt8} {k : Nat} (h : Stops b k) (j : Nat) (hj : k ≤ j) : Stops b j := by
  obtain ⟨m, rfl⟩ : ∃ m, j = k + m := ⟨j - k, by omega⟩
  unfold Stops
  rw [cutK_stay h m]
  exact h
theorem cutK_goes {b : List UInt8} : ∀ {k : Nat}, (∀ j, j < k → ¬ Stops b j) → (cutK b k).1.length = k
  | 0, _ => rfl
  | k + 1, h => by
    have h1 : openE (b.drop (cutK b k).2) = 0 := Decidable.byContradiction fun hn => h k (by omega) hn
    rw [cutK_yes h1]
    simp [cutK_goes (k := k) (fun j hj => h j (by omega))]
def ct (b : List UInt8) : List (List UInt8) × Nat := cutK b (b.length + 1)
def ctL (b : List UInt8) : List (List UInt8) := (ct b).1
def ctN (b : List UInt8) : Nat := (ct b).2
theorem ct_stops (b : List UInt8) : Stops b (b.length + 1) := by
  refine Classical.byContradiction fun hn => ?_
  have h1 : ∀ j, j < b.length + 1 → ¬ Stops b j := fun j hj h => hn (stops_up h _ (by omega))
  have h2 := cutK_goes h1
  have h3 := cutK_len b (b.length + 1)
  have h4 := cutK_le b (b.length + 1)
  omega
theorem ct_of {b : List UInt8} {k : Nat} (h : Stops b k) : cutK b k = ct b := cutK_one h (ct_stops b)
theorem ctN_le (b : List UInt8) : ctN b ≤ b.length := cutK_le b _
theorem ctL_len (b : List UInt8) : (ctL b).length * 8 ≤ ctN b := cutK_len b _

/-! a scan -/
def scL : List Fi → List (List UInt8)
  | [] => []
  | f :: r => ctL f.b ++ if ctN f.b < f.b.length then [] else scL r
def scF : List Fi → List Fi
  | [] => []
  | f :: r => ⟨f.n, f.b.take (ctN f.b), (ctN f.b : Int)⟩ :: if ctN f.b < f.b.length then [] else scF r
/-- was one of the first k torn? -/
def tnK : List Fi → Nat → Bool
  | [], _ => false
  | _ :: _, 0 => false
  | f :: r, k + 1 => decide (ctN f.b < f.b.length) || tnK r k
/-- the program's disk behind k files -/
def nwK : List Fi → Nat → List Fi
  | [], _ => []
  | f :: r, 0 => synced (f :: r)
  | f :: r, k + 1 => ⟨f.n, f.b.take (ctN f.b), (ctN f.b : Int)⟩ :: if ctN f.b < f.b.length then synced (r.drop k) else nwK r k
/-- the records behind k files -/
def rcK : List Fi → Nat → List (List UInt8)
  | [], _ => []
  | _ :: _, 0 => []
  | f :: r, k + 1 => ctL f.b ++ if ctN f.b < f.b.length then [] else rcK r k
/-- the document's disk behind k files, not yet synced -/
def ouK : List Fi → Nat → List Fi
  | [], _ => []
  | _ :: _, 0 => []
  | f :: r, k + 1 => ⟨f.n, f.b.take (ctN f.b), 0⟩ :: if ctN f.b < f.b.length then [] else ouK r k

theorem nwK_zero : ∀ l : List Fi, nwK l 0 = synced l
  | [] => rfl
  | _ :: _ => rfl
theorem rcK_zero : ∀ l : List Fi, rcK l 0 = []
  | [] => rfl
  | _ :: _ => rfl
theorem ouK_zero : ∀ l : List Fi, ouK l 0 = []
  | [] => rfl
  | _ :: _ => rfl
theorem tnK_zero : ∀ l : List Fi, tnK l 0 = false
  | [] => rfl
  | _ :: _ => rfl
theorem rcK_all : ∀ l : List Fi, rcK l l.length = scL l
  | [] => rfl
  | f :: r => by simp only [List.length_cons, rcK, scL, rcK_all r]
theorem nwK_all : ∀ l : List Fi, nwK l l.length = scF l
  | [] => rfl
  | f :: r => by
    simp only [List.length_cons, nwK, scF, nwK_all r, List.drop_length]
    rfl
theorem ouK_all : ∀ l : List Fi, synced (ouK l l.length) = scF l
  | [] => rfl
  | f :: r => by
    have ih := ouK_all r
    have hle := ctN_le f.b
    simp only [List.length_cons, ouK, scF, synced, List.map_cons] at *
    congr 1
    · rw [List.length_take, Nat.min_eq_left hle]
    · split
      · rfl
      · exact ih
theorem tnK_up : ∀ {l : List Fi} {k : Nat}, tnK l k = true → tnK l (k + 1) = true ∧ rcK l (k + 1) = rcK l k ∧ ouK l (k + 1) = ouK l k
  | [], _, h => by simp [tnK] at h
  | _ :: _, 0, h => by simp [tnK] at h
  | f :: r, k + 1, h => by
    simp only [tnK, rcK, ouK, Bool.or_eq_true, decide_eq_true_eq] at *
    by_cases e : ctN f.b < f.b.length
    · exact ⟨.inl e, by rw [if_pos e, if_pos e], by rw [if_pos e, if_pos e]⟩
    · obtain ⟨h1, h2, h3⟩ := tnK_up (h.resolve_left e)
      exact ⟨.inr h1, by rw [if_neg e, if_neg e, h2], by rw [if_neg e, if_neg e, h3]⟩
theorem tnK_end {l : List Fi} {k : Nat} (h : tnK l k = true) (hk : k ≤ l.length) : rcK l k = scL l ∧ synced (ouK l k) = scF l := by
  obtain ⟨m, hm⟩ : ∃ m, l.length = k + m := ⟨l.length - k, by omega⟩
  have go : ∀ m, tnK l (k + m) = true ∧ rcK l (k + m) = rcK l k ∧ ouK l (k + m) = ouK l k := fun m => by
    induction m with
    | zero => exact ⟨h, rfl, rfl⟩
    | succ m ih =>
      obtain ⟨h1, h2, h3⟩ := tnK_up ih.1
      exact ⟨h1, h2.trans ih.2.1, h3.trans ih.2.2⟩
  obtain ⟨_, h2, h3⟩ := go m
  rw [← hm] at h2 h3
  rw [← h2, ← h3, rcK_all, ouK_all]
  exact ⟨rfl, rfl⟩
/-- a round behind a torn file -/
theorem nwK_torn : ∀ {l : List Fi} {k : Nat}, tnK l k = true → (hk : k < l.length) → ∃ (j : Nat) (hj : j < (nwK l k).length), (nwK l k)[j].n = l[k].n ∧ nwK l (k + 1) = (nwK l k).eraseIdx j
  | [], _, h, _ => by simp [tnK] at h
  | _ :: _, 0, h, _ => by simp [tnK] at h
  | f :: r, k + 1, h, hk => by
    simp only [tnK, Bool.or_eq_true, decide_eq_true_eq] at h
    simp only [List.length_cons] at hk
    by_cases e : ctN f.b < f.b.length
    · refine ⟨1, by simp only [nwK, if_pos e, synced]; simp; omega, ?_, ?_⟩
      · simp only [nwK, if_pos e, synced]
        simp
      · simp only [nwK, if_pos e, synced]
        simp
    · obtain ⟨j, hj, h1, h2⟩ := nwK_torn (h.resolve_left e) (show k < r.length by omega)
      refine ⟨j + 1, by simp only [nwK, if_neg e]; simp; exact hj, ?_, ?_⟩
      · simp only [nwK, if_neg e]
        simpa using h1
      · simp only [nwK, if_neg e]
        simp [h2]
theorem take_all_ct {b : List UInt8} (h : ¬ ctN b < b.length) : b.take (ctN b) = b ∧ ctN b = b.length := by
  have := ctN_le b
  have e : ctN b = b.length := by omega
  exact ⟨by rw [e, List.take_length], e⟩
/-- a round with no torn file ahead -/
theorem whole_step : ∀ {l : List Fi} {k : Nat}, tnK l k = false → (hk : k < l.length) →
    nwK l k = synced l ∧ rcK l (k + 1) = rcK l k ++ ctL l[k].b ∧ ouK l (k + 1) = ouK l k ++ [⟨l[k].n, l[k].b.take (ctN l[k].b), 0⟩] ∧ tnK l (k + 1) = decide (ctN l[k].b < l[k].b.length) ∧
      nwK l (k + 1) = (synced l).set k ⟨l[k].n, l[k].b.take (ctN l[k].b), (ctN l[k].b : Int)⟩
  | [], _, _, hk => by simp at hk
  | f :: r, 0, _, _ => by
    refine ⟨rfl, ?_, ?_, ?_, ?_⟩
    · simp only [rcK, rcK_zero, List.getElem_cons_zero]; split <;> simp
    · simp only [ouK, ouK_zero, List.getElem_cons_zero]; split <;> simp
    · simp only [tnK, tnK_zero, List.getElem_cons_zero, Bool.or_false]
    · simp only [nwK, nwK_zero, List.drop_zero, List.getElem_cons_zero]
      split <;> simp [synced]
  | f :: r, k + 1, h, hk => by
    simp only [tnK, Bool.or_eq_false_iff, decide_eq_false_iff_not] at h
    simp only [List.length_cons] at hk
    obtain ⟨e, h⟩ := h
    obtain ⟨h1, h2, h3, h4, h5⟩ := whole_step h (show k < r.length by omega)
    obtain ⟨t1, t2⟩ := take_all_ct e
    have hs : synced (f :: r) = ⟨f.n, f.b, f.b.length⟩ :: synced r := rfl
    refine ⟨?_, ?_, ?_, ?_, ?_⟩
    · rw [hs]; simp only [nwK, if_neg e, t1, h1]; rw [t2]
    · simp only [rcK, if_neg e, List.getElem_cons_succ]; rw [h2, List.append_assoc]
    · simp only [ouK, if_neg e, List.getElem_cons_succ]; rw [h3]; rfl
    · simp only [tnK, List.getElem_cons_succ]; rw [h4]; simp [e]
    · rw [hs]; simp only [nwK, if_neg e, t1, List.getElem_cons_succ, List.set_cons_succ]; rw [h5, t2]
/-! what stays formed -/
theorem fineF_left : ∀ {l : List Fi} {last last' left left' : Int}, fineF last left l = true → last' ≤ last → (sizeD l : Int) ≤ left' → fineF last' left' l = true
  | [], _, _, _, _, _, _, _ => rfl
  | f :: r, last, last', left, left', h, h1, h2 => by
    simp only [fineF, Bool.and_eq_true, decide_eq_true_eq, sizeD] at *
    refine ⟨by omega, fineF_left h.2 (Int.le_refl _) (by omega)⟩
theorem fine_synced : ∀ {l : List Fi} {last left : Int}, fineF last left l = true → fineF last left (synced l) = true
  | [], _, _, _ => rfl
  | f :: r, last, left, h => by
    simp only [fineF, Bool.and_eq_true, decide_eq_true_eq, synced, List.map_cons] at *
    exact ⟨by omega, fine_synced h.2⟩
theorem size_synced : ∀ l : List Fi, sizeD (synced l) = sizeD l
  | [] => rfl
  | f :: r => by
    have ih := size_synced r
    simp only [synced, List.map_cons, sizeD] at *
    omega
theorem size_drop : ∀ (l : List Fi) (k : Nat), sizeD (l.drop k) ≤ sizeD l
  | [], k => by simp
  | f :: r, 0 => by simp
  | f :: r, k + 1 => by have := size_drop r k; simp only [List.drop_succ_cons, sizeD]; omega
theorem fine_drop : ∀ {l : List Fi} {last left : Int} (k : Nat), fineF last left l = true → 0 ≤ left → fineF last left (l.drop k) = true
  | [], _, _, k, _, _ => by simp [fineF]
  | f :: r, last, left, 0, h, _ => h
  | f :: r, last, left, k + 1, h, h0 => by
    have hs := fineF_size h h0
    simp only [fineF, Bool.and_eq_true, decide_eq_true_eq, List.drop_succ_cons, sizeD] at *
    have hd := fine_drop k h.2 (by omega)
    have := size_drop r k
    exact fineF_left hd (by omega) (by omega)
theorem fine_nwK : ∀ {l : List Fi} {last left : Int} (k : Nat), fineF last left l = true → 0 ≤ left → fineF last left (nwK l k) = true ∧ sizeD (nwK l k) ≤ sizeD l
  | [], _, _, _, _, _ => ⟨rfl, Nat.le_refl _⟩
  | f :: r, last, left, 0, h, _ => ⟨fine_synced h, by rw [nwK_zero, size_synced]; exact Nat.le_refl _⟩
  | f :: r, last, left, k + 1, h, h0 => by
    have hs := fineF_size h h0
    have hle := ctN_le f.b
    simp only [fineF, Bool.and_eq_true, decide_eq_true_eq, sizeD] at h hs
    have hl : (f.b.take (ctN f.b)).length = ctN f.b := by rw [List.length_take, Nat.min_eq_left hle]
    have hrest : fineF f.n (left - f.b.length) (if ctN f.b < f.b.length then synced (r.drop k) else nwK r k) = true ∧ sizeD (if ctN f.b < f.b.length then synced (r.drop k) else nwK r k) ≤ sizeD r := by
      split
      · exact ⟨fine_synced (fine_drop k h.2 (by omega)), by rw [size_synced]; exact size_drop r k⟩
      · exact fine_nwK k h.2 (by omega)
    simp only [nwK, fineF, Bool.and_eq_true, decide_eq_true_eq, sizeD, hl]
    exact ⟨⟨by omega, fineF_left hrest.1 (Int.le_refl _) (by omega)⟩, by omega⟩
theorem formed_nwK {room : Int} {l : List Fi} (k : Nat) (h : formedD room l = true) : formedD room (nwK l k) = true := by
  simp only [formedD, Bool.and_eq_true, decide_eq_true_eq] at *
  exact ⟨h.1, (fine_nwK k h.2 h.1.1).1⟩
theorem formed_scF {room : Int} {l : List Fi} (h : formedD room l = true) : formedD room (scF l) = true := by
  rw [← nwK_all]; exact formed_nwK _ h
theorem formed_synced {room : Int} {l : List Fi} (h : formedD room l = true) : formedD room (synced l) = true := by
  rw [← nwK_zero]; exact formed_nwK _ h
theorem fine_ouK : ∀ {l : List Fi} {last left : Int} (k : Nat), fineF last left l = true → 0 ≤ left → fineF last left (ouK l k) = true ∧ sizeD (ouK l k) ≤ sizeD l
  | [], _, _, _, _, _ => ⟨rfl, Nat.le_refl _⟩
  | f :: r, last, left, 0, _, _ => ⟨rfl, Nat.zero_le _⟩
  | f :: r, last, left, k + 1, h, h0 => by
    have hs := fineF_size h h0
    have hle := ctN_le f.b
    simp only [fineF, Bool.and_eq_true, decide_eq_true_eq, sizeD] at h hs
    have hl : (f.b.take (ctN f.b)).length = ctN f.b := by rw [List.length_take, Nat.min_eq_left hle]
    have hrest : fineF f.n (left - f.b.length) (if ctN f.b < f.b.length then [] else ouK r k) = true ∧ sizeD (if ctN f.b < f.b.length then [] else ouK r k) ≤ sizeD r := by
      split
      · exact ⟨rfl, Nat.zero_le _⟩
      · exact fine_ouK k h.2 (by omega)
    simp only [ouK, fineF, Bool.and_eq_true, decide_eq_true_eq, sizeD, hl]
    exact ⟨⟨by omega, fineF_left hrest.1 (Int.le_refl _) (by omega)⟩, by omega⟩
theorem formed_ouK {room : Int} {l : List Fi} (k : Nat) (h : formedD room l = true) : formedD room (ouK l k) = true := by
  simp only [formedD, Bool.and_eq_true, decide_eq_true_eq] at *
  exact ⟨h.1, (fine_ouK k h.2 h.1.1).1⟩
theorem rcK_len : ∀ (l : List Fi) (k : Nat), (rcK l k).length * 8 ≤ sizeD l
  | [], _ => by simp [rcK]
  | _ :: _, 0 => by simp [rcK]
  | f :: r, k + 1 => by
    have ih := rcK_len r k
    have h1 := ctL_len f.b
    have h2 := ctN_le f.b
    simp only [rcK, sizeD, List.length_append]
    split
    · simp; omega
    · omega
theorem ouK_len : ∀ (l : List Fi) (k : Nat), (ouK l k).length ≤ l.length
  | [], _ => by simp [ouK]
  | _ :: _, 0 => by simp [ouK]
  | f :: r, k + 1 => by
    have ih := ouK_len r k
    simp only [ouK, List.length_cons]
    split
    · simp
    · omega
/-! what the disk answers -/
theorem up_place {l : List Fi} (hu : Up l) {j : Nat} (hj : j < l.length) : placeP l l[j].n = (j : Int) :=
  place_hit hj (fun m _ hm => hu m j hm hj) rfl
theorem rm_round {room : Int} {l : List Fi} {k : Nat} (hf : formedD room l = true) (ht : tnK l k = true) (hk : k < l.length) :
    gtE room (nwK l k) l[k].n = 0 ∧ idR room (nwK l k) l[k].n = room ∧ rmF room (nwK l k) l[k].n = nwK l (k + 1) := by
  obtain ⟨j, hj, h1, h2⟩ := nwK_torn ht hk
  have hfn := formed_nwK k hf
  have hp := up_place (formedD_up hfn) hj
  rw [h1] at hp
  obtain ⟨g1, _, g3⟩ := id_ok hfn hp hj
  exact ⟨g1, g3, by rw [rm_ok g1 hp, h2]⟩
theorem synced_get {l : List Fi} {k : Nat} (hk : k < l.length) (_ : k < (synced l).length) : (synced l)[k] = ⟨l[k].n, l[k].b, l[k].b.length⟩ := by simp [synced]
theorem synced_len (l : List Fi) : (synced l).length = l.length := by simp [synced]
theorem ct_round {room : Int} {l : List Fi} {k : Nat} (hf : formedD room l = true) (hk : k < l.length) (hn : ctN l[k].b < l[k].b.length) :
    ctE room (synced l) l[k].n (ctN l[k].b : Int) = 0 ∧ ctR room (synced l) l[k].n (ctN l[k].b : Int) = room ∧ ctF room (synced l) l[k].n (ctN l[k].b : Int) = (synced l).set k ⟨l[k].n, l[k].b.take (ctN l[k].b), (ctN l[k].b : Int)⟩ := by
  have hfs := formed_synced hf
  have hks : k < (synced l).length := by rw [synced_len]; exact hk
  have hp := up_place (formedD_up hfs) hks
  have hg := synced_get hk hks
  rw [hg] at hp
  have h3 : ctN l[k].b ≤ (synced l)[k].b.length := by rw [hg]; exact ctN_le _
  obtain ⟨c1, c2, c3⟩ := ct_ok hfs hp hks h3
  refine ⟨c1, c3, ?_⟩
  rw [c2, hg]
  simp only
  rw [if_pos (by omega)]
/-- the answer of a scan -/
def saE (room : Int) (l : List Fi) : Int := if formedD room l then 0 else 1
def saL (room : Int) (l : List Fi) : List (List UInt8) := if formedD room l then scL l else []
def saF (room : Int) (l : List Fi) : List Fi := if formedD room l then scF l else []
def saR (room : Int) (l : List Fi) : Int := if formedD room l then room else 0
end Go.Proofs.YtbahiohlhhdkcaaDoor
