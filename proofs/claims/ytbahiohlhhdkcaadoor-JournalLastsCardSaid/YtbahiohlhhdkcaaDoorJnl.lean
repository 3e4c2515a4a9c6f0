/- The journal: records in files: plain laws, no program in sight. -/
import Derived.Test.YtbahiohlhhdkcaaDoorJng
import Derived.Test.YtbahiohlhhdkcaaDoorJnr
import Derived.Test.YtbahiohlhhdkcaaDoorFlq
set_option linter.unusedSimpArgs false
namespace Go.Proofs.YtbahiohlhhdkcaaDoor

theorem open_sealed {r : List UInt8} (h : openE r = 0) : r.take (openN r) = sealed (openP r) ∧ (openP r).length ≤ 1048576 := by
  have hN : openN r = 8 + num r := by unfold openN; rw [if_pos h]
  have hP : openP r = payload r := by unfold openP; rw [if_pos h]
  unfold openE at h
  split at h
  · omega
  · rename_i h8
    split at h
    · omega
    · rename_i hm
      split at h
      · omega
      · rename_i hl
        split at h
        · rename_i hc
          have hs := sealed_iff (l := r) (by omega) (by omega)
          rw [decide_eq_true hc, beq_iff_eq] at hs
          rw [hN, hP]
          refine ⟨hs.symm, ?_⟩
          unfold payload
          rw [List.length_take]
          omega
        · omega
theorem cutK_fl (b : List UInt8) : ∀ k, b.take (cutK b k).2 = fl (cutK b k).1 ∧ ∀ p ∈ (cutK b k).1, p.length ≤ 1048576
  | 0 => ⟨rfl, by simp [cutK]⟩
  | k + 1 => by
    obtain ⟨h1, h2⟩ := cutK_fl b k
    by_cases h : openE (b.drop (cutK b k).2) = 0
    · rw [cutK_yes h]
      obtain ⟨h3, h4⟩ := open_sealed h
      refine ⟨?_, fun p hp => ?_⟩
      · show b.take ((cutK b k).2 + openN (b.drop (cutK b k).2)) = fl ((cutK b k).1 ++ [openP (b.drop (cutK b k).2)])
        rw [List.take_add, h1, h3]
        unfold fl
        simp
      · rcases List.mem_append.1 hp with hp | hp
        · exact h2 p hp
        · simp at hp; subst hp; exact h4
    · have e : cutK b (k + 1) = cutK b k := cutK_no h
      rw [e]
      exact ⟨h1, h2⟩
theorem ct_fl (b : List UInt8) : b.take (ctN b) = fl (ctL b) ∧ ∀ p ∈ ctL b, p.length ≤ 1048576 := cutK_fl b _
theorem ct_all {L : List (List UInt8)} (h : ∀ x ∈ L, x.length ≤ 1048576) : ctL (fl L) = L ∧ ctN (fl L) = (fl L).length := by
  have := cut_all L h (ct_stops (fl L))
  unfold ctL ctN ct
  rw [this]
  exact ⟨rfl, rfl⟩
theorem ct_again (b : List UInt8) : ctL (b.take (ctN b)) = ctL b ∧ ctN (b.take (ctN b)) = ctN b := by
  obtain ⟨h1, h2⟩ := ct_fl b
  have h3 : (b.take (ctN b)).length = ctN b := by rw [List.length_take, Nat.min_eq_left (ctN_le b)]
  obtain ⟨h4, h5⟩ := ct_all h2
  rw [← h1] at h4 h5
  exact ⟨h4, h5.trans h3⟩
theorem fl_app (L M : List (List UInt8)) : fl (L ++ M) = fl L ++ fl M := by unfold fl; rw [List.flatMap_append]
theorem fl_one (p : List UInt8) : fl [p] = sealed p := by simp [fl]
/-- no file is torn -/
def Wh (l : List Fi) : Prop := ∀ f ∈ l, ctN f.b = f.b.length
def recs (l : List Fi) : List (List UInt8) := l.flatMap fun f => ctL f.b
theorem recs_app (l m : List Fi) : recs (l ++ m) = recs l ++ recs m := by unfold recs; rw [List.flatMap_append]
theorem recs_one (f : Fi) : recs [f] = ctL f.b := by simp [recs]
theorem wh_scan : ∀ {l : List Fi}, Wh l → scL l = recs l ∧ scF l = synced l
  | [], _ => ⟨rfl, rfl⟩
  | f :: r, h => by
    have h1 := h f (by simp)
    obtain ⟨i1, i2⟩ := wh_scan (l := r) (fun g hg => h g (by simp [hg]))
    have hn : ¬ ctN f.b < f.b.length := by omega
    simp only [scL, scF, if_neg hn, recs, List.flatMap_cons, synced, List.map_cons]
    refine ⟨by rw [i1]; rfl, ?_⟩
    rw [h1, List.take_length, i2]
    rfl
theorem scF_wh : ∀ l : List Fi, Wh (scF l) ∧ recs (scF l) = scL l ∧ synced (scF l) = scF l
  | [] => ⟨fun f hf => by simp [scF] at hf, rfl, rfl⟩
  | f :: r => by
    obtain ⟨i1, i2, i3⟩ := scF_wh r
    obtain ⟨a1, a2⟩ := ct_again f.b
    have hl : (f.b.take (ctN f.b)).length = ctN f.b := by rw [List.length_take, Nat.min_eq_left (ctN_le _)]
    have hrest : Wh (if ctN f.b < f.b.length then [] else scF r) ∧ recs (if ctN f.b < f.b.length then [] else scF r) = (if ctN f.b < f.b.length then [] else scL r) ∧ synced (if ctN f.b < f.b.length then [] else scF r) = (if ctN f.b < f.b.length then [] else scF r) := by
      split
      · exact ⟨fun f hf => by simp at hf, rfl, rfl⟩
      · exact ⟨i1, i2, i3⟩
    simp only [scF, scL]
    refine ⟨fun g hg => ?_, ?_, ?_⟩
    · rcases List.mem_cons.1 hg with rfl | hg
      · show ctN (f.b.take (ctN f.b)) = (f.b.take (ctN f.b)).length
        rw [a2, hl]
      · exact hrest.1 g hg
    · show recs (_ :: _) = _
      unfold recs
      rw [List.flatMap_cons]
      show ctL (f.b.take (ctN f.b)) ++ _ = _
      rw [a1]
      have := hrest.2.1
      unfold recs at this
      rw [this]
    · show synced (_ :: _) = _
      unfold synced
      rw [List.map_cons]
      have := hrest.2.2
      unfold synced at this
      rw [this]
      congr 1
      show Fi.mk f.n (f.b.take (ctN f.b)) ((f.b.take (ctN f.b)).length : Int) = _
      rw [hl]
theorem scan_again (l : List Fi) : scL (scF l) = scL l ∧ scF (scF l) = scF l := by
  obtain ⟨h1, h2, h3⟩ := scF_wh l
  obtain ⟨h4, h5⟩ := wh_scan h1
  exact ⟨h4.trans h2, h5.trans h3⟩
theorem wh_fl {f : Fi} (h : ctN f.b = f.b.length) : f.b = fl (ctL f.b) ∧ ∀ p ∈ ctL f.b, p.length ≤ 1048576 := by
  obtain ⟨h1, h2⟩ := ct_fl f.b
  rw [h, List.take_length] at h1
  exact ⟨h1, h2⟩
/-- a frame more -/
theorem ct_more {b p : List UInt8} (h : ctN b = b.length) (hp : p.length ≤ 1048576) : ctL (b ++ sealed p) = ctL b ++ [p] ∧ ctN (b ++ sealed p) = (b ++ sealed p).length := by
  obtain ⟨h1, h2⟩ := ct_fl b
  rw [h, List.take_length] at h1
  have h3 : b ++ sealed p = fl (ctL b ++ [p]) := by rw [fl_app, fl_one, ← h1]
  have h4 := ct_all (L := ctL b ++ [p]) (fun x hx => by
    rcases List.mem_append.1 hx with hx | hx
    · exact h2 x hx
    · simp at hx; subst hx; exact hp)
  rw [← h3] at h4
  exact h4
theorem ct_nil : ctL [] = [] ∧ ctN [] = 0 := by
  have := ct_all (L := []) (by simp)
  exact this
theorem ct_first {p : List UInt8} (hp : p.length ≤ 1048576) : ctL (sealed p) = [p] ∧ ctN (sealed p) = (sealed p).length := by
  have := ct_more (b := []) (p := p) (by rw [ct_nil.2]; rfl) hp
  rw [ct_nil.1] at this
  simpa using this
/-- a new last file -/
theorem app1_end : ∀ {l : List Fi} {n : Int} {b : List UInt8}, (∀ f ∈ l, f.n < n) → app1 l n b = l ++ [⟨n, b, 0⟩]
  | [], _, _, _ => rfl
  | f :: r, n, b, h => by
    have h0 := h f (by simp)
    unfold app1
    rw [if_neg (by omega), if_neg (by omega), app1_end (fun g hg => h g (by simp [hg]))]
    rfl
theorem app1_last {l : List Fi} {f : Fi} {b : List UInt8} (h : Up (l ++ [f])) : app1 (l ++ [f]) f.n b = l ++ [⟨f.n, f.b ++ b, f.s⟩] := by
  have hk : l.length < (l ++ [f]).length := by simp
  have hg : (l ++ [f])[l.length] = f := by simp
  have := app1_hit (b := b) hk (fun m _ hm => by have := h m l.length hm hk; rw [hg] at this; exact this) (by rw [hg])
  rw [hg] at this
  rw [this]
  simp
theorem snoc_of {l : List Fi} (h : l.length ≠ 0) : ∃ m f, l = m ++ [f] := by
  have hne : l ≠ [] := fun e => h (by rw [e]; rfl)
  exact ⟨l.dropLast, l.getLast hne, (List.dropLast_concat_getLast hne).symm⟩
theorem lastD_snoc {room : Int} {m : List Fi} {f : Fi} (h : formedD room (m ++ [f]) = true) : lastD room (m ++ [f]) = f.n := by
  have := lastD_ok h (by simp)
  rw [this]
  simp
theorem formed_all {room : Int} {l : List Fi} (h : formedD room l = true) : ∀ f ∈ l, 0 ≤ f.n ∧ f.n ≤ 1048576 ∧ 0 ≤ f.s ∧ f.s ≤ (f.b.length : Int) := by
  simp only [formedD, Bool.and_eq_true] at h
  intro f hf
  have := fineF_low h.2 f hf
  omega
theorem up_last {m : List Fi} {f : Fi} (h : Up (m ++ [f])) : ∀ g ∈ m, g.n < f.n := by
  intro g hg
  obtain ⟨i, hi, rfl⟩ := List.getElem_of_mem hg
  have := h i m.length hi (by simp)
  simpa [List.getElem_append_left hi] using this
theorem fine_app1 : ∀ {l : List Fi} {last left k : Int} {b : List UInt8}, fineF last left l = true → last < k → k ≤ 1048576 → (sizeD l : Int) + b.length ≤ left → fineF last left (app1 l k b) = true
  | [], last, left, k, b, _, h1, h2, h3 => by simp [app1, fineF, sizeD] at *; omega
  | f :: r, last, left, k, b, h, h1, h2, h3 => by
    simp only [fineF, Bool.and_eq_true, decide_eq_true_eq, sizeD] at h h3
    unfold app1
    split
    · rename_i hk
      simp only [fineF, Bool.and_eq_true, decide_eq_true_eq]
      exact ⟨by omega, by omega, fineF_left h.2 (Int.le_refl _) (by omega)⟩
    · split
      · rename_i hk e
        simp only [fineF, Bool.and_eq_true, decide_eq_true_eq, List.length_append]
        exact ⟨by omega, fineF_left h.2 (Int.le_refl _) (by omega)⟩
      · rename_i hk e
        simp only [fineF, Bool.and_eq_true, decide_eq_true_eq]
        exact ⟨by omega, fine_app1 h.2 (by omega) h2 (by omega)⟩
theorem formed_app {room : Int} {l : List Fi} {n : Int} {b : List UInt8} (h : apE room l n b = 0) : formedD room (apF room l n b) = true ∧ apF room l n b = app1 l n b ∧ apR room l n b = room := by
  refine ⟨?_, by unfold apF; rw [if_pos h], by unfold apR; rw [if_pos h]⟩
  unfold apF
  rw [if_pos h]
  unfold apE at h
  split at h
  · rename_i hc
    split at h
    · rename_i hs
      have hf := hc.1
      simp only [formedD, Bool.and_eq_true] at hf ⊢
      exact ⟨hf.1, fine_app1 hf.2 (by omega) hc.2.2 (by omega)⟩
    · omega
  · omega
theorem wh_synced {l : List Fi} (h : Wh l) : Wh (synced l) ∧ recs (synced l) = recs l := by
  constructor
  · intro f hf
    obtain ⟨g, hg, rfl⟩ := List.mem_map.1 hf
    exact h g hg
  · unfold recs synced
    rw [List.flatMap_map]
/-- what an append of a record to a disk of whole files leaves -/
theorem st_whole {room : Int} {l : List Fi} {p : List UInt8} (hf : formedD room l = true) (h : stE room l (sealed p) = 0) :
    stF room l (sealed p) = synced l ++ [⟨nextD room l, sealed p, 0⟩] ∧ stR room l (sealed p) = room ∧ formedD room (stF room l (sealed p)) = true := by
  unfold stE at h
  split at h
  · omega
  · rename_i hn
    obtain ⟨h1, h2, h3⟩ := formed_app h
    have hfs := formed_synced hf
    have hlt : ∀ g ∈ synced l, g.n < nextD room l := by
      intro g hg
      obtain ⟨g', hg', rfl⟩ := List.mem_map.1 hg
      show g'.n < _
      by_cases h0 : l.length = 0
      · have : l = [] := List.eq_nil_of_length_eq_zero h0
        subst this; simp at hg'
      · obtain ⟨m, f, rfl⟩ := snoc_of h0
        have hl := lastD_snoc hf
        have hall := formed_all hf f (by simp)
        unfold nextD
        rw [hl, if_neg (by omega)]
        rcases List.mem_append.1 hg' with hg' | hg'
        · have := up_last (formedD_up hf) g' hg'; omega
        · simp at hg'; subst hg'; omega
    unfold stF stR
    rw [if_neg hn, if_neg hn, h2, h3, app1_end hlt]
    rw [h2, app1_end hlt] at h1
    exact ⟨rfl, rfl, h1⟩
theorem ja_whole {room : Int} {l : List Fi} {p : List UInt8} (hf : formedD room l = true) (hw : Wh l) (hp : p.length ≤ 1048576) (h : jaE room l p = 0) :
    jaR room l p = room ∧ formedD room (jaF room l p) = true ∧ Wh (jaF room l p) ∧ recs (jaF room l p) = recs l ++ [p] ∧
      ((jhere l p ∧ ∃ m f, l = m ++ [f] ∧ jaF room l p = m ++ [⟨f.n, f.b ++ sealed p, f.s⟩]) ∨ (¬ jhere l p ∧ jaF room l p = synced l ++ [⟨nextD room l, sealed p, 0⟩])) := by
  have hj : jok room l p := ⟨hf, hp⟩
  unfold jaE at h
  unfold jaR jaF
  rw [if_pos hj] at h ⊢
  rw [if_pos hj]
  obtain ⟨c1, c2⟩ := ct_first hp
  by_cases hh : jhere l p
  · rw [if_pos hh] at h ⊢
    rw [if_pos hh]
    have h0 : l.length ≠ 0 := by
      obtain ⟨f, h1, _⟩ := hh
      intro e
      rw [e] at h1
      have : l = [] := List.eq_nil_of_length_eq_zero e
      subst this
      simp at h1
    obtain ⟨m, f, rfl⟩ := snoc_of h0
    obtain ⟨h1, h2, h3⟩ := formed_app h
    have hl := lastD_snoc hf
    rw [hl] at h1 h2 h3 ⊢
    rw [app1_last (formedD_up hf)] at h2
    rw [h2] at h1
    rw [h2, h3]
    have hwf := hw f (by simp)
    obtain ⟨d1, d2⟩ := ct_more hwf hp
    refine ⟨rfl, h1, fun g hg => ?_, ?_, .inl ⟨hh, m, f, rfl, rfl⟩⟩
    · rcases List.mem_append.1 hg with hg | hg
      · exact hw g (by simp [hg])
      · simp at hg; subst hg; exact d2
    · rw [recs_app, recs_app, recs_one, recs_one, List.append_assoc]
      show recs m ++ ctL (f.b ++ sealed p) = _
      rw [d1]
  · rw [if_neg hh] at h ⊢
    rw [if_neg hh]
    obtain ⟨h1, h2, h3⟩ := st_whole hf h
    rw [h1] at h3
    rw [h1, h2]
    obtain ⟨w1, w2⟩ := wh_synced hw
    refine ⟨rfl, h3, fun g hg => ?_, ?_, .inr ⟨hh, rfl⟩⟩
    · rcases List.mem_append.1 hg with hg | hg
      · exact w1 g hg
      · simp at hg; subst hg; exact c2
    · rw [recs_app, w2, recs_one]
      show recs l ++ ctL (sealed p) = _
      rw [c1]
/-- which errors an append has -/
theorem ja_err {room : Int} {l : List Fi} {p : List UInt8} (hf : formedD room l = true) : jaE room l p = 0 ∨ jaE room l p = 15 ∨ jaE room l p = 7 ∨ (jaE room l p = 1 ∧ 1048576 < p.length) := by
  unfold jaE
  by_cases hp : p.length ≤ 1048576
  · rw [if_pos ⟨hf, hp⟩]
    split
    · rename_i hh
      obtain ⟨f, h1, _⟩ := hh
      have hlt := (List.getElem?_eq_some_iff.1 h1).1
      have hl := lastD_ok hf hlt
      have hall := formed_all hf _ (List.getElem_mem hlt)
      unfold apE
      rw [hl, if_pos ⟨hf, by omega, by omega⟩]
      split
      · exact .inl rfl
      · exact .inr (.inr (.inl rfl))
    · unfold stE
      split
      · exact .inr (.inl rfl)
      · rename_i hn
        have hl := lastD_in hf
        unfold apE
        rw [if_pos ⟨formed_synced hf, by unfold nextD; split <;> omega, by omega⟩]
        split
        · exact .inl rfl
        · exact .inr (.inr (.inl rfl))
  · rw [if_neg (fun h => hp h.2)]
    exact .inr (.inr (.inr ⟨rfl, by omega⟩))
end Go.Proofs.YtbahiohlhhdkcaaDoor
