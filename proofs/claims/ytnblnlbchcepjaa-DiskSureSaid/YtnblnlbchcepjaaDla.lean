/- Disks: what was synced is there behind appends and a crash: the plain law. -/
import Derived.Test.YtnblnlbchcepjaaDkz
import Derived.Test.YtnblnlbchcepjaaDky
namespace Go.Proofs.Ytnblnlbchcepjaa

def look : List Fi → Int → Option Fi
  | [], _ => none
  | f :: r, n => if f.n = n then some f else look r n
theorem look_place : ∀ (l : List Fi) (n : Int), (look l n = none ∧ placeP l n = -1) ∨ ∃ (i : Nat) (h : i < l.length), placeP l n = (i : Int) ∧ look l n = some l[i]
  | [], n => .inl ⟨rfl, rfl⟩
  | f :: r, n => by
    unfold look placeP
    by_cases e : f.n = n
    · rw [if_pos e, if_pos e]
      exact .inr ⟨0, by simp, rfl, rfl⟩
    · rw [if_neg e, if_neg e]
      rcases look_place r n with ⟨h1, h2⟩ | ⟨i, hi, h1, h2⟩
      · exact .inl ⟨h1, by rw [h2, if_pos (by omega)]⟩
      · exact .inr ⟨i + 1, by simpa using hi, by rw [h1, if_neg (by omega)]; omega, by simpa using h2⟩
theorem look_num : ∀ {l : List Fi} {n : Int} {f : Fi}, look l n = some f → f.n = n ∧ f ∈ l
  | [], _, _, h => by cases h
  | x :: r, n, f, h => by
    unfold look at h
    split at h
    · rename_i e; injection h with h; subst h; exact ⟨e, by simp⟩
    · obtain ⟨h1, h2⟩ := look_num h; exact ⟨h1, by simp [h2]⟩
theorem gt_look_none {room : Int} {l : List Fi} {n : Int} (hf : formedD room l = true) (h : look l n = none) : gtE room l n = 16 ∧ gtB room l n = [] := by
  rcases look_place l n with ⟨_, h2⟩ | ⟨i, hi, _, h2⟩
  · exact gt_none hf h2
  · rw [h] at h2; cases h2
theorem gt_look_some {room : Int} {l : List Fi} {n : Int} {f : Fi} (hf : formedD room l = true) (h : look l n = some f) : gtE room l n = 0 ∧ gtB room l n = f.b := by
  rcases look_place l n with ⟨h1, _⟩ | ⟨i, hi, h1, h2⟩
  · rw [h] at h1; cases h1
  · rw [h] at h2
    injection h2 with h2
    subst h2
    exact gt_ok hf h1 hi
theorem fineF_left : ∀ {l : List Fi} {last last' left left' : Int}, fineF last left l = true → last' ≤ last → (sizeD l : Int) ≤ left' → fineF last' left' l = true
  | [], _, _, _, _, _, _, _ => rfl
  | f :: r, last, last', left, left', h, h1, h2 => by
    simp only [fineF, Bool.and_eq_true, decide_eq_true_eq, sizeD] at *
    refine ⟨by omega, fineF_left h.2 (Int.le_refl _) (by omega)⟩
theorem look_low : ∀ {l : List Fi} {last left n : Int}, fineF last left l = true → n ≤ last → look l n = none
  | [], _, _, _, _, _ => rfl
  | f :: r, last, left, n, h, hn => by
    simp only [fineF, Bool.and_eq_true, decide_eq_true_eq] at h
    unfold look
    rw [if_neg (by omega)]
    exact look_low h.2 (by omega)
/-! synced -/
theorem look_synced : ∀ (l : List Fi) (n : Int), look (synced l) n = (look l n).map fun f => ⟨f.n, f.b, f.b.length⟩
  | [], _ => rfl
  | f :: r, n => by
    have ih := look_synced r n
    simp only [synced, List.map_cons, look] at *
    split
    · rfl
    · exact ih
theorem fine_synced : ∀ {l : List Fi} {last left : Int}, fineF last left l = true → fineF last left (synced l) = true
  | [], _, _, _ => rfl
  | f :: r, last, left, h => by
    simp only [fineF, Bool.and_eq_true, decide_eq_true_eq, synced, List.map_cons] at *
    exact ⟨by omega, fine_synced h.2⟩
/-! append -/
theorem fine_app1 : ∀ {l : List Fi} {last left k : Int} {b : List UInt8}, fineF last left l = true → last < k → k ≤ 1048576 → (sizeD l : Int) + b.length ≤ left → fineF last left (app1 l k b) = true
  | [], last, left, k, b, _, h1, h2, h3 => by simp [app1, fineF, sizeD] at *; omega
  | f :: r, last, left, k, b, h, h1, h2, h3 => by
    simp only [fineF, Bool.and_eq_true, decide_eq_true_eq, sizeD] at h h3
    unfold app1
    split
    · rename_i hk
      simp only [fineF, Bool.and_eq_true, decide_eq_true_eq]
      exact ⟨by omega, by omega, fineF_left h.2 (Int.le_refl _) (by omega)⟩
    · split
      · rename_i hk e
        simp only [fineF, Bool.and_eq_true, decide_eq_true_eq, List.length_append]
        exact ⟨by omega, fineF_left h.2 (Int.le_refl _) (by omega)⟩
      · rename_i hk e
        simp only [fineF, Bool.and_eq_true, decide_eq_true_eq]
        exact ⟨by omega, fine_app1 h.2 (by omega) h2 (by omega)⟩
theorem look_app1 : ∀ {l : List Fi} {last left k : Int} {b : List UInt8} (n : Int), fineF last left l = true →
    look (app1 l k b) n = if n = k then some (match look l k with | some f => ⟨f.n, f.b ++ b, f.s⟩ | none => ⟨k, b, 0⟩) else look l n
  | [], last, left, k, b, n, _ => by
    simp only [app1, look]
    by_cases e : n = k
    · rw [if_pos e, if_pos e.symm]
    · rw [if_neg e, if_neg (fun h => e h.symm)]
  | f :: r, last, left, k, b, n, h => by
    simp only [fineF, Bool.and_eq_true, decide_eq_true_eq] at h
    unfold app1
    by_cases hk : k < f.n
    · rw [if_pos hk]
      have h0 : look (f :: r) k = none := by
        unfold look; rw [if_neg (by omega)]; exact look_low h.2 (by omega)
      rw [h0]
      by_cases e : n = k
      · rw [if_pos e]; unfold look; rw [if_pos e.symm]
      · rw [if_neg e]; conv => lhs; unfold look
        rw [if_neg (fun h => e h.symm)]
    · rw [if_neg hk]
      by_cases e : f.n = k
      · rw [if_pos e]
        have h0 : look (f :: r) k = some f := by unfold look; rw [if_pos e]
        rw [h0]
        by_cases en : n = k
        · rw [if_pos en]; unfold look; rw [if_pos (by show f.n = n; omega)]
        · rw [if_neg en]
          unfold look
          rw [if_neg (by show ¬ f.n = n; omega), if_neg (by omega)]
      · rw [if_neg e]
        have ih := look_app1 (l := r) (k := k) (b := b) n h.2
        have h0 : look (f :: r) k = look r k := by conv => lhs; unfold look
                                                   rw [if_neg e]
        rw [h0]
        conv => lhs; unfold look
        by_cases en : f.n = n
        · rw [if_pos en, if_neg (by omega)]
          unfold look
          rw [if_pos en]
        · rw [if_neg en, ih]
          split
          · rfl
          · conv => rhs; unfold look
            rw [if_neg en]
/-! crash -/
def crL : List Fi → Int → List Fi
  | [], _ => []
  | f :: r, k => crOne k f :: crL r (k - crN k f)
theorem cr_list : ∀ (l a : List Fi) (k j : Int), ∃ k' j', l.foldl crS (a, k, j) = (a ++ crL l k, k', j') ∧
    (j' = j ∨ ∃ (i : Nat) (f : Fi) (q : Int), j' = ((a.length + i : Nat) : Int) ∧ l[i]? = some f ∧ (crL l k)[i]? = some (crOne q f) ∧ 0 < crN q f)
  | [], a, k, j => ⟨k, j, by simp [crL], .inl rfl⟩
  | f :: r, a, k, j => by
    obtain ⟨k', j', h1, h2⟩ := cr_list r (a ++ [crOne k f]) (k - crN k f) (if 0 < crN k f then (a.length : Int) else j)
    refine ⟨k', j', ?_, ?_⟩
    · rw [List.foldl_cons]
      show r.foldl crS (a ++ [crOne k f], k - crN k f, if 0 < crN k f then (a.length : Int) else j) = _
      rw [h1]; simp [crL]
    · rcases h2 with h2 | ⟨i, g, q, h3, h4, h5, h6⟩
      · by_cases h0 : 0 < crN k f
        · rw [if_pos h0] at h2
          exact .inr ⟨0, f, k, by simpa using h2, rfl, rfl, h0⟩
        · rw [if_neg h0] at h2
          exact .inl h2
      · exact .inr ⟨i + 1, g, q, by simp at h3 ⊢; omega, by simpa using h4, by simpa [crL] using h5, h6⟩
theorem crOne_fine {f : Fi} {k : Int} (hk : 0 ≤ k) (h0 : 0 ≤ f.s) (h1 : f.s ≤ (f.b.length : Int)) :
    (crOne k f).n = f.n ∧ f.s ≤ (crOne k f).s ∧ (crOne k f).s = ((crOne k f).b.length : Int) ∧ (crOne k f).b.length ≤ f.b.length ∧ 0 ≤ k - crN k f ∧ (crOne k f).b = f.b.take (crOne k f).b.length ∧ (crOne k f).s = f.s + crN k f := by
  have h := crN_in (f := f) hk h1
  have hl : (crOne k f).b.length = (f.s + crN k f).toNat := by simp [crOne]; omega
  refine ⟨rfl, by simp [crOne]; omega, by rw [hl]; simp only [crOne]; omega, by rw [hl]; omega, by omega, by rw [hl]; rfl, rfl⟩
theorem look_crL : ∀ {l : List Fi} {last left k : Int} (n : Int), fineF last left l = true → 0 ≤ k → (look l n = none ∧ look (crL l k) n = none) ∨ ∃ f q, look l n = some f ∧ look (crL l k) n = some (crOne q f) ∧ 0 ≤ q
  | [], _, _, _, _, _, _ => .inl ⟨rfl, rfl⟩
  | f :: r, last, left, k, n, h, hk => by
    simp only [fineF, Bool.and_eq_true, decide_eq_true_eq] at h
    have hc := crOne_fine (f := f) hk (by omega) (by omega)
    unfold crL look
    by_cases e : f.n = n
    · rw [if_pos e, if_pos (by rw [hc.1]; exact e)]
      exact .inr ⟨f, k, rfl, rfl, hk⟩
    · rw [if_neg e, if_neg (by rw [hc.1]; exact e)]
      exact look_crL n h.2 hc.2.2.2.2.1
theorem fine_crL : ∀ {l : List Fi} {last left k : Int}, fineF last left l = true → 0 ≤ k → fineF last left (crL l k) = true ∧ sizeD (crL l k) ≤ sizeD l
  | [], _, _, _, _, _ => ⟨rfl, Nat.le_refl _⟩
  | f :: r, last, left, k, h, hk => by
    simp only [fineF, Bool.and_eq_true, decide_eq_true_eq] at h
    have hc := crOne_fine (f := f) hk (by omega) (by omega)
    obtain ⟨i1, i2⟩ := fine_crL h.2 hc.2.2.2.2.1
    have hs := fineF_size h.2 (by omega)
    unfold crL
    simp only [fineF, Bool.and_eq_true, decide_eq_true_eq, sizeD]
    exact ⟨⟨by omega, by rw [hc.1]; exact fineF_left i1 (Int.le_refl _) (by omega)⟩, by omega⟩
theorem look_get : ∀ {l : List Fi} {last left : Int} {i : Nat} {f : Fi}, fineF last left l = true → l[i]? = some f → look l f.n = some f ∧ last < f.n
  | x :: r, last, left, 0, f, h, hi => by
    simp only [fineF, Bool.and_eq_true, decide_eq_true_eq] at h
    simp at hi; subst hi
    exact ⟨by unfold look; rw [if_pos rfl], by omega⟩
  | x :: r, last, left, i + 1, f, h, hi => by
    simp only [fineF, Bool.and_eq_true, decide_eq_true_eq] at h
    obtain ⟨h1, h2⟩ := look_get (i := i) h.2 (by simpa using hi)
    exact ⟨by unfold look; rw [if_neg (by omega)]; exact h1, by omega⟩
  | [], _, _, _, _, _, hi => by simp at hi
theorem fine_setb : ∀ {l : List Fi} {last left : Int} {i : Nat} {f : Fi} {b : List UInt8}, fineF last left l = true → l[i]? = some f → b.length = f.b.length → fineF last left (l.set i ⟨f.n, b, f.s⟩) = true
  | x :: r, last, left, 0, f, b, h, hi, hb => by
    simp only [fineF, Bool.and_eq_true, decide_eq_true_eq, List.set_cons_zero] at *
    simp at hi; subst hi
    rw [hb]
    exact ⟨by omega, h.2⟩
  | x :: r, last, left, i + 1, f, b, h, hi, hb => by
    simp only [fineF, Bool.and_eq_true, decide_eq_true_eq, List.set_cons_succ] at *
    exact ⟨h.1, fine_setb h.2 (by simpa using hi) hb⟩
  | [], _, _, _, _, _, _, hi, _ => by simp at hi
theorem look_setb : ∀ {l : List Fi} {last left : Int} {i : Nat} {f : Fi} {b : List UInt8} (n : Int), fineF last left l = true → l[i]? = some f → look (l.set i ⟨f.n, b, f.s⟩) n = if n = f.n then some ⟨f.n, b, f.s⟩ else look l n
  | x :: r, last, left, 0, f, b, n, h, hi => by
    simp at hi; subst hi
    simp only [List.set_cons_zero, look]
    by_cases e : n = x.n
    · rw [if_pos e, if_pos e.symm]
    · rw [if_neg e, if_neg (fun h => e h.symm), if_neg (fun h => e h.symm)]
  | x :: r, last, left, i + 1, f, b, n, h, hi => by
    simp only [fineF, Bool.and_eq_true, decide_eq_true_eq] at h
    have hi' : r[i]? = some f := by simpa using hi
    obtain ⟨_, h2⟩ := look_get (i := i) h.2 hi'
    have ih := look_setb (b := b) n h.2 hi'
    simp only [List.set_cons_succ, look]
    by_cases e : x.n = n
    · rw [if_pos e, if_pos e, if_neg (by omega)]
    · rw [if_neg e, if_neg e, ih]
  | [], _, _, _, _, _, _, _, hi => by simp at hi
theorem take_get {l m : List UInt8} (h : l = m.take l.length) (i : Nat) (h1 : i < l.length) (h2 : i < m.length) : l[i] = m[i] := by
  have : l[i]? = m[i]? := by
    rw [h, List.getElem?_take, if_pos h1]
  rw [List.getElem?_eq_getElem h1, List.getElem?_eq_getElem h2] at this
  exact Option.some.inj this
theorem crN_pos {q : Int} {f : Fi} (h : 0 < crN q f) : 0 ≤ q := by
  unfold crN at h; split at h <;> omega
/-- what a crash leaves -/
theorem crash_look {l : List Fi} {room keep : Int} (t : UInt8) (hf : formedD room l = true) (hk : 0 ≤ keep) :
    formedD room (flipAt (cr l keep).1 (cr l keep).2.2 t) = true ∧ ∃ J : Int, ∀ n, (look l n = none ∧ look (flipAt (cr l keep).1 (cr l keep).2.2 t) n = none) ∨
      ∃ f g, look l n = some f ∧ look (flipAt (cr l keep).1 (cr l keep).2.2 t) n = some g ∧ f.s ≤ (g.b.length : Int) ∧ g.b.length ≤ f.b.length ∧
        ∀ (i : Nat) (h : i < g.b.length) (h' : i < f.b.length), g.b[i] ≠ f.b[i] → n = J ∧ i + 1 = g.b.length ∧ f.s ≤ (i : Int) := by
  simp only [formedD, Bool.and_eq_true, decide_eq_true_eq] at hf ⊢
  obtain ⟨hr, hfl⟩ := hf
  obtain ⟨k', j', h1, h2⟩ := cr_list l [] keep (-1)
  have h1' : cr l keep = (crL l keep, k', j') := by unfold cr; rw [h1]; rfl
  rw [h1']
  obtain ⟨hfc, _⟩ := fine_crL hfl hk
  have hlow := fun f hf => fineF_low hfl f hf
  have base : ∀ n, (look l n = none ∧ look (crL l keep) n = none) ∨ ∃ f g, look l n = some f ∧ look (crL l keep) n = some g ∧ f.s ≤ (g.b.length : Int) ∧ g.b.length ≤ f.b.length ∧ g.b = f.b.take g.b.length := fun n => by
    rcases look_crL (k := keep) n hfl hk with h | ⟨f, q, a, b, c⟩
    · exact .inl h
    · have hm := hlow f (look_num a).2
      have hc := crOne_fine (f := f) c (by omega) (by omega)
      exact .inr ⟨f, _, a, b, by omega, hc.2.2.2.1, hc.2.2.2.2.2.1⟩
  rcases h2 with rfl | ⟨i, f0, q, h3, h4, h5, h6⟩
  · rw [flipAt_none]
    refine ⟨⟨hr, hfc⟩, -1, fun n => ?_⟩
    rcases base n with h | ⟨f, g, a, b, c, d, e⟩
    · exact .inl h
    · exact .inr ⟨f, g, a, b, c, d, fun i h h' hne => absurd (take_get e i h h') hne⟩
  · have hj : j' = (i : Int) := by simpa using h3
    subst hj
    have hm := hlow f0 (List.mem_iff_getElem?.2 ⟨i, h4⟩)
    have hc := crOne_fine (f := f0) (crN_pos h6) (by omega) (by omega)
    have hlen : (crOne q f0).b.length - 1 < (crOne q f0).b.length := by omega
    rw [flipAt_some h5 hlen]
    refine ⟨⟨hr, fine_setb hfc h5 (by simp)⟩, f0.n, fun n => ?_⟩
    rw [look_setb n hfc h5]
    obtain ⟨g1, _⟩ := look_get hfl h4
    by_cases e : n = (crOne q f0).n
    · rw [if_pos e]
      have e' : n = f0.n := by rw [e, hc.1]
      subst e'
      refine .inr ⟨f0, _, g1, rfl, by simp; omega, by simp; omega, fun m hm hm' hne => ⟨rfl, ?_⟩⟩
      have hml : m < (crOne q f0).b.length := by simpa using hm
      by_cases em : m = (crOne q f0).b.length - 1
      · constructor
        · simp; omega
        · omega
      · exfalso
        apply hne
        show ((crOne q f0).b.set ((crOne q f0).b.length - 1) _)[m] = f0.b[m]
        rw [List.getElem_set_ne (fun h => em h.symm)]
        exact take_get hc.2.2.2.2.2.1 m hml hm'
    · rw [if_neg e]
      rcases base n with h | ⟨f, g, a, b, c, d, e2⟩
      · exact .inl h
      · exact .inr ⟨f, g, a, b, c, d, fun i h h' hne => absurd (take_get e2 i h h') hne⟩
/-! the law's own state: what is sure, and all -/
structure Inv (l : List Fi) (su al : List (List UInt8)) : Prop where
  fd : formedD 4096 l = true
  lsu : su.length = 4
  lal : al.length = 4
  lo : ∀ (k : Nat), k < 4 → (look l (k : Int) = none ∧ al[k]? = some [] ∧ su[k]? = some []) ∨ ∃ f s, look l (k : Int) = some f ∧ al[k]? = some f.b ∧ su[k]? = some s ∧ (s.length : Int) = f.s ∧ s = f.b.take s.length
theorem Inv.start : Inv [] [[], [], [], []] [[], [], [], []] where
  fd := rfl
  lsu := rfl
  lal := rfl
  lo k hk := .inl (by
    refine ⟨rfl, ?_⟩
    match k, hk with
    | 0, _ => exact ⟨rfl, rfl⟩
    | 1, _ => exact ⟨rfl, rfl⟩
    | 2, _ => exact ⟨rfl, rfl⟩
    | 3, _ => exact ⟨rfl, rfl⟩)
theorem Inv.sync {l : List Fi} {su al : List (List UInt8)} (h : Inv l su al) : syE 4096 l = 0 ∧ syR 4096 l = 4096 ∧ Inv (syF 4096 l) al al := by
  have hfd := h.fd
  refine ⟨by unfold syE; rw [hfd]; rfl, by unfold syR; rw [hfd]; rfl, ?_⟩
  unfold syF
  rw [hfd, if_pos rfl]
  refine ⟨?_, h.lal, h.lal, fun k hk => ?_⟩
  · simp only [formedD, Bool.and_eq_true] at hfd ⊢
    exact ⟨hfd.1, fine_synced hfd.2⟩
  · rw [look_synced]
    rcases h.lo k hk with ⟨a, b, c⟩ | ⟨f, s, a, b, c, d, e⟩
    · exact .inl ⟨by rw [a]; rfl, b, b⟩
    · exact .inr ⟨⟨f.n, f.b, f.b.length⟩, f.b, by rw [a]; rfl, b, b, rfl, by simp⟩
theorem Inv.full {l : List Fi} {su al : List (List UInt8)} (h : Inv l su al) {k : Int} {b : List UInt8} (h0 : 0 ≤ k) (h1 : k < 4) (hb : ¬ (b.length : Int) ≤ 4096 - sizeD l) : apE 4096 l k b = 7 ∧ usedD 4096 l = (sizeD l : Int) := by
  refine ⟨?_, by unfold usedD; rw [if_pos h.fd]⟩
  unfold apE
  rw [if_pos ⟨h.fd, h0, by omega⟩, if_neg hb]
theorem Inv.app {l : List Fi} {su al : List (List UInt8)} (h : Inv l su al) {k : Nat} {b x : List UInt8} (h1 : k < 4) (hb : (b.length : Int) ≤ 4096 - sizeD l) (hx : al[k]? = some x) :
    apE 4096 l (k : Int) b = 0 ∧ apR 4096 l (k : Int) b = 4096 ∧ Inv (apF 4096 l (k : Int) b) su (al.set k (x ++ b)) := by
  have hfd := h.fd
  have e : apE 4096 l (k : Int) b = 0 := by
    unfold apE
    rw [if_pos ⟨hfd, by omega, by omega⟩, if_pos hb]
  refine ⟨e, by unfold apR; rw [if_pos e], ?_⟩
  unfold apF
  rw [if_pos e]
  simp only [formedD, Bool.and_eq_true] at hfd
  refine ⟨?_, h.lsu, by rw [List.length_set]; exact h.lal, fun n hn => ?_⟩
  · simp only [formedD, Bool.and_eq_true]
    exact ⟨hfd.1, fine_app1 hfd.2 (by omega) (by omega) (by omega)⟩
  · rw [look_app1 (n : Int) hfd.2]
    by_cases hnk : n = k
    · subst hnk
      rw [if_pos rfl, List.getElem?_set_self (List.getElem?_eq_some_iff.1 hx).1]
      rcases h.lo n hn with ⟨a, c, d⟩ | ⟨f, s, a, c, d, e1, e2⟩
      · rw [a]
        rw [hx] at c
        injection c with c
        subst c
        exact .inr ⟨⟨n, b, 0⟩, [], rfl, by simp, d, rfl, rfl⟩
      · rw [a]
        rw [hx] at c
        injection c with c
        subst c
        refine .inr ⟨⟨f.n, f.b ++ b, f.s⟩, s, rfl, rfl, d, e1, ?_⟩
        have hls : s.length ≤ f.b.length := by rw [e2]; simp; omega
        show s = (f.b ++ b).take s.length
        rw [List.take_append_of_le_length hls]
        exact e2
    · rw [if_neg (by omega), List.getElem?_set_ne (fun h => hnk h.symm)]
      exact h.lo n hn
/-- behind a crash -/
theorem Inv.crash {l : List Fi} {su al : List (List UInt8)} (h : Inv l su al) {keep turn : Int} (h0 : 0 ≤ keep) (h1 : 0 ≤ turn) (h2 : turn ≤ 255) :
    crE 4096 l keep turn = 0 ∧ crR 4096 l keep turn = 4096 ∧ formedD 4096 (crF 4096 l keep turn) = true ∧ ∃ J : Int, ∀ (k : Nat), k < 4 →
      ∃ s a, su[k]? = some s ∧ al[k]? = some a ∧ ((gtE 4096 (crF 4096 l keep turn) (k : Int) = 16 ∧ a = []) ∨
        (gtE 4096 (crF 4096 l keep turn) (k : Int) = 0 ∧ s.length ≤ (gtB 4096 (crF 4096 l keep turn) (k : Int)).length ∧ (gtB 4096 (crF 4096 l keep turn) (k : Int)).length ≤ a.length ∧
          ∀ (i : Nat) (h : i < (gtB 4096 (crF 4096 l keep turn) (k : Int)).length) (h' : i < a.length), (gtB 4096 (crF 4096 l keep turn) (k : Int))[i] ≠ a[i] → (k : Int) = J ∧ i + 1 = (gtB 4096 (crF 4096 l keep turn) (k : Int)).length ∧ s.length ≤ i)) := by
  have hok : crOk 4096 l keep turn := ⟨h.fd, h0, h1, h2⟩
  have e : crF 4096 l keep turn = flipAt (cr l keep).1 (cr l keep).2.2 (UInt8.ofNat turn.toNat) := by unfold crF; rw [if_pos hok]
  obtain ⟨c1, J, c2⟩ := crash_look (UInt8.ofNat turn.toNat) h.fd h0
  rw [← e] at c1 c2
  refine ⟨by unfold crE; rw [if_pos hok], by unfold crR; rw [if_pos hok], c1, J, fun k hk => ?_⟩
  rcases h.lo k hk with ⟨a, b, c⟩ | ⟨f, s, a, b, c, d, e2⟩
  · rcases c2 (k : Int) with ⟨_, d2⟩ | ⟨f, g, d1, _⟩
    · exact ⟨[], [], c, b, .inl ⟨(gt_look_none c1 d2).1, rfl⟩⟩
    · rw [a] at d1; cases d1
  · rcases c2 (k : Int) with ⟨d1, _⟩ | ⟨f', g, d1, d2, d3, d4, d5⟩
    · rw [a] at d1; cases d1
    · rw [a] at d1
      injection d1 with d1
      subst d1
      obtain ⟨g1, g2⟩ := gt_look_some c1 d2
      refine ⟨s, f.b, c, b, .inr ⟨g1, ?_⟩⟩
      rw [g2]
      exact ⟨by omega, d4, fun i hi hi' hne => by obtain ⟨x, y, z⟩ := d5 i hi hi' hne; exact ⟨x, y, by omega⟩⟩
end Go.Proofs.Ytnblnlbchcepjaa
