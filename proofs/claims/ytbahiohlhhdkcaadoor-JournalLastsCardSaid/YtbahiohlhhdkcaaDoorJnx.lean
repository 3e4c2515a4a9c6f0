/- The journal: what was written is there behind a crash (plain laws); deeds done to an empty disk. -/
import Derived.Test.YtbahiohlhhdkcaaDoorJns
import Derived.Test.YtbahiohlhhdkcaaDoorDkp
import Derived.Test.YtbahiohlhhdkcaaDoorExt
set_option linter.unusedSimpArgs false
namespace Go.Proofs.YtbahiohlhhdkcaaDoor

theorem ct_stop {L : List (List UInt8)} {r : List UInt8} (h : ∀ x ∈ L, x.length ≤ 1048576) (hr : openE r ≠ 0) : ctL (fl L ++ r) = L := by
  have h1 := ct_of (cut_stops L r h hr)
  have h2 := cut_seq L r h L.length (Nat.le_refl _)
  unfold ctL
  rw [← h1, h2, List.take_length]
theorem take_set_le {b : List UInt8} {i n : Nat} {y : UInt8} (h : n ≤ i) : (b.set i y).take n = b.take n := by
  apply List.ext_getElem?
  intro m
  rw [List.getElem?_take, List.getElem?_take]
  split
  · rw [List.getElem?_set_ne (by omega)]
  · rfl
theorem num_set {b : List UInt8} {i : Nat} {y : UInt8} (h : 4 ≤ i) : num (b.set i y) = num b := by
  unfold num
  rw [take_set_le h]
/-- a frame begun, its last byte turned, is not opened -/
theorem begun_turned (p : List UInt8) (h : p.length ≤ 1048576) {c : Nat} (h1 : c < (sealed p).length) (y : UInt8) : openE (((sealed p).take c).set (c - 1) y) ≠ 0 := by
  rw [sealed_length] at h1
  have hl : (((sealed p).take c).set (c - 1) y).length = c := by rw [List.length_set, List.length_take, sealed_length]; omega
  unfold openE
  rw [hl]
  by_cases h8 : c < 8
  · rw [if_pos h8]; decide
  · have hn : num (((sealed p).take c).set (c - 1) y) = p.length := by
      rw [num_set (by omega)]
      have : num ((sealed p).take c) = num (sealed p) := by
        unfold num
        rw [List.take_take, Nat.min_eq_left (by omega)]
      rw [this]
      have := sealed_num p [] h
      rwa [List.append_nil] at this
    rw [if_neg h8, hn, if_neg (by omega), if_pos h1]
    decide
/-- a frame whose last byte is another is not opened -/
theorem last_turned (p : List UInt8) (h : p.length ≤ 1048576) {y : UInt8} (hl : (sealed p).length - 1 < (sealed p).length) (hy : y ≠ (sealed p)[(sealed p).length - 1]) : openE ((sealed p).set ((sealed p).length - 1) y) ≠ 0 := by
  have hw := turned_whole p h hl hy
  unfold wholeE at hw
  have hn : num ((sealed p).set ((sealed p).length - 1) y) = p.length := by
    rw [num_set (by rw [sealed_length]; omega)]
    have := sealed_num p [] h
    rwa [List.append_nil] at this
  rw [if_neg (by rw [hn, List.length_set, sealed_length]; omega)] at hw
  exact hw
theorem frames_in : ∀ (P : List (List UInt8)) (a : Nat), ∃ i, i ≤ P.length ∧ (fl (P.take i)).length ≤ a ∧ (i < P.length → a < (fl (P.take (i + 1))).length)
  | [], a => ⟨0, by simp, by simp [fl], by simp⟩
  | p :: P, a => by
    by_cases h : a < (sealed p).length
    · exact ⟨0, by simp, by simp [fl], fun _ => by simpa [fl] using h⟩
    · obtain ⟨i, h1, h2, h3⟩ := frames_in P (a - (sealed p).length)
      have e : ∀ k, (fl ((p :: P).take (k + 1))).length = (sealed p).length + (fl (P.take k)).length := fun k => by simp [fl]
      refine ⟨i + 1, by simpa using h1, by rw [e]; omega, fun h4 => ?_⟩
      rw [e]
      have := h3 (by simpa using h4)
      omega
theorem fl_mono (P : List (List UInt8)) {i j : Nat} (h : i ≤ j) : (fl (P.take i)).length ≤ (fl (P.take j)).length := by
  have := fl_le (P.take j) i
  rwa [List.take_take, Nat.min_eq_left h] at this
theorem turned_cut {P : List (List UInt8)} (h : ∀ x ∈ P, x.length ≤ 1048576) {a : Nat} (h0 : 0 < a) (ha : a ≤ (fl P).length) (y : UInt8) :
    ∃ i, i ≤ P.length ∧ ctL (((fl P).take a).set (a - 1) y) = P.take i ∧ ∀ j, (fl (P.take j)).length < a → j ≤ i := by
  obtain ⟨i, hi, h1, h2⟩ := frames_in P a
  have hsp := fl_split P i
  by_cases e : (fl (P.take i)).length = a
  · have hi0 : 0 < i := by
      rcases Nat.eq_zero_or_pos i with h4 | h4
      · subst h4; simp [fl] at e; omega
      · exact h4
    obtain ⟨k, rfl⟩ : ∃ k, i = k + 1 := ⟨i - 1, by omega⟩
    have hk : k < P.length := by omega
    have hs := fl_snoc P hk
    have hpl : (P[k]).length ≤ 1048576 := h _ (List.getElem_mem hk)
    have htk : (fl P).take a = fl (P.take (k + 1)) := by
      conv => lhs; rw [hsp, ← e]
      exact List.take_left
    have hlen : (fl (P.take k)).length + (sealed P[k]).length = a := by rw [← e, hs, List.length_append]
    have hl8 := sealed_length P[k]
    have hset : ((fl P).take a).set (a - 1) y = fl (P.take k) ++ (sealed P[k]).set ((sealed P[k]).length - 1) y := by
      rw [htk, hs, List.set_append_right _ _ (by omega)]
      congr 2
      omega
    have hlt : (sealed P[k]).length - 1 < (sealed P[k]).length := by omega
    by_cases hy : y = (sealed P[k])[(sealed P[k]).length - 1]
    · refine ⟨k + 1, hi, ?_, fun j hj => ?_⟩
      · rw [hset, hy, List.set_getElem_self, ← hs]
        exact (ct_all (fun x hx => h x (List.mem_of_mem_take hx))).1
      · rcases Nat.lt_or_ge (k + 1) j with h5 | h5
        · have := fl_mono P (Nat.le_of_lt h5); omega
        · exact h5
    · refine ⟨k, by omega, ?_, fun j hj => ?_⟩
      · rw [hset]
        exact ct_stop (fun x hx => h x (List.mem_of_mem_take hx)) (last_turned _ hpl hlt hy)
      · rcases Nat.lt_or_ge k j with h5 | h5
        · have := fl_mono P (i := k + 1) (j := j) (by omega); omega
        · exact h5
  · have hlt : i < P.length := by
      rcases Nat.lt_or_ge i P.length with h4 | h4
      · exact h4
      · have : P.take i = P := List.take_of_length_le h4
        rw [this] at h1 e
        omega
    have h3 := h2 hlt
    have hs := fl_snoc P hlt
    rw [hs, List.length_append] at h3
    have hpl : (P[i]).length ≤ 1048576 := h _ (List.getElem_mem hlt)
    have hd : fl (P.drop i) = sealed P[i] ++ fl (P.drop (i + 1)) := by
      unfold fl
      rw [List.drop_eq_getElem_cons hlt, List.flatMap_cons]
    obtain ⟨c, hc⟩ : ∃ c, a = (fl (P.take i)).length + c := ⟨a - (fl (P.take i)).length, by omega⟩
    have hset : ((fl P).take a).set (a - 1) y = fl (P.take i) ++ ((sealed P[i]).take c).set (c - 1) y := by
      rw [hsp, hd, hc, List.take_length_add_append, List.take_append_of_le_length (by omega), List.set_append_right _ _ (by omega)]
      congr 2
      omega
    refine ⟨i, hi, ?_, fun j hj => ?_⟩
    · rw [hset]
      exact ct_stop (fun x hx => h x (List.mem_of_mem_take hx)) (begun_turned _ hpl (by omega) y)
    · rcases Nat.lt_or_ge i j with h5 | h5
      · have := fl_mono P (i := i + 1) (j := j) (by omega)
        rw [hs, List.length_append] at this
        omega
      · exact h5
/-! what is sure -/
structure JInv (fs : List Fi) (all : List (List UInt8)) (sure : Nat) : Prop where
  fd : formedD 16384 fs = true
  wh : Wh fs
  rc : recs fs = all
  nm : ∀ f ∈ fs, f.n ≤ (fs.length : Int)
  su : (fs = [] ∧ sure = 0) ∨ ∃ m f j, fs = m ++ [f] ∧ (∀ g ∈ m, g.s = (g.b.length : Int)) ∧ j ≤ (ctL f.b).length ∧ f.s = ((fl ((ctL f.b).take j)).length : Int) ∧ sure ≤ (recs m).length + j
theorem JInv.start : JInv [] [] 0 := ⟨rfl, fun f hf => by simp at hf, rfl, fun f hf => by simp at hf, .inl ⟨rfl, rfl⟩⟩
theorem JInv.le {fs : List Fi} {all : List (List UInt8)} {sure : Nat} (h : JInv fs all sure) : sure ≤ all.length := by
  rcases h.su with ⟨_, h2⟩ | ⟨m, f, j, h1, _, h3, _, h5⟩
  · omega
  · rw [← h.rc, h1, recs_app, recs_one, List.length_append]; omega
theorem synced_snoc (m : List Fi) (f : Fi) : synced (m ++ [f]) = synced m ++ [⟨f.n, f.b, f.b.length⟩] := by simp [synced]
theorem synced_s (m : List Fi) : ∀ g ∈ synced m, g.s = (g.b.length : Int) := by
  intro g hg
  obtain ⟨g', _, rfl⟩ := List.mem_map.1 hg
  rfl
theorem synced_nm {fs : List Fi} {k : Int} (h : ∀ f ∈ fs, f.n ≤ k) : ∀ f ∈ synced fs, f.n ≤ k := by
  intro g hg
  obtain ⟨g', hg', rfl⟩ := List.mem_map.1 hg
  exact h g' hg'
theorem JInv.sync {fs : List Fi} {all : List (List UInt8)} {sure : Nat} (h : JInv fs all sure) : syE 16384 fs = 0 ∧ syR 16384 fs = 16384 ∧ JInv (syF 16384 fs) all all.length := by
  have hfd := h.fd
  refine ⟨by unfold syE; rw [hfd]; rfl, by unfold syR; rw [hfd]; rfl, ?_⟩
  unfold syF
  rw [hfd, if_pos rfl]
  obtain ⟨w1, w2⟩ := wh_synced h.wh
  refine ⟨formed_synced hfd, w1, w2.trans h.rc, by rw [synced_len]; exact synced_nm h.nm, ?_⟩
  rcases h.su with ⟨h1, _⟩ | ⟨m, f, j, h1, _, _, _, _⟩
  · have := h.rc
    subst h1
    exact .inl ⟨rfl, by rw [← this]; rfl⟩
  · have hwf := wh_fl (h.wh f (by rw [h1]; simp))
    have hrc := h.rc
    subst h1
    obtain ⟨_, w4⟩ := wh_synced (l := m) (fun g hg => h.wh g (by simp [hg]))
    refine .inr ⟨synced m, ⟨f.n, f.b, f.b.length⟩, (ctL f.b).length, synced_snoc m f, synced_s m, Nat.le_refl _, ?_, ?_⟩
    · show (f.b.length : Int) = _
      rw [List.take_length, ← hwf.1]
    · rw [← hrc, recs_app, recs_one, List.length_append, w4]
      exact Nat.le_refl _
theorem JInv.fresh {fs : List Fi} {all : List (List UInt8)} {sure : Nat} (h : JInv fs all sure) {p : List UInt8} (hp : p.length ≤ 16384) (he : stE 16384 fs (sealed p) = 0) :
    stR 16384 fs (sealed p) = 16384 ∧ JInv (stF 16384 fs (sealed p)) (all ++ [p]) sure ∧ (stF 16384 fs (sealed p)).length = fs.length + 1 := by
  obtain ⟨h1, h2, h3⟩ := st_whole h.fd he
  rw [h1] at h3
  rw [h1]
  obtain ⟨w1, w2⟩ := wh_synced h.wh
  obtain ⟨c1, c2⟩ := ct_first (p := p) (by omega)
  have hlen : (synced fs ++ [(⟨nextD 16384 fs, sealed p, 0⟩ : Fi)]).length = fs.length + 1 := by simp [synced_len]
  refine ⟨h2, ⟨h3, fun g hg => ?_, ?_, ?_, ?_⟩, hlen⟩
  · rcases List.mem_append.1 hg with hg | hg
    · exact w1 g hg
    · simp at hg; subst hg; exact c2
  · rw [recs_app, w2, recs_one, h.rc]
    show all ++ ctL (sealed p) = _
    rw [c1]
  · rw [hlen]
    intro f hf
    rcases List.mem_append.1 hf with hf | hf
    · have := synced_nm h.nm f hf; omega
    · simp at hf; subst hf
      show nextD 16384 fs ≤ _
      unfold nextD
      by_cases h0 : fs.length = 0
      · rw [lastD_nil h0, if_pos (by omega)]; omega
      · have hl := lastD_ok h.fd (show fs.length - 1 < fs.length by omega)
        have := h.nm _ (List.getElem_mem (show fs.length - 1 < fs.length by omega))
        rw [hl]
        split <;> omega
  · refine .inr ⟨synced fs, _, 0, rfl, synced_s fs, Nat.zero_le _, by simp [fl], ?_⟩
    rw [w2, h.rc]
    exact h.le
theorem size_next {fs : List Fi} {all : List (List UInt8)} {sure : Nat} (h : JInv fs all sure) (hk : fs.length ≤ 60) : nextD 16384 fs ≤ 61 ∧ 0 ≤ nextD 16384 fs := by
  have hl := lastD_in h.fd
  unfold nextD
  by_cases h0 : fs.length = 0
  · rw [lastD_nil h0, if_pos (by omega)]; omega
  · have hl2 := lastD_ok h.fd (show fs.length - 1 < fs.length by omega)
    have := h.nm _ (List.getElem_mem (show fs.length - 1 < fs.length by omega))
    rw [hl2] at hl ⊢
    split <;> omega
theorem JInv.st_err {fs : List Fi} {all : List (List UInt8)} {sure : Nat} (h : JInv fs all sure) (hk : fs.length ≤ 60) {p : List UInt8} (_ : p.length ≤ 16384) :
    stE 16384 fs (sealed p) = 0 ∨ (stE 16384 fs (sealed p) = 7 ∧ 16384 - usedD 16384 fs < (p.length : Int) + 8) := by
  obtain ⟨n1, n2⟩ := size_next h hk
  unfold stE apE
  rw [if_neg (by omega), if_pos ⟨formed_synced h.fd, n2, by omega⟩, size_synced, sealed_length]
  split
  · exact .inl rfl
  · refine .inr ⟨rfl, ?_⟩
    unfold usedD
    rw [if_pos h.fd]
    omega
theorem JInv.js {fs : List Fi} {all : List (List UInt8)} {sure : Nat} (h : JInv fs all sure) (hk : fs.length ≤ 60) {p : List UInt8} (hp : p.length ≤ 16384) :
    (jsE 16384 fs p = 0 ∧ jsR 16384 fs p = 16384 ∧ JInv (jsF 16384 fs p) (all ++ [p]) sure ∧ (jsF 16384 fs p).length ≤ fs.length + 1) ∨ (jsE 16384 fs p = 7 ∧ 16384 - usedD 16384 fs < (p.length : Int) + 8) := by
  have hj : jok 16384 fs p := ⟨h.fd, by omega⟩
  unfold jsE jsR jsF
  rw [if_pos hj, if_pos hj, if_pos hj]
  rcases h.st_err hk hp with he | he
  · obtain ⟨a, b, c⟩ := h.fresh hp he
    exact .inl ⟨he, a, b, by omega⟩
  · exact .inr he
theorem JInv.ja {fs : List Fi} {all : List (List UInt8)} {sure : Nat} (h : JInv fs all sure) (hk : fs.length ≤ 60) {p : List UInt8} (hp : p.length ≤ 16384) :
    (jaE 16384 fs p = 0 ∧ jaR 16384 fs p = 16384 ∧ JInv (jaF 16384 fs p) (all ++ [p]) sure ∧ (jaF 16384 fs p).length ≤ fs.length + 1) ∨ (jaE 16384 fs p = 7 ∧ 16384 - usedD 16384 fs < (p.length : Int) + 8) := by
  have hj : jok 16384 fs p := ⟨h.fd, by omega⟩
  by_cases hh : jhere fs p
  · have heq : jaE 16384 fs p = apE 16384 fs (lastD 16384 fs) (sealed p) := by unfold jaE; rw [if_pos hj, if_pos hh]
    by_cases he : jaE 16384 fs p = 0
    · obtain ⟨a1, a2, a3, a4, a5⟩ := ja_whole h.fd h.wh (show p.length ≤ 1048576 by omega) he
      rcases a5 with ⟨_, m, f, hm, hf⟩ | ⟨hn, _⟩
      · refine .inl ⟨he, a1, ⟨a2, a3, a4.trans (by rw [h.rc]), ?_, ?_⟩, ?_⟩
        · rw [hf]
          intro g hg
          have hnm := h.nm
          rw [hm] at hnm
          simp only [List.length_append, List.length_cons, List.length_nil] at hnm ⊢
          rcases List.mem_append.1 hg with hg | hg
          · exact hnm g (by simp [hg])
          · simp at hg; subst hg
            exact hnm f (by simp)
        · rcases h.su with ⟨h1, _⟩ | ⟨m', f', j, h1, h2, h3, h4, h5⟩
          · rw [hm] at h1; simp at h1
          · rw [hm] at h1
            obtain ⟨e1, e2⟩ := List.append_inj' h1 rfl
            simp at e2
            subst e1 e2
            have hwf := h.wh f (by rw [hm]; simp)
            obtain ⟨d1, _⟩ := ct_more hwf (show p.length ≤ 1048576 by omega)
            rw [hf]
            refine .inr ⟨m, _, j, rfl, h2, ?_, ?_, h5⟩
            · show j ≤ (ctL (f.b ++ sealed p)).length
              rw [d1, List.length_append]; omega
            · show f.s = ((fl ((ctL (f.b ++ sealed p)).take j)).length : Int)
              rw [d1, List.take_append_of_le_length h3]
              exact h4
        · rw [hf, hm]; simp
      · exact absurd hh hn
    · refine .inr ?_
      have hlen : 0 < fs.length := by
        obtain ⟨f, h1, _⟩ := hh
        have := (List.getElem?_eq_some_iff.1 h1).1
        omega
      have hl := lastD_ok h.fd (show fs.length - 1 < fs.length by omega)
      have hall := formed_all h.fd _ (List.getElem_mem (show fs.length - 1 < fs.length by omega))
      rw [heq] at he ⊢
      unfold apE at he ⊢
      rw [hl, if_pos ⟨h.fd, by omega, by omega⟩, sealed_length] at he ⊢
      split at he
      · exact absurd rfl he
      · rename_i hs
        rw [if_neg hs]
        refine ⟨rfl, ?_⟩
        unfold usedD
        rw [if_pos h.fd]
        omega
  · have e1 : jaE 16384 fs p = jsE 16384 fs p ∧ jaR 16384 fs p = jsR 16384 fs p ∧ jaF 16384 fs p = jsF 16384 fs p := by
      unfold jaE jaR jaF jsE jsR jsF
      rw [if_pos hj, if_pos hj, if_pos hj, if_pos hj, if_pos hj, if_pos hj, if_neg hh, if_neg hh, if_neg hh]
      exact ⟨rfl, rfl, rfl⟩
    rw [e1.1, e1.2.1, e1.2.2]
    exact h.js hk hp
/-! behind a crash -/
theorem cr_sure : ∀ {m : List Fi} {a : List Fi} {k j : Int}, 0 ≤ k → (∀ g ∈ m, g.s = (g.b.length : Int)) → m.foldl crS (a, k, j) = (a ++ m, k, j)
  | [], a, k, j, _, _ => by simp
  | g :: m, a, k, j, hk, h => by
    have hg := h g (by simp)
    have hn : crN k g = 0 := by unfold crN; rw [hg]; split <;> omega
    have ho : crOne k g = g := by
      unfold crOne
      rw [hn, hg]
      simp
      rw [← hg]
    rw [List.foldl_cons]
    have e : crS (a, k, j) g = (a ++ [g], k, j) := by
      unfold crS
      simp [hn, ho]
    rw [e, cr_sure hk (fun g hg => h g (by simp [hg]))]
    simp
theorem fine_last : ∀ {m : List Fi} {last left : Int} {f f' : Fi}, fineF last left (m ++ [f]) = true → f'.n = f.n → 0 ≤ f'.s → f'.s ≤ (f'.b.length : Int) → f'.b.length ≤ f.b.length → fineF last left (m ++ [f']) = true
  | [], last, left, f, f', h, h1, h2, h3, h4 => by
    simp only [List.nil_append, fineF, Bool.and_eq_true, decide_eq_true_eq] at *
    exact ⟨by omega, trivial⟩
  | g :: m, last, left, f, f', h, h1, h2, h3, h4 => by
    simp only [List.cons_append, fineF, Bool.and_eq_true, decide_eq_true_eq] at *
    exact ⟨h.1, fine_last h.2 h1 h2 h3 h4⟩
theorem scL_snoc : ∀ {m : List Fi} {f : Fi}, Wh m → scL (m ++ [f]) = recs m ++ ctL f.b
  | [], f, _ => by simp [scL, recs]
  | g :: m, f, h => by
    have hg := h g (by simp)
    have ih := scL_snoc (m := m) (f := f) (fun g hg => h g (by simp [hg]))
    have hn : ¬ ctN g.b < g.b.length := by omega
    simp only [List.cons_append, scL, if_neg hn, recs, List.flatMap_cons]
    rw [ih, List.append_assoc]
    rfl
theorem JInv.crash {fs : List Fi} {all : List (List UInt8)} {sure : Nat} (h : JInv fs all sure) {keep turn : Int} (h0 : 0 ≤ keep) (h1 : 0 ≤ turn) (h2 : turn ≤ 255) :
    crE 16384 fs keep turn = 0 ∧ crR 16384 fs keep turn = 16384 ∧ formedD 16384 (crF 16384 fs keep turn) = true ∧ ∃ i, scL (crF 16384 fs keep turn) = all.take i ∧ sure ≤ i ∧ i ≤ all.length := by
  have hok : crOk 16384 fs keep turn := ⟨h.fd, h0, h1, h2⟩
  have e : crF 16384 fs keep turn = flipAt (cr fs keep).1 (cr fs keep).2.2 (UInt8.ofNat turn.toNat) := by unfold crF; rw [if_pos hok]
  refine ⟨by unfold crE; rw [if_pos hok], by unfold crR; rw [if_pos hok], ?_⟩
  rw [e]
  rcases h.su with ⟨g1, g2⟩ | ⟨m, f, j, g1, g2, g3, g4, g5⟩
  · subst g1
    refine ⟨rfl, 0, rfl, by omega, Nat.zero_le _⟩
  · have hfd := h.fd
    have hwh := h.wh
    have hrc := h.rc
    subst g1
    have hwf := hwh f (by simp)
    have hwm : Wh m := fun g hg => hwh g (by simp [hg])
    obtain ⟨p1, p2⟩ := wh_fl hwf
    have hall := formed_all hfd f (by simp)
    have hcn := crN_in h0 hall.2.2.2
    rw [recs_app, recs_one] at hrc
    have hcr : cr (m ++ [f]) keep = (m ++ [crOne keep f], keep - crN keep f, if 0 < crN keep f then (m.length : Int) else -1) := by
      unfold cr
      rw [List.foldl_append, cr_sure h0 g2]
      simp [crS]
    rw [hcr]
    have hL : (crOne keep f).b.length = (f.s + crN keep f).toNat := by simp [crOne]; omega
    have hfdm := hfd
    simp only [formedD, Bool.and_eq_true] at hfdm
    by_cases hn : 0 < crN keep f
    · have hg : (m ++ [crOne keep f])[m.length]? = some (crOne keep f) := by simp
      have hlen : (crOne keep f).b.length - 1 < (crOne keep f).b.length := by omega
      rw [if_pos hn]
      show formedD 16384 (flipAt (m ++ [crOne keep f]) (m.length : Int) _) = true ∧ _
      rw [flipAt_some hg hlen, List.set_append_right _ _ (Nat.le_refl _), Nat.sub_self]
      simp only [List.set_cons_zero]
      generalize xr (crOne keep f).b[(crOne keep f).b.length - 1] (UInt8.ofNat turn.toNat) = y
      constructor
      · simp only [formedD, Bool.and_eq_true]
        refine ⟨hfdm.1, fine_last hfdm.2 rfl (by simp [crOne]; omega) ?_ (by simp [crOne]; omega)⟩
        show f.s + crN keep f ≤ ((((crOne keep f).b.set _ _).length : Nat) : Int)
        rw [List.length_set, hL]
        omega
      · rw [scL_snoc hwm]
        have hb : (crOne keep f).b = (fl (ctL f.b)).take (f.s + crN keep f).toNat := by rw [← p1]; rfl
        obtain ⟨i, i1, i2, i3⟩ := turned_cut p2 (a := (f.s + crN keep f).toNat) (by omega) (by rw [← p1]; omega) y
        refine ⟨(recs m).length + i, ?_, ?_, ?_⟩
        · show recs m ++ ctL ((crOne keep f).b.set ((crOne keep f).b.length - 1) _) = _
          rw [hL, hb]
          rw [i2, ← hrc, List.take_length_add_append]
        · have := i3 j (by omega)
          omega
        · rw [← hrc, List.length_append]; omega
    · have hn0 : crN keep f = 0 := by omega
      rw [if_neg hn]
      show formedD 16384 (flipAt (m ++ [crOne keep f]) (-1) _) = true ∧ _
      rw [flipAt_none]
      constructor
      · simp only [formedD, Bool.and_eq_true]
        refine ⟨hfdm.1, fine_last hfdm.2 rfl (by simp [crOne]; omega) ?_ (by simp [crOne]; omega)⟩
        show f.s + crN keep f ≤ (((crOne keep f).b.length : Nat) : Int)
        rw [hL]
        omega
      · rw [scL_snoc hwm]
        have hb : (crOne keep f).b = fl ((ctL f.b).take j) := by
          show f.b.take (f.s + crN keep f).toNat = _
          have hs := fl_split (ctL f.b) j
          generalize ctL f.b = P at *
          rw [hn0, g4, p1, hs, show (((fl (P.take j)).length : Int) + 0).toNat = (fl (P.take j)).length by omega]
          exact List.take_left
        refine ⟨(recs m).length + j, ?_, g5, ?_⟩
        · rw [hb, (ct_all (fun x hx => p2 x (List.mem_of_mem_take hx))).1, ← hrc, List.take_length_add_append]
        · rw [← hrc, List.length_append]; omega

open Go.RowKit

/-- a deed: a record is appended, in a new segment or not; or all is synced -/
structure Dj where
  st : Bool
  sy : Bool
  b : List UInt8
  deriving Inhabited
def djE : Enc Dj where
  k := 3
  pos := by omega
  rd := fun S w cs p => ∃ u, cs = [.bool p.st, .bool p.sy, u] ∧ Sl u8E S w u p.b
  len := fun ⟨_, h, _⟩ => by rw [h]; rfl
  mono := fun ⟨u, h, hs⟩ hm => ⟨u, h, hs.mono hm⟩
  keep := fun ⟨u, h, hs⟩ hk => ⟨u, h, hs.keep hk⟩
  one := fun ⟨u, h, hs⟩ x hx => by
    subst h
    obtain ⟨A, cap, rfl, _⟩ := hs.shape
    simp at hx
    rcases hx with rfl | rfl | rfl <;> rfl
theorem Sl.dj {S : Foot} {w : World} {A : Option Addr} {n cap : Nat} {l : List Dj} (h : Sl djE S w (.slice A n cap) l) {i : Nat} (hi : i < l.length) :
    ∃ b off Av cv, A = some ⟨b, off, none⟩ ∧ At S w b (off + i * 3) (.bool l[i].st) ∧ At S w b (off + i * 3 + 1) (.bool l[i].sy) ∧ At S w b (off + i * 3 + 2) (.slice Av l[i].b.length cv) ∧ Sl u8E S w (.slice Av l[i].b.length cv) l[i].b := by
  obtain ⟨_, _, _, _, hc⟩ := h.cells
  obtain ⟨b, off, cs, e, ⟨u, hu, hs⟩, _, hat⟩ := hc i _ (List.getElem?_eq_getElem hi)
  subst hu
  obtain ⟨Av, cv, rfl, _⟩ := hs.shape
  exact ⟨b, off, Av, cv, e, hat 0 _ rfl, hat 1 _ rfl, hat 2 _ rfl, hs⟩
/-- a world is known by what holds of it alone -/
theorem gen_w {f : World → Prop} {w : World} (C : World → Prop) (h : C w) (k : ∀ W, C W → f W) : f w := k w h
/-- any value of one cell -/
def rawE : Enc Value where
  k := 1
  pos := by omega
  rd := fun _ _ cs x => cs = [x] ∧ x.oneCell' = true
  len := fun h => by rw [h.1]; rfl
  mono := fun h _ => h
  keep := fun h _ => h
  one := fun h u hu => by
    rw [h.1] at hu
    simp at hu
    subst hu
    exact h.2
/-- a row of byte slices owned from block B on; the bytes lie below block C -/
structure OL (C B : Nat) (w : World) (v : Value) (L : List (List UInt8)) (us : List Value) : Prop where
  len : us.length = L.length
  row : Own rawE (HiN B v.ownBlock) w B 25 v us
  old : ∀ (i : Nat) (u : Value) (x : List UInt8), us[i]? = some u → L[i]? = some x → Sl u8E (Lo C) w u x
theorem rawFlat {S S' : Foot} {w : World} {B : Nat} {t : TypeId} {v : Value} {us : List Value} (h : Own rawE S w B t v us) : Own rawE S' w B t v us := by
  obtain ⟨xs, h1, h2⟩ := h
  exact ⟨xs, h1, h2.1, h2.2⟩
theorem OL.nil {C B : Nat} {w : World} : OL C B w (.slice none 0 0) [] [] := ⟨rfl, Own.nil, by simp⟩
theorem OL.below {C B : Nat} {w w' : World} {v : Value} {L : List (List UInt8)} {us : List Value} (h : OL C B w v L us) (hb : Below w.heap.size w w') : OL C B w' v L us :=
  ⟨h.len, h.row.below hb (Nat.le_refl _), fun i u f hu hf => (h.old i u f hu hf).keep fun b _ _ hl => hb.block b hl⟩
theorem OL.far {C B : Nat} {w : World} {v z : Value} {L : List (List UInt8)} {us : List Value} {p : Addr} (h : OL C B w v L us) (h1 : C ≤ p.block) (h2 : p.block < B) : OL C B (w.setCell p z) v L us :=
  ⟨h.len, rawFlat ((rawFlat (S' := fun _ _ => False) h.row).keep (fun g hg => heap_setCell_other w p g z (by have := (h.row.lt g hg).1; omega)) (fun _ _ h _ => h.elim)), fun i u f hu hf => (h.old i u f hu hf).keep fun b _ hs _ => heap_setCell_other w p b z (by have : b < C := hs; omega)⟩
theorem OL.snoc {C B : Nat} {w w4 w5 : World} {v v' u' : Value} {L : List (List UInt8)} {us : List Value} {x : List UInt8} (h : OL C B w v L us) (b4 : Below w.heap.size w w4) (hC : C ≤ w.heap.size) (hCB : C ≤ B) (hu' : Sl u8E (Lo C) w u' x)
    (o5 : Own rawE (HiN B v'.ownBlock) w5 B 25 v' (us ++ [u'])) (g5 : w4.grownBy w5 v.ownBlock) : OL C B w5 v' (L ++ [x]) (us ++ [u']) := by
  have hk : ∀ b, b < C → w5.heap[b]? = w.heap[b]? := fun b hb => (g5.block b (by have := b4.size; omega) (fun e => by have := (h.row.lt b e.symm).1; omega)).trans (b4.block b (by omega))
  refine ⟨by simp [h.len], o5, fun i u f' hu hf => ?_⟩
  rcases Nat.lt_or_ge i us.length with hl | hl
  · rw [List.getElem?_append_left hl] at hu
    rw [List.getElem?_append_left (by rw [← h.len]; exact hl)] at hf
    exact (h.old i u f' hu hf).keep fun b _ hs _ => hk b hs
  · rw [List.getElem?_append_right hl] at hu
    rw [List.getElem?_append_right (by rw [← h.len]; exact hl)] at hf
    have hi' := (List.getElem?_eq_some_iff.1 hu).1
    simp at hi'
    have e : i - us.length = 0 := by omega
    have e' : i - L.length = 0 := by rw [← h.len]; exact e
    rw [e] at hu
    rw [e'] at hf
    simp at hu hf
    subst hu hf
    exact hu'.keep fun b _ hs _ => hk b hs
theorem OL.sl {C B : Nat} {w : World} {v : Value} {L : List (List UInt8)} {us : List Value} (h : OL C B w v L us) : Sl (slE u8E) Any w v L := by
  have h1 := h.row.slAny
  obtain ⟨A, cap, xs, e, hc, hm, ha, hr, hx⟩ := h1
  rw [h.len] at e hc
  refine ⟨A, cap, xs, e, hc, hm, ha, ⟨by rw [hr.1, h.len]; rfl, fun i x hf => ?_⟩, hx⟩
  have hi : i < us.length := by rw [h.len]; exact (List.getElem?_eq_some_iff.1 hf).1
  have hu : us[i]? = some us[i] := List.getElem?_eq_getElem hi
  obtain ⟨h2, _⟩ := hr.2 i _ hu
  exact ⟨us[i], h2, (h.old i _ x hu hf).any⟩
/-- a disk's box X in a later world of v -/
def Bx (R : Int) (F : List Fi) (A : Option Addr) (c : Nat) (v : World) (X : Nat) (W : World) : Prop :=
  Below v.heap.size v W ∧ v.heap.size ≤ X ∧ W.heap[X]? = some (.cells #[.int .i64 R, .slice A F.length c] 24 (0, 0)) ∧ Sl fiE (HiN v.heap.size (some X)) W (.slice A F.length c) F ∧ c ≤ 9223372036854775807
def JP (R : Int) (F : List Fi) (E : Int) (w : World) (e : Ending) (w' : World) : Prop :=
  ∃ A c, e = .returned (.tuple #[.agg #[.int .i64 R, .slice A F.length c], .int .i64 E]) ∧ Sl fiE (Hi w.heap.size) w' (.slice A F.length c) F ∧ c ≤ 9223372036854775807 ∧ Below w.heap.size w w'
theorem AnsS.jp {R : Int} {F : List Fi} {E : Int} {w w' : World} {e : Ending} (h : AnsS R F E w e w') : JP R F E w e w' := by
  obtain ⟨v', he, hs, hb⟩ := h
  obtain ⟨A, c, rfl, _, h2, _⟩ := hs.shape
  exact ⟨A, c, he, hs, h2, hb⟩
theorem results_cell_tmp3 {P : Program} {fn : Func} {p x y z : Tmp} {ty : TypeId} (h : fn.results = #[.cell p ty, .tmp x, .tmp y, .tmp z]) (tmps : Array Value) (w : World) (g : Nat) (t : TypeId) (cs : Array Value) (fr : Nat × Nat) (d : TypeDesc)
    (hp : tmps.getD p undef = .pointer (some ⟨g, 0, none⟩)) (hg : w.heap[g]? = some (.cells cs t fr))
    (hu : P.underlying ty = some d) (hd : (match d with | .struct _ | .array _ _ => true | _ => false) = true) (hi : (P.info? ty).map (·.size) = some cs.size) :
    (results fn tmps).run P w = .ok (.tuple #[.agg cs, tmps.getD x undef, tmps.getD y undef, tmps.getD z undef]) w := by
  have hp' : tmps[p]?.getD undef = .pointer (some ⟨g, 0, none⟩) := by simpa using hp
  simp [results, h, hp', asAddr, run_loadVar_row w g t ty cs fr d hg hu hd hi]

set_option maxRecDepth 100000 in
set_option maxHeartbeats 16000000 in
theorem written_c {S : Foot} {v : Value} {l : List Dj} {w : World} (hp : Sl djE S w v l) (ht : Tab w) (h60 : l.length ≤ 60) (hb : ∀ k, (hk : k < l.length) → l[k].b.length ≤ 16384) :
    Calls Tryd.prog 24 #[v] w fun e w' => ∃ (A : Option Addr) (c : Nat) (Aa : Option Addr) (ca : Nat) (fs : List Fi) (all : List (List UInt8)) (su : Nat),
      e = .returned (.tuple #[.agg #[.int .i64 16384, .slice A fs.length c], .slice Aa all.length ca, .int .i64 (su : Int), .bool true]) ∧ Hid (JInv fs all su) ∧ Sl fiE Any w' (.slice A fs.length c) fs ∧ Sl (slE u8E) Any w' (.slice Aa all.length ca) all ∧ Below w.heap.size w w' := by
  obtain ⟨i8, hi8, hy0, hy1, hy2⟩ := info_parts sl_info
  have hp := hp.any
  obtain ⟨A, cap, rfl, hc1, hc2, _⟩ := hp.shape
  unfold maxLen at hc2
  have HB := Lib.hid hb
  clear hb
  have hp0 := hp.lo
  obtain ⟨W0, hW0⟩ : ∃ W0, (w.alloc (.cells #[.int .i64 0, .slice none 0 0] 24)).alloc (.cells #[.int .i64 16384, .slice none 0 0] 24) = W0 := ⟨_, rfl⟩
  have hzW : W0.heap.size = w.heap.size + 2 := by rw [← hW0]; simp
  have bW : Below w.heap.size w W0 := by rw [← hW0]; (repeat (first | with_reducible exact Below.refl _ _ | with_reducible assumption | with_reducible refine bdraw ?_ | with_reducible refine bdrewN ?_ _ | with_reducible refine balloc ?_ _ | with_reducible refine bset ?_ (by simp <;> omega) | with_reducible refine bstep ?_ (by assumption) | with_reducible refine btrans ?_ (by assumption)))
  have q0 : W0.heap[w.heap.size]? = some (.cells #[.int .i64 0, .slice none 0 0] 24 (0, 0)) := by
    rw [← hW0]; exact blkb (heap_alloc_new w _) ((Below.refl _ _).alloc (Nat.le_refl _) _)
  have q1 : W0.heap[w.heap.size + 1]? = some (.cells #[.int .i64 16384, .slice none 0 0] 24 (0, 0)) := by
    have := heap_alloc_new (w.alloc (.cells #[.int .i64 0, .slice none 0 0] 24)) (.cells #[.int .i64 16384, .slice none 0 0] 24)
    rw [World.size_alloc] at this
    rw [← hW0]; exact this
  have HW := Lib.hid hW0
  clear hW0
  go_enter Tryd.func24, Tryd.ntmps24
  go_wp2
  rw [HW.out]
  clear HW
  go_loopw [7, 8, 9, 10, 11, 12, 13] (fun av sv iv _ _ _ _ wr => ∃ (k : Nat) (fs : List Fi) (all : List (List UInt8)) (su : Nat) (vd : Value) (us : List Value), k ≤ l.length ∧ iv = .int .i64 k ∧ sv = .int .i64 (su : Int) ∧ Hid (JInv fs all su ∧ fs.length ≤ k ∧ all.length ≤ k) ∧
    Hid (wr.heap[w.heap.size]? = some (.cells #[.int .i64 0, .slice none 0 0] 24 (0, 0)) ∧ wr.heap[w.heap.size + 1]? = some (.cells #[.int .i64 16384, vd] 24 (0, 0))) ∧
    Sl fiE (HiN (w.heap.size + 2) av.ownBlock) wr vd fs ∧ OL w.heap.size (w.heap.size + 2) wr av all us ∧ Below w.heap.size w wr ∧ w.heap.size + 2 ≤ wr.heap.size) (fun _ _ iv _ _ _ _ _ => l.length - (intOf iv).toNat)
  case atStart => exact ⟨0, [], [], 0, .slice none 0 0, [], Nat.zero_le _, by go_num, by go_num, Lib.hid ⟨JInv.start, Nat.le_refl _, Nat.le_refl _⟩, Lib.hid ⟨q0, q1⟩, Sl.nil, OL.nil, bW, by omega⟩
  case round =>
    clear q0 q1 bW hzW
    obtain ⟨k, fs, all, su, vd, us, hk, rfl, rfl, HI, HQ, hsd, ol, hbr, hzr⟩ := hrel
    obtain ⟨q0, q1⟩ := HQ.out
    obtain ⟨Ad, cd, rfl, hcd1, hcd2, _⟩ := hsd.shape
    unfold maxLen at hcd2
    obtain ⟨Aa, ca, hav, _, hca, _⟩ := ol.sl.shape
    subst hav
    unfold maxLen at hca
    have xa0 : wr.cell? ⟨w.heap.size + 1, 0, none⟩ = some (.int .i64 16384) := cell_of_row _ _ 0 _ _ _ q1; have fa0 : wr.frozen? ⟨w.heap.size + 1, 0, none⟩ = false := frozen_of_row _ _ 0 _ _ q1; have xa1 : wr.cell? ⟨w.heap.size + 1, 1, none⟩ = some (.slice Ad fs.length cd) := cell_of_row _ _ 1 _ _ _ q1; have fa1 : wr.frozen? ⟨w.heap.size + 1, 1, none⟩ = false := frozen_of_row _ _ 1 _ _ q1
    by_cases hlt : k < l.length
    · have hkI : (k : Int) < (l.length : Int) := by omega
      have hkk0 : (0 : Int) ≤ (k : Int) := by omega
      obtain ⟨bb, off, Av, cv, rfl, a0, a1, a2, hv⟩ := (hp0.lob hbr).dj hlt
      have hxb := HB.out k hlt
      generalize l[k] = x at *
      obtain ⟨_, _, e, hcv1, hcv2, _⟩ := hv.shape
      injection e with e1 e0 e2
      subst e1 e2
      clear e0
      unfold maxLen at hcv2
      have c0 := a0.cell
      have c1 := a1.cell
      have c2 := a2.cell
      have hol := ol.row.lt
      cases hy : x.sy with
      | true =>
        rw [hy] at c1
        have HS := Lib.hid HI.out.1.sync
        go_wp2_with fail
        refine (sync_c (room := 16384) hsd).mono ?_
        intro e w2 h
        obtain ⟨A2, c2', he, s2, b2⟩ := (Ans.s h).s
        rw [HS.out.1, HS.out.2.1] at he
        subst he
        clear h
        have hz2 := b2.size
        have HF := Lib.hid (synced_len fs)
        have hfl : (syF 16384 fs).length = fs.length := by
          unfold syF; rw [if_pos HI.out.1.fd]; exact HF.out
        obtain ⟨F, hF⟩ : ∃ F, syF 16384 fs = F := ⟨_, rfl⟩
        rw [hF] at HS s2 hfl ⊢
        have HFL := Lib.hid hfl
        clear hF HF hfl
        have q2 := blkb q1 (w' := (w2.alloc (.cells #[.int .i64 16384, .slice A2 F.length c2'] 24))) (by (repeat (first | with_reducible exact Below.refl _ _ | with_reducible assumption | with_reducible refine bdraw ?_ | with_reducible refine bdrewN ?_ _ | with_reducible refine balloc ?_ _ | with_reducible refine bset ?_ (by simp <;> omega) | with_reducible refine bstep ?_ (by assumption) | with_reducible refine btrans ?_ (by assumption))))
        have q3 := blkb q0 (w' := (w2.alloc (.cells #[.int .i64 16384, .slice A2 F.length c2'] 24))) (by (repeat (first | with_reducible exact Below.refl _ _ | with_reducible assumption | with_reducible refine bdraw ?_ | with_reducible refine bdrewN ?_ _ | with_reducible refine balloc ?_ _ | with_reducible refine bset ?_ (by simp <;> omega) | with_reducible refine bstep ?_ (by assumption) | with_reducible refine btrans ?_ (by assumption))))
        have qX := heap_alloc_new w2 (.cells #[.int .i64 16384, .slice A2 F.length c2'] 24)
        have bw2 : Below wr.heap.size wr (w2.alloc (.cells #[.int .i64 16384, .slice A2 F.length c2'] 24)) := by (repeat (first | with_reducible exact Below.refl _ _ | with_reducible assumption | with_reducible refine bdraw ?_ | with_reducible refine bdrewN ?_ _ | with_reducible refine balloc ?_ _ | with_reducible refine bset ?_ (by simp <;> omega) | with_reducible refine bstep ?_ (by assumption) | with_reducible refine btrans ?_ (by assumption)))
        have sX := (s2.mono (S' := HiN (w.heap.size + 2) (Value.slice Aa all.length ca).ownBlock) (fun b fr h _ => ⟨by have := h.1; omega, h.2, fun e => by have := (hol b e.symm).2; have := h.1; omega⟩)).below (w' := (w2.alloc (.cells #[.int .i64 16384, .slice A2 F.length c2'] 24))) ((Below.refl _ _).alloc (Nat.le_refl _) _) (Nat.le_refl _)
        have ol2 := ol.below bw2
        have hn2 : ∀ g, (w.heap.size + 1) ≠ g → (((w2.alloc (.cells #[.int .i64 16384, .slice A2 F.length c2'] 24)).setCell ⟨w.heap.size + 1, 0, none⟩ (.int .i64 16384)).setCell ⟨w.heap.size + 1, 1, none⟩ (.slice A2 F.length c2')).heap[g]? = (w2.alloc (.cells #[.int .i64 16384, .slice A2 F.length c2'] 24)).heap[g]? := fun g hg => (heap_setCell_other _ ⟨w.heap.size + 1, 1, none⟩ g _ (fun e => hg e.symm)).trans (heap_setCell_other (w2.alloc (.cells #[.int .i64 16384, .slice A2 F.length c2'] 24)) ⟨w.heap.size + 1, 0, none⟩ g _ (fun e => hg e.symm))
        have hzz : (((w2.alloc (.cells #[.int .i64 16384, .slice A2 F.length c2'] 24)).setCell ⟨w.heap.size + 1, 0, none⟩ (.int .i64 16384)).setCell ⟨w.heap.size + 1, 1, none⟩ (.slice A2 F.length c2')).heap.size = w2.heap.size + 1 := by simp
        have hlen := HI.out.2
        clear xa0 xa1 fa0 fa1
        have xa0 : (w2.alloc (.cells #[.int .i64 16384, .slice A2 F.length c2'] 24)).cell? ⟨w.heap.size + 1, 0, none⟩ = some (.int .i64 16384) := cell_of_row _ _ 0 _ _ _ q2; have fa0 : (w2.alloc (.cells #[.int .i64 16384, .slice A2 F.length c2'] 24)).frozen? ⟨w.heap.size + 1, 0, none⟩ = false := frozen_of_row _ _ 0 _ _ q2; have xa1 : (w2.alloc (.cells #[.int .i64 16384, .slice A2 F.length c2'] 24)).cell? ⟨w.heap.size + 1, 1, none⟩ = some (.slice Ad fs.length cd) := cell_of_row _ _ 1 _ _ _ q2; have fa1 : (w2.alloc (.cells #[.int .i64 16384, .slice A2 F.length c2'] 24)).frozen? ⟨w.heap.size + 1, 1, none⟩ = false := frozen_of_row _ _ 1 _ _ q2
        have xx0 : (w2.alloc (.cells #[.int .i64 16384, .slice A2 F.length c2'] 24)).cell? ⟨w2.heap.size, 0, none⟩ = some (.int .i64 16384) := cell_of_row _ _ 0 _ _ _ qX; have fx0 : (w2.alloc (.cells #[.int .i64 16384, .slice A2 F.length c2'] 24)).frozen? ⟨w2.heap.size, 0, none⟩ = false := frozen_of_row _ _ 0 _ _ qX; have xx1 : (w2.alloc (.cells #[.int .i64 16384, .slice A2 F.length c2'] 24)).cell? ⟨w2.heap.size, 1, none⟩ = some (.slice A2 F.length c2') := cell_of_row _ _ 1 _ _ _ qX; have fx1 : (w2.alloc (.cells #[.int .i64 16384, .slice A2 F.length c2'] 24)).frozen? ⟨w2.heap.size, 1, none⟩ = false := frozen_of_row _ _ 1 _ _ qX
        go_wp2
        go_roundw
        case rel =>
          exact ⟨k + 1, F, all, all.length, .slice A2 F.length c2', us, by omega, by go_num, by go_num, Lib.hid ⟨HS.out.2.2, by have := HFL.out; omega, by omega⟩, Lib.hid ⟨(hn2 _ (by omega)).trans q3, set2 q2⟩,
            sX.keep (fun b _ hs _ => hn2 b (by have := hs.1; omega)), (ol2.far (by simp) (by simp)).far (by simp) (by simp), bset (bset (hbr.trans (bw2.mono (by omega))) (by simp)) (by simp), by omega⟩
        case measure => simp [intOf]; omega
      | false =>
        rw [hy] at c1
        have p0 := (At.of_cell xa0).2
        have p1 := (At.of_cell xa1).2
        have p2 : At Any wr bb (off + k * 3 + 2) (.slice Av x.b.length cv) := a2.mono (fun _ _ _ _ => trivial)
        have p3 : At Any wr bb (off + k * 3) (.bool x.st) := a0.mono (fun _ _ _ _ => trivial)
        have htw := fun (w' : World) (b9 : Below wr.heap.size wr w') => ht.below (w' := w') (hbr.trans (b9.mono (by omega))) (Nat.le_refl _)
        have HAp := fun (w' : World) (b9 : Below wr.heap.size wr w') => Lib.hid ((jappend_c (room := 16384) (w := w') (hsd.below b9 (Nat.le_refl _)) (hv.below b9 (Nat.le_refl _)) (htw w' b9)).mono fun _ _ h => h.jp)
        have HLn := HI.out.2
        have hk60 : fs.length ≤ 60 := by omega
        cases hst : x.st with
        | false =>
          rw [hst] at c0 p3
          rcases HI.out.1.ja hk60 hxb with hr | hr
          · rw [hr.1, hr.2.1] at HAp
            obtain ⟨F, hF⟩ : ∃ F, jaF 16384 fs x.b = F := ⟨_, rfl⟩
            rw [hF] at HAp hr
            clear hF
            go_wp2_with fail
            go_region_held3 (fun w' => w'.cell? ⟨w.heap.size + 1, 0, none⟩ = some (.int .i64 16384) ∧ w'.cell? ⟨w.heap.size + 1, 1, none⟩ = some (.slice Ad fs.length cd) ∧ w'.cell? ⟨bb, off + k * 3 + 2, none⟩ = some (.slice Av x.b.length cv))
              (first | go_keep | (refine ⟨?_, ?_, ?_⟩ <;> (first | exact atb p0 (by (repeat (first | with_reducible exact Below.refl _ _ | with_reducible assumption | with_reducible refine bdraw ?_ | with_reducible refine bdrewN ?_ _ | with_reducible refine balloc ?_ _ | with_reducible refine bset ?_ (by simp <;> omega) | with_reducible refine bstep ?_ (by assumption) | with_reducible refine btrans ?_ (by assumption)))) | exact atb p1 (by (repeat (first | with_reducible exact Below.refl _ _ | with_reducible assumption | with_reducible refine bdraw ?_ | with_reducible refine bdrewN ?_ _ | with_reducible refine balloc ?_ _ | with_reducible refine bset ?_ (by simp <;> omega) | with_reducible refine bstep ?_ (by assumption) | with_reducible refine btrans ?_ (by assumption)))) | exact atb p2 (by (repeat (first | with_reducible exact Below.refl _ _ | with_reducible assumption | with_reducible refine bdraw ?_ | with_reducible refine bdrewN ?_ _ | with_reducible refine balloc ?_ _ | with_reducible refine bset ?_ (by simp <;> omega) | with_reducible refine bstep ?_ (by assumption) | with_reducible refine btrans ?_ (by assumption)))))))
              (first
                | (go_at_call 10; (refine (HAp _ (by (repeat (first | with_reducible exact Below.refl _ _ | with_reducible assumption | with_reducible refine bdraw ?_ | with_reducible refine bdrewN ?_ _ | with_reducible refine balloc ?_ _ | with_reducible refine bset ?_ (by simp <;> omega) | with_reducible refine bstep ?_ (by assumption) | with_reducible refine btrans ?_ (by assumption))))).out.mono ?_; rintro e w2 ⟨A2, c2', rfl, s2, hc9, b2⟩; have qz : w2.heap[wr.heap.size]? = some (.cells #[.int .i64 0, .slice none 0 0] 24 (0, 0)) := (b2.block wr.heap.size (by simp)).trans (heap_alloc_new wr (.cells #[.int .i64 0, .slice none 0 0] 24)); have xz0 : w2.cell? ⟨wr.heap.size, 0, none⟩ = some (.int .i64 0) := cell_of_row _ _ 0 _ _ _ qz; have fz0 : w2.frozen? ⟨wr.heap.size, 0, none⟩ = false := frozen_of_row _ _ 0 _ _ qz; have xz1 : w2.cell? ⟨wr.heap.size, 1, none⟩ = some (.slice none 0 0) := cell_of_row _ _ 1 _ _ _ qz; have fz1 : w2.frozen? ⟨wr.heap.size, 1, none⟩ = false := frozen_of_row _ _ 1 _ _ qz))
                | (go_at_call 10; go_must (refine (HAp _ (by (repeat (first | with_reducible exact Below.refl _ _ | with_reducible assumption | with_reducible refine bdraw ?_ | with_reducible refine bdrewN ?_ _ | with_reducible refine balloc ?_ _ | with_reducible refine bset ?_ (by simp <;> omega) | with_reducible refine bstep ?_ (by assumption) | with_reducible refine btrans ?_ (by assumption))))).out.mono ?_; rintro e w2 ⟨A2, c2', rfl, s2, hc9, b2⟩))
                | fail)
            all_goals
              first
                | (refine gen_w (Bx 16384 F A2 c2' wr w2.heap.size) ⟨by (repeat (first | with_reducible exact Below.refl _ _ | with_reducible assumption | with_reducible refine bdraw ?_ | with_reducible refine bdrewN ?_ _ | with_reducible refine balloc ?_ _ | with_reducible refine bset ?_ (by simp <;> omega) | with_reducible refine bstep ?_ (by assumption) | with_reducible refine btrans ?_ (by assumption))), by have := b2.size; simp at this; omega, heap_alloc_new w2 _, (s2.mono (S' := HiN wr.heap.size (some w2.heap.size)) (fun b fr h hl => ⟨by have := h.1; simp at this; omega, h.2, fun e => by injection e with e; omega⟩)).below ((Below.refl _ _).alloc (Nat.le_refl _) _) (Nat.le_refl _), hc9⟩ (fun W3 h3 => ?_); clear s2 b2 hc9; generalize w2.heap.size = X at h3 ⊢)
                | (refine gen_w (Bx 16384 F A2 c2' wr wr.heap.size) ⟨by (repeat (first | with_reducible exact Below.refl _ _ | with_reducible assumption | with_reducible refine bdraw ?_ | with_reducible refine bdrewN ?_ _ | with_reducible refine balloc ?_ _ | with_reducible refine bset ?_ (by simp <;> omega) | with_reducible refine bstep ?_ (by assumption) | with_reducible refine btrans ?_ (by assumption))), Nat.le_refl _, set2 qz, (sfar (sfar s2 (by simp)) (by simp)).mono (fun b fr h hl => ⟨by have := h.1; simp at this; omega, h.2, fun e => by have := h.1; simp at this; injection e with e; omega⟩), hc9⟩ (fun W3 h3 => ?_); clear s2 b2 hc9 qz xz0 xz1 fz0 fz1; generalize wr.heap.size = X at h3 ⊢)
              obtain ⟨bw3, hX, qX, sX, hcX⟩ := h3
              have hXl : X < W3.heap.size := (Array.getElem?_eq_some_iff.1 qX).1
              have z0 := atk p0 bw3
              have z1 := atk p1 bw3
              have z2 := atk p2 bw3
              have d0 := atb p3 bw3
              have HFin := Lib.hid (And.intro hr.2.2.1 hr.2.2.2)
              clear z0 z1 z2 a0 a1 c0 c1 c2 p0 p1 p3 xa0 xa1 fa0 fa1 hr
              go_wp2_with fail
              (refine wp_region_ext (by kernel_rfl) (by kernel_rfl) ?_; (repeat (go_big_quiet_step (fail))); with_reducible refine wpQuiet_nil ?_; intro wq hw'; have bq := ext_out hw'; clear hw')
              have bwq : Below wr.heap.size wr wq := bw3.trans (bq.mono bw3.size)
              have qXq := blkb qX bq
              have qDq := blkb q1 bwq
              have q0q := blkb q0 bwq
              have hn : ∀ g, (w.heap.size + 1) ≠ g → ((wq.setCell ⟨w.heap.size + 1, 0, none⟩ (.int .i64 16384)).setCell ⟨w.heap.size + 1, 1, none⟩ (.slice A2 F.length c2')).heap[g]? = wq.heap[g]? := fun g hg => (heap_setCell_other _ ⟨w.heap.size + 1, 1, none⟩ g _ (fun e => hg e.symm)).trans (heap_setCell_other wq ⟨w.heap.size + 1, 0, none⟩ g _ (fun e => hg e.symm))
              have hzD : ((wq.setCell ⟨w.heap.size + 1, 0, none⟩ (.int .i64 16384)).setCell ⟨w.heap.size + 1, 1, none⟩ (.slice A2 F.length c2')).heap.size = wq.heap.size := by simp
              have hzq := bwq.size
              have hbq := bq.size
              have c2d : ((wq.setCell ⟨w.heap.size + 1, 0, none⟩ (.int .i64 16384)).setCell ⟨w.heap.size + 1, 1, none⟩ (.slice A2 F.length c2')).cell? ⟨bb, off + k * 3 + 2, none⟩ = some (.slice Av x.b.length cv) := (a2.keep (w' := ((wq.setCell ⟨w.heap.size + 1, 0, none⟩ (.int .i64 16384)).setCell ⟨w.heap.size + 1, 1, none⟩ (.slice A2 F.length c2'))) (fun b _ hs hl => (hn b (by have : b < w.heap.size := hs; omega)).trans (bwq.block b hl))).cell
              have sd : Sl fiE (fun b fr => wr.heap.size ≤ b ∧ fr = (0, 0) ∧ b < wq.heap.size) ((wq.setCell ⟨w.heap.size + 1, 0, none⟩ (.int .i64 16384)).setCell ⟨w.heap.size + 1, 1, none⟩ (.slice A2 F.length c2')) (.slice A2 F.length c2') F := ((sX.mono (S' := fun b fr => wr.heap.size ≤ b ∧ fr = (0, 0) ∧ b < wq.heap.size) (fun b fr h hl => ⟨h.1, h.2.1, by omega⟩)).below bq (Nat.le_refl _)).keep (fun b _ hs _ => hn b (by have := hs.1; omega))
              have old : OL w.heap.size (w.heap.size + 2) ((wq.setCell ⟨w.heap.size + 1, 0, none⟩ (.int .i64 16384)).setCell ⟨w.heap.size + 1, 1, none⟩ (.slice A2 F.length c2')) (.slice Aa all.length ca) all us := ((ol.below bwq).far (by simp) (by simp)).far (by simp) (by simp)
              have hvd : Sl u8E (Lo w.heap.size) ((wq.setCell ⟨w.heap.size + 1, 0, none⟩ (.int .i64 16384)).setCell ⟨w.heap.size + 1, 1, none⟩ (.slice A2 F.length c2')) (.slice Av x.b.length cv) x.b := (hv.below bwq (Nat.le_refl _)).keep (fun b _ hs _ => hn b (by have : b < w.heap.size := hs; omega))
              have bE : Below ((wq.setCell ⟨w.heap.size + 1, 0, none⟩ (.int .i64 16384)).setCell ⟨w.heap.size + 1, 1, none⟩ (.slice A2 F.length c2')).heap.size ((wq.setCell ⟨w.heap.size + 1, 0, none⟩ (.int .i64 16384)).setCell ⟨w.heap.size + 1, 1, none⟩ (.slice A2 F.length c2')) (((wq.setCell ⟨w.heap.size + 1, 0, none⟩ (.int .i64 16384)).setCell ⟨w.heap.size + 1, 1, none⟩ (.slice A2 F.length c2')).alloc (.cells #[.slice Av x.b.length cv] 25)) := (Below.refl _ _).alloc (Nat.le_refl _) _
              have ole := old.below bE
              have q0d : ((wq.setCell ⟨w.heap.size + 1, 0, none⟩ (.int .i64 16384)).setCell ⟨w.heap.size + 1, 1, none⟩ (.slice A2 F.length c2')).heap[w.heap.size]? = some (.cells #[.int .i64 0, .slice none 0 0] 24 (0, 0)) := (hn _ (by omega)).trans q0q
              have q1d : ((wq.setCell ⟨w.heap.size + 1, 0, none⟩ (.int .i64 16384)).setCell ⟨w.heap.size + 1, 1, none⟩ (.slice A2 F.length c2')).heap[w.heap.size + 1]? = some (.cells #[.int .i64 16384, .slice A2 F.length c2'] 24 (0, 0)) := set2 qDq
              have bwd : Below w.heap.size w ((wq.setCell ⟨w.heap.size + 1, 0, none⟩ (.int .i64 16384)).setCell ⟨w.heap.size + 1, 1, none⟩ (.slice A2 F.length c2')) := bset (bset (hbr.trans (bwq.mono (by omega))) (by simp)) (by simp)
              have hul : us.length = all.length := ol.len
              have HUL := Lib.hid hul
              have hn1 : us.length + 1 ≤ 61 := by omega
              have hcsE : ∀ (j : Nat) (u : Value), ([.slice Av x.b.length cv] : List Value)[j]? = some u → (((wq.setCell ⟨w.heap.size + 1, 0, none⟩ (.int .i64 16384)).setCell ⟨w.heap.size + 1, 1, none⟩ (.slice A2 F.length c2')).alloc (.cells #[.slice Av x.b.length cv] 25)).cell? ⟨wq.heap.size, j, none⟩ = some u := by
                have := new_cells ((wq.setCell ⟨w.heap.size + 1, 0, none⟩ (.int .i64 16384)).setCell ⟨w.heap.size + 1, 1, none⟩ (.slice A2 F.length c2')) [.slice Av x.b.length cv] 25
                rw [hzD] at this
                exact this
              clear hul hn
              have xx0 : wq.cell? ⟨X, 0, none⟩ = some (.int .i64 16384) := cell_of_row _ _ 0 _ _ _ qXq; have fx0 : wq.frozen? ⟨X, 0, none⟩ = false := frozen_of_row _ _ 0 _ _ qXq; have xx1 : wq.cell? ⟨X, 1, none⟩ = some (.slice A2 F.length c2') := cell_of_row _ _ 1 _ _ _ qXq; have fx1 : wq.frozen? ⟨X, 1, none⟩ = false := frozen_of_row _ _ 1 _ _ qXq
              have xa0 : wq.cell? ⟨w.heap.size + 1, 0, none⟩ = some (.int .i64 16384) := cell_of_row _ _ 0 _ _ _ qDq; have fa0 : wq.frozen? ⟨w.heap.size + 1, 0, none⟩ = false := frozen_of_row _ _ 0 _ _ qDq; have xa1 : wq.cell? ⟨w.heap.size + 1, 1, none⟩ = some (.slice Ad fs.length cd) := cell_of_row _ _ 1 _ _ _ qDq; have fa1 : wq.frozen? ⟨w.heap.size + 1, 1, none⟩ = false := frozen_of_row _ _ 1 _ _ qDq
              go_wp2_with (at_builtin; refine wpList_append_one _ rfl (.tmp 85) (.tmp 91) 34 rfl (E := rawE) (base := w.heap.size + 2) Tryd.underlying34 hi8 hy0 hy1 hy2 rfl ole.row (a := .slice Av x.b.length cv) ⟨rfl, rfl⟩ hcsE rfl rfl (by unfold maxLen; omega) (by omega) (by simp; omega) ?_; intro v9 w9 o9 b9 hv9 g9)
              have hz9 := b9.size
              have hzE : (((wq.setCell ⟨w.heap.size + 1, 0, none⟩ (.int .i64 16384)).setCell ⟨w.heap.size + 1, 1, none⟩ (.slice A2 F.length c2')).alloc (.cells #[.slice Av x.b.length cv] 25)).heap.size = wq.heap.size + 1 := by simp
              have ol9 : OL w.heap.size (w.heap.size + 2) w9 v9 (all ++ [x.b]) (us ++ [.slice Av x.b.length cv]) := old.snoc bE (by omega) (by omega) hvd o9 g9
              have hrow : ∀ g, (Value.slice Aa all.length ca).ownBlock = some g → w.heap.size + 2 ≤ g ∧ g < wr.heap.size := hol
              have q09 := blkg (blkb q0d bE) g9 (fun g hg => by have := hrow g hg; omega)
              have q19 := blkg (blkb q1d bE) g9 (fun g hg => by have := hrow g hg; omega)
              have sE : Sl fiE (fun b fr => wr.heap.size ≤ b ∧ fr = (0, 0) ∧ b < wq.heap.size) w9 (.slice A2 F.length c2') F := (sd.below bE (Nat.le_refl _)).keep (fun b _ hs hl => g9.block b hl (fun e => by have := hrow b e.symm; have := hs.1; omega))
              have s9 : Sl fiE (HiN (w.heap.size + 2) v9.ownBlock) w9 (.slice A2 F.length c2') F := sE.mono (fun b fr h _ => ⟨by have := h.1; omega, h.2.1, fun e => by
                have h7 := h.1
                have h8 := h.2.2
                rcases hv9 with hv9 | hv9
                · rw [hv9] at e
                  have := hrow b e.symm
                  omega
                · rw [hv9, hzE] at e
                  injection e with e
                  omega⟩)
              go_roundw
              case rel =>
                obtain ⟨hj1, hj2⟩ := HFin.out
                exact ⟨k + 1, F, all ++ [x.b], su, _, us ++ [.slice Av x.b.length cv], by omega, by go_num, rfl, Lib.hid ⟨hj1, by omega, by simp; omega⟩, Lib.hid ⟨q09, q19⟩, s9, ol9, (bwd.trans (bE.mono (by omega))).trans (b9.mono (by omega)), by omega⟩
              case measure => simp [intOf]; omega
          · rw [hr.1] at HAp
            obtain ⟨F, hF⟩ : ∃ F, jaF 16384 fs x.b = F := ⟨_, rfl⟩
            obtain ⟨R, hR⟩ : ∃ R, jaR 16384 fs x.b = R := ⟨_, rfl⟩
            rw [hF, hR] at HAp
            clear hF hR
            go_wp2_with fail
            go_region_held3 (fun w' => w'.cell? ⟨w.heap.size + 1, 0, none⟩ = some (.int .i64 16384) ∧ w'.cell? ⟨w.heap.size + 1, 1, none⟩ = some (.slice Ad fs.length cd) ∧ w'.cell? ⟨bb, off + k * 3 + 2, none⟩ = some (.slice Av x.b.length cv))
              (first | go_keep | (refine ⟨?_, ?_, ?_⟩ <;> (first | exact atb p0 (by (repeat (first | with_reducible exact Below.refl _ _ | with_reducible assumption | with_reducible refine bdraw ?_ | with_reducible refine bdrewN ?_ _ | with_reducible refine balloc ?_ _ | with_reducible refine bset ?_ (by simp <;> omega) | with_reducible refine bstep ?_ (by assumption) | with_reducible refine btrans ?_ (by assumption)))) | exact atb p1 (by (repeat (first | with_reducible exact Below.refl _ _ | with_reducible assumption | with_reducible refine bdraw ?_ | with_reducible refine bdrewN ?_ _ | with_reducible refine balloc ?_ _ | with_reducible refine bset ?_ (by simp <;> omega) | with_reducible refine bstep ?_ (by assumption) | with_reducible refine btrans ?_ (by assumption)))) | exact atb p2 (by (repeat (first | with_reducible exact Below.refl _ _ | with_reducible assumption | with_reducible refine bdraw ?_ | with_reducible refine bdrewN ?_ _ | with_reducible refine balloc ?_ _ | with_reducible refine bset ?_ (by simp <;> omega) | with_reducible refine bstep ?_ (by assumption) | with_reducible refine btrans ?_ (by assumption)))))))
              (first
                | (go_at_call 10; (refine (HAp _ (by (repeat (first | with_reducible exact Below.refl _ _ | with_reducible assumption | with_reducible refine bdraw ?_ | with_reducible refine bdrewN ?_ _ | with_reducible refine balloc ?_ _ | with_reducible refine bset ?_ (by simp <;> omega) | with_reducible refine bstep ?_ (by assumption) | with_reducible refine btrans ?_ (by assumption))))).out.mono ?_; rintro e w2 ⟨A2, c2', rfl, s2, hc9, b2⟩; have qz : w2.heap[wr.heap.size]? = some (.cells #[.int .i64 0, .slice none 0 0] 24 (0, 0)) := (b2.block wr.heap.size (by simp)).trans (heap_alloc_new wr (.cells #[.int .i64 0, .slice none 0 0] 24)); have xz0 : w2.cell? ⟨wr.heap.size, 0, none⟩ = some (.int .i64 0) := cell_of_row _ _ 0 _ _ _ qz; have fz0 : w2.frozen? ⟨wr.heap.size, 0, none⟩ = false := frozen_of_row _ _ 0 _ _ qz; have xz1 : w2.cell? ⟨wr.heap.size, 1, none⟩ = some (.slice none 0 0) := cell_of_row _ _ 1 _ _ _ qz; have fz1 : w2.frozen? ⟨wr.heap.size, 1, none⟩ = false := frozen_of_row _ _ 1 _ _ qz))
                | (go_at_call 10; go_must (refine (HAp _ (by (repeat (first | with_reducible exact Below.refl _ _ | with_reducible assumption | with_reducible refine bdraw ?_ | with_reducible refine bdrewN ?_ _ | with_reducible refine balloc ?_ _ | with_reducible refine bset ?_ (by simp <;> omega) | with_reducible refine bstep ?_ (by assumption) | with_reducible refine btrans ?_ (by assumption))))).out.mono ?_; rintro e w2 ⟨A2, c2', rfl, s2, hc9, b2⟩))
                | fail)
            all_goals
              first
                | (refine gen_w (Bx R F A2 c2' wr w2.heap.size) ⟨by (repeat (first | with_reducible exact Below.refl _ _ | with_reducible assumption | with_reducible refine bdraw ?_ | with_reducible refine bdrewN ?_ _ | with_reducible refine balloc ?_ _ | with_reducible refine bset ?_ (by simp <;> omega) | with_reducible refine bstep ?_ (by assumption) | with_reducible refine btrans ?_ (by assumption))), by have := b2.size; simp at this; omega, heap_alloc_new w2 _, (s2.mono (S' := HiN wr.heap.size (some w2.heap.size)) (fun b fr h hl => ⟨by have := h.1; simp at this; omega, h.2, fun e => by injection e with e; omega⟩)).below ((Below.refl _ _).alloc (Nat.le_refl _) _) (Nat.le_refl _), hc9⟩ (fun W3 h3 => ?_); clear s2 b2 hc9; generalize w2.heap.size = X at h3 ⊢)
                | (refine gen_w (Bx R F A2 c2' wr wr.heap.size) ⟨by (repeat (first | with_reducible exact Below.refl _ _ | with_reducible assumption | with_reducible refine bdraw ?_ | with_reducible refine bdrewN ?_ _ | with_reducible refine balloc ?_ _ | with_reducible refine bset ?_ (by simp <;> omega) | with_reducible refine bstep ?_ (by assumption) | with_reducible refine btrans ?_ (by assumption))), Nat.le_refl _, set2 qz, (sfar (sfar s2 (by simp)) (by simp)).mono (fun b fr h hl => ⟨by have := h.1; simp at this; omega, h.2, fun e => by have := h.1; simp at this; injection e with e; omega⟩), hc9⟩ (fun W3 h3 => ?_); clear s2 b2 hc9 qz xz0 xz1 fz0 fz1; generalize wr.heap.size = X at h3 ⊢)
              obtain ⟨bw3, hX, qX, sX, hcX⟩ := h3
              have hXl : X < W3.heap.size := (Array.getElem?_eq_some_iff.1 qX).1
              have z0 := atk p0 bw3
              have z1 := atk p1 bw3
              have z2 := atk p2 bw3
              have d0 := atb p3 bw3
              have y0 := fun y : Ext W3 => atb z0 y.h
              have y1 := fun y : Ext W3 => atb z1 y.h
              have y2 := fun y : Ext W3 => atb z2 y.h
              have H5 := fun y : Ext W3 => Lib.hid (used_c (room := 16384) ((hsd.below bw3 (Nat.le_refl _)).below y.h (Nat.le_refl _)))
              have hfu := hr.2
              have hud : 0 ≤ usedD 16384 fs ∧ usedD 16384 fs ≤ 16384 := by
                have := formedD_size HI.out.1.fd
                unfold usedD
                rw [if_pos HI.out.1.fd]
                omega
              generalize usedD 16384 fs = ud at *
              have hw5 : IntKind.i64.wrap (16384 - ud) = 16384 - ud := IntWalk.i64_in _ (by omega)
              have hw6 : IntKind.i64.wrap ((x.b.length : Int) + 8) = (x.b.length : Int) + 8 := IntWalk.i64_in _ (by omega)
              have d3 : decide (16384 - ud < (x.b.length : Int) + 8) = true := decide_eq_true (by omega)
              have HFin := Lib.hid (And.intro q0 (And.intro q1 (And.intro hsd (And.intro ol (And.intro hbr (And.intro bw3 HLn))))))
              clear z0 z1 z2 qX sX hcX hsd ol hbr q0 q1 HQ a0 a1 a2 c0 c1 c2 p0 p1 p2 p3 xa0 xa1 fa0 fa1 hfu hud HAp hXl hr
              go_wp2_with fail
              (refine wp_region_ext (by kernel_rfl) (by kernel_rfl) ?_; (repeat (go_big_quiet_step ((go_at_call 39; exact ext_call (H5 _).out)))); with_reducible refine wpQuiet_nil ?_; intro wq hw'; have bq := ext_out hw'; clear hw')
              go_wp2
              go_roundw
              case rel =>
                obtain ⟨q0, q1, hsd, ol, hbr, bw9, HLn⟩ := HFin.out
                have bwq := bw9.trans (bq.mono bw9.size)
                exact ⟨k + 1, fs, all, su, _, us, by omega, by go_num, rfl, Lib.hid ⟨HI.out.1, by omega, by omega⟩, Lib.hid ⟨blkb q0 bwq, blkb q1 bwq⟩, hsd.below bwq (Nat.le_refl _), ol.below bwq, hbr.trans (bwq.mono (by omega)), by have := bwq.size; omega⟩
              case measure => simp [intOf]; omega
        | true =>
          rw [hst] at c0 p3
          obtain ⟨F1, hF1⟩ : ∃ F1, jaF 16384 fs x.b = F1 := ⟨_, rfl⟩
          obtain ⟨R1, hR1⟩ : ∃ R1, jaR 16384 fs x.b = R1 := ⟨_, rfl⟩
          obtain ⟨E1, hE1⟩ : ∃ E1, jaE 16384 fs x.b = E1 := ⟨_, rfl⟩
          rw [hF1, hR1, hE1] at HAp
          clear hF1 hR1 hE1
          have HSt := fun (w' : World) (b9 : Below wr.heap.size wr w') => Lib.hid ((jstart_c (room := 16384) (w := w') (hsd.below b9 (Nat.le_refl _)) (hv.below b9 (Nat.le_refl _)) (htw w' b9)).mono fun _ _ h => h.jp)
          rcases HI.out.1.js hk60 hxb with hr | hr
          · rw [hr.1, hr.2.1] at HSt
            obtain ⟨F, hF⟩ : ∃ F, jsF 16384 fs x.b = F := ⟨_, rfl⟩
            rw [hF] at HSt hr
            clear hF
            go_wp2_with fail
            go_region_held3 (fun w' => w'.cell? ⟨w.heap.size + 1, 0, none⟩ = some (.int .i64 16384) ∧ w'.cell? ⟨w.heap.size + 1, 1, none⟩ = some (.slice Ad fs.length cd) ∧ w'.cell? ⟨bb, off + k * 3 + 2, none⟩ = some (.slice Av x.b.length cv))
              (first | go_keep | (refine ⟨?_, ?_, ?_⟩ <;> (first | exact atb p0 (by (repeat (first | with_reducible exact Below.refl _ _ | with_reducible assumption | with_reducible refine bdraw ?_ | with_reducible refine bdrewN ?_ _ | with_reducible refine balloc ?_ _ | with_reducible refine bset ?_ (by simp <;> omega) | with_reducible refine bstep ?_ (by assumption) | with_reducible refine btrans ?_ (by assumption)))) | exact atb p1 (by (repeat (first | with_reducible exact Below.refl _ _ | with_reducible assumption | with_reducible refine bdraw ?_ | with_reducible refine bdrewN ?_ _ | with_reducible refine balloc ?_ _ | with_reducible refine bset ?_ (by simp <;> omega) | with_reducible refine bstep ?_ (by assumption) | with_reducible refine btrans ?_ (by assumption)))) | exact atb p2 (by (repeat (first | with_reducible exact Below.refl _ _ | with_reducible assumption | with_reducible refine bdraw ?_ | with_reducible refine bdrewN ?_ _ | with_reducible refine balloc ?_ _ | with_reducible refine bset ?_ (by simp <;> omega) | with_reducible refine bstep ?_ (by assumption) | with_reducible refine btrans ?_ (by assumption)))))))
              (first
                | (go_at_call 10; (refine (HAp _ (by (repeat (first | with_reducible exact Below.refl _ _ | with_reducible assumption | with_reducible refine bdraw ?_ | with_reducible refine bdrewN ?_ _ | with_reducible refine balloc ?_ _ | with_reducible refine bset ?_ (by simp <;> omega) | with_reducible refine bstep ?_ (by assumption) | with_reducible refine btrans ?_ (by assumption))))).out.mono ?_; rintro e w2 ⟨A2, c2', rfl, s2, hc9, b2⟩; have qz : w2.heap[wr.heap.size]? = some (.cells #[.int .i64 0, .slice none 0 0] 24 (0, 0)) := (b2.block wr.heap.size (by simp)).trans (heap_alloc_new wr (.cells #[.int .i64 0, .slice none 0 0] 24)); have xz0 : w2.cell? ⟨wr.heap.size, 0, none⟩ = some (.int .i64 0) := cell_of_row _ _ 0 _ _ _ qz; have fz0 : w2.frozen? ⟨wr.heap.size, 0, none⟩ = false := frozen_of_row _ _ 0 _ _ qz; have xz1 : w2.cell? ⟨wr.heap.size, 1, none⟩ = some (.slice none 0 0) := cell_of_row _ _ 1 _ _ _ qz; have fz1 : w2.frozen? ⟨wr.heap.size, 1, none⟩ = false := frozen_of_row _ _ 1 _ _ qz))
                | (go_at_call 10; go_must (refine (HAp _ (by (repeat (first | with_reducible exact Below.refl _ _ | with_reducible assumption | with_reducible refine bdraw ?_ | with_reducible refine bdrewN ?_ _ | with_reducible refine balloc ?_ _ | with_reducible refine bset ?_ (by simp <;> omega) | with_reducible refine bstep ?_ (by assumption) | with_reducible refine btrans ?_ (by assumption))))).out.mono ?_; rintro e w2 ⟨A2, c2', rfl, s2, hc9, b2⟩))
                | fail)
            all_goals
              first
                | (refine gen_w (Bx R1 F1 A2 c2' wr w2.heap.size) ⟨by (repeat (first | with_reducible exact Below.refl _ _ | with_reducible assumption | with_reducible refine bdraw ?_ | with_reducible refine bdrewN ?_ _ | with_reducible refine balloc ?_ _ | with_reducible refine bset ?_ (by simp <;> omega) | with_reducible refine bstep ?_ (by assumption) | with_reducible refine btrans ?_ (by assumption))), by have := b2.size; simp at this; omega, heap_alloc_new w2 _, (s2.mono (S' := HiN wr.heap.size (some w2.heap.size)) (fun b fr h hl => ⟨by have := h.1; simp at this; omega, h.2, fun e => by injection e with e; omega⟩)).below ((Below.refl _ _).alloc (Nat.le_refl _) _) (Nat.le_refl _), hc9⟩ (fun W3 h3 => ?_); clear s2 b2 hc9; generalize w2.heap.size = X at h3 ⊢)
                | (refine gen_w (Bx R1 F1 A2 c2' wr wr.heap.size) ⟨by (repeat (first | with_reducible exact Below.refl _ _ | with_reducible assumption | with_reducible refine bdraw ?_ | with_reducible refine bdrewN ?_ _ | with_reducible refine balloc ?_ _ | with_reducible refine bset ?_ (by simp <;> omega) | with_reducible refine bstep ?_ (by assumption) | with_reducible refine btrans ?_ (by assumption))), Nat.le_refl _, set2 qz, (sfar (sfar s2 (by simp)) (by simp)).mono (fun b fr h hl => ⟨by have := h.1; simp at this; omega, h.2, fun e => by have := h.1; simp at this; injection e with e; omega⟩), hc9⟩ (fun W3 h3 => ?_); clear s2 b2 hc9 qz xz0 xz1 fz0 fz1; generalize wr.heap.size = X at h3 ⊢)
              obtain ⟨bw3, hX, qX, sX, hcX⟩ := h3
              have hXl : X < W3.heap.size := (Array.getElem?_eq_some_iff.1 qX).1
              have z0 := atk p0 bw3
              have z1 := atk p1 bw3
              have z2 := atk p2 bw3
              have d0 := atb p3 bw3
              go_wp2_with fail
              go_region_held3 (fun w' => w'.cell? ⟨w.heap.size + 1, 0, none⟩ = some (.int .i64 16384) ∧ w'.cell? ⟨w.heap.size + 1, 1, none⟩ = some (.slice Ad fs.length cd) ∧ w'.cell? ⟨bb, off + k * 3 + 2, none⟩ = some (.slice Av x.b.length cv))
                (refine ⟨?_, ?_, ?_⟩ <;> (first | exact atb p0 (by (repeat (first | with_reducible exact Below.refl _ _ | with_reducible assumption | with_reducible refine bdraw ?_ | with_reducible refine bdrewN ?_ _ | with_reducible refine balloc ?_ _ | with_reducible refine bset ?_ (by simp <;> omega) | with_reducible refine bstep ?_ (by assumption) | with_reducible refine btrans ?_ (by assumption)))) | exact atb p1 (by (repeat (first | with_reducible exact Below.refl _ _ | with_reducible assumption | with_reducible refine bdraw ?_ | with_reducible refine bdrewN ?_ _ | with_reducible refine balloc ?_ _ | with_reducible refine bset ?_ (by simp <;> omega) | with_reducible refine bstep ?_ (by assumption) | with_reducible refine btrans ?_ (by assumption)))) | exact atb p2 (by (repeat (first | with_reducible exact Below.refl _ _ | with_reducible assumption | with_reducible refine bdraw ?_ | with_reducible refine bdrewN ?_ _ | with_reducible refine balloc ?_ _ | with_reducible refine bset ?_ (by simp <;> omega) | with_reducible refine bstep ?_ (by assumption) | with_reducible refine btrans ?_ (by assumption))))))
                (first
                  | (go_at_call 20; go_must (refine (HSt _ (by (repeat (first | with_reducible exact Below.refl _ _ | with_reducible assumption | with_reducible refine bdraw ?_ | with_reducible refine bdrewN ?_ _ | with_reducible refine balloc ?_ _ | with_reducible refine bset ?_ (by simp <;> omega) | with_reducible refine bstep ?_ (by assumption) | with_reducible refine btrans ?_ (by assumption))))).out.mono ?_; rintro e w4 ⟨A4, c4, rfl, s4, hc4, b4⟩; have qX4 := blkb qX (w' := w4) (by (repeat (first | with_reducible exact Below.refl _ _ | with_reducible assumption | with_reducible refine bdraw ?_ | with_reducible refine bdrewN ?_ _ | with_reducible refine balloc ?_ _ | with_reducible refine bset ?_ (by simp <;> omega) | with_reducible refine bstep ?_ (by assumption) | with_reducible refine btrans ?_ (by assumption)))); have xx0 : w4.cell? ⟨X, 0, none⟩ = some (.int .i64 R1) := cell_of_row _ _ 0 _ _ _ qX4; have fx0 : w4.frozen? ⟨X, 0, none⟩ = false := frozen_of_row _ _ 0 _ _ qX4; have xx1 : w4.cell? ⟨X, 1, none⟩ = some (.slice A2 F1.length c2') := cell_of_row _ _ 1 _ _ _ qX4; have fx1 : w4.frozen? ⟨X, 1, none⟩ = false := frozen_of_row _ _ 1 _ _ qX4))
                  | fail)
              all_goals
                have hz4 := b4.size
                refine gen_w (Bx 16384 F A4 c4 wr X) ⟨by (repeat (first | with_reducible exact Below.refl _ _ | with_reducible assumption | with_reducible refine bdraw ?_ | with_reducible refine bdrewN ?_ _ | with_reducible refine balloc ?_ _ | with_reducible refine bset ?_ (by simp <;> omega) | with_reducible refine bstep ?_ (by assumption) | with_reducible refine btrans ?_ (by assumption))), hX, set2 qX4, (sfar (sfar s4 (by first | omega | (simp; omega))) (by first | omega | (simp; omega))).mono (fun b fr h hl => ⟨by have := h.1; (try simp at this); have := bw3.size; omega, h.2, fun e => by have := h.1; (try simp at this); injection e with e; omega⟩), hc4⟩ (fun W4 h4 => ?_)
                clear s4 b4 hc4 qX4 xx0 xx1 fx0 fx1 hz4 qX sX hcX hXl z0 z1 z2 d0
                obtain ⟨bw4, _, qX, sX, hcX⟩ := h4
                have hXl : X < W4.heap.size := (Array.getElem?_eq_some_iff.1 qX).1
                have z0 := atk p0 bw4
                have z1 := atk p1 bw4
                have z2 := atk p2 bw4
                have HFin := Lib.hid (And.intro hr.2.2.1 hr.2.2.2)
                clear z0 z1 z2 a0 a1 c0 c1 c2 p0 p1 p3 xa0 xa1 fa0 fa1 hr
                go_wp2_with fail
                (refine wp_region_ext (by kernel_rfl) (by kernel_rfl) ?_; (repeat (go_big_quiet_step (fail))); with_reducible refine wpQuiet_nil ?_; intro wq hw'; have bq := ext_out hw'; clear hw')
                have bwq : Below wr.heap.size wr wq := bw4.trans (bq.mono bw4.size)
                have qXq := blkb qX bq
                have qDq := blkb q1 bwq
                have q0q := blkb q0 bwq
                have hn : ∀ g, (w.heap.size + 1) ≠ g → ((wq.setCell ⟨w.heap.size + 1, 0, none⟩ (.int .i64 16384)).setCell ⟨w.heap.size + 1, 1, none⟩ (.slice A4 F.length c4)).heap[g]? = wq.heap[g]? := fun g hg => (heap_setCell_other _ ⟨w.heap.size + 1, 1, none⟩ g _ (fun e => hg e.symm)).trans (heap_setCell_other wq ⟨w.heap.size + 1, 0, none⟩ g _ (fun e => hg e.symm))
                have hzD : ((wq.setCell ⟨w.heap.size + 1, 0, none⟩ (.int .i64 16384)).setCell ⟨w.heap.size + 1, 1, none⟩ (.slice A4 F.length c4)).heap.size = wq.heap.size := by simp
                have hzq := bwq.size
                have hbq := bq.size
                have c2d : ((wq.setCell ⟨w.heap.size + 1, 0, none⟩ (.int .i64 16384)).setCell ⟨w.heap.size + 1, 1, none⟩ (.slice A4 F.length c4)).cell? ⟨bb, off + k * 3 + 2, none⟩ = some (.slice Av x.b.length cv) := (a2.keep (w' := ((wq.setCell ⟨w.heap.size + 1, 0, none⟩ (.int .i64 16384)).setCell ⟨w.heap.size + 1, 1, none⟩ (.slice A4 F.length c4))) (fun b _ hs hl => (hn b (by have : b < w.heap.size := hs; omega)).trans (bwq.block b hl))).cell
                have sd : Sl fiE (fun b fr => wr.heap.size ≤ b ∧ fr = (0, 0) ∧ b < wq.heap.size) ((wq.setCell ⟨w.heap.size + 1, 0, none⟩ (.int .i64 16384)).setCell ⟨w.heap.size + 1, 1, none⟩ (.slice A4 F.length c4)) (.slice A4 F.length c4) F := ((sX.mono (S' := fun b fr => wr.heap.size ≤ b ∧ fr = (0, 0) ∧ b < wq.heap.size) (fun b fr h hl => ⟨h.1, h.2.1, by omega⟩)).below bq (Nat.le_refl _)).keep (fun b _ hs _ => hn b (by have := hs.1; omega))
                have old : OL w.heap.size (w.heap.size + 2) ((wq.setCell ⟨w.heap.size + 1, 0, none⟩ (.int .i64 16384)).setCell ⟨w.heap.size + 1, 1, none⟩ (.slice A4 F.length c4)) (.slice Aa all.length ca) all us := ((ol.below bwq).far (by simp) (by simp)).far (by simp) (by simp)
                have hvd : Sl u8E (Lo w.heap.size) ((wq.setCell ⟨w.heap.size + 1, 0, none⟩ (.int .i64 16384)).setCell ⟨w.heap.size + 1, 1, none⟩ (.slice A4 F.length c4)) (.slice Av x.b.length cv) x.b := (hv.below bwq (Nat.le_refl _)).keep (fun b _ hs _ => hn b (by have : b < w.heap.size := hs; omega))
                have bE : Below ((wq.setCell ⟨w.heap.size + 1, 0, none⟩ (.int .i64 16384)).setCell ⟨w.heap.size + 1, 1, none⟩ (.slice A4 F.length c4)).heap.size ((wq.setCell ⟨w.heap.size + 1, 0, none⟩ (.int .i64 16384)).setCell ⟨w.heap.size + 1, 1, none⟩ (.slice A4 F.length c4)) (((wq.setCell ⟨w.heap.size + 1, 0, none⟩ (.int .i64 16384)).setCell ⟨w.heap.size + 1, 1, none⟩ (.slice A4 F.length c4)).alloc (.cells #[.slice Av x.b.length cv] 25)) := (Below.refl _ _).alloc (Nat.le_refl _) _
                have ole := old.below bE
                have q0d : ((wq.setCell ⟨w.heap.size + 1, 0, none⟩ (.int .i64 16384)).setCell ⟨w.heap.size + 1, 1, none⟩ (.slice A4 F.length c4)).heap[w.heap.size]? = some (.cells #[.int .i64 0, .slice none 0 0] 24 (0, 0)) := (hn _ (by omega)).trans q0q
                have q1d : ((wq.setCell ⟨w.heap.size + 1, 0, none⟩ (.int .i64 16384)).setCell ⟨w.heap.size + 1, 1, none⟩ (.slice A4 F.length c4)).heap[w.heap.size + 1]? = some (.cells #[.int .i64 16384, .slice A4 F.length c4] 24 (0, 0)) := set2 qDq
                have bwd : Below w.heap.size w ((wq.setCell ⟨w.heap.size + 1, 0, none⟩ (.int .i64 16384)).setCell ⟨w.heap.size + 1, 1, none⟩ (.slice A4 F.length c4)) := bset (bset (hbr.trans (bwq.mono (by omega))) (by simp)) (by simp)
                have hul : us.length = all.length := ol.len
                have HUL := Lib.hid hul
                have hn1 : us.length + 1 ≤ 61 := by omega
                have hcsE : ∀ (j : Nat) (u : Value), ([.slice Av x.b.length cv] : List Value)[j]? = some u → (((wq.setCell ⟨w.heap.size + 1, 0, none⟩ (.int .i64 16384)).setCell ⟨w.heap.size + 1, 1, none⟩ (.slice A4 F.length c4)).alloc (.cells #[.slice Av x.b.length cv] 25)).cell? ⟨wq.heap.size, j, none⟩ = some u := by
                  have := new_cells ((wq.setCell ⟨w.heap.size + 1, 0, none⟩ (.int .i64 16384)).setCell ⟨w.heap.size + 1, 1, none⟩ (.slice A4 F.length c4)) [.slice Av x.b.length cv] 25
                  rw [hzD] at this
                  exact this
                clear hul hn
                have xx0 : wq.cell? ⟨X, 0, none⟩ = some (.int .i64 16384) := cell_of_row _ _ 0 _ _ _ qXq; have fx0 : wq.frozen? ⟨X, 0, none⟩ = false := frozen_of_row _ _ 0 _ _ qXq; have xx1 : wq.cell? ⟨X, 1, none⟩ = some (.slice A4 F.length c4) := cell_of_row _ _ 1 _ _ _ qXq; have fx1 : wq.frozen? ⟨X, 1, none⟩ = false := frozen_of_row _ _ 1 _ _ qXq
                have xa0 : wq.cell? ⟨w.heap.size + 1, 0, none⟩ = some (.int .i64 16384) := cell_of_row _ _ 0 _ _ _ qDq; have fa0 : wq.frozen? ⟨w.heap.size + 1, 0, none⟩ = false := frozen_of_row _ _ 0 _ _ qDq; have xa1 : wq.cell? ⟨w.heap.size + 1, 1, none⟩ = some (.slice Ad fs.length cd) := cell_of_row _ _ 1 _ _ _ qDq; have fa1 : wq.frozen? ⟨w.heap.size + 1, 1, none⟩ = false := frozen_of_row _ _ 1 _ _ qDq
                go_wp2_with (at_builtin; refine wpList_append_one _ rfl (.tmp 85) (.tmp 91) 34 rfl (E := rawE) (base := w.heap.size + 2) Tryd.underlying34 hi8 hy0 hy1 hy2 rfl ole.row (a := .slice Av x.b.length cv) ⟨rfl, rfl⟩ hcsE rfl rfl (by unfold maxLen; omega) (by omega) (by simp; omega) ?_; intro v9 w9 o9 b9 hv9 g9)
                have hz9 := b9.size
                have hzE : (((wq.setCell ⟨w.heap.size + 1, 0, none⟩ (.int .i64 16384)).setCell ⟨w.heap.size + 1, 1, none⟩ (.slice A4 F.length c4)).alloc (.cells #[.slice Av x.b.length cv] 25)).heap.size = wq.heap.size + 1 := by simp
                have ol9 : OL w.heap.size (w.heap.size + 2) w9 v9 (all ++ [x.b]) (us ++ [.slice Av x.b.length cv]) := old.snoc bE (by omega) (by omega) hvd o9 g9
                have hrow : ∀ g, (Value.slice Aa all.length ca).ownBlock = some g → w.heap.size + 2 ≤ g ∧ g < wr.heap.size := hol
                have q09 := blkg (blkb q0d bE) g9 (fun g hg => by have := hrow g hg; omega)
                have q19 := blkg (blkb q1d bE) g9 (fun g hg => by have := hrow g hg; omega)
                have sE : Sl fiE (fun b fr => wr.heap.size ≤ b ∧ fr = (0, 0) ∧ b < wq.heap.size) w9 (.slice A4 F.length c4) F := (sd.below bE (Nat.le_refl _)).keep (fun b _ hs hl => g9.block b hl (fun e => by have := hrow b e.symm; have := hs.1; omega))
                have s9 : Sl fiE (HiN (w.heap.size + 2) v9.ownBlock) w9 (.slice A4 F.length c4) F := sE.mono (fun b fr h _ => ⟨by have := h.1; omega, h.2.1, fun e => by
                  have h7 := h.1
                  have h8 := h.2.2
                  rcases hv9 with hv9 | hv9
                  · rw [hv9] at e
                    have := hrow b e.symm
                    omega
                  · rw [hv9, hzE] at e
                    injection e with e
                    omega⟩)
                go_roundw
                case rel =>
                  obtain ⟨hj1, hj2⟩ := HFin.out
                  exact ⟨k + 1, F, all ++ [x.b], su, _, us ++ [.slice Av x.b.length cv], by omega, by go_num, rfl, Lib.hid ⟨hj1, by omega, by simp; omega⟩, Lib.hid ⟨q09, q19⟩, s9, ol9, (bwd.trans (bE.mono (by omega))).trans (b9.mono (by omega)), by omega⟩
                case measure => simp [intOf]; omega
          · rw [hr.1] at HSt
            obtain ⟨F, hF⟩ : ∃ F, jsF 16384 fs x.b = F := ⟨_, rfl⟩
            obtain ⟨R, hR⟩ : ∃ R, jsR 16384 fs x.b = R := ⟨_, rfl⟩
            rw [hF, hR] at HSt
            clear hF hR
            go_wp2_with fail
            go_region_held3 (fun w' => w'.cell? ⟨w.heap.size + 1, 0, none⟩ = some (.int .i64 16384) ∧ w'.cell? ⟨w.heap.size + 1, 1, none⟩ = some (.slice Ad fs.length cd) ∧ w'.cell? ⟨bb, off + k * 3 + 2, none⟩ = some (.slice Av x.b.length cv))
              (first | go_keep | (refine ⟨?_, ?_, ?_⟩ <;> (first | exact atb p0 (by (repeat (first | with_reducible exact Below.refl _ _ | with_reducible assumption | with_reducible refine bdraw ?_ | with_reducible refine bdrewN ?_ _ | with_reducible refine balloc ?_ _ | with_reducible refine bset ?_ (by simp <;> omega) | with_reducible refine bstep ?_ (by assumption) | with_reducible refine btrans ?_ (by assumption)))) | exact atb p1 (by (repeat (first | with_reducible exact Below.refl _ _ | with_reducible assumption | with_reducible refine bdraw ?_ | with_reducible refine bdrewN ?_ _ | with_reducible refine balloc ?_ _ | with_reducible refine bset ?_ (by simp <;> omega) | with_reducible refine bstep ?_ (by assumption) | with_reducible refine btrans ?_ (by assumption)))) | exact atb p2 (by (repeat (first | with_reducible exact Below.refl _ _ | with_reducible assumption | with_reducible refine bdraw ?_ | with_reducible refine bdrewN ?_ _ | with_reducible refine balloc ?_ _ | with_reducible refine bset ?_ (by simp <;> omega) | with_reducible refine bstep ?_ (by assumption) | with_reducible refine btrans ?_ (by assumption)))))))
              (first
                | (go_at_call 10; (refine (HAp _ (by (repeat (first | with_reducible exact Below.refl _ _ | with_reducible assumption | with_reducible refine bdraw ?_ | with_reducible refine bdrewN ?_ _ | with_reducible refine balloc ?_ _ | with_reducible refine bset ?_ (by simp <;> omega) | with_reducible refine bstep ?_ (by assumption) | with_reducible refine btrans ?_ (by assumption))))).out.mono ?_; rintro e w2 ⟨A2, c2', rfl, s2, hc9, b2⟩; have qz : w2.heap[wr.heap.size]? = some (.cells #[.int .i64 0, .slice none 0 0] 24 (0, 0)) := (b2.block wr.heap.size (by simp)).trans (heap_alloc_new wr (.cells #[.int .i64 0, .slice none 0 0] 24)); have xz0 : w2.cell? ⟨wr.heap.size, 0, none⟩ = some (.int .i64 0) := cell_of_row _ _ 0 _ _ _ qz; have fz0 : w2.frozen? ⟨wr.heap.size, 0, none⟩ = false := frozen_of_row _ _ 0 _ _ qz; have xz1 : w2.cell? ⟨wr.heap.size, 1, none⟩ = some (.slice none 0 0) := cell_of_row _ _ 1 _ _ _ qz; have fz1 : w2.frozen? ⟨wr.heap.size, 1, none⟩ = false := frozen_of_row _ _ 1 _ _ qz))
                | (go_at_call 10; go_must (refine (HAp _ (by (repeat (first | with_reducible exact Below.refl _ _ | with_reducible assumption | with_reducible refine bdraw ?_ | with_reducible refine bdrewN ?_ _ | with_reducible refine balloc ?_ _ | with_reducible refine bset ?_ (by simp <;> omega) | with_reducible refine bstep ?_ (by assumption) | with_reducible refine btrans ?_ (by assumption))))).out.mono ?_; rintro e w2 ⟨A2, c2', rfl, s2, hc9, b2⟩))
                | fail)
            all_goals
              first
                | (refine gen_w (Bx R1 F1 A2 c2' wr w2.heap.size) ⟨by (repeat (first | with_reducible exact Below.refl _ _ | with_reducible assumption | with_reducible refine bdraw ?_ | with_reducible refine bdrewN ?_ _ | with_reducible refine balloc ?_ _ | with_reducible refine bset ?_ (by simp <;> omega) | with_reducible refine bstep ?_ (by assumption) | with_reducible refine btrans ?_ (by assumption))), by have := b2.size; simp at this; omega, heap_alloc_new w2 _, (s2.mono (S' := HiN wr.heap.size (some w2.heap.size)) (fun b fr h hl => ⟨by have := h.1; simp at this; omega, h.2, fun e => by injection e with e; omega⟩)).below ((Below.refl _ _).alloc (Nat.le_refl _) _) (Nat.le_refl _), hc9⟩ (fun W3 h3 => ?_); clear s2 b2 hc9; generalize w2.heap.size = X at h3 ⊢)
                | (refine gen_w (Bx R1 F1 A2 c2' wr wr.heap.size) ⟨by (repeat (first | with_reducible exact Below.refl _ _ | with_reducible assumption | with_reducible refine bdraw ?_ | with_reducible refine bdrewN ?_ _ | with_reducible refine balloc ?_ _ | with_reducible refine bset ?_ (by simp <;> omega) | with_reducible refine bstep ?_ (by assumption) | with_reducible refine btrans ?_ (by assumption))), Nat.le_refl _, set2 qz, (sfar (sfar s2 (by simp)) (by simp)).mono (fun b fr h hl => ⟨by have := h.1; simp at this; omega, h.2, fun e => by have := h.1; simp at this; injection e with e; omega⟩), hc9⟩ (fun W3 h3 => ?_); clear s2 b2 hc9 qz xz0 xz1 fz0 fz1; generalize wr.heap.size = X at h3 ⊢)
              obtain ⟨bw3, hX, qX, sX, hcX⟩ := h3
              have hXl : X < W3.heap.size := (Array.getElem?_eq_some_iff.1 qX).1
              have z0 := atk p0 bw3
              have z1 := atk p1 bw3
              have z2 := atk p2 bw3
              have d0 := atb p3 bw3
              go_wp2_with fail
              go_region_held3 (fun w' => w'.cell? ⟨w.heap.size + 1, 0, none⟩ = some (.int .i64 16384) ∧ w'.cell? ⟨w.heap.size + 1, 1, none⟩ = some (.slice Ad fs.length cd) ∧ w'.cell? ⟨bb, off + k * 3 + 2, none⟩ = some (.slice Av x.b.length cv))
                (refine ⟨?_, ?_, ?_⟩ <;> (first | exact atb p0 (by (repeat (first | with_reducible exact Below.refl _ _ | with_reducible assumption | with_reducible refine bdraw ?_ | with_reducible refine bdrewN ?_ _ | with_reducible refine balloc ?_ _ | with_reducible refine bset ?_ (by simp <;> omega) | with_reducible refine bstep ?_ (by assumption) | with_reducible refine btrans ?_ (by assumption)))) | exact atb p1 (by (repeat (first | with_reducible exact Below.refl _ _ | with_reducible assumption | with_reducible refine bdraw ?_ | with_reducible refine bdrewN ?_ _ | with_reducible refine balloc ?_ _ | with_reducible refine bset ?_ (by simp <;> omega) | with_reducible refine bstep ?_ (by assumption) | with_reducible refine btrans ?_ (by assumption)))) | exact atb p2 (by (repeat (first | with_reducible exact Below.refl _ _ | with_reducible assumption | with_reducible refine bdraw ?_ | with_reducible refine bdrewN ?_ _ | with_reducible refine balloc ?_ _ | with_reducible refine bset ?_ (by simp <;> omega) | with_reducible refine bstep ?_ (by assumption) | with_reducible refine btrans ?_ (by assumption))))))
                (first
                  | (go_at_call 20; go_must (refine (HSt _ (by (repeat (first | with_reducible exact Below.refl _ _ | with_reducible assumption | with_reducible refine bdraw ?_ | with_reducible refine bdrewN ?_ _ | with_reducible refine balloc ?_ _ | with_reducible refine bset ?_ (by simp <;> omega) | with_reducible refine bstep ?_ (by assumption) | with_reducible refine btrans ?_ (by assumption))))).out.mono ?_; rintro e w4 ⟨A4, c4, rfl, s4, hc4, b4⟩; have qX4 := blkb qX (w' := w4) (by (repeat (first | with_reducible exact Below.refl _ _ | with_reducible assumption | with_reducible refine bdraw ?_ | with_reducible refine bdrewN ?_ _ | with_reducible refine balloc ?_ _ | with_reducible refine bset ?_ (by simp <;> omega) | with_reducible refine bstep ?_ (by assumption) | with_reducible refine btrans ?_ (by assumption)))); have xx0 : w4.cell? ⟨X, 0, none⟩ = some (.int .i64 R1) := cell_of_row _ _ 0 _ _ _ qX4; have fx0 : w4.frozen? ⟨X, 0, none⟩ = false := frozen_of_row _ _ 0 _ _ qX4; have xx1 : w4.cell? ⟨X, 1, none⟩ = some (.slice A2 F1.length c2') := cell_of_row _ _ 1 _ _ _ qX4; have fx1 : w4.frozen? ⟨X, 1, none⟩ = false := frozen_of_row _ _ 1 _ _ qX4))
                  | fail)
              all_goals
                have hz4 := b4.size
                refine gen_w (Bx R F A4 c4 wr X) ⟨by (repeat (first | with_reducible exact Below.refl _ _ | with_reducible assumption | with_reducible refine bdraw ?_ | with_reducible refine bdrewN ?_ _ | with_reducible refine balloc ?_ _ | with_reducible refine bset ?_ (by simp <;> omega) | with_reducible refine bstep ?_ (by assumption) | with_reducible refine btrans ?_ (by assumption))), hX, set2 qX4, (sfar (sfar s4 (by first | omega | (simp; omega))) (by first | omega | (simp; omega))).mono (fun b fr h hl => ⟨by have := h.1; (try simp at this); have := bw3.size; omega, h.2, fun e => by have := h.1; (try simp at this); injection e with e; omega⟩), hc4⟩ (fun W4 h4 => ?_)
                clear s4 b4 hc4 qX4 xx0 xx1 fx0 fx1 hz4 qX sX hcX hXl z0 z1 z2 d0
                obtain ⟨bw4, _, qX, sX, hcX⟩ := h4
                have hXl : X < W4.heap.size := (Array.getElem?_eq_some_iff.1 qX).1
                have z0 := atk p0 bw4
                have z1 := atk p1 bw4
                have z2 := atk p2 bw4
                have y0 := fun y : Ext W4 => atb z0 y.h
                have y1 := fun y : Ext W4 => atb z1 y.h
                have y2 := fun y : Ext W4 => atb z2 y.h
                have H5 := fun y : Ext W4 => Lib.hid (used_c (room := 16384) ((hsd.below bw4 (Nat.le_refl _)).below y.h (Nat.le_refl _)))
                have hfu := hr.2
                have hud : 0 ≤ usedD 16384 fs ∧ usedD 16384 fs ≤ 16384 := by
                  have := formedD_size HI.out.1.fd
                  unfold usedD
                  rw [if_pos HI.out.1.fd]
                  omega
                generalize usedD 16384 fs = ud at *
                have hw5 : IntKind.i64.wrap (16384 - ud) = 16384 - ud := IntWalk.i64_in _ (by omega)
                have hw6 : IntKind.i64.wrap ((x.b.length : Int) + 8) = (x.b.length : Int) + 8 := IntWalk.i64_in _ (by omega)
                have d3 : decide (16384 - ud < (x.b.length : Int) + 8) = true := decide_eq_true (by omega)
                have HFin := Lib.hid (And.intro q0 (And.intro q1 (And.intro hsd (And.intro ol (And.intro hbr (And.intro bw4 HLn))))))
                clear z0 z1 z2 qX sX hcX hsd ol hbr q0 q1 HQ a0 a1 a2 c0 c1 c2 p0 p1 p2 p3 xa0 xa1 fa0 fa1 hfu hud HAp HSt hXl hr
                go_wp2_with fail
                (refine wp_region_ext (by kernel_rfl) (by kernel_rfl) ?_; (repeat (go_big_quiet_step ((go_at_call 39; exact ext_call (H5 _).out)))); with_reducible refine wpQuiet_nil ?_; intro wq hw'; have bq := ext_out hw'; clear hw')
                go_wp2
                go_roundw
                case rel =>
                  obtain ⟨q0, q1, hsd, ol, hbr, bw9, HLn⟩ := HFin.out
                  have bwq := bw9.trans (bq.mono bw9.size)
                  exact ⟨k + 1, fs, all, su, _, us, by omega, by go_num, rfl, Lib.hid ⟨HI.out.1, by omega, by omega⟩, Lib.hid ⟨blkb q0 bwq, blkb q1 bwq⟩, hsd.below bwq (Nat.le_refl _), ol.below bwq, hbr.trans (bwq.mono (by omega)), by have := bwq.size; omega⟩
                case measure => simp [intOf]; omega
    · have hkI : ¬ (k : Int) < (l.length : Int) := by omega
      have xr0 : wr.cell? ⟨w.heap.size, 0, none⟩ = some (.int .i64 0) := cell_of_row _ _ 0 _ _ _ q0; have fr0 : wr.frozen? ⟨w.heap.size, 0, none⟩ = false := frozen_of_row _ _ 0 _ _ q0; have xr1 : wr.cell? ⟨w.heap.size, 1, none⟩ = some (.slice none 0 0) := cell_of_row _ _ 1 _ _ _ q0; have fr1 : wr.frozen? ⟨w.heap.size, 1, none⟩ = false := frozen_of_row _ _ 1 _ _ q0
      have hoth : ∀ g, w.heap.size ≠ g → ((wr.setCell ⟨w.heap.size, 0, none⟩ (.int .i64 16384)).setCell ⟨w.heap.size, 1, none⟩ (.slice Ad fs.length cd)).heap[g]? = wr.heap[g]? := fun g hg => (heap_setCell_other _ ⟨w.heap.size, 1, none⟩ g _ (fun e => hg e.symm)).trans (heap_setCell_other wr ⟨w.heap.size, 0, none⟩ g _ (fun e => hg e.symm))
      have sF := (hsd.keep (w' := (wr.setCell ⟨w.heap.size, 0, none⟩ (.int .i64 16384)).setCell ⟨w.heap.size, 1, none⟩ (.slice Ad fs.length cd)) (fun b _ hs _ => hoth b (by have := hs.1; omega))).any
      have oF := ((ol.far (p := ⟨w.heap.size, 0, none⟩) (z := .int .i64 16384) (Nat.le_refl _) (by simp)).far (p := ⟨w.heap.size, 1, none⟩) (z := .slice Ad fs.length cd) (Nat.le_refl _) (by simp)).sl
      have bF : Below w.heap.size w ((wr.setCell ⟨w.heap.size, 0, none⟩ (.int .i64 16384)).setCell ⟨w.heap.size, 1, none⟩ (.slice Ad fs.length cd)) := bset (bset hbr (Nat.le_refl _)) (Nat.le_refl _)
      go_wp2
      refine bodyPost_ret (results_cell_tmp3 rfl _ _ w.heap.size 24 #[.int .i64 16384, .slice Ad fs.length cd] (0, 0) _ rfl (set2 q0) Tryd.underlying24 rfl (by kernel_rfl)) rfl ?_
      exact ⟨Ad, cd, Aa, ca, fs, all, su, rfl, Lib.hid HI.out.1, sF, oF, bF⟩
end Go.Proofs.YtbahiohlhhdkcaaDoor
