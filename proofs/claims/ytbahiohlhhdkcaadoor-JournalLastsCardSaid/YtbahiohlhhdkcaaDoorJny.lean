/- The journal's laws, walked: JournalLasts; the deeds, as they are read of an argument. -/
import Derived.Test.YtbahiohlhhdkcaaDoorOpend
import Derived.Test.YtbahiohlhhdkcaaDoorJnx
set_option linter.unusedSimpArgs false
namespace Go.Proofs.YtbahiohlhhdkcaaDoor
open Go.RowKit Go.ChangeShapes Go.WideShapes Go.ChangeAt

theorem cells_bool : Tryd.prog.cellsOf 4 = 1 := by kernel_rfl
theorem cells_dj : Tryd.prog.cellsOf 44 = 3 := by kernel_rfl
theorem opens_dj1 : Opens djE 44 (fun f => f.b.length + 1) (fun f => f.b.length ≤ reachBytes) := by
  intro H enc w base spare held fuel cs x h
  obtain ⟨y0, y1, y2, n, rfl, hl, h0, h1, h2⟩ := Deep.trod_struct3 Tryd.underlying44 h
  rw [cells_dj] at hl
  obtain ⟨u0, u1, u2, rfl⟩ : ∃ u0 u1 u2, cs = [u0, u1, u2] := by
    match cs, hl with
    | [u0, u1, u2], _ => exact ⟨u0, u1, u2, rfl⟩
  simp only [cells_bool, cells_bytes, List.drop_zero, List.drop_succ_cons, List.take_succ_cons, List.take_zero] at h0 h1 h2
  obtain ⟨a, e0, _⟩ := DataW.trod_bool Tryd.underlying4 h0
  obtain ⟨c, e1, _⟩ := DataW.trod_bool Tryd.underlying4 h1
  obtain ⟨l, ⟨v, e3, hs⟩, hm, hf⟩ := opens_slice Tryd.underlying25 (E := u8E) cells_u8 opens_u8 enc w base spare held n _ _ h2
  simp only [List.cons.injEq, and_true] at e0 e1 e3
  subst e0 e1 e3
  refine ⟨⟨a, c, l⟩, ⟨_, rfl, hs⟩, ?_, fun hz => ?_⟩
  · simp only [Rows.uptoBulk, Rows.uptoBulkAll]
    simp only [sum_one] at hm
    show l.length + 1 ≤ _
    omega
  · rw [DataW.weights, Tryd.underlying44] at hz
    simp only [List.map_cons, DataW.weightsEach, List.all_append, Bool.and_eq_true] at hz
    have := (hf hz.2.2.1).1
    rw [bytes_u8] at this
    show l.length ≤ reachBytes
    omega
theorem opens_dj : Opens (slE djE) 41 (fun l => (l.map fun f => f.b.length + 1).sum + 1) (fun l => l.length * Tryd.prog.bytesOf 44 ≤ reachBytes ∧ ∀ f ∈ l, f.b.length ≤ reachBytes) :=
  opens_slice Tryd.underlying41 (E := djE) cells_dj opens_dj1
theorem u16_le {n : Int} (h : (Lit.int .u16 n).wf = true) : 0 ≤ n ∧ n ≤ 65535 := by
  simpa [Lit.wf, IntKind.min, IntKind.max, IntKind.signed, IntKind.bits] using h
theorem u8_le {n : Int} (h : (Lit.int .u8 n).wf = true) : 0 ≤ n ∧ n ≤ 255 := by
  simpa [Lit.wf, IntKind.min, IntKind.max, IntKind.signed, IntKind.bits] using h
theorem jscan_f {S : Foot} {v : Value} {room : Int} {l F : List Fi} {L : List (List UInt8)} {w : World} (hp : Sl fiE S w v l) (ht : Tab w) (hf : formedD room l = true) (hL : scL l = L) (hF : scF l = F) :
    Calls Tryd.prog 15 #[.agg #[.int .i64 room, v]] w (AnsL L room F 0 w) := by
  obtain ⟨h1, h2, h3, h4⟩ := sa_ok hf
  have := jscan_c (room := room) hp ht
  rw [h1, h2, h3, h4, hL, hF] at this
  exact this
set_option maxRecDepth 100000 in
set_option maxHeartbeats 8000000 in
theorem journallasts_c {S : Foot} {v : Value} {l : List Dj} {keep turn : Int} {w : World} (hp : Sl djE S w v l) (ht : Tab w) (hk0 : 0 ≤ keep) (hk1 : keep ≤ 65535) (ht0 : 0 ≤ turn) (ht1 : turn ≤ 255) :
    Calls Tryd.prog 7 #[v, .int .u16 keep, .int .u8 turn] w fun e w' => e = .returned (.bool true) ∧ Below w.heap.size w w' := by
  obtain ⟨i0, hi0, hy0, hy1, hy2⟩ := info_parts sl_info
  have hp := hp.any
  obtain ⟨A, cap, rfl, hc1, hc2, _⟩ := hp.shape
  unfold maxLen at hc2
  go_enter Tryd.func7, Tryd.ntmps7
  go_wp2_with fail
  refine (alive_c ht).mono ?_
  rintro e w1 ⟨rfl, b1⟩
  have hp1 := hp.below b1 (Nat.le_refl _)
  have ht1' := ht.below b1 (Nat.le_refl _)
  by_cases h60 : l.length ≤ 60
  rotate_left
  · have d1 : decide ((60 : Int) < (l.length : Int)) = true := decide_eq_true (by omega)
    have d2 : decide (60 < l.length) = true := decide_eq_true (by omega)
    go_wp2
    go_ret
    exact ⟨rfl, b1⟩
  have d1 : decide ((60 : Int) < (l.length : Int)) = false := decide_eq_false (by omega)
  have d2 : decide (60 < l.length) = false := decide_eq_false (by omega)
  go_wp2
  go_loopw [7] (fun iv wr => ∃ k : Nat, k ≤ l.length ∧ iv = .int .i64 k ∧ Hid (∀ j, (hj : j < l.length) → j < k → l[j].b.length ≤ 16384) ∧ Below w1.heap.size w1 wr) (fun iv _ => l.length - (intOf iv).toNat)
  case atStart => exact ⟨0, Nat.zero_le _, by go_num, Lib.hid (fun j _ hj => absurd hj (Nat.not_lt_zero _)), Below.refl _ _⟩
  case round =>
    obtain ⟨k, hk, rfl, HJ, hbr⟩ := hrel
    have hbw : Below w.heap.size w wr := b1.trans (hbr.mono b1.size)
    by_cases hlt : k < l.length
    · have hkI : (k : Int) < (l.length : Int) := by omega
      have hkk0 : (0 : Int) ≤ (k : Int) := by omega
      obtain ⟨bb, off, Av, cv, rfl, a0, a1, a2, hv⟩ := (hp1.below hbr (Nat.le_refl _)).dj hlt
      have c2 := a2.cell
      have HXX : Hid (l[k].b.length ≤ 16384 → ∀ j, (hj : j < l.length) → j < k + 1 → l[j].b.length ≤ 16384) := Lib.hid (fun h j hj hjk => by
        rcases Nat.lt_or_ge j k with h1 | h1
        · exact HJ.out j hj h1
        · have e : j = k := by omega
          subst e
          exact h)
      generalize l[k] = x at *
      clear a0 a1 a2
      by_cases hbig : x.b.length ≤ 16384
      · have d3 : decide ((16384 : Int) < (x.b.length : Int)) = false := decide_eq_false (by omega)
        have d4 : decide (16384 < x.b.length) = false := decide_eq_false (by omega)
        have HX2 := Lib.hid (HXX.out hbig)
        clear hbig HXX
        go_wp2
        go_roundw
        case rel => exact ⟨k + 1, by omega, by go_num, HX2, hbr⟩
        case measure => simp [intOf]; omega
      · have d3 : decide ((16384 : Int) < (x.b.length : Int)) = true := decide_eq_true (by omega)
        have d4 : decide (16384 < x.b.length) = true := decide_eq_true (by omega)
        clear hbig HXX
        go_wp2
        go_ret
        exact ⟨rfl, hbw⟩
    · have hkI : ¬ (k : Int) < (l.length : Int) := by omega
      have HWr := Lib.hid (written_c (hp1.below hbr (Nat.le_refl _)) (ht.below hbw (Nat.le_refl _)) h60 (fun j hj => HJ.out j hj (by omega)))
      go_wp2_with fail
      refine HWr.out.mono ?_
      rintro e w2 ⟨A2, c2, Aa, ca, fs, all, su, rfl, HI, s2, la, b2⟩
      have hb2 : Below w.heap.size w w2 := hbw.trans (b2.mono hbw.size)
      obtain ⟨_, _, _, hca1, hca2, _⟩ := la.shape
      unfold maxLen at hca2
      obtain ⟨g1, g2, g3, i, g4, g5, g6⟩ := HI.out.crash hk0 ht0 ht1
      obtain ⟨Y, hY⟩ : ∃ Y, scF (crF 16384 fs keep turn) = Y := ⟨_, rfl⟩
      obtain ⟨F, hF⟩ : ∃ F, crF 16384 fs keep turn = F := ⟨_, rfl⟩
      obtain ⟨L, hL⟩ : ∃ L, all.take i = L := ⟨_, rfl⟩
      rw [hF] at g3 g4 hY
      rw [hL] at g4
      have hLl : L.length = i := by rw [← hL, List.length_take, Nat.min_eq_left g6]
      have hLt : all.take L.length = L := by rw [hLl, hL]
      have HG := Lib.hid (And.intro g3 (And.intro g4 hY))
      have HC := fun (w' : World) (b9 : Below w2.heap.size w2 w') => Lib.hid ((crash_c (room := 16384) (keep := keep) (turn := turn) (w := w') (s2.below b9 (Nat.le_refl _)) (by omega)).mono fun _ _ h => h.s)
      rw [g1, g2, hF] at HC
      have hle1 : su ≤ L.length := by omega
      have hle2 : L.length ≤ all.length := by omega
      have HLt := Lib.hid hLt
      clear g1 g2 g3 g4 g5 g6 hY hF hL hLl hLt HWr
      have hwk : IntKind.i64.wrap keep = keep := IntWalk.i64_in _ (by omega)
      have hwt : IntKind.i64.wrap turn = turn := IntWalk.i64_in _ (by omega)
      have q3 := heap_alloc_new w2 (.cells #[.int .i64 16384, .slice A2 fs.length c2] 24)
      have b3 : Below w2.heap.size w2 (w2.alloc (.cells #[.int .i64 16384, .slice A2 fs.length c2] 24)) := (Below.refl _ _).alloc (Nat.le_refl _) _
      have xa0 : (w2.alloc (.cells #[.int .i64 16384, .slice A2 fs.length c2] 24)).cell? ⟨w2.heap.size, 0, none⟩ = some (.int .i64 16384) := cell_of_row _ _ 0 _ _ _ q3; have fa0 : (w2.alloc (.cells #[.int .i64 16384, .slice A2 fs.length c2] 24)).frozen? ⟨w2.heap.size, 0, none⟩ = false := frozen_of_row _ _ 0 _ _ q3; have xa1 : (w2.alloc (.cells #[.int .i64 16384, .slice A2 fs.length c2] 24)).cell? ⟨w2.heap.size, 1, none⟩ = some (.slice A2 fs.length c2) := cell_of_row _ _ 1 _ _ _ q3; have fa1 : (w2.alloc (.cells #[.int .i64 16384, .slice A2 fs.length c2] 24)).frozen? ⟨w2.heap.size, 1, none⟩ = false := frozen_of_row _ _ 1 _ _ q3
      go_wp2_with fail
      refine (HC _ b3).out.mono ?_
      rintro e w4 ⟨A4, c4, rfl, s4, b4⟩
      have s5 := s4.any.below (w' := w4.alloc (.cells #[.int .i64 16384, .slice A4 F.length c4] 24)) ((Below.refl _ _).alloc (Nat.le_refl _) _) (Nat.le_refl _)
      have q5 := heap_alloc_new w4 (.cells #[.int .i64 16384, .slice A4 F.length c4] 24)
      have b25 : Below w2.heap.size w2 (w4.alloc (.cells #[.int .i64 16384, .slice A4 F.length c4] 24)) := by (repeat (first | with_reducible exact Below.refl _ _ | with_reducible assumption | with_reducible refine bdraw ?_ | with_reducible refine bdrewN ?_ _ | with_reducible refine balloc ?_ _ | with_reducible refine bset ?_ (by simp <;> omega) | with_reducible refine bstep ?_ (by assumption) | with_reducible refine btrans ?_ (by assumption)))
      have hb5 : Below w.heap.size w (w4.alloc (.cells #[.int .i64 16384, .slice A4 F.length c4] 24)) := hb2.trans (b25.mono hb2.size)
      have HS := Lib.hid (jscan_f (room := 16384) s5 (ht.below hb5 (Nat.le_refl _)) HG.out.1 HG.out.2.1 HG.out.2.2)
      have xx0 : (w4.alloc (.cells #[.int .i64 16384, .slice A4 F.length c4] 24)).cell? ⟨w4.heap.size, 0, none⟩ = some (.int .i64 16384) := cell_of_row _ _ 0 _ _ _ q5; have fx0 : (w4.alloc (.cells #[.int .i64 16384, .slice A4 F.length c4] 24)).frozen? ⟨w4.heap.size, 0, none⟩ = false := frozen_of_row _ _ 0 _ _ q5; have xx1 : (w4.alloc (.cells #[.int .i64 16384, .slice A4 F.length c4] 24)).cell? ⟨w4.heap.size, 1, none⟩ = some (.slice A4 F.length c4) := cell_of_row _ _ 1 _ _ _ q5; have fx1 : (w4.alloc (.cells #[.int .i64 16384, .slice A4 F.length c4] 24)).frozen? ⟨w4.heap.size, 1, none⟩ = false := frozen_of_row _ _ 1 _ _ q5
      clear xa0 xa1 fa0 fa1 HC
      go_wp2_with fail
      refine HS.out.mono ?_
      intro e w6 h
      obtain ⟨Al, cl, A6, c6, rfl, l6, s6, b6⟩ := h.s
      clear h s6
      have b67 : Below w6.heap.size w6 (w6.alloc (.cells #[.int .i64 16384, .slice A6 Y.length c6] 24)) := (Below.refl _ _).alloc (Nat.le_refl _) _
      have hb7 : Below w.heap.size w (w6.alloc (.cells #[.int .i64 16384, .slice A6 Y.length c6] 24)) := by (repeat (first | with_reducible exact Below.refl _ _ | with_reducible assumption | with_reducible refine bdraw ?_ | with_reducible refine bdrewN ?_ _ | with_reducible refine balloc ?_ _ | with_reducible refine bset ?_ (by simp <;> omega) | with_reducible refine bstep ?_ (by assumption) | with_reducible refine btrans ?_ (by assumption)))
      have la7 := la.below (b25.trans ((b6.trans (b67.mono b6.size)).mono b25.size)) (Nat.le_refl _)
      obtain ⟨An1, cn1, sc, hcut⟩ := la7.cut_h Tryd.underlying34 hi0 hy1 (hi := L.length) (by omega) rfl
      rw [HLt.out] at sc
      have d5 : decide ((su : Int) ≤ (L.length : Int)) = true := decide_eq_true (by omega)
      have d6 : decide (su ≤ L.length) = true := decide_eq_true (by omega)
      have d7 : decide ((L.length : Int) ≤ (all.length : Int)) = true := decide_eq_true (by omega)
      have d8 : decide (L.length ≤ all.length) = true := decide_eq_true (by omega)
      have HT := Lib.hid (lists_t (l6.below b67 (Nat.le_refl _)) sc)
      clear hle1 hle2
      go_wp2_with fail
      refine HT.out.mono ?_
      rintro e w8 ⟨rfl, b8⟩
      go_wp2
      go_ret
      exact ⟨rfl, bstep hb7 b8⟩
end Go.Proofs.YtbahiohlhhdkcaaDoor
