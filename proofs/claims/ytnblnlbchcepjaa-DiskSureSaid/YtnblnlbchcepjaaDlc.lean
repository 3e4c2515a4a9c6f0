/- The disk's laws, walked: DiskSure. -/
import Derived.Test.YtnblnlbchcepjaaDlb
set_option linter.unusedSimpArgs false
namespace Go.Proofs.Ytnblnlbchcepjaa
open Go.RowKit

set_option maxRecDepth 100000 in
set_option maxHeartbeats 16000000 in
theorem disksure_c {S : Foot} {v : Value} {l : List Dd} {keep turn : Int} {w : World} (hp : Sl deE S w v l) (hk0 : 0 ≤ keep) (hk1 : keep ≤ 65535) (ht0 : 0 ≤ turn) (ht1 : turn ≤ 255) :
    Calls Try.prog 6 #[v, .int .u16 keep, .int .u8 turn] w fun e w' => e = .returned (.bool true) ∧ Below w.heap.size w w' := by
  have hp := hp.any
  obtain ⟨A, cap, rfl, hc1, hc2, _⟩ := hp.shape
  unfold maxLen at hc2
  go_enter Try.func6, Try.ntmps6
  go_wp2_with fail
  refine (alive_c).mono ?_
  rintro e w1 ⟨rfl, b1⟩
  have hp1 := (hp.below b1 (Nat.le_refl _)).lo
  by_cases h60 : l.length ≤ 60
  rotate_left
  · have d1 : decide ((60 : Int) < (l.length : Int)) = true := decide_eq_true (by omega)
    have d2 : decide (60 < l.length) = true := decide_eq_true (by omega)
    go_wp2
    go_ret
    exact ⟨rfl, b1⟩
  have d1 : decide ((60 : Int) < (l.length : Int)) = false := decide_eq_false (by omega)
  have d2 : decide (60 < l.length) = false := decide_eq_false (by omega)
  have N4 : ∃ z, z = Value.slice none 0 0 := ⟨_, rfl⟩
  obtain ⟨W0, hW0⟩ : ∃ W0, ((w1.alloc (.cells #[.int .i64 4096, .slice none 0 0] 24)).alloc (.cells #[.slice none 0 0, .slice none 0 0, .slice none 0 0, .slice none 0 0] 42)).alloc (.cells #[.slice none 0 0, .slice none 0 0, .slice none 0 0, .slice none 0 0] 42) = W0 := ⟨_, rfl⟩
  have hzW : W0.heap.size = w1.heap.size + 3 := by rw [← hW0]; simp
  have bW : Below w1.heap.size w1 W0 := by rw [← hW0]; (repeat (first | with_reducible exact Below.refl _ _ | with_reducible assumption | with_reducible refine bdraw ?_ | with_reducible refine bdrewN ?_ _ | with_reducible refine balloc ?_ _ | with_reducible refine bset ?_ (by simp <;> omega) | with_reducible refine bstep ?_ (by assumption) | with_reducible refine btrans ?_ (by assumption)))
  have q0 : W0.heap[w1.heap.size]? = some (.cells #[.int .i64 4096, .slice none 0 0] 24 (0, 0)) := by
    rw [← hW0]; exact blkb (heap_alloc_new w1 _) (((Below.refl _ _).alloc (Nat.le_refl _) _).alloc (by simp) _)
  have q1 : W0.heap[w1.heap.size + 1]? = some (.cells #[.slice none 0 0, .slice none 0 0, .slice none 0 0, .slice none 0 0] 42 (0, 0)) := by
    have := heap_alloc_new (w1.alloc (.cells #[.int .i64 4096, .slice none 0 0] 24)) (.cells #[.slice none 0 0, .slice none 0 0, .slice none 0 0, .slice none 0 0] 42)
    rw [World.size_alloc] at this
    rw [← hW0]; exact blkb this ((Below.refl _ _).alloc (Nat.le_refl _) _)
  have q2 : W0.heap[w1.heap.size + 1 + 1]? = some (.cells #[.slice none 0 0, .slice none 0 0, .slice none 0 0, .slice none 0 0] 42 (0, 0)) := by
    have := heap_alloc_new ((w1.alloc (.cells #[.int .i64 4096, .slice none 0 0] 24)).alloc (.cells #[.slice none 0 0, .slice none 0 0, .slice none 0 0, .slice none 0 0] 42)) (.cells #[.slice none 0 0, .slice none 0 0, .slice none 0 0, .slice none 0 0] 42)
    rw [World.size_alloc, World.size_alloc] at this
    rw [← hW0]; exact this
  have HW := Lib.hid hW0
  clear hW0 N4
  go_wp2
  rw [HW.out]
  clear HW
  go_loopw [10, 11, 12, 13, 14, 15] (fun iv _ _ _ _ _ wr => ∃ (k : Nat) (fs : List Fi) (su al : List (List UInt8)) (vd : Value), k ≤ l.length ∧ iv = .int .i64 k ∧ Hid (Inv fs su al) ∧ Hid (wr.heap[w1.heap.size]? = some (.cells #[.int .i64 4096, vd] 24 (0, 0))) ∧ Sl fiE (Hi (w1.heap.size + 3)) wr vd fs ∧ A4 (w1.heap.size + 3) wr (w1.heap.size + 1) su ∧ A4 (w1.heap.size + 3) wr (w1.heap.size + 1 + 1) al ∧ Below w1.heap.size w1 wr ∧ w1.heap.size + 3 ≤ wr.heap.size) (fun iv _ _ _ _ _ _ => l.length - (intOf iv).toNat)
  case atStart => exact ⟨0, [], _, _, .slice none 0 0, Nat.zero_le _, by go_num, Lib.hid Inv.start, Lib.hid q0, Sl.nil, A4.nil q1, A4.nil q2, bW, by omega⟩
  case round =>
    clear q0 q1 q2 bW hzW
    obtain ⟨k, fs, su, al, vd, hk, rfl, HI, HQ, hsd, hA1, hA2, hbr, hzr⟩ := hrel
    have q0 := HQ.out
    obtain ⟨Ad, cd, rfl, hcd1, hcd2, _⟩ := hsd.shape
    unfold maxLen at hcd2
    have xa0 : wr.cell? ⟨w1.heap.size, 0, none⟩ = some (.int .i64 4096) := cell_of_row _ _ 0 _ _ _ q0; have fa0 : wr.frozen? ⟨w1.heap.size, 0, none⟩ = false := frozen_of_row _ _ 0 _ _ q0; have xa1 : wr.cell? ⟨w1.heap.size, 1, none⟩ = some (.slice Ad fs.length cd) := cell_of_row _ _ 1 _ _ _ q0; have fa1 : wr.frozen? ⟨w1.heap.size, 1, none⟩ = false := frozen_of_row _ _ 1 _ _ q0
    by_cases hlt : k < l.length
    · have hkI : (k : Int) < (l.length : Int) := by omega
      have hkk0 : (0 : Int) ≤ (k : Int) := by omega
      obtain ⟨bb, off, Av, cv, rfl, a0, a1, a2, hv⟩ := (hp1.lob hbr).dd hlt
      generalize l[k] = x at *
      obtain ⟨_, _, e, hcv1, hcv2, _⟩ := hv.shape
      injection e with e1 e0 e2
      subst e1 e2
      clear e0
      unfold maxLen at hcv2
      have c0 := a0.cell
      have c1 := a1.cell
      have c2 := a2.cell
      cases hy : x.y with
      | true =>
        rw [hy] at c0
        have HS := Lib.hid HI.out.sync
        go_wp2_with fail
        refine (sync_c (room := 4096) hsd).mono ?_
        intro e w2 h
        obtain ⟨v2, he, s2, b2⟩ := Ans.s h
        rw [HS.out.1, HS.out.2.1] at he
        obtain ⟨A2, c2', hv2, _⟩ := s2.shape
        subst hv2
        subst he
        clear h
        have hz2 := b2.size
        have qD := blkb q0 (w' := (w2.alloc (.cells #[.int .i64 4096, .slice A2 (syF 4096 fs).length c2'] 24))) (by (repeat (first | with_reducible exact Below.refl _ _ | with_reducible assumption | with_reducible refine bdraw ?_ | with_reducible refine bdrewN ?_ _ | with_reducible refine balloc ?_ _ | with_reducible refine bset ?_ (by simp <;> omega) | with_reducible refine bstep ?_ (by assumption) | with_reducible refine btrans ?_ (by assumption))))
        have qX := heap_alloc_new w2 (.cells #[.int .i64 4096, .slice A2 (syF 4096 fs).length c2'] 24)
        have bw2 : Below w1.heap.size w1 (w2.alloc (.cells #[.int .i64 4096, .slice A2 (syF 4096 fs).length c2'] 24)) := hbr.trans ((by (repeat (first | with_reducible exact Below.refl _ _ | with_reducible assumption | with_reducible refine bdraw ?_ | with_reducible refine bdrewN ?_ _ | with_reducible refine balloc ?_ _ | with_reducible refine bset ?_ (by simp <;> omega) | with_reducible refine bstep ?_ (by assumption) | with_reducible refine btrans ?_ (by assumption))) : Below wr.heap.size wr (w2.alloc (.cells #[.int .i64 4096, .slice A2 (syF 4096 fs).length c2'] 24))).mono (by omega))
        have sX := (s2.mono (S' := Hi (w1.heap.size + 3)) (fun b fr h _ => ⟨by have := h.1; omega, h.2⟩)).below (w' := (w2.alloc (.cells #[.int .i64 4096, .slice A2 (syF 4096 fs).length c2'] 24))) ((Below.refl _ _).alloc (Nat.le_refl _) _) (Nat.le_refl _)
        have hA1' := hA1.below (w' := (w2.alloc (.cells #[.int .i64 4096, .slice A2 (syF 4096 fs).length c2'] 24))) (by (repeat (first | with_reducible exact Below.refl _ _ | with_reducible assumption | with_reducible refine bdraw ?_ | with_reducible refine bdrewN ?_ _ | with_reducible refine balloc ?_ _ | with_reducible refine bset ?_ (by simp <;> omega) | with_reducible refine bstep ?_ (by assumption) | with_reducible refine btrans ?_ (by assumption))))
        have hA2' := hA2.below (w' := (w2.alloc (.cells #[.int .i64 4096, .slice A2 (syF 4096 fs).length c2'] 24))) (by (repeat (first | with_reducible exact Below.refl _ _ | with_reducible assumption | with_reducible refine bdraw ?_ | with_reducible refine bdrewN ?_ _ | with_reducible refine balloc ?_ _ | with_reducible refine bset ?_ (by simp <;> omega) | with_reducible refine bstep ?_ (by assumption) | with_reducible refine btrans ?_ (by assumption))))
        have hzX : w1.heap.size + 3 ≤ (w2.alloc (.cells #[.int .i64 4096, .slice A2 (syF 4096 fs).length c2'] 24)).heap.size := by simp; omega
        have hXl : w2.heap.size < (w2.alloc (.cells #[.int .i64 4096, .slice A2 (syF 4096 fs).length c2'] 24)).heap.size := by simp
        have hXg : w1.heap.size + 3 ≤ w2.heap.size := by omega
        obtain ⟨S0, m0, d0, S1, m1, d1', S2, m2, d2', S3, m3, d3', qS, _⟩ := hA1'.four
        obtain ⟨U0, n0, e0, U1, n1, e1, U2, n2, e2, U3, n3, e3, qA, HA⟩ := hA2'.four
        have HSX := Lib.hid sX
        clear xa0 xa1 fa0 fa1 hA1 hA2 hA1' hsd s2 b2 hbr q0 HQ sX
        have xa0 : (w2.alloc (.cells #[.int .i64 4096, .slice A2 (syF 4096 fs).length c2'] 24)).cell? ⟨w1.heap.size, 0, none⟩ = some (.int .i64 4096) := cell_of_row _ _ 0 _ _ _ qD; have fa0 : (w2.alloc (.cells #[.int .i64 4096, .slice A2 (syF 4096 fs).length c2'] 24)).frozen? ⟨w1.heap.size, 0, none⟩ = false := frozen_of_row _ _ 0 _ _ qD; have xa1 : (w2.alloc (.cells #[.int .i64 4096, .slice A2 (syF 4096 fs).length c2'] 24)).cell? ⟨w1.heap.size, 1, none⟩ = some (.slice Ad fs.length cd) := cell_of_row _ _ 1 _ _ _ qD; have fa1 : (w2.alloc (.cells #[.int .i64 4096, .slice A2 (syF 4096 fs).length c2'] 24)).frozen? ⟨w1.heap.size, 1, none⟩ = false := frozen_of_row _ _ 1 _ _ qD
        have xx0 : (w2.alloc (.cells #[.int .i64 4096, .slice A2 (syF 4096 fs).length c2'] 24)).cell? ⟨w2.heap.size, 0, none⟩ = some (.int .i64 4096) := cell_of_row _ _ 0 _ _ _ qX; have fx0 : (w2.alloc (.cells #[.int .i64 4096, .slice A2 (syF 4096 fs).length c2'] 24)).frozen? ⟨w2.heap.size, 0, none⟩ = false := frozen_of_row _ _ 0 _ _ qX; have xx1 : (w2.alloc (.cells #[.int .i64 4096, .slice A2 (syF 4096 fs).length c2'] 24)).cell? ⟨w2.heap.size, 1, none⟩ = some (.slice A2 (syF 4096 fs).length c2') := cell_of_row _ _ 1 _ _ _ qX; have fx1 : (w2.alloc (.cells #[.int .i64 4096, .slice A2 (syF 4096 fs).length c2'] 24)).frozen? ⟨w2.heap.size, 1, none⟩ = false := frozen_of_row _ _ 1 _ _ qX
        have xs0 : (w2.alloc (.cells #[.int .i64 4096, .slice A2 (syF 4096 fs).length c2'] 24)).cell? ⟨w1.heap.size + 1, 0, none⟩ = some (.slice S0 m0 d0) := cell_of_row _ _ 0 _ _ _ qS; have fs0 : (w2.alloc (.cells #[.int .i64 4096, .slice A2 (syF 4096 fs).length c2'] 24)).frozen? ⟨w1.heap.size + 1, 0, none⟩ = false := frozen_of_row _ _ 0 _ _ qS; have xs1 : (w2.alloc (.cells #[.int .i64 4096, .slice A2 (syF 4096 fs).length c2'] 24)).cell? ⟨w1.heap.size + 1, 1, none⟩ = some (.slice S1 m1 d1') := cell_of_row _ _ 1 _ _ _ qS; have fs1 : (w2.alloc (.cells #[.int .i64 4096, .slice A2 (syF 4096 fs).length c2'] 24)).frozen? ⟨w1.heap.size + 1, 1, none⟩ = false := frozen_of_row _ _ 1 _ _ qS; have xs2 : (w2.alloc (.cells #[.int .i64 4096, .slice A2 (syF 4096 fs).length c2'] 24)).cell? ⟨w1.heap.size + 1, 2, none⟩ = some (.slice S2 m2 d2') := cell_of_row _ _ 2 _ _ _ qS; have fs2 : (w2.alloc (.cells #[.int .i64 4096, .slice A2 (syF 4096 fs).length c2'] 24)).frozen? ⟨w1.heap.size + 1, 2, none⟩ = false := frozen_of_row _ _ 2 _ _ qS; have xs3 : (w2.alloc (.cells #[.int .i64 4096, .slice A2 (syF 4096 fs).length c2'] 24)).cell? ⟨w1.heap.size + 1, 3, none⟩ = some (.slice S3 m3 d3') := cell_of_row _ _ 3 _ _ _ qS; have fs3 : (w2.alloc (.cells #[.int .i64 4096, .slice A2 (syF 4096 fs).length c2'] 24)).frozen? ⟨w1.heap.size + 1, 3, none⟩ = false := frozen_of_row _ _ 3 _ _ qS
        have xu0 : (w2.alloc (.cells #[.int .i64 4096, .slice A2 (syF 4096 fs).length c2'] 24)).cell? ⟨w1.heap.size + 1 + 1, 0, none⟩ = some (.slice U0 n0 e0) := cell_of_row _ _ 0 _ _ _ qA; have fu0 : (w2.alloc (.cells #[.int .i64 4096, .slice A2 (syF 4096 fs).length c2'] 24)).frozen? ⟨w1.heap.size + 1 + 1, 0, none⟩ = false := frozen_of_row _ _ 0 _ _ qA; have xu1 : (w2.alloc (.cells #[.int .i64 4096, .slice A2 (syF 4096 fs).length c2'] 24)).cell? ⟨w1.heap.size + 1 + 1, 1, none⟩ = some (.slice U1 n1 e1) := cell_of_row _ _ 1 _ _ _ qA; have fu1 : (w2.alloc (.cells #[.int .i64 4096, .slice A2 (syF 4096 fs).length c2'] 24)).frozen? ⟨w1.heap.size + 1 + 1, 1, none⟩ = false := frozen_of_row _ _ 1 _ _ qA; have xu2 : (w2.alloc (.cells #[.int .i64 4096, .slice A2 (syF 4096 fs).length c2'] 24)).cell? ⟨w1.heap.size + 1 + 1, 2, none⟩ = some (.slice U2 n2 e2) := cell_of_row _ _ 2 _ _ _ qA; have fu2 : (w2.alloc (.cells #[.int .i64 4096, .slice A2 (syF 4096 fs).length c2'] 24)).frozen? ⟨w1.heap.size + 1 + 1, 2, none⟩ = false := frozen_of_row _ _ 2 _ _ qA; have xu3 : (w2.alloc (.cells #[.int .i64 4096, .slice A2 (syF 4096 fs).length c2'] 24)).cell? ⟨w1.heap.size + 1 + 1, 3, none⟩ = some (.slice U3 n3 e3) := cell_of_row _ _ 3 _ _ _ qA; have fu3 : (w2.alloc (.cells #[.int .i64 4096, .slice A2 (syF 4096 fs).length c2'] 24)).frozen? ⟨w1.heap.size + 1 + 1, 3, none⟩ = false := frozen_of_row _ _ 3 _ _ qA
        go_wp2_with fail
        generalize w2.alloc (.cells #[.int .i64 4096, .slice A2 (syF 4096 fs).length c2'] 24) = W2 at *
        go_region
        all_goals
          go_wp2
          go_roundw
          case rel =>
            have hoth := six_other W2 w1.heap.size (w1.heap.size + 1) (.int .i64 4096) (.slice A2 (syF 4096 fs).length c2') (.slice U0 n0 e0) (.slice U1 n1 e1) (.slice U2 n2 e2) (.slice U3 n3 e3)
            have hD := six_D (S := w1.heap.size + 1) (.int .i64 4096) (.slice A2 (syF 4096 fs).length c2') (.slice U0 n0 e0) (.slice U1 n1 e1) (.slice U2 n2 e2) (.slice U3 n3 e3) (by omega) qD
            have hS := six_S (D := w1.heap.size) (.int .i64 4096) (.slice A2 (syF 4096 fs).length c2') (.slice U0 n0 e0) (.slice U1 n1 e1) (.slice U2 n2 e2) (.slice U3 n3 e3) (by omega) qS
            have hbz := six_below (.int .i64 4096) (.slice A2 (syF 4096 fs).length c2') (.slice U0 n0 e0) (.slice U1 n1 e1) (.slice U2 n2 e2) (.slice U3 n3 e3) bw2 (Nat.le_refl _) (show w1.heap.size ≤ w1.heap.size + 1 by omega)
            have hzz := six_size W2 w1.heap.size (w1.heap.size + 1) (.int .i64 4096) (.slice A2 (syF 4096 fs).length c2') (.slice U0 n0 e0) (.slice U1 n1 e1) (.slice U2 n2 e2) (.slice U3 n3 e3)
            have hA := (hoth (w1.heap.size + 1 + 1) (by omega) (by omega)).trans qA
            have hsx := HSX.out.keep (w' := (six W2 w1.heap.size (w1.heap.size + 1) (.int .i64 4096) (.slice A2 (syF 4096 fs).length c2') (.slice U0 n0 e0) (.slice U1 n1 e1) (.slice U2 n2 e2) (.slice U3 n3 e3))) (fun g fr hs _ => hoth g (by have := hs.1; omega) (by have := hs.1; omega))
            have ha1 := HA _ _ hS (fun g hg _ => hoth g (by omega) (by omega))
            have ha2 := HA _ _ hA (fun g hg _ => hoth g (by omega) (by omega))
            have e6 : (((((W2.setCell ⟨w1.heap.size, 0, none⟩ (.int .i64 4096)).setCell ⟨w1.heap.size, 1, none⟩ (.slice A2 (syF 4096 fs).length c2')).setCell ⟨w1.heap.size + 1, 0, none⟩ (.slice U0 n0 e0)).setCell ⟨w1.heap.size + 1, 1, none⟩ (.slice U1 n1 e1)).setCell ⟨w1.heap.size + 1, 2, none⟩ (.slice U2 n2 e2)).setCell ⟨w1.heap.size + 1, 3, none⟩ (.slice U3 n3 e3) = six W2 w1.heap.size (w1.heap.size + 1) (.int .i64 4096) (.slice A2 (syF 4096 fs).length c2') (.slice U0 n0 e0) (.slice U1 n1 e1) (.slice U2 n2 e2) (.slice U3 n3 e3) := rfl
            rw [e6]
            clear e6
            generalize six W2 w1.heap.size (w1.heap.size + 1) (.int .i64 4096) (.slice A2 (syF 4096 fs).length c2') (.slice U0 n0 e0) (.slice U1 n1 e1) (.slice U2 n2 e2) (.slice U3 n3 e3) = W6 at *
            exact ⟨k + 1, syF 4096 fs, al, al, .slice A2 (syF 4096 fs).length c2', by omega, by go_num, Lib.hid HS.out.2.2, Lib.hid hD, hsx, ha1, ha2, bdraw hbz, by rw [show W6.drew.heap.size = W6.heap.size from rfl, hzz]; exact hzX⟩
          case measure => simp [intOf]; omega
      | false =>
        rw [hy] at c0
        go_wp2_with fail
        obtain ⟨kk, hkk4, hkk⟩ := deed_file x.n
        rw [hkk]
        clear hkk
        have p0 := (At.of_cell xa0).2
        have p1 := (At.of_cell xa1).2
        have HAp := fun (w' : World) (bb : Below wr.heap.size wr w') => Lib.hid ((append_c (room := 4096) (n := (kk : Int)) (w := w') (hsd.below bb (Nat.le_refl _)) (hv.below bb (Nat.le_refl _))).mono fun _ _ h => h.s.p (B := w1.heap.size + 3) (by have := bb.size; omega))
        obtain ⟨xa, Aa, ca, hxa, cxa, hsa, hfa, _, _⟩ := hA2.at_ hkk4
        by_cases hfull : (x.b.length : Int) ≤ 4096 - sizeD fs
        rotate_left
        · have HE := Lib.hid (HI.out.full (k := (kk : Int)) (by omega) (by omega) hfull)
          rw [HE.out.1] at HAp
          generalize apR 4096 fs (kk : Int) x.b = R at *
          generalize apF 4096 fs (kk : Int) x.b = F at *
          have HFu := Lib.hid hfull
          clear hfull
          go_region_held3 (fun w' => w'.cell? ⟨w1.heap.size, 0, none⟩ = some (.int .i64 4096) ∧ w'.cell? ⟨w1.heap.size, 1, none⟩ = some (.slice Ad fs.length cd) ∧ w'.cell? ⟨bb, off + k * 3 + 2, none⟩ = some (.slice Av x.b.length cv))
            (first | go_keep | (refine ⟨?_, ?_, ?_⟩ <;> (first | exact atb p0 (by (repeat (first | with_reducible exact Below.refl _ _ | with_reducible assumption | with_reducible refine bdraw ?_ | with_reducible refine bdrewN ?_ _ | with_reducible refine balloc ?_ _ | with_reducible refine bset ?_ (by simp <;> omega) | with_reducible refine bstep ?_ (by assumption) | with_reducible refine btrans ?_ (by assumption)))) | exact atb p1 (by (repeat (first | with_reducible exact Below.refl _ _ | with_reducible assumption | with_reducible refine bdraw ?_ | with_reducible refine bdrewN ?_ _ | with_reducible refine balloc ?_ _ | with_reducible refine bset ?_ (by simp <;> omega) | with_reducible refine bstep ?_ (by assumption) | with_reducible refine btrans ?_ (by assumption)))) | exact atb a2 (by (repeat (first | with_reducible exact Below.refl _ _ | with_reducible assumption | with_reducible refine bdraw ?_ | with_reducible refine bdrewN ?_ _ | with_reducible refine balloc ?_ _ | with_reducible refine bset ?_ (by simp <;> omega) | with_reducible refine bstep ?_ (by assumption) | with_reducible refine btrans ?_ (by assumption)))))))
            (first
              | (go_at_call 10; (refine (HAp _ (by (repeat (first | with_reducible exact Below.refl _ _ | with_reducible assumption | with_reducible refine bdraw ?_ | with_reducible refine bdrewN ?_ _ | with_reducible refine balloc ?_ _ | with_reducible refine bset ?_ (by simp <;> omega) | with_reducible refine bstep ?_ (by assumption) | with_reducible refine btrans ?_ (by assumption))))).out.mono ?_; rintro e w2 ⟨A2, c2', rfl, s2, hc9, b2⟩; have qz : w2.heap[wr.heap.size]? = some (.cells #[.int .i64 0, .slice none 0 0] 24 (0, 0)) := (b2.block wr.heap.size (by simp)).trans (heap_alloc_new wr (.cells #[.int .i64 0, .slice none 0 0] 24)); have xz0 : w2.cell? ⟨wr.heap.size, 0, none⟩ = some (.int .i64 0) := cell_of_row _ _ 0 _ _ _ qz; have fz0 : w2.frozen? ⟨wr.heap.size, 0, none⟩ = false := frozen_of_row _ _ 0 _ _ qz; have xz1 : w2.cell? ⟨wr.heap.size, 1, none⟩ = some (.slice none 0 0) := cell_of_row _ _ 1 _ _ _ qz; have fz1 : w2.frozen? ⟨wr.heap.size, 1, none⟩ = false := frozen_of_row _ _ 1 _ _ qz))
              | (go_at_call 10; go_must (refine (HAp _ (by (repeat (first | with_reducible exact Below.refl _ _ | with_reducible assumption | with_reducible refine bdraw ?_ | with_reducible refine bdrewN ?_ _ | with_reducible refine balloc ?_ _ | with_reducible refine bset ?_ (by simp <;> omega) | with_reducible refine bstep ?_ (by assumption) | with_reducible refine btrans ?_ (by assumption))))).out.mono ?_; rintro e w2 ⟨A2, c2', rfl, s2, hc9, b2⟩))
              | fail)
          all_goals
            refine gen_w (fun W => Below wr.heap.size wr W) (by (repeat (first | with_reducible exact Below.refl _ _ | with_reducible assumption | with_reducible refine bdraw ?_ | with_reducible refine bdrewN ?_ _ | with_reducible refine balloc ?_ _ | with_reducible refine bset ?_ (by simp <;> omega) | with_reducible refine bstep ?_ (by assumption) | with_reducible refine btrans ?_ (by assumption)))) (fun W3 bw3 => ?_)
            have y0 := atk p0 bw3
            have y1 := atk p1 bw3
            have y2 := atk (a2.mono (S' := Any) (fun _ _ _ _ => trivial)) bw3
            clear s2 hc9 b2 HAp
            go_wp2_with fail
            have z0 := fun y : Ext W3 => atb y0 y.h
            have z1 := fun y : Ext W3 => atb y1 y.h
            have z2 := fun y : Ext W3 => atb y2 y.h
            have H5 := fun y : Ext W3 => Lib.hid (used_c (room := 4096) ((hsd.below bw3 (Nat.le_refl _)).below y.h (Nat.le_refl _)))
            rw [HE.out.2] at H5
            have hsz := formedD_size HI.out.fd
            obtain ⟨hsz1, _, _⟩ := hsz
            have hw5 : IntKind.i64.wrap (4096 - (sizeD fs : Int)) = 4096 - (sizeD fs : Int) := IntWalk.i64_in _ (by omega)
            have d3 : decide ((x.b.length : Int) ≤ 4096 - (sizeD fs : Int)) = false := decide_eq_false (by have := HFu.out; omega)
            have HFin := Lib.hid (And.intro q0 (And.intro hsd (And.intro hA1 (And.intro hA2 hbr))))
            clear y0 y1 y2 p0 p1 a0 a1 a2 c0 c1 c2 hsd hA1 hA2 hbr q0 HQ xa0 xa1 fa0 fa1
            generalize (sizeD fs : Int) = sz at *
            (refine wp_region_ext (by kernel_rfl) (by kernel_rfl) ?_; (repeat (go_big_quiet_step ((go_at_call 15; exact ext_call (H5 _).out)))); with_reducible refine wpQuiet_nil ?_; intro wq hw'; have bq := ext_out hw'; clear hw')
            go_wp2
            go_roundw
            case rel =>
              have bwq := bstep bw3 bq
              obtain ⟨q0, hsd, hA1, hA2, hbr⟩ := HFin.out
              exact ⟨k + 1, fs, su, al, _, by omega, by go_num, HI, Lib.hid (blkb q0 bwq), hsd.below bwq (Nat.le_refl _), hA1.below bwq, hA2.below bwq, hbr.trans (bwq.mono (by omega)), by have := bwq.size; omega⟩
            case measure => simp [intOf]; omega
        · have HE := Lib.hid (HI.out.app (k := kk) hkk4 hfull hxa)
          have HXA := Lib.hid hxa
          have HXS := Lib.hid (HI.out.short hkk4 hxa)
          have hsz := (formedD_size HI.out.fd).1
          have hxb9 : x.b.length ≤ 4096 := by omega
          rw [HE.out.1, HE.out.2.1] at HAp
          have HIn := Lib.hid HE.out.2.2
          clear HE hfull hsz
          generalize apF 4096 fs (kk : Int) x.b = F at *
          go_region_held3 (fun w' => w'.cell? ⟨w1.heap.size, 0, none⟩ = some (.int .i64 4096) ∧ w'.cell? ⟨w1.heap.size, 1, none⟩ = some (.slice Ad fs.length cd) ∧ w'.cell? ⟨bb, off + k * 3 + 2, none⟩ = some (.slice Av x.b.length cv))
            (first | go_keep | (refine ⟨?_, ?_, ?_⟩ <;> (first | exact atb p0 (by (repeat (first | with_reducible exact Below.refl _ _ | with_reducible assumption | with_reducible refine bdraw ?_ | with_reducible refine bdrewN ?_ _ | with_reducible refine balloc ?_ _ | with_reducible refine bset ?_ (by simp <;> omega) | with_reducible refine bstep ?_ (by assumption) | with_reducible refine btrans ?_ (by assumption)))) | exact atb p1 (by (repeat (first | with_reducible exact Below.refl _ _ | with_reducible assumption | with_reducible refine bdraw ?_ | with_reducible refine bdrewN ?_ _ | with_reducible refine balloc ?_ _ | with_reducible refine bset ?_ (by simp <;> omega) | with_reducible refine bstep ?_ (by assumption) | with_reducible refine btrans ?_ (by assumption)))) | exact atb a2 (by (repeat (first | with_reducible exact Below.refl _ _ | with_reducible assumption | with_reducible refine bdraw ?_ | with_reducible refine bdrewN ?_ _ | with_reducible refine balloc ?_ _ | with_reducible refine bset ?_ (by simp <;> omega) | with_reducible refine bstep ?_ (by assumption) | with_reducible refine btrans ?_ (by assumption)))))))
            (first
              | (go_at_call 10; (refine (HAp _ (by (repeat (first | with_reducible exact Below.refl _ _ | with_reducible assumption | with_reducible refine bdraw ?_ | with_reducible refine bdrewN ?_ _ | with_reducible refine balloc ?_ _ | with_reducible refine bset ?_ (by simp <;> omega) | with_reducible refine bstep ?_ (by assumption) | with_reducible refine btrans ?_ (by assumption))))).out.mono ?_; rintro e w2 ⟨A2, c2', rfl, s2, hc9, b2⟩; have qz : w2.heap[wr.heap.size]? = some (.cells #[.int .i64 0, .slice none 0 0] 24 (0, 0)) := (b2.block wr.heap.size (by simp)).trans (heap_alloc_new wr (.cells #[.int .i64 0, .slice none 0 0] 24)); have xz0 : w2.cell? ⟨wr.heap.size, 0, none⟩ = some (.int .i64 0) := cell_of_row _ _ 0 _ _ _ qz; have fz0 : w2.frozen? ⟨wr.heap.size, 0, none⟩ = false := frozen_of_row _ _ 0 _ _ qz; have xz1 : w2.cell? ⟨wr.heap.size, 1, none⟩ = some (.slice none 0 0) := cell_of_row _ _ 1 _ _ _ qz; have fz1 : w2.frozen? ⟨wr.heap.size, 1, none⟩ = false := frozen_of_row _ _ 1 _ _ qz))
              | (go_at_call 10; go_must (refine (HAp _ (by (repeat (first | with_reducible exact Below.refl _ _ | with_reducible assumption | with_reducible refine bdraw ?_ | with_reducible refine bdrewN ?_ _ | with_reducible refine balloc ?_ _ | with_reducible refine bset ?_ (by simp <;> omega) | with_reducible refine bstep ?_ (by assumption) | with_reducible refine btrans ?_ (by assumption))))).out.mono ?_; rintro e w2 ⟨A2, c2', rfl, s2, hc9, b2⟩))
              | fail)
          · refine gen_w (fun W => Below wr.heap.size wr W ∧ W.heap[w2.heap.size]? = some (.cells #[.int .i64 4096, .slice A2 F.length c2'] 24 (0, 0)) ∧ Sl fiE (Hi (w1.heap.size + 3)) W (.slice A2 F.length c2') F) ⟨by (repeat (first | with_reducible exact Below.refl _ _ | with_reducible assumption | with_reducible refine bdraw ?_ | with_reducible refine bdrewN ?_ _ | with_reducible refine balloc ?_ _ | with_reducible refine bset ?_ (by simp <;> omega) | with_reducible refine bstep ?_ (by assumption) | with_reducible refine btrans ?_ (by assumption))), heap_alloc_new w2 _, (s2.mono (fun b fr h _ => ⟨by have := h.1; have := hc9.2; omega, h.2⟩)).below ((Below.refl _ _).alloc (Nat.le_refl _) _) (Nat.le_refl _)⟩ (fun W3 h3 => ?_)
            obtain ⟨bw3, qX, sX⟩ := h3
            have hXl : w2.heap.size < W3.heap.size := (Array.getElem?_eq_some_iff.1 qX).1
            have hXg : wr.heap.size ≤ w2.heap.size := by have := b2.size; simpa using this
            have qD := blkb q0 bw3
            have hX9 := hc9.1
            clear s2 hc9 b2 HAp xa0 xa1 fa0 fa1
            have xa0 : W3.cell? ⟨w1.heap.size, 0, none⟩ = some (.int .i64 4096) := cell_of_row _ _ 0 _ _ _ qD; have fa0 : W3.frozen? ⟨w1.heap.size, 0, none⟩ = false := frozen_of_row _ _ 0 _ _ qD; have xa1 : W3.cell? ⟨w1.heap.size, 1, none⟩ = some (.slice Ad fs.length cd) := cell_of_row _ _ 1 _ _ _ qD; have fa1 : W3.frozen? ⟨w1.heap.size, 1, none⟩ = false := frozen_of_row _ _ 1 _ _ qD
            have xx0 : W3.cell? ⟨w2.heap.size, 0, none⟩ = some (.int .i64 4096) := cell_of_row _ _ 0 _ _ _ qX; have fx0 : W3.frozen? ⟨w2.heap.size, 0, none⟩ = false := frozen_of_row _ _ 0 _ _ qX; have xx1 : W3.cell? ⟨w2.heap.size, 1, none⟩ = some (.slice A2 F.length c2') := cell_of_row _ _ 1 _ _ _ qX; have fx1 : W3.frozen? ⟨w2.heap.size, 1, none⟩ = false := frozen_of_row _ _ 1 _ _ qX
            have bwB : Below w1.heap.size wr ((W3.setCell ⟨w1.heap.size, 0, none⟩ (.int .i64 4096)).setCell ⟨w1.heap.size, 1, none⟩ (.slice A2 F.length c2')) := bset (bset (bw3.mono (by omega)) (Nat.le_refl _)) (Nat.le_refl _)
            have hothD : ∀ g, g ≠ w1.heap.size → ((W3.setCell ⟨w1.heap.size, 0, none⟩ (.int .i64 4096)).setCell ⟨w1.heap.size, 1, none⟩ (.slice A2 F.length c2')).heap[g]? = W3.heap[g]? := fun g hg => (heap_setCell_other _ ⟨w1.heap.size, 1, none⟩ g (.slice A2 F.length c2') hg).trans (heap_setCell_other W3 ⟨w1.heap.size, 0, none⟩ g (.int .i64 4096) hg)
            have qD4 : ((W3.setCell ⟨w1.heap.size, 0, none⟩ (.int .i64 4096)).setCell ⟨w1.heap.size, 1, none⟩ (.slice A2 F.length c2')).heap[w1.heap.size]? = some (.cells #[.int .i64 4096, .slice A2 F.length c2'] 24 (0, 0)) := set2 qD
            have sX4 := sX.keep (w' := (W3.setCell ⟨w1.heap.size, 0, none⟩ (.int .i64 4096)).setCell ⟨w1.heap.size, 1, none⟩ (.slice A2 F.length c2')) (fun g fr hs _ => hothD g (by have := hs.1; omega))
            have hB1 := (hA1.below bw3).keep (w' := (W3.setCell ⟨w1.heap.size, 0, none⟩ (.int .i64 4096)).setCell ⟨w1.heap.size, 1, none⟩ (.slice A2 F.length c2')) (hothD _ (by omega)) (fun g hg _ => hothD g (by omega))
            have hB2 := (hA2.below bw3).keep (w' := (W3.setCell ⟨w1.heap.size, 0, none⟩ (.int .i64 4096)).setCell ⟨w1.heap.size, 1, none⟩ (.slice A2 F.length c2')) (hothD _ (by omega)) (fun g hg _ => hothD g (by omega))
            have hv4 := hv.lob bwB
            have a24 := (a2.keep (fun b _ hs _ => bwB.block b hs)).mono (S' := Any) (fun _ _ _ _ => trivial)
            have hz4 : wr.heap.size ≤ ((W3.setCell ⟨w1.heap.size, 0, none⟩ (.int .i64 4096)).setCell ⟨w1.heap.size, 1, none⟩ (.slice A2 F.length c2')).heap.size := by have := bw3.size; simpa using this
            have hbr4 := hbr.trans bwB
            clear sX hothD hA1 hA2 hv a2 a0 a1 c0 c1 c2 p0 p1 hbr bwB qD q0 HQ hsd cxa hsa hfa hxa
            go_wp2_with fail
            clear xa0 xa1 fa0 fa1 xx0 xx1 fx0 fx1 qX hXl hXg bw3
            generalize (W3.setCell ⟨w1.heap.size, 0, none⟩ (.int .i64 4096)).setCell ⟨w1.heap.size, 1, none⟩ (.slice A2 F.length c2') = W4 at *
            obtain ⟨xb, Ab, cb, hxb, cxb, hsb, hfb, hxb1, hxb2⟩ := hB2.at_ hkk4
            obtain rfl : xb = xa := by have := HXA.out; rw [hxb] at this; exact Option.some.inj this
            have hxs := HXS.out
            have hkI4 : (kk : Int) < 4 := by omega
            have hkI0 : (0 : Int) ≤ (kk : Int) := by omega
            have a25 := a24.cell
            have t0 : At Any W4 (w1.heap.size + 1 + 1) kk (.slice Ab xb.length cb) := (At.of_cell cxb).2
            have t1 : At Any W4 bb (off + k * 3 + 2) (.slice Av x.b.length cv) := a24
            have HSB := Lib.hid hsb
            have HV4 := Lib.hid hv4
            clear hsb hv4 hxb
            obtain ⟨i8, hi8, hy0, hy1, hy2⟩ := info_parts slice_info
            refine region_push 12 (S := (fun w' => w'.cell? ⟨w1.heap.size + 1 + 1, kk, none⟩ = some (.slice Ab xb.length cb) ∧ w'.cell? ⟨bb, off + k * 3 + 2, none⟩ = some (.slice Av x.b.length cv))) (by kernel_rfl) (by kernel_rfl) ?_ (fun hHeld => ?_); (· ((try dsimp only); (refine ⟨?_, ?_⟩ <;> (first | assumption | exact atb t0 (by (repeat (first | with_reducible exact Below.refl _ _ | with_reducible assumption | with_reducible refine bdraw ?_ | with_reducible refine bdrewN ?_ _ | with_reducible refine balloc ?_ _ | with_reducible refine bset ?_ (by simp <;> omega) | with_reducible refine bstep ?_ (by assumption) | with_reducible refine btrans ?_ (by assumption)))) | exact atb t1 (by (repeat (first | with_reducible exact Below.refl _ _ | with_reducible assumption | with_reducible refine bdraw ?_ | with_reducible refine bdrewN ?_ _ | with_reducible refine balloc ?_ _ | with_reducible refine bset ?_ (by simp <;> omega) | with_reducible refine bstep ?_ (by assumption) | with_reducible refine btrans ?_ (by assumption)))))))); simp only [List.take_succ_cons, List.take_zero]
            refine wpAnyH_take (i := 0) (v := ?_) rfl (by kernel_rfl) (by kernel_rfl) (by kernel_rfl) (fun _ _ _ h => h) (Or.inl ⟨by rfl, ?_⟩) (by assumption) ?_; rotate_left; (· (intro w' hSw'; (try dsimp only at hSw'); go_simp; (try with_reducible rfl))); simp only [Act.put, List.setIfInBounds_toArray, List.set_cons_zero, List.set_cons_succ, List.getElem_toArray, List.getElem_cons_zero, List.getElem_cons_succ, Array.getInternal_eq_getElem]; refine wpAnyH_take (i := 1) (v := ?_) rfl (by kernel_rfl) (by kernel_rfl) (by kernel_rfl) (fun _ _ _ h => h) (Or.inl ⟨by rfl, ?_⟩) (by assumption) ?_; rotate_left; (· (intro w' hSw'; (try dsimp only at hSw'); go_simp; (try with_reducible rfl))); simp only [Act.put, List.setIfInBounds_toArray, List.set_cons_zero, List.set_cons_succ, List.getElem_toArray, List.getElem_cons_zero, List.getElem_cons_succ, Array.getInternal_eq_getElem]; refine wpAnyH_take (i := 2) (v := ?_) rfl (by kernel_rfl) (by kernel_rfl) (by kernel_rfl) (fun _ _ _ h => h) (Or.inl ⟨by rfl, ?_⟩) (by assumption) ?_; rotate_left; (· (intro w' hSw'; (try dsimp only at hSw'); go_simp; (try with_reducible rfl))); simp only [Act.put, List.setIfInBounds_toArray, List.set_cons_zero, List.set_cons_succ, List.getElem_toArray, List.getElem_cons_zero, List.getElem_cons_succ, Array.getInternal_eq_getElem]; refine wpAnyH_take (i := 3) (v := ?_) rfl (by kernel_rfl) (by kernel_rfl) (by kernel_rfl) (fun _ _ _ h => h) (Or.inl ⟨by rfl, ?_⟩) (by assumption) ?_; rotate_left; (· (intro w' hSw'; (try dsimp only at hSw'); go_simp; (try with_reducible rfl))); simp only [Act.put, List.setIfInBounds_toArray, List.set_cons_zero, List.set_cons_succ, List.getElem_toArray, List.getElem_cons_zero, List.getElem_cons_succ, Array.getInternal_eq_getElem]; refine wpAnyH_take (i := 5) (v := ?_) rfl (by kernel_rfl) (by kernel_rfl) (by kernel_rfl) (fun _ _ _ h => h) (Or.inl ⟨by rfl, ?_⟩) (by assumption) ?_; rotate_left; (· (intro w' hSw'; (try dsimp only at hSw'); go_simp; (try with_reducible rfl))); simp only [Act.put, List.setIfInBounds_toArray, List.set_cons_zero, List.set_cons_succ, List.getElem_toArray, List.getElem_cons_zero, List.getElem_cons_succ, Array.getInternal_eq_getElem]; refine wpAnyH_take (i := 6) (v := ?_) rfl (by kernel_rfl) (by kernel_rfl) (by kernel_rfl) (fun _ _ _ h => h) (Or.inl ⟨by rfl, ?_⟩) (by assumption) ?_; rotate_left; (· (intro w' hSw'; (try dsimp only at hSw'); go_simp; (try with_reducible rfl))); simp only [Act.put, List.setIfInBounds_toArray, List.set_cons_zero, List.set_cons_succ, List.getElem_toArray, List.getElem_cons_zero, List.getElem_cons_succ, Array.getInternal_eq_getElem]; refine wpAnyH_take (i := 7) (v := ?_) rfl (by kernel_rfl) (by kernel_rfl) (by kernel_rfl) (fun _ _ _ h => h) (Or.inl ⟨by rfl, ?_⟩) (by assumption) ?_; rotate_left; (· (intro w' hSw'; (try dsimp only at hSw'); go_simp; (try with_reducible rfl))); simp only [Act.put, List.setIfInBounds_toArray, List.set_cons_zero, List.set_cons_succ, List.getElem_toArray, List.getElem_cons_zero, List.getElem_cons_succ, Array.getInternal_eq_getElem]; refine wpAnyH_take (i := 8) (v := ?_) rfl (by kernel_rfl) (by kernel_rfl) (by kernel_rfl) (fun _ _ _ h => h) (Or.inl ⟨by rfl, ?_⟩) (by assumption) ?_; rotate_left; (· (intro w' hSw'; (try dsimp only at hSw'); go_simp; (try with_reducible rfl))); simp only [Act.put, List.setIfInBounds_toArray, List.set_cons_zero, List.set_cons_succ, List.getElem_toArray, List.getElem_cons_zero, List.getElem_cons_succ, Array.getInternal_eq_getElem]; refine wpAnyH_take (i := 9) (v := ?_) rfl (by kernel_rfl) (by kernel_rfl) (by kernel_rfl) (fun _ _ _ h => h) (Or.inl ⟨by rfl, ?_⟩) (by assumption) ?_; rotate_left; (· (intro w' hSw'; (try dsimp only at hSw'); go_simp; (try with_reducible rfl))); simp only [Act.put, List.setIfInBounds_toArray, List.set_cons_zero, List.set_cons_succ, List.getElem_toArray, List.getElem_cons_zero, List.getElem_cons_succ, Array.getInternal_eq_getElem]
            refine wpAnyH_ready (rs := [4]) (by kernel_rfl) (by simp) (AllReadyH.cons rfl (fun K hK => ?_) AllReadyH.nil); ((refine step_call (by rfl) 21 #[.tmp 87] #[25] (by rfl) Try.func21 (by decide +kernel) (fun h => by cases h) (by simp [Act.eval]) (copy_c (HSB.out.below (by (repeat (first | with_reducible exact Below.refl _ _ | with_reducible assumption | with_reducible refine bdraw ?_ | with_reducible refine bdrewN ?_ _ | with_reducible refine balloc ?_ _ | with_reducible refine bset ?_ (by simp <;> omega) | with_reducible refine bstep ?_ (by assumption) | with_reducible refine btrans ?_ (by assumption)))) (Nat.le_refl _)) (by omega)) ?_; rintro e w8 ⟨u', rfl, o8, b8⟩; obtain ⟨Ac, cc, rfl, _⟩ := o8.slAny.shape; refine ⟨_, rfl, ?_⟩)); refine hK.out _ _ ?_ (fun hHeld => ?_); (· ((try dsimp only); (refine ⟨?_, ?_⟩ <;> (first | assumption | exact atb t0 (by (repeat (first | with_reducible exact Below.refl _ _ | with_reducible assumption | with_reducible refine bdraw ?_ | with_reducible refine bdrewN ?_ _ | with_reducible refine balloc ?_ _ | with_reducible refine bset ?_ (by simp <;> omega) | with_reducible refine bstep ?_ (by assumption) | with_reducible refine btrans ?_ (by assumption)))) | exact atb t1 (by (repeat (first | with_reducible exact Below.refl _ _ | with_reducible assumption | with_reducible refine bdraw ?_ | with_reducible refine bdrewN ?_ _ | with_reducible refine balloc ?_ _ | with_reducible refine bset ?_ (by simp <;> omega) | with_reducible refine bstep ?_ (by assumption) | with_reducible refine btrans ?_ (by assumption)))))))); clear hK K; (try simp only [Act.put, List.setIfInBounds_toArray, List.set_cons_zero, List.set_cons_succ, List.getElem_toArray, List.getElem_cons_zero, List.getElem_cons_succ, Array.getInternal_eq_getElem])
            have hz8 := b8.size
            have hlt8 := o8.lt
            refine wpAnyH_ready (rs := [10]) (by kernel_rfl) (by simp) (AllReadyH.cons rfl (fun K hK => ?_) AllReadyH.nil); ((refine step_append_sl _ (by rfl) (.tmp 88) (.tmp 93) 25 (by rfl) (E := u8E) (base := W4.heap.size) Try.underlying25 hi8 hy0 hy1 hy2 rfl o8 (HV4.out.below (by (repeat (first | with_reducible exact Below.refl _ _ | with_reducible assumption | with_reducible refine bdraw ?_ | with_reducible refine bdrewN ?_ _ | with_reducible refine balloc ?_ _ | with_reducible refine bset ?_ (by simp <;> omega) | with_reducible refine bstep ?_ (by assumption) | with_reducible refine btrans ?_ (by assumption)))) (Nat.le_refl _)) (by rfl) (by rfl) (by unfold maxLen; omega) (by omega) (by simp at hz8; omega) ?_; intro v6 w6 xs6 ys6 hrx ho6 hry g6 hv6)); refine hK.out _ _ ?_ (fun hHeld => ?_); (· ((try dsimp only); (refine ⟨?_, ?_⟩ <;> (first | exact atg (atk t0 (by (repeat (first | with_reducible exact Below.refl _ _ | with_reducible assumption | with_reducible refine bdraw ?_ | with_reducible refine bdrewN ?_ _ | with_reducible refine balloc ?_ _ | with_reducible refine bset ?_ (by simp <;> omega) | with_reducible refine bstep ?_ (by assumption) | with_reducible refine btrans ?_ (by assumption))))) g6 (fun g hg => by have := (hlt8 g hg).1; have := t0.lt; simp at *; omega) | exact atg (atk t1 (by (repeat (first | with_reducible exact Below.refl _ _ | with_reducible assumption | with_reducible refine bdraw ?_ | with_reducible refine bdrewN ?_ _ | with_reducible refine balloc ?_ _ | with_reducible refine bset ?_ (by simp <;> omega) | with_reducible refine bstep ?_ (by assumption) | with_reducible refine btrans ?_ (by assumption))))) g6 (fun g hg => by have := (hlt8 g hg).1; have := t1.lt; simp at *; omega))))); clear hK K; (try simp only [Act.put, List.setIfInBounds_toArray, List.set_cons_zero, List.set_cons_succ, List.getElem_toArray, List.getElem_cons_zero, List.getElem_cons_succ, Array.getInternal_eq_getElem])
            have o6 : Own u8E Any w6 W4.heap.size 5 v6 (xb ++ x.b) := ⟨_, ho6, (show Reps u8E Any w6 xs6 xb from ⟨hrx.1, hrx.2⟩).append (show Reps u8E Any w6 ys6 x.b from ⟨hry.1, hry.2⟩)⟩
            have hz8' : W4.heap.size ≤ w8.heap.size := hz8
            have b48 : Below W4.heap.size W4 w8 := by (repeat (first | with_reducible exact Below.refl _ _ | with_reducible assumption | with_reducible refine bdraw ?_ | with_reducible refine bdrewN ?_ _ | with_reducible refine balloc ?_ _ | with_reducible refine bset ?_ (by simp <;> omega) | with_reducible refine bstep ?_ (by assumption) | with_reducible refine btrans ?_ (by assumption)))
            have b46 : Below W4.heap.size W4 w6 := by
              first
                | exact b48.trans (bgrown g6 hz8' (fun g hg => (hlt8 g hg).1))
                | exact b48.trans (bgrown (grown_undrew g6) hz8' (fun g hg => (hlt8 g hg).1))
            obtain ⟨A6, c6, rfl, _⟩ := o6.slAny.shape
            have hB6 := hB2.below b46
            obtain ⟨_, _, _, _, cx6, _, fx6, _, _⟩ := hB6.at_ hkk4
            have hv6' : Sl u8E (Hi (w1.heap.size + 3)) w6 (.slice A6 (xb ++ x.b).length c6) (xb ++ x.b) := (BO.ok _).sl (o6.base_mono (by omega))
            have hfP := hB6.put (k := kk) (by omega) hv6'
            have hfD := (heap_setCell_other w6 ⟨w1.heap.size + 1 + 1, kk, none⟩ w1.heap.size (.slice A6 (xb ++ x.b).length c6) (by simp; omega)).trans (blkb qD4 b46)
            have hfX := sfar (p := ⟨w1.heap.size + 1 + 1, kk, none⟩) (u := .slice A6 (xb ++ x.b).length c6) (sX4.below b46 (Nat.le_refl _)) (by simp)
            have hf1 := (hB1.below b46).keep (w' := w6.setCell ⟨w1.heap.size + 1 + 1, kk, none⟩ (.slice A6 (xb ++ x.b).length c6)) (heap_setCell_other w6 ⟨w1.heap.size + 1 + 1, kk, none⟩ (w1.heap.size + 1) _ (by simp)) (fun g hg _ => heap_setCell_other w6 ⟨w1.heap.size + 1 + 1, kk, none⟩ g _ (by simp; omega))
            have hfB := (hbr4.trans (b46.mono (by omega))).setCell (p := ⟨w1.heap.size + 1 + 1, kk, none⟩) (by simp; omega) (.slice A6 (xb ++ x.b).length c6)
            have hfz := b46.size
            have hsz6 : (w6.setCell ⟨w1.heap.size + 1 + 1, kk, none⟩ (.slice A6 (xb ++ x.b).length c6)).heap.size = w6.heap.size := by simp
            refine wpAnyH_take (i := 11) (v := ?_) rfl (by kernel_rfl) (by kernel_rfl) (by kernel_rfl) (fun _ _ _ h => h) (Or.inl ⟨by rfl, ?_⟩) (by assumption) ?_; rotate_left; (· (intro w' hSw'; (try dsimp only at hSw'); go_simp; (try with_reducible rfl))); simp only [Act.put, List.setIfInBounds_toArray, List.set_cons_zero, List.set_cons_succ, List.getElem_toArray, List.getElem_cons_zero, List.getElem_cons_succ, Array.getInternal_eq_getElem]
            refine wpAnyH_done (by kernel_rfl) ?_ _; refine lastQ_step rfl (fun K hK => ?_); (go_simp); refine hK.out _ _ ?_; clear hK K; (try simp only [Act.put, List.setIfInBounds_toArray, List.set_cons_zero, List.set_cons_succ, List.getElem_toArray, List.getElem_cons_zero, List.getElem_cons_succ, Array.getInternal_eq_getElem])
            go_wp2
            go_roundw
            case rel =>
              simp only [List.length_append] at hfD hfX hf1 hfP hfB hsz6
              exact ⟨k + 1, F, su, al.set kk (xb ++ x.b), .slice A2 F.length c2', by omega, by go_num, HIn, Lib.hid hfD, hfX, hf1, hfP, hfB, by omega⟩
            case measure => simp [intOf]; omega
          · refine gen_w (fun W => Below wr.heap.size wr W ∧ W.heap[wr.heap.size]? = some (.cells #[.int .i64 4096, .slice A2 F.length c2'] 24 (0, 0)) ∧ Sl fiE (Hi (w1.heap.size + 3)) W (.slice A2 F.length c2') F) ⟨by (repeat (first | with_reducible exact Below.refl _ _ | with_reducible assumption | with_reducible refine bdraw ?_ | with_reducible refine bdrewN ?_ _ | with_reducible refine balloc ?_ _ | with_reducible refine bset ?_ (by simp <;> omega) | with_reducible refine bstep ?_ (by assumption) | with_reducible refine btrans ?_ (by assumption))), set2 qz, (sfar (sfar s2 (by simp)) (by simp)).mono (fun b fr h _ => ⟨by have := h.1; have := hc9.2; omega, h.2⟩)⟩ (fun W3 h3 => ?_)
            obtain ⟨bw3, qX, sX⟩ := h3
            have hXl : wr.heap.size < W3.heap.size := (Array.getElem?_eq_some_iff.1 qX).1
            have hXg : wr.heap.size ≤ wr.heap.size := by omega
            have qD := blkb q0 bw3
            have hX9 := hc9.1
            clear s2 hc9 b2 HAp xa0 xa1 fa0 fa1
            have xa0 : W3.cell? ⟨w1.heap.size, 0, none⟩ = some (.int .i64 4096) := cell_of_row _ _ 0 _ _ _ qD; have fa0 : W3.frozen? ⟨w1.heap.size, 0, none⟩ = false := frozen_of_row _ _ 0 _ _ qD; have xa1 : W3.cell? ⟨w1.heap.size, 1, none⟩ = some (.slice Ad fs.length cd) := cell_of_row _ _ 1 _ _ _ qD; have fa1 : W3.frozen? ⟨w1.heap.size, 1, none⟩ = false := frozen_of_row _ _ 1 _ _ qD
            have xx0 : W3.cell? ⟨wr.heap.size, 0, none⟩ = some (.int .i64 4096) := cell_of_row _ _ 0 _ _ _ qX; have fx0 : W3.frozen? ⟨wr.heap.size, 0, none⟩ = false := frozen_of_row _ _ 0 _ _ qX; have xx1 : W3.cell? ⟨wr.heap.size, 1, none⟩ = some (.slice A2 F.length c2') := cell_of_row _ _ 1 _ _ _ qX; have fx1 : W3.frozen? ⟨wr.heap.size, 1, none⟩ = false := frozen_of_row _ _ 1 _ _ qX
            have bwB : Below w1.heap.size wr ((W3.setCell ⟨w1.heap.size, 0, none⟩ (.int .i64 4096)).setCell ⟨w1.heap.size, 1, none⟩ (.slice A2 F.length c2')) := bset (bset (bw3.mono (by omega)) (Nat.le_refl _)) (Nat.le_refl _)
            have hothD : ∀ g, g ≠ w1.heap.size → ((W3.setCell ⟨w1.heap.size, 0, none⟩ (.int .i64 4096)).setCell ⟨w1.heap.size, 1, none⟩ (.slice A2 F.length c2')).heap[g]? = W3.heap[g]? := fun g hg => (heap_setCell_other _ ⟨w1.heap.size, 1, none⟩ g (.slice A2 F.length c2') hg).trans (heap_setCell_other W3 ⟨w1.heap.size, 0, none⟩ g (.int .i64 4096) hg)
            have qD4 : ((W3.setCell ⟨w1.heap.size, 0, none⟩ (.int .i64 4096)).setCell ⟨w1.heap.size, 1, none⟩ (.slice A2 F.length c2')).heap[w1.heap.size]? = some (.cells #[.int .i64 4096, .slice A2 F.length c2'] 24 (0, 0)) := set2 qD
            have sX4 := sX.keep (w' := (W3.setCell ⟨w1.heap.size, 0, none⟩ (.int .i64 4096)).setCell ⟨w1.heap.size, 1, none⟩ (.slice A2 F.length c2')) (fun g fr hs _ => hothD g (by have := hs.1; omega))
            have hB1 := (hA1.below bw3).keep (w' := (W3.setCell ⟨w1.heap.size, 0, none⟩ (.int .i64 4096)).setCell ⟨w1.heap.size, 1, none⟩ (.slice A2 F.length c2')) (hothD _ (by omega)) (fun g hg _ => hothD g (by omega))
            have hB2 := (hA2.below bw3).keep (w' := (W3.setCell ⟨w1.heap.size, 0, none⟩ (.int .i64 4096)).setCell ⟨w1.heap.size, 1, none⟩ (.slice A2 F.length c2')) (hothD _ (by omega)) (fun g hg _ => hothD g (by omega))
            have hv4 := hv.lob bwB
            have a24 := (a2.keep (fun b _ hs _ => bwB.block b hs)).mono (S' := Any) (fun _ _ _ _ => trivial)
            have hz4 : wr.heap.size ≤ ((W3.setCell ⟨w1.heap.size, 0, none⟩ (.int .i64 4096)).setCell ⟨w1.heap.size, 1, none⟩ (.slice A2 F.length c2')).heap.size := by have := bw3.size; simpa using this
            have hbr4 := hbr.trans bwB
            clear sX hothD hA1 hA2 hv a2 a0 a1 c0 c1 c2 p0 p1 hbr bwB qD q0 HQ hsd cxa hsa hfa hxa
            go_wp2_with fail
            clear xa0 xa1 fa0 fa1 xx0 xx1 fx0 fx1 qX hXl hXg bw3
            generalize (W3.setCell ⟨w1.heap.size, 0, none⟩ (.int .i64 4096)).setCell ⟨w1.heap.size, 1, none⟩ (.slice A2 F.length c2') = W4 at *
            obtain ⟨xb, Ab, cb, hxb, cxb, hsb, hfb, hxb1, hxb2⟩ := hB2.at_ hkk4
            obtain rfl : xb = xa := by have := HXA.out; rw [hxb] at this; exact Option.some.inj this
            have hxs := HXS.out
            have hkI4 : (kk : Int) < 4 := by omega
            have hkI0 : (0 : Int) ≤ (kk : Int) := by omega
            have a25 := a24.cell
            have t0 : At Any W4 (w1.heap.size + 1 + 1) kk (.slice Ab xb.length cb) := (At.of_cell cxb).2
            have t1 : At Any W4 bb (off + k * 3 + 2) (.slice Av x.b.length cv) := a24
            have HSB := Lib.hid hsb
            have HV4 := Lib.hid hv4
            clear hsb hv4 hxb
            obtain ⟨i8, hi8, hy0, hy1, hy2⟩ := info_parts slice_info
            refine region_push 12 (S := (fun w' => w'.cell? ⟨w1.heap.size + 1 + 1, kk, none⟩ = some (.slice Ab xb.length cb) ∧ w'.cell? ⟨bb, off + k * 3 + 2, none⟩ = some (.slice Av x.b.length cv))) (by kernel_rfl) (by kernel_rfl) ?_ (fun hHeld => ?_); (· ((try dsimp only); (refine ⟨?_, ?_⟩ <;> (first | assumption | exact atb t0 (by (repeat (first | with_reducible exact Below.refl _ _ | with_reducible assumption | with_reducible refine bdraw ?_ | with_reducible refine bdrewN ?_ _ | with_reducible refine balloc ?_ _ | with_reducible refine bset ?_ (by simp <;> omega) | with_reducible refine bstep ?_ (by assumption) | with_reducible refine btrans ?_ (by assumption)))) | exact atb t1 (by (repeat (first | with_reducible exact Below.refl _ _ | with_reducible assumption | with_reducible refine bdraw ?_ | with_reducible refine bdrewN ?_ _ | with_reducible refine balloc ?_ _ | with_reducible refine bset ?_ (by simp <;> omega) | with_reducible refine bstep ?_ (by assumption) | with_reducible refine btrans ?_ (by assumption)))))))); simp only [List.take_succ_cons, List.take_zero]
            refine wpAnyH_take (i := 0) (v := ?_) rfl (by kernel_rfl) (by kernel_rfl) (by kernel_rfl) (fun _ _ _ h => h) (Or.inl ⟨by rfl, ?_⟩) (by assumption) ?_; rotate_left; (· (intro w' hSw'; (try dsimp only at hSw'); go_simp; (try with_reducible rfl))); simp only [Act.put, List.setIfInBounds_toArray, List.set_cons_zero, List.set_cons_succ, List.getElem_toArray, List.getElem_cons_zero, List.getElem_cons_succ, Array.getInternal_eq_getElem]; refine wpAnyH_take (i := 1) (v := ?_) rfl (by kernel_rfl) (by kernel_rfl) (by kernel_rfl) (fun _ _ _ h => h) (Or.inl ⟨by rfl, ?_⟩) (by assumption) ?_; rotate_left; (· (intro w' hSw'; (try dsimp only at hSw'); go_simp; (try with_reducible rfl))); simp only [Act.put, List.setIfInBounds_toArray, List.set_cons_zero, List.set_cons_succ, List.getElem_toArray, List.getElem_cons_zero, List.getElem_cons_succ, Array.getInternal_eq_getElem]; refine wpAnyH_take (i := 2) (v := ?_) rfl (by kernel_rfl) (by kernel_rfl) (by kernel_rfl) (fun _ _ _ h => h) (Or.inl ⟨by rfl, ?_⟩) (by assumption) ?_; rotate_left; (· (intro w' hSw'; (try dsimp only at hSw'); go_simp; (try with_reducible rfl))); simp only [Act.put, List.setIfInBounds_toArray, List.set_cons_zero, List.set_cons_succ, List.getElem_toArray, List.getElem_cons_zero, List.getElem_cons_succ, Array.getInternal_eq_getElem]; refine wpAnyH_take (i := 3) (v := ?_) rfl (by kernel_rfl) (by kernel_rfl) (by kernel_rfl) (fun _ _ _ h => h) (Or.inl ⟨by rfl, ?_⟩) (by assumption) ?_; rotate_left; (· (intro w' hSw'; (try dsimp only at hSw'); go_simp; (try with_reducible rfl))); simp only [Act.put, List.setIfInBounds_toArray, List.set_cons_zero, List.set_cons_succ, List.getElem_toArray, List.getElem_cons_zero, List.getElem_cons_succ, Array.getInternal_eq_getElem]; refine wpAnyH_take (i := 5) (v := ?_) rfl (by kernel_rfl) (by kernel_rfl) (by kernel_rfl) (fun _ _ _ h => h) (Or.inl ⟨by rfl, ?_⟩) (by assumption) ?_; rotate_left; (· (intro w' hSw'; (try dsimp only at hSw'); go_simp; (try with_reducible rfl))); simp only [Act.put, List.setIfInBounds_toArray, List.set_cons_zero, List.set_cons_succ, List.getElem_toArray, List.getElem_cons_zero, List.getElem_cons_succ, Array.getInternal_eq_getElem]; refine wpAnyH_take (i := 6) (v := ?_) rfl (by kernel_rfl) (by kernel_rfl) (by kernel_rfl) (fun _ _ _ h => h) (Or.inl ⟨by rfl, ?_⟩) (by assumption) ?_; rotate_left; (· (intro w' hSw'; (try dsimp only at hSw'); go_simp; (try with_reducible rfl))); simp only [Act.put, List.setIfInBounds_toArray, List.set_cons_zero, List.set_cons_succ, List.getElem_toArray, List.getElem_cons_zero, List.getElem_cons_succ, Array.getInternal_eq_getElem]; refine wpAnyH_take (i := 7) (v := ?_) rfl (by kernel_rfl) (by kernel_rfl) (by kernel_rfl) (fun _ _ _ h => h) (Or.inl ⟨by rfl, ?_⟩) (by assumption) ?_; rotate_left; (· (intro w' hSw'; (try dsimp only at hSw'); go_simp; (try with_reducible rfl))); simp only [Act.put, List.setIfInBounds_toArray, List.set_cons_zero, List.set_cons_succ, List.getElem_toArray, List.getElem_cons_zero, List.getElem_cons_succ, Array.getInternal_eq_getElem]; refine wpAnyH_take (i := 8) (v := ?_) rfl (by kernel_rfl) (by kernel_rfl) (by kernel_rfl) (fun _ _ _ h => h) (Or.inl ⟨by rfl, ?_⟩) (by assumption) ?_; rotate_left; (· (intro w' hSw'; (try dsimp only at hSw'); go_simp; (try with_reducible rfl))); simp only [Act.put, List.setIfInBounds_toArray, List.set_cons_zero, List.set_cons_succ, List.getElem_toArray, List.getElem_cons_zero, List.getElem_cons_succ, Array.getInternal_eq_getElem]; refine wpAnyH_take (i := 9) (v := ?_) rfl (by kernel_rfl) (by kernel_rfl) (by kernel_rfl) (fun _ _ _ h => h) (Or.inl ⟨by rfl, ?_⟩) (by assumption) ?_; rotate_left; (· (intro w' hSw'; (try dsimp only at hSw'); go_simp; (try with_reducible rfl))); simp only [Act.put, List.setIfInBounds_toArray, List.set_cons_zero, List.set_cons_succ, List.getElem_toArray, List.getElem_cons_zero, List.getElem_cons_succ, Array.getInternal_eq_getElem]
            refine wpAnyH_ready (rs := [4]) (by kernel_rfl) (by simp) (AllReadyH.cons rfl (fun K hK => ?_) AllReadyH.nil); ((refine step_call (by rfl) 21 #[.tmp 87] #[25] (by rfl) Try.func21 (by decide +kernel) (fun h => by cases h) (by simp [Act.eval]) (copy_c (HSB.out.below (by (repeat (first | with_reducible exact Below.refl _ _ | with_reducible assumption | with_reducible refine bdraw ?_ | with_reducible refine bdrewN ?_ _ | with_reducible refine balloc ?_ _ | with_reducible refine bset ?_ (by simp <;> omega) | with_reducible refine bstep ?_ (by assumption) | with_reducible refine btrans ?_ (by assumption)))) (Nat.le_refl _)) (by omega)) ?_; rintro e w8 ⟨u', rfl, o8, b8⟩; obtain ⟨Ac, cc, rfl, _⟩ := o8.slAny.shape; refine ⟨_, rfl, ?_⟩)); refine hK.out _ _ ?_ (fun hHeld => ?_); (· ((try dsimp only); (refine ⟨?_, ?_⟩ <;> (first | assumption | exact atb t0 (by (repeat (first | with_reducible exact Below.refl _ _ | with_reducible assumption | with_reducible refine bdraw ?_ | with_reducible refine bdrewN ?_ _ | with_reducible refine balloc ?_ _ | with_reducible refine bset ?_ (by simp <;> omega) | with_reducible refine bstep ?_ (by assumption) | with_reducible refine btrans ?_ (by assumption)))) | exact atb t1 (by (repeat (first | with_reducible exact Below.refl _ _ | with_reducible assumption | with_reducible refine bdraw ?_ | with_reducible refine bdrewN ?_ _ | with_reducible refine balloc ?_ _ | with_reducible refine bset ?_ (by simp <;> omega) | with_reducible refine bstep ?_ (by assumption) | with_reducible refine btrans ?_ (by assumption)))))))); clear hK K; (try simp only [Act.put, List.setIfInBounds_toArray, List.set_cons_zero, List.set_cons_succ, List.getElem_toArray, List.getElem_cons_zero, List.getElem_cons_succ, Array.getInternal_eq_getElem])
            have hz8 := b8.size
            have hlt8 := o8.lt
            refine wpAnyH_ready (rs := [10]) (by kernel_rfl) (by simp) (AllReadyH.cons rfl (fun K hK => ?_) AllReadyH.nil); ((refine step_append_sl _ (by rfl) (.tmp 88) (.tmp 93) 25 (by rfl) (E := u8E) (base := W4.heap.size) Try.underlying25 hi8 hy0 hy1 hy2 rfl o8 (HV4.out.below (by (repeat (first | with_reducible exact Below.refl _ _ | with_reducible assumption | with_reducible refine bdraw ?_ | with_reducible refine bdrewN ?_ _ | with_reducible refine balloc ?_ _ | with_reducible refine bset ?_ (by simp <;> omega) | with_reducible refine bstep ?_ (by assumption) | with_reducible refine btrans ?_ (by assumption)))) (Nat.le_refl _)) (by rfl) (by rfl) (by unfold maxLen; omega) (by omega) (by simp at hz8; omega) ?_; intro v6 w6 xs6 ys6 hrx ho6 hry g6 hv6)); refine hK.out _ _ ?_ (fun hHeld => ?_); (· ((try dsimp only); (refine ⟨?_, ?_⟩ <;> (first | exact atg (atk t0 (by (repeat (first | with_reducible exact Below.refl _ _ | with_reducible assumption | with_reducible refine bdraw ?_ | with_reducible refine bdrewN ?_ _ | with_reducible refine balloc ?_ _ | with_reducible refine bset ?_ (by simp <;> omega) | with_reducible refine bstep ?_ (by assumption) | with_reducible refine btrans ?_ (by assumption))))) g6 (fun g hg => by have := (hlt8 g hg).1; have := t0.lt; simp at *; omega) | exact atg (atk t1 (by (repeat (first | with_reducible exact Below.refl _ _ | with_reducible assumption | with_reducible refine bdraw ?_ | with_reducible refine bdrewN ?_ _ | with_reducible refine balloc ?_ _ | with_reducible refine bset ?_ (by simp <;> omega) | with_reducible refine bstep ?_ (by assumption) | with_reducible refine btrans ?_ (by assumption))))) g6 (fun g hg => by have := (hlt8 g hg).1; have := t1.lt; simp at *; omega))))); clear hK K; (try simp only [Act.put, List.setIfInBounds_toArray, List.set_cons_zero, List.set_cons_succ, List.getElem_toArray, List.getElem_cons_zero, List.getElem_cons_succ, Array.getInternal_eq_getElem])
            have o6 : Own u8E Any w6 W4.heap.size 5 v6 (xb ++ x.b) := ⟨_, ho6, (show Reps u8E Any w6 xs6 xb from ⟨hrx.1, hrx.2⟩).append (show Reps u8E Any w6 ys6 x.b from ⟨hry.1, hry.2⟩)⟩
            have hz8' : W4.heap.size ≤ w8.heap.size := hz8
            have b48 : Below W4.heap.size W4 w8 := by (repeat (first | with_reducible exact Below.refl _ _ | with_reducible assumption | with_reducible refine bdraw ?_ | with_reducible refine bdrewN ?_ _ | with_reducible refine balloc ?_ _ | with_reducible refine bset ?_ (by simp <;> omega) | with_reducible refine bstep ?_ (by assumption) | with_reducible refine btrans ?_ (by assumption)))
            have b46 : Below W4.heap.size W4 w6 := by
              first
                | exact b48.trans (bgrown g6 hz8' (fun g hg => (hlt8 g hg).1))
                | exact b48.trans (bgrown (grown_undrew g6) hz8' (fun g hg => (hlt8 g hg).1))
            obtain ⟨A6, c6, rfl, _⟩ := o6.slAny.shape
            have hB6 := hB2.below b46
            obtain ⟨_, _, _, _, cx6, _, fx6, _, _⟩ := hB6.at_ hkk4
            have hv6' : Sl u8E (Hi (w1.heap.size + 3)) w6 (.slice A6 (xb ++ x.b).length c6) (xb ++ x.b) := (BO.ok _).sl (o6.base_mono (by omega))
            have hfP := hB6.put (k := kk) (by omega) hv6'
            have hfD := (heap_setCell_other w6 ⟨w1.heap.size + 1 + 1, kk, none⟩ w1.heap.size (.slice A6 (xb ++ x.b).length c6) (by simp; omega)).trans (blkb qD4 b46)
            have hfX := sfar (p := ⟨w1.heap.size + 1 + 1, kk, none⟩) (u := .slice A6 (xb ++ x.b).length c6) (sX4.below b46 (Nat.le_refl _)) (by simp)
            have hf1 := (hB1.below b46).keep (w' := w6.setCell ⟨w1.heap.size + 1 + 1, kk, none⟩ (.slice A6 (xb ++ x.b).length c6)) (heap_setCell_other w6 ⟨w1.heap.size + 1 + 1, kk, none⟩ (w1.heap.size + 1) _ (by simp)) (fun g hg _ => heap_setCell_other w6 ⟨w1.heap.size + 1 + 1, kk, none⟩ g _ (by simp; omega))
            have hfB := (hbr4.trans (b46.mono (by omega))).setCell (p := ⟨w1.heap.size + 1 + 1, kk, none⟩) (by simp; omega) (.slice A6 (xb ++ x.b).length c6)
            have hfz := b46.size
            have hsz6 : (w6.setCell ⟨w1.heap.size + 1 + 1, kk, none⟩ (.slice A6 (xb ++ x.b).length c6)).heap.size = w6.heap.size := by simp
            refine wpAnyH_take (i := 11) (v := ?_) rfl (by kernel_rfl) (by kernel_rfl) (by kernel_rfl) (fun _ _ _ h => h) (Or.inl ⟨by rfl, ?_⟩) (by assumption) ?_; rotate_left; (· (intro w' hSw'; (try dsimp only at hSw'); go_simp; (try with_reducible rfl))); simp only [Act.put, List.setIfInBounds_toArray, List.set_cons_zero, List.set_cons_succ, List.getElem_toArray, List.getElem_cons_zero, List.getElem_cons_succ, Array.getInternal_eq_getElem]
            refine wpAnyH_done (by kernel_rfl) ?_ _; refine lastQ_step rfl (fun K hK => ?_); (go_simp); refine hK.out _ _ ?_; clear hK K; (try simp only [Act.put, List.setIfInBounds_toArray, List.set_cons_zero, List.set_cons_succ, List.getElem_toArray, List.getElem_cons_zero, List.getElem_cons_succ, Array.getInternal_eq_getElem])
            go_wp2
            go_roundw
            case rel =>
              simp only [List.length_append] at hfD hfX hf1 hfP hfB hsz6
              exact ⟨k + 1, F, su, al.set kk (xb ++ x.b), .slice A2 F.length c2', by omega, by go_num, HIn, Lib.hid hfD, hfX, hf1, hfP, hfB, by omega⟩
            case measure => simp [intOf]; omega
    · obtain ⟨CE, CR, CF, J, HJ⟩ := HI.out.crash hk0 ht0 ht1
      have HC := Lib.hid ((crash_c (room := 4096) (keep := keep) (turn := turn) hsd (by omega)).mono fun _ _ h => h.p (B := w1.heap.size + 3) hzr)
      rw [CE, CR] at HC
      have hwk : IntKind.i64.wrap keep = keep := IntWalk.i64_in _ (by omega)
      have hwt : IntKind.i64.wrap turn = turn := IntWalk.i64_in _ (by omega)
      have hHJ := Lib.hid HJ
      clear CE CR HJ
      go_wp2_with fail
      refine HC.out.mono ?_
      rintro e w2 ⟨A2, c2', rfl, s2, hc9, b2⟩
      have qD := blkb q0 b2
      clear xa0 xa1 fa0 fa1 HC
      have xa0 : w2.cell? ⟨w1.heap.size, 0, none⟩ = some (.int .i64 4096) := cell_of_row _ _ 0 _ _ _ qD; have fa0 : w2.frozen? ⟨w1.heap.size, 0, none⟩ = false := frozen_of_row _ _ 0 _ _ qD; have xa1 : w2.cell? ⟨w1.heap.size, 1, none⟩ = some (.slice Ad fs.length cd) := cell_of_row _ _ 1 _ _ _ qD; have fa1 : w2.frozen? ⟨w1.heap.size, 1, none⟩ = false := frozen_of_row _ _ 1 _ _ qD
      have hoth : ∀ g, g ≠ w1.heap.size → ((w2.setCell ⟨w1.heap.size, 0, none⟩ (.int .i64 4096)).setCell ⟨w1.heap.size, 1, none⟩ (.slice A2 (crF 4096 fs keep turn).length c2')).heap[g]? = w2.heap[g]? := fun g hg => (heap_setCell_other _ ⟨w1.heap.size, 1, none⟩ g (.slice A2 (crF 4096 fs keep turn).length c2') hg).trans (heap_setCell_other w2 ⟨w1.heap.size, 0, none⟩ g (.int .i64 4096) hg)
      have qD5 : ((w2.setCell ⟨w1.heap.size, 0, none⟩ (.int .i64 4096)).setCell ⟨w1.heap.size, 1, none⟩ (.slice A2 (crF 4096 fs keep turn).length c2')).heap[w1.heap.size]? = some (.cells #[.int .i64 4096, .slice A2 (crF 4096 fs keep turn).length c2'] 24 (0, 0)) := set2 qD
      have s5 := (s2.keep (w' := ((w2.setCell ⟨w1.heap.size, 0, none⟩ (.int .i64 4096)).setCell ⟨w1.heap.size, 1, none⟩ (.slice A2 (crF 4096 fs keep turn).length c2'))) (fun g fr hs _ => hoth g (by have := hs.1; omega))).any
      have hB1 := (hA1.below b2).keep (w' := ((w2.setCell ⟨w1.heap.size, 0, none⟩ (.int .i64 4096)).setCell ⟨w1.heap.size, 1, none⟩ (.slice A2 (crF 4096 fs keep turn).length c2'))) (hoth _ (by omega)) (fun g hg _ => hoth g (by omega))
      have hB2 := (hA2.below b2).keep (w' := ((w2.setCell ⟨w1.heap.size, 0, none⟩ (.int .i64 4096)).setCell ⟨w1.heap.size, 1, none⟩ (.slice A2 (crF 4096 fs keep turn).length c2'))) (hoth _ (by omega)) (fun g hg _ => hoth g (by omega))
      have hbW : Below w1.heap.size w1 ((w2.setCell ⟨w1.heap.size, 0, none⟩ (.int .i64 4096)).setCell ⟨w1.heap.size, 1, none⟩ (.slice A2 (crF 4096 fs keep turn).length c2')) := bset (bset (hbr.trans (b2.mono (by omega))) (Nat.le_refl _)) (Nat.le_refl _)
      have HFm := fun (w' : World) (bb : Below ((w2.setCell ⟨w1.heap.size, 0, none⟩ (.int .i64 4096)).setCell ⟨w1.heap.size, 1, none⟩ (.slice A2 (crF 4096 fs keep turn).length c2')).heap.size ((w2.setCell ⟨w1.heap.size, 0, none⟩ (.int .i64 4096)).setCell ⟨w1.heap.size, 1, none⟩ (.slice A2 (crF 4096 fs keep turn).length c2')) w') => Lib.hid (formed_c (room := 4096) (w := w') (s5.below bb (Nat.le_refl _)))
      rw [CF] at HFm
      clear s2 hc9 b2 hA1 hA2 hsd hbr hzr hoth q0 HQ hwk hwt
      go_wp2_with fail
      clear xa0 xa1 fa0 fa1
      generalize w2.setCell ⟨w1.heap.size, 0, none⟩ (.int .i64 4096) = W4 at *
      generalize W4.setCell ⟨w1.heap.size, 1, none⟩ (.slice A2 (crF 4096 fs keep turn).length c2') = W5 at *
      refine (HFm _ (by (repeat (first | with_reducible exact Below.refl _ _ | with_reducible assumption | with_reducible refine bdraw ?_ | with_reducible refine bdrewN ?_ _ | with_reducible refine balloc ?_ _ | with_reducible refine bset ?_ (by simp <;> omega) | with_reducible refine bstep ?_ (by assumption) | with_reducible refine btrans ?_ (by assumption))))).out.mono ?_
      rintro e w6 ⟨rfl, b6⟩
      have q6 := blkb qD5 b6
      have s6 := s5.below b6 (Nat.le_refl _)
      have hE1 := hB1.below b6
      have hE2 := hB2.below b6
      have hb6 : Below w1.heap.size w1 w6 := hbW.trans (b6.mono (hbW.size))
      clear HFm b6 hbW hB1 hB2 s5 qD5
      generalize crF 4096 fs keep turn = F at *
      go_wp2
      go_loopw [17, 18, 19, 20, 21] (fun ov kv _ _ _ wr => ∃ (o kk : Nat), kk ≤ 4 ∧ ov = .int .i64 o ∧ kv = .int .i64 kk ∧ Hid (o ≤ 1 ∧ (o = 1 → J < (kk : Int))) ∧ Below w6.heap.size w6 wr) (fun _ kv _ _ _ _ => 4 - (intOf kv).toNat)
      case atStart => exact ⟨0, 0, by omega, by go_num, by go_num, Lib.hid ⟨by omega, fun h => by omega⟩, Below.refl _ _⟩
      case round =>
        obtain ⟨o, kk, hkk, rfl, rfl, HO, hbr⟩ := hrel
        have q7 := blkb q6 hbr
        have hbw : Below w1.heap.size w1 wr := hb6.trans (hbr.mono hb6.size)
        by_cases hk4 : kk < 4
        · have hkI : (kk : Int) < 4 := by omega
          have hkI0 : (0 : Int) ≤ (kk : Int) := by omega
          obtain ⟨s, a, hs, ha, hcase⟩ := hHJ.out kk hk4
          have xa0 : wr.cell? ⟨w1.heap.size, 0, none⟩ = some (.int .i64 4096) := cell_of_row _ _ 0 _ _ _ q7; have fa0 : wr.frozen? ⟨w1.heap.size, 0, none⟩ = false := frozen_of_row _ _ 0 _ _ q7; have xa1 : wr.cell? ⟨w1.heap.size, 1, none⟩ = some (.slice A2 F.length c2') := cell_of_row _ _ 1 _ _ _ q7; have fa1 : wr.frozen? ⟨w1.heap.size, 1, none⟩ = false := frozen_of_row _ _ 1 _ _ q7
          have HG := Lib.hid (get_c (room := 4096) (n := (kk : Int)) (s6.below hbr (Nat.le_refl _)))
          rcases hcase with ⟨hg1, hg2⟩ | ⟨hg1, hg2, hg3, hg4⟩
          · rw [hg1] at HG
            subst hg2
            generalize gtB 4096 F (kk : Int) = bs at *
            go_wp2_with fail
            refine HG.out.mono ?_
            intro e w7 h
            obtain ⟨A3, c3, rfl, s7, b7⟩ := h.s
            clear h
            have hE2' := (hE2.below hbr).below b7
            obtain ⟨xb, Ab, cb, hxb, cxb, hsb, hfb, hxb1, hxb2⟩ := hE2'.at_ hk4
            obtain rfl : xb = [] := by rw [hxb] at ha; exact Option.some.inj ha
            clear xa0 xa1 fa0 fa1 q7 hxb ha hs
            go_wp2
            go_roundw
            case rel => exact ⟨o, kk + 1, by omega, rfl, by go_num, Lib.hid ⟨HO.out.1, fun h => by have := HO.out.2 h; omega⟩, hbr.trans (b7.mono hbr.size)⟩
            case measure => simp [intOf]; omega
          · rw [hg1] at HG
            have H4 := Lib.hid hg4
            clear hg4 hg1
            generalize gtB 4096 F (kk : Int) = bs at *
            go_wp2_with fail
            refine HG.out.mono ?_
            intro e w7 h
            obtain ⟨A3, c3, rfl, s7, b7⟩ := h.s
            clear h
            have hE1' := (hE1.below hbr).below b7
            have hE2' := (hE2.below hbr).below b7
            obtain ⟨xs, As, cs, hxs, cxs, hss, hfs, hxs1, hxs2⟩ := hE1'.at_ hk4
            obtain ⟨xb, Ab, cb, hxb, cxb, hsb, hfb, hxb1, hxb2⟩ := hE2'.at_ hk4
            obtain rfl : xs = s := by rw [hxs] at hs; exact Option.some.inj hs
            obtain rfl : xb = a := by rw [hxb] at ha; exact Option.some.inj ha
            have hb7 : Below w6.heap.size w6 w7 := hbr.trans (b7.mono hbr.size)
            have hmx := s7.max
            have e1 : decide ((bs.length : Int) < (xs.length : Int)) = false := decide_eq_false (by omega)
            have e2 : decide ((xb.length : Int) < (bs.length : Int)) = false := decide_eq_false (by omega)
            have e3 : decide (bs.length < xs.length) = false := decide_eq_false (by omega)
            have e4 : decide (xb.length < bs.length) = false := decide_eq_false (by omega)
            clear xa0 xa1 fa0 fa1 q7 hxb ha hs hxs
            go_wp2
            have tb := (At.of_cell cxb).2
            have ts := (At.of_cell cxs).2
            have H2 := Lib.hid (And.intro hE1' hE2')
            clear hE1' hE2' e1 e2 e3 e4 cxb cxs hfs hfb
            go_loopw [17, 21] (fun ov iv wr' => ∃ (o i : Nat), i ≤ bs.length ∧ ov = .int .i64 o ∧ iv = .int .i64 i ∧ Hid (o ≤ 1 ∧ (o = 1 → J < (kk : Int) ∨ (J = (kk : Int) ∧ bs.length ≤ i))) ∧ Below w7.heap.size w7 wr') (fun _ iv _ => bs.length - (intOf iv).toNat)
            case atStart => exact ⟨o, 0, Nat.zero_le _, rfl, by go_num, Lib.hid ⟨HO.out.1, fun h => .inl (HO.out.2 h)⟩, Below.refl _ _⟩
            case round =>
              obtain ⟨o, i, hi, rfl, rfl, HO2, hbr2⟩ := hrel
              have cxb := atb tb hbr2
              have cxs := atb ts hbr2
              by_cases hib : i < bs.length
              · have hiI : (i : Int) < (bs.length : Int) := by omega
                have hiI0 : (0 : Int) ≤ (i : Int) := by omega
                have hix : i < xb.length := by omega
                have hixI : (i : Int) < (xb.length : Int) := by omega
                obtain ⟨y1, f1, rfl, z1⟩ := (s7.below hbr2 (Nat.le_refl _)).byte hib
                obtain ⟨y2, f2, rfl, z2⟩ := (hsb.below hbr2 (Nat.le_refl _)).byte hix
                have zc1 := z1.cell
                have zc2 := z2.cell
                have HNE := Lib.hid (fun h => H4.out i hib hix h)
                clear z1 z2
                by_cases hne : bs[i] = xb[i]
                · have d9 : ((bs[i].toNat : Int) != (xb[i].toNat : Int)) = false := by rw [hne]; simp
                  clear hne HNE
                  generalize bs[i] = p1 at *
                  generalize xb[i] = p2 at *
                  go_wp2_with fail
                  go_region
                  all_goals
                    go_wp2
                    go_roundw
                    case rel => exact ⟨o, i + 1, by omega, rfl, by go_num, Lib.hid ⟨HO2.out.1, fun h => (HO2.out.2 h).imp id (fun h => ⟨h.1, by omega⟩)⟩, bdraw hbr2⟩
                    case measure => simp [intOf]; omega
                · obtain ⟨j1, j2, j3⟩ := HNE.out hne
                  have ho : o = 0 := by
                    have h1 := HO2.out.1
                    have h2 := HO2.out.2
                    rcases Nat.lt_or_ge 0 o with h | h
                    · have := h2 (by omega); omega
                    · omega
                  subst ho
                  have d9 : ((bs[i].toNat : Int) != (xb[i].toNat : Int)) = true := by
                    rw [bne_iff_ne]
                    intro h
                    apply hne
                    have : bs[i].toNat = xb[i].toNat := by exact_mod_cast h
                    exact UInt8.toNat_inj.1 this
                  have e1 : decide ((i : Int) < (xs.length : Int)) = false := decide_eq_false (by omega)
                  have e3 : decide (i < xs.length) = false := decide_eq_false (by omega)
                  have hwl : IntKind.i64.wrap ((bs.length : Int) - 1) = (i : Int) := by rw [IntWalk.i64_in _ (by omega)]; omega
                  have HJ2 := Lib.hid (And.intro j1 j2)
                  clear hne HNE j1 j2 j3
                  generalize bs[i] = p1 at *
                  generalize xb[i] = p2 at *
                  go_wp2_with fail
                  go_region
                  all_goals
                    go_wp2
                    go_roundw
                    case rel => exact ⟨1, i + 1, by omega, by go_num, by go_num, Lib.hid ⟨Nat.le_refl _, fun _ => .inr ⟨HJ2.out.1.symm, by have := HJ2.out.2; omega⟩⟩, bdraw hbr2⟩
                    case measure => simp [intOf]; omega
              · have hiI : ¬ (i : Int) < (bs.length : Int) := by omega
                clear cxb cxs
                go_wp2
                go_roundw
                case rel => exact ⟨o, kk + 1, by omega, rfl, by go_num, Lib.hid ⟨HO2.out.1, fun h => by have := HO2.out.2 h; omega⟩, hb7.trans (hbr2.mono hb7.size)⟩
                case measure => simp [intOf]; omega
        · have hkI : ¬ (kk : Int) < 4 := by omega
          have ho1 := HO.out.1
          have d8 : decide ((o : Int) ≤ 1) = true := decide_eq_true (by omega)
          clear q7
          go_wp2
          go_ret
          exact ⟨rfl, b1.trans (hbw.mono b1.size)⟩
end Go.Proofs.Ytnblnlbchcepjaa
