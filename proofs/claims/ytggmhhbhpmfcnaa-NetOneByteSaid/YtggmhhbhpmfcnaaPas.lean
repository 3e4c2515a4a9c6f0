/- Packets: whether there is an i-th; sending. -/
import Derived.Test.YtggmhhbhpmfcnaaPan
namespace Go.Proofs.Ytggmhhbhpmfcnaa
open Go.RowKit

def atE (l : List Pk) (i : Int) : Int := if formedB l = true then (if 0 ≤ i ∧ i < l.length then 0 else 16) else 1

theorem at_c {S : Foot} {v : Value} {l : List Pk} {i : Int} {w : World} (hp : Sl pkE S w v l) :
    Calls Try.prog 29 #[v, .int .i64 i] w fun e w' => e = .returned (.int .i64 (atE l i)) ∧ Below w.heap.size w w' := by
  have HC := Lib.hid (formed_c hp)
  obtain ⟨A, cap, rfl, hc1, hc2, _⟩ := hp.shape
  unfold maxLen at hc2
  clear hp
  go_enter Try.func29, Try.ntmps29
  go_wp2_with (go_at_call 12; refine HC.out.mono ?_; rintro e w1 ⟨rfl, b1⟩)
  all_goals
    go_ret
    exact ⟨ret_int (by unfold atE; split <;> (try split) <;> first | rfl | omega | simp_all | (simp_all; omega)), by (repeat (first | with_reducible exact Below.refl _ _ | with_reducible assumption | with_reducible refine bdraw ?_ | with_reducible refine bdrewN ?_ _ | with_reducible refine balloc ?_ _ | with_reducible refine bset ?_ (by simp <;> omega) | with_reducible refine bstep ?_ (by assumption) | with_reducible refine btrans ?_ (by assumption)))⟩
theorem rat_c {S : Foot} {v : Value} {l : List Pk} {i : Int} {w : World} (hp : Sl pkE S w v l) :
    Calls Try.prog 30 #[v, .int .i64 i] w fun e w' => e = .returned (.int .i64 (atE l i)) ∧ Below w.heap.size w w' := by
  have HC := Lib.hid (rformed_c hp)
  obtain ⟨A, cap, rfl, hc1, hc2, _⟩ := hp.shape
  unfold maxLen at hc2
  clear hp
  go_enter Try.func30, Try.ntmps30
  go_wp2_with (go_at_call 13; refine HC.out.mono ?_; rintro e w1 ⟨rfl, b1⟩)
  all_goals
    go_ret
    exact ⟨ret_int (by unfold atE; split <;> (try split) <;> first | rfl | omega | simp_all | (simp_all; omega)), by (repeat (first | with_reducible exact Below.refl _ _ | with_reducible assumption | with_reducible refine bdraw ?_ | with_reducible refine bdrewN ?_ _ | with_reducible refine balloc ?_ _ | with_reducible refine bset ?_ (by simp <;> omega) | with_reducible refine bstep ?_ (by assumption) | with_reducible refine btrans ?_ (by assumption)))⟩

def mk (f t : Int) (b : List UInt8) : Pk := ⟨f, t, b, b⟩
def sends (l : List Pk) (f t : Int) (list : List (List UInt8)) : List Pk := if formedB l = true ∧ endsB f t = true ∧ l.length + list.length ≤ 4096 then l ++ list.map (mk f t) else []
def sendE (l : List Pk) (f t : Int) (list : List (List UInt8)) : Int := if formedB l = true ∧ endsB f t = true then (if l.length + list.length ≤ 4096 then 0 else 15) else 1
theorem rightB_mk (f t : Int) : rightB ⟨f, t, [], []⟩ = endsB f t := by
  unfold rightB oddN
  simp
theorem formedB_len {l : List Pk} (h : formedB l = true) : l.length ≤ 4096 := by
  unfold formedB at h
  simp at h
  exact h.1

set_option maxHeartbeats 4000000 in
theorem send_c {S S' : Foot} {v u : Value} {l : List Pk} {f t : Int} {list : List (List UInt8)} {w : World} (hp : Sl pkE S w v l) (hq : Sl (slE u8E) S' w u list) (hf : Fit l) (hg : ∀ b ∈ list, b.length ≤ 140737488355328) (hn : list.length ≤ 140737488355328) :
    Calls Try.prog 9 #[v, .int .i64 f, .int .i64 t, u] w fun e w' => ∃ v', e = .returned (.tuple #[v', .int .i64 (sendE l f t list)]) ∧ Own pkE (HiN w.heap.size v'.ownBlock) w' w.heap.size 35 v' (sends l f t list) ∧ Below w.heap.size w w' := by
  obtain ⟨i0, hi, hz0, hz1, hz2⟩ := info_parts pk_info
  obtain ⟨A, cap, rfl, hc1, hc2, _⟩ := hp.shape
  obtain ⟨A', cap', rfl, hc3, hc4, _⟩ := hq.shape
  unfold maxLen at hc2 hc4
  have HF := Lib.hid (formed_c hp)
  have HR := fun (w' : World) => Lib.hid (right_c (p := ⟨f, t, [], []⟩) (w := w') (As := none) (Ah := none) (cs := 0) (ch := 0) (S := Any) (S' := Any) Sl.nil Sl.nil)
  rw [rightB_mk] at HR
  have hll : formedB l = true → l.length ≤ 4096 := formedB_len
  have hl := Lib.hid hll
  clear hll
  cases hF : formedB l
  · have HV := Lib.hid (show sends l f t list = [] ∧ sendE l f t list = 1 by unfold sends sendE; simp [hF])
    rw [hF] at HF
    clear hF hl
    go_enter Try.func9, Try.ntmps9
    go_wp2_with (go_at_call 12; refine HF.out.mono ?_; rintro e w1 ⟨rfl, b1⟩)
    go_ret2
    rw [HV.out.1, HV.out.2]
    exact ⟨_, rfl, Own.nil, b1⟩
  have h4 := hl.out hF
  cases hE : endsB f t
  · have HV := Lib.hid (show sends l f t list = [] ∧ sendE l f t list = 1 by unfold sends sendE; simp [hE])
    rw [hF] at HF
    rw [hE] at HR
    clear hF hl hE
    go_enter Try.func9, Try.ntmps9
    go_wp2_with (first
      | (go_at_call 12; refine HF.out.mono ?_; rintro e w1 ⟨rfl, b1⟩)
      | (go_at_call 22; refine (HR _).out.mono ?_; rintro e w2 ⟨rfl, b2⟩))
    go_ret2
    rw [HV.out.1, HV.out.2]
    exact ⟨_, rfl, Own.nil, by (repeat (first | with_reducible exact Below.refl _ _ | with_reducible assumption | with_reducible refine bdraw ?_ | with_reducible refine bdrewN ?_ _ | with_reducible refine balloc ?_ _ | with_reducible refine bset ?_ (by simp <;> omega) | with_reducible refine bstep ?_ (by assumption) | with_reducible refine btrans ?_ (by assumption)))⟩
  by_cases hN : l.length + list.length ≤ 4096
  rotate_left
  · have HV := Lib.hid (show sends l f t list = [] ∧ sendE l f t list = 15 by unfold sends sendE; simp [hF, hE, hN])
    have d1 : decide (4096 < (l.length : Int) + (list.length : Int)) = true := decide_eq_true (by omega)
    rw [hF] at HF
    rw [hE] at HR
    clear hF hl hE
    go_enter Try.func9, Try.ntmps9
    go_wp2_with (first
      | (go_at_call 12; refine HF.out.mono ?_; rintro e w1 ⟨rfl, b1⟩)
      | (go_at_call 22; refine (HR _).out.mono ?_; rintro e w2 ⟨rfl, b2⟩))
    go_ret2
    rw [HV.out.1, HV.out.2]
    exact ⟨_, rfl, Own.nil, by (repeat (first | with_reducible exact Below.refl _ _ | with_reducible assumption | with_reducible refine bdraw ?_ | with_reducible refine bdrewN ?_ _ | with_reducible refine balloc ?_ _ | with_reducible refine bset ?_ (by simp <;> omega) | with_reducible refine bstep ?_ (by assumption) | with_reducible refine btrans ?_ (by assumption)))⟩
  have HV := Lib.hid (show sends l f t list = l ++ list.map (mk f t) ∧ sendE l f t list = 0 by unfold sends sendE; simp [hF, hE, hN])
  have d1 : decide (4096 < (l.length : Int) + (list.length : Int)) = false := decide_eq_false (by omega)
  rw [hF] at HF
  rw [hE] at HR
  clear hF hl hE
  go_enter Try.func9, Try.ntmps9
  go_wp2_with (first
    | (go_at_call 12; refine HF.out.mono ?_; rintro e w1 ⟨rfl, b1⟩)
    | (go_at_call 22; refine (HR _).out.mono ?_; rintro e w2 ⟨rfl, b2⟩))
  refine (own_c (hp.below (by (repeat (first | with_reducible exact Below.refl _ _ | with_reducible assumption | with_reducible refine bdraw ?_ | with_reducible refine bdrewN ?_ _ | with_reducible refine balloc ?_ _ | with_reducible refine bset ?_ (by simp <;> omega) | with_reducible refine bstep ?_ (by assumption) | with_reducible refine btrans ?_ (by assumption)))) (Nat.le_refl _)) h4 hf).mono ?_
  rintro e w3 ⟨v3, rfl, o3, b3⟩
  go_wp2
  have hb3 : Below w.heap.size w w3 := by (repeat (first | with_reducible exact Below.refl _ _ | with_reducible assumption | with_reducible refine bdraw ?_ | with_reducible refine bdrewN ?_ _ | with_reducible refine balloc ?_ _ | with_reducible refine bset ?_ (by simp <;> omega) | with_reducible refine bstep ?_ (by assumption) | with_reducible refine btrans ?_ (by assumption)))
  have o3 := o3.low (b0 := w.heap.size) (by have := b1.size; have := b2.size; omega)
  go_loopw [10, 12, 33] (fun v _ i wr => ∃ k : Nat, k ≤ list.length ∧ i = .int .i64 k ∧ Own pkE (HiN w.heap.size v.ownBlock) wr w.heap.size 35 v (l ++ (list.take k).map (mk f t)) ∧ Below w.heap.size w wr) (fun _ _ i _ => list.length - (intOf i).toNat)
  case atStart => exact ⟨0, Nat.zero_le _, rfl, by simpa using o3, hb3⟩
  case round =>
    obtain ⟨k, hk, rfl, hown, hbr⟩ := hrel
    by_cases hlt : k < list.length
    · obtain ⟨b, off, x0, rfl, a0, hs⟩ := (hq.below (by (repeat (first | with_reducible exact Below.refl _ _ | with_reducible assumption | with_reducible refine bdraw ?_ | with_reducible refine bdrewN ?_ _ | with_reducible refine balloc ?_ _ | with_reducible refine bset ?_ (by simp <;> omega) | with_reducible refine bstep ?_ (by assumption) | with_reducible refine btrans ?_ (by assumption)))) (Nat.le_refl _)).elem hlt
      obtain ⟨As, cs, rfl, _⟩ := hs.shape
      have hx := hg _ (List.getElem_mem hlt)
      have HS0 : l ++ (list.take (k + 1)).map (mk f t) = (l ++ (list.take k).map (mk f t)) ++ [mk f t list[k]] := by rw [List.take_succ_eq_append_getElem hlt, List.map_append, List.append_assoc]; rfl
      have hll : (l ++ (list.take k).map (mk f t)).length ≤ 4096 := by simp; omega
      have c0 := atb a0 (w' := wr) (by (repeat (first | with_reducible exact Below.refl _ _ | with_reducible assumption | with_reducible refine bdraw ?_ | with_reducible refine bdrewN ?_ _ | with_reducible refine balloc ?_ _ | with_reducible refine bset ?_ (by simp <;> omega) | with_reducible refine bstep ?_ (by assumption) | with_reducible refine btrans ?_ (by assumption))))
      generalize list[k] = x at *
      generalize l ++ (list.take k).map (mk f t) = m at *
      have hll_ := Lib.hid hll; clear hll; have HS0_ := Lib.hid HS0; clear HS0
      clear a0
      go_wp2_with fail
      refine (twin_c (p := mk f t x) (hs.below (by (repeat (first | with_reducible exact Below.refl _ _ | with_reducible assumption | with_reducible refine bdraw ?_ | with_reducible refine bdrewN ?_ _ | with_reducible refine balloc ?_ _ | with_reducible refine bset ?_ (by simp <;> omega) | with_reducible refine bstep ?_ (by assumption) | with_reducible refine btrans ?_ (by assumption)))) (Nat.le_refl _)) (hs.below (by (repeat (first | with_reducible exact Below.refl _ _ | with_reducible assumption | with_reducible refine bdraw ?_ | with_reducible refine bdrewN ?_ _ | with_reducible refine balloc ?_ _ | with_reducible refine bset ?_ (by simp <;> omega) | with_reducible refine bstep ?_ (by assumption) | with_reducible refine btrans ?_ (by assumption)))) (Nat.le_refl _)) hx hx).mono ?_
      rintro e w4 ⟨A1, c1', A2, c2', rfl, o1, o2, b4⟩
      have hlt1 := hown.lt
      have z4 := b4.size
      have hsl := o1.beside (B := w.heap.size) (by have := hbr.size; (first | omega | (simp; done) | (simp; omega) | (simp at *; omega))) (fun g hg => by have := (hlt1 g hg).2; (first | omega | (simp; done) | (simp; omega) | (simp at *; omega)))
      have hsl2 := o2.beside (B := w.heap.size) (by have := hbr.size; (first | omega | (simp; done) | (simp; omega) | (simp at *; omega))) (fun g hg => by have := (hlt1 g hg).2; (first | omega | (simp; done) | (simp; omega) | (simp at *; omega)))
      go_wp2_with (at_builtin; refine wpList_append_one _ rfl (.tmp 37) (.tmp 44) 22 rfl (E := pkE) (base := w.heap.size) Try.underlying22 hi hz0 hz1 hz2 rfl (hown.below (by (repeat (first | with_reducible exact Below.refl _ _ | with_reducible assumption | with_reducible refine bdraw ?_ | with_reducible refine bdrewN ?_ _ | with_reducible refine balloc ?_ _ | with_reducible refine bset ?_ (by simp <;> omega) | with_reducible refine bstep ?_ (by assumption) | with_reducible refine btrans ?_ (by assumption)))) (Nat.le_refl _)) (a := mk f t x) ⟨_, _, rfl, (hsl.below (by (repeat (first | with_reducible exact Below.refl _ _ | with_reducible assumption | with_reducible refine bdraw ?_ | with_reducible refine bdrewN ?_ _ | with_reducible refine balloc ?_ _ | with_reducible refine bset ?_ (by simp <;> omega) | with_reducible refine bstep ?_ (by assumption) | with_reducible refine btrans ?_ (by assumption)))) (Nat.le_refl _)), (hsl2.below (by (repeat (first | with_reducible exact Below.refl _ _ | with_reducible assumption | with_reducible refine bdraw ?_ | with_reducible refine bdrewN ?_ _ | with_reducible refine balloc ?_ _ | with_reducible refine bset ?_ (by simp <;> omega) | with_reducible refine bstep ?_ (by assumption) | with_reducible refine btrans ?_ (by assumption)))) (Nat.le_refl _))⟩ (new_cells w4 [.int .i64 f, .int .i64 t, .slice A1 x.length c1', .slice A2 x.length c2'] 35) rfl rfl (by have := hll_.out; unfold maxLen; omega) (by have := hll_.out; omega) (by have := hbr.size; simp; omega) ?_; intro v5 w5 hown5 hb5 _ _)
      go_roundw
      case rel => exact ⟨k + 1, by omega, by go_num, by rw [HS0_.out]; exact hown5, by (repeat (first | with_reducible exact Below.refl _ _ | with_reducible assumption | with_reducible refine bdraw ?_ | with_reducible refine bdrewN ?_ _ | with_reducible refine balloc ?_ _ | with_reducible refine bset ?_ (by simp <;> omega) | with_reducible refine bstep ?_ (by assumption) | with_reducible refine btrans ?_ (by assumption)))⟩
      case measure => simp [intOf]; omega
    · have hkl := Lib.hid (show k = list.length by omega)
      go_wp2
      go_ret2
      rw [HV.out.1, HV.out.2]
      have e := hkl.out
      subst e
      rw [List.take_length] at hown
      exact ⟨_, rfl, hown, hbr⟩

set_option maxHeartbeats 4000000 in
theorem rsend_c {S S' : Foot} {v u : Value} {l : List Pk} {f t : Int} {list : List (List UInt8)} {w : World} (hp : Sl pkE S w v l) (hq : Sl (slE u8E) S' w u list) (hf : Fit l) (hg : ∀ b ∈ list, b.length ≤ 140737488355328) (hn : list.length ≤ 140737488355328) :
    Calls Try.prog 10 #[v, .int .i64 f, .int .i64 t, u] w fun e w' => ∃ v', e = .returned (.tuple #[v', .int .i64 (sendE l f t list)]) ∧ Own pkE (HiN w.heap.size v'.ownBlock) w' w.heap.size 35 v' (sends l f t list) ∧ Below w.heap.size w w' := by
  obtain ⟨i0, hi, hz0, hz1, hz2⟩ := info_parts pk_info
  obtain ⟨A, cap, rfl, hc1, hc2, _⟩ := hp.shape
  obtain ⟨A', cap', rfl, hc3, hc4, _⟩ := hq.shape
  unfold maxLen at hc2 hc4
  have HF := Lib.hid (rformed_c hp)
  have HR := fun (w' : World) => Lib.hid (ends_c f t w')
  have hll : formedB l = true → l.length ≤ 4096 := formedB_len
  have hl := Lib.hid hll
  clear hll
  cases hF : formedB l
  · have HV := Lib.hid (show sends l f t list = [] ∧ sendE l f t list = 1 by unfold sends sendE; simp [hF])
    rw [hF] at HF
    clear hF hl
    go_enter Try.func10, Try.ntmps10
    go_wp2_with (go_at_call 13; refine HF.out.mono ?_; rintro e w1 ⟨rfl, b1⟩)
    go_ret2
    rw [HV.out.1, HV.out.2]
    exact ⟨_, rfl, Own.nil, b1⟩
  have h4 := hl.out hF
  cases hE : endsB f t
  · have HV := Lib.hid (show sends l f t list = [] ∧ sendE l f t list = 1 by unfold sends sendE; simp [hE])
    rw [hF] at HF
    rw [hE] at HR
    clear hF hl hE
    go_enter Try.func10, Try.ntmps10
    go_wp2_with (first
      | (go_at_call 13; refine HF.out.mono ?_; rintro e w1 ⟨rfl, b1⟩)
      | (go_at_call 25; refine (HR _).out.mono ?_; rintro e w2 ⟨rfl, rfl⟩))
    go_ret2
    rw [HV.out.1, HV.out.2]
    exact ⟨_, rfl, Own.nil, by (repeat (first | with_reducible exact Below.refl _ _ | with_reducible assumption | with_reducible refine bdraw ?_ | with_reducible refine bdrewN ?_ _ | with_reducible refine balloc ?_ _ | with_reducible refine bset ?_ (by simp <;> omega) | with_reducible refine bstep ?_ (by assumption) | with_reducible refine btrans ?_ (by assumption)))⟩
  by_cases hN : l.length + list.length ≤ 4096
  rotate_left
  · have HV := Lib.hid (show sends l f t list = [] ∧ sendE l f t list = 15 by unfold sends sendE; simp [hF, hE, hN])
    have d1 : decide (4096 - (l.length : Int) < (list.length : Int)) = true := decide_eq_true (by omega)
    rw [hF] at HF
    rw [hE] at HR
    clear hF hl hE
    go_enter Try.func10, Try.ntmps10
    go_wp2_with (first
      | (go_at_call 13; refine HF.out.mono ?_; rintro e w1 ⟨rfl, b1⟩)
      | (go_at_call 25; refine (HR _).out.mono ?_; rintro e w2 ⟨rfl, rfl⟩))
    go_ret2
    rw [HV.out.1, HV.out.2]
    exact ⟨_, rfl, Own.nil, by (repeat (first | with_reducible exact Below.refl _ _ | with_reducible assumption | with_reducible refine bdraw ?_ | with_reducible refine bdrewN ?_ _ | with_reducible refine balloc ?_ _ | with_reducible refine bset ?_ (by simp <;> omega) | with_reducible refine bstep ?_ (by assumption) | with_reducible refine btrans ?_ (by assumption)))⟩
  have HV := Lib.hid (show sends l f t list = l ++ list.map (mk f t) ∧ sendE l f t list = 0 by unfold sends sendE; simp [hF, hE, hN])
  have d1 : decide (4096 - (l.length : Int) < (list.length : Int)) = false := decide_eq_false (by omega)
  rw [hF] at HF
  rw [hE] at HR
  clear hF hl hE
  go_enter Try.func10, Try.ntmps10
  go_wp2_with (first
    | (go_at_call 13; refine HF.out.mono ?_; rintro e w1 ⟨rfl, b1⟩)
    | (go_at_call 25; refine (HR _).out.mono ?_; rintro e w2 ⟨rfl, rfl⟩))
  refine (rcopied_c (hp.below (by (repeat (first | with_reducible exact Below.refl _ _ | with_reducible assumption | with_reducible refine bdraw ?_ | with_reducible refine bdrewN ?_ _ | with_reducible refine balloc ?_ _ | with_reducible refine bset ?_ (by simp <;> omega) | with_reducible refine bstep ?_ (by assumption) | with_reducible refine btrans ?_ (by assumption)))) (Nat.le_refl _)) (by omega) hf).mono ?_
  rintro e w3 ⟨v3, rfl, o3, b3⟩
  go_wp2
  have hb3 : Below w.heap.size w w3 := by (repeat (first | with_reducible exact Below.refl _ _ | with_reducible assumption | with_reducible refine bdraw ?_ | with_reducible refine bdrewN ?_ _ | with_reducible refine balloc ?_ _ | with_reducible refine bset ?_ (by simp <;> omega) | with_reducible refine bstep ?_ (by assumption) | with_reducible refine btrans ?_ (by assumption)))
  have o3 := o3.low (b0 := w.heap.size) (by have := b1.size; omega)
  go_loopw [10, 11] (fun v i wr => ∃ k : Nat, k ≤ list.length ∧ i = .int .i64 k ∧ Own pkE (HiN w.heap.size v.ownBlock) wr w.heap.size 35 v (l ++ (list.take k).map (mk f t)) ∧ Below w.heap.size w wr) (fun _ i _ => list.length - (intOf i).toNat)
  case atStart => exact ⟨0, Nat.zero_le _, rfl, by simpa using o3, hb3⟩
  case round =>
    obtain ⟨k, hk, rfl, hown, hbr⟩ := hrel
    by_cases hlt : k < list.length
    · obtain ⟨b, off, x0, rfl, a0, hs⟩ := (hq.below (by (repeat (first | with_reducible exact Below.refl _ _ | with_reducible assumption | with_reducible refine bdraw ?_ | with_reducible refine bdrewN ?_ _ | with_reducible refine balloc ?_ _ | with_reducible refine bset ?_ (by simp <;> omega) | with_reducible refine bstep ?_ (by assumption) | with_reducible refine btrans ?_ (by assumption)))) (Nat.le_refl _)).elem hlt
      obtain ⟨As, cs, rfl, _⟩ := hs.shape
      have hx := hg _ (List.getElem_mem hlt)
      have HS0 : l ++ (list.take (k + 1)).map (mk f t) = (l ++ (list.take k).map (mk f t)) ++ [mk f t list[k]] := by rw [List.take_succ_eq_append_getElem hlt, List.map_append, List.append_assoc]; rfl
      have hll : (l ++ (list.take k).map (mk f t)).length ≤ 4096 := by simp; omega
      have c0 := atb a0 (w' := wr) (by (repeat (first | with_reducible exact Below.refl _ _ | with_reducible assumption | with_reducible refine bdraw ?_ | with_reducible refine bdrewN ?_ _ | with_reducible refine balloc ?_ _ | with_reducible refine bset ?_ (by simp <;> omega) | with_reducible refine bstep ?_ (by assumption) | with_reducible refine btrans ?_ (by assumption))))
      generalize list[k] = x at *
      generalize l ++ (list.take k).map (mk f t) = m at *
      have hll_ := Lib.hid hll; clear hll; have HS0_ := Lib.hid HS0; clear HS0
      have hlt1 := hown.lt
      have i1 : (k : Int) < (list.length : Int) := by omega
      have i2 : (0 : Int) ≤ (k : Int) := by omega
      have tok1 : True := trivial
      go_wp2_with fail
      go_region_held3 (fun w' => w'.cell? ⟨b, off + k, none⟩ = some (.slice As x.length cs))
        (first | go_keep | exact atb a0 (by (repeat (first | with_reducible exact Below.refl _ _ | with_reducible assumption | with_reducible refine bdraw ?_ | with_reducible refine bdrewN ?_ _ | with_reducible refine balloc ?_ _ | with_reducible refine bset ?_ (by simp <;> omega) | with_reducible refine bstep ?_ (by assumption) | with_reducible refine btrans ?_ (by assumption)))))
        (first
          | (go_at_call 21; have tok2 := tok1; clear tok1 tok2; go_must (refine (copy_c (hs.below (by (repeat (first | with_reducible exact Below.refl _ _ | with_reducible assumption | with_reducible refine bdraw ?_ | with_reducible refine bdrewN ?_ _ | with_reducible refine balloc ?_ _ | with_reducible refine bset ?_ (by simp <;> omega) | with_reducible refine bstep ?_ (by assumption) | with_reducible refine btrans ?_ (by assumption)))) (Nat.le_refl _)) hx).mono ?_; rintro e w4 ⟨v4, rfl, o4, b4⟩; have z4 := b4.size; (try simp at z4); obtain ⟨A4, c4', rfl, _⟩ := o4.slAny.shape; have hsl4 := o4.beside (B := w.heap.size) (by have := hbr.size; (first | omega | (simp; done) | (simp; omega) | (simp at *; omega))) (fun g hg => by have := (hlt1 g hg).2; (first | omega | (simp; done) | (simp; omega) | (simp at *; omega)))))
          | (go_at_call 21; go_must (refine (copy_c (hs.below (by (repeat (first | with_reducible exact Below.refl _ _ | with_reducible assumption | with_reducible refine bdraw ?_ | with_reducible refine bdrewN ?_ _ | with_reducible refine balloc ?_ _ | with_reducible refine bset ?_ (by simp <;> omega) | with_reducible refine bstep ?_ (by assumption) | with_reducible refine btrans ?_ (by assumption)))) (Nat.le_refl _)) hx).mono ?_; rintro e w5 ⟨v5, rfl, o5, b5⟩; have z5 := b5.size; (try simp at z5); obtain ⟨A5, c5', rfl, _⟩ := o5.slAny.shape; have hsl5 := o5.beside (B := w.heap.size) (by have := hbr.size; (first | omega | (simp; done) | (simp; omega) | (simp at *; omega))) (fun g hg => by have := (hlt1 g hg).2; (first | omega | (simp; done) | (simp; omega) | (simp at *; omega)))))
          | (refine step_append_one _ (by rfl) (.tmp 35) (.tmp 49) 22 (by rfl) (E := pkE) (base := w.heap.size) Try.underlying22 hi hz0 hz1 hz2 rfl (hown.below (by (repeat (first | with_reducible exact Below.refl _ _ | with_reducible assumption | with_reducible refine bdraw ?_ | with_reducible refine bdrewN ?_ _ | with_reducible refine balloc ?_ _ | with_reducible refine bset ?_ (by simp <;> omega) | with_reducible refine bstep ?_ (by assumption) | with_reducible refine btrans ?_ (by assumption)))) (Nat.le_refl _)) (a := mk f t x) ⟨_, _, rfl, (hsl4.below (by (repeat (first | with_reducible exact Below.refl _ _ | with_reducible assumption | with_reducible refine bdraw ?_ | with_reducible refine bdrewN ?_ _ | with_reducible refine balloc ?_ _ | with_reducible refine bset ?_ (by simp <;> omega) | with_reducible refine bstep ?_ (by assumption) | with_reducible refine btrans ?_ (by assumption)))) (Nat.le_refl _)), (hsl5.below (by (repeat (first | with_reducible exact Below.refl _ _ | with_reducible assumption | with_reducible refine bdraw ?_ | with_reducible refine bdrewN ?_ _ | with_reducible refine balloc ?_ _ | with_reducible refine bset ?_ (by simp <;> omega) | with_reducible refine bstep ?_ (by assumption) | with_reducible refine btrans ?_ (by assumption)))) (Nat.le_refl _))⟩ (new_cells w5 [.int .i64 f, .int .i64 t, .slice A4 x.length c4', .slice A5 x.length c5'] 35) (by rfl) (by rfl) (by have := hll_.out; unfold maxLen; omega) (by have := hll_.out; omega) (by have := hbr.size; simp; omega) ?_; intro v6 w6 hown6 hb6 hbl6 hg6))
      all_goals
        go_wp2
        go_roundw
        case rel => exact ⟨k + 1, by omega, by go_num, by rw [HS0_.out]; exact hown6, by (repeat (first | with_reducible exact Below.refl _ _ | with_reducible assumption | with_reducible refine bdraw ?_ | with_reducible refine bdrewN ?_ _ | with_reducible refine balloc ?_ _ | with_reducible refine bset ?_ (by simp <;> omega) | with_reducible refine bstep ?_ (by assumption) | with_reducible refine btrans ?_ (by assumption)))⟩
        case measure => simp [intOf]; omega
    · have hkl := Lib.hid (show k = list.length by omega)
      go_wp2
      go_ret2
      rw [HV.out.1, HV.out.2]
      have e := hkl.out
      subst e
      rw [List.take_length] at hown
      exact ⟨_, rfl, hown, hbr⟩
end Go.Proofs.Ytggmhhbhpmfcnaa
