/- NetOneByte, walked. -/
import Derived.Test.YtggmhhbhpmfcnaaPba
import Derived.BigQuiet
namespace Go.Proofs.Ytggmhhbhpmfcnaa
open Go.RowKit

structure Ft where
  kind : Int
  i : Int
  k : Int
  turn : UInt8
  deriving Inhabited
def ftE : Enc Ft := flatE 4 (by omega) (fun x => [.int .i64 x.kind, .int .i64 x.i, .int .i64 x.k, .int .u8 (x.turn.toNat : Int)]) (by simp) (by simp [Value.oneCell'])
theorem Sl.ft {S : Foot} {w : World} {A : Option Addr} {n cap : Nat} {l : List Ft} (h : Sl ftE S w (.slice A n cap) l) {i : Nat} (hi : i < l.length) :
    ∃ b off, A = some ⟨b, off, none⟩ ∧ At S w b (off + i * 4) (.int .i64 l[i].kind) ∧ At S w b (off + i * 4 + 1) (.int .i64 l[i].i) ∧ At S w b (off + i * 4 + 2) (.int .i64 l[i].k) ∧ At S w b (off + i * 4 + 3) (.int .u8 (l[i].turn.toNat : Int)) := by
  obtain ⟨_, _, _, _, hc⟩ := h.cells
  obtain ⟨b, off, cs, e, hrd, _, hat⟩ := hc i _ (List.getElem?_eq_getElem hi)
  have hrd' : cs = [.int .i64 l[i].kind, .int .i64 l[i].i, .int .i64 l[i].k, .int .u8 (l[i].turn.toNat : Int)] := hrd
  subst hrd'
  exact ⟨b, off, e, hat 0 _ rfl, hat 1 _ rfl, hat 2 _ rfl, hat 3 _ rfl⟩

def slen : Value → Nat
  | .slice _ m _ => m
  | _ => 0
/-- was it sent so? -/
def Match (list : List (List UInt8)) (p : Pk) (i : Nat) : Prop := ∃ h : i < list.length, p.f = ((i % 3 : Nat) : Int) ∧ p.t = ((3 + i % 2 : Nat) : Int) ∧ p.s = list[i]

set_option maxRecDepth 100000 in
set_option maxHeartbeats 8000000 in
theorem netonebyte_c {S S' : Foot} {v u : Value} {list : List (List UInt8)} {fates : List Ft} {w : World} (hp : Sl (slE u8E) S w v list) (hq : Sl ftE S' w u fates) (hg : ∀ b ∈ list, b.length ≤ 140737488355328) :
    Calls Try.prog 6 #[v, u] w fun e w' => e = .returned (.bool true) ∧ Below w.heap.size w w' := by
  have hp := hp.any
  have hq := hq.any
  obtain ⟨A, cap, rfl, hc1, hc2, _⟩ := hp.shape
  obtain ⟨A', cap', rfl, hc3, hc4, _⟩ := hq.shape
  unfold maxLen at hc2 hc4
  go_enter Try.func6, Try.ntmps6
  go_wp2_with fail
  refine (alive_c (w := _)).mono ?_
  rintro e w1 ⟨rfl, b1⟩
  by_cases h20 : list.length ≤ 20
  rotate_left
  · have d1 : decide ((20 : Int) < (list.length : Int)) = true := decide_eq_true (by omega)
    have d2 : decide (20 < list.length) = true := decide_eq_true (by omega)
    go_wp2
    go_ret
    exact ⟨rfl, b1⟩
  have d1 : decide ((20 : Int) < (list.length : Int)) = false := decide_eq_false (by omega)
  have d2 : decide (20 < list.length) = false := decide_eq_false (by omega)
  by_cases h200 : fates.length ≤ 200
  rotate_left
  · have d3 : decide ((200 : Int) < (fates.length : Int)) = true := decide_eq_true (by omega)
    have d4 : decide (200 < fates.length) = true := decide_eq_true (by omega)
    go_wp2
    go_ret
    exact ⟨rfl, b1⟩
  have d3 : decide ((200 : Int) < (fates.length : Int)) = false := decide_eq_false (by omega)
  have d4 : decide (200 < fates.length) = false := decide_eq_false (by omega)
  go_wp2
  go_loopw [5, 6, 7, 8] (fun lv i _ _ wr => ∃ (k : Nat) (l : List Pk), k ≤ list.length ∧ i = .int .i64 k ∧ Sl pkE Any wr lv l ∧ Hid (Good list l k) ∧ Below w.heap.size w wr) (fun _ i _ _ _ => list.length - (intOf i).toNat)
  case atStart => exact ⟨0, [], Nat.zero_le _, rfl, Sl.nil, Lib.hid Good.nil, b1⟩
  case round =>
    obtain ⟨k, l, hk, rfl, hl, HG, hbr⟩ := hrel
    by_cases hlt : k < list.length
    · obtain ⟨b, off, x0, rfl, a0, hs⟩ := (hp.below (by (repeat (first | with_reducible exact Below.refl _ _ | with_reducible assumption | with_reducible refine bdraw ?_ | with_reducible refine bdrewN ?_ _ | with_reducible refine balloc ?_ _ | with_reducible refine bset ?_ (by simp <;> omega) | with_reducible refine bstep ?_ (by assumption) | with_reducible refine btrans ?_ (by assumption)))) (Nat.le_refl _)).elem hlt
      obtain ⟨A0, c0, rfl, _⟩ := hs.shape
      have HS := Lib.hid (fun (f t : Int) (hf : f = ((k % 3 : Nat) : Int)) (ht : t = ((3 + k % 2 : Nat) : Int)) => good_send HG.out hlt (by omega) hf ht)
      have HF := Lib.hid (HG.out.fit hg)
      have hx := hg _ (List.getElem_mem hlt)
      have cc0 := atb a0 (w' := wr) (by (repeat (first | with_reducible exact Below.refl _ _ | with_reducible assumption | with_reducible refine bdraw ?_ | with_reducible refine bdrewN ?_ _ | with_reducible refine balloc ?_ _ | with_reducible refine bset ?_ (by simp <;> omega) | with_reducible refine bstep ?_ (by assumption) | with_reducible refine btrans ?_ (by assumption))))
      generalize list[k] = x at *
      have hone := sl_one (w := wr) (t := 33) (c := 1) (hs.below (by (repeat (first | with_reducible exact Below.refl _ _ | with_reducible assumption | with_reducible refine bdraw ?_ | with_reducible refine bdrewN ?_ _ | with_reducible refine balloc ?_ _ | with_reducible refine bset ?_ (by simp <;> omega) | with_reducible refine bstep ?_ (by assumption) | with_reducible refine btrans ?_ (by assumption)))) (Nat.le_refl _)) (by omega) (by omega)
      have HS2 := Lib.hid (HS.out ((k : Int) % 3) (3 + (k : Int) % 2) (by omega) (by omega))
      have HT := Lib.hid (send_c (f := (k : Int) % 3) (t := 3 + (k : Int) % 2) (salloc hl (.cells #[.slice A0 x.length c0] 33)) hone HF.out (by intro b hb; rw [List.mem_singleton] at hb; rw [hb]; exact hx) (by simp))
      rw [HS2.out.1] at HT
      clear a0 hone
      go_wp2_with fail
      refine HT.out.mono ?_
      rintro e w3 ⟨v3, rfl, o3, b3⟩
      clear HT
      go_wp2
      go_roundw
      case rel => exact ⟨k + 1, _, by omega, by go_num, o3.slAny, Lib.hid HS2.out.2, by (repeat (first | with_reducible exact Below.refl _ _ | with_reducible assumption | with_reducible refine bdraw ?_ | with_reducible refine bdrewN ?_ _ | with_reducible refine balloc ?_ _ | with_reducible refine bset ?_ (by simp <;> omega) | with_reducible refine bstep ?_ (by assumption) | with_reducible refine btrans ?_ (by assumption)))⟩
      case measure => simp [intOf]; omega
    · have HG1 := Lib.hid (HG.out.mono (show k ≤ 20 by omega))
      generalize hwz : wr = wz at *
      clear hwz
      go_wp2
      clear hk hlt HG
      go_loopw [5, 9, 10, 11] (fun lv i _ _ ws => ∃ (k : Nat) (l : List Pk), k ≤ fates.length ∧ i = .int .i64 k ∧ Sl pkE Any ws lv l ∧ Hid (Good list l (20 + k)) ∧ Below w.heap.size w ws) (fun _ i _ _ _ => fates.length - (intOf i).toNat)
      case atStart => exact ⟨0, l, Nat.zero_le _, rfl, hl, Lib.hid HG1.out, hbr⟩
      case round =>
        obtain ⟨k, l, hk, rfl, hl, HG, hbr⟩ := hrel
        by_cases hlt : k < fates.length
        · obtain ⟨b, off, rfl, a0, a1, a2, a3⟩ := (hq.below (by (repeat (first | with_reducible exact Below.refl _ _ | with_reducible assumption | with_reducible refine bdraw ?_ | with_reducible refine bdrewN ?_ _ | with_reducible refine balloc ?_ _ | with_reducible refine bset ?_ (by simp <;> omega) | with_reducible refine bstep ?_ (by assumption) | with_reducible refine btrans ?_ (by assumption)))) (Nat.le_refl _)).ft hlt
          have HF := Lib.hid (HG.out.fit hg)
          have HC := Lib.hid (good_copy HG.out (by omega))
          have HR := Lib.hid (good_rest HG.out)
          have HP := Lib.hid (good_spoil HG.out)
          have i1 : (k : Int) < (fates.length : Int) := by omega
          have i2 : (0 : Int) ≤ (k : Int) := by omega
          generalize fates[k] = x at *
          have c0 := atb a0 (w' := wr) (by (repeat (first | with_reducible exact Below.refl _ _ | with_reducible assumption | with_reducible refine bdraw ?_ | with_reducible refine bdrewN ?_ _ | with_reducible refine balloc ?_ _ | with_reducible refine bset ?_ (by simp <;> omega) | with_reducible refine bstep ?_ (by assumption) | with_reducible refine btrans ?_ (by assumption)))); have c1 := atb a1 (w' := wr) (by (repeat (first | with_reducible exact Below.refl _ _ | with_reducible assumption | with_reducible refine bdraw ?_ | with_reducible refine bdrewN ?_ _ | with_reducible refine balloc ?_ _ | with_reducible refine bset ?_ (by simp <;> omega) | with_reducible refine bstep ?_ (by assumption) | with_reducible refine btrans ?_ (by assumption)))); have c2 := atb a2 (w' := wr) (by (repeat (first | with_reducible exact Below.refl _ _ | with_reducible assumption | with_reducible refine bdraw ?_ | with_reducible refine bdrewN ?_ _ | with_reducible refine balloc ?_ _ | with_reducible refine bset ?_ (by simp <;> omega) | with_reducible refine bstep ?_ (by assumption) | with_reducible refine btrans ?_ (by assumption)))); have c3 := atb a3 (w' := wr) (by (repeat (first | with_reducible exact Below.refl _ _ | with_reducible assumption | with_reducible refine bdraw ?_ | with_reducible refine bdrewN ?_ _ | with_reducible refine balloc ?_ _ | with_reducible refine bset ?_ (by simp <;> omega) | with_reducible refine bstep ?_ (by assumption) | with_reducible refine btrans ?_ (by assumption))))
          go_wp2_with fail
          · clear c0 c1 c2 c3
            refine (copy_pk_c (i := x.i) hl HF.out).mono ?_
            rintro e w3 ⟨v3, rfl, o3, b3⟩
            rcases HC.out x.i with ⟨h1, h2⟩ | h1 | h1
            · rw [h1]
              go_wp2
              go_roundw
              case rel => exact ⟨k + 1, _, by omega, by go_num, o3.slAny, Lib.hid (h2.mono (by omega)), by (repeat (first | with_reducible exact Below.refl _ _ | with_reducible assumption | with_reducible refine bdraw ?_ | with_reducible refine bdrewN ?_ _ | with_reducible refine balloc ?_ _ | with_reducible refine bset ?_ (by simp <;> omega) | with_reducible refine bstep ?_ (by assumption) | with_reducible refine btrans ?_ (by assumption)))⟩
              case measure => simp [intOf]; omega
            · rw [h1]
              go_wp2
              go_roundw
              case rel => exact ⟨k + 1, _, by omega, by go_num, (hl.below (by (repeat (first | with_reducible exact Below.refl _ _ | with_reducible assumption | with_reducible refine bdraw ?_ | with_reducible refine bdrewN ?_ _ | with_reducible refine balloc ?_ _ | with_reducible refine bset ?_ (by simp <;> omega) | with_reducible refine bstep ?_ (by assumption) | with_reducible refine btrans ?_ (by assumption)))) (Nat.le_refl _)), Lib.hid (HG.out.mono (by omega)), by (repeat (first | with_reducible exact Below.refl _ _ | with_reducible assumption | with_reducible refine bdraw ?_ | with_reducible refine bdrewN ?_ _ | with_reducible refine balloc ?_ _ | with_reducible refine bset ?_ (by simp <;> omega) | with_reducible refine bstep ?_ (by assumption) | with_reducible refine btrans ?_ (by assumption)))⟩
              case measure => simp [intOf]; omega
            · rw [h1]
              go_wp2
              go_roundw
              case rel => exact ⟨k + 1, _, by omega, by go_num, (hl.below (by (repeat (first | with_reducible exact Below.refl _ _ | with_reducible assumption | with_reducible refine bdraw ?_ | with_reducible refine bdrewN ?_ _ | with_reducible refine balloc ?_ _ | with_reducible refine bset ?_ (by simp <;> omega) | with_reducible refine bstep ?_ (by assumption) | with_reducible refine btrans ?_ (by assumption)))) (Nat.le_refl _)), Lib.hid (HG.out.mono (by omega)), by (repeat (first | with_reducible exact Below.refl _ _ | with_reducible assumption | with_reducible refine bdraw ?_ | with_reducible refine bdrewN ?_ _ | with_reducible refine balloc ?_ _ | with_reducible refine bset ?_ (by simp <;> omega) | with_reducible refine bstep ?_ (by assumption) | with_reducible refine btrans ?_ (by assumption)))⟩
              case measure => simp [intOf]; omega
          · clear c0 c1 c2 c3
            refine (drop_c (i := x.i) hl HF.out).mono ?_
            rintro e w3 ⟨v3, rfl, o3, b3⟩
            have h2 := HR.out x.i
            rcases atE_or l x.i with h1 | h1 | h1
            · rw [h1]
              go_wp2
              go_roundw
              case rel => exact ⟨k + 1, _, by omega, by go_num, o3.slAny, Lib.hid (h2.mono (by omega)), by (repeat (first | with_reducible exact Below.refl _ _ | with_reducible assumption | with_reducible refine bdraw ?_ | with_reducible refine bdrewN ?_ _ | with_reducible refine balloc ?_ _ | with_reducible refine bset ?_ (by simp <;> omega) | with_reducible refine bstep ?_ (by assumption) | with_reducible refine btrans ?_ (by assumption)))⟩
              case measure => simp [intOf]; omega
            · rw [h1]
              go_wp2
              go_roundw
              case rel => exact ⟨k + 1, _, by omega, by go_num, (hl.below (by (repeat (first | with_reducible exact Below.refl _ _ | with_reducible assumption | with_reducible refine bdraw ?_ | with_reducible refine bdrewN ?_ _ | with_reducible refine balloc ?_ _ | with_reducible refine bset ?_ (by simp <;> omega) | with_reducible refine bstep ?_ (by assumption) | with_reducible refine btrans ?_ (by assumption)))) (Nat.le_refl _)), Lib.hid (HG.out.mono (by omega)), by (repeat (first | with_reducible exact Below.refl _ _ | with_reducible assumption | with_reducible refine bdraw ?_ | with_reducible refine bdrewN ?_ _ | with_reducible refine balloc ?_ _ | with_reducible refine bset ?_ (by simp <;> omega) | with_reducible refine bstep ?_ (by assumption) | with_reducible refine btrans ?_ (by assumption)))⟩
              case measure => simp [intOf]; omega
            · rw [h1]
              go_wp2
              go_roundw
              case rel => exact ⟨k + 1, _, by omega, by go_num, (hl.below (by (repeat (first | with_reducible exact Below.refl _ _ | with_reducible assumption | with_reducible refine bdraw ?_ | with_reducible refine bdrewN ?_ _ | with_reducible refine balloc ?_ _ | with_reducible refine bset ?_ (by simp <;> omega) | with_reducible refine bstep ?_ (by assumption) | with_reducible refine btrans ?_ (by assumption)))) (Nat.le_refl _)), Lib.hid (HG.out.mono (by omega)), by (repeat (first | with_reducible exact Below.refl _ _ | with_reducible assumption | with_reducible refine bdraw ?_ | with_reducible refine bdrewN ?_ _ | with_reducible refine balloc ?_ _ | with_reducible refine bset ?_ (by simp <;> omega) | with_reducible refine bstep ?_ (by assumption) | with_reducible refine btrans ?_ (by assumption)))⟩
              case measure => simp [intOf]; omega
          · have hwr : IntKind.i64.wrap (x.turn.toNat : Int) = (x.turn.toNat : Int) := IntWalk.i64_in _ (by have := x.turn.toNat_lt; omega)
            go_region_held3 (fun w' => w'.cell? ⟨b, off + k * 4 + 1, none⟩ = some (.int .i64 x.i) ∧ w'.cell? ⟨b, off + k * 4 + 2, none⟩ = some (.int .i64 x.k) ∧ w'.cell? ⟨b, off + k * 4 + 3, none⟩ = some (.int .u8 (x.turn.toNat : Int)))
              (first | go_keep | (refine ⟨?_, ?_, ?_⟩ <;> (first | assumption | exact atb a1 (by (repeat (first | with_reducible exact Below.refl _ _ | with_reducible assumption | with_reducible refine bdraw ?_ | with_reducible refine bdrewN ?_ _ | with_reducible refine balloc ?_ _ | with_reducible refine bset ?_ (by simp <;> omega) | with_reducible refine bstep ?_ (by assumption) | with_reducible refine btrans ?_ (by assumption)))) | exact atb a2 (by (repeat (first | with_reducible exact Below.refl _ _ | with_reducible assumption | with_reducible refine bdraw ?_ | with_reducible refine bdrewN ?_ _ | with_reducible refine balloc ?_ _ | with_reducible refine bset ?_ (by simp <;> omega) | with_reducible refine bstep ?_ (by assumption) | with_reducible refine btrans ?_ (by assumption)))) | exact atb a3 (by (repeat (first | with_reducible exact Below.refl _ _ | with_reducible assumption | with_reducible refine bdraw ?_ | with_reducible refine bdrewN ?_ _ | with_reducible refine balloc ?_ _ | with_reducible refine bset ?_ (by simp <;> omega) | with_reducible refine bstep ?_ (by assumption) | with_reducible refine btrans ?_ (by assumption)))))))
              (first
                | (go_at_call 16; go_must ((with_reducible refine (spoil_c (i := x.i) (k := x.k) (t := (x.turn.toNat : Int)) (hl.below (by (repeat (first | with_reducible exact Below.refl _ _ | with_reducible assumption | with_reducible refine bdraw ?_ | with_reducible refine bdrewN ?_ _ | with_reducible refine balloc ?_ _ | with_reducible refine bset ?_ (by simp <;> omega) | with_reducible refine bstep ?_ (by assumption) | with_reducible refine btrans ?_ (by assumption)))) (Nat.le_refl _)) HF.out).mono ?_); rintro e w3 ⟨v3, rfl, o3, b3⟩))
                | fail)
            rcases HP.out x.i x.k (x.turn.toNat : Int) with ⟨h1, h2⟩ | h1 | h1
            · rw [h1]
              go_wp2
              go_roundw
              case rel => exact ⟨k + 1, _, by omega, by go_num, o3.slAny, Lib.hid (h2.mono (by omega)), by (repeat (first | with_reducible exact Below.refl _ _ | with_reducible assumption | with_reducible refine bdraw ?_ | with_reducible refine bdrewN ?_ _ | with_reducible refine balloc ?_ _ | with_reducible refine bset ?_ (by simp <;> omega) | with_reducible refine bstep ?_ (by assumption) | with_reducible refine btrans ?_ (by assumption)))⟩
              case measure => simp [intOf]; omega
            · rw [h1]
              go_wp2
              go_roundw
              case rel => exact ⟨k + 1, _, by omega, by go_num, (hl.below (by (repeat (first | with_reducible exact Below.refl _ _ | with_reducible assumption | with_reducible refine bdraw ?_ | with_reducible refine bdrewN ?_ _ | with_reducible refine balloc ?_ _ | with_reducible refine bset ?_ (by simp <;> omega) | with_reducible refine bstep ?_ (by assumption) | with_reducible refine btrans ?_ (by assumption)))) (Nat.le_refl _)), Lib.hid (HG.out.mono (by omega)), by (repeat (first | with_reducible exact Below.refl _ _ | with_reducible assumption | with_reducible refine bdraw ?_ | with_reducible refine bdrewN ?_ _ | with_reducible refine balloc ?_ _ | with_reducible refine bset ?_ (by simp <;> omega) | with_reducible refine bstep ?_ (by assumption) | with_reducible refine btrans ?_ (by assumption)))⟩
              case measure => simp [intOf]; omega
            · rw [h1]
              go_wp2
              go_roundw
              case rel => exact ⟨k + 1, _, by omega, by go_num, (hl.below (by (repeat (first | with_reducible exact Below.refl _ _ | with_reducible assumption | with_reducible refine bdraw ?_ | with_reducible refine bdrewN ?_ _ | with_reducible refine balloc ?_ _ | with_reducible refine bset ?_ (by simp <;> omega) | with_reducible refine bstep ?_ (by assumption) | with_reducible refine btrans ?_ (by assumption)))) (Nat.le_refl _)), Lib.hid (HG.out.mono (by omega)), by (repeat (first | with_reducible exact Below.refl _ _ | with_reducible assumption | with_reducible refine bdraw ?_ | with_reducible refine bdrewN ?_ _ | with_reducible refine balloc ?_ _ | with_reducible refine bset ?_ (by simp <;> omega) | with_reducible refine bstep ?_ (by assumption) | with_reducible refine btrans ?_ (by assumption)))⟩
              case measure => simp [intOf]; omega
        · have HG2 := Lib.hid (HG.out.mono (show 20 + k ≤ 220 by omega))
          generalize hwy : wr = wy at *
          clear hwy
          go_wp2
          clear hk hlt HG HG1
          go_loopw [5, 12, 13, 14, 15, 16, 17, 18] (fun lv _ _ _ _ _ _ _ ws => ∃ l : List Pk, Sl pkE Any ws lv l ∧ Hid (Good list l 220) ∧ Below w.heap.size w ws) (fun lv _ _ _ _ _ _ _ _ => slen lv)
          case atStart => exact ⟨l, hl, Lib.hid HG2.out, hbr⟩
          case round =>
            obtain ⟨l, hl, HG, hbr⟩ := hrel
            obtain ⟨A5, c5, rfl, hd1, hd2, _⟩ := hl.shape
            unfold maxLen at hd2
            by_cases hlt : 0 < l.length
            · have hlen := HG.out.len
              have HL := Lib.hid (good_last HG.out (by omega) hlt (i := (l.length : Int) - 1) rfl)
              have HF := Lib.hid (HG.out.fit hg)
              have HT := Lib.hid (deliver_c (i := (l.length : Int) - 1) hl HF.out)
              rw [HL.out.1] at HT
              have hlI : (0 : Int) < (l.length : Int) := by omega
              generalize hwx : wr = wx at *
              clear hwx
              go_wp2_with fail
              refine HT.out.mono ?_
              rintro e w3 ⟨A1, c1, A2, c2, vl, rfl, t1, t2, o3, b3⟩
              have hs1 := t1.slAny
              have hs2 := t2.slAny
              have hr := o3.slAny
              obtain ⟨A7, c7, rfl, hf1, hf2, _⟩ := hr.shape
              have hrl := HL.out.2.1
              have HR := Lib.hid HL.out.2.2.1
              have HP := Lib.hid HL.out.2.2.2
              clear HT HL t1 t2 o3
              generalize rest l ((l.length : Int) - 1) = r at *
              generalize dlv l ((l.length : Int) - 1) = p at *
              rw [hrl] at hr
              have HFM := Lib.hid (formed_c (salloc hr (.cells #[.int .i64 p.f, .int .i64 p.t, .slice A1 p.s.length c1, .slice A2 p.h.length c2] 35)))
              rw [HR.out.formed (by omega)] at HFM
              go_wp2_with (go_at_call 12; refine HFM.out.mono ?_; rintro e w4 ⟨rfl, b4⟩)
              have hpl := Lib.hid (right_parts HP.out.1).2.1
              have hmax := hs1.max
              have e0 := at_new (w := w3) (cs := #[.int .i64 p.f, .int .i64 p.t, .slice A1 p.s.length c1, .slice A2 p.h.length c2]) (t := 35) (i := 0) (v := .int .i64 p.f) rfl; have e1 := at_new (w := w3) (cs := #[.int .i64 p.f, .int .i64 p.t, .slice A1 p.s.length c1, .slice A2 p.h.length c2]) (t := 35) (i := 1) (v := .int .i64 p.t) rfl; have e2 := at_new (w := w3) (cs := #[.int .i64 p.f, .int .i64 p.t, .slice A1 p.s.length c1, .slice A2 p.h.length c2]) (t := 35) (i := 2) (v := .slice A1 p.s.length c1) rfl; have e3 := at_new (w := w3) (cs := #[.int .i64 p.f, .int .i64 p.t, .slice A1 p.s.length c1, .slice A2 p.h.length c2]) (t := 35) (i := 3) (v := .slice A2 p.h.length c2) rfl
              clear HFM
              go_loopw [15, 16] (fun bv i ws => ∃ (m : Nat) (bb : Bool), m ≤ list.length ∧ i = .int .i64 m ∧ bv = .bool bb ∧ Hid (∀ i, i < m → Match list p i → bb = true) ∧ Below w4.heap.size w4 ws) (fun _ i _ => list.length - (intOf i).toNat)
              case atStart => exact ⟨0, false, Nat.zero_le _, rfl, rfl, Lib.hid (fun i hi => absurd hi (by omega)), Below.refl _ _⟩
              case round =>
                obtain ⟨m, bb, hm, rfl, rfl, HM, hbs⟩ := hrel
                by_cases hlt2 : m < list.length
                · have HN := Lib.hid (fun (b' : Bool) (h1 : bb = true → b' = true) (h2 : Match list p m → b' = true) (i : Nat) (hi : i < m + 1) (hmt : Match list p i) => (by
                    rcases Nat.lt_or_ge i m with h | h
                    · exact h1 (HM.out i h hmt)
                    · have : i = m := by omega
                      subst this
                      exact h2 hmt : b' = true))
                  cases bb
                  · obtain ⟨b', off', x0, rfl, a0, hs⟩ := (hp.below (by (repeat (first | with_reducible exact Below.refl _ _ | with_reducible assumption | with_reducible refine bdraw ?_ | with_reducible refine bdrewN ?_ _ | with_reducible refine balloc ?_ _ | with_reducible refine bset ?_ (by simp <;> omega) | with_reducible refine bstep ?_ (by assumption) | with_reducible refine btrans ?_ (by assumption)))) (Nat.le_refl _)).elem hlt2
                    obtain ⟨A0, c0, rfl, _⟩ := hs.shape
                    have HE := Lib.hid (fun (h : Match list p m) => (⟨h.2.1, h.2.2.1, h.2.2.2⟩ : p.f = ((m % 3 : Nat) : Int) ∧ p.t = ((3 + m % 2 : Nat) : Int) ∧ p.s = list[m]))
                    generalize list[m] = x at *
                    have cc0 := atb a0 (w' := wr) (by (repeat (first | with_reducible exact Below.refl _ _ | with_reducible assumption | with_reducible refine bdraw ?_ | with_reducible refine bdrewN ?_ _ | with_reducible refine balloc ?_ _ | with_reducible refine bset ?_ (by simp <;> omega) | with_reducible refine bstep ?_ (by assumption) | with_reducible refine btrans ?_ (by assumption))))
                    have z0 := atb e0 (w' := wr) (by (repeat (first | with_reducible exact Below.refl _ _ | with_reducible assumption | with_reducible refine bdraw ?_ | with_reducible refine bdrewN ?_ _ | with_reducible refine balloc ?_ _ | with_reducible refine bset ?_ (by simp <;> omega) | with_reducible refine bstep ?_ (by assumption) | with_reducible refine btrans ?_ (by assumption)))); have z1 := atb e1 (w' := wr) (by (repeat (first | with_reducible exact Below.refl _ _ | with_reducible assumption | with_reducible refine bdraw ?_ | with_reducible refine bdrewN ?_ _ | with_reducible refine balloc ?_ _ | with_reducible refine bset ?_ (by simp <;> omega) | with_reducible refine bstep ?_ (by assumption) | with_reducible refine btrans ?_ (by assumption)))); have z2 := atb e2 (w' := wr) (by (repeat (first | with_reducible exact Below.refl _ _ | with_reducible assumption | with_reducible refine bdraw ?_ | with_reducible refine bdrewN ?_ _ | with_reducible refine balloc ?_ _ | with_reducible refine bset ?_ (by simp <;> omega) | with_reducible refine bstep ?_ (by assumption) | with_reducible refine btrans ?_ (by assumption)))); have z3 := atb e3 (w' := wr) (by (repeat (first | with_reducible exact Below.refl _ _ | with_reducible assumption | with_reducible refine bdraw ?_ | with_reducible refine bdrewN ?_ _ | with_reducible refine balloc ?_ _ | with_reducible refine bset ?_ (by simp <;> omega) | with_reducible refine bstep ?_ (by assumption) | with_reducible refine btrans ?_ (by assumption))))
                    have k1 := fun n => run_convert_sl (P := Try.prog) 33 9 5 Try.underlying33 Try.underlying5 Try.underlying9 (hs.below (w' := wr.drewN n) (by (repeat (first | with_reducible exact Below.refl _ _ | with_reducible assumption | with_reducible refine bdraw ?_ | with_reducible refine bdrewN ?_ _ | with_reducible refine balloc ?_ _ | with_reducible refine bset ?_ (by simp <;> omega) | with_reducible refine bstep ?_ (by assumption) | with_reducible refine btrans ?_ (by assumption)))) (Nat.le_refl _))
                    have k2 := fun n => run_convert_sl (P := Try.prog) 33 9 5 Try.underlying33 Try.underlying5 Try.underlying9 (hs1.below (w' := wr.drewN n) (by (repeat (first | with_reducible exact Below.refl _ _ | with_reducible assumption | with_reducible refine bdraw ?_ | with_reducible refine bdrewN ?_ _ | with_reducible refine balloc ?_ _ | with_reducible refine bset ?_ (by simp <;> omega) | with_reducible refine bstep ?_ (by assumption) | with_reducible refine btrans ?_ (by assumption)))) (Nat.le_refl _))
                    have i1 : (m : Int) < (list.length : Int) := by omega
                    have i2 : (0 : Int) ≤ (m : Int) := by omega
                    by_cases h1 : (m : Int) % 3 = p.f
                    · have d5 : ((m : Int) % 3 == p.f) = true := by simpa using h1
                      by_cases h2 : 3 + (m : Int) % 2 = p.t
                      · have d6 : (3 + (m : Int) % 2 == p.t) = true := by simpa using h2
                        clear h1 h2
                        go_wp2
                        go_quiet (fail)
                        go_wp2
                        go_roundw
                        case rel => exact ⟨m + 1, x == p.s, by omega, by go_num, rfl, Lib.hid (HN.out (x == p.s) (fun h => by cases h) (fun h => by rw [(HE.out h).2.2]; exact beq_self_eq_true _)), by (repeat (first | with_reducible exact Below.refl _ _ | with_reducible assumption | with_reducible refine bdraw ?_ | with_reducible refine bdrewN ?_ _ | with_reducible refine balloc ?_ _ | with_reducible refine bset ?_ (by simp <;> omega) | with_reducible refine bstep ?_ (by assumption) | with_reducible refine btrans ?_ (by assumption)))⟩
                        case measure => simp [intOf]; omega
                      · have d6 : (3 + (m : Int) % 2 == p.t) = false := by simpa using h2
                        have HX : Hid (¬ Match list p m) := fun h => h2 (by have := (HE.out h).2.1; omega)
                        clear h1 h2
                        go_wp2
                        go_quiet (fail)
                        go_wp2
                        go_roundw
                        case rel => exact ⟨m + 1, false, by omega, by go_num, rfl, Lib.hid (HN.out false (fun h => h) (fun h => absurd h HX.out)), by (repeat (first | with_reducible exact Below.refl _ _ | with_reducible assumption | with_reducible refine bdraw ?_ | with_reducible refine bdrewN ?_ _ | with_reducible refine balloc ?_ _ | with_reducible refine bset ?_ (by simp <;> omega) | with_reducible refine bstep ?_ (by assumption) | with_reducible refine btrans ?_ (by assumption)))⟩
                        case measure => simp [intOf]; omega
                    · have d5 : ((m : Int) % 3 == p.f) = false := by simpa using h1
                      have HX : Hid (¬ Match list p m) := fun h => h1 (by have := (HE.out h).1; omega)
                      clear h1
                      go_wp2
                      go_quiet (fail)
                      go_wp2
                      go_roundw
                      case rel => exact ⟨m + 1, false, by omega, by go_num, rfl, Lib.hid (HN.out false (fun h => h) (fun h => absurd h HX.out)), by (repeat (first | with_reducible exact Below.refl _ _ | with_reducible assumption | with_reducible refine bdraw ?_ | with_reducible refine bdrewN ?_ _ | with_reducible refine balloc ?_ _ | with_reducible refine bset ?_ (by simp <;> omega) | with_reducible refine bstep ?_ (by assumption) | with_reducible refine btrans ?_ (by assumption)))⟩
                      case measure => simp [intOf]; omega
                  · go_wp2
                    go_quiet (fail)
                    go_wp2
                    go_roundw
                    case rel => exact ⟨m + 1, true, by omega, by go_num, rfl, Lib.hid (HN.out true (fun _ => rfl) (fun _ => rfl)), by (repeat (first | with_reducible exact Below.refl _ _ | with_reducible assumption | with_reducible refine bdraw ?_ | with_reducible refine bdrewN ?_ _ | with_reducible refine balloc ?_ _ | with_reducible refine bset ?_ (by simp <;> omega) | with_reducible refine bstep ?_ (by assumption) | with_reducible refine btrans ?_ (by assumption)))⟩
                    case measure => simp [intOf]; omega
                · have hbb : bb = true := by
                    obtain ⟨i, hi, h1, h2, h3⟩ := HP.out.2
                    exact HM.out i (by omega) ⟨hi, h1, h2, h3⟩
                  subst hbb
                  have z0 := atb e0 (w' := wr) (by (repeat (first | with_reducible exact Below.refl _ _ | with_reducible assumption | with_reducible refine bdraw ?_ | with_reducible refine bdrewN ?_ _ | with_reducible refine balloc ?_ _ | with_reducible refine bset ?_ (by simp <;> omega) | with_reducible refine bstep ?_ (by assumption) | with_reducible refine btrans ?_ (by assumption)))); have z1 := atb e1 (w' := wr) (by (repeat (first | with_reducible exact Below.refl _ _ | with_reducible assumption | with_reducible refine bdraw ?_ | with_reducible refine bdrewN ?_ _ | with_reducible refine balloc ?_ _ | with_reducible refine bset ?_ (by simp <;> omega) | with_reducible refine bstep ?_ (by assumption) | with_reducible refine btrans ?_ (by assumption)))); have z2 := atb e2 (w' := wr) (by (repeat (first | with_reducible exact Below.refl _ _ | with_reducible assumption | with_reducible refine bdraw ?_ | with_reducible refine bdrewN ?_ _ | with_reducible refine balloc ?_ _ | with_reducible refine bset ?_ (by simp <;> omega) | with_reducible refine bstep ?_ (by assumption) | with_reducible refine btrans ?_ (by assumption)))); have z3 := atb e3 (w' := wr) (by (repeat (first | with_reducible exact Below.refl _ _ | with_reducible assumption | with_reducible refine bdraw ?_ | with_reducible refine bdrewN ?_ _ | with_reducible refine balloc ?_ _ | with_reducible refine bset ?_ (by simp <;> omega) | with_reducible refine bstep ?_ (by assumption) | with_reducible refine btrans ?_ (by assumption))))
                  generalize hwv : wr = wv at *
                  clear hwv
                  go_wp2
                  go_loopw [17, 18] (fun c j ws => ∃ m : Nat, m ≤ p.s.length ∧ j = .int .i64 m ∧ c = .int .i64 (oddN (p.s.take m) (p.h.take m) : Int) ∧ Below wv.heap.size wv ws) (fun _ j _ => p.s.length - (intOf j).toNat)
                  case atStart => exact ⟨0, Nat.zero_le _, rfl, rfl, Below.refl _ _⟩
                  case round =>
                    obtain ⟨m, hm2, rfl, rfl, hbs2⟩ := hrel
                    clear z0 z1 z2 z3
                    have z0 := atb e0 (w' := wr) (by (repeat (first | with_reducible exact Below.refl _ _ | with_reducible assumption | with_reducible refine bdraw ?_ | with_reducible refine bdrewN ?_ _ | with_reducible refine balloc ?_ _ | with_reducible refine bset ?_ (by simp <;> omega) | with_reducible refine bstep ?_ (by assumption) | with_reducible refine btrans ?_ (by assumption)))); have z1 := atb e1 (w' := wr) (by (repeat (first | with_reducible exact Below.refl _ _ | with_reducible assumption | with_reducible refine bdraw ?_ | with_reducible refine bdrewN ?_ _ | with_reducible refine balloc ?_ _ | with_reducible refine bset ?_ (by simp <;> omega) | with_reducible refine bstep ?_ (by assumption) | with_reducible refine btrans ?_ (by assumption)))); have z2 := atb e2 (w' := wr) (by (repeat (first | with_reducible exact Below.refl _ _ | with_reducible assumption | with_reducible refine bdraw ?_ | with_reducible refine bdrewN ?_ _ | with_reducible refine balloc ?_ _ | with_reducible refine bset ?_ (by simp <;> omega) | with_reducible refine bstep ?_ (by assumption) | with_reducible refine btrans ?_ (by assumption)))); have z3 := atb e3 (w' := wr) (by (repeat (first | with_reducible exact Below.refl _ _ | with_reducible assumption | with_reducible refine bdraw ?_ | with_reducible refine bdrewN ?_ _ | with_reducible refine balloc ?_ _ | with_reducible refine bset ?_ (by simp <;> omega) | with_reducible refine bstep ?_ (by assumption) | with_reducible refine btrans ?_ (by assumption))))
                    by_cases hlt3 : m < p.s.length
                    · have hlt4 : m < p.h.length := by have := hpl.out; omega
                      have HS := Lib.hid (oddN_snoc hlt3 hlt4)
                      have ho := oddN_le (p.s.take m) (p.h.take m)
                      rw [List.length_take] at ho
                      obtain ⟨b1', o1', rfl, s1⟩ := (hs1.below (by (repeat (first | with_reducible exact Below.refl _ _ | with_reducible assumption | with_reducible refine bdraw ?_ | with_reducible refine bdrewN ?_ _ | with_reducible refine balloc ?_ _ | with_reducible refine bset ?_ (by simp <;> omega) | with_reducible refine bstep ?_ (by assumption) | with_reducible refine btrans ?_ (by assumption)))) (Nat.le_refl _)).byte hlt3
                      obtain ⟨b2', o2', rfl, s2⟩ := (hs2.below (by (repeat (first | with_reducible exact Below.refl _ _ | with_reducible assumption | with_reducible refine bdraw ?_ | with_reducible refine bdrewN ?_ _ | with_reducible refine balloc ?_ _ | with_reducible refine bset ?_ (by simp <;> omega) | with_reducible refine bstep ?_ (by assumption) | with_reducible refine btrans ?_ (by assumption)))) (Nat.le_refl _)).byte hlt4
                      have t1 := atb s1 (w' := wr) (by (repeat (first | with_reducible exact Below.refl _ _ | with_reducible assumption | with_reducible refine bdraw ?_ | with_reducible refine bdrewN ?_ _ | with_reducible refine balloc ?_ _ | with_reducible refine bset ?_ (by simp <;> omega) | with_reducible refine bstep ?_ (by assumption) | with_reducible refine btrans ?_ (by assumption))))
                      have t2 := atb s2 (w' := wr) (by (repeat (first | with_reducible exact Below.refl _ _ | with_reducible assumption | with_reducible refine bdraw ?_ | with_reducible refine bdrewN ?_ _ | with_reducible refine balloc ?_ _ | with_reducible refine bset ?_ (by simp <;> omega) | with_reducible refine bstep ?_ (by assumption) | with_reducible refine btrans ?_ (by assumption))))
                      have i1 : (m : Int) < (p.s.length : Int) := by omega
                      have i2 : (m : Int) < (p.h.length : Int) := by omega
                      have i3 : (0 : Int) ≤ (m : Int) := by omega
                      generalize oddN (p.s.take m) (p.h.take m) = d at *
                      go_wp2
                      go_quiet (fail)
                      go_wp2
                      · go_roundw
                        case rel => exact ⟨m + 1, by omega, by go_num, by rw [HS.out, if_neg (by intro e; simp_all)]; go_num, by (repeat (first | with_reducible exact Below.refl _ _ | with_reducible assumption | with_reducible refine bdraw ?_ | with_reducible refine bdrewN ?_ _ | with_reducible refine balloc ?_ _ | with_reducible refine bset ?_ (by simp <;> omega) | with_reducible refine bstep ?_ (by assumption) | with_reducible refine btrans ?_ (by assumption)))⟩
                        case measure => simp [intOf]; omega
                      · go_roundw
                        case rel => exact ⟨m + 1, by omega, by go_num, by rw [HS.out, if_pos (byte_eq (by simp_all)), Nat.add_zero], by (repeat (first | with_reducible exact Below.refl _ _ | with_reducible assumption | with_reducible refine bdraw ?_ | with_reducible refine bdrewN ?_ _ | with_reducible refine balloc ?_ _ | with_reducible refine bset ?_ (by simp <;> omega) | with_reducible refine bstep ?_ (by assumption) | with_reducible refine btrans ?_ (by assumption)))⟩
                        case measure => simp [intOf]; omega
                    · have HO := Lib.hid (oddN_take m (show m = p.s.length by omega) hpl.out)
                      have hol : oddN (p.s.take m) (p.h.take m) ≤ 1 := by rw [HO.out]; exact (right_parts HP.out.1).2.2
                      generalize oddN (p.s.take m) (p.h.take m) = d at *
                      have hsh := hpl.out
                      have g1 : decide ((1 : Int) < (d : Int)) = false := decide_eq_false (by omega)
                      have g2 : decide (1 < d) = false := decide_eq_false (by omega)
                      have g3 : ((p.h.length : Int) != (p.s.length : Int)) = false := by simp; omega
                      have g4 : decide ((m : Int) < (p.h.length : Int)) = false := decide_eq_false (by omega)
                      have g5 : decide (m < p.h.length) = false := decide_eq_false (by omega)
                      clear hsh
                      go_wp2
                      go_roundw
                      case rel => exact ⟨r, (hr.below (by (repeat (first | with_reducible exact Below.refl _ _ | with_reducible assumption | with_reducible refine bdraw ?_ | with_reducible refine bdrewN ?_ _ | with_reducible refine balloc ?_ _ | with_reducible refine bset ?_ (by simp <;> omega) | with_reducible refine bstep ?_ (by assumption) | with_reducible refine btrans ?_ (by assumption)))) (Nat.le_refl _)), Lib.hid HR.out, by (repeat (first | with_reducible exact Below.refl _ _ | with_reducible assumption | with_reducible refine bdraw ?_ | with_reducible refine bdrewN ?_ _ | with_reducible refine balloc ?_ _ | with_reducible refine bset ?_ (by simp <;> omega) | with_reducible refine bstep ?_ (by assumption) | with_reducible refine btrans ?_ (by assumption)))⟩
                      case measure => simp [slen]; omega
            · go_wp2
              go_ret
              exact ⟨rfl, hbr⟩
end Go.Proofs.Ytggmhhbhpmfcnaa
