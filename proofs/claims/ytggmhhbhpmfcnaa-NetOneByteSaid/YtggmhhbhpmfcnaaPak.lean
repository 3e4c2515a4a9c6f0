/- Packets: how they read, and whether they and a network are as they must be. -/
import Derived.Test.YtggmhhbhpmfcnaaBack
import Derived.Outline
namespace Go.Proofs.Ytggmhhbhpmfcnaa
open Go.RowKit

structure Pk where
  f : Int
  t : Int
  s : List UInt8
  h : List UInt8
  deriving DecidableEq, Inhabited

def pkE : Enc Pk where
  k := 4
  pos := by omega
  rd := fun S w cs p => ∃ u v, cs = [.int .i64 p.f, .int .i64 p.t, u, v] ∧ Sl u8E S w u p.s ∧ Sl u8E S w v p.h
  len := fun ⟨_, _, h, _⟩ => by rw [h]; rfl
  mono := fun ⟨u, v, h, hs, ht⟩ hm => ⟨u, v, h, hs.mono hm, ht.mono hm⟩
  keep := fun ⟨u, v, h, hs, ht⟩ hk => ⟨u, v, h, hs.keep hk, ht.keep hk⟩
  one := fun ⟨u, v, h, hs, ht⟩ x hx => by
    subst h
    obtain ⟨A, cap, rfl, _⟩ := hs.shape
    obtain ⟨A', cap', rfl, _⟩ := ht.shape
    simp at hx
    rcases hx with rfl | rfl | rfl | rfl <;> rfl

/-- the i-th packet of a slice: its four cells -/
theorem Sl.pk {S : Foot} {w : World} {A : Option Addr} {n cap : Nat} {l : List Pk} (h : Sl pkE S w (.slice A n cap) l) {i : Nat} (hi : i < l.length) :
    ∃ b off As cs Ah ch, A = some ⟨b, off, none⟩ ∧ At S w b (off + i * 4) (.int .i64 l[i].f) ∧ At S w b (off + i * 4 + 1) (.int .i64 l[i].t) ∧ At S w b (off + i * 4 + 2) (.slice As l[i].s.length cs) ∧
      At S w b (off + i * 4 + 3) (.slice Ah l[i].h.length ch) ∧ Sl u8E S w (.slice As l[i].s.length cs) l[i].s ∧ Sl u8E S w (.slice Ah l[i].h.length ch) l[i].h := by
  obtain ⟨_, _, _, _, hc⟩ := h.cells
  obtain ⟨b, off, cs, e, ⟨u, v, hu, hs, ht⟩, _, hat⟩ := hc i _ (List.getElem?_eq_getElem hi)
  subst hu
  obtain ⟨As, cs, rfl, _⟩ := hs.shape
  obtain ⟨Ah, ch, rfl, _⟩ := ht.shape
  exact ⟨b, off, As, cs, Ah, ch, e, hat 0 _ rfl, hat 1 _ rfl, hat 2 _ rfl, hat 3 _ rfl, hs, ht⟩

theorem byte_eq {a b : UInt8} (h : (b.toNat : Int) = (a.toNat : Int)) : a = b := UInt8.toNat_inj.1 (by omega)

/-! ### the plain words -/
def nodeB (n : Int) : Bool := decide (0 ≤ n ∧ n ≤ 63)
def endsB (f t : Int) : Bool := decide (0 ≤ f ∧ f ≤ 63 ∧ 0 ≤ t ∧ t ≤ 63 ∧ f ≠ t)
def oddN (s h : List UInt8) : Nat := ((s.zip h).filter fun p => p.1 != p.2).length
def rightB (p : Pk) : Bool := endsB p.f p.t && (decide (p.s.length = p.h.length) && decide (oddN p.s p.h ≤ 1))
def formedB (l : List Pk) : Bool := decide (l.length ≤ 4096) && l.all rightB

theorem oddN_snoc {s h : List UInt8} {k : Nat} (hs : k < s.length) (hh : k < h.length) : oddN (s.take (k + 1)) (h.take (k + 1)) = oddN (s.take k) (h.take k) + if s[k] = h[k] then 0 else 1 := by
  unfold oddN
  rw [List.take_succ_eq_append_getElem hs, List.take_succ_eq_append_getElem hh, List.zip_append (by simp; omega), List.filter_append, List.length_append]
  congr 1
  by_cases h : s[k] = h[k] <;> simp [h]
theorem oddN_le (s h : List UInt8) : oddN s h ≤ s.length := by
  unfold oddN
  refine Nat.le_trans (List.length_filter_le _ _) ?_
  rw [List.length_zip]; omega
theorem formedB_not {l : List Pk} {k : Nat} (hk : k < l.length) (h : rightB l[k] = false) : formedB l = false := by
  unfold formedB
  rw [Bool.and_eq_false_iff]
  right
  rw [List.all_eq_false]
  exact ⟨_, List.getElem_mem hk, by rw [h]; simp⟩
theorem all_snoc {α : Type} {l : List α} {p : α → Bool} {k : Nat} (h : (l.take k).all p = true) (hk : k < l.length) (hx : p l[k] = true) : (l.take (k + 1)).all p = true := by
  rw [List.take_succ_eq_append_getElem hk, List.all_append, h]; simp [hx]

/-! ### the walks -/
theorem node_c (n : Int) (w : World) :
    Calls Try.prog 33 #[.int .i64 n] w fun e w' => e = .returned (.bool (nodeB n)) ∧ w = w' := by
  go_enter Try.func33, Try.ntmps33
  go_wp2
  all_goals
    go_ret
    refine ⟨ret_bool ?_, rfl⟩
    unfold nodeB
    rw [Bool.eq_iff_iff]
    simp
    omega
theorem ends_c (f t : Int) (w : World) :
    Calls Try.prog 25 #[.int .i64 f, .int .i64 t] w fun e w' => e = .returned (.bool (endsB f t)) ∧ w = w' := by
  go_enter Try.func25, Try.ntmps25
  go_wp2
  all_goals
    go_ret
    refine ⟨ret_bool ?_, rfl⟩
    unfold endsB
    rw [Bool.eq_iff_iff]
    simp
    omega

theorem rightB_eq (p : Pk) : rightB p = (nodeB p.f && (nodeB p.t && (!decide (p.f = p.t) && (decide (p.s.length = p.h.length) && decide (oddN p.s p.h ≤ 1))))) := by
  unfold rightB endsB nodeB
  rw [Bool.eq_iff_iff]
  simp
  omega
theorem oddN_take {s h : List UInt8} (k : Nat) (hk : k = s.length) (hl : s.length = h.length) : oddN (s.take k) (h.take k) = oddN s h := by
  subst hk
  rw [List.take_length, hl, List.take_length]

set_option maxHeartbeats 1000000 in
theorem right_c {S S' : Foot} {p : Pk} {As Ah : Option Addr} {cs ch : Nat} {w : World} (hs : Sl u8E S w (.slice As p.s.length cs) p.s) (hh : Sl u8E S' w (.slice Ah p.h.length ch) p.h) :
    Calls Try.prog 22 #[.agg #[.int .i64 p.f, .int .i64 p.t, .slice As p.s.length cs, .slice Ah p.h.length ch]] w fun e w' => e = .returned (.bool (rightB p)) ∧ Below w.heap.size w w' := by
  have hm := hs.max
  have hm' := hh.max
  go_enter Try.func22, Try.ntmps22
  go_wp2_with (go_at_call 33; refine (node_c _ _).mono ?_; rintro e w1 ⟨rfl, rfl⟩)
  all_goals try
    go_ret
    exact ⟨ret_bool (by clear hs hh; rw [rightB_eq]; simp_all <;> omega), (Below.refl _ _).alloc (Nat.le_refl _) _⟩
  have HF : Hid (rightB p = decide (oddN p.s p.h ≤ 1)) := by unfold Hid; rw [rightB_eq]; clear hs hh; simp_all <;> omega
  have HL : Hid (p.s.length = p.h.length) := by unfold Hid; clear hs hh; simp_all <;> omega
  go_loopw [3, 4, 5, 35] (fun c i _ j wr => ∃ k : Nat, k ≤ p.s.length ∧ j = .int .i64 k ∧ c = .int .i64 (oddN (p.s.take k) (p.h.take k) : Int) ∧ wr = w.alloc (.cells #[.int .i64 p.f, .int .i64 p.t, .slice As p.s.length cs, .slice Ah p.h.length ch] 35)) (fun _ _ _ j _ => p.s.length - (intOf j).toNat)
  case atStart => exact ⟨0, Nat.zero_le _, rfl, rfl, rfl⟩
  case round =>
    obtain ⟨k, hk, rfl, rfl, rfl⟩ := hrel
    by_cases hlt : k < p.s.length
    · have hlt2 : k < p.h.length := by have := HL.out; omega
      have HS := Lib.hid (oddN_snoc hlt hlt2)
      have ho := oddN_le (p.s.take k) (p.h.take k)
      rw [List.length_take] at ho
      obtain ⟨b1, o1, rfl, a1⟩ := (hs.below (B := w.heap.size) ((Below.refl _ _).alloc (Nat.le_refl _) (.cells #[.int .i64 p.f, .int .i64 p.t, .slice As p.s.length cs, .slice Ah p.h.length ch] 35)) (Nat.le_refl _)).byte hlt
      obtain ⟨b2, o2, rfl, a2⟩ := (hh.below (B := w.heap.size) ((Below.refl _ _).alloc (Nat.le_refl _) (.cells #[.int .i64 p.f, .int .i64 p.t, .slice (some ⟨b1, o1, none⟩) p.s.length cs, .slice Ah p.h.length ch] 35)) (Nat.le_refl _)).byte hlt2
      have c1 := a1.cell
      have c2 := a2.cell
      clear a1 a2 hs hh
      generalize oddN (p.s.take k) (p.h.take k) = d at *
      go_wp2
      · go_round
        case rel => exact ⟨k + 1, by omega, by go_num, by rw [HS.out, if_neg (by intro e; simp_all)]; go_num, trivial⟩
        case measure => simp [intOf]; omega
      · go_round
        case rel => exact ⟨k + 1, by omega, by go_num, by rw [HS.out, if_pos (byte_eq (by simp_all)), Nat.add_zero], trivial⟩
        case measure => simp [intOf]; omega
    · have HK := Lib.hid (show k = p.s.length by omega)
      have HO := Lib.hid (oddN_take k HK.out HL.out)
      go_wp2
      go_ret
      rw [HO.out, HF.out]
      exact ⟨ret_bool (by rw [Bool.eq_iff_iff]; simp <;> omega), (Below.refl _ _).alloc (Nat.le_refl _) _⟩

theorem formed1_c {S S' : Foot} {p : Pk} {As Ah : Option Addr} {cs ch : Nat} {w : World} (hs : Sl u8E S w (.slice As p.s.length cs) p.s) (hh : Sl u8E S' w (.slice Ah p.h.length ch) p.h) :
    Calls Try.prog 28 #[.agg #[.int .i64 p.f, .int .i64 p.t, .slice As p.s.length cs, .slice Ah p.h.length ch]] w fun e w' => e = .returned (.bool (!rightB p)) ∧ Below w.heap.size w w' := by
  have hb : Below w.heap.size w (w.alloc (.cells #[.int .i64 p.f, .int .i64 p.t, .slice As p.s.length cs, .slice Ah p.h.length ch] 35)) := (Below.refl _ _).alloc (Nat.le_refl _) _
  have HR := Lib.hid (right_c (hs.below hb (Nat.le_refl _)) (hh.below hb (Nat.le_refl _)))
  clear hs hh
  go_enter Try.func28, Try.ntmps28
  go_wp2_with (go_at_call 22; refine HR.out.mono ?_; rintro e w1 ⟨rfl, b1⟩)
  go_ret
  exact ⟨rfl, hb.trans (b1.mono hb.size)⟩

/-- the first that is not right -/
theorem indexfunc_c {S : Foot} {v : Value} {l : List Pk} {w : World} (hp : Sl pkE S w v l) :
    Calls Try.prog 34 #[v, .func (.func 28) #[] #[]] w fun e w' =>
      ∃ i : Int, e = .returned (.int .i64 i) ∧ Hid (decide (0 ≤ i) = !l.all rightB) ∧ Below w.heap.size w w' := by
  have hp := hp.any
  obtain ⟨A, cap, rfl, hc1, hc2, _⟩ := hp.shape
  unfold maxLen at hc2
  go_enter Try.func34, Try.ntmps34
  go_wp2
  go_loopw [5, 8] (fun _ i wr => ∃ k : Nat, k ≤ l.length ∧ i = .int .i64 k ∧ Hid ((l.take k).all rightB = true) ∧ Below w.heap.size w wr) (fun _ i _ => l.length - (intOf i).toNat)
  case atStart => exact ⟨0, Nat.zero_le _, rfl, Lib.hid rfl, Below.refl _ _⟩
  case round =>
    obtain ⟨k, hk, rfl, HA, hbr⟩ := hrel
    by_cases hlt : k < l.length
    · obtain ⟨b, off, As, cs, Ah, ch, rfl, a0, a1, a2, a3, hs, hh⟩ := (hp.below hbr (Nat.le_refl _)).pk hlt
      have c0 := a0.cell
      have c1 := a1.cell
      have c2 := a2.cell
      have c3 := a3.cell
      have HC := Lib.hid (formed1_c hs hh)
      have HT := Lib.hid (fun h => all_snoc HA.out hlt h)
      have HN := Lib.hid (fun (h : rightB l[k] = false) => (List.all_eq_false.2 ⟨_, List.getElem_mem hlt, by rw [h]; simp⟩ : l.all rightB = false))
      clear a0 a1 a2 a3 hs hh
      generalize hx : l[k] = x at *
      clear hx
      cases hr : rightB x
      · have HN := Lib.hid (HN.out hr)
        rw [hr] at HC
        clear hr
        go_wp2_with (go_at_call 28; refine HC.out.mono ?_; rintro e w1 ⟨rfl, b1⟩)
        go_ret
        refine ⟨_, rfl, ?_, bstep hbr b1⟩
        unfold Hid
        rw [HN.out]
        simp
      · have HT := Lib.hid (HT.out hr)
        rw [hr] at HC
        clear hr
        go_wp2_with (go_at_call 28; refine HC.out.mono ?_; rintro e w1 ⟨rfl, b1⟩)
        go_roundw
        case rel => exact ⟨k + 1, by omega, by go_num, HT, bstep hbr b1⟩
        case measure => simp [intOf]; omega
    · have HK := Lib.hid (show k = l.length by omega)
      go_wp2
      go_ret
      refine ⟨_, rfl, ?_, hbr⟩
      have h := HA.out
      rw [HK.out, List.take_length] at h
      unfold Hid
      rw [h]
      decide
theorem containsfunc_c {S : Foot} {v : Value} {l : List Pk} {w : World} (hp : Sl pkE S w v l) :
    Calls Try.prog 27 #[v, .func (.func 28) #[] #[]] w fun e w' => e = .returned (.bool (!l.all rightB)) ∧ Below w.heap.size w w' := by
  have HC := Lib.hid (indexfunc_c hp)
  go_enter Try.func27, Try.ntmps27
  go_wp2_with (go_at_call 34; refine HC.out.mono ?_; rintro e w1 ⟨i, rfl, HI, b1⟩)
  go_ret
  exact ⟨ret_bool HI.out, b1⟩
theorem formed_c {S : Foot} {v : Value} {l : List Pk} {w : World} (hp : Sl pkE S w v l) :
    Calls Try.prog 12 #[v] w fun e w' => e = .returned (.bool (formedB l)) ∧ Below w.heap.size w w' := by
  have HC := Lib.hid (containsfunc_c hp)
  obtain ⟨A, cap, rfl, hc1, hc2, _⟩ := hp.shape
  clear hp
  go_enter Try.func12, Try.ntmps12
  go_wp2_with (go_at_call 27; refine HC.out.mono ?_; rintro e w1 ⟨rfl, b1⟩)
  all_goals
    go_ret
    refine ⟨ret_bool ?_, by first | exact b1 | exact Below.refl _ _⟩
    unfold formedB
    rw [Bool.eq_iff_iff]
    simp
    omega
end Go.Proofs.Ytggmhhbhpmfcnaa
