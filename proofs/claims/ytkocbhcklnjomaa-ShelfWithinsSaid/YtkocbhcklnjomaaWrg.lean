/- Shelves: the same writes; a copy; where an object's write stands. -/
import Derived.Test.YtkocbhcklnjomaaWrf
import Derived.Test.YtkocbhcklnjomaaRow
import Derived.WalkSpells
namespace Go.Proofs.Ytkocbhcklnjomaa
open Go.RowKit

/-- two writes are held against one another -/
theorem run_neq_wr (x y : Wr) (w : World) : (binOp .neq 32 (.agg #[.int .i64 x.c, .int .i64 x.n, .int .i64 x.o, .bool x.g]) (.agg #[.int .i64 y.c, .int .i64 y.n, .int .i64 y.o, .bool y.g])).run Try.prog w = .ok (.bool (x != y)) w := by
  by_cases h : x = y
  · subst h
    simp [go_sem]
  · have e : (x != y) = true := by simpa using h
    rw [e]
    have h' : ¬ (x.c = y.c ∧ x.n = y.n ∧ x.o = y.o ∧ x.g = y.g) := fun ⟨a, b, c, d⟩ => h (by cases x; cases y; simp_all)
    clear e h
    generalize y.c = c2 at *
    generalize y.n = n2 at *
    generalize y.o = o2 at *
    generalize y.g = g2 at *
    by_cases h1 : x.c = c2
    · subst h1
      by_cases h2 : x.n = n2
      · subst h2
        by_cases h3 : x.o = o2
        · subst h3
          have h4 : (x.g == g2) = false := by simpa using h'
          clear h'
          simp [go_sem, h4]
        · have h3 : (x.o == o2) = false := by simpa using h3
          clear h'
          simp [go_sem, h3]
      · have h2 : (x.n == n2) = false := by simpa using h2
        clear h'
        simp [go_sem, h2]
    · have h1 : (x.c == c2) = false := by simpa using h1
      clear h'
      simp [go_sem, h1]

set_option maxHeartbeats 1000000 in
theorem samew_c {S S' : Foot} {v u : Value} {l m : List Wr} {w : World} (ha : Sl wrE S w v l) (hb : Sl wrE S' w u m) :
    Calls Try.prog 11 #[v, u] w fun e w' => e = .returned (.bool (l == m)) ∧ Below w.heap.size w w' := by
  have ha := ha.any
  have hb := hb.any
  obtain ⟨Aa, ca, rfl, hc1, hc2, _⟩ := ha.shape
  obtain ⟨Ab, cb, rfl, hc3, hc4, _⟩ := hb.shape
  unfold maxLen at hc2 hc4
  by_cases hlen : l.length = m.length
  · have HL := Lib.hid hlen
    have d1 : ((l.length : Int) != (m.length : Int)) = false := by simp; omega
    clear hlen
    go_enter Try.func11, Try.ntmps11
    go_wp2
    go_loopw [5] (fun i wr => ∃ k : Nat, k ≤ l.length ∧ i = .int .i64 k ∧ Hid (l.take k = m.take k) ∧ Below w.heap.size w wr) (fun i _ => l.length - (intOf i).toNat)
    case atStart => exact ⟨0, Nat.zero_le _, rfl, Lib.hid rfl, Below.refl _ _⟩
    case round =>
      obtain ⟨k, hk, rfl, HT, hbr⟩ := hrel
      by_cases hlt : k < l.length
      · have hlt2 : k < m.length := by have := HL.out; omega
        have HS := Lib.hid (⟨List.take_succ_eq_append_getElem hlt, List.take_succ_eq_append_getElem hlt2⟩ : l.take (k + 1) = l.take k ++ [l[k]] ∧ m.take (k + 1) = m.take k ++ [m[k]])
        have HE := Lib.hid (fun (h : l[k] ≠ m[k]) => (beq_eq_false_iff_ne.2 (fun e : l = m => h (by subst e; rfl)) : (l == m) = false))
        obtain ⟨bx, ox, rfl, x0, x1, x2, x3⟩ := (ha.below (by (repeat (first | with_reducible exact Below.refl _ _ | with_reducible assumption | with_reducible refine bdraw ?_ | with_reducible refine bdrewN ?_ _ | with_reducible refine balloc ?_ _ | with_reducible refine bset ?_ (by simp <;> omega) | with_reducible refine bstep ?_ (by assumption) | with_reducible refine btrans ?_ (by assumption)))) (Nat.le_refl _)).wr hlt
        obtain ⟨by_, oy, rfl, y0, y1, y2, y3⟩ := (hb.below (by (repeat (first | with_reducible exact Below.refl _ _ | with_reducible assumption | with_reducible refine bdraw ?_ | with_reducible refine bdrewN ?_ _ | with_reducible refine balloc ?_ _ | with_reducible refine bset ?_ (by simp <;> omega) | with_reducible refine bstep ?_ (by assumption) | with_reducible refine btrans ?_ (by assumption)))) (Nat.le_refl _)).wr hlt2
        have i1 : (k : Int) < (l.length : Int) := by omega
        have i2 : (k : Int) < (m.length : Int) := by omega
        have i3 : (0 : Int) ≤ (k : Int) := by omega
        generalize l[k] = x at *
        generalize m[k] = y at *
        have xc0 := atb x0 (w' := wr) (by (repeat (first | with_reducible exact Below.refl _ _ | with_reducible assumption | with_reducible refine bdraw ?_ | with_reducible refine bdrewN ?_ _ | with_reducible refine balloc ?_ _ | with_reducible refine bset ?_ (by simp <;> omega) | with_reducible refine bstep ?_ (by assumption) | with_reducible refine btrans ?_ (by assumption)))); have xc1 := atb x1 (w' := wr) (by (repeat (first | with_reducible exact Below.refl _ _ | with_reducible assumption | with_reducible refine bdraw ?_ | with_reducible refine bdrewN ?_ _ | with_reducible refine balloc ?_ _ | with_reducible refine bset ?_ (by simp <;> omega) | with_reducible refine bstep ?_ (by assumption) | with_reducible refine btrans ?_ (by assumption)))); have xc2 := atb x2 (w' := wr) (by (repeat (first | with_reducible exact Below.refl _ _ | with_reducible assumption | with_reducible refine bdraw ?_ | with_reducible refine bdrewN ?_ _ | with_reducible refine balloc ?_ _ | with_reducible refine bset ?_ (by simp <;> omega) | with_reducible refine bstep ?_ (by assumption) | with_reducible refine btrans ?_ (by assumption)))); have xc3 := atb x3 (w' := wr) (by (repeat (first | with_reducible exact Below.refl _ _ | with_reducible assumption | with_reducible refine bdraw ?_ | with_reducible refine bdrewN ?_ _ | with_reducible refine balloc ?_ _ | with_reducible refine bset ?_ (by simp <;> omega) | with_reducible refine bstep ?_ (by assumption) | with_reducible refine btrans ?_ (by assumption))))
        have yc0 := atb y0 (w' := wr) (by (repeat (first | with_reducible exact Below.refl _ _ | with_reducible assumption | with_reducible refine bdraw ?_ | with_reducible refine bdrewN ?_ _ | with_reducible refine balloc ?_ _ | with_reducible refine bset ?_ (by simp <;> omega) | with_reducible refine bstep ?_ (by assumption) | with_reducible refine btrans ?_ (by assumption)))); have yc1 := atb y1 (w' := wr) (by (repeat (first | with_reducible exact Below.refl _ _ | with_reducible assumption | with_reducible refine bdraw ?_ | with_reducible refine bdrewN ?_ _ | with_reducible refine balloc ?_ _ | with_reducible refine bset ?_ (by simp <;> omega) | with_reducible refine bstep ?_ (by assumption) | with_reducible refine btrans ?_ (by assumption)))); have yc2 := atb y2 (w' := wr) (by (repeat (first | with_reducible exact Below.refl _ _ | with_reducible assumption | with_reducible refine bdraw ?_ | with_reducible refine bdrewN ?_ _ | with_reducible refine balloc ?_ _ | with_reducible refine bset ?_ (by simp <;> omega) | with_reducible refine bstep ?_ (by assumption) | with_reducible refine btrans ?_ (by assumption)))); have yc3 := atb y3 (w' := wr) (by (repeat (first | with_reducible exact Below.refl _ _ | with_reducible assumption | with_reducible refine bdraw ?_ | with_reducible refine bdrewN ?_ _ | with_reducible refine balloc ?_ _ | with_reducible refine bset ?_ (by simp <;> omega) | with_reducible refine bstep ?_ (by assumption) | with_reducible refine btrans ?_ (by assumption))))
        clear x0 x1 x2 x3 y0 y1 y2 y3
        have hnq := run_neq_wr x y
        by_cases hxy : x = y
        · have HZ := Lib.hid hxy
          rw [show (x != y) = false by simpa using hxy] at hnq
          clear hxy
          go_wp2
          go_quiet (fail)
          go_wp2
          go_roundw
          case rel => exact ⟨k + 1, by omega, by go_num, Lib.hid (by rw [HS.out.1, HS.out.2, HT.out, HZ.out]), by (repeat (first | with_reducible exact Below.refl _ _ | with_reducible assumption | with_reducible refine bdraw ?_ | with_reducible refine bdrewN ?_ _ | with_reducible refine balloc ?_ _ | with_reducible refine bset ?_ (by simp <;> omega) | with_reducible refine bstep ?_ (by assumption) | with_reducible refine btrans ?_ (by assumption)))⟩
          case measure => simp [intOf]; omega
        · have HZ := Lib.hid (HE.out hxy)
          rw [show (x != y) = true by simpa using hxy] at hnq
          clear hxy
          go_wp2
          go_quiet (fail)
          go_wp2
          go_ret
          exact ⟨ret_bool HZ.out.symm, by (repeat (first | with_reducible exact Below.refl _ _ | with_reducible assumption | with_reducible refine bdraw ?_ | with_reducible refine bdrewN ?_ _ | with_reducible refine balloc ?_ _ | with_reducible refine bset ?_ (by simp <;> omega) | with_reducible refine bstep ?_ (by assumption) | with_reducible refine btrans ?_ (by assumption)))⟩
      · have HR : Hid ((l == m) = true) := by
          have e := HT.out
          rw [show k = l.length by omega, List.take_length, HL.out, List.take_length] at e
          exact Lib.hid (by simpa using e)
        go_wp2
        go_ret
        exact ⟨ret_bool HR.out.symm, hbr⟩
  · have HR : Hid ((l == m) = false) := by unfold Hid; rw [beq_eq_false_iff_ne]; exact fun e => hlen (by rw [e])
    have d1 : ((l.length : Int) != (m.length : Int)) = true := by simp; omega
    clear hlen
    go_enter Try.func11, Try.ntmps11
    go_wp2
    go_ret
    exact ⟨ret_bool HR.out.symm, Below.refl _ _⟩

theorem wr_info : (Try.prog.info? 32).map (fun i => (i.zero, i.size, i.bytes)) = some (some (.agg #[.int .i64 0, .int .i64 0, .int .i64 0, .bool false]), 4, 32) := by kernel_rfl
/-- slices.Clone at writes: nil stays nil; else the same in new memory. -/
theorem clonew_c {S : Foot} {v : Value} {l : List Wr} {w : World} (h : Sl wrE S w v l) (hn : l.length ≤ 4398046511104) :
    Calls Try.prog 20 #[v] w fun e w' => ∃ v', e = .returned v' ∧ Own wrE Any w' w.heap.size 32 v' l ∧ Below w.heap.size w w' := by
  obtain ⟨i0, hi, hz0, hz1, hz2⟩ := info_parts wr_info
  obtain ⟨A, cap, rfl, _, _, hA⟩ := h.shape
  have he := fun (w : World) n' c' => Lib.run_eql_slice_nil (P := Try.prog) w 22 32 A l.length cap n' c' Try.underlying22
  rcases A with _ | ad
  · have hl := Lib.hid (show l = [] from by
      have := hA rfl
      exact List.eq_nil_of_length_eq_zero (by omega))
    clear hA
    go_enter Try.func20, Try.ntmps20
    go_wp2
    go_ret
    rw [hl.out]
    exact ⟨_, rfl, Own.nil, Below.refl _ _⟩
  · clear hA
    go_enter Try.func20, Try.ntmps20
    go_wp2_with (at_builtin; refine wpList_append_sl _ rfl (.tmp 5) (.tmp 6) 22 rfl (E := wrE) (l := []) (m := l) (base := w.heap.size) Try.underlying22 hi hz0 hz1 hz2 rfl (World.ownsRow_made _ _ 0 (Nat.le_refl _) (by unfold maxLen; omega) rfl) (h.below (Below.alloc (Below.refl _ _) (Nat.le_refl _) _) (Nat.le_refl _)) rfl rfl (by simp [maxLen]; omega) (by simp; omega) (by simp) ?_; intro v' w' ys ho hr hg hb)
    go_ret
    exact ⟨v', rfl, ⟨ys, by simpa using ho, hr.1, hr.2⟩, ((Below.refl _ _).alloc (Nat.le_refl _) _).grown hg (by simp) (by simp [Value.ownBlock])⟩
end Go.Proofs.Ytkocbhcklnjomaa
