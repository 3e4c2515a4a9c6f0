/- Spans: the document's Set. -/
import Derived.Test.YtkocbhcklnjomaaWid
set_option linter.unusedSimpArgs false
namespace Go.Proofs.Ytkocbhcklnjomaa
open Go.RowKit

theorem ArB.congr {w : World} {b : Nat} {f g : Nat → Bool} (h : ArB w b f) (hg : ∀ j, j < 256 → g j = f j) : ArB w b g := by
  obtain ⟨cs, t, h1, h2, h3⟩ := h
  exact ⟨cs, t, h1, h2, fun j hj => by rw [h3 j hj, hg j hj]⟩
/-- an array of marks -/
def Marks (f : Nat → Bool) (cs : Array Value) : Prop := cs.size = 256 ∧ ∀ j, j < 256 → cs[j]? = some (.bool (f j))
theorem Marks.one {f : Nat → Bool} {cs : Array Value} (h : Marks f cs) : cs.all (·.oneCell') = true := by
  rw [Array.all_eq_true]
  intro i hi
  have := h.2 i (by rw [h.1] at hi; exact hi)
  rw [Array.getElem?_eq_getElem hi] at this
  rw [Option.some.inj this]
  rfl
theorem arr_info : (Try.prog.info? 50).map (·.size) = some 256 := by kernel_rfl
set_option maxRecDepth 100000 in
set_option maxHeartbeats 4000000 in
theorem rset_c {S : Foot} {v : Value} {l : List Sp} {w : World} (hp : Sl spE S w v l) :
    Calls Try.prog 30 #[v] w fun e w' => ∃ cs, e = .returned (.agg cs) ∧ Hid (Marks (fun j => anySp l (j : Int)) cs) ∧ Below w.heap.size w w' := by
  have hp := hp.any
  obtain ⟨A, cap, rfl, hc1, hc2, _⟩ := hp.shape
  unfold maxLen at hc2
  have hpl := hp.lo
  obtain ⟨cs1, hzb, hzs1, hzc1⟩ := zero256b
  obtain ⟨W0, hW0⟩ : ∃ W0, (w.alloc (.cells cs1 50)).alloc (.cells cs1 50) = W0 := ⟨_, rfl⟩
  have q0 : W0.heap[w.heap.size]? = some (.cells cs1 50 (0, 0)) := by rw [← hW0]; exact heap_alloc2_old _ _ _
  have HA : Hid (ArB W0 (w.heap.size + 1) (fun j => anySp (l.take 0) (j : Int))) := by
    rw [← hW0]
    exact ⟨cs1, _, by have := heap_alloc_new (w.alloc (.cells cs1 50)) (.cells cs1 50); simpa using this, hzs1, fun j hj => by rw [hzc1 j hj]; rfl⟩
  have b0 : Below w.heap.size w W0 := by rw [← hW0]; (repeat (first | with_reducible exact Below.refl _ _ | with_reducible assumption | with_reducible refine bdraw ?_ | with_reducible refine bdrewN ?_ _ | with_reducible refine balloc ?_ _ | with_reducible refine bset ?_ (by simp <;> omega) | with_reducible refine bstep ?_ (by assumption) | with_reducible refine btrans ?_ (by assumption)))
  have hz0 : W0.heap.size = w.heap.size + 2 := by rw [← hW0]; simp
  have HZ := Lib.hid hzs1
  have HW := Lib.hid hW0
  clear hzs1 hzc1 hW0
  go_enter Try.func30, Try.ntmps30
  go_wp2
  rw [HW.out]
  clear HW
  go_loopw [4, 5] (fun i _ wr => ∃ k : Nat, k ≤ l.length ∧ i = .int .i64 k ∧ ArB wr (w.heap.size + 1) (fun j => anySp (l.take k) (j : Int)) ∧ Hid (wr.heap[w.heap.size]? = some (.cells cs1 50 (0, 0))) ∧ Below w.heap.size w wr) (fun i _ _ => l.length - (intOf i).toNat)
  case atStart => exact ⟨0, Nat.zero_le _, rfl, HA.out, Lib.hid q0, b0⟩
  case round =>
    obtain ⟨k, hk, rfl, hA, HQ, hbr⟩ := hrel
    by_cases hlt : k < l.length
    · have hkI : (k : Int) < (l.length : Int) := by omega
      have hk0 : (0 : Int) ≤ (k : Int) := by omega
      have HT := Lib.hid (fun o => anySp_take (o := o) hlt)
      obtain ⟨bb, off, rfl, a0, a1⟩ := (hpl.lob hbr).sp hlt
      have hbb := a0.lt
      generalize l[k] = x at *
      have d0 := a0.cell
      have d1 := a1.cell
      obtain ⟨m, hm⟩ : ∃ m : Int, (if 0 < x.a then x.a else 0) = m := ⟨_, rfl⟩
      have hm0 : 0 ≤ m ∧ (∀ j : Int, 0 ≤ j → (m ≤ j ↔ x.a ≤ j)) := by rw [← hm]; split <;> exact ⟨by omega, fun j hj => by omega⟩
      obtain ⟨M, hM⟩ : ∃ M : Int, (if x.b < 255 then x.b else 255) = M := ⟨_, rfl⟩
      have hM0 : M ≤ 255 ∧ (∀ j : Int, j ≤ 255 → (j ≤ M ↔ j ≤ x.b)) := by rw [← hM]; split <;> exact ⟨by omega, fun j hj => by omega⟩
      have HM := Lib.hid (And.intro hm0 hM0)
      have hm1 := hm0.1
      have hM1 := hM0.1
      clear hm0 hM0
      go_wp2_with fail
      obtain ⟨W1, rfl⟩ : ∃ W1, W1 = wr := ⟨wr, rfl⟩
      go_loopw [5] (fun ov wq => ∃ (o : Nat), m ≤ (o : Int) ∧ ((o : Int) = m ∨ (o : Int) ≤ M + 1) ∧ ov = .int .i64 (o : Int) ∧ ArB wq (w.heap.size + 1) (fun j => anySp (l.take k) (j : Int) || decide (m ≤ (j : Int) ∧ j < o)) ∧ Hid (wq.heap[w.heap.size]? = some (.cells cs1 50 (0, 0))) ∧ Below w.heap.size w wq) (fun ov _ => 256 - (intOf ov).toNat)
      case atStart => exact ⟨m.toNat, by omega, .inl (by omega), by rw [Int.toNat_of_nonneg hm1], hA.congr (fun j _ => by
        have : decide (m ≤ (j : Int) ∧ j < m.toNat) = false := decide_eq_false (fun h => by omega)
        show (anySp (l.take k) (j : Int) || decide (m ≤ (j : Int) ∧ j < m.toNat)) = _
        rw [this, Bool.or_false]), HQ, hbr⟩
      case round =>
        obtain ⟨o, ho1, ho2, rfl, hB, HQ2, hbq⟩ := hrel
        have c1 : wr.cell? ⟨bb, off + k * 2 + 1, none⟩ = some (.int .i64 x.b) := (a1.keep (w' := wr) (fun b _ hs _ => (hbq.block b hs).trans (hbr.block b hs).symm)).cell
        by_cases hle : (o : Int) ≤ M
        · have dle : decide ((o : Int) ≤ M) = true := decide_eq_true hle
          have ho256 : o < 256 := by omega
          have ho0 : (0 : Int) ≤ (o : Int) := by omega
          have ho3 : (o : Int) < 256 := by omega
          have cO := hB.cell ho256
          have fO := hB.free o
          have hS := Lib.hid (hB.set ho256 (g := fun j => anySp (l.take k) (j : Int) || decide (m ≤ (j : Int) ∧ j < o + 1)) (fun j hj => by
            by_cases e : j = o
            · subst e
              rw [decide_eq_true (show m ≤ (j : Int) ∧ j < j + 1 from ⟨ho1, by omega⟩)]
              simp
            · have h1 : decide (m ≤ (j : Int) ∧ j < o + 1) = decide (m ≤ (j : Int) ∧ j < o) := decide_eq_decide.2 (by omega)
              have h2 : decide (j = o) = false := decide_eq_false e
              rw [h1, h2, Bool.or_false]))
          have HQ3 := (heap_setCell_other wr ⟨w.heap.size + 1, o, none⟩ w.heap.size (.bool true) (by simp)).trans HQ2.out
          have hwo : IntKind.i64.wrap ((o : Int) + 1) = (o : Int) + 1 := IntWalk.i64_in _ (by omega)
          clear hB
          go_wp2
          go_roundw
          case rel => exact ⟨o + 1, by omega, .inr (by omega), by go_num, hS.out, Lib.hid HQ3, bset hbq (by simp)⟩
          case measure => simp [intOf]; omega
        · have dle : decide ((o : Int) ≤ M) = false := decide_eq_false hle
          have hfin : ArB wr (w.heap.size + 1) (fun j => anySp (l.take (k + 1)) (j : Int)) := hB.congr (fun j hj => by
            show anySp (l.take (k + 1)) (j : Int) = (anySp (l.take k) (j : Int) || decide (m ≤ (j : Int) ∧ j < o))
            rw [HT.out]
            congr 1
            unfold inSp
            have hA1 := HM.out.1.2 (j : Int) (by omega)
            have hB1 := HM.out.2.2 (j : Int) (by omega)
            exact decide_eq_decide.2 (by omega))
          clear hB
          go_wp2
          go_roundw
          case rel => exact ⟨k + 1, by omega, by go_num, hfin, HQ2, hbq⟩
          case measure => simp [intOf]; omega
    · have hkI : ¬ (k : Int) < (l.length : Int) := by omega
      obtain ⟨cs, t, hcs, hs1, hs2⟩ := hA
      have hcs' : wr.heap[w.heap.size + 1]? = some (.cells cs t (0, 0)) := hcs
      have hi9 : (Try.prog.info? 50).map (·.size) = some cs.size := by rw [hs1]; exact arr_info
      have HMk : Hid (Marks (fun j => anySp l (j : Int)) cs) := Lib.hid ⟨hs1, fun j hj => by rw [hs2 j hj, show k = l.length by omega, List.take_length]⟩
      have hold : cs1.size = cs.size := by rw [HZ.out, hs1]
      have h1c := HMk.out.one
      have hq := HQ.out
      clear hs2 hcs
      go_wp2_with (first
        | (refine wpList_load_row rfl 50 (.tmp 3) rfl (w.heap.size + 1) rfl t cs (0, 0) _ hcs' Try.underlying50 rfl hi9 ?_)
        | (refine wpList_store_row rfl 50 (.tmp 2) (.tmp 30) rfl w.heap.size cs rfl rfl 50 cs1 hq hi9 hold h1c ?_))
      refine bodyPost_ret (results_cell_row rfl _ _ w.heap.size 50 cs (0, 0) _ rfl (setRow_heap _ _ _ _ _ _ hq) Try.underlying50 rfl hi9) rfl ?_
      exact ⟨cs, rfl, HMk, below_setRow hbr (Nat.le_refl _) cs⟩
end Go.Proofs.Ytkocbhcklnjomaa
