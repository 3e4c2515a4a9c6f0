/- Bodies: the value of a body. -/
import Derived.Test.YtjcbheeihckgmaaBodh
namespace Go.Proofs.Ytjcbheeihckgmaa
open Go.RowKit

def hit (o c n : Int) (x : Bd) : Bool := decide (x.o = o) && decide (x.c = c ∧ x.n = n)
def gotv (o c n : Int) (l : List Bd) : List UInt8 := ((l.find? (hit o c n)).map (·.v)).getD []
def gote (o c n : Int) (l : List Bd) : Int := if (l.find? (hit o c n)).isSome then 0 else 10
def Miss (o c n : Int) (l : List Bd) (k : Nat) : Prop := ∀ j (_ : j < l.length), j < k → hit o c n l[j] = false
theorem Miss.zero {o c n : Int} {l : List Bd} : Miss o c n l 0 := fun _ _ h => absurd h (by omega)
theorem Miss.succ {o c n : Int} {l : List Bd} {k : Nat} (h : Miss o c n l k) (hk : k < l.length) (hx : hit o c n l[k] = false) : Miss o c n l (k + 1) := by
  intro j hj hjk
  rcases Nat.lt_or_ge j k with h1 | h1
  · exact h j hj h1
  · have : j = k := by omega
    subst this
    exact hx
theorem got_hit {o c n : Int} {l : List Bd} {k : Nat} (h : Miss o c n l k) (hk : k < l.length) (hx : hit o c n l[k] = true) : gotv o c n l = l[k].v ∧ gote o c n l = 0 := by
  have e : l.find? (hit o c n) = some l[k] := by
    rw [List.find?_eq_some_iff_getElem]
    exact ⟨hx, k, hk, rfl, fun j hj => by rw [h j (by omega) hj]; rfl⟩
  unfold gotv gote
  rw [e]
  exact ⟨rfl, rfl⟩
theorem got_none {o c n : Int} {l : List Bd} (h : Miss o c n l l.length) : gotv o c n l = [] ∧ gote o c n l = 10 := by
  have e : l.find? (hit o c n) = none := by
    rw [List.find?_eq_none]
    intro x hx
    obtain ⟨j, hj, rfl⟩ := List.getElem_of_mem hx
    rw [h j hj hj]
    simp
  unfold gotv gote
  rw [e]
  exact ⟨rfl, rfl⟩

theorem get1_c {b : Bd} {Ab : Option Addr} {cb P Q : Nat} {o c n : Int} {w : World} (hP : w.cell? ⟨P, 0, none⟩ = some (.int .i64 o)) (hQ0 : w.cell? ⟨Q, 0, none⟩ = some (.int .i64 c)) (hQ1 : w.cell? ⟨Q, 1, none⟩ = some (.int .i64 n)) (hPl : P < w.heap.size) (hQl : Q < w.heap.size) :
    Calls Try.prog 26 #[.agg #[.int .i64 b.o, .int .i64 b.c, .int .i64 b.n, .slice Ab b.v.length cb], .pointer (some ⟨P, 0, none⟩), .pointer (some ⟨Q, 0, none⟩)] w fun e w' => e = .returned (.bool (hit o c n b)) ∧ Below w.heap.size w w' := by
  have p0 := (((Below.refl w.heap.size w).alloc (Nat.le_refl _) (.cells #[.int .i64 b.o, .int .i64 b.c, .int .i64 b.n, .slice Ab b.v.length cb] 38)).cell (p := ⟨P, 0, none⟩) hPl).trans hP
  have p1 := (((Below.refl w.heap.size w).alloc (Nat.le_refl _) (.cells #[.int .i64 b.o, .int .i64 b.c, .int .i64 b.n, .slice Ab b.v.length cb] 38)).cell (p := ⟨Q, 0, none⟩) hQl).trans hQ0
  have p2 := (((Below.refl w.heap.size w).alloc (Nat.le_refl _) (.cells #[.int .i64 b.o, .int .i64 b.c, .int .i64 b.n, .slice Ab b.v.length cb] 38)).cell (p := ⟨Q, 1, none⟩) hQl).trans hQ1
  by_cases h1 : b.o = o
  · have d1 : (b.o == o) = true := beq_iff_eq.2 h1
    by_cases h2 : b.c = c
    · have d2 : (b.c == c) = true := beq_iff_eq.2 h2
      by_cases h3 : b.n = n
      · have d3 : (b.n == n) = true := beq_iff_eq.2 h3
        have HR : Hid (hit o c n b = true) := by unfold Hid hit; simp [h1, h2, h3]
        clear h1 h2 h3
        go_enter Try.func26, Try.ntmps26
        go_wp2
        go_ret
        rw [HR.out]
        exact ⟨rfl, (Below.refl _ _).alloc (Nat.le_refl _) _⟩
      · have d3 : (b.n == n) = false := beq_eq_false_iff_ne.2 h3
        have HR : Hid (hit o c n b = false) := by unfold Hid hit; simp [h3]
        clear h1 h2 h3
        go_enter Try.func26, Try.ntmps26
        go_wp2
        go_ret
        rw [HR.out]
        exact ⟨rfl, (Below.refl _ _).alloc (Nat.le_refl _) _⟩
    · have d2 : (b.c == c) = false := beq_eq_false_iff_ne.2 h2
      have HR : Hid (hit o c n b = false) := by unfold Hid hit; simp [h2]
      clear h1 h2
      go_enter Try.func26, Try.ntmps26
      go_wp2
      go_ret
      rw [HR.out]
      exact ⟨rfl, (Below.refl _ _).alloc (Nat.le_refl _) _⟩
  · have d1 : (b.o == o) = false := beq_eq_false_iff_ne.2 h1
    have HR : Hid (hit o c n b = false) := by unfold Hid hit; simp [h1]
    clear h1
    go_enter Try.func26, Try.ntmps26
    go_wp2
    go_ret
    rw [HR.out]
    exact ⟨rfl, (Below.refl _ _).alloc (Nat.le_refl _) _⟩

theorem indexfunc_c {S : Foot} {v : Value} {l : List Bd} {P Q : Nat} {o c n : Int} {w : World} (hp : Sl bdE S w v l) (hP : w.cell? ⟨P, 0, none⟩ = some (.int .i64 o)) (hQ0 : w.cell? ⟨Q, 0, none⟩ = some (.int .i64 c)) (hQ1 : w.cell? ⟨Q, 1, none⟩ = some (.int .i64 n)) (hPl : P < w.heap.size) (hQl : Q < w.heap.size) :
    Calls Try.prog 25 #[v, .func (.func 26) #[] #[.pointer (some ⟨P, 0, none⟩), .pointer (some ⟨Q, 0, none⟩)]] w fun e w' =>
      ∃ i : Int, e = .returned (.int .i64 i) ∧ Below w.heap.size w w' ∧ Hid ((i = -1 ∧ Miss o c n l l.length) ∨ ∃ (k : Nat) (hk : k < l.length), i = k ∧ Miss o c n l k ∧ hit o c n l[k] = true) := by
  obtain ⟨A, cap, rfl, hc1, hc2, _⟩ := hp.shape
  unfold maxLen at hc2
  go_enter Try.func25, Try.ntmps25
  go_wp2
  go_loopw [8] (fun i wr => ∃ k : Nat, k ≤ l.length ∧ i = .int .i64 k ∧ Hid (Miss o c n l k) ∧ Below w.heap.size w wr) (fun i _ => l.length - (intOf i).toNat)
  case atStart => exact ⟨0, Nat.zero_le _, rfl, Miss.zero, Below.refl _ _⟩
  case round =>
    obtain ⟨k, hk, rfl, HM, hbr⟩ := hrel
    by_cases hlt : k < l.length
    · have HS := Lib.hid (fun h => Miss.succ HM.out hlt h)
      have HG := Lib.hid (fun (h : hit o c n l[k] = true) => (⟨k, hlt, rfl, HM.out, h⟩ : ∃ (k' : Nat) (hk : k' < l.length), (k : Int) = k' ∧ Miss o c n l k' ∧ hit o c n l[k'] = true))
      obtain ⟨b, off, Av, cv, rfl, a0, a1, a2, a3, hv⟩ := (hp.below hbr (Nat.le_refl _)).body hlt
      have c0 := a0.cell
      have c1 := a1.cell
      have c2 := a2.cell
      have c3 := a3.cell
      clear a0 a1 a2 a3
      have HC := Lib.hid (get1_c (b := l[k]) (Ab := Av) (cb := cv) (o := o) (c := c) (n := n) (w := wr) ((hbr.cell (p := ⟨P, 0, none⟩) hPl).trans hP) ((hbr.cell (p := ⟨Q, 0, none⟩) hQl).trans hQ0) ((hbr.cell (p := ⟨Q, 1, none⟩) hQl).trans hQ1) (Nat.lt_of_lt_of_le hPl hbr.size) (Nat.lt_of_lt_of_le hQl hbr.size))
      generalize hx : l[k] = x at *
      clear hx
      cases hh : hit o c n x
      · have HS := Lib.hid (HS.out hh)
        rw [hh] at HC
        clear hh HG
        go_wp2_with (go_at_call 26; refine HC.out.mono ?_; rintro e w1 ⟨rfl, b1⟩)
        go_roundw
        case rel => exact ⟨k + 1, by omega, by go_num, HS.out, bstep hbr b1⟩
        case measure => simp [intOf]; omega
      · have HG := Lib.hid (HG.out hh)
        rw [hh] at HC
        clear hh HS
        go_wp2_with (go_at_call 26; refine HC.out.mono ?_; rintro e w1 ⟨rfl, b1⟩)
        go_ret
        exact ⟨_, rfl, bstep hbr b1, .inr (HG.out)⟩
    · have HK := Lib.hid (show k = l.length by omega)
      go_wp2
      go_ret
      exact ⟨_, rfl, hbr, .inl ⟨rfl, HK.out ▸ HM.out⟩⟩

theorem get_c {S : Foot} {v : Value} {l : List Bd} {o c n : Int} {w : World} (hp : Sl bdE S w v l) (hu : used l ≤ 1048576) :
    Calls Try.prog 10 #[v, .int .i64 o, .agg #[.int .i64 c, .int .i64 n]] w fun e w' => ∃ v', e = .returned (.tuple #[v', .int .i64 (gote o c n l)]) ∧ Own u8E Any w' w.heap.size 5 v' (gotv o c n l) ∧ Below w.heap.size w w' := by
  have hmf : ∀ (fn : Fn) (first cap : Array Value) (w : World), (Instr.makeFunc fn first cap).run Try.prog w = .ok (.func fn first cap) w := fun _ _ _ _ => rfl
  obtain ⟨A, cap, rfl, hc1, hc2, _⟩ := hp.shape
  unfold maxLen at hc2
  have hb0 : Below w.heap.size w ((w.alloc (.cells #[.int .i64 o] 3)).alloc (.cells #[.int .i64 c, .int .i64 n] 24)) := ((Below.refl _ _).alloc (Nat.le_refl _) _).alloc (by simp) _
  have hp0 := hp.below hb0 (Nat.le_refl _)
  have HC := Lib.hid (indexfunc_c (P := w.heap.size) (Q := w.heap.size + 1) (o := o) (c := c) (n := n) hp0 (box_cell (cs := [.int .i64 o]) ((Below.refl (w.heap.size + 1) _).alloc (by simp) _) (by simp) 0 _ rfl) (by simp) (by simp) (by simp; omega) (by simp))
  go_enter Try.func10, Try.ntmps10
  go_wp2_with fail
  refine HC.out.mono ?_
  rintro e w1 ⟨i, rfl, b1, HI⟩
  have hb1 : Below w.heap.size w w1 := hb0.trans (b1.mono (by simp; omega))
  rcases HI.out with ⟨rfl, hm⟩ | ⟨k, hk, rfl, hm, hh⟩
  · have HN := Lib.hid (got_none hm)
    clear hm HI
    go_wp2
    go_ret2
    rw [HN.out.1, HN.out.2]
    exact ⟨_, rfl, Own.nil, hb1⟩
  · have HN := Lib.hid (got_hit hm hk hh)
    have HV := Lib.hid (val_le hk)
    clear hm HI hh
    obtain ⟨b, off, Av, cv, rfl, a0, a1, a2, a3, hv⟩ := (hp.below hb1 (Nat.le_refl _)).body hk
    have c3 := a3.cell
    clear a0 a1 a2 a3
    go_wp2_with fail
    refine (clone_c hv (by have := HV.out; omega)).mono ?_
    rintro e w2 ⟨v2, rfl, o2, b2⟩
    go_wp2
    go_ret2
    rw [HN.out.1, HN.out.2]
    exact ⟨_, rfl, o2.base_mono hb1.size, bstep hb1 b2⟩

theorem rget_c {S : Foot} {v : Value} {l : List Bd} {o c n : Int} {w : World} (hp : Sl bdE S w v l) (hu : used l ≤ 1048576) :
    Calls Try.prog 11 #[v, .int .i64 o, .agg #[.int .i64 c, .int .i64 n]] w fun e w' => ∃ v', e = .returned (.tuple #[v', .int .i64 (gote o c n l)]) ∧ Own u8E Any w' w.heap.size 5 v' (gotv o c n l) ∧ Below w.heap.size w w' := by
  obtain ⟨A, cap, rfl, hc1, hc2, _⟩ := hp.shape
  unfold maxLen at hc2
  go_enter Try.func11, Try.ntmps11
  go_wp2
  go_loopw [8] (fun i wr => ∃ k nr : Nat, k ≤ l.length ∧ i = .int .i64 k ∧ wr = (w.alloc (.cells #[.int .i64 c, .int .i64 n] 24)).drewN nr ∧ Hid (Miss o c n l k)) (fun i _ => l.length - (intOf i).toNat)
  case atStart => exact ⟨0, 0, Nat.zero_le _, rfl, rfl, Lib.hid Miss.zero⟩
  case round =>
    obtain ⟨k, nr, hk, rfl, rfl, HM⟩ := hrel
    have hb0 : Below w.heap.size w ((w.alloc (.cells #[.int .i64 c, .int .i64 n] 24)).drewN nr) := bdrewN ((Below.refl _ _).alloc (Nat.le_refl _) _) nr
    by_cases hlt : k < l.length
    · have HS := Lib.hid (fun h => Miss.succ HM.out hlt h)
      have HG := Lib.hid (fun h => got_hit HM.out hlt h)
      have HV := Lib.hid (val_le hlt)
      obtain ⟨b, off, Av, cv, rfl, a0, a1, a2, a3, hv⟩ := (hp.below (B := w.heap.size) ((Below.refl _ _).alloc (Nat.le_refl _) (.cells #[.int .i64 c, .int .i64 n] 24)) (Nat.le_refl _)).body hlt
      have c0 := a0.cell
      have c1 := a1.cell
      have c2 := a2.cell
      have c3 := a3.cell
      have hi1 : (k : Int) < (l.length : Int) := by omega
      clear a0 a1 a2 a3
      generalize hx : l[k] = x at *
      have HX := Lib.hid hx
      clear hx
      by_cases h1 : x.o = o
      · have d1 : (x.o == o) = true := beq_iff_eq.2 h1
        by_cases h2 : x.c = c
        · have d2 : (x.c == c) = true := beq_iff_eq.2 h2
          by_cases h3 : x.n = n
          · have d3 : (x.n == n) = true := beq_iff_eq.2 h3
            have HN := Lib.hid (HG.out (by unfold hit; simp [h1, h2, h3]))
            clear h1 h2 h3
            go_wp2
            go_quiet (fail)
            go_wp2_with fail
            refine (copy_c (hv.drewN (nr + nq)) (by have := HV.out; omega)).mono ?_
            rintro e w2 ⟨v2, rfl, o2, b2⟩
            go_wp2
            go_ret2
            rw [HN.out.1, HN.out.2]
            have hb3 := bdrewN ((Below.refl w.heap.size w).alloc (Nat.le_refl _) (.cells #[.int .i64 c, .int .i64 n] 24)) (nr + nq)
            exact ⟨_, rfl, o2.base_mono hb3.size, bstep hb3 b2⟩
          · have d3 : (x.n == n) = false := beq_eq_false_iff_ne.2 h3
            have HN := Lib.hid (HS.out (by unfold hit; simp [h3]))
            clear h1 h2 h3
            go_wp2
            go_quiet (fail)
            go_wp2
            exact ⟨⟨k + 1, nr + nq, by omega, by go_num, rfl, HN.out⟩, by simp [intOf]; omega⟩
        · have d2 : (x.c == c) = false := beq_eq_false_iff_ne.2 h2
          have HN := Lib.hid (HS.out (by unfold hit; simp [h2]))
          clear h1 h2
          go_wp2
          go_quiet (fail)
          go_wp2
          exact ⟨⟨k + 1, nr + nq, by omega, by go_num, rfl, HN.out⟩, by simp [intOf]; omega⟩
      · have d1 : (x.o == o) = false := beq_eq_false_iff_ne.2 h1
        have HN := Lib.hid (HS.out (by unfold hit; simp [h1]))
        clear h1
        go_wp2
        go_quiet (fail)
        go_wp2
        exact ⟨⟨k + 1, nr + nq, by omega, by go_num, rfl, HN.out⟩, by simp [intOf]; omega⟩
    · have HN := Lib.hid (got_none (by have := HM.out; rw [show k = l.length by omega] at this; exact this))
      go_wp2
      go_ret2
      rw [HN.out.1, HN.out.2]
      exact ⟨_, rfl, Own.nil, hb0⟩

end Go.Proofs.Ytjcbheeihckgmaa
