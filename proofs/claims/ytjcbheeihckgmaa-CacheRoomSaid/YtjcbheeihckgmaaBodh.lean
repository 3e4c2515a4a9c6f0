/- Bodies: whether two are the same, whether two lists are. -/
import Derived.Test.YtjcbheeihckgmaaBodg
namespace Go.Proofs.Ytjcbheeihckgmaa
open Go.RowKit

def sameBd (a b : Bd) : Bool := decide (a.o = b.o) && (decide (a.c = b.c ∧ a.n = b.n) && decide (a.v = b.v))
theorem sameBd_iff (a b : Bd) : sameBd a b = true ↔ a = b := by
  cases a; cases b
  simp [sameBd, and_assoc]
theorem sameBd_dec (a b : Bd) : sameBd a b = decide (a = b) := by
  rw [Bool.eq_iff_iff, sameBd_iff]; simp

theorem samebd_c {S : Foot} {a b : Bd} {Aa Ab : Option Addr} {ca cb : Nat} {w : World} (ha : Sl u8E S w (.slice Aa a.v.length ca) a.v) (hb : Sl u8E S w (.slice Ab b.v.length cb) b.v) :
    Calls Try.prog 23 #[.agg #[.int .i64 a.o, .int .i64 a.c, .int .i64 a.n, .slice Aa a.v.length ca], .agg #[.int .i64 b.o, .int .i64 b.c, .int .i64 b.n, .slice Ab b.v.length cb]] w fun e w' => e = .returned (.bool (sameBd a b)) ∧ Below w.heap.size w w' := by
  by_cases h1 : a.o = b.o
  · have d1 : (a.o == b.o) = true := beq_iff_eq.2 h1
    by_cases h2 : a.c = b.c
    · have d2 : (a.c == b.c) = true := beq_iff_eq.2 h2
      by_cases h3 : a.n = b.n
      · have d3 : (a.n == b.n) = true := beq_iff_eq.2 h3
        have HS := fun (w : World) (h : Sl u8E S w (.slice Aa a.v.length ca) a.v) (h' : Sl u8E S w (.slice Ab b.v.length cb) b.v) => Lib.hid (same_c h h')
        have HR : Hid (sameBd a b = (a.v == b.v)) := by unfold Hid sameBd; rw [Bool.eq_iff_iff]; simp [h1, h2, h3]
        clear h1 h2 h3
        go_enter Try.func23, Try.ntmps23
        go_wp2_with (go_at_call 12; refine (HS _ (ha.below (((Below.refl w.heap.size w).alloc (Nat.le_refl _) (.cells #[.int .i64 a.o, .int .i64 a.c, .int .i64 a.n, .slice Aa a.v.length ca] 38)).alloc (by simp) (.cells #[.int .i64 b.o, .int .i64 b.c, .int .i64 b.n, .slice Ab b.v.length cb] 38)) (Nat.le_refl _)) (hb.below (((Below.refl w.heap.size w).alloc (Nat.le_refl _) (.cells #[.int .i64 a.o, .int .i64 a.c, .int .i64 a.n, .slice Aa a.v.length ca] 38)).alloc (by simp) (.cells #[.int .i64 b.o, .int .i64 b.c, .int .i64 b.n, .slice Ab b.v.length cb] 38)) (Nat.le_refl _))).out.mono ?_; rintro e w1 ⟨rfl, rfl⟩)
        go_ret
        rw [HR.out]
        exact ⟨rfl, (((Below.refl w.heap.size w).alloc (Nat.le_refl _) (.cells #[.int .i64 a.o, .int .i64 a.c, .int .i64 a.n, .slice Aa a.v.length ca] 38)).alloc (by simp) (.cells #[.int .i64 b.o, .int .i64 b.c, .int .i64 b.n, .slice Ab b.v.length cb] 38))⟩
      · have d3 : (a.n == b.n) = false := beq_eq_false_iff_ne.2 h3
        have HR : Hid (sameBd a b = false) := by unfold Hid sameBd; simp [h3]
        clear h1 h2 h3
        go_enter Try.func23, Try.ntmps23
        go_wp2
        go_ret
        rw [HR.out]
        exact ⟨rfl, (((Below.refl w.heap.size w).alloc (Nat.le_refl _) (.cells #[.int .i64 a.o, .int .i64 a.c, .int .i64 a.n, .slice Aa a.v.length ca] 38)).alloc (by simp) (.cells #[.int .i64 b.o, .int .i64 b.c, .int .i64 b.n, .slice Ab b.v.length cb] 38))⟩
    · have d2 : (a.c == b.c) = false := beq_eq_false_iff_ne.2 h2
      have HR : Hid (sameBd a b = false) := by unfold Hid sameBd; simp [h2]
      clear h1 h2
      go_enter Try.func23, Try.ntmps23
      go_wp2
      go_ret
      rw [HR.out]
      exact ⟨rfl, (((Below.refl w.heap.size w).alloc (Nat.le_refl _) (.cells #[.int .i64 a.o, .int .i64 a.c, .int .i64 a.n, .slice Aa a.v.length ca] 38)).alloc (by simp) (.cells #[.int .i64 b.o, .int .i64 b.c, .int .i64 b.n, .slice Ab b.v.length cb] 38))⟩
  · have d1 : (a.o == b.o) = false := beq_eq_false_iff_ne.2 h1
    have HR : Hid (sameBd a b = false) := by unfold Hid sameBd; simp [h1]
    clear h1
    go_enter Try.func23, Try.ntmps23
    go_wp2
    go_ret
    rw [HR.out]
    exact ⟨rfl, (((Below.refl w.heap.size w).alloc (Nat.le_refl _) (.cells #[.int .i64 a.o, .int .i64 a.c, .int .i64 a.n, .slice Aa a.v.length ca] 38)).alloc (by simp) (.cells #[.int .i64 b.o, .int .i64 b.c, .int .i64 b.n, .slice Ab b.v.length cb] 38))⟩


/-- the same bodies -/
theorem samebds_c {S S' : Foot} {v u : Value} {l m : List Bd} {w : World} (ha : Sl bdE S w v l) (hb : Sl bdE S' w u m) :
    Calls Try.prog 15 #[v, u] w fun e w' => e = .returned (.bool (l == m)) ∧ Below w.heap.size w w' := by
  have ha := ha.any
  have hb := hb.any
  obtain ⟨Aa, ca, rfl, hc1, hc2, _⟩ := ha.shape
  obtain ⟨Ab, cb, rfl, hc3, hc4, _⟩ := hb.shape
  unfold maxLen at hc2 hc4
  by_cases hlen : l.length = m.length
  · have HL := Lib.hid hlen
    have d1 : ((l.length : Int) != (m.length : Int)) = false := by simp; omega
    clear hlen
    go_enter Try.func15, Try.ntmps15
    go_wp2
    go_loopw [5] (fun i wr => ∃ k : Nat, k ≤ l.length ∧ i = .int .i64 k ∧ Hid (l.take k = m.take k) ∧ Below w.heap.size w wr) (fun i _ => l.length - (intOf i).toNat)
    case atStart => exact ⟨0, Nat.zero_le _, rfl, Lib.hid rfl, Below.refl _ _⟩
    case round =>
      obtain ⟨k, hk, rfl, HT, hbr⟩ := hrel
      by_cases hlt : k < l.length
      · have hlt2 : k < m.length := by have := HL.out; omega
        have HS := Lib.hid (⟨List.take_succ_eq_append_getElem hlt, List.take_succ_eq_append_getElem hlt2⟩ : l.take (k + 1) = l.take k ++ [l[k]] ∧ m.take (k + 1) = m.take k ++ [m[k]])
        have HE := Lib.hid (fun (h : l[k] ≠ m[k]) (e : l = m) => h (by subst e; rfl))
        obtain ⟨bx, o1, A1, c1, rfl, x0, x1, x2, x3, hv1⟩ := (ha.below hbr (Nat.le_refl _)).body hlt
        obtain ⟨by_, o2, A2, c2, rfl, y0, y1, y2, y3, hv2⟩ := (hb.below hbr (Nat.le_refl _)).body hlt2
        have xc0 := x0.cell
        have xc1 := x1.cell
        have xc2 := x2.cell
        have xc3 := x3.cell
        have yc0 := y0.cell
        have yc1 := y1.cell
        have yc2 := y2.cell
        have yc3 := y3.cell
        generalize hx : l[k] = x at *
        generalize hy : m[k] = y at *
        have HX := Lib.hid hx
        have HY := Lib.hid hy
        clear hx hy
        have HC := fun (w : World) (h1 : Sl u8E Any w (.slice A1 x.v.length c1) x.v) (h2 : Sl u8E Any w (.slice A2 y.v.length c2) y.v) => samebd_c h1 h2
        rw [sameBd_dec] at HC
        have HD := fun (w : World) (h1 : Sl u8E Any w (.slice A1 x.v.length c1) x.v) (h2 : Sl u8E Any w (.slice A2 y.v.length c2) y.v) => Lib.hid (HC w h1 h2)
        clear HC
        by_cases hxy : x = y
        · rw [decide_eq_true hxy] at HD
          have HZ := Lib.hid hxy
          clear hxy
          go_wp2_with fail
          go_region_held3 (fun w' => w'.cell? ⟨bx, o1 + k * 4, none⟩ = some (.int .i64 x.o) ∧ w'.cell? ⟨bx, o1 + k * 4 + 1, none⟩ = some (.int .i64 x.c) ∧ w'.cell? ⟨bx, o1 + k * 4 + 2, none⟩ = some (.int .i64 x.n) ∧ w'.cell? ⟨bx, o1 + k * 4 + 3, none⟩ = some (.slice A1 x.v.length c1) ∧ w'.cell? ⟨by_, o2 + k * 4, none⟩ = some (.int .i64 y.o) ∧ w'.cell? ⟨by_, o2 + k * 4 + 1, none⟩ = some (.int .i64 y.c) ∧ w'.cell? ⟨by_, o2 + k * 4 + 2, none⟩ = some (.int .i64 y.n) ∧ w'.cell? ⟨by_, o2 + k * 4 + 3, none⟩ = some (.slice A2 y.v.length c2))
            (first | go_keep)
            (first | (go_at_call 23; refine (HD _ (hv1.below (B := wr.heap.size) ((Below.refl _ _).drew) (Nat.le_refl _)) (hv2.below (B := wr.heap.size) ((Below.refl _ _).drew) (Nat.le_refl _))).out.mono ?_; rintro e w1 ⟨rfl, b1⟩; have b1 := bundrew b1; have xk0 := (x0.keep (fun b _ _ hl => b1.block b hl)).cell; have xk1 := (x1.keep (fun b _ _ hl => b1.block b hl)).cell; have xk2 := (x2.keep (fun b _ _ hl => b1.block b hl)).cell; have xk3 := (x3.keep (fun b _ _ hl => b1.block b hl)).cell; have yk0 := (y0.keep (fun b _ _ hl => b1.block b hl)).cell; have yk1 := (y1.keep (fun b _ _ hl => b1.block b hl)).cell; have yk2 := (y2.keep (fun b _ _ hl => b1.block b hl)).cell; have yk3 := (y3.keep (fun b _ _ hl => b1.block b hl)).cell))
          go_wp2
          go_roundw
          case rel => exact ⟨k + 1, by omega, by go_num, by rw [HS.out.1, HS.out.2, HT.out, HZ.out]; exact Lib.hid rfl, bstep hbr b1⟩
          case measure => simp [intOf]; omega
        · rw [decide_eq_false hxy] at HD
          have HR : Hid ((l == m) = false) := by
            unfold Hid
            rw [beq_eq_false_iff_ne]
            exact HE.out hxy
          clear hxy
          go_wp2_with fail
          go_region_held3 (fun w' => w'.cell? ⟨bx, o1 + k * 4, none⟩ = some (.int .i64 x.o) ∧ w'.cell? ⟨bx, o1 + k * 4 + 1, none⟩ = some (.int .i64 x.c) ∧ w'.cell? ⟨bx, o1 + k * 4 + 2, none⟩ = some (.int .i64 x.n) ∧ w'.cell? ⟨bx, o1 + k * 4 + 3, none⟩ = some (.slice A1 x.v.length c1) ∧ w'.cell? ⟨by_, o2 + k * 4, none⟩ = some (.int .i64 y.o) ∧ w'.cell? ⟨by_, o2 + k * 4 + 1, none⟩ = some (.int .i64 y.c) ∧ w'.cell? ⟨by_, o2 + k * 4 + 2, none⟩ = some (.int .i64 y.n) ∧ w'.cell? ⟨by_, o2 + k * 4 + 3, none⟩ = some (.slice A2 y.v.length c2))
            (first | go_keep)
            (first | (go_at_call 23; refine (HD _ (hv1.below (B := wr.heap.size) ((Below.refl _ _).drew) (Nat.le_refl _)) (hv2.below (B := wr.heap.size) ((Below.refl _ _).drew) (Nat.le_refl _))).out.mono ?_; rintro e w1 ⟨rfl, b1⟩; have b1 := bundrew b1; have xk0 := (x0.keep (fun b _ _ hl => b1.block b hl)).cell; have xk1 := (x1.keep (fun b _ _ hl => b1.block b hl)).cell; have xk2 := (x2.keep (fun b _ _ hl => b1.block b hl)).cell; have xk3 := (x3.keep (fun b _ _ hl => b1.block b hl)).cell; have yk0 := (y0.keep (fun b _ _ hl => b1.block b hl)).cell; have yk1 := (y1.keep (fun b _ _ hl => b1.block b hl)).cell; have yk2 := (y2.keep (fun b _ _ hl => b1.block b hl)).cell; have yk3 := (y3.keep (fun b _ _ hl => b1.block b hl)).cell))
          go_wp2
          go_ret
          rw [HR.out]
          exact ⟨rfl, bstep hbr b1⟩
      · have hkl : k = l.length := by omega
        have HR : Hid ((l == m) = true) := by
          have e := HT.out
          rw [hkl, List.take_length, HL.out, List.take_length] at e
          exact Lib.hid (by simpa using e)
        clear hkl
        go_wp2
        go_ret
        rw [HR.out]
        exact ⟨rfl, hbr⟩
  · have HR : Hid ((l == m) = false) := by unfold Hid; rw [beq_eq_false_iff_ne]; exact fun e => hlen (by rw [e])
    have d1 : ((l.length : Int) != (m.length : Int)) = true := by simp; omega
    clear hlen
    go_enter Try.func15, Try.ntmps15
    go_wp2
    go_ret
    rw [HR.out]
    exact ⟨rfl, Below.refl _ _⟩

end Go.Proofs.Ytjcbheeihckgmaa
