/- The cache layer's laws, walked: alive, great. -/
import Derived.Test.YtjcbheeihckgmaaBodl
import Derived.Lib.SlBytesConst
import Derived.Lib.SmallJoins
namespace Go.Proofs.Ytjcbheeihckgmaa
open Go.RowKit

def abc : List UInt8 := [97, 98, 99]
def de : List UInt8 := [100, 101]
def x1 : Bd := ⟨1, 1, 0, abc⟩
def x2 : Bd := ⟨2, 2, 0, de⟩
theorem put1 : put [] 4 x1 = [x1] ∧ pute [] 4 x1 = 0 := by decide +kernel
theorem put2 : put [x1] 4 x2 = [x2] ∧ pute [x1] 4 x2 = 0 := by decide +kernel
theorem get2 : gotv 2 2 0 [x2] = de ∧ gote 2 2 0 [x2] = 0 := by decide +kernel
/-- the fixed fact -/
theorem alive_c {w : World} : Calls Try.prog 7 #[] w fun e w' => e = .returned (.bool true) ∧ Below w.heap.size w w' := by
  have hbS : Below w.heap.size w ((w.alloc (.cells #[.int .i64 1, .int .i64 0] 24)).alloc (.cells #[.int .i64 2, .int .i64 0] 24)) := ((Below.refl _ _).alloc (Nat.le_refl _) _).alloc (by simp) _
  have hsz : ((w.alloc (.cells #[.int .i64 1, .int .i64 0] 24)).alloc (.cells #[.int .i64 2, .int .i64 0] 24)).heap.size = w.heap.size + 1 + 1 := by simp
  have kc1 := Go.Joins.run_convert_bytes_const_at (P := Try.prog) ((w.alloc (.cells #[.int .i64 1, .int .i64 0] 24)).alloc (.cells #[.int .i64 2, .int .i64 0] 24)) 28 5 #[.int .u8 97, .int .u8 98, .int .u8 99] 3 3 (w.heap.size + 1 + 1) hsz.symm Try.underlying28 Try.underlying5
  have hx1 : Sl u8E Any (((w.alloc (.cells #[.int .i64 1, .int .i64 0] 24)).alloc (.cells #[.int .i64 2, .int .i64 0] 24)).alloc (.cells #[.int .u8 97, .int .u8 98, .int .u8 99] 5 (3, 4))) (.slice (some ⟨w.heap.size + 1 + 1, 0, none⟩) 3 3) x1.v := by
    have := bytes_block ((w.alloc (.cells #[.int .i64 1, .int .i64 0] 24)).alloc (.cells #[.int .i64 2, .int .i64 0] 24)) abc 5 (3, 4) (by decide)
    rw [hsz] at this
    exact this
  have HP1 := Lib.hid (put_c (S := Any) (l := []) (room := 4) (x := x1) Sl.nil hx1 (by decide) (by decide))
  rw [put1.1, put1.2] at HP1
  have hb1 : Below w.heap.size w (((w.alloc (.cells #[.int .i64 1, .int .i64 0] 24)).alloc (.cells #[.int .i64 2, .int .i64 0] 24)).alloc (.cells #[.int .u8 97, .int .u8 98, .int .u8 99] 5 (3, 4))) := hbS.alloc hbS.size _
  go_enter Try.func7, Try.ntmps7
  go_wp2_with fail
  refine HP1.out.mono ?_
  rintro e w1 ⟨v1, rfl, o1, b1⟩
  have hbw1 := bstep hb1 b1
  have hbt : Below (w.heap.size + 2) ((w.alloc (.cells #[.int .i64 1, .int .i64 0] 24)).alloc (.cells #[.int .i64 2, .int .i64 0] 24)) w1 := (((Below.refl (w.heap.size + 2) ((w.alloc (.cells #[.int .i64 1, .int .i64 0] 24)).alloc (.cells #[.int .i64 2, .int .i64 0] 24))).alloc (by simp) _).trans (b1.mono (by simp)))
  have q0 : w1.cell? ⟨w.heap.size + 1, 0, none⟩ = some (.int .i64 2) := (hbt.cell (p := ⟨w.heap.size + 1, 0, none⟩) (by simp)).trans (by simp)
  have q1 : w1.cell? ⟨w.heap.size + 1, 1, none⟩ = some (.int .i64 0) := (hbt.cell (p := ⟨w.heap.size + 1, 1, none⟩) (by simp)).trans (by simp)
  have kc2 := Lib.run_convert_bytes_const (P := Try.prog) w1 28 5 #[.int .u8 100, .int .u8 101] 2 2 Try.underlying28 Try.underlying5
  have hx2 : Sl u8E Any (w1.alloc (.cells #[.int .u8 100, .int .u8 101] 5 (2, 3))) (.slice (some ⟨w1.heap.size, 0, none⟩) 2 2) x2.v := bytes_block w1 de 5 (2, 3) (by decide)
  have hl1 := o1.slAny.below (B := w1.heap.size) ((Below.refl _ _).alloc (Nat.le_refl _) (.cells #[.int .u8 100, .int .u8 101] 5 (2, 3))) (Nat.le_refl _)
  have HP2 := Lib.hid (put_c (room := 4) (x := x2) hl1 hx2 (by decide) (by decide))
  rw [put2.1, put2.2] at HP2
  clear o1 HP1 kc1 hx1
  go_wp2_with fail
  refine HP2.out.mono ?_
  rintro e w2 ⟨v2, rfl, o2, b2⟩
  have hbw2 := bstep (hbw1.alloc hbw1.size (.cells #[.int .u8 100, .int .u8 101] 5 (2, 3))) b2
  have hb12 : Below w1.heap.size w1 w2 := ((Below.refl _ _).alloc (Nat.le_refl _) _).trans (b2.mono (by simp))
  have hlt1 : w.heap.size + 1 < w1.heap.size := by have := hbt.size; simp at this; omega
  have r0 := (hb12.cell (p := ⟨w.heap.size + 1, 0, none⟩) hlt1).trans q0
  have r1 := (hb12.cell (p := ⟨w.heap.size + 1, 1, none⟩) hlt1).trans q1
  obtain ⟨A2, c2, rfl, _⟩ := o2.slAny.shape
  have HG := Lib.hid (get_c (o := 2) (c := 2) (n := 0) o2.slAny (by decide))
  rw [get2.1, get2.2] at HG
  clear o2 HP2 kc2 hx2 hl1 q0 q1
  go_wp2_with fail
  refine HG.out.mono ?_
  rintro e w3 ⟨v3, rfl, o3, b3⟩
  have kd := run_convert_sl (P := Try.prog) 28 9 5 Try.underlying28 Try.underlying5 Try.underlying9 o3.slAny
  clear HG
  go_wp2
  go_ret
  exact ⟨rfl, bstep hbw2 b3⟩
/-! great -/
theorem great_c {S : Foot} {v : Value} {l : List Bd} {w : World} (hp : Sl bdE S w v l) (hl : l.length ≤ 4611686018427387904) (hv : ∀ b ∈ l, b.v.length ≤ 4611686018427387904) :
    Calls Try.prog 8 #[v] w fun e w' => e = .returned (.bool (decide (1048576 ≤ l.length + used l))) ∧ w = w' := by
  obtain ⟨A, cap, rfl, hc1, hc2, _⟩ := hp.shape
  unfold maxLen at hc2
  go_enter Try.func8, Try.ntmps8
  go_wp2
  go_loop [3, 4] (fun s i => ∃ k : Nat, k ≤ l.length ∧ s = .int .i64 ((l.length + used (l.take k) : Nat) : Int) ∧ i = .int .i64 k ∧ l.length + used (l.take k) ≤ 4611686018428436480) (fun _ i => l.length - (intOf i).toNat)
  case atStart => exact ⟨0, Nat.zero_le _, rfl, rfl, by rw [List.take_zero, used_nil]; omega⟩
  case round =>
    obtain ⟨k, hk, rfl, rfl, hle3⟩ := hrel
    have hle := used_le (l := l) k
    by_cases hlt : k < l.length
    · have hle2 := hv _ (List.getElem_mem hlt)
      have HS := Lib.hid (used_snoc hlt)
      obtain ⟨b, off, Av, cv, rfl, a0, a1, a2, a3, _⟩ := hp.body hlt
      have c3 := a3.cell
      clear a0 a1 a2 a3
      generalize hd : l.length + used (l.take k) = d at *
      have HD := Lib.hid hd
      clear hd
      by_cases hg : (d : Int) < 1048576
      · have d1 : decide ((d : Int) < 1048576) = true := decide_eq_true hg
        go_wp2
        go_round
        case rel => exact ⟨k + 1, by omega, by rw [HS.out, ← Nat.add_assoc, HD.out]; go_num, by go_num, by rw [HS.out, ← Nat.add_assoc, HD.out]; omega⟩
        case measure => simp [intOf]; omega
      · have d1 : decide ((d : Int) < 1048576) = false := decide_eq_false hg
        have HR : Hid (decide (1048576 ≤ l.length + used l) = true ∧ decide ((1048576 : Int) ≤ (d : Int)) = true) := Lib.hid ⟨decide_eq_true (by have := HD.out; omega), decide_eq_true (by omega)⟩
        go_wp2
        go_ret
        rw [HR.out.1]
        exact ⟨by simp, rfl⟩
    · have HK : Hid (decide (1048576 ≤ l.length + used l) = decide ((1048576 : Int) ≤ ((l.length + used (l.take k) : Nat) : Int))) := by
        have : k = l.length := by omega
        subst this
        rw [List.take_length]
        exact Lib.hid (by rw [decide_eq_decide]; omega)
      generalize l.length + used (l.take k) = d at *
      go_wp2
      go_ret
      rw [HK.out]
      exact ⟨rfl, rfl⟩

/-! CacheForgets -/
theorem forget_append (l m : List Bd) (o : Int) : forget (l ++ m) o = forget l o ++ forget m o := List.filter_append ..
theorem forget_forget (l : List Bd) (o : Int) : forget (forget l o) o = forget l o := by
  unfold forget; rw [List.filter_filter]; congr 1; funext b; simp
theorem forget_at {l : List Bd} {k : Nat} {o : Int} (h : k < l.length) (ho : l[k].o ≠ o) : (forget l o)[(forget (l.take k) o).length]? = some l[k] := by
  have e : forget l o = forget (l.take k) o ++ forget (l.drop k) o := by rw [← forget_append, List.take_append_drop]
  rw [e, List.getElem?_append_right (Nat.le_refl _), Nat.sub_self, List.drop_eq_getElem_cons h]
  unfold forget
  rw [List.filter_cons, if_pos (by simpa using ho)]
  rfl

theorem cacheforgets_c {S : Foot} {v : Value} {l : List Bd} {o : Int} {w : World} (hp : Sl bdE S w v l) (hl : l.length ≤ 4611686018427387904) (hv : ∀ b ∈ l, b.v.length ≤ 4611686018427387904) :
    Calls Try.prog 6 #[v, .int .i64 o] w fun e w' => e = .returned (.bool true) ∧ Below w.heap.size w w' := by
  have hp := hp.any
  obtain ⟨A, cap, rfl, hc1, hc2, _⟩ := hp.shape
  unfold maxLen at hc2
  go_enter Try.func6, Try.ntmps6
  go_wp2_with fail
  refine (alive_c (w := w)).mono ?_
  rintro e w1 ⟨rfl, b1⟩
  have hp1 := hp.below b1 (Nat.le_refl _)
  have HG := Lib.hid (great_c hp1 hl hv)
  by_cases hg : 1048576 ≤ l.length + used l
  · rw [decide_eq_true hg] at HG
    clear hg
    go_wp2_with fail
    refine HG.out.mono ?_
    rintro e w2 ⟨rfl, rfl⟩
    go_wp2
    go_ret
    exact ⟨rfl, b1⟩
  rw [decide_eq_false hg] at HG
  have HF1 := Lib.hid (forget_c o hp1 (by omega) (by omega))
  go_wp2_with fail
  refine HG.out.mono ?_
  rintro e w2 ⟨rfl, rfl⟩
  go_wp2_with fail
  refine HF1.out.mono ?_
  rintro e w2 ⟨x2, rfl, o2, b2⟩
  have hx2 := o2.slAny
  have hlen := forget_len l o
  have hus := used_forget l o
  have HF2 := Lib.hid (forget_c o hx2 (by omega) (by omega))
  rw [forget_forget] at HF2
  obtain ⟨Ax, cx, rfl, he1, he2, _⟩ := hx2.shape
  unfold maxLen at he2
  go_wp2_with fail
  refine HF2.out.mono ?_
  rintro e w3 ⟨x3, rfl, o3, b3⟩
  have hx3 := o3.slAny
  have hx2 := hx2.below b3 (Nat.le_refl _)
  have hb3 := bstep (bstep b1 b2) b3
  have hp3 := hp.below hb3 (Nat.le_refl _)
  have HAT := fun k (h : k < l.length) (ho : l[k].o ≠ o) => Lib.hid (forget_at h ho)
  have HSN := fun k (h : k < l.length) => Lib.hid (forget_snoc o h)
  have hlen2 := fun k => forget_len (l.take k) o
  clear HF1 HF2 HG o2 o3 hp1 hg
  generalize hfl : forget l o = fl at *
  have HFL := Lib.hid hfl
  clear hfl
  go_wp2
  go_loopw [7, 8] (fun n i wr => ∃ k m : Nat, k ≤ l.length ∧ i = .int .i64 k ∧ n = .int .i64 m ∧ Hid (k = (forget (l.take k) o).length + m) ∧ Below w3.heap.size w3 wr) (fun _ i _ => l.length - (intOf i).toNat)
  case atStart => exact ⟨0, 0, Nat.zero_le _, rfl, rfl, Lib.hid rfl, Below.refl _ _⟩
  case round =>
    obtain ⟨k, m, hk, rfl, rfl, HM, hbr⟩ := hrel
    have hm : m ≤ k := by have := HM.out; omega
    by_cases hlt : k < l.length
    · obtain ⟨by_, oy, A2, c2, rfl, y0, y1, y2, y3, hv2⟩ := (hp3.below hbr (Nat.le_refl _)).body hlt
      have HA := fun h => HAT k hlt h
      have HS := HSN k hlt
      have yc0 := y0.cell
      have yc1 := y1.cell
      have yc2 := y2.cell
      have yc3 := y3.cell
      generalize hx : l[k] = x at *
      clear hx
      by_cases ho : x.o = o
      · have d1 : (x.o == o) = true := beq_iff_eq.2 ho
        have HS2 := HS.out
        rw [if_pos ho] at HS2
        have HS3 := Lib.hid HS2
        clear ho HS2
        go_wp2
        go_roundw
        case rel => exact ⟨k + 1, m + 1, by omega, by go_num, by go_num, by have h1 := HS3.out; have h2 := HM.out; unfold Hid; rw [h1]; omega, hbr⟩
        case measure => simp [intOf]; omega
      · have d1 : (x.o == o) = false := beq_eq_false_iff_ne.2 ho
        have HS2 := HS.out
        rw [if_neg ho] at HS2
        have HS3 := Lib.hid HS2
        have HA2 := (HA ho).out
        clear ho HS2 HA
        generalize hj : (forget (l.take k) o).length = j at *
        have hjl : j < fl.length := by
          rcases Nat.lt_or_ge j fl.length with h | h
          · exact h
          · rw [List.getElem?_eq_none h] at HA2; cases HA2
        have hfx : fl[j] = x := by rw [List.getElem?_eq_getElem hjl] at HA2; injection HA2
        have hsub : (k : Int) - (m : Int) = (j : Int) := by have := HM.out; omega
        have hwr : IntKind.i64.wrap (j : Int) = (j : Int) := IntWalk.i64_in _ (by omega)
        have d2 : decide ((fl.length : Int) ≤ (j : Int)) = false := decide_eq_false (by omega)
        have d3 : decide (fl.length ≤ j) = false := decide_eq_false (by omega)
        have i1 : (j : Int) < (fl.length : Int) := by omega
        have i2 : (0 : Int) ≤ (j : Int) := by omega
        have i3 : (k : Int) < (l.length : Int) := by omega
        have i4 : (0 : Int) ≤ (k : Int) := by omega
        obtain ⟨bx, ox, A1, c1, rfl, x0, x1, x2, x3, hv1⟩ := (hx2.below hbr (Nat.le_refl _)).body hjl
        rw [hfx] at x0 x1 x2 x3 hv1
        have HJ := Lib.hid hj
        have xc0 := x0.cell
        have xc1 := x1.cell
        have xc2 := x2.cell
        have xc3 := x3.cell
        have HC := fun (w : World) (h1 : Sl u8E Any w (.slice A1 x.v.length c1) x.v) (h2 : Sl u8E Any w (.slice A2 x.v.length c2) x.v) => samebd_c h1 h2
        rw [sameBd_dec, decide_eq_true rfl] at HC
        have HD := fun (w : World) (h1 : Sl u8E Any w (.slice A1 x.v.length c1) x.v) (h2 : Sl u8E Any w (.slice A2 x.v.length c2) x.v) => Lib.hid (HC w h1 h2)
        clear HC HA2 hfx hj
        go_wp2_with fail
        go_region_held3 (fun w' => w'.cell? ⟨bx, ox + j * 4, none⟩ = some (.int .i64 x.o) ∧ w'.cell? ⟨bx, ox + j * 4 + 1, none⟩ = some (.int .i64 x.c) ∧ w'.cell? ⟨bx, ox + j * 4 + 2, none⟩ = some (.int .i64 x.n) ∧ w'.cell? ⟨bx, ox + j * 4 + 3, none⟩ = some (.slice A1 x.v.length c1) ∧ w'.cell? ⟨by_, oy + k * 4, none⟩ = some (.int .i64 x.o) ∧ w'.cell? ⟨by_, oy + k * 4 + 1, none⟩ = some (.int .i64 x.c) ∧ w'.cell? ⟨by_, oy + k * 4 + 2, none⟩ = some (.int .i64 x.n) ∧ w'.cell? ⟨by_, oy + k * 4 + 3, none⟩ = some (.slice A2 x.v.length c2))
          (first | go_keep)
          (first | (go_at_call 23; refine (HD _ (hv1.below (B := wr.heap.size) ((Below.refl _ _).drew) (Nat.le_refl _)) (hv2.below (B := wr.heap.size) ((Below.refl _ _).drew) (Nat.le_refl _))).out.mono ?_; rintro e w4 ⟨rfl, b1⟩; have b1 := bundrew b1; have xk0 := (x0.keep (fun b _ _ hl => b1.block b hl)).cell; have xk1 := (x1.keep (fun b _ _ hl => b1.block b hl)).cell; have xk2 := (x2.keep (fun b _ _ hl => b1.block b hl)).cell; have xk3 := (x3.keep (fun b _ _ hl => b1.block b hl)).cell; have yk0 := (y0.keep (fun b _ _ hl => b1.block b hl)).cell; have yk1 := (y1.keep (fun b _ _ hl => b1.block b hl)).cell; have yk2 := (y2.keep (fun b _ _ hl => b1.block b hl)).cell; have yk3 := (y3.keep (fun b _ _ hl => b1.block b hl)).cell))
        go_wp2
        go_roundw
        case rel => exact ⟨k + 1, m, by omega, by go_num, rfl, by have h1 := HS3.out; have h2 := HM.out; have h3 := HJ.out; unfold Hid; rw [h1, List.length_append, h3]; simp; omega, bstep hbr b1⟩
        case measure => simp [intOf]; omega
    · have HE : Hid ((l.length : Int) - (m : Int) = (fl.length : Int)) := by
        have h := HM.out
        have e : k = l.length := by omega
        rw [e, List.take_length, HFL.out] at h
        exact Lib.hid (by omega)
      have hsub := HE.out
      have hwr : IntKind.i64.wrap (fl.length : Int) = (fl.length : Int) := IntWalk.i64_in _ (by omega)
      have hb4 := bstep hb3 hbr
      have HC := Lib.hid (samebds_c (hx2.below hbr (Nat.le_refl _)) (hx3.below hbr (Nat.le_refl _)))
      go_wp2_with (go_at_call 15; refine HC.out.mono ?_; rintro e w4 ⟨rfl, b4⟩)
      go_ret
      exact ⟨by simp, bstep hb4 b4⟩
end Go.Proofs.Ytjcbheeihckgmaa
