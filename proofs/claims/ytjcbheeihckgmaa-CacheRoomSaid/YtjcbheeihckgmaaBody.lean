/- Bodies: how they read. -/
import Derived.Test.YtjcbheeihckgmaaByte
namespace Go.Proofs.Ytjcbheeihckgmaa
open Go.RowKit

structure Bd where
  o : Int
  c : Int
  n : Int
  v : List UInt8
  deriving DecidableEq, Inhabited

def bdE : Enc Bd where
  k := 4
  pos := by omega
  rd := fun S w cs b => ∃ u, cs = [.int .i64 b.o, .int .i64 b.c, .int .i64 b.n, u] ∧ Sl u8E S w u b.v
  len := fun ⟨_, h, _⟩ => by rw [h]; rfl
  mono := fun ⟨u, h, hs⟩ hm => ⟨u, h, hs.mono hm⟩
  keep := fun ⟨u, h, hs⟩ hk => ⟨u, h, hs.keep hk⟩
  one := fun ⟨u, h, hs⟩ x hx => by
    subst h
    obtain ⟨A, cap, rfl, _⟩ := hs.shape
    simp at hx
    rcases hx with rfl | rfl | rfl | rfl <;> rfl

/-- the i-th body of a slice: its four cells -/
theorem Sl.body {S : Foot} {w : World} {A : Option Addr} {n cap : Nat} {l : List Bd} (h : Sl bdE S w (.slice A n cap) l) {i : Nat} (hi : i < l.length) :
    ∃ b off Av cv, A = some ⟨b, off, none⟩ ∧ At S w b (off + i * 4) (.int .i64 l[i].o) ∧ At S w b (off + i * 4 + 1) (.int .i64 l[i].c) ∧ At S w b (off + i * 4 + 2) (.int .i64 l[i].n) ∧
      At S w b (off + i * 4 + 3) (.slice Av l[i].v.length cv) ∧ Sl u8E S w (.slice Av l[i].v.length cv) l[i].v := by
  obtain ⟨_, _, _, _, hc⟩ := h.cells
  obtain ⟨b, off, cs, e, ⟨u, hu, hs⟩, _, hat⟩ := hc i _ (List.getElem?_eq_getElem hi)
  subst hu
  obtain ⟨Av, cv, rfl, _⟩ := hs.shape
  exact ⟨b, off, Av, cv, e, hat 0 _ rfl, hat 1 _ rfl, hat 2 _ rfl, hat 3 _ rfl, hs⟩

def used (l : List Bd) : Nat := (l.map fun b => b.v.length).sum
theorem used_snoc {l : List Bd} {k : Nat} (h : k < l.length) : used (l.take (k + 1)) = used (l.take k) + l[k].v.length := by
  unfold used; rw [List.take_succ_eq_append_getElem h, List.map_append, List.sum_append]; simp
theorem used_le {l : List Bd} (k : Nat) : used (l.take k) ≤ used l := by
  have h := congrArg used (List.take_append_drop k l)
  unfold used at *
  rw [List.map_append, List.sum_append] at h
  omega

/-- the program's Used -/
theorem used_c {S : Foot} {v : Value} {l : List Bd} {w : World} (hp : Sl bdE S w v l) (hu : used l ≤ 4611686018427387904) :
    Calls Try.prog 13 #[v] w fun e w' => e = .returned (.int .i64 (used l : Int)) ∧ Below w.heap.size w w' := by
  obtain ⟨A, cap, rfl, hc1, hc2, _⟩ := hp.shape
  unfold maxLen at hc2
  go_enter Try.func13, Try.ntmps13
  go_wp2
  go_loopw [3, 8] (fun s i wr => ∃ k : Nat, k ≤ l.length ∧ s = .int .i64 (used (l.take k) : Int) ∧ i = .int .i64 k ∧ Below w.heap.size w wr) (fun _ i _ => l.length - (intOf i).toNat)
  case atStart => exact ⟨0, by omega, rfl, rfl, Below.refl _ _⟩
  case round =>
    obtain ⟨k, hk, rfl, rfl, hbr⟩ := hrel
    have hle := used_le (l := l) k
    generalize hd : used (l.take k) = d at *
    have HD := Lib.hid hd
    clear hd
    by_cases hlt : k < l.length
    · have HS := Lib.hid (used_snoc hlt)
      obtain ⟨b, off, Av, cv, rfl, a0, a1, a2, a3, hv⟩ := (hp.below hbr (Nat.le_refl _)).body hlt
      have c0 := a0.cell
      have c1 := a1.cell
      have c2 := a2.cell
      have c3 := a3.cell
      clear a0 a1 a2 a3
      have hle2 := used_le (l := l) (k + 1)
      rw [HS.out, HD.out] at hle2
      go_wp2
      go_roundw
      case rel => exact ⟨k + 1, by omega, by rw [HS.out, HD.out]; go_num, by go_num, hbr.alloc hbr.size _⟩
      case measure => simp [intOf]; omega
    · have hkl := Lib.hid (show k = l.length by omega)
      go_wp2
      go_ret
      refine ⟨?_, hbr⟩
      rw [← HD.out, hkl.out, List.take_length]
      rfl

/-- the document's Used -/
theorem rused_c {S : Foot} {v : Value} {l : List Bd} {w : World} (hp : Sl bdE S w v l) (hu : used l ≤ 4611686018427387904) :
    Calls Try.prog 14 #[v] w fun e w' => e = .returned (.int .i64 (used l : Int)) ∧ w = w' := by
  obtain ⟨A, cap, rfl, hc1, hc2, _⟩ := hp.shape
  unfold maxLen at hc2
  go_enter Try.func14, Try.ntmps14
  go_wp2
  go_loop [3, 4] (fun s i => ∃ k : Nat, k ≤ l.length ∧ s = .int .i64 (used (l.take k) : Int) ∧ i = .int .i64 k) (fun _ i => l.length - (intOf i).toNat)
  case atStart => exact ⟨0, by omega, rfl, rfl⟩
  case round =>
    obtain ⟨k, hk, rfl, rfl⟩ := hrel
    have hle := used_le (l := l) k
    generalize hd : used (l.take k) = d at *
    have HD := Lib.hid hd
    clear hd
    by_cases hlt : k < l.length
    · have HS := Lib.hid (used_snoc hlt)
      obtain ⟨b, off, Av, cv, rfl, a0, a1, a2, a3, hv⟩ := hp.body hlt
      have c3 := a3.cell
      clear a0 a1 a2 a3
      have hle2 := used_le (l := l) (k + 1)
      rw [HS.out, HD.out] at hle2
      go_wp2
      go_round
      case rel => exact ⟨k + 1, by omega, by rw [HS.out, HD.out]; go_num, by go_num⟩
      case measure => simp [intOf]; omega
    · have hkl := Lib.hid (show k = l.length by omega)
      go_wp2
      go_ret
      refine ⟨?_, rfl⟩
      rw [← HD.out, hkl.out, List.take_length]
      rfl

/-! ### formed -/
def stR (c n : Int) : Bool := decide (1 ≤ c ∧ 0 ≤ n ∧ n ≤ 63)
def right (b : Bd) : Bool := decide (0 ≤ b.o ∧ b.o ≤ 255) && (stR b.c b.n && decide (b.v.length ≤ 256))

theorem stR_c (c n : Int) (w : World) :
    Calls Try.prog 33 #[.agg #[.int .i64 c, .int .i64 n]] w fun e w' => e = .returned (.bool (stR c n)) ∧ Below w.heap.size w w' := by
  by_cases h1 : 0 < c
  · have d1 : decide (0 < c) = true := decide_eq_true h1
    by_cases h2 : 0 ≤ n
    · have d2 : decide (0 ≤ n) = true := decide_eq_true h2
      by_cases h3 : n < 64
      · have d3 : decide (n < 64) = true := decide_eq_true h3
        have HR : Hid (stR c n = true) := by unfold Hid stR; simp; omega
        go_enter Try.func33, Try.ntmps33
        go_wp2
        go_ret
        rw [HR.out]
        exact ⟨rfl, (Below.refl _ _).alloc (Nat.le_refl _) _⟩
      · have d3 : decide (n < 64) = false := decide_eq_false h3
        have HR : Hid (stR c n = false) := by unfold Hid stR; simp; omega
        go_enter Try.func33, Try.ntmps33
        go_wp2
        go_ret
        rw [HR.out]
        exact ⟨rfl, (Below.refl _ _).alloc (Nat.le_refl _) _⟩
    · have d2 : decide (0 ≤ n) = false := decide_eq_false h2
      have HR : Hid (stR c n = false) := by unfold Hid stR; simp; omega
      go_enter Try.func33, Try.ntmps33
      go_wp2
      go_ret
      rw [HR.out]
      exact ⟨rfl, (Below.refl _ _).alloc (Nat.le_refl _) _⟩
  · have d1 : decide (0 < c) = false := decide_eq_false h1
    have HR : Hid (stR c n = false) := by unfold Hid stR; simp; omega
    go_enter Try.func33, Try.ntmps33
    go_wp2
    go_ret
    rw [HR.out]
    exact ⟨rfl, (Below.refl _ _).alloc (Nat.le_refl _) _⟩
end Go.Proofs.Ytjcbheeihckgmaa
