/- NetOneByte: the plain law: what befalls packets. -/
import Derived.Test.YtggmhhbhpmfcnaaPay
namespace Go.Proofs.Ytggmhhbhpmfcnaa
open Go.RowKit

/-- sent from there to there -/
def Src (list : List (List UInt8)) (p : Pk) : Prop := ∃ (i : Nat) (h : i < list.length), p.f = ((i % 3 : Nat) : Int) ∧ p.t = ((3 + i % 2 : Nat) : Int) ∧ p.s = list[i]
structure Good (list : List (List UInt8)) (l : List Pk) (n : Nat) : Prop where
  len : l.length ≤ n
  ok : ∀ p ∈ l, rightB p = true ∧ Src list p

theorem odd_same : ∀ s : List UInt8, oddN s s = 0
  | [] => rfl
  | a :: r => by
    have := odd_same r
    unfold oddN at *
    simpa using this
theorem odd_set : ∀ (s : List UInt8) (k : Nat) (y : UInt8), oddN s (s.set k y) ≤ 1
  | [], _, _ => by simp [oddN]
  | a :: r, 0, y => by
    have h := odd_same r
    unfold oddN at *
    rw [List.set_cons_zero, List.zip_cons_cons, List.filter_cons]
    split <;> simp [h]
  | a :: r, k + 1, y => by
    have h := odd_set r k y
    unfold oddN at *
    rw [List.set_cons_succ, List.zip_cons_cons, List.filter_cons, if_neg (by simp)]
    exact h
theorem right_parts {p : Pk} (h : rightB p = true) : endsB p.f p.t = true ∧ p.s.length = p.h.length ∧ oddN p.s p.h ≤ 1 := by
  unfold rightB at h
  simp at h
  exact ⟨h.1, h.2.1, h.2.2⟩
theorem right_of {p : Pk} (h1 : endsB p.f p.t = true) (h2 : p.s.length = p.h.length) (h3 : oddN p.s p.h ≤ 1) : rightB p = true := by
  unfold rightB
  simp [h1, h2, h3]

theorem Good.formed {list : List (List UInt8)} {l : List Pk} {n : Nat} (h : Good list l n) (hn : n ≤ 4096) : formedB l = true := by
  unfold formedB
  rw [decide_eq_true (Nat.le_trans h.len hn), List.all_eq_true.2 fun p hp => (h.ok p hp).1]
  rfl
theorem Good.fit {list : List (List UInt8)} {l : List Pk} {n : Nat} (h : Good list l n) (hl : ∀ b ∈ list, b.length ≤ 140737488355328) : Fit l := by
  intro p hp
  obtain ⟨h1, i, hi, _, _, e⟩ := h.ok p hp
  have := hl _ (List.getElem_mem hi)
  have h2 := (right_parts h1).2.1
  rw [← e] at this
  exact ⟨this, by omega⟩
theorem Good.nil {list : List (List UInt8)} {n : Nat} : Good list [] n := ⟨Nat.zero_le _, by intro p hp; cases hp⟩
theorem Good.mono {list : List (List UInt8)} {l : List Pk} {n m : Nat} (h : Good list l n) (hn : n ≤ m) : Good list l m := ⟨Nat.le_trans h.len hn, h.ok⟩
theorem Good.sub {list : List (List UInt8)} {l m : List Pk} {n : Nat} (h : Good list l n) (hs : m.Sublist l) : Good list m n := ⟨Nat.le_trans hs.length_le h.len, fun p hp => h.ok p (hs.subset hp)⟩
theorem good_send {list : List (List UInt8)} {l : List Pk} {k : Nat} (h : Good list l k) (hk : k < list.length) (h20 : k ≤ 20) {f t : Int} (hf : f = ((k % 3 : Nat) : Int)) (ht : t = ((3 + k % 2 : Nat) : Int)) :
    sendE l f t [list[k]] = 0 ∧ Good list (sends l f t [list[k]]) (k + 1) := by
  have hlen := h.len
  have hfm := h.formed (by omega)
  have he : endsB f t = true := by unfold endsB; simp; omega
  have hr : rightB (mk f t list[k]) = true := right_of he rfl (by show oddN list[k] list[k] ≤ 1; rw [odd_same]; omega)
  refine ⟨by unfold sendE; rw [if_pos ⟨hfm, he⟩, if_pos (by simp; omega)], ?_⟩
  unfold sends
  rw [if_pos ⟨hfm, he, by simp; omega⟩]
  refine ⟨by simp; omega, fun p hp => ?_⟩
  rcases List.mem_append.1 hp with hp | hp
  · exact h.ok p hp
  · have hp : p = mk f t list[k] := by simpa using hp
    subst hp
    exact ⟨hr, k, hk, hf, ht, rfl⟩
theorem atE_or (l : List Pk) (i : Int) : atE l i = 0 ∨ atE l i = 1 ∨ atE l i = 16 := by
  unfold atE
  split
  · split
    · exact .inl rfl
    · exact .inr (.inr rfl)
  · exact .inr (.inl rfl)
theorem good_copy {list : List (List UInt8)} {l : List Pk} {n : Nat} (h : Good list l n) (hn : n < 4096) (i : Int) :
    (copyE l i = 0 ∧ Good list (copies l i) (n + 1)) ∨ copyE l i = 1 ∨ copyE l i = 16 := by
  have hlen := h.len
  unfold copyE copies
  by_cases hE : atE l i = 0
  · rw [if_pos hE, if_neg (by omega), if_pos ⟨hE, by omega⟩]
    obtain ⟨k, rfl, hk, _⟩ := atE_ok hE
    refine .inl ⟨rfl, by simp; omega, fun p hp => ?_⟩
    rcases List.mem_append.1 hp with hp | hp
    · exact h.ok p hp
    · rw [Int.toNat_natCast, List.getD_eq_getElem?_getD, List.getElem?_eq_getElem hk] at hp
      have hp : p = l[k] := by simpa using hp
      subst hp
      exact h.ok _ (List.getElem_mem hk)
  · rw [if_neg hE]
    rcases atE_or l i with h | h | h
    · exact absurd h hE
    · exact .inr (.inl h)
    · exact .inr (.inr h)
theorem good_rest {list : List (List UInt8)} {l : List Pk} {n : Nat} (h : Good list l n) (i : Int) : Good list (rest l i) n := by
  unfold rest
  split
  · exact h.sub (List.eraseIdx_sublist _ _)
  · exact Good.nil
theorem good_spoil {list : List (List UInt8)} {l : List Pk} {n : Nat} (h : Good list l n) (i k t : Int) :
    (spoilE l i k t = 0 ∧ Good list (spoils l i k t) n) ∨ spoilE l i k t = 1 ∨ spoilE l i k t = 16 := by
  by_cases hE : atE l i = 0
  · by_cases hS : spoilE l i k t = 0
    · refine .inl ⟨hS, ?_⟩
      unfold spoils
      rw [if_pos hS]
      obtain ⟨m, rfl, hm, _⟩ := atE_ok hE
      rw [Int.toNat_natCast, show l.getD m dflt = l[m] by rw [List.getD_eq_getElem?_getD, List.getElem?_eq_getElem hm]; rfl]
      obtain ⟨h1, h2⟩ := h.ok _ (List.getElem_mem hm)
      refine ⟨by rw [List.length_set]; exact h.len, fun p hp => ?_⟩
      rcases List.mem_or_eq_of_mem_set hp with hp | rfl
      · exact h.ok p hp
      · exact ⟨right_of (right_parts h1).1 (by simp [turnB]) (odd_set _ _ _), h2⟩
    · have : spoilE l i k t = 1 := by
        unfold spoilE at *
        rw [if_pos hE] at *
        split at hS
        · exact absurd rfl hS
        · rename_i h
          rw [if_neg h]
      exact .inr (.inl this)
  · have e : spoilE l i k t = atE l i := by unfold spoilE; rw [if_neg hE]
    rw [e]
    rcases atE_or l i with h | h | h
    · exact absurd h hE
    · exact .inr (.inl h)
    · exact .inr (.inr h)
/-- the last one is delivered -/
theorem good_last {list : List (List UInt8)} {l : List Pk} {n : Nat} (h : Good list l n) (hn : n ≤ 4096) (hl : 0 < l.length) {i : Int} (hi : i = (l.length : Int) - 1) :
    atE l i = 0 ∧ (rest l i).length = l.length - 1 ∧ Good list (rest l i) n ∧ rightB (dlv l i) = true ∧ Src list (dlv l i) := by
  have hE : atE l i = 0 := by unfold atE; rw [if_pos (h.formed hn), if_pos (by omega)]
  obtain ⟨k, rfl, hk, _⟩ := atE_ok hE
  have hd : dlv l k = l[k] := by unfold dlv; rw [if_pos hE, Int.toNat_natCast, List.getD_eq_getElem?_getD, List.getElem?_eq_getElem hk]; rfl
  have := h.ok _ (List.getElem_mem hk)
  rw [hd]
  refine ⟨hE, ?_, good_rest h _, this.1, this.2⟩
  unfold rest
  rw [if_pos hE, List.length_eraseIdx, Int.toNat_natCast, if_pos hk]
end Go.Proofs.Ytggmhhbhpmfcnaa
