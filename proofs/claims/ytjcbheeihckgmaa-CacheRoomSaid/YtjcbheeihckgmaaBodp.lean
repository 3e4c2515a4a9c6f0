/- The plain law of CacheRoom: what puts leave. -/
import Derived.Test.YtjcbheeihckgmaaBodo
namespace Go.Proofs.Ytjcbheeihckgmaa
open Go.RowKit

theorem trim_suffix {room : Int} : ∀ l : List Bd, ∃ k, trim room l = l.drop k
  | [] => ⟨0, rfl⟩
  | b :: r => by
    rw [trim]
    split
    · obtain ⟨k, hk⟩ := trim_suffix (room := room) r
      exact ⟨k + 1, by rw [hk, List.drop_succ_cons]⟩
    · exact ⟨0, rfl⟩
theorem trim_used {room : Int} (h0 : 0 ≤ room) : ∀ l : List Bd, (used (trim room l) : Int) ≤ room
  | [] => by simpa [trim, used] using h0
  | b :: r => by
    rw [trim]
    split
    · exact trim_used h0 r
    · omega
theorem trim_sub {room : Int} (l : List Bd) : (trim room l).Sublist l := by
  obtain ⟨k, hk⟩ := trim_suffix (room := room) l
  rw [hk]
  exact List.drop_sublist k l
theorem trim_keeps {room : Int} {x : Bd} (hx : (x.v.length : Int) ≤ room) : ∀ l : List Bd, ∃ m, trim room (l ++ [x]) = m ++ [x]
  | [] => by
    refine ⟨[], ?_⟩
    rw [List.nil_append, trim, if_neg (by rw [used_cons, used_nil]; omega)]
  | b :: r => by
    rw [List.cons_append, trim]
    split
    · exact trim_keeps hx r
    · exact ⟨b :: r, rfl⟩
theorem trim_gone {room : Int} {x : Bd} (hx : room < (x.v.length : Int)) : ∀ l : List Bd, trim room (l ++ [x]) = []
  | [] => by
    rw [List.nil_append, trim, if_pos (by rw [used_cons, used_nil]; omega)]
    rfl
  | b :: r => by
    rw [List.cons_append, trim, if_pos (by rw [used_cons, used_append, used_cons, used_nil]; omega)]
    exact trim_gone hx r
theorem forget_sub (l : List Bd) (o : Int) : (forget l o).Sublist l := List.filter_sublist
theorem fine_sub {l m : List Bd} (h : l.Sublist m) (hm : fine m = true) : fine l = true := by
  unfold fine objs at *
  simp only [Bool.and_eq_true, decide_eq_true_eq, List.all_eq_true] at *
  exact ⟨fun x hx => hm.1 x (h.subset hx), hm.2.sublist (h.map _)⟩
theorem fine_put {l : List Bd} {x : Bd} (hl : fine l = true) (hx : right x = true) : fine (forget l x.o ++ [x]) = true := by
  have h1 := fine_sub (forget_sub l x.o) hl
  unfold fine objs at *
  simp only [Bool.and_eq_true, decide_eq_true_eq, List.all_eq_true] at *
  refine ⟨fun y hy => ?_, ?_⟩
  · rcases List.mem_append.1 hy with h | h
    · exact h1.1 y h
    · rw [List.mem_singleton] at h; rw [h]; exact hx
  · rw [List.map_append]
    refine nodup_snoc.2 ⟨h1.2, fun h => ?_⟩
    obtain ⟨y, hy, he⟩ := List.mem_map.1 h
    unfold forget at hy
    have := (List.mem_filter.1 hy).2
    simp at this
    exact this he
/-- behind a put of a right body onto formed ones -/
theorem put_law {l came : List Bd} {room : Int} {x : Bd} (h0 : 0 ≤ room) (h1 : room ≤ 65535) (hf : fine l = true) (hu : (used l : Int) ≤ room) (hs : l.Sublist came) (hc : came.length ≤ 60) (hx : right x = true) :
    formed l room = true ∧ put l room x = trim room (forget l x.o ++ [x]) ∧ pute l room x = 0 ∧ fine (put l room x) = true ∧ (used (put l room x) : Int) ≤ room ∧ (put l room x).Sublist (came ++ [x]) := by
  have hlen := hs.length_le
  have hform : formed l room = true := by
    unfold formed
    rw [hf, decide_eq_true hu, decide_eq_true (by omega)]
    rfl
  have hput : put l room x = trim room (forget l x.o ++ [x]) := by unfold put; rw [hform, hx]; rfl
  refine ⟨hform, hput, by unfold pute; rw [hform, hx]; rfl, ?_, ?_, ?_⟩
  · rw [hput]; exact fine_sub (trim_sub _) (fine_put hf hx)
  · rw [hput]; exact trim_used h0 _
  · rw [hput]; exact (trim_sub _).trans (((forget_sub l x.o).trans hs).append (List.Sublist.refl _))
theorem put_get {l : List Bd} {room : Int} {x : Bd} (hp : put l room x = trim room (forget l x.o ++ [x])) :
    ((x.v.length : Int) ≤ room → gotv x.o x.c x.n (put l room x) = x.v ∧ gote x.o x.c x.n (put l room x) = 0) ∧ (room < (x.v.length : Int) → gote x.o x.c x.n (put l room x) = 10) := by
  refine ⟨fun hx => ?_, fun hx => ?_⟩
  · obtain ⟨m, hm⟩ := trim_keeps hx (forget l x.o)
    have hsub := trim_sub (room := room) (forget l x.o ++ [x])
    rw [hm] at hsub
    have hms : m.Sublist (forget l x.o) := by
      have := hsub.reverse
      rw [List.reverse_append, List.reverse_append] at this
      have h2 := List.cons_sublist_cons.1 this
      exact List.reverse_sublist.1 h2
    have hnone : ∀ y ∈ m, hit x.o x.c x.n y = false := by
      intro y hy
      have := hms.subset hy
      unfold forget at this
      have h2 := (List.mem_filter.1 this).2
      simp at h2
      unfold hit
      simp [h2]
    have hhit : hit x.o x.c x.n x = true := by unfold hit; simp
    have e : (m ++ [x]).find? (hit x.o x.c x.n) = some x := by
      rw [List.find?_append, List.find?_eq_none.2 (fun y hy => by rw [hnone y hy]; simp)]
      simp [hhit]
    rw [hp, hm]
    unfold gotv gote
    rw [e]
    exact ⟨rfl, rfl⟩
  · rw [hp, trim_gone hx]
    rfl
/-- one step backwards: the last of a sublist is found, or passed over -/
theorem sub_hit {a c : List Bd} {x : Bd} (h : (a ++ [x]).Sublist (c ++ [x])) : a.Sublist c := by
  have := h.reverse
  rw [List.reverse_append, List.reverse_append] at this
  exact List.reverse_sublist.1 (List.cons_sublist_cons.1 this)
theorem sub_pass {a c : List Bd} {x y : Bd} (h : (a ++ [x]).Sublist (c ++ [y])) (hne : y ≠ x) : (a ++ [x]).Sublist c := by
  have := h.reverse
  rw [List.reverse_append, List.reverse_append] at this
  have h2 : (x :: a.reverse).Sublist (y :: c.reverse) := this
  cases h2 with
  | cons _ h3 =>
    have h4 := h3.reverse
    simpa using h4
  | cons_cons _ h3 => exact absurd rfl hne
end Go.Proofs.Ytjcbheeihckgmaa
