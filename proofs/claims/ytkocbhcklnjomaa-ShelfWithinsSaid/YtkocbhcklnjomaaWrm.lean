/- Shelves: Clip. -/
import Derived.Test.YtkocbhcklnjomaaWrl
namespace Go.Proofs.Ytkocbhcklnjomaa
open Go.RowKit

set_option maxHeartbeats 4000000 in
theorem clip_c {S : Foot} {v : Value} {l : List Wr} {w : World} (h : Sl wrE S w v l) :
    Calls Try.prog 25 #[v] w fun e w' => ∃ v', e = .returned v' ∧ Sl wrE S w v' l ∧ w' = w := by
  obtain ⟨i0, hin, hz0, hz1, hz2⟩ := info_parts wr_info
  obtain ⟨A, c, xs, rfl, hc1, hc2, hA, hr, hx⟩ := h
  have he : Program.elem Try.prog 22 = 32 := by simp [Program.elem, Try.underlying22]
  unfold maxLen at hc2
  go_enter Try.func25, Try.ntmps25
  go_wp2
  go_ret
  exact ⟨_, rfl, ⟨A, l.length, xs, rfl, Nat.le_refl _, by unfold maxLen; omega, fun e => by have := hA e; omega, hr, hx⟩, rfl⟩

/-- a whole element is stored -/
theorem Own.stored4 {w : World} {B g c : Nat} {l : List Wr} {t : TypeId} (h : Own wrE Any w B t (.slice (some ⟨g, 0, none⟩) l.length c) l) {i : Nat} (hi : i < l.length) (x : Wr) :
    Own wrE Any (w.setCells g (i * 4) (wcs x)) B t (.slice (some ⟨g, 0, none⟩) l.length c) (l.set i x) := by
  obtain ⟨xs, ho, hr⟩ := h
  have hxl : xs.length = l.length * 4 := ho.1
  rcases ho.2 with ⟨h0, _⟩ | ⟨g', cap', cur, hvv, hb, hh, hn, hm, hs, ht⟩
  · cases h0
  · injection hvv with e1 _ e3
    injection e1 with e1
    injection e1 with e1
    subst e1 e3
    have hsz : cur.size = c * 4 := hs
    have ht' : cur.toList.take (l.length * 4) = xs := ht
    have hl : l.set i x = l.take i ++ ([x] ++ l.drop (i + 1)) := by
      rw [List.set_eq_take_append_cons_drop, if_pos hi]; rfl
    have q1 := heap_setCell_same w g (i * 4) cur t (.int .i64 x.c) hh
    have q2 := heap_setCell_same _ g (i * 4 + 1) _ t (.int .i64 x.n) q1
    have q3 := heap_setCell_same _ g (i * 4 + 1 + 1) _ t (.int .i64 x.o) q2
    have q4 := heap_setCell_same _ g (i * 4 + 1 + 1 + 1) _ t (.bool x.g) q3
    have h' : Reps wrE Any (w.setCells g (i * 4) (wcs x)) xs l := ⟨hr.1, fun k a hk => hr.2 k a hk⟩
    refine ⟨xs.take (i * 4) ++ (wcs x ++ xs.drop ((i + 1) * 4)), ⟨?_, .inr ⟨g, c, _, by rw [List.length_set], hb, q4, by rw [List.length_set]; exact hn, hm, by simpa using hs, ?_⟩⟩, ?_⟩
    · rw [List.length_set]; simp [wcs, hxl]; show _ = l.length * 4; omega
    · rw [List.length_set]
      show List.take (l.length * 4) _ = _
      subst ht'
      apply List.ext_getElem?
      intro j
      simp only [Array.toList_setIfInBounds, List.getElem?_take, List.getElem?_set, List.getElem?_append, List.length_take, List.getElem?_drop, List.length_set, Array.length_toList, hsz, wcs, List.length_cons, List.length_nil]
      have hcl : cur.toList.length = c * 4 := by simpa using hsz
      have hb1 : i * 4 + 4 ≤ l.length * 4 := by omega
      have hb2 : l.length * 4 ≤ c * 4 := by omega
      rw [show min (i * 4) (min (l.length * 4) (c * 4)) = i * 4 by omega]
      rcases (by omega : j < i * 4 ∨ j = i * 4 ∨ j = i * 4 + 1 ∨ j = i * 4 + 2 ∨ j = i * 4 + 3 ∨ ((i + 1) * 4 ≤ j ∧ j < l.length * 4) ∨ l.length * 4 ≤ j) with h | h | h | h | h | h | h
      · rw [if_pos (by omega), if_neg (by omega), if_neg (by omega), if_neg (by omega), if_neg (by omega), if_pos (by omega), if_pos (by omega), if_pos (by omega)]
      · rw [if_pos (by omega), if_neg (by omega), if_neg (by omega), if_neg (by omega), if_pos (by omega), if_pos (by omega), if_neg (by omega), if_pos (by omega), show j - i * 4 = 0 by omega]; rfl
      · rw [if_pos (by omega), if_neg (by omega), if_neg (by omega), if_pos (by omega), if_pos (by omega), if_neg (by omega), if_pos (by omega), show j - i * 4 = 1 by omega]; rfl
      · rw [if_pos (by omega), if_neg (by omega), if_pos (by omega), if_pos (by omega), if_neg (by omega), if_pos (by omega), show j - i * 4 = 2 by omega]; rfl
      · rw [if_pos (by omega), if_pos (by omega), if_pos (by omega), if_neg (by omega), if_pos (by omega), show j - i * 4 = 3 by omega]; rfl
      · rw [if_pos (by omega), if_neg (by omega), if_neg (by omega), if_neg (by omega), if_neg (by omega), if_neg (by omega), if_neg (by omega), if_pos (by omega)]
        congr 1; omega
      · rw [if_neg (by omega), if_neg (by omega), if_neg (by omega), if_neg (by omega)]
    · rw [hl]
      exact (h'.take i).append ((Reps.single (show wrE.rd Any _ (wcs x) x from rfl)).append (h'.drop (i + 1)))
end Go.Proofs.Ytkocbhcklnjomaa
