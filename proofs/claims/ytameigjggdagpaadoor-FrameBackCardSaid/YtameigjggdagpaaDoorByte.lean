/- The contracts of Copy, Same and slices.Clone at bytes: each returns what it should, and writes nothing that was there. -/
import Derived.Test.YtameigjggdagpaaDoorFlat
namespace Go.Proofs.YtameigjggdagpaaDoor
open Go.RowKit

theorem slice_info : (Tryd.prog.info? 5).map (fun i => (i.zero, i.size, i.bytes)) = some (some (.int .u8 0), 1, 1) := by kernel_rfl

/-- Copy: the same bytes in new memory. -/
theorem copy_c {S : Foot} {v : Value} {l : List UInt8} {w : World} (h : Sl u8E S w v l) (hn : l.length ≤ 140737488355328) :
    Calls Tryd.prog 10 #[v] w fun e w' => ∃ v', e = .returned v' ∧ Own u8E Any w' w.heap.size 5 v' l ∧ Below w.heap.size w w' := by
  obtain ⟨i0, hi, hz0, hz1, hz2⟩ := info_parts slice_info
  go_enter Tryd.func10, Tryd.ntmps10
  go_wp2_with (at_builtin; refine wpList_append_sl _ rfl (.tmp 3) (.tmp 4) 22 rfl (E := u8E) (l := []) (m := l) (base := w.heap.size) Tryd.underlying22 hi hz0 hz1 hz2 rfl (World.ownsRow_made _ _ 0 (Nat.le_refl _) (by unfold maxLen; omega) rfl) (h.below (Below.alloc (Below.refl _ _) (Nat.le_refl _) _) (Nat.le_refl _)) rfl rfl (by simp [maxLen]; omega) (by simpa using hn) (by simp) ?_; intro v' w' ys ho hr hg hb)
  go_ret
  exact ⟨v', rfl, ⟨ys, by simpa using ho, hr.1, hr.2⟩, ((Below.refl _ _).alloc (Nat.le_refl _) _).grown hg (by simp) (by simp [Value.ownBlock])⟩

/-- slices.Clone at bytes: nil stays nil; else the same bytes in new memory. -/
theorem clone_c {S : Foot} {v : Value} {l : List UInt8} {w : World} (h : Sl u8E S w v l) (hn : l.length ≤ 140737488355328) :
    Calls Tryd.prog 27 #[v] w fun e w' => ∃ v', e = .returned v' ∧ Own u8E Any w' w.heap.size 5 v' l ∧ Below w.heap.size w w' := by
  obtain ⟨i0, hi, hz0, hz1, hz2⟩ := info_parts slice_info
  obtain ⟨A, cap, rfl, _, _, hA⟩ := h.shape
  have he := fun (w : World) n' c' => Lib.run_eql_slice_nil (P := Tryd.prog) w 22 5 A l.length cap n' c' Tryd.underlying22
  rcases A with _ | ad
  · have hl := Lib.hid (show l = [] from by
      have := hA rfl
      exact List.eq_nil_of_length_eq_zero (by omega))
    clear hA
    go_enter Tryd.func27, Tryd.ntmps27
    go_wp2
    go_ret
    rw [hl.out]
    exact ⟨_, rfl, Own.nil, Below.refl _ _⟩
  · clear hA
    go_enter Tryd.func27, Tryd.ntmps27
    go_wp2_with (at_builtin; refine wpList_append_sl _ rfl (.tmp 5) (.tmp 6) 22 rfl (E := u8E) (l := []) (m := l) (base := w.heap.size) Tryd.underlying22 hi hz0 hz1 hz2 rfl (World.ownsRow_made _ _ 0 (Nat.le_refl _) (by unfold maxLen; omega) rfl) (h.below (Below.alloc (Below.refl _ _) (Nat.le_refl _) _) (Nat.le_refl _)) rfl rfl (by simp [maxLen]; omega) (by simpa using hn) (by simp) ?_; intro v' w' ys ho hr hg hb)
    go_ret
    exact ⟨v', rfl, ⟨ys, by simpa using ho, hr.1, hr.2⟩, ((Below.refl _ _).alloc (Nat.le_refl _) _).grown hg (by simp) (by simp [Value.ownBlock])⟩

/-- Same: are the bytes the same? -/
theorem same_c {S S' : Foot} {v u : Value} {l m : List UInt8} {w : World} (h : Sl u8E S w v l) (h' : Sl u8E S' w u m) :
    Calls Tryd.prog 15 #[v, u] w fun e w' => e = .returned (.bool (l == m)) ∧ w = w' := by
  have h1 := run_convert_sl (P := Tryd.prog) 22 9 5 Tryd.underlying22 Tryd.underlying5 Tryd.underlying9 h
  have h2 := run_convert_sl (P := Tryd.prog) 22 9 5 Tryd.underlying22 Tryd.underlying5 Tryd.underlying9 h'
  go_enter Tryd.func15, Tryd.ntmps15
  go_wp2
  go_ret
  exact ⟨rfl, rfl⟩

end Go.Proofs.YtameigjggdagpaaDoor
