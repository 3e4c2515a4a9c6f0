/- Disks: a twin of one's own. -/
import Derived.Test.YtbahiohlhhdkcaaDoorDkd
namespace Go.Proofs.YtbahiohlhhdkcaaDoor
open Go.RowKit

theorem fi_info : (Tryd.prog.info? 50).map (fun i => (i.zero, i.size, i.bytes)) = some (some (.agg #[.int .i64 0, .slice none 0 0, .int .i64 0]), 3, 40) := by kernel_rfl
theorem tris_get_inv : ∀ {fs : List Fi} {us : List Value} {i : Nat} {x : Tri}, (tris fs us)[i]? = some x → ∃ f u, fs[i]? = some f ∧ us[i]? = some u ∧ x = ⟨.int .i64 f.n, u, .int .i64 f.s⟩
  | f :: fs, u :: us, 0, x, h => by simp [tris] at h; exact ⟨f, u, rfl, rfl, h.symm⟩
  | f :: fs, u :: us, i + 1, x, h => by
    obtain ⟨f', u', h1, h2, h3⟩ := tris_get_inv (fs := fs) (us := us) (i := i) (x := x) (by simpa [tris] using h)
    exact ⟨f', u', by simpa using h1, by simpa using h2, h3⟩
  | [], _, _, _, h => by simp [tris] at h
  | _ :: _, [], _, _, h => by simp [tris] at h
/-- the raw cells of files -/
theorem Sl.tris {S : Foot} {w : World} {v : Value} {l : List Fi} (h : Sl fiE S w v l) : ∃ us : List Value, us.length = l.length ∧ Sl trE S w v (Go.Proofs.YtbahiohlhhdkcaaDoor.tris l us) ∧ ∀ (i : Nat) (u : Value) (f : Fi), us[i]? = some u → l[i]? = some f → Sl u8E S w u f.b := by
  obtain ⟨A, cap, xs, rfl, hc, hm, ha, hr, hx⟩ := h
  have key : ∀ i f, l[i]? = some f → ∃ u, (xs.drop (i * 3)).take 3 = [.int .i64 f.n, u, .int .i64 f.s] ∧ xs[i * 3 + 1]? = some u ∧ Sl u8E S w u f.b := by
    intro i f hf
    obtain ⟨u, h1, h2⟩ := hr.2 i f hf
    refine ⟨u, h1, ?_, h2⟩
    have h3 : ((xs.drop (i * 3)).take 3)[1]? = some u := by
      have : ((xs.drop (i * fiE.k)).take fiE.k)[1]? = some u := by rw [h1]; rfl
      exact this
    rw [List.getElem?_take, if_pos (by omega), List.getElem?_drop] at h3
    exact h3
  refine ⟨(List.range l.length).map fun i => xs[i * 3 + 1]?.getD undef, by simp, ?_, ?_⟩
  · have hl := tris_len l ((List.range l.length).map fun i => xs[i * 3 + 1]?.getD undef) (by simp)
    refine ⟨A, cap, xs, by rw [hl], by rw [hl]; exact hc, hm, ha, ⟨by rw [hl]; exact hr.1, fun i x hi => ?_⟩, hx⟩
    obtain ⟨f, u, h1, h2, rfl⟩ := tris_get_inv hi
    obtain ⟨u', k1, k2, k3⟩ := key i f h1
    have : u' = u := by
      rw [List.getElem?_map] at h2
      obtain ⟨j, hj, rfl⟩ := Option.map_eq_some_iff.1 h2
      obtain ⟨_, rfl⟩ := List.getElem?_eq_some_iff.1 hj
      simp [k2]
    subst this
    obtain ⟨Av, cv, rfl, _⟩ := k3.shape
    exact ⟨k1, rfl, rfl, rfl⟩
  · intro i u f hu hf
    obtain ⟨u', k1, k2, k3⟩ := key i f hf
    rw [List.getElem?_map] at hu
    obtain ⟨j, hj, rfl⟩ := Option.map_eq_some_iff.1 hu
    obtain ⟨_, rfl⟩ := List.getElem?_eq_some_iff.1 hj
    simp [k2]; exact k3

/-- slices.Clone at rows of three values -/
theorem clonef_c {S : Foot} {v : Value} {l : List Tri} {w : World} (h : Sl trE S w v l) (hn : l.length ≤ 1099511627776) :
    Calls Tryd.prog 55 #[v] w fun e w' => ∃ v', e = .returned v' ∧ Own trE Any w' w.heap.size 50 v' l ∧ Below w.heap.size w w' := by
  obtain ⟨i0, hi, hz0, hz1, hz2⟩ := info_parts fi_info
  obtain ⟨A, cap, rfl, _, _, hA⟩ := h.shape
  have he := fun (w : World) n' c' => Lib.run_eql_slice_nil (P := Tryd.prog) w 22 50 A l.length cap n' c' Tryd.underlying22
  rcases A with _ | ad
  · have hl := Lib.hid (show l = [] from by
      have := hA rfl
      exact List.eq_nil_of_length_eq_zero (by omega))
    clear hA
    go_enter Tryd.func55, Tryd.ntmps55
    go_wp2
    go_ret
    rw [hl.out]
    exact ⟨_, rfl, Own.nil, Below.refl _ _⟩
  · clear hA
    go_enter Tryd.func55, Tryd.ntmps55
    go_wp2_with (at_builtin; refine wpList_append_sl _ rfl (.tmp 5) (.tmp 6) 22 rfl (E := trE) (l := []) (m := l) (base := w.heap.size) Tryd.underlying22 hi hz0 hz1 hz2 rfl (World.ownsRow_made _ _ 0 (Nat.le_refl _) (by unfold maxLen; omega) rfl) (h.below (Below.alloc (Below.refl _ _) (Nat.le_refl _) _) (Nat.le_refl _)) rfl rfl (by simp [maxLen]; omega) (by simp; omega) (by simp) ?_; intro v' w' ys ho hr hg hb)
    go_ret
    exact ⟨v', rfl, ⟨ys, by simpa using ho, hr.1, hr.2⟩, ((Below.refl _ _).alloc (Nat.le_refl _) _).grown hg (by simp) (by simp [Value.ownBlock])⟩

/-- a cell of an owned row of three values is another one -/
theorem Own.triSet {w : World} {B g cap : Nat} {t : TypeId} {n : Nat} {l : List Tri} (h : Own trE Any w B t (.slice (some ⟨g, 0, none⟩) n cap) l) {i : Nat} {x : Tri} (hi : l[i]? = some x) (j : Nat) (u : Value) {x' : Tri}
    (hx : [x.a, x.b, x.c].set j u = [x'.a, x'.b, x'.c]) (ha : x'.a.oneCell' = true) (hb : x'.b.oneCell' = true) (hc : x'.c.oneCell' = true) (hj : j < 3) :
    Own trE Any (w.setCell ⟨g, i * 3 + j, none⟩ u) B t (.slice (some ⟨g, 0, none⟩) n cap) (l.set i x') := by
  have hil := (List.getElem?_eq_some_iff.1 hi).1
  have hn : n = l.length := by
    obtain ⟨xs, ho, _⟩ := h
    rcases ho.2 with ⟨h0, _⟩ | ⟨g', cap', cur, hv, _⟩
    · cases h0
    · injection hv
  subst hn
  refine Own.tri (Own.replaced (g := g) (h.tri) hil (j := j) hj (u := u) (a' := x') (fun cur hcur => heap_setCell_same w g (i * 3 + j) cur t u hcur) (fun b _ hb => heap_setCell_other w ⟨g, i * 3 + j, none⟩ b u hb) (fun cs hcs => ?_))
  have h1 := hcs.1
  rw [List.getElem?_eq_getElem hil] at hi
  cases hi
  exact ⟨by rw [h1]; exact hx, ha, hb, hc⟩
end Go.Proofs.YtbahiohlhhdkcaaDoor
