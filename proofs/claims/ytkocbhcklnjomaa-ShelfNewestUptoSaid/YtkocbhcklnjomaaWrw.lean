/- Shelves: ShelfNewest, walked. -/
import Derived.Test.YtkocbhcklnjomaaWrv
namespace Go.Proofs.Ytkocbhcklnjomaa
open Go.RowKit

def Best (L : List Wr) (o : Int) (x : Wr) (n : Int) : Prop :=
  (n = 0 ∨ n = 8) ∧ (n = 0 ↔ ∃ p ∈ L, p.o = o) ∧ ∀ p ∈ L, p.o = o → cmpS p.c p.n x.c x.n ≤ 0
theorem le_cmpS {a b : Wr} (h : le_st a b) : cmpS a.c a.n b.c b.n ≤ 0 := by
  unfold le_st at h
  unfold cmpS
  split
  · omega
  · split
    · omega
    · omega
theorem best {l m : List Wr} (o : Int) (h1 : putOk [] l = true) (h2 : putOk (puts [] l) m = true) :
    putOk [] (m ++ l) = true ∧ formedW (puts (puts [] l) m) = true ∧ gotn (puts (puts [] l) m) o = gotn (puts [] (m ++ l)) o ∧
    (gotw (puts (puts [] l) m) o).c = (gotw (puts [] (m ++ l)) o).c ∧ (gotw (puts (puts [] l) m) o).n = (gotw (puts [] (m ++ l)) o).n ∧
    Best (l ++ m) o (gotw (puts (puts [] l) m) o) (gotn (puts (puts [] l) m) o) := by
  have a1 : l.all rightW = true := by unfold putOk at h1; rw [Bool.and_eq_true] at h1; exact h1.2
  have a2 : m.all rightW = true := by unfold putOk at h2; rw [Bool.and_eq_true] at h2; exact h2.2
  have hn : formedW [] = true := rfl
  have h3 : putOk [] (m ++ l) = true := by unfold putOk; rw [hn, List.all_append, a1, a2]; rfl
  obtain ⟨f1, g1⟩ := puts_val hn a1
  obtain ⟨f2, g2⟩ := puts_val f1 a2
  obtain ⟨f3, g3⟩ := puts_val (m := m ++ l) hn (by rw [List.all_append, a1, a2]; rfl)
  have e1 : puts (puts [] l) m = m.foldl put1 (l.foldl put1 []) := by
    have : puts [] l = l.foldl put1 [] := by unfold puts; rw [if_pos h1]
    rw [this] at h2 ⊢
    unfold puts
    rw [if_pos h2]
  have e2 : puts [] (m ++ l) = (m ++ l).foldl put1 [] := by unfold puts; rw [if_pos h3]
  have hv1 : val (puts (puts [] l) m) = (l ++ m).foldl upd (fun _ => none) := by rw [e1, g2, g1, ← List.foldl_append]; rfl
  have hv2 : val (puts [] (m ++ l)) = (m ++ l).foldl upd (fun _ => none) := by rw [e2, g3]; rfl
  have hf1 : formedW (puts (puts [] l) m) = true := by rw [e1]; exact f2
  have hf2 : formedW (puts [] (m ++ l)) = true := by rw [e2]; exact f3
  obtain ⟨n1, n2, n3⟩ := newest_both l m o
  rw [← hv1, ← hv2] at n2 n3
  rw [← hv1] at n1
  refine ⟨h3, hf1, ?_⟩
  unfold gotn gotw
  rw [hf1, hf2]
  simp only [if_true]
  cases hx : val (puts (puts [] l) m) o with
  | none =>
    rw [hx] at n1 n2
    cases hy : val (puts [] (m ++ l)) o with
    | some v => rw [hy] at n2; cases n2
    | none =>
      refine ⟨rfl, rfl, rfl, .inr rfl, ⟨fun h => by simp at h, fun ⟨p, hp, hpo⟩ => absurd hpo ((n1.1 rfl).2 p hp)⟩, fun p hp hpo => absurd hpo ((n1.1 rfl).2 p hp)⟩
  | some z =>
    rw [hx] at n1 n2
    cases hy : val (puts [] (m ++ l)) o with
    | none => rw [hy] at n2; cases n2
    | some v =>
      obtain ⟨k1, k2⟩ := n3 z v hx hy
      obtain ⟨j1, _, j3⟩ := n1.2 z rfl
      refine ⟨rfl, k1, k2, .inl rfl, ⟨fun _ => ?_, fun _ => rfl⟩, fun p hp hpo => le_cmpS (j3 p hp hpo)⟩
      rcases j1 with j1 | ⟨j1, jo⟩
      · cases j1
      · exact ⟨z, j1, jo⟩

theorem made_row (w : World) (o : Obj) (t : TypeId) (k : Nat) : ((w.alloc o).alloc (.cells #[] t)).ownsRow w.heap.size t k (.slice (some ⟨w.heap.size + 1, 0, none⟩) 0 0) 0 [] := by
  exact ⟨by simp, .inr ⟨w.heap.size + 1, 0, #[], rfl, by omega, by simpa using heap_alloc_new (w.alloc o) (.cells #[] t), Nat.zero_le _, by unfold maxLen; omega, by simp, by simp⟩⟩
theorem puts_bad {l m : List Wr} (h : putOk l m = false) : puts l m = [] := by unfold puts; rw [h]; rfl
set_option maxRecDepth 100000 in
set_option maxHeartbeats 4000000 in
theorem shelfnewest_c {S S' : Foot} {v u : Value} {l m : List Wr} {o : Int} {w : World} (hp : Sl wrE S w v l) (hq : Sl wrE S' w u m) (hl : l.length ≤ 1048576) (hm : m.length ≤ 1048576) :
    Calls Try.prog 5 #[v, u, .int .i64 o] w fun e w' => e = .returned (.bool true) ∧ Below w.heap.size w w' := by
  have hp := hp.any
  have hq := hq.any
  obtain ⟨i0, hi, hz0, hz1, hz2⟩ := info_parts wr_info
  go_enter Try.func5, Try.ntmps5
  go_wp2_with fail
  refine (alive_c (w := _)).mono ?_
  rintro e w1 ⟨rfl, b1⟩
  go_wp2_with fail
  refine (put_c (S := Any) (l := []) Sl.nil (hp.below (by (repeat (first | with_reducible exact Below.refl _ _ | with_reducible assumption | with_reducible refine bdraw ?_ | with_reducible refine bdrewN ?_ _ | with_reducible refine balloc ?_ _ | with_reducible refine bset ?_ (by simp <;> omega) | with_reducible refine bstep ?_ (by assumption) | with_reducible refine btrans ?_ (by assumption)))) (Nat.le_refl _)) (by omega) (by simp)).mono ?_
  rintro e w2 ⟨v2, n2, rfl, hn2, s2, b2⟩
  have s2 := s2.any
  have hn2' := hn2.out
  cases hok : putOk [] l with
  | false =>
    rw [hok] at hn2'
    have hn2'' : n2 = 1 := hn2'
    clear hn2 hn2'
    subst hn2''
    have hp0 : puts [] l = [] := puts_bad hok
    rw [hp0] at s2
    obtain ⟨A2, c2, rfl, _⟩ := s2.shape
    go_wp2
    go_ret
    exact ⟨ret_bool (by simp), by (repeat (first | with_reducible exact Below.refl _ _ | with_reducible assumption | with_reducible refine bdraw ?_ | with_reducible refine bdrewN ?_ _ | with_reducible refine balloc ?_ _ | with_reducible refine bset ?_ (by simp <;> omega) | with_reducible refine bstep ?_ (by assumption) | with_reducible refine btrans ?_ (by assumption)))⟩
  | true =>
    rw [hok] at hn2'
    have hn2'' : n2 = 0 := hn2'
    subst hn2''
    have HOK := Lib.hid hok
    clear hok hn2 hn2'
    have hl2 : (puts [] l).length ≤ 256 := by
      have f1 := (puts_val (m := l) (l := []) rfl (by have := HOK.out; unfold putOk at this; rw [Bool.and_eq_true] at this; exact this.2)).1
      have := formedA_len f1 (by omega)
      have e : puts [] l = l.foldl put1 [] := by unfold puts; rw [if_pos HOK.out]
      rw [e]; omega
    go_wp2_with fail
    refine (put_c (s2.below (by (repeat (first | with_reducible exact Below.refl _ _ | with_reducible assumption | with_reducible refine bdraw ?_ | with_reducible refine bdrewN ?_ _ | with_reducible refine balloc ?_ _ | with_reducible refine bset ?_ (by simp <;> omega) | with_reducible refine bstep ?_ (by assumption) | with_reducible refine btrans ?_ (by assumption)))) (Nat.le_refl _)) (hq.below (by (repeat (first | with_reducible exact Below.refl _ _ | with_reducible assumption | with_reducible refine bdraw ?_ | with_reducible refine bdrewN ?_ _ | with_reducible refine balloc ?_ _ | with_reducible refine bset ?_ (by simp <;> omega) | with_reducible refine bstep ?_ (by assumption) | with_reducible refine btrans ?_ (by assumption)))) (Nat.le_refl _)) (by omega) (by omega)).mono ?_
    rintro e w3 ⟨v3, n3, rfl, hn3, s3, b3⟩
    have s3 := s3.any
    have hn3' := hn3.out
    cases hok : putOk (puts [] l) m with
    | false =>
      rw [hok] at hn3'
      have hn3'' : n3 = 1 := hn3'
      clear hn3 hn3'
      subst hn3''
      have hp0 : puts (puts [] l) m = [] := puts_bad hok
      rw [hp0] at s3
      obtain ⟨A3, c3, rfl, _⟩ := s3.shape
      go_wp2
      go_ret
      exact ⟨ret_bool (by simp), by (repeat (first | with_reducible exact Below.refl _ _ | with_reducible assumption | with_reducible refine bdraw ?_ | with_reducible refine bdrewN ?_ _ | with_reducible refine balloc ?_ _ | with_reducible refine bset ?_ (by simp <;> omega) | with_reducible refine bstep ?_ (by assumption) | with_reducible refine btrans ?_ (by assumption)))⟩
    | true =>
      rw [hok] at hn3'
      have hn3'' : n3 = 0 := hn3'
      subst hn3''
      have HB := Lib.hid (best o HOK.out hok)
      clear hok hn3 hn3' hl2
      go_wp2_with (first
        | (at_builtin; (refine wpList_append_sl _ rfl (.tmp 42) (.tmp 43) 22 rfl (E := wrE) (l := []) (m := m) (base := w3.heap.size) Try.underlying22 hi hz0 hz1 hz2 rfl (World.ownsRow_made _ _ 0 (Nat.le_refl _) (by unfold maxLen; omega) rfl) (hq.below (by (repeat (first | with_reducible exact Below.refl _ _ | with_reducible assumption | with_reducible refine bdraw ?_ | with_reducible refine bdrewN ?_ _ | with_reducible refine balloc ?_ _ | with_reducible refine bset ?_ (by simp <;> omega) | with_reducible refine bstep ?_ (by assumption) | with_reducible refine btrans ?_ (by assumption)))) (Nat.le_refl _)) rfl rfl (by simp [maxLen]; omega) (by simp; omega) (by simp) ?_); intro v4 w4 ys4 ho4 hr4 hg4 hb4; have b4 : Below w3.heap.size w3 w4 := ((Below.refl _ _).alloc (Nat.le_refl _) _).grown hg4 (by simp) (by simp [Value.ownBlock]); have o4 : Own wrE Any w4 w3.heap.size 32 v4 m := ⟨ys4, by simpa using ho4, hr4.1, hr4.2⟩; clear ho4 hr4 hg4 hb4)
        | (at_builtin; go_loud (refine wpList_append_sl _ rfl (.tmp 44) (.tmp 45) 22 rfl (E := wrE) (l := m) (m := l) (base := w3.heap.size) Try.underlying22 hi hz0 hz1 hz2 rfl (xs := o4.choose) o4.choose_spec.1 (hp.below (by (repeat (first | with_reducible exact Below.refl _ _ | with_reducible assumption | with_reducible refine bdraw ?_ | with_reducible refine bdrewN ?_ _ | with_reducible refine balloc ?_ _ | with_reducible refine bset ?_ (by simp <;> omega) | with_reducible refine bstep ?_ (by assumption) | with_reducible refine btrans ?_ (by assumption)))) (Nat.le_refl _)) rfl rfl (by unfold maxLen; omega) (by omega) b4.size ?_); intro v5 w5 ys5 ho5 hr5 hg5 hb5; have b5 : Below w3.heap.size w4 w5 := bgrown hg5 b4.size (fun k hk => (o4.lt k hk).1); have o5 : Own wrE Any w5 w3.heap.size 32 v5 (m ++ l) := ⟨_, ho5, (show Reps wrE Any w5 _ m from ⟨o4.choose_spec.2.1, o4.choose_spec.2.2⟩).append (show Reps wrE Any w5 ys5 l from ⟨hr5.1, hr5.2⟩)⟩; clear ho5 hr5 hg5 hb5)
        | fail)
      have hs5 := o5.slAny
      have b45 := b4.trans b5
      clear b4 b5
      refine (put_c (S := Any) (l := []) Sl.nil hs5 (by simp; omega) (by simp)).mono ?_
      rintro e w6 ⟨v6, n6, rfl, hn6, s6, b6⟩
      have s6 := s6.any
      have hn6' := hn6.out
      rw [if_pos HB.out.1] at hn6'
      clear hn6
      subst hn6'
      go_wp2_with fail
      refine (get_c (o := o) (s3.below (by (repeat (first | with_reducible exact Below.refl _ _ | with_reducible assumption | with_reducible refine bdraw ?_ | with_reducible refine bdrewN ?_ _ | with_reducible refine balloc ?_ _ | with_reducible refine bset ?_ (by simp <;> omega) | with_reducible refine bstep ?_ (by assumption) | with_reducible refine btrans ?_ (by assumption)))) (Nat.le_refl _))).mono ?_
      rintro e w7 ⟨rfl, b7⟩
      go_wp2_with fail
      refine (get_c (o := o) (s6.below (by (repeat (first | with_reducible exact Below.refl _ _ | with_reducible assumption | with_reducible refine bdraw ?_ | with_reducible refine bdrewN ?_ _ | with_reducible refine balloc ?_ _ | with_reducible refine bset ?_ (by simp <;> omega) | with_reducible refine bstep ?_ (by assumption) | with_reducible refine btrans ?_ (by assumption)))) (Nat.le_refl _))).mono ?_
      rintro e w8 ⟨rfl, b8⟩
      obtain ⟨_, HX, hg, hc, hn, HBest⟩ := HB.out
      clear HB
      rw [← hg, ← hc, ← hn]
      clear hg hc hn o4 o5 hs5
      have HF := fun (w' : World) (b : Below w.heap.size w w') (h : Sl wrE Any w' v3 (puts (puts [] l) m)) => Lib.hid (formed_c (w := w') h)
      rw [HX] at HF
      clear HX
      generalize (gotw (puts [] (m ++ l)) o).o = yo
      generalize (gotw (puts [] (m ++ l)) o).g = yg
      generalize gotw (puts (puts [] l) m) o = x at *
      generalize gotn (puts (puts [] l) m) o = n at *
      have p0 := at_new (w := w7) (cs := #[.int .i64 x.c, .int .i64 x.n, .int .i64 x.o, .bool x.g]) (t := 32) (i := 0) (v := .int .i64 x.c) rfl; have p1 := at_new (w := w7) (cs := #[.int .i64 x.c, .int .i64 x.n, .int .i64 x.o, .bool x.g]) (t := 32) (i := 1) (v := .int .i64 x.n) rfl; have p2 := at_new (w := w7) (cs := #[.int .i64 x.c, .int .i64 x.n, .int .i64 x.o, .bool x.g]) (t := 32) (i := 2) (v := .int .i64 x.o) rfl; have p3 := at_new (w := w7) (cs := #[.int .i64 x.c, .int .i64 x.n, .int .i64 x.o, .bool x.g]) (t := 32) (i := 3) (v := .bool x.g) rfl
      have c0 := atb p0 (w' := w8) (by (repeat (first | with_reducible exact Below.refl _ _ | with_reducible assumption | with_reducible refine bdraw ?_ | with_reducible refine bdrewN ?_ _ | with_reducible refine balloc ?_ _ | with_reducible refine bset ?_ (by simp <;> omega) | with_reducible refine bstep ?_ (by assumption) | with_reducible refine btrans ?_ (by assumption)))); have c1 := atb p1 (w' := w8) (by (repeat (first | with_reducible exact Below.refl _ _ | with_reducible assumption | with_reducible refine bdraw ?_ | with_reducible refine bdrewN ?_ _ | with_reducible refine balloc ?_ _ | with_reducible refine bset ?_ (by simp <;> omega) | with_reducible refine bstep ?_ (by assumption) | with_reducible refine btrans ?_ (by assumption)))); have c2 := atb p2 (w' := w8) (by (repeat (first | with_reducible exact Below.refl _ _ | with_reducible assumption | with_reducible refine bdraw ?_ | with_reducible refine bdrewN ?_ _ | with_reducible refine balloc ?_ _ | with_reducible refine bset ?_ (by simp <;> omega) | with_reducible refine bstep ?_ (by assumption) | with_reducible refine btrans ?_ (by assumption)))); have c3 := atb p3 (w' := w8) (by (repeat (first | with_reducible exact Below.refl _ _ | with_reducible assumption | with_reducible refine bdraw ?_ | with_reducible refine bdrewN ?_ _ | with_reducible refine balloc ?_ _ | with_reducible refine bset ?_ (by simp <;> omega) | with_reducible refine bstep ?_ (by assumption) | with_reducible refine btrans ?_ (by assumption))))
      have hz8 : w7.heap.size < w8.heap.size := by have := b8.size; simp at this; omega
      obtain ⟨hn08, hiff, hle⟩ := HBest
      have HI := Lib.hid hiff
      have HL := Lib.hid hle
      clear hiff hle
      rcases hn08 with rfl | rfl
      · go_wp2_with (first
          | (at_builtin; (refine wpList_append_sl _ rfl (.tmp 76) (.tmp 77) 22 rfl (E := wrE) (l := []) (m := l) (base := w8.heap.size) Try.underlying22 hi hz0 hz1 hz2 rfl (made_row w8 _ _ _) (hp.below (by (repeat (first | with_reducible exact Below.refl _ _ | with_reducible assumption | with_reducible refine bdraw ?_ | with_reducible refine bdrewN ?_ _ | with_reducible refine balloc ?_ _ | with_reducible refine bset ?_ (by simp <;> omega) | with_reducible refine bstep ?_ (by assumption) | with_reducible refine btrans ?_ (by assumption)))) (Nat.le_refl _)) rfl rfl (by simp [maxLen]; omega) (by simp; omega) (by simp; omega) ?_); intro v9 w9 ys9 ho9 hr9 hg9 hb9; have b9 : Below w8.heap.size w8 w9 := (by (repeat (first | with_reducible exact Below.refl _ _ | with_reducible assumption | with_reducible refine bdraw ?_ | with_reducible refine bdrewN ?_ _ | with_reducible refine balloc ?_ _ | with_reducible refine bset ?_ (by simp <;> omega) | with_reducible refine bstep ?_ (by assumption) | with_reducible refine btrans ?_ (by assumption))) : Below w8.heap.size w8 _).grown hg9 (by simp; omega) (by intro k hk; simp [Value.ownBlock] at hk; omega); have o9 : Own wrE Any w9 w8.heap.size 32 v9 l := ⟨ys9, by simpa using ho9, hr9.1, hr9.2⟩; clear ho9 hr9 hg9 hb9)
          | (at_builtin; (refine wpList_append_sl _ rfl (.tmp 78) (.tmp 79) 22 rfl (E := wrE) (l := l) (m := m) (base := w8.heap.size) Try.underlying22 hi hz0 hz1 hz2 rfl (xs := o9.choose) o9.choose_spec.1 (hq.below (by (repeat (first | with_reducible exact Below.refl _ _ | with_reducible assumption | with_reducible refine bdraw ?_ | with_reducible refine bdrewN ?_ _ | with_reducible refine balloc ?_ _ | with_reducible refine bset ?_ (by simp <;> omega) | with_reducible refine bstep ?_ (by assumption) | with_reducible refine btrans ?_ (by assumption)))) (Nat.le_refl _)) rfl rfl (by unfold maxLen; omega) (by omega) b9.size ?_); intro v10 w10 ys10 ho10 hr10 hg10 hb10; have b10 : Below w8.heap.size w9 w10 := bgrown hg10 b9.size (fun k hk => (o9.lt k hk).1); have o10 : Own wrE Any w10 w8.heap.size 32 v10 (l ++ m) := ⟨_, ho10, (show Reps wrE Any w10 _ l from ⟨o9.choose_spec.2.1, o9.choose_spec.2.2⟩).append (show Reps wrE Any w10 ys10 m from ⟨hr10.1, hr10.2⟩)⟩; clear ho10 hr10 hg10 hb10; have b11 : Below w8.heap.size w8 w10 := b9.trans b10; clear b9 b10; have s10 := o10.slAny; obtain ⟨A10, c10, rfl, hc10, hc11, _⟩ := s10.shape; unfold maxLen at hc11)
          | fail)
        clear o9
        have k0 : w10.cell? ⟨w7.heap.size, 0, none⟩ = some (.int .i64 x.c) := (b11.cell (p := ⟨w7.heap.size, 0, none⟩) hz8).trans c0
        have k1 : w10.cell? ⟨w7.heap.size, 1, none⟩ = some (.int .i64 x.n) := (b11.cell (p := ⟨w7.heap.size, 1, none⟩) hz8).trans c1
        have s3' : Sl wrE Any w10 v3 (puts (puts [] l) m) := (s3.below (by (repeat (first | with_reducible exact Below.refl _ _ | with_reducible assumption | with_reducible refine bdraw ?_ | with_reducible refine bdrewN ?_ _ | with_reducible refine balloc ?_ _ | with_reducible refine bset ?_ (by simp <;> omega) | with_reducible refine bstep ?_ (by assumption) | with_reducible refine btrans ?_ (by assumption)))) (Nat.le_refl _))
        have BW : Below w.heap.size w w10 := by (repeat (first | with_reducible exact Below.refl _ _ | with_reducible assumption | with_reducible refine bdraw ?_ | with_reducible refine bdrewN ?_ _ | with_reducible refine balloc ?_ _ | with_reducible refine bset ?_ (by simp <;> omega) | with_reducible refine bstep ?_ (by assumption) | with_reducible refine btrans ?_ (by assumption)))
        have g0 := (At.of_cell k0).2
        have g1 := (At.of_cell k1).2
        clear p0 p1 p2 p3 c0 c1 c2 c3 o10 k0 k1
        go_loopw [82, 15] (fun iv sv wr => ∃ (k : Nat) (b : Bool), k ≤ l.length + m.length ∧ iv = .int .i64 k ∧ sv = .bool b ∧ Hid (b = true ↔ ∃ p ∈ (l ++ m).take k, p.o = o) ∧ Below w10.heap.size w10 wr) (fun iv _ _ => l.length + m.length - (intOf iv).toNat)
        case atStart => exact ⟨0, false, by omega, by go_num, rfl, Lib.hid (by simp), Below.refl _ _⟩
        case round =>
          obtain ⟨k, b, hk, rfl, rfl, HBk, hbr⟩ := hrel
          by_cases hlt : k < (l ++ m).length
          · obtain ⟨bb, off, rfl, a0, a1, a2, a3⟩ := (s10.below (by (repeat (first | with_reducible exact Below.refl _ _ | with_reducible assumption | with_reducible refine bdraw ?_ | with_reducible refine bdrewN ?_ _ | with_reducible refine balloc ?_ _ | with_reducible refine bset ?_ (by simp <;> omega) | with_reducible refine bstep ?_ (by assumption) | with_reducible refine btrans ?_ (by assumption)))) (Nat.le_refl _)).wr hlt
            have hle := HL.out _ (List.getElem_mem hlt)
            have hmem := List.getElem_mem hlt
            have HT : Hid ((l ++ m).take (k + 1) = (l ++ m).take k ++ [(l ++ m)[k]]) := Lib.hid (List.take_succ_eq_append_getElem hlt)
            have hlt' : k < l.length + m.length := by simpa using hlt
            generalize (l ++ m)[k] = y at *
            have hkI : (k : Int) < (l.length : Int) + (m.length : Int) := by omega
            have hkJ : (k : Int) < ((l ++ m).length : Int) := by simp; omega
            have d0 := atb a0 (w' := wr) (by (repeat (first | with_reducible exact Below.refl _ _ | with_reducible assumption | with_reducible refine bdraw ?_ | with_reducible refine bdrewN ?_ _ | with_reducible refine balloc ?_ _ | with_reducible refine bset ?_ (by simp <;> omega) | with_reducible refine bstep ?_ (by assumption) | with_reducible refine btrans ?_ (by assumption)))); have d1 := atb a1 (w' := wr) (by (repeat (first | with_reducible exact Below.refl _ _ | with_reducible assumption | with_reducible refine bdraw ?_ | with_reducible refine bdrewN ?_ _ | with_reducible refine balloc ?_ _ | with_reducible refine bset ?_ (by simp <;> omega) | with_reducible refine bstep ?_ (by assumption) | with_reducible refine btrans ?_ (by assumption)))); have d2 := atb a2 (w' := wr) (by (repeat (first | with_reducible exact Below.refl _ _ | with_reducible assumption | with_reducible refine bdraw ?_ | with_reducible refine bdrewN ?_ _ | with_reducible refine balloc ?_ _ | with_reducible refine bset ?_ (by simp <;> omega) | with_reducible refine bstep ?_ (by assumption) | with_reducible refine btrans ?_ (by assumption)))); have d3 := atb a3 (w' := wr) (by (repeat (first | with_reducible exact Below.refl _ _ | with_reducible assumption | with_reducible refine bdraw ?_ | with_reducible refine bdrewN ?_ _ | with_reducible refine balloc ?_ _ | with_reducible refine bset ?_ (by simp <;> omega) | with_reducible refine bstep ?_ (by assumption) | with_reducible refine btrans ?_ (by assumption))))
            have q0 := at_new (w := wr) (cs := #[.int .i64 y.c, .int .i64 y.n, .int .i64 y.o, .bool y.g]) (t := 32) (i := 0) (v := .int .i64 y.c) rfl; have q1 := at_new (w := wr) (cs := #[.int .i64 y.c, .int .i64 y.n, .int .i64 y.o, .bool y.g]) (t := 32) (i := 1) (v := .int .i64 y.n) rfl; have q2 := at_new (w := wr) (cs := #[.int .i64 y.c, .int .i64 y.n, .int .i64 y.o, .bool y.g]) (t := 32) (i := 2) (v := .int .i64 y.o) rfl; have q3 := at_new (w := wr) (cs := #[.int .i64 y.c, .int .i64 y.n, .int .i64 y.o, .bool y.g]) (t := 32) (i := 3) (v := .bool y.g) rfl
            have HM := Lib.hid hmem
            clear a0 a1 a2 a3 hmem
            by_cases hy : y.o = o
            · have hle := hle hy
              have HY := Lib.hid hy
              have d1 : (y.o == o) = true := by simpa using hy
              clear hy
              have r0 : wr.cell? ⟨w7.heap.size, 0, none⟩ = some (.int .i64 x.c) := atb g0 (by (repeat (first | with_reducible exact Below.refl _ _ | with_reducible assumption | with_reducible refine bdraw ?_ | with_reducible refine bdrewN ?_ _ | with_reducible refine balloc ?_ _ | with_reducible refine bset ?_ (by simp <;> omega) | with_reducible refine bstep ?_ (by assumption) | with_reducible refine btrans ?_ (by assumption))))
              have r1 : wr.cell? ⟨w7.heap.size, 1, none⟩ = some (.int .i64 x.n) := atb g1 (by (repeat (first | with_reducible exact Below.refl _ _ | with_reducible assumption | with_reducible refine bdraw ?_ | with_reducible refine bdrewN ?_ _ | with_reducible refine balloc ?_ _ | with_reducible refine bset ?_ (by simp <;> omega) | with_reducible refine bstep ?_ (by assumption) | with_reducible refine btrans ?_ (by assumption))))
              have hzr : w7.heap.size < wr.heap.size := by have := b11.size; have := hbr.size; omega
              go_wp2_with (go_at_call 16; refine (rcmpS_c _ _ _ _ _).mono ?_; rintro e w11 ⟨rfl, b12⟩)
              go_roundw
              case rel => exact ⟨k + 1, true, by omega, by go_num, rfl, Lib.hid ⟨fun _ => ⟨y, by rw [HT.out]; simp, HY.out⟩, fun _ => rfl⟩, by (repeat (first | with_reducible exact Below.refl _ _ | with_reducible assumption | with_reducible refine bdraw ?_ | with_reducible refine bdrewN ?_ _ | with_reducible refine balloc ?_ _ | with_reducible refine bset ?_ (by simp <;> omega) | with_reducible refine bstep ?_ (by assumption) | with_reducible refine btrans ?_ (by assumption)))⟩
              case measure => simp [intOf]; omega
            · have HY := Lib.hid hy
              have d1 : (y.o == o) = false := by simpa using hy
              clear hy hle
              go_wp2
              go_roundw
              case rel => exact ⟨k + 1, b, by omega, by go_num, rfl, Lib.hid ⟨fun h => by
                  obtain ⟨p, hp, hpo⟩ := HBk.out.1 h
                  exact ⟨p, by rw [HT.out]; simp [hp], hpo⟩, fun ⟨p, hp, hpo⟩ => HBk.out.2 (by
                  rw [HT.out, List.mem_append] at hp
                  rcases hp with hp | hp
                  · exact ⟨p, hp, hpo⟩
                  · simp at hp; subst hp; exact absurd hpo HY.out)⟩, by (repeat (first | with_reducible exact Below.refl _ _ | with_reducible assumption | with_reducible refine bdraw ?_ | with_reducible refine bdrewN ?_ _ | with_reducible refine balloc ?_ _ | with_reducible refine bset ?_ (by simp <;> omega) | with_reducible refine bstep ?_ (by assumption) | with_reducible refine btrans ?_ (by assumption)))⟩
              case measure => simp [intOf]; omega
          · have hb : b = true := by
              have h1 := HBk.out
              rw [List.take_of_length_le (by omega)] at h1
              exact h1.2 (HI.out.1 (by simp))
            subst hb
            have hlt' : ¬ k < l.length + m.length := by simpa using hlt
            have hkI : ¬ (k : Int) < (l.length : Int) + (m.length : Int) := by omega
            have hkJ : ¬ (k : Int) < ((l ++ m).length : Int) := by simp; omega
            go_wp2_with (go_at_call 14; refine (HF _ (by (repeat (first | with_reducible exact Below.refl _ _ | with_reducible assumption | with_reducible refine bdraw ?_ | with_reducible refine bdrewN ?_ _ | with_reducible refine balloc ?_ _ | with_reducible refine bset ?_ (by simp <;> omega) | with_reducible refine bstep ?_ (by assumption) | with_reducible refine btrans ?_ (by assumption)))) (s3'.below (by (repeat (first | with_reducible exact Below.refl _ _ | with_reducible assumption | with_reducible refine bdraw ?_ | with_reducible refine bdrewN ?_ _ | with_reducible refine balloc ?_ _ | with_reducible refine bset ?_ (by simp <;> omega) | with_reducible refine bstep ?_ (by assumption) | with_reducible refine btrans ?_ (by assumption)))) (Nat.le_refl _))).out.mono ?_; rintro e w12 ⟨rfl, b13⟩)
            go_ret
            exact ⟨ret_bool (by simp), by (repeat (first | with_reducible exact Below.refl _ _ | with_reducible assumption | with_reducible refine bdraw ?_ | with_reducible refine bdrewN ?_ _ | with_reducible refine balloc ?_ _ | with_reducible refine bset ?_ (by simp <;> omega) | with_reducible refine bstep ?_ (by assumption) | with_reducible refine btrans ?_ (by assumption)))⟩
      · go_wp2_with (first
          | (at_builtin; (refine wpList_append_sl _ rfl (.tmp 76) (.tmp 77) 22 rfl (E := wrE) (l := []) (m := l) (base := w8.heap.size) Try.underlying22 hi hz0 hz1 hz2 rfl (made_row w8 _ _ _) (hp.below (by (repeat (first | with_reducible exact Below.refl _ _ | with_reducible assumption | with_reducible refine bdraw ?_ | with_reducible refine bdrewN ?_ _ | with_reducible refine balloc ?_ _ | with_reducible refine bset ?_ (by simp <;> omega) | with_reducible refine bstep ?_ (by assumption) | with_reducible refine btrans ?_ (by assumption)))) (Nat.le_refl _)) rfl rfl (by simp [maxLen]; omega) (by simp; omega) (by simp; omega) ?_); intro v9 w9 ys9 ho9 hr9 hg9 hb9; have b9 : Below w8.heap.size w8 w9 := (by (repeat (first | with_reducible exact Below.refl _ _ | with_reducible assumption | with_reducible refine bdraw ?_ | with_reducible refine bdrewN ?_ _ | with_reducible refine balloc ?_ _ | with_reducible refine bset ?_ (by simp <;> omega) | with_reducible refine bstep ?_ (by assumption) | with_reducible refine btrans ?_ (by assumption))) : Below w8.heap.size w8 _).grown hg9 (by simp; omega) (by intro k hk; simp [Value.ownBlock] at hk; omega); have o9 : Own wrE Any w9 w8.heap.size 32 v9 l := ⟨ys9, by simpa using ho9, hr9.1, hr9.2⟩; clear ho9 hr9 hg9 hb9)
          | (at_builtin; (refine wpList_append_sl _ rfl (.tmp 78) (.tmp 79) 22 rfl (E := wrE) (l := l) (m := m) (base := w8.heap.size) Try.underlying22 hi hz0 hz1 hz2 rfl (xs := o9.choose) o9.choose_spec.1 (hq.below (by (repeat (first | with_reducible exact Below.refl _ _ | with_reducible assumption | with_reducible refine bdraw ?_ | with_reducible refine bdrewN ?_ _ | with_reducible refine balloc ?_ _ | with_reducible refine bset ?_ (by simp <;> omega) | with_reducible refine bstep ?_ (by assumption) | with_reducible refine btrans ?_ (by assumption)))) (Nat.le_refl _)) rfl rfl (by unfold maxLen; omega) (by omega) b9.size ?_); intro v10 w10 ys10 ho10 hr10 hg10 hb10; have b10 : Below w8.heap.size w9 w10 := bgrown hg10 b9.size (fun k hk => (o9.lt k hk).1); have o10 : Own wrE Any w10 w8.heap.size 32 v10 (l ++ m) := ⟨_, ho10, (show Reps wrE Any w10 _ l from ⟨o9.choose_spec.2.1, o9.choose_spec.2.2⟩).append (show Reps wrE Any w10 ys10 m from ⟨hr10.1, hr10.2⟩)⟩; clear ho10 hr10 hg10 hb10; have b11 : Below w8.heap.size w8 w10 := b9.trans b10; clear b9 b10; have s10 := o10.slAny; obtain ⟨A10, c10, rfl, hc10, hc11, _⟩ := s10.shape; unfold maxLen at hc11)
          | fail)
        clear o9
        have k0 : w10.cell? ⟨w7.heap.size, 0, none⟩ = some (.int .i64 x.c) := (b11.cell (p := ⟨w7.heap.size, 0, none⟩) hz8).trans c0
        have k1 : w10.cell? ⟨w7.heap.size, 1, none⟩ = some (.int .i64 x.n) := (b11.cell (p := ⟨w7.heap.size, 1, none⟩) hz8).trans c1
        have s3' : Sl wrE Any w10 v3 (puts (puts [] l) m) := (s3.below (by (repeat (first | with_reducible exact Below.refl _ _ | with_reducible assumption | with_reducible refine bdraw ?_ | with_reducible refine bdrewN ?_ _ | with_reducible refine balloc ?_ _ | with_reducible refine bset ?_ (by simp <;> omega) | with_reducible refine bstep ?_ (by assumption) | with_reducible refine btrans ?_ (by assumption)))) (Nat.le_refl _))
        have BW : Below w.heap.size w w10 := by (repeat (first | with_reducible exact Below.refl _ _ | with_reducible assumption | with_reducible refine bdraw ?_ | with_reducible refine bdrewN ?_ _ | with_reducible refine balloc ?_ _ | with_reducible refine bset ?_ (by simp <;> omega) | with_reducible refine bstep ?_ (by assumption) | with_reducible refine btrans ?_ (by assumption)))
        have g0 := (At.of_cell k0).2
        have g1 := (At.of_cell k1).2
        clear p0 p1 p2 p3 c0 c1 c2 c3 o10 k0 k1
        go_loopw [82, 15] (fun iv sv wr => ∃ (k : Nat) (b : Bool), k ≤ l.length + m.length ∧ iv = .int .i64 k ∧ sv = .bool b ∧ Hid (b = true ↔ ∃ p ∈ (l ++ m).take k, p.o = o) ∧ Below w10.heap.size w10 wr) (fun iv _ _ => l.length + m.length - (intOf iv).toNat)
        case atStart => exact ⟨0, false, by omega, by go_num, rfl, Lib.hid (by simp), Below.refl _ _⟩
        case round =>
          obtain ⟨k, b, hk, rfl, rfl, HBk, hbr⟩ := hrel
          by_cases hlt : k < (l ++ m).length
          · obtain ⟨bb, off, rfl, a0, a1, a2, a3⟩ := (s10.below (by (repeat (first | with_reducible exact Below.refl _ _ | with_reducible assumption | with_reducible refine bdraw ?_ | with_reducible refine bdrewN ?_ _ | with_reducible refine balloc ?_ _ | with_reducible refine bset ?_ (by simp <;> omega) | with_reducible refine bstep ?_ (by assumption) | with_reducible refine btrans ?_ (by assumption)))) (Nat.le_refl _)).wr hlt
            have hle := HL.out _ (List.getElem_mem hlt)
            have hmem := List.getElem_mem hlt
            have HT : Hid ((l ++ m).take (k + 1) = (l ++ m).take k ++ [(l ++ m)[k]]) := Lib.hid (List.take_succ_eq_append_getElem hlt)
            have hlt' : k < l.length + m.length := by simpa using hlt
            generalize (l ++ m)[k] = y at *
            have hkI : (k : Int) < (l.length : Int) + (m.length : Int) := by omega
            have hkJ : (k : Int) < ((l ++ m).length : Int) := by simp; omega
            have d0 := atb a0 (w' := wr) (by (repeat (first | with_reducible exact Below.refl _ _ | with_reducible assumption | with_reducible refine bdraw ?_ | with_reducible refine bdrewN ?_ _ | with_reducible refine balloc ?_ _ | with_reducible refine bset ?_ (by simp <;> omega) | with_reducible refine bstep ?_ (by assumption) | with_reducible refine btrans ?_ (by assumption)))); have d1 := atb a1 (w' := wr) (by (repeat (first | with_reducible exact Below.refl _ _ | with_reducible assumption | with_reducible refine bdraw ?_ | with_reducible refine bdrewN ?_ _ | with_reducible refine balloc ?_ _ | with_reducible refine bset ?_ (by simp <;> omega) | with_reducible refine bstep ?_ (by assumption) | with_reducible refine btrans ?_ (by assumption)))); have d2 := atb a2 (w' := wr) (by (repeat (first | with_reducible exact Below.refl _ _ | with_reducible assumption | with_reducible refine bdraw ?_ | with_reducible refine bdrewN ?_ _ | with_reducible refine balloc ?_ _ | with_reducible refine bset ?_ (by simp <;> omega) | with_reducible refine bstep ?_ (by assumption) | with_reducible refine btrans ?_ (by assumption)))); have d3 := atb a3 (w' := wr) (by (repeat (first | with_reducible exact Below.refl _ _ | with_reducible assumption | with_reducible refine bdraw ?_ | with_reducible refine bdrewN ?_ _ | with_reducible refine balloc ?_ _ | with_reducible refine bset ?_ (by simp <;> omega) | with_reducible refine bstep ?_ (by assumption) | with_reducible refine btrans ?_ (by assumption))))
            have q0 := at_new (w := wr) (cs := #[.int .i64 y.c, .int .i64 y.n, .int .i64 y.o, .bool y.g]) (t := 32) (i := 0) (v := .int .i64 y.c) rfl; have q1 := at_new (w := wr) (cs := #[.int .i64 y.c, .int .i64 y.n, .int .i64 y.o, .bool y.g]) (t := 32) (i := 1) (v := .int .i64 y.n) rfl; have q2 := at_new (w := wr) (cs := #[.int .i64 y.c, .int .i64 y.n, .int .i64 y.o, .bool y.g]) (t := 32) (i := 2) (v := .int .i64 y.o) rfl; have q3 := at_new (w := wr) (cs := #[.int .i64 y.c, .int .i64 y.n, .int .i64 y.o, .bool y.g]) (t := 32) (i := 3) (v := .bool y.g) rfl
            have HM := Lib.hid hmem
            clear a0 a1 a2 a3 hmem
            by_cases hy : y.o = o
            · exact absurd (HI.out.2 ⟨y, HM.out, hy⟩) (by decide)
            · have HY := Lib.hid hy
              have d1 : (y.o == o) = false := by simpa using hy
              clear hy hle
              go_wp2
              go_roundw
              case rel => exact ⟨k + 1, b, by omega, by go_num, rfl, Lib.hid ⟨fun h => by
                  obtain ⟨p, hp, hpo⟩ := HBk.out.1 h
                  exact ⟨p, by rw [HT.out]; simp [hp], hpo⟩, fun ⟨p, hp, hpo⟩ => HBk.out.2 (by
                  rw [HT.out, List.mem_append] at hp
                  rcases hp with hp | hp
                  · exact ⟨p, hp, hpo⟩
                  · simp at hp; subst hp; exact absurd hpo HY.out)⟩, by (repeat (first | with_reducible exact Below.refl _ _ | with_reducible assumption | with_reducible refine bdraw ?_ | with_reducible refine bdrewN ?_ _ | with_reducible refine balloc ?_ _ | with_reducible refine bset ?_ (by simp <;> omega) | with_reducible refine bstep ?_ (by assumption) | with_reducible refine btrans ?_ (by assumption)))⟩
              case measure => simp [intOf]; omega
          · have hb : b = false := by
              have h1 := HBk.out
              rw [List.take_of_length_le (by omega)] at h1
              cases b with
              | false => rfl
              | true => exact absurd (HI.out.2 (h1.1 rfl)) (by decide)
            subst hb
            have hlt' : ¬ k < l.length + m.length := by simpa using hlt
            have hkI : ¬ (k : Int) < (l.length : Int) + (m.length : Int) := by omega
            have hkJ : ¬ (k : Int) < ((l ++ m).length : Int) := by simp; omega
            go_wp2_with (go_at_call 14; refine (HF _ (by (repeat (first | with_reducible exact Below.refl _ _ | with_reducible assumption | with_reducible refine bdraw ?_ | with_reducible refine bdrewN ?_ _ | with_reducible refine balloc ?_ _ | with_reducible refine bset ?_ (by simp <;> omega) | with_reducible refine bstep ?_ (by assumption) | with_reducible refine btrans ?_ (by assumption)))) (s3'.below (by (repeat (first | with_reducible exact Below.refl _ _ | with_reducible assumption | with_reducible refine bdraw ?_ | with_reducible refine bdrewN ?_ _ | with_reducible refine balloc ?_ _ | with_reducible refine bset ?_ (by simp <;> omega) | with_reducible refine bstep ?_ (by assumption) | with_reducible refine btrans ?_ (by assumption)))) (Nat.le_refl _))).out.mono ?_; rintro e w12 ⟨rfl, b13⟩)
            go_ret
            exact ⟨ret_bool (by simp), by (repeat (first | with_reducible exact Below.refl _ _ | with_reducible assumption | with_reducible refine bdraw ?_ | with_reducible refine bdrewN ?_ _ | with_reducible refine balloc ?_ _ | with_reducible refine bset ?_ (by simp <;> omega) | with_reducible refine bstep ?_ (by assumption) | with_reducible refine btrans ?_ (by assumption)))⟩
end Go.Proofs.Ytkocbhcklnjomaa
