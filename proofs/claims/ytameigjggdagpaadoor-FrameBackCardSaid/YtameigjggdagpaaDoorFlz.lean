/- The frame layer's laws, walked: FrameBack. -/
import Derived.Test.YtameigjggdagpaaDoorFla
import Derived.Test.YtameigjggdagpaaDoorFlq
import Derived.Deep.DeepAppendWide
namespace Go.Proofs.YtameigjggdagpaaDoor
open Go.RowKit

theorem int_info : (Tryd.prog.info? 3).map (fun i => (i.zero, i.size, i.bytes)) = some (some (.int .i64 0), 1, 8) := by kernel_rfl

/-- append(x, ys...) onto a row of the call's own, bounded by what the append itself bears -/
theorem wpList_append_slw {P : Program} (w : World) {ops : Array Oper} {rest : List Oper} {o : Oper} {a : Act} {Q : Exit → Act → World → Prop} (hgd : o.guard = none) (s y : Operand) (t : TypeId)
    (ho : o.op = .call { callee := .builtin .append, args := #[s, y], argTypes := #[t, t] })
    {α : Type} {E : Enc α} {S : Foot} {base : Nat} {e : TypeId} {i : TypeInfo} {z : Value} {bytes : Nat} (ht : P.underlying t = some (.slice e)) (hi : P.info? e = some i) (hz : i.zero = some z)
    (hsize : i.size = E.k) (hby : i.bytes = bytes) (hzs : z.cells.size = E.k)
    {v x : Value} {l m : List α} {xs : List Value} (hown : w.ownsRow base e E.k v l.length xs) (hx : Sl E S w x m) (hs : a.eval s = v) (hxv : a.eval y = x)
    (h63 : l.length + m.length ≤ maxLen) (hbytes : (l.length + m.length + (l.length + m.length) / 4 + 192) * bytes ≤ 281474976710656) (hbase : base ≤ w.heap.size)
    (h : ∀ v' w' ys, w'.ownsRow base e E.k v' (l ++ m).length (xs ++ ys) → Reps E S w ys m → w.grownBy w' v.ownBlock → wpList P ops Q rest (a.put o.dst v') w') : wpList P ops Q (o :: rest) a w := by
  obtain ⟨A, cap, ys, rfl, _, _, _, hr, hc⟩ := hx
  have hpos := E.pos
  by_cases hm : m.length = 0
  · have hm' : m = [] := List.eq_nil_of_length_eq_zero hm
    subst hm'
    have hys : ys = [] := List.eq_nil_of_length_eq_zero (by rw [hr.1]; simp)
    subst hys
    refine wpList_plain hgd fun K hK => ?_
    have hrun := run_append_nothing (P := P) w base t o.type e i E.k ht hi v _ xs hown A cap
    unfold Oper.wp execOp
    simp only [ho, resolve, invoke, builtin, Sem.run_bind, Sem.run_pure, Result.andThen_ok, List.map_toArray, List.map_cons, List.map_nil, hs, hxv, List.length_nil, hrun]
    exact hK _ _ (h v w [] (by simpa using hown) hr (World.grownBy.refl w _))
  · have hy0 : 0 < ys.length := by rw [hr.1]; exact Nat.mul_pos (by omega) hpos
    obtain ⟨b, off, rfl, _⟩ := hc 0 _ (List.getElem?_eq_getElem hy0)
    have hcells : ∀ j u, ys[j]? = some u → w.cell? ((⟨b, off, none⟩ : Addr).add j) = some u := by
      intro j u hu
      obtain ⟨b', off', e', hat⟩ := hc j u hu
      injection e' with e'
      injection e' with e1 e2
      subst e1 e2
      rw [add_lit']
      exact hat.cell
    exact wpList_append_own_wide w hgd s y t ho base e i z E.k bytes ht hi hz hsize hby hzs hpos v l.length xs hs hown ⟨b, off, none⟩ m.length cap ys hxv hr.1 hcells (fun u hu => hr.one u hu) h63 hbytes hbase
      fun v' w' h2 h3 _ => h v' w' ys (by simpa using h2) hr h3

set_option maxRecDepth 100000 in
set_option maxHeartbeats 1000000 in
theorem frameBack_c {S S' : Foot} {va vm : Value} {L : List (List UInt8)} {lm : List UInt8} {c : Nat} {w : World} (ha : Sl (slE u8E) S w va L) (hm : Sl u8E S' w vm lm) (ht : Tab w) (hc : c < 65536) (hz : lm.length ≤ 140737488351232) :
    Calls Tryd.prog 8 #[va, .int .u16 (c : Int), vm] w fun e w' => e = .returned (.bool true) ∧ Below w.heap.size w w' := by
  obtain ⟨i0, hi, hz0, hz1, hz2⟩ := info_parts slice_info
  obtain ⟨i2, hi2, hx0, hx1, hx2⟩ := info_parts int_info
  obtain ⟨i1, hi1, hy0, hy1, hy2⟩ := info_parts sl_info
  have hal := Lib.hid (alive_c ht)
  obtain ⟨A0, c0, rfl, hc0, hm0, _⟩ := ha.shape
  unfold maxLen at hm0
  by_cases hbig : 30 < L.length
  · have hd : decide ((30 : Int) < (L.length : Int)) = true := by simp; omega
    go_enter Tryd.func8, Tryd.ntmps8
    go_wp2_with (go_at_call 9; refine hal.out.mono ?_; rintro e w1 ⟨rfl, b1⟩)
    go_ret
    exact ⟨rfl, b1⟩
  have hle : L.length ≤ 30 := by omega
  have hd : decide ((30 : Int) < (L.length : Int)) = false := by simp; omega
  go_enter Tryd.func8, Tryd.ntmps8
  go_wp2_with fail
  refine hal.out.mono ?_
  rintro e w1 ⟨rfl, b1⟩
  go_wp2_with fail
  go_loopw [7, 8, 9] (fun va ve i wr => ∃ k : Nat, k ≤ L.length ∧ i = .int .i64 k ∧ Own u8E Any wr w.heap.size 5 va (fl (L.take k)) ∧ Own (intE .i64) (HiN w.heap.size ve.ownBlock) wr w.heap.size 3 ve (endsOf L k) ∧ Below w.heap.size w wr ∧ Hid (∀ j (hj : j < L.length), j < k → (L[j]).length ≤ 4096)) (fun _ _ i _ => L.length - (intOf i).toNat)
  case atStart => exact ⟨0, Nat.zero_le _, rfl, Own.nil, Own.nil, b1, fun j hj hk => absurd hk (Nat.not_lt_zero _)⟩
  case round =>
    obtain ⟨k, hk, rfl, oa, oe, hbr, hsm⟩ := hrel
    by_cases hlt : k < L.length
    · obtain ⟨b, off, x, rfl, hat, hx⟩ := (ha.below hbr (Nat.le_refl _)).elem hlt
      obtain ⟨Ax, cx, rfl, hcx, hmx, _⟩ := hx.shape
      unfold maxLen at hmx
      have hcell := hat.cell
      have hFS := Lib.hid (fl_snoc L hlt)
      have hES := Lib.hid (endsOf_snoc L k)
      generalize hp : L[k] = p at *
      have HPK := Lib.hid hp
      clear hat hp
      by_cases h4 : 4096 < p.length
      · go_wp2
        go_ret
        exact ⟨rfl, hbr⟩
      · have HSO := Lib.hid (sealed_open p lm (by omega))
        have htr := ht.below hbr (Nat.le_refl _)
        have hsl := sealed_length p
        go_wp2_with fail
        refine (seal_ok hx htr (by omega)).mono ?_
        rintro e w2 ⟨v2, rfl, o2, b2⟩
        obtain ⟨A2, c2, hv2, hc2, hm2, _⟩ := o2.slAny.shape
        unfold maxLen at hm2
        rw [hsl] at hv2 hc2
        clear hsl
        subst hv2
        go_wp2_with fail
        refine (copy_c o2.slAny (by rw [sealed_length]; omega)).mono ?_
        rintro e w3 ⟨v3, rfl, o3, b3⟩
        have b23 := bstep b2 b3
        have hm3 := hm.below (bstep hbr b23) (Nat.le_refl _)
        have lt3 := o3.lt
        obtain ⟨xs3, ho3, hr3⟩ := o3
        go_wp2_with (at_builtin; refine wpList_append_slw _ rfl (.tmp 46) (.tmp 47) 22 rfl (E := u8E) (base := w2.heap.size) Tryd.underlying22 hi hz0 hz1 hz2 rfl ho3 hm3 rfl rfl (by simp only [maxLen, sealed_length]; omega) (by rw [sealed_length]; omega) b3.size ?_; intro v4 w4 ys ho4 hr4 hg4)
        have b4 : Below w2.heap.size w3 w4 := bgrown hg4 b3.size (fun k hk => (lt3 k hk).1)
        have o4 : Own u8E Any w4 w2.heap.size 5 v4 (sealed p ++ lm) := ⟨_, ho4, Reps.append ⟨hr3.1, hr3.2⟩ ⟨hr4.1, hr4.2⟩⟩
        have b24 := b3.trans b4
        have br4 := bstep b2 b24
        have b04 := bstep hbr br4
        have ht4 := ht.below b04 (Nat.le_refl _)
        have hop := open_c o4.slAny ht4
        rw [HSO.out.1, HSO.out.2.1, HSO.out.2.2] at hop
        have HOP := Lib.hid hop
        clear hop lt3 ho3 hr3 ho4 hr4 hg4
        refine HOP.out.mono ?_
        rintro e w5 ⟨v5, rfl, o5, b5⟩
        have br5 := bstep br4 b5
        have b05 := bstep hbr br5
        have hx5 := hx.below br5 (Nat.le_refl _)
        have hcell5 : w5.cell? ⟨b, off + k, none⟩ = some (.slice Ax p.length cx) := (br5.cell (p := ⟨b, off + k, none⟩) (World.block_lt_of_cell? _ _ hcell)).trans hcell
        have oa5 := oa.below br5 (Nat.le_refl _)
        have oe5 := oe.below br5 (Nat.le_refl _)
        have o25 := o2.below (bstep b24 b5) (Nat.le_refl _)
        have hsame := same_c o5.slAny hx5
        rw [show (p == p) = true by simp] at hsame
        have HSM := Lib.hid hsame
        clear hsame
        go_wp2_with fail
        refine HSM.out.mono ?_
        rintro e w6 ⟨rfl, rfl⟩
        have hne5 := own_ne oa5 oe5 (by decide)
        have lta := oa5.lt
        have hfb := fl_le L k
        have hLB : Hid ((fl (L.take k)).length ≤ 123120) := by
          have h1 := fl_bound (L.take k) (by
            intro y hy
            obtain ⟨j, hj, rfl⟩ := List.getElem_of_mem hy
            have hj' : j < k := by rw [List.length_take] at hj; omega
            rw [List.getElem_take]
            exact hsm.out j (by omega) hj')
          have h2 : (L.take k).length ≤ 30 := by rw [List.length_take]; omega
          have h3 : (L.take k).length * 4104 ≤ 30 * 4104 := Nat.mul_le_mul_right _ h2
          exact Nat.le_trans h1 h3
        obtain ⟨xsa, hoa, hra⟩ := oa5
        go_wp2_with (first
          | (at_builtin
             refine wpList_append_sl _ rfl (.tmp 74) (.tmp 75) 22 rfl (E := u8E) (base := w.heap.size) Tryd.underlying22 hi hz0 hz1 hz2 rfl hoa o25.slAny rfl rfl (by have := hLB.out; simp only [maxLen, sealed_length]; omega) (by have := hLB.out; rw [sealed_length]; omega) b05.size ?_
             intro v6 w6 ys6 ho6 hr6 hg6 hbl6
             have b6 : Below w.heap.size w5 w6 := bgrown hg6 b05.size (fun k hk => (lta k hk).1)
             have o6 : Own u8E Any w6 w.heap.size 5 v6 (fl (L.take k) ++ sealed p) := ⟨_, ho6, Reps.append ⟨hra.1, hra.2⟩ ⟨hr6.1, hr6.2⟩⟩
             have oe6 := (oe5.flat (S' := fun _ _ => False)).grown hg6 (fun g hg e => hne5 g e hg) (fun b fr h => h.elim)
             have oe6' : Own (intE .i64) (HiN w.heap.size u8.ownBlock) w6 w.heap.size 3 u8 (endsOf L k) := oe6.flat
             obtain ⟨A6, c6, hv6, hc6, hm6, _⟩ := o6.slAny.shape
             have b06 := b05.trans b6
             clear ho6 hr6 hg6 hbl6 oe6
             rw [← hFS.out] at o6 hv6 hc6
             subst hv6)
          | (at_builtin
             refine wpList_append_one _ rfl (.tmp 77) (.tmp 80) 40 rfl (E := intE .i64) (base := w.heap.size) Tryd.underlying40 hi2 hx0 hx1 hx2 rfl (oe6'.alloc _) (cs := [.int .i64 ((fl (L.take (k + 1))).length : Int)]) rfl (new_cells w6 [.int .i64 ((fl (L.take (k + 1))).length : Int)] 3) rfl rfl (by simp only [endsOf, maxLen, List.length_map, List.length_range]; omega) (by simp only [endsOf, List.length_map, List.length_range]; omega) (by have := b06.size; simp; omega) ?_
             intro v7 w7 hown7 hb7 hbl7 hg7))
        have ho6' := o6.below (B := w6.heap.size) (Below.refl _ _) (Nat.le_refl _)
        go_roundw
        case rel =>
          refine ⟨k + 1, by omega, by go_num, ?_, ?_, ?_, ?_⟩
          · have lt6 := o6.lt
            have hne6 := own_ne o6 oe6' (by decide)
            have o6A := o6.alloc (.cells #[.int .i64 ((fl (L.take (k + 1))).length : Int)] 3)
            exact (o6A.u8 (S' := fun _ _ => False)).grown hg7 (fun g hg e => hne6 g hg e) (fun _ _ h => h.elim) |>.u8
          · rw [hES.out]; exact hown7
          · exact (b06.alloc b06.size _).trans hb7
          · intro j hj hjk
            rcases Nat.lt_or_ge j k with h | h
            · exact hsm.out j hj h
            · have : j = k := by omega
              subst this
              rw [HPK.out]; omega
        case measure => simp [intOf]; omega
    · have hkl : k = L.length := by omega
      subst hkl
      rw [List.take_length] at oa
      have hall : ∀ x ∈ L, x.length ≤ 4096 := by
        intro y hy
        obtain ⟨j, hj, rfl⟩ := List.getElem_of_mem hy
        exact hsm.out j hj hj
      have hall2 : ∀ x ∈ L, x.length ≤ 1048576 := fun x hx => by have := hall x hx; omega
      have hfb : (fl L).length ≤ 123120 := by
        have h1 := fl_bound L hall
        have h3 : L.length * 4104 ≤ 30 * 4104 := Nat.mul_le_mul_right _ hle
        exact Nat.le_trans h1 h3
      have hr0 := ha.below hbr (Nat.le_refl _)
      obtain ⟨Aa, ca, hva, hca, hma, _⟩ := oa.slAny.shape
      unfold maxLen at hma
      have hel : (endsOf L L.length).length = L.length := by simp [endsOf]
      obtain ⟨Ae, ce, hve, hce, hme, _⟩ := oe.slAny.shape
      unfold maxLen at hme
      rw [hel] at hve hce
      subst hva hve
      clear hel
      have hkc := fun j hj => Lib.hid (@cut_all L hall2 j hj)
      go_wp2_with fail
      refine (cut_c oa.slAny (ht.below hbr (Nat.le_refl _)) (by omega)).mono ?_
      rintro e w2 ⟨v2, k2, hk2, rfl, o2, b2⟩
      have HC2 := (hkc k2 hk2).out
      rw [HC2] at o2 ⊢
      clear HC2
      have br2 := bstep hbr b2
      have ha2 := ha.below br2 (Nat.le_refl _)
      go_wp2_with fail
      refine (lists_c o2.slAny ha2).mono ?_
      rintro e w3 ⟨rfl, nq, rfl⟩
      have hself : (L == L) = true := by simp
      rw [hself]
      clear hself
      have br3 := bdrewN br2 nq
      have ha3 := ha2.drewN nq
      have oa3 : Own u8E Any (w2.drewN nq) w.heap.size 5 (.slice Aa (fl L).length ca) (fl L) := (oa.below b2 (Nat.le_refl _)).below (bdrewN (Below.refl w2.heap.size w2) nq) (Nat.le_refl _)
      have oe3 := (oe.below b2 (Nat.le_refl _)).below (bdrewN (Below.refl w2.heap.size w2) nq) (Nat.le_refl _)
      generalize w2.drewN nq = w3 at *
      clear o2 b2 br2 ha2 oa oe hr0 hkc hk2
      have hal2 : c % ((fl L).length + 1) ≤ (fl L).length := by have := Nat.mod_lt c (show 0 < (fl L).length + 1 by omega); omega
      have hmod : (c : Int) % (((fl L).length : Int) + 1) = ((c % ((fl L).length + 1) : Nat) : Int) := by simp
      generalize c % ((fl L).length + 1) = a at *
      have hcut := fun k h1 h2 h3 j hj => Lib.hid (@cut_at L hall2 a k h1 h2 h3 j hj)
      have hfl0 : Hid ((fl (L.take 0)).length = 0) := rfl
      have htw := ht.below br3 (Nat.le_refl _)
      obtain ⟨A1, c1, s1, r1⟩ := oa3.slAny.cut_h Tryd.underlying22 hi hz1 (hi := a) hal2 rfl
      have hends : ∀ j, j < L.length → Hid (∃ b off, Ae = some ⟨b, off, none⟩ ∧ w3.cell? ⟨b, off + j, none⟩ = some (.int .i64 ((fl (L.take (j + 1))).length : Int))) := by
        intro j hj
        obtain ⟨b, off, e, hat⟩ := oe3.slAny.intAt (i := j) (by simp [endsOf]; exact hj)
        refine ⟨b, off, e, ?_⟩
        rw [hat.cell]
        simp [endsOf]
      clear oa3 hal ht
      go_wp2
      go_loop [18] (fun i => ∃ k : Nat, k ≤ L.length ∧ i = .int .i64 k ∧ Hid ((fl (L.take k)).length ≤ a)) (fun i => L.length - (intOf i).toNat)
      case atStart => exact ⟨0, Nat.zero_le _, rfl, Nat.zero_le _⟩
      case round =>
        obtain ⟨k, hk, rfl, hka⟩ := hrel
        have hle1 := fl_le L (k + 1)
        by_cases hlt : k < L.length
        · obtain ⟨b, off, rfl, hcell⟩ := (hends k hlt).out
          generalize hM : (fl (L.take (k + 1))).length = M at *
          have HM := Lib.hid hM
          clear hM
          by_cases hMa : M ≤ a
          · go_wp2
            go_round
            case rel => exact ⟨k + 1, by omega, by go_num, by unfold Hid; rw [HM.out]; exact hMa⟩
            case measure => simp [intOf]; omega
          · have h2 : Hid (k < L.length → a < (fl (L.take (k + 1))).length) := fun _ => by rw [HM.out]; omega
            have hk3 := hcut k hk hka.out h2.out
            obtain ⟨A4, c4, s4, r4⟩ := ha3.cut_h Tryd.underlying35 hi1 hy1 (hi := k) hk rfl
            go_wp2_with fail
            refine (cut_c s1 htw (by rw [List.length_take]; omega)).mono ?_
            rintro e w4 ⟨v4, j4, hj4, rfl, o4, b4⟩
            have HC := (hk3 j4 hj4).out
            rw [HC] at o4 ⊢
            have s44 := s4.below b4 (Nat.le_refl _)
            have br4 := bstep br3 b4
            clear HC hk3 hj4 hcut
            go_wp2_with fail
            refine (lists_c o4.slAny s44).mono ?_
            rintro e w5 ⟨rfl, nq5, rfl⟩
            have hself : (L.take k == L.take k) = true := by simp
            rw [hself]
            clear hself s44 o4 s4 r4 r1 s1 htw
            by_cases hk0 : k = 0
            · subst hk0
              have hN := hfl0.out
              rw [hN]
              clear hN hends
              go_wp2
              go_ret
              exact ⟨rfl, bdrewN br4 nq5⟩
            · obtain ⟨b', off', hAe, hcellk⟩ := (hends (k - 1) (by omega)).out
              rw [show k - 1 + 1 = k by omega] at hcellk
              have hcell5 : (w4.drewN nq5).cell? ⟨b', off' + (k - 1), none⟩ = some (.int .i64 ((fl (L.take k)).length : Int)) := (b4.cell (p := ⟨b', off' + (k - 1), none⟩) (World.block_lt_of_cell? _ _ hcellk)).trans hcellk
              have br5 := bdrewN br4 nq5
              generalize (fl (L.take k)).length = N at *
              generalize w4.drewN nq5 = w5 at *
              have hz1 : ((k : Int) == 0) = false := by rw [beq_eq_false_iff_ne]; omega
              have hz2 : (0 : Int) < (k : Int) := by omega
              clear hcellk b4
              injection hAe with hAe
              injection hAe with e1 e2
              subst e1 e2
              go_wp2
              go_ret
              exact ⟨rfl, br5⟩
        · have h2 : Hid (k < L.length → a < (fl (L.take (k + 1))).length) := fun h => absurd h hlt
          have hk3 := hcut k hk hka.out h2.out
          obtain ⟨A4, c4, s4, r4⟩ := ha3.cut_h Tryd.underlying35 hi1 hy1 (hi := k) hk rfl
          go_wp2_with fail
          refine (cut_c s1 htw (by rw [List.length_take]; omega)).mono ?_
          rintro e w4 ⟨v4, j4, hj4, rfl, o4, b4⟩
          have HC := (hk3 j4 hj4).out
          rw [HC] at o4 ⊢
          have s44 := s4.below b4 (Nat.le_refl _)
          have br4 := bstep br3 b4
          clear HC hk3 hj4 hcut
          go_wp2_with fail
          refine (lists_c o4.slAny s44).mono ?_
          rintro e w5 ⟨rfl, nq5, rfl⟩
          have hself : (L.take k == L.take k) = true := by simp
          rw [hself]
          clear hself s44 o4 s4 r4 r1 s1 htw
          by_cases hk0 : k = 0
          · subst hk0
            have hN := hfl0.out
            rw [hN]
            clear hN hends
            go_wp2
            go_ret
            exact ⟨rfl, bdrewN br4 nq5⟩
          · obtain ⟨b', off', hAe, hcellk⟩ := (hends (k - 1) (by omega)).out
            rw [show k - 1 + 1 = k by omega] at hcellk
            have hcell5 : (w4.drewN nq5).cell? ⟨b', off' + (k - 1), none⟩ = some (.int .i64 ((fl (L.take k)).length : Int)) := (b4.cell (p := ⟨b', off' + (k - 1), none⟩) (World.block_lt_of_cell? _ _ hcellk)).trans hcellk
            have br5 := bdrewN br4 nq5
            generalize (fl (L.take k)).length = N at *
            generalize w4.drewN nq5 = w5 at *
            have hz1 : ((k : Int) == 0) = false := by rw [beq_eq_false_iff_ne]; omega
            have hz2 : (0 : Int) < (k : Int) := by omega
            clear hcellk b4
            subst hAe
            go_wp2
            go_ret
            exact ⟨rfl, br5⟩
end Go.Proofs.YtameigjggdagpaaDoor
