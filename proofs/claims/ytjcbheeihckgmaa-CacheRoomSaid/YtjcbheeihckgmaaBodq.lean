/- CacheRoom, walked. -/
import Derived.Test.YtjcbheeihckgmaaBodp
namespace Go.Proofs.Ytjcbheeihckgmaa
open Go.RowKit

/-- whatever block, but not the row r -/
def NotR (r : Option Nat) : Foot := fun b _ => some b ≠ r
section
variable {α : Type} {E : Enc α} {w w' : World} {v v' : Value} {l m : List α} {xs ys : List Value} {base : Nat} {e : TypeId}
theorem Own.appendedN (hr : Reps E (NotR v.ownBlock) w xs l) (hr' : Reps E (NotR v.ownBlock) w ys m) (ho : w'.ownsRow base e E.k v' (l ++ m).length (xs ++ ys))
    (hg : w.grownBy w' v.ownBlock) (hb : v'.ownBlock = v.ownBlock ∨ v'.ownBlock = some w.heap.size) : Own E (NotR v'.ownBlock) w' base e v' (l ++ m) := by
  have key : ∀ {zs : List Value} {k : List α}, Reps E (NotR v.ownBlock) w zs k → Reps E (NotR v'.ownBlock) w' zs k := fun h =>
    (h.mono (S' := fun b fr => NotR v.ownBlock b fr ∧ b < w.heap.size) fun b fr h hl => ⟨h, hl⟩).keep (fun b fr h hl => hg.block b hl h.1) |>.mono fun b fr h _ => by
      rcases hb with hb | hb
      · unfold NotR; rw [hb]; exact h.1
      · unfold NotR; rw [hb]; intro hc; injection hc with hc; have := h.2; omega
  exact ⟨_, ho, Reps.append (key hr) (key hr')⟩
theorem wpList_append_oneN {P : Program} (w : World) {ops : Array Oper} {rest : List Oper} {o : Oper} {ac : Act} {Q : Exit → Act → World → Prop} (hgd : o.guard = none) (s y : Operand) (t : TypeId)
    (ho : o.op = .call { callee := .builtin .append, args := #[s, y], argTypes := #[t, t] })
    {i : TypeInfo} {z : Value} {bytes : Nat} (ht : P.underlying t = some (.slice e)) (hi : P.info? e = some i) (hz : i.zero = some z)
    (hsize : i.size = E.k) (hby : i.bytes = bytes) (hzs : z.cells.size = E.k)
    {a : α} {cs : List Value} {g c : Nat} (hown : Own E (NotR v.ownBlock) w base e v l) (hrd : E.rd (NotR v.ownBlock) w cs a) (hcs : ∀ j u, cs[j]? = some u → w.cell? ⟨g, j, none⟩ = some u)
    (hs : ac.eval s = v) (hy : ac.eval y = .slice (some ⟨g, 0, none⟩) 1 c)
    (h63 : l.length + 1 ≤ maxLen) (hbytes : (l.length + 1) * bytes ≤ 140737488355328) (hbase : base ≤ w.heap.size)
    (h : ∀ v' w', Own E (NotR v'.ownBlock) w' base e v' (l ++ [a]) → Below base w w' → (v'.ownBlock = v.ownBlock ∨ v'.ownBlock = some w.heap.size) → w.grownBy w' v.ownBlock → wpList P ops Q rest (ac.put o.dst v') w') : wpList P ops Q (o :: rest) ac w := by
  refine wpList_plain hgd fun K hK => ?_
  have hlt := hown.lt
  obtain ⟨xs, ho', hr⟩ := hown
  have hone := (Reps.single hrd).one
  obtain ⟨v', w', hrun, h2, h3, _, h5⟩ := run_append_own_at (P := P) w base t o.type e i z E.k bytes ht hi hz hsize hby hzs E.pos v l.length xs ho' ⟨g, 0, none⟩ 1 c cs (by rw [E.len hrd]; omega)
    (fun j u hu => by rw [add_lit', Nat.zero_add]; exact hcs j u hu) (fun u hu => hone u hu) h63 hbytes hbase
  unfold Oper.wp execOp
  simp only [ho, resolve, invoke, builtin, Sem.run_bind, Sem.run_pure, Result.andThen_ok, List.map_toArray, List.map_cons, List.map_nil, hs, hy, hrun]
  exact hK _ _ (h v' w' (Own.appendedN hr (Reps.single hrd) (by simpa using h2) h3 h5) (bgrown h3 hbase (fun k hk => (hlt k hk).1)) h5 h3)
end

theorem formed_of {l : List Bd} {room : Int} (h0 : 0 ≤ room) (h1 : room ≤ 65535) (hf : fine l = true) (hu : (used l : Int) ≤ room) (hl : l.length ≤ 61) : formed l room = true := by
  unfold formed
  rw [hf, decide_eq_true hu, decide_eq_true (by omega)]
  rfl
theorem put_no {l : List Bd} {room : Int} {x : Bd} (hx : right x = false) : put l room x = [] ∧ pute l room x = 1 := by
  unfold put pute
  rw [hx, Bool.and_false]
  exact ⟨rfl, rfl⟩

set_option maxRecDepth 100000 in
set_option maxHeartbeats 8000000 in
theorem cacheroom_c {S : Foot} {v : Value} {l : List Bd} {room : Int} {w : World} (hp : Sl bdE S w v l) (h0 : 0 ≤ room) (h1 : room ≤ 65535) :
    Calls Try.prog 5 #[v, .int .u16 room] w fun e w' => e = .returned (.bool true) ∧ Below w.heap.size w w' := by
  obtain ⟨i0, hi, hz0, hz1, hz2⟩ := info_parts bds_info
  have hp := hp.any
  obtain ⟨A, cap, rfl, hc1, hc2, _⟩ := hp.shape
  unfold maxLen at hc2
  go_enter Try.func5, Try.ntmps5
  go_wp2_with fail
  refine (alive_c (w := w)).mono ?_
  rintro e w1 ⟨rfl, b1⟩
  have hp1 := (hp.below b1 (Nat.le_refl _)).lo
  by_cases h60 : l.length ≤ 60
  rotate_left
  · have d1 : decide ((60 : Int) < (l.length : Int)) = true := decide_eq_true (by omega)
    have d2 : decide (60 < l.length) = true := decide_eq_true (by omega)
    go_wp2
    go_ret
    exact ⟨rfl, b1⟩
  have d1 : decide ((60 : Int) < (l.length : Int)) = false := decide_eq_false (by omega)
  have d2 : decide (60 < l.length) = false := decide_eq_false (by omega)
  go_wp2
  go_loopw [5, 6, 7] (fun lv cv i wr => ∃ (k : Nat) (ls cs : List Bd), k ≤ l.length ∧ i = .int .i64 k ∧ Sl bdE (NotR cv.ownBlock) wr lv ls ∧ Own bdE (NotR cv.ownBlock) wr w1.heap.size 38 cv cs ∧ Below w1.heap.size w1 wr ∧
      Hid (fine ls = true ∧ (used ls : Int) ≤ room ∧ ls.Sublist cs ∧ cs.length ≤ k)) (fun _ _ i _ => l.length - (intOf i).toNat)
  case atStart => exact ⟨0, [], [], Nat.zero_le _, rfl, Sl.nil, Own.nil, Below.refl _ _, Lib.hid ⟨rfl, by rw [used_nil]; exact h0, List.Sublist.refl _, Nat.le_refl _⟩⟩
  case round =>
    obtain ⟨k, ls, cs, hk, rfl, hls, hcs, hbr, HI⟩ := hrel
    by_cases hlt : k < l.length
    · obtain ⟨b, off, Ax, cx, rfl, a0, a1, a2, a3, hv⟩ := (hp1.lob hbr).body hlt
      generalize hx : l[k] = x at *
      clear hx
      have c0 := a0.cell
      have c1 := a1.cell
      have c2 := a2.cell
      have c3 := a3.cell
      have i3 : (k : Int) < (l.length : Int) := by omega
      have i4 : (0 : Int) ≤ (k : Int) := by omega
      have hlen := HI.out.2.2.1.length_le
      have hcl := HI.out.2.2.2
      have hused := HI.out.2.1
      have HPUT := Lib.hid (put_c (room := room) (x := x) hls.any hv.any (by omega) (by omega))
      cases hr : right x
      · rw [(put_no hr).1, (put_no hr).2] at HPUT
        have HC := fun w => Lib.hid (rright_c x Ax cx w)
        rw [hr] at HC
        clear hr
        go_wp2_with fail
        refine HPUT.out.mono ?_
        rintro e w2 ⟨vp, rfl, op, b2⟩
        have x0 := (a0.keep (fun b _ _ hl => b2.block b hl)).cell
        have x1 := (a1.keep (fun b _ _ hl => b2.block b hl)).cell
        have x2 := (a2.keep (fun b _ _ hl => b2.block b hl)).cell
        have x3 := (a3.keep (fun b _ _ hl => b2.block b hl)).cell
        clear HPUT op a0 a1 a2 a3 c0 c1 c2 c3 hv hlen hcl hused
        go_wp2_with (go_at_call 24; refine (HC _).out.mono ?_; rintro e w3 ⟨rfl, b3⟩)
        go_roundw
        case rel => exact ⟨k + 1, ls, cs, by omega, by go_num, (hls.below b2 (Nat.le_refl _)).below b3 (Nat.le_refl _), (hcs.below b2 (Nat.le_refl _)).below b3 (Nat.le_refl _), bstep (bstep hbr b2) b3, Lib.hid ⟨HI.out.1, HI.out.2.1, HI.out.2.2.1, by have := HI.out.2.2.2; omega⟩⟩
        case measure => simp [intOf]; omega
      · have HL := Lib.hid (put_law (room := room) h0 h1 HI.out.1 hused HI.out.2.2.1 (by omega) hr)
        have HG := Lib.hid (put_get HL.out.2.1)
        rw [HL.out.2.2.1] at HPUT
        generalize hq : put ls room x = q at *
        go_wp2_with fail
        refine HPUT.out.mono ?_
        rintro e w2 ⟨vp, rfl, op, b2⟩
        have hop := op.slLoHi (B := wr.heap.size) (fun b fr h _ => h.1) (Nat.le_refl _)
        have hcl6 := hcs.lt
        have hcs2 := hcs.below b2 (Nat.le_refl _)
        have hv2 := (hv.below b2 (Nat.le_refl _)).mono (S' := NotR u6.ownBlock) (fun b fr h _ => by unfold Lo at h; unfold NotR; intro e; have := (hcl6 b e.symm).1; omega)
        have x0 := (a0.keep (fun b _ _ hl => b2.block b hl)).cell
        have x1 := (a1.keep (fun b _ _ hl => b2.block b hl)).cell
        have x2 := (a2.keep (fun b _ _ hl => b2.block b hl)).cell
        have x3 := (a3.keep (fun b _ _ hl => b2.block b hl)).cell
        have HCL := Lib.hid hcl
        clear HPUT c0 c1 c2 c3 hlen hcl hused
        go_wp2_with (at_builtin; refine wpList_append_oneN _ rfl (.tmp 44) (.tmp 49) 22 rfl (E := bdE) (base := w1.heap.size) Try.underlying22 hi hz0 hz1 hz2 rfl (hcs2.alloc _) (a := x) ⟨_, rfl, hv2.below (B := w2.heap.size) ((Below.refl _ _).alloc (Nat.le_refl _) _) (Nat.le_refl _)⟩ (new_cells w2 [.int .i64 x.o, .int .i64 x.c, .int .i64 x.n, .slice Ax x.v.length cx] 38) rfl rfl (by have := HCL.out; unfold maxLen; omega) (by have := HCL.out; omega) (by have h1 := hbr.size; have h2 := b2.size; simp; omega) ?_; intro v3 w3 hO3 hB3 hbl3 hg3)
        have hop3 : Sl bdE (NotR v3.ownBlock) w3 vp q := ((hop.below (B := w2.heap.size) ((Below.refl _ _).alloc (Nat.le_refl _) _) (Nat.le_refl _)).keep (fun b fr h hl => hg3.block b hl (by intro e; have := (hcl6 b e.symm).2; omega))).mono (fun b fr h _ => by
          unfold NotR
          rcases hbl3 with e | e
          · rw [e]; intro e2; have := (hcl6 b e2.symm).2; omega
          · rw [e]; intro e2; injection e2 with e2; simp at e2; omega)
        have hwr3 : Below w1.heap.size wr w3 := (((b2.mono hbr.size).alloc (Nat.le_trans hbr.size b2.size) _).trans hB3)
        have z0 := a0.keep (fun b _ hs _ => hwr3.block b hs)
        have z1 := a1.keep (fun b _ hs _ => hwr3.block b hs)
        have z2 := a2.keep (fun b _ hs _ => hwr3.block b hs)
        have z3 := a3.keep (fun b _ hs _ => hwr3.block b hs)
        have hv3 := hv.keep (fun b _ hs _ => hwr3.block b hs)
        have hb13 := hbr.trans hwr3
        have hqu := HL.out.2.2.2.2.1
        have hql := HL.out.2.2.2.2.2.length_le
        have d5 : decide (room < (used q : Int)) = false := decide_eq_false (by omega)
        have HQF := Lib.hid (formed_of h0 h1 HL.out.2.2.2.1 hqu (by have := HCL.out; rw [List.length_append] at hql; simp at hql; omega))
        have HU := Lib.hid (used_c hop3.any (by omega))
        clear x0 x1 x2 x3 a0 a1 a2 a3 hop op hv hv2 hcs hcs2 hls hql
        go_wp2_with (first
          | (go_at_call 13; refine HU.out.mono ?_; rintro e w4 ⟨rfl, b4⟩; have HF := Lib.hid (formed_c (room := room) (hop3.any.below b4 (Nat.le_refl _)) (by omega)); rw [HQF.out] at HF)
          | (go_at_call 21; refine HF.out.mono ?_; rintro e w5 ⟨rfl, b5⟩))
        have hop5 := (hop3.below b4 (Nat.le_refl _)).below b5 (Nat.le_refl _)
        have hwr5 : Below w1.heap.size wr w5 := hwr3.trans ((b4.mono hb13.size).trans (b5.mono (Nat.le_trans hb13.size b4.size)))
        have hu20 : used q ≤ 1048576 := by omega
        have hw15 : w1.heap.size ≤ w5.heap.size := Nat.le_trans hb13.size (Nat.le_trans b4.size b5.size)
        have y0 := z0.keep (fun b _ hs _ => (((b4.mono hb13.size).trans (b5.mono (Nat.le_trans hb13.size b4.size))) : Below w1.heap.size w3 w5).block b hs)
        have y1 := z1.keep (fun b _ hs _ => (((b4.mono hb13.size).trans (b5.mono (Nat.le_trans hb13.size b4.size))) : Below w1.heap.size w3 w5).block b hs)
        have y2 := z2.keep (fun b _ hs _ => (((b4.mono hb13.size).trans (b5.mono (Nat.le_trans hb13.size b4.size))) : Below w1.heap.size w3 w5).block b hs)
        have y3 := z3.keep (fun b _ hs _ => (((b4.mono hb13.size).trans (b5.mono (Nat.le_trans hb13.size b4.size))) : Below w1.heap.size w3 w5).block b hs)
        have hv5 := hv3.keep (fun b _ hs _ => (((b4.mono hb13.size).trans (b5.mono (Nat.le_trans hb13.size b4.size))) : Below w1.heap.size w3 w5).block b hs)
        have u0 := y0.cell
        have u1 := y1.cell
        have u2 := y2.cell
        have u3 := y3.cell
        go_region_held3 (fun w' => w'.cell? ⟨b, off + k * 4, none⟩ = some (.int .i64 x.o) ∧ w'.cell? ⟨b, off + k * 4 + 1, none⟩ = some (.int .i64 x.c) ∧ w'.cell? ⟨b, off + k * 4 + 2, none⟩ = some (.int .i64 x.n) ∧ w'.cell? ⟨b, off + k * 4 + 3, none⟩ = some (.slice Ax x.v.length cx))
          (first | go_keep)
          (first | (go_at_call 10; refine (get_c (hop5.any.below (B := w5.heap.size) ((Below.refl _ _).drew) (Nat.le_refl _)) hu20).mono ?_; rintro e w6 ⟨vb, rfl, ob, b6⟩; have b6 := bundrew b6; have g0 := (y0.keep (fun b _ _ hl => b6.block b hl)).cell; have g1 := (y1.keep (fun b _ _ hl => b6.block b hl)).cell; have g2 := (y2.keep (fun b _ _ hl => b6.block b hl)).cell; have g3 := (y3.keep (fun b _ _ hl => b6.block b hl)).cell))
        clear u0 u1 u2 u3 y0 y1 y2 z0 z1 z2 z3
        by_cases hle : (x.v.length : Int) ≤ room
        · have d6 : decide ((x.v.length : Int) ≤ room) = true := decide_eq_true hle
          have hgg := HG.out.1 hle
          rw [hgg.1] at ob
          rw [hgg.2]
          have HSM := Lib.hid (same_c ob.slAny (hv5.keep (fun b _ _ hl => b6.block b hl)))
          rw [beq_self_eq_true] at HSM
          clear hgg hle HG
          go_wp2_with (go_at_call 12; refine HSM.out.mono ?_; rintro e w7 ⟨rfl, rfl⟩)
          go_roundw
          case rel => exact ⟨k + 1, q, cs ++ [x], by omega, by go_num, hop5.below b6 (Nat.le_refl _), ((hO3.below b4 (Nat.le_refl _)).below b5 (Nat.le_refl _)).below b6 (Nat.le_refl _), bstep (bstep (bstep hb13 b4) b5) b6, Lib.hid ⟨HL.out.2.2.2.1, HL.out.2.2.2.2.1, HL.out.2.2.2.2.2, by have := HCL.out; rw [List.length_append]; simp; omega⟩⟩
          case measure => simp [intOf]; omega
        · have d6 : decide ((x.v.length : Int) ≤ room) = false := decide_eq_false hle
          have hgg := HG.out.2 (by omega)
          rw [hgg]
          clear hgg hle HG
          go_wp2
          go_roundw
          case rel => exact ⟨k + 1, q, cs ++ [x], by omega, by go_num, hop5.below b6 (Nat.le_refl _), ((hO3.below b4 (Nat.le_refl _)).below b5 (Nat.le_refl _)).below b6 (Nat.le_refl _), bstep (bstep (bstep hb13 b4) b5) b6, Lib.hid ⟨HL.out.2.2.2.1, HL.out.2.2.2.2.1, HL.out.2.2.2.2.2, by have := HCL.out; rw [List.length_append]; simp; omega⟩⟩
          case measure => simp [intOf]; omega
    · have hlsA := hls.any
      have hcsA := hcs.slAny
      obtain ⟨A5, c5, rfl, e1, e2, _⟩ := hlsA.shape
      obtain ⟨A6, c6, rfl, e3, e4, _⟩ := hcsA.shape
      unfold maxLen at e2 e4
      have HSUB := Lib.hid HI.out.2.2.1
      have hlen := HI.out.2.2.1.length_le
      have hcl := HI.out.2.2.2
      have hbw := bstep b1 hbr
      clear hls hcs
      generalize hwz : wr = wz at *
      clear hwz
      go_wp2
      go_loopw [12, 13] (fun kk ii ws => ∃ (m a : Nat), a ≤ ls.length ∧ m ≤ cs.length ∧ ii = .int .i64 ((a : Int) - 1) ∧ kk = .int .i64 m ∧ Hid ((ls.take a).Sublist (cs.take m)) ∧ Below wz.heap.size wz ws) (fun _ i _ => (intOf i + 1).toNat)
      case atStart => exact ⟨cs.length, ls.length, Nat.le_refl _, Nat.le_refl _, rfl, rfl, by rw [List.take_length, List.take_length]; exact HSUB, Below.refl _ _⟩
      case round =>
        obtain ⟨m, a, ha, hm, rfl, rfl, HT, hbs⟩ := hrel
        rcases Nat.eq_zero_or_pos a with ha0 | ha0
        · subst ha0
          go_wp2
          go_ret
          exact ⟨rfl, bstep hbw hbs⟩
        · obtain ⟨a', rfl⟩ : ∃ a', a = a' + 1 := ⟨a - 1, by omega⟩
          have hcast : ((a' + 1 : Nat) : Int) - 1 = (a' : Int) := by omega
          rw [hcast]
          clear hcast
          go_wp2
          go_loopw [12] (fun kk ws2 => ∃ m' : Nat, m' ≤ cs.length ∧ kk = .int .i64 ((m' : Int) - 1) ∧ Hid ((ls.take (a' + 1)).Sublist (cs.take m')) ∧ Below wz.heap.size wz ws2) (fun kk _ => (intOf kk + 1).toNat)
          case atStart => exact ⟨m, hm, rfl, HT, hbs⟩
          case round =>
            obtain ⟨m', hm', rfl, HT2, hbs2⟩ := hrel
            rcases Nat.eq_zero_or_pos m' with hm0 | hm0
            · subst hm0
              have h := HT2.out.length_le
              rw [List.take_zero, List.length_take, Nat.min_eq_left ha] at h
              exact absurd h (by simp)
            · obtain ⟨t, rfl⟩ : ∃ t, m' = t + 1 := ⟨m' - 1, by omega⟩
              have hcast : ((t + 1 : Nat) : Int) - 1 = (t : Int) := by omega
              rw [hcast]
              clear hcast
              have htl : t < cs.length := by omega
              have hal : a' < ls.length := by omega
              have HS := Lib.hid (⟨List.take_succ_eq_append_getElem hal, List.take_succ_eq_append_getElem htl⟩ : ls.take (a' + 1) = ls.take a' ++ [ls[a']] ∧ cs.take (t + 1) = cs.take t ++ [cs[t]])
              obtain ⟨bx, ox, A1, c1, rfl, x0, x1, x2, x3, hv1⟩ := (hcsA.below hbs2 (Nat.le_refl _)).body htl
              obtain ⟨by_, oy, A2, c2, rfl, y0, y1, y2, y3, hv2⟩ := (hlsA.below hbs2 (Nat.le_refl _)).body hal
              have xc0 := x0.cell
              have xc1 := x1.cell
              have xc2 := x2.cell
              have xc3 := x3.cell
              have yc0 := y0.cell
              have yc1 := y1.cell
              have yc2 := y2.cell
              have yc3 := y3.cell
              generalize hx : cs[t] = x at *
              generalize hy : ls[a'] = y at *
              clear hx hy
              have i1 : (t : Int) < (cs.length : Int) := by omega
              have i2 : (0 : Int) ≤ (t : Int) := by omega
              have i3 : (a' : Int) < (ls.length : Int) := by omega
              have i4 : (0 : Int) ≤ (a' : Int) := by omega
              have d7 : decide ((0 : Int) ≤ (t : Int)) = true := decide_eq_true (by omega)
              have d8 : decide ((t : Int) < 0) = false := decide_eq_false (by omega)
              have HC := fun (w : World) (h1 : Sl u8E Any w (.slice A1 x.v.length c1) x.v) (h2 : Sl u8E Any w (.slice A2 y.v.length c2) y.v) => samebd_c h1 h2
              rw [sameBd_dec] at HC
              have HD := fun (w : World) (h1 : Sl u8E Any w (.slice A1 x.v.length c1) x.v) (h2 : Sl u8E Any w (.slice A2 y.v.length c2) y.v) => Lib.hid (HC w h1 h2)
              clear HC
              by_cases hxy : x = y
              · rw [decide_eq_true hxy] at HD
                have HN : Hid ((ls.take a').Sublist (cs.take t)) := by
                  have h := HT2.out
                  rw [HS.out.1, HS.out.2, hxy] at h
                  exact sub_hit h
                clear hxy
                go_wp2_with fail
                go_region_held3 (fun w' => w'.cell? ⟨bx, ox + t * 4, none⟩ = some (.int .i64 x.o) ∧ w'.cell? ⟨bx, ox + t * 4 + 1, none⟩ = some (.int .i64 x.c) ∧ w'.cell? ⟨bx, ox + t * 4 + 2, none⟩ = some (.int .i64 x.n) ∧ w'.cell? ⟨bx, ox + t * 4 + 3, none⟩ = some (.slice A1 x.v.length c1) ∧ w'.cell? ⟨by_, oy + a' * 4, none⟩ = some (.int .i64 y.o) ∧ w'.cell? ⟨by_, oy + a' * 4 + 1, none⟩ = some (.int .i64 y.c) ∧ w'.cell? ⟨by_, oy + a' * 4 + 2, none⟩ = some (.int .i64 y.n) ∧ w'.cell? ⟨by_, oy + a' * 4 + 3, none⟩ = some (.slice A2 y.v.length c2))
                (first | go_keep)
                (first | (go_at_call 23; refine (HD _ (hv1.below (B := wr.heap.size) ((Below.refl _ _).drew) (Nat.le_refl _)) (hv2.below (B := wr.heap.size) ((Below.refl _ _).drew) (Nat.le_refl _))).out.mono ?_; rintro e w4 ⟨rfl, b1⟩; have b1 := bundrew b1; have xk0 := (x0.keep (fun b _ _ hl => b1.block b hl)).cell; have xk1 := (x1.keep (fun b _ _ hl => b1.block b hl)).cell; have xk2 := (x2.keep (fun b _ _ hl => b1.block b hl)).cell; have xk3 := (x3.keep (fun b _ _ hl => b1.block b hl)).cell; have yk0 := (y0.keep (fun b _ _ hl => b1.block b hl)).cell; have yk1 := (y1.keep (fun b _ _ hl => b1.block b hl)).cell; have yk2 := (y2.keep (fun b _ _ hl => b1.block b hl)).cell; have yk3 := (y3.keep (fun b _ _ hl => b1.block b hl)).cell))
                go_wp2
                go_roundw
                case rel => exact ⟨t, a', by omega, by omega, rfl, rfl, HN, bstep hbs2 b1⟩
                case measure => simp [intOf]
              · rw [decide_eq_false hxy] at HD
                have HN : Hid ((ls.take (a' + 1)).Sublist (cs.take t)) := by
                  have h := HT2.out
                  rw [HS.out.1, HS.out.2] at h
                  rw [Hid, HS.out.1]
                  exact sub_pass h hxy
                clear hxy
                go_wp2_with fail
                go_region_held3 (fun w' => w'.cell? ⟨bx, ox + t * 4, none⟩ = some (.int .i64 x.o) ∧ w'.cell? ⟨bx, ox + t * 4 + 1, none⟩ = some (.int .i64 x.c) ∧ w'.cell? ⟨bx, ox + t * 4 + 2, none⟩ = some (.int .i64 x.n) ∧ w'.cell? ⟨bx, ox + t * 4 + 3, none⟩ = some (.slice A1 x.v.length c1) ∧ w'.cell? ⟨by_, oy + a' * 4, none⟩ = some (.int .i64 y.o) ∧ w'.cell? ⟨by_, oy + a' * 4 + 1, none⟩ = some (.int .i64 y.c) ∧ w'.cell? ⟨by_, oy + a' * 4 + 2, none⟩ = some (.int .i64 y.n) ∧ w'.cell? ⟨by_, oy + a' * 4 + 3, none⟩ = some (.slice A2 y.v.length c2))
                (first | go_keep)
                (first | (go_at_call 23; refine (HD _ (hv1.below (B := wr.heap.size) ((Below.refl _ _).drew) (Nat.le_refl _)) (hv2.below (B := wr.heap.size) ((Below.refl _ _).drew) (Nat.le_refl _))).out.mono ?_; rintro e w4 ⟨rfl, b1⟩; have b1 := bundrew b1; have xk0 := (x0.keep (fun b _ _ hl => b1.block b hl)).cell; have xk1 := (x1.keep (fun b _ _ hl => b1.block b hl)).cell; have xk2 := (x2.keep (fun b _ _ hl => b1.block b hl)).cell; have xk3 := (x3.keep (fun b _ _ hl => b1.block b hl)).cell; have yk0 := (y0.keep (fun b _ _ hl => b1.block b hl)).cell; have yk1 := (y1.keep (fun b _ _ hl => b1.block b hl)).cell; have yk2 := (y2.keep (fun b _ _ hl => b1.block b hl)).cell; have yk3 := (y3.keep (fun b _ _ hl => b1.block b hl)).cell))
                go_wp2
                go_roundw
                case rel => exact ⟨t, by omega, rfl, HN, bstep hbs2 b1⟩
                case measure => simp [intOf]
end Go.Proofs.Ytjcbheeihckgmaa
