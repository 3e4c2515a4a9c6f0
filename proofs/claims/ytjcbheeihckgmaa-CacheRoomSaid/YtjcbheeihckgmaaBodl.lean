/- Put: a body comes. -/
import Derived.Test.YtjcbheeihckgmaaBodk
namespace Go.Proofs.Ytjcbheeihckgmaa
open Go.RowKit

/-- as many go, the oldest first, as must -/
def trim (room : Int) : List Bd → List Bd
  | [] => []
  | b :: r => if room < (used (b :: r) : Int) then trim room r else b :: r
def put (l : List Bd) (room : Int) (x : Bd) : List Bd := if formed l room && right x then trim room (forget l x.o ++ [x]) else []
def pute (l : List Bd) (room : Int) (x : Bd) : Int := if formed l room && right x then 0 else 1
theorem used_nil : used [] = 0 := rfl
theorem used_cons (b : Bd) (r : List Bd) : used (b :: r) = b.v.length + used r := by unfold used; simp
theorem used_append (l m : List Bd) : used (l ++ m) = used l + used m := by unfold used; simp
theorem used_drop {l : List Bd} {k : Nat} (h : k < l.length) : used (l.drop k) = l[k].v.length + used (l.drop (k + 1)) := by
  rw [List.drop_eq_getElem_cons h, used_cons]
theorem used_drop_le (l : List Bd) (k : Nat) : used (l.drop k) ≤ used l := by
  have h := congrArg used (List.take_append_drop k l)
  rw [used_append] at h
  omega
theorem used_forget (l : List Bd) (o : Int) : used (forget l o) ≤ used l := by
  unfold forget
  induction l with
  | nil => simp
  | cons b r ih =>
    rw [List.filter_cons]
    split
    · rw [used_cons, used_cons]; omega
    · rw [used_cons]; omega
theorem trim_drop {room : Int} {l : List Bd} {k : Nat} (h : k < l.length) (hr : room < (used (l.drop k) : Int)) : trim room (l.drop k) = trim room (l.drop (k + 1)) := by
  have e := List.drop_eq_getElem_cons h
  rw [e, trim, ← e, if_pos hr]
theorem trim_stop {room : Int} {l : List Bd} (hr : ¬ room < (used l : Int)) : trim room l = l := by
  cases l with
  | nil => rfl
  | cons b r => rw [trim, if_neg hr]
theorem trim_lt {room : Int} {l : List Bd} {k : Nat} (h0 : 0 ≤ room) (hr : room < (used (l.drop k) : Int)) : k < l.length := by
  rcases Nat.lt_or_ge k l.length with h | h
  · exact h
  · rw [List.drop_eq_nil_of_le h, used_nil] at hr; omega

theorem Own.low {w : World} {b0 b1 : Nat} {t : TypeId} {v : Value} {l : List Bd} (h : Own bdE (HiN b1 v.ownBlock) w b1 t v l) (hb : b0 ≤ b1) : Own bdE (HiN b0 v.ownBlock) w b0 t v l :=
  (h.base_mono hb).mono (fun b fr h _ => ⟨by have := h.1; omega, h.2⟩)
/-- a body of one's own beside a row of one's own -/
theorem rd_beside {S : Foot} {w : World} {b0 b1 b2 : Nat} {v : Value} {l : List Bd} {x : Bd} {A : Option Addr} {c : Nat} (h1 : Own bdE S w b1 38 v l) (h2 : Own u8E Any w b2 5 (.slice A x.v.length c) x.v) (hb : b0 ≤ b2) :
    bdE.rd (HiN b0 v.ownBlock) w [.int .i64 x.o, .int .i64 x.c, .int .i64 x.n, .slice A x.v.length c] x := by
  have hne := own_ne h2 h1 (by decide)
  have hlt := h2.lt
  exact ⟨_, rfl, (h2.u8 (S' := HiN b0 v.ownBlock)).sl (fun _ _ h _ => h) (fun g hg _ _ => ⟨by have := (hlt g hg).1; omega, rfl, fun e => hne g hg e.symm⟩)⟩

/-- append of one element at a step of a region that draws its order -/
theorem step_append_one {α : Type} {E : Enc α} {P : Program} (w : World) {ops : Array Oper} {o : Oper} {ac : Act} {K : Act → World → Prop} {Q : Exit → Act → World → Prop} {X : Prop} (hgd : o.guard = none) (s y : Operand) (t : TypeId)
    (ho : o.op = .call { callee := .builtin .append, args := #[s, y], argTypes := #[t, t] })
    {e : TypeId} {base : Nat} {v : Value} {l : List α} {i : TypeInfo} {z : Value} {bytes : Nat} (ht : P.underlying t = some (.slice e)) (hi : P.info? e = some i) (hz : i.zero = some z)
    (hsize : i.size = E.k) (hby : i.bytes = bytes) (hzs : z.cells.size = E.k)
    {a : α} {cs : List Value} {g c : Nat} (hown : Own E (HiN base v.ownBlock) w base e v l) (hrd : E.rd (HiN base v.ownBlock) w cs a) (hcs : ∀ j u, cs[j]? = some u → w.cell? ⟨g, j, none⟩ = some u)
    (hs : ac.eval s = v) (hy : ac.eval y = .slice (some ⟨g, 0, none⟩) 1 c)
    (h63 : l.length + 1 ≤ maxLen) (hbytes : (l.length + 1) * bytes ≤ 140737488355328) (hbase : base ≤ w.heap.size)
    (h : ∀ v' w', Own E (HiN base v'.ownBlock) w' base e v' (l ++ [a]) → Below base w w' → K (ac.put o.dst v') w') : if Region.wanted o (yielded ops ac.tmps) = true then Oper.wp P o ac w K Q else X := by
  have hw : Region.wanted o (yielded ops ac.tmps) = true := by simp [Region.wanted, hgd]
  rw [if_pos hw]
  have hlt := hown.lt
  obtain ⟨v', w', hrun, h2, h3, h4⟩ := run_append_one (P := P) (ty := o.type) (c := c) ht hi hz hsize hby hzs hown hrd hcs h63 hbytes hbase
  unfold Oper.wp execOp
  simp only [ho, resolve, invoke, builtin, Sem.run_bind, Sem.run_pure, Result.andThen_ok, List.map_toArray, List.map_cons, List.map_nil, hs, hy, hrun]
  exact h v' w' h2 (bgrown h3 hbase (fun k hk => (hlt k hk).1))

def slen : Value → Nat
  | .slice _ m _ => m
  | _ => 0
theorem bds_info : (Try.prog.info? 38).map (fun i => (i.zero, i.size, i.bytes)) = some (some (.agg #[.int .i64 0, .int .i64 0, .int .i64 0, .slice none 0 0]), 4, 48) := by kernel_rfl
/-- slices.Clone at bodies -/
theorem clonebd_c {S : Foot} {v : Value} {l : List Bd} {w : World} (h : Sl bdE S w v l) (hn : l.length ≤ 1048577) :
    Calls Try.prog 31 #[v] w fun e w' => ∃ v', e = .returned v' ∧ Own bdE S w' w.heap.size 38 v' l ∧ Below w.heap.size w w' := by
  obtain ⟨i0, hi, hz0, hz1, hz2⟩ := info_parts bds_info
  obtain ⟨A, cap, rfl, _, _, hA⟩ := h.shape
  have he := fun (w : World) n' c' => Lib.run_eql_slice_nil (P := Try.prog) w 22 38 A l.length cap n' c' Try.underlying22
  rcases A with _ | ad
  · have hl := Lib.hid (show l = [] from by
      have := hA rfl
      exact List.eq_nil_of_length_eq_zero (by omega))
    clear hA
    go_enter Try.func31, Try.ntmps31
    go_wp2
    go_ret
    rw [hl.out]
    exact ⟨_, rfl, Own.nil, Below.refl _ _⟩
  · clear hA
    have h2 := h.mono (S' := fun b fr => S b fr ∧ b < w.heap.size) (fun b fr h hl => ⟨h, hl⟩)
    go_enter Try.func31, Try.ntmps31
    go_wp2_with (at_builtin; refine wpList_append_sl _ rfl (.tmp 5) (.tmp 6) 22 rfl (E := bdE) (l := []) (m := l) (base := w.heap.size) Try.underlying22 hi hz0 hz1 hz2 rfl (World.ownsRow_made _ _ 0 (Nat.le_refl _) (by unfold maxLen; omega) rfl) (h2.below (Below.alloc (Below.refl _ _) (Nat.le_refl _) _) (Nat.le_refl _)) rfl rfl (by simp [maxLen]; omega) (by simp; omega) (by simp) ?_; intro v' w' ys ho hr hg hb)
    go_ret
    refine ⟨v', rfl, ⟨ys, by simpa using ho, (hr.keep (fun b fr h hl => hg.block b hl (by simp [Value.ownBlock]; have := h.2; omega))).mono (fun b fr h _ => h.1)⟩, ((Below.refl _ _).alloc (Nat.le_refl _) _).grown hg (by simp) (by simp [Value.ownBlock])⟩

/-- a body comes: the program's -/
theorem put_c {S : Foot} {v : Value} {l : List Bd} {room : Int} {x : Bd} {Ax : Option Addr} {cx : Nat} {w : World} (hp : Sl bdE S w v l) (hx : Sl u8E S w (.slice Ax x.v.length cx) x.v) (hl : l.length ≤ 1048576) (hu : used l ≤ 1048576) :
    Calls Try.prog 19 #[v, .int .i64 room, .agg #[.int .i64 x.o, .int .i64 x.c, .int .i64 x.n, .slice Ax x.v.length cx]] w fun e w' => ∃ v', e = .returned (.tuple #[v', .int .i64 (pute l room x)]) ∧ Own bdE (HiN w.heap.size v'.ownBlock) w' w.heap.size 38 v' (put l room x) ∧ Below w.heap.size w w' := by
  obtain ⟨i0, hi, hz0, hz1, hz2⟩ := info_parts bds_info
  obtain ⟨A, cap, rfl, hc1, hc2, _⟩ := hp.shape
  unfold maxLen at hc2
  have hb0 : Below w.heap.size w (w.alloc (.cells #[.int .i64 x.o, .int .i64 x.c, .int .i64 x.n, .slice Ax x.v.length cx] 38)) := (Below.refl _ _).alloc (Nat.le_refl _) _
  have HCF := Lib.hid (formed_c (room := room) (hp.below hb0 (Nat.le_refl _)) hu)
  have HCR := fun w => Lib.hid (right_c x Ax cx w)
  cases hF : formed l room
  · have HP : Hid (put l room x = [] ∧ pute l room x = 1) := by unfold Hid put pute; rw [hF]; exact ⟨rfl, rfl⟩
    rw [hF] at HCF
    clear hF HCR
    go_enter Try.func19, Try.ntmps19
    go_wp2_with (go_at_call 21; refine HCF.out.mono ?_; rintro e w1 ⟨rfl, b1⟩)
    go_ret2
    rw [HP.out.1, HP.out.2]
    exact ⟨_, rfl, Own.nil, hb0.trans (b1.mono (by simp))⟩
  rw [hF] at HCF
  cases hR : right x
  · have HP : Hid (put l room x = [] ∧ pute l room x = 1) := by unfold Hid put pute; rw [hF, hR]; exact ⟨rfl, rfl⟩
    rw [hR] at HCR
    clear hF hR
    go_enter Try.func19, Try.ntmps19
    go_wp2_with (first | (go_at_call 21; refine HCF.out.mono ?_; rintro e w1 ⟨rfl, b1⟩; have x0 := box_cell (cs := [.int .i64 x.o, .int .i64 x.c, .int .i64 x.n, .slice Ax x.v.length cx]) b1 (by simp) 0 _ rfl; have x1 := box_cell (cs := [.int .i64 x.o, .int .i64 x.c, .int .i64 x.n, .slice Ax x.v.length cx]) b1 (by simp) 1 _ rfl; have x2 := box_cell (cs := [.int .i64 x.o, .int .i64 x.c, .int .i64 x.n, .slice Ax x.v.length cx]) b1 (by simp) 2 _ rfl; have x3 := box_cell (cs := [.int .i64 x.o, .int .i64 x.c, .int .i64 x.n, .slice Ax x.v.length cx]) b1 (by simp) 3 _ rfl) | (go_at_call 30; refine (HCR _).out.mono ?_; rintro e w2 ⟨rfl, b2⟩))
    go_ret2
    rw [HP.out.1, HP.out.2]
    exact ⟨_, rfl, Own.nil, bstep (hb0.trans (b1.mono (by simp))) b2⟩
  have HP : Hid (put l room x = trim room (forget l x.o ++ [x]) ∧ pute l room x = 0) := by unfold Hid put pute; rw [hF, hR]; exact ⟨rfl, rfl⟩
  have HQ : Hid (0 ≤ room ∧ l.length ≤ 256 ∧ x.v.length ≤ 256) := by
    unfold formed at hF
    unfold right at hR
    unfold Hid
    simp at hF hR
    omega
  have HFL := Lib.hid (show (forget l x.o).length ≤ 256 ∧ (forget l x.o ++ [x]).length ≤ 257 ∧ used (forget l x.o ++ [x]) ≤ 1048832 by
    have h1 := HQ.out
    have h2 := forget_len l x.o
    have h3 := used_forget l x.o
    rw [used_append, used_cons, used_nil, List.length_append]
    simp
    omega)
  rw [hR] at HCR
  clear hF hR
  go_enter Try.func19, Try.ntmps19
  go_wp2_with (first | (go_at_call 21; refine HCF.out.mono ?_; rintro e w1 ⟨rfl, b1⟩; have x0 := box_cell (cs := [.int .i64 x.o, .int .i64 x.c, .int .i64 x.n, .slice Ax x.v.length cx]) b1 (by simp) 0 _ rfl; have x1 := box_cell (cs := [.int .i64 x.o, .int .i64 x.c, .int .i64 x.n, .slice Ax x.v.length cx]) b1 (by simp) 1 _ rfl; have x2 := box_cell (cs := [.int .i64 x.o, .int .i64 x.c, .int .i64 x.n, .slice Ax x.v.length cx]) b1 (by simp) 2 _ rfl; have x3 := box_cell (cs := [.int .i64 x.o, .int .i64 x.c, .int .i64 x.n, .slice Ax x.v.length cx]) b1 (by simp) 3 _ rfl) | (go_at_call 30; refine (HCR _).out.mono ?_; rintro e w2 ⟨rfl, b2⟩))
  have hb2 : Below w.heap.size w w2 := bstep (hb0.trans (b1.mono (by simp))) b2
  have hyl : w.heap.size < w2.heap.size := by have h1 := b1.size; have h2 := b2.size; simp at h1; omega
  have bB := b1.trans (b2.mono b1.size)
  have y0 := box_cell (cs := [.int .i64 x.o, .int .i64 x.c, .int .i64 x.n, .slice Ax x.v.length cx]) bB (by simp) 0 _ rfl
  have y1 := box_cell (cs := [.int .i64 x.o, .int .i64 x.c, .int .i64 x.n, .slice Ax x.v.length cx]) bB (by simp) 1 _ rfl
  have y2 := box_cell (cs := [.int .i64 x.o, .int .i64 x.c, .int .i64 x.n, .slice Ax x.v.length cx]) bB (by simp) 2 _ rfl
  have y3 := box_cell (cs := [.int .i64 x.o, .int .i64 x.c, .int .i64 x.n, .slice Ax x.v.length cx]) bB (by simp) 3 _ rfl
  have hp2 := hp.below hb2 (Nat.le_refl _)
  have hx2 := hx.below hb2 (Nat.le_refl _)
  clear x0 x1 x2 x3 bB HCF HCR hp hx
  go_region_held3 (fun w' => w'.cell? ⟨w.heap.size, 0, none⟩ = some (.int .i64 x.o) ∧ w'.cell? ⟨w.heap.size, 1, none⟩ = some (.int .i64 x.c) ∧ w'.cell? ⟨w.heap.size, 2, none⟩ = some (.int .i64 x.n) ∧ w'.cell? ⟨w.heap.size, 3, none⟩ = some (.slice Ax x.v.length cx))
    (first | go_keep | (refine ⟨?_, ?_, ?_, ?_⟩ <;> (first | assumption | exact (((Below.refl w4.heap.size w4).alloc (Nat.le_refl _) _).cell (Nat.lt_of_lt_of_le hyl b4.size)).trans (by assumption) | exact (((Below.refl _ _).alloc (Nat.le_refl _) _).cell (by have := b3.size; have := b4.size; simp; omega)).trans (by assumption))))
    (first
      | (go_at_call 16; refine (forget_c x.o (hp2.below (B := w2.heap.size) ((Below.refl _ _).drew) (Nat.le_refl _)) hl hu).mono ?_; rintro e w3 ⟨v3, rfl, o3, b3⟩; have b3 := bundrew b3; have x0 := (b3.cell (p := ⟨w.heap.size, 0, none⟩) hyl).trans y0; have x1 := (b3.cell (p := ⟨w.heap.size, 1, none⟩) hyl).trans y1; have x2 := (b3.cell (p := ⟨w.heap.size, 2, none⟩) hyl).trans y2; have x3 := (b3.cell (p := ⟨w.heap.size, 3, none⟩) hyl).trans y3)
      | (go_at_call 16; refine (forget_c x.o (hp2.below b4 (Nat.le_refl _)) hl hu).mono ?_; rintro e w3 ⟨v3, rfl, o3, b3⟩; have z0 := (b3.cell (p := ⟨w.heap.size, 0, none⟩) (Nat.lt_of_lt_of_le hyl b4.size)).trans x0; have z1 := (b3.cell (p := ⟨w.heap.size, 1, none⟩) (Nat.lt_of_lt_of_le hyl b4.size)).trans x1; have z2 := (b3.cell (p := ⟨w.heap.size, 2, none⟩) (Nat.lt_of_lt_of_le hyl b4.size)).trans x2; have z3 := (b3.cell (p := ⟨w.heap.size, 3, none⟩) (Nat.lt_of_lt_of_le hyl b4.size)).trans x3)
      | (go_at_call 16; refine (forget_c x.o (hp2.below (b4.alloc b4.size _) (Nat.le_refl _)) hl hu).mono ?_; rintro e w3 ⟨v3, rfl, o3, b3⟩; have z0 := (b3.cell (p := ⟨w.heap.size, 0, none⟩) (Nat.lt_of_lt_of_le (Nat.lt_of_lt_of_le hyl b4.size) (by simp))).trans ((((Below.refl w4.heap.size w4).alloc (Nat.le_refl _) _).cell (p := ⟨w.heap.size, 0, none⟩) (Nat.lt_of_lt_of_le hyl b4.size)).trans x0); have z1 := (b3.cell (p := ⟨w.heap.size, 1, none⟩) (Nat.lt_of_lt_of_le (Nat.lt_of_lt_of_le hyl b4.size) (by simp))).trans ((((Below.refl w4.heap.size w4).alloc (Nat.le_refl _) _).cell (p := ⟨w.heap.size, 1, none⟩) (Nat.lt_of_lt_of_le hyl b4.size)).trans x1); have z2 := (b3.cell (p := ⟨w.heap.size, 2, none⟩) (Nat.lt_of_lt_of_le (Nat.lt_of_lt_of_le hyl b4.size) (by simp))).trans ((((Below.refl w4.heap.size w4).alloc (Nat.le_refl _) _).cell (p := ⟨w.heap.size, 2, none⟩) (Nat.lt_of_lt_of_le hyl b4.size)).trans x2); have z3 := (b3.cell (p := ⟨w.heap.size, 3, none⟩) (Nat.lt_of_lt_of_le (Nat.lt_of_lt_of_le hyl b4.size) (by simp))).trans ((((Below.refl w4.heap.size w4).alloc (Nat.le_refl _) _).cell (p := ⟨w.heap.size, 3, none⟩) (Nat.lt_of_lt_of_le hyl b4.size)).trans x3))
      | (go_at_call 29; refine (twin_c (hx2.below (B := w2.heap.size) ((Below.refl _ _).drew) (Nat.le_refl _)) (by have := HQ.out; omega)).mono ?_; rintro e w4 ⟨A4, c4, rfl, o4, b4⟩; have b4 := bundrew b4; have x0 := (b4.cell (p := ⟨w.heap.size, 0, none⟩) hyl).trans y0; have x1 := (b4.cell (p := ⟨w.heap.size, 1, none⟩) hyl).trans y1; have x2 := (b4.cell (p := ⟨w.heap.size, 2, none⟩) hyl).trans y2; have x3 := (b4.cell (p := ⟨w.heap.size, 3, none⟩) hyl).trans y3)
      | (go_at_call 29; refine (twin_c (hx2.below b3 (Nat.le_refl _)) (by have := HQ.out; omega)).mono ?_; rintro e w4 ⟨A4, c4, rfl, o4, b4⟩; have z0 := (b4.cell (p := ⟨w.heap.size, 0, none⟩) (Nat.lt_of_lt_of_le hyl b3.size)).trans x0; have z1 := (b4.cell (p := ⟨w.heap.size, 1, none⟩) (Nat.lt_of_lt_of_le hyl b3.size)).trans x1; have z2 := (b4.cell (p := ⟨w.heap.size, 2, none⟩) (Nat.lt_of_lt_of_le hyl b3.size)).trans x2; have z3 := (b4.cell (p := ⟨w.heap.size, 3, none⟩) (Nat.lt_of_lt_of_le hyl b3.size)).trans x3)
      | (refine step_append_one _ (by rfl) (.tmp 23) (.tmp 26) 22 (by rfl) (E := bdE) (base := w2.heap.size) Try.underlying22 hi hz0 hz1 hz2 rfl ((o3.below b4 (Nat.le_refl _)).alloc _) (rd_beside ((o3.below b4 (Nat.le_refl _)).alloc _) (o4.alloc _) b3.size) (new_cells w4 [.int .i64 x.o, .int .i64 x.c, .int .i64 x.n, .slice A4 x.v.length c4] 38) (by rfl) (by rfl) (by have := HFL.out; unfold maxLen; omega) (by have := HFL.out; omega) (by simp only [World.size_alloc]; have := b3.size; have := b4.size; simp at *; omega) ?_; intro v5 w5 HO HB5; have HBw := (((bstep (bstep hb2 b3) b4).alloc (bstep (bstep hb2 b3) b4).size _).trans (HB5.mono hb2.size)); have k0 := (HB5.cell (p := ⟨w.heap.size, 0, none⟩) hyl).trans ((((Below.refl w4.heap.size w4).alloc (Nat.le_refl _) _).cell (p := ⟨w.heap.size, 0, none⟩) (Nat.lt_of_lt_of_le (Nat.lt_of_lt_of_le hyl b3.size) b4.size)).trans z0); have k1 := (HB5.cell (p := ⟨w.heap.size, 1, none⟩) hyl).trans ((((Below.refl w4.heap.size w4).alloc (Nat.le_refl _) _).cell (p := ⟨w.heap.size, 1, none⟩) (Nat.lt_of_lt_of_le (Nat.lt_of_lt_of_le hyl b3.size) b4.size)).trans z1); have k2 := (HB5.cell (p := ⟨w.heap.size, 2, none⟩) hyl).trans ((((Below.refl w4.heap.size w4).alloc (Nat.le_refl _) _).cell (p := ⟨w.heap.size, 2, none⟩) (Nat.lt_of_lt_of_le (Nat.lt_of_lt_of_le hyl b3.size) b4.size)).trans z2); have k3 := (HB5.cell (p := ⟨w.heap.size, 3, none⟩) hyl).trans ((((Below.refl w4.heap.size w4).alloc (Nat.le_refl _) _).cell (p := ⟨w.heap.size, 3, none⟩) (Nat.lt_of_lt_of_le (Nat.lt_of_lt_of_le hyl b3.size) b4.size)).trans z3))
      | (refine step_append_one _ (by rfl) (.tmp 23) (.tmp 26) 22 (by rfl) (E := bdE) (base := w2.heap.size) Try.underlying22 hi hz0 hz1 hz2 rfl ((o3.low b4.size).alloc _) (rd_beside ((o3.low b4.size).alloc _) ((o4.below b3 (Nat.le_refl _)).alloc _) (Nat.le_refl _)) (new_cells w3 [.int .i64 x.o, .int .i64 x.c, .int .i64 x.n, .slice A4 x.v.length c4] 38) (by rfl) (by rfl) (by have := HFL.out; unfold maxLen; omega) (by have := HFL.out; omega) (by simp only [World.size_alloc]; have := b3.size; have := b4.size; simp at *; omega) ?_; intro v5 w5 HO HB5; have HBw := (((bstep (bstep hb2 b4) b3).alloc (bstep (bstep hb2 b4) b3).size _).trans (HB5.mono hb2.size)); have k0 := (HB5.cell (p := ⟨w.heap.size, 0, none⟩) hyl).trans ((((Below.refl w3.heap.size w3).alloc (Nat.le_refl _) _).cell (p := ⟨w.heap.size, 0, none⟩) (Nat.lt_of_lt_of_le (Nat.lt_of_lt_of_le hyl b4.size) b3.size)).trans z0); have k1 := (HB5.cell (p := ⟨w.heap.size, 1, none⟩) hyl).trans ((((Below.refl w3.heap.size w3).alloc (Nat.le_refl _) _).cell (p := ⟨w.heap.size, 1, none⟩) (Nat.lt_of_lt_of_le (Nat.lt_of_lt_of_le hyl b4.size) b3.size)).trans z1); have k2 := (HB5.cell (p := ⟨w.heap.size, 2, none⟩) hyl).trans ((((Below.refl w3.heap.size w3).alloc (Nat.le_refl _) _).cell (p := ⟨w.heap.size, 2, none⟩) (Nat.lt_of_lt_of_le (Nat.lt_of_lt_of_le hyl b4.size) b3.size)).trans z2); have k3 := (HB5.cell (p := ⟨w.heap.size, 3, none⟩) hyl).trans ((((Below.refl w3.heap.size w3).alloc (Nat.le_refl _) _).cell (p := ⟨w.heap.size, 3, none⟩) (Nat.lt_of_lt_of_le (Nat.lt_of_lt_of_le hyl b4.size) b3.size)).trans z3))
      | (refine step_append_one _ (by rfl) (.tmp 23) (.tmp 26) 22 (by rfl) (E := bdE) (base := w2.heap.size) Try.underlying22 hi hz0 hz1 hz2 rfl (o3.low (Nat.le_trans b4.size (by simp))) (rd_beside (o3.low (Nat.le_trans b4.size (by simp))) ((o4.alloc _).below b3 (Nat.le_refl _)) (Nat.le_refl _)) (box_cell (cs := [.int .i64 x.o, .int .i64 x.c, .int .i64 x.n, .slice A4 x.v.length c4]) b3 (by simp)) (by rfl) (by rfl) (by have := HFL.out; unfold maxLen; omega) (by have := HFL.out; omega) (by simp only [World.size_alloc]; have := b3.size; have := b4.size; simp at *; omega) ?_; intro v5 w5 HO HB5; have HBw := ((bstep ((bstep hb2 b4).alloc (bstep hb2 b4).size _) b3).trans (HB5.mono hb2.size)); have k0 := (HB5.cell (p := ⟨w.heap.size, 0, none⟩) hyl).trans z0; have k1 := (HB5.cell (p := ⟨w.heap.size, 1, none⟩) hyl).trans z1; have k2 := (HB5.cell (p := ⟨w.heap.size, 2, none⟩) hyl).trans z2; have k3 := (HB5.cell (p := ⟨w.heap.size, 3, none⟩) hyl).trans z3))
  all_goals have HW := HO.low hb2.size
  all_goals clear HO HB5 o3 o4 k0 k1 k2 k3 z0 z1 z2 z3 x0 x1 x2 x3 y0 y1 y2 y3
  all_goals generalize hout : forget l x.o ++ [x] = out at *
  all_goals have HS := HW.slHi
  all_goals clear HW hout
  all_goals obtain ⟨A5, c5, rfl, hd1, hd2, _⟩ := HS.shape
  all_goals unfold maxLen at hd2
  all_goals have hbig := HFL.out.2.2
  all_goals have hroom := HQ.out.1
  all_goals go_wp2_with (go_at_call 13; refine (used_c HS (by omega)).mono ?_; rintro e w6 ⟨rfl, b6⟩)
  all_goals have hb6 := bstep HBw b6
  all_goals have HS6 := HS.below b6 (Nat.le_refl _)
  all_goals go_loop [9, 10] (fun s i => ∃ k : Nat, k ≤ out.length ∧ s = .int .i64 (used (out.drop k) : Int) ∧ i = .int .i64 k ∧ Hid (trim room (out.drop k) = trim room out)) (fun _ i => out.length - (intOf i).toNat)
  all_goals first
    | (exact ⟨0, Nat.zero_le _, by rw [List.drop_zero], rfl, Lib.hid (by rw [List.drop_zero])⟩)
    | (
      obtain ⟨k, hk, rfl, rfl, HT⟩ := hrel
      have hle := used_drop_le out k
      by_cases hlt : room < (used (out.drop k) : Int)
      · have hkl := trim_lt hroom hlt
        have HD := Lib.hid (used_drop hkl)
        have HN := Lib.hid ((trim_drop hkl hlt).symm.trans HT.out)
        obtain ⟨b, off, Av, cv, rfl, a0, a1, a2, a3, hv⟩ := HS6.body hkl
        have cc3 := a3.cell
        clear a0 a1 a2 a3
        have d1 : decide (room < (used (out.drop k) : Int)) = true := decide_eq_true hlt
        have hvl : out[k].v.length ≤ used (out.drop k) := by have := HD.out; omega
        have HV := Lib.hid (show (used (out.drop k) : Int) - (out[k].v.length : Int) = (used (out.drop (k + 1)) : Int) by have := HD.out; omega)
        generalize used (out.drop k) = U at *
        generalize out[k].v.length = V at *
        clear hlt
        go_wp2
        go_round
        case rel => exact ⟨k + 1, by omega, by rw [← HV.out], by go_num, HN⟩
        case measure => simp [intOf]; omega
      · have HN := Lib.hid ((trim_stop hlt).symm.trans HT.out)
        have d1 : decide (room < (used (out.drop k) : Int)) = false := decide_eq_false hlt
        obtain ⟨A6, c6, hcut, hrun⟩ := HS6.cut_l Try.underlying22 hi hz1 (lo := k) hk rfl
        have HC := Lib.hid (clonebd_c (hcut.mono (S' := fun b fr => Hi w.heap.size b fr ∧ b < w6.heap.size) (fun b fr h hl => ⟨h, hl⟩)) (by have := HFL.out; rw [List.length_drop]; omega))
        clear hlt
        go_wp2_with (go_at_call 31; refine HC.out.mono ?_; rintro e w7 ⟨v7, rfl, o7, b7⟩)
        go_ret2
        rw [HP.out.1, HP.out.2, ← HN.out]
        refine ⟨_, rfl, ?_, bstep hb6 b7⟩
        have hlt7 := o7.lt
        exact (o7.mono (fun b fr h _ => ⟨h.1.1, h.1.2, fun e => by have := (hlt7 b e.symm).1; have := h.2; omega⟩)).base_mono hb6.size)


/-- a body comes: the document's -/
theorem rput_c {S : Foot} {v : Value} {l : List Bd} {room : Int} {x : Bd} {Ax : Option Addr} {cx : Nat} {w : World} (hp : Sl bdE S w v l) (hx : Sl u8E S w (.slice Ax x.v.length cx) x.v) (hl : l.length ≤ 1048576) (hu : used l ≤ 1048576) :
    Calls Try.prog 20 #[v, .int .i64 room, .agg #[.int .i64 x.o, .int .i64 x.c, .int .i64 x.n, .slice Ax x.v.length cx]] w fun e w' => ∃ v', e = .returned (.tuple #[v', .int .i64 (pute l room x)]) ∧ Sl bdE (Hi w.heap.size) w' v' (put l room x) ∧ Below w.heap.size w w' := by
  obtain ⟨i0, hi, hz0, hz1, hz2⟩ := info_parts bds_info
  obtain ⟨A, cap, rfl, hc1, hc2, _⟩ := hp.shape
  unfold maxLen at hc2
  have hb0 : Below w.heap.size w (w.alloc (.cells #[.int .i64 x.o, .int .i64 x.c, .int .i64 x.n, .slice Ax x.v.length cx] 38)) := (Below.refl _ _).alloc (Nat.le_refl _) _
  have HCF := Lib.hid (rformed_c (room := room) (hp.below hb0 (Nat.le_refl _)) hu)
  have HCR := fun w => Lib.hid (rright_c x Ax cx w)
  cases hF : formed l room
  · have HP : Hid (put l room x = [] ∧ pute l room x = 1) := by unfold Hid put pute; rw [hF]; exact ⟨rfl, rfl⟩
    rw [hF] at HCF
    clear hF HCR
    go_enter Try.func20, Try.ntmps20
    go_wp2_with (go_at_call 22; refine HCF.out.mono ?_; rintro e w1 ⟨rfl, b1⟩)
    go_ret2
    rw [HP.out.1, HP.out.2]
    exact ⟨_, rfl, Sl.nil, hb0.trans (b1.mono (by simp))⟩
  rw [hF] at HCF
  cases hR : right x
  · have HP : Hid (put l room x = [] ∧ pute l room x = 1) := by unfold Hid put pute; rw [hF, hR]; exact ⟨rfl, rfl⟩
    rw [hR] at HCR
    clear hF hR
    go_enter Try.func20, Try.ntmps20
    go_wp2_with (first | (go_at_call 22; refine HCF.out.mono ?_; rintro e w1 ⟨rfl, b1⟩; have x0 := box_cell (cs := [.int .i64 x.o, .int .i64 x.c, .int .i64 x.n, .slice Ax x.v.length cx]) b1 (by simp) 0 _ rfl; have x1 := box_cell (cs := [.int .i64 x.o, .int .i64 x.c, .int .i64 x.n, .slice Ax x.v.length cx]) b1 (by simp) 1 _ rfl; have x2 := box_cell (cs := [.int .i64 x.o, .int .i64 x.c, .int .i64 x.n, .slice Ax x.v.length cx]) b1 (by simp) 2 _ rfl; have x3 := box_cell (cs := [.int .i64 x.o, .int .i64 x.c, .int .i64 x.n, .slice Ax x.v.length cx]) b1 (by simp) 3 _ rfl) | (go_at_call 24; refine (HCR _).out.mono ?_; rintro e w2 ⟨rfl, b2⟩))
    go_ret2
    rw [HP.out.1, HP.out.2]
    exact ⟨_, rfl, Sl.nil, bstep (hb0.trans (b1.mono (by simp))) b2⟩
  have HP : Hid (put l room x = trim room (forget l x.o ++ [x]) ∧ pute l room x = 0) := by unfold Hid put pute; rw [hF, hR]; exact ⟨rfl, rfl⟩
  have HQ : Hid (0 ≤ room ∧ l.length ≤ 256 ∧ x.v.length ≤ 256) := by
    unfold formed at hF
    unfold right at hR
    unfold Hid
    simp at hF hR
    omega
  have HFL := Lib.hid (show (forget l x.o).length ≤ 256 ∧ (forget l x.o ++ [x]).length ≤ 257 ∧ used (forget l x.o ++ [x]) ≤ 1048832 by
    have h1 := HQ.out
    have h2 := forget_len l x.o
    have h3 := used_forget l x.o
    rw [used_append, used_cons, used_nil, List.length_append]
    simp
    omega)
  rw [hR] at HCR
  clear hF hR
  go_enter Try.func20, Try.ntmps20
  go_wp2_with (first | (go_at_call 22; refine HCF.out.mono ?_; rintro e w1 ⟨rfl, b1⟩; have x0 := box_cell (cs := [.int .i64 x.o, .int .i64 x.c, .int .i64 x.n, .slice Ax x.v.length cx]) b1 (by simp) 0 _ rfl; have x1 := box_cell (cs := [.int .i64 x.o, .int .i64 x.c, .int .i64 x.n, .slice Ax x.v.length cx]) b1 (by simp) 1 _ rfl; have x2 := box_cell (cs := [.int .i64 x.o, .int .i64 x.c, .int .i64 x.n, .slice Ax x.v.length cx]) b1 (by simp) 2 _ rfl; have x3 := box_cell (cs := [.int .i64 x.o, .int .i64 x.c, .int .i64 x.n, .slice Ax x.v.length cx]) b1 (by simp) 3 _ rfl) | (go_at_call 24; refine (HCR _).out.mono ?_; rintro e w2 ⟨rfl, b2⟩))
  have hb2 : Below w.heap.size w w2 := bstep (hb0.trans (b1.mono (by simp))) b2
  have hyl : w.heap.size < w2.heap.size := by have h1 := b1.size; have h2 := b2.size; simp at h1; omega
  have bB := b1.trans (b2.mono b1.size)
  have y0 := box_cell (cs := [.int .i64 x.o, .int .i64 x.c, .int .i64 x.n, .slice Ax x.v.length cx]) bB (by simp) 0 _ rfl
  have y1 := box_cell (cs := [.int .i64 x.o, .int .i64 x.c, .int .i64 x.n, .slice Ax x.v.length cx]) bB (by simp) 1 _ rfl
  have y2 := box_cell (cs := [.int .i64 x.o, .int .i64 x.c, .int .i64 x.n, .slice Ax x.v.length cx]) bB (by simp) 2 _ rfl
  have y3 := box_cell (cs := [.int .i64 x.o, .int .i64 x.c, .int .i64 x.n, .slice Ax x.v.length cx]) bB (by simp) 3 _ rfl
  have hp2 := hp.below hb2 (Nat.le_refl _)
  have hx2 := hx.below hb2 (Nat.le_refl _)
  clear x0 x1 x2 x3 bB HCF HCR hp hx
  go_region_held3 (fun w' => w'.cell? ⟨w.heap.size, 0, none⟩ = some (.int .i64 x.o) ∧ w'.cell? ⟨w.heap.size, 1, none⟩ = some (.int .i64 x.c) ∧ w'.cell? ⟨w.heap.size, 2, none⟩ = some (.int .i64 x.n) ∧ w'.cell? ⟨w.heap.size, 3, none⟩ = some (.slice Ax x.v.length cx))
    (first | go_keep | (refine ⟨?_, ?_, ?_, ?_⟩ <;> (first | assumption | exact (((Below.refl w4.heap.size w4).alloc (Nat.le_refl _) _).cell (Nat.lt_of_lt_of_le hyl b4.size)).trans (by assumption) | exact (((Below.refl _ _).alloc (Nat.le_refl _) _).cell (by have := b3.size; have := b4.size; simp; omega)).trans (by assumption))))
    (first
      | (go_at_call 17; refine (rforget_c x.o (hp2.below (B := w2.heap.size) ((Below.refl _ _).drew) (Nat.le_refl _)) hl hu).mono ?_; rintro e w3 ⟨v3, rfl, o3, b3⟩; have b3 := bundrew b3; have x0 := (b3.cell (p := ⟨w.heap.size, 0, none⟩) hyl).trans y0; have x1 := (b3.cell (p := ⟨w.heap.size, 1, none⟩) hyl).trans y1; have x2 := (b3.cell (p := ⟨w.heap.size, 2, none⟩) hyl).trans y2; have x3 := (b3.cell (p := ⟨w.heap.size, 3, none⟩) hyl).trans y3)
      | (go_at_call 17; refine (rforget_c x.o (hp2.below b4 (Nat.le_refl _)) hl hu).mono ?_; rintro e w3 ⟨v3, rfl, o3, b3⟩; have z0 := (b3.cell (p := ⟨w.heap.size, 0, none⟩) (Nat.lt_of_lt_of_le hyl b4.size)).trans x0; have z1 := (b3.cell (p := ⟨w.heap.size, 1, none⟩) (Nat.lt_of_lt_of_le hyl b4.size)).trans x1; have z2 := (b3.cell (p := ⟨w.heap.size, 2, none⟩) (Nat.lt_of_lt_of_le hyl b4.size)).trans x2; have z3 := (b3.cell (p := ⟨w.heap.size, 3, none⟩) (Nat.lt_of_lt_of_le hyl b4.size)).trans x3)
      | (go_at_call 17; refine (rforget_c x.o (hp2.below (b4.alloc b4.size _) (Nat.le_refl _)) hl hu).mono ?_; rintro e w3 ⟨v3, rfl, o3, b3⟩; have z0 := (b3.cell (p := ⟨w.heap.size, 0, none⟩) (Nat.lt_of_lt_of_le (Nat.lt_of_lt_of_le hyl b4.size) (by simp))).trans ((((Below.refl w4.heap.size w4).alloc (Nat.le_refl _) _).cell (p := ⟨w.heap.size, 0, none⟩) (Nat.lt_of_lt_of_le hyl b4.size)).trans x0); have z1 := (b3.cell (p := ⟨w.heap.size, 1, none⟩) (Nat.lt_of_lt_of_le (Nat.lt_of_lt_of_le hyl b4.size) (by simp))).trans ((((Below.refl w4.heap.size w4).alloc (Nat.le_refl _) _).cell (p := ⟨w.heap.size, 1, none⟩) (Nat.lt_of_lt_of_le hyl b4.size)).trans x1); have z2 := (b3.cell (p := ⟨w.heap.size, 2, none⟩) (Nat.lt_of_lt_of_le (Nat.lt_of_lt_of_le hyl b4.size) (by simp))).trans ((((Below.refl w4.heap.size w4).alloc (Nat.le_refl _) _).cell (p := ⟨w.heap.size, 2, none⟩) (Nat.lt_of_lt_of_le hyl b4.size)).trans x2); have z3 := (b3.cell (p := ⟨w.heap.size, 3, none⟩) (Nat.lt_of_lt_of_le (Nat.lt_of_lt_of_le hyl b4.size) (by simp))).trans ((((Below.refl w4.heap.size w4).alloc (Nat.le_refl _) _).cell (p := ⟨w.heap.size, 3, none⟩) (Nat.lt_of_lt_of_le hyl b4.size)).trans x3))
      | (go_at_call 18; refine (rbody_c (hx2.below (B := w2.heap.size) ((Below.refl _ _).drew) (Nat.le_refl _)) (by have := HQ.out; omega)).mono ?_; rintro e w4 ⟨A4, c4, rfl, o4, b4⟩; have b4 := bundrew b4; have x0 := (b4.cell (p := ⟨w.heap.size, 0, none⟩) hyl).trans y0; have x1 := (b4.cell (p := ⟨w.heap.size, 1, none⟩) hyl).trans y1; have x2 := (b4.cell (p := ⟨w.heap.size, 2, none⟩) hyl).trans y2; have x3 := (b4.cell (p := ⟨w.heap.size, 3, none⟩) hyl).trans y3)
      | (go_at_call 18; refine (rbody_c (hx2.below b3 (Nat.le_refl _)) (by have := HQ.out; omega)).mono ?_; rintro e w4 ⟨A4, c4, rfl, o4, b4⟩; have z0 := (b4.cell (p := ⟨w.heap.size, 0, none⟩) (Nat.lt_of_lt_of_le hyl b3.size)).trans x0; have z1 := (b4.cell (p := ⟨w.heap.size, 1, none⟩) (Nat.lt_of_lt_of_le hyl b3.size)).trans x1; have z2 := (b4.cell (p := ⟨w.heap.size, 2, none⟩) (Nat.lt_of_lt_of_le hyl b3.size)).trans x2; have z3 := (b4.cell (p := ⟨w.heap.size, 3, none⟩) (Nat.lt_of_lt_of_le hyl b3.size)).trans x3)
      | (refine step_append_one _ (by rfl) (.tmp 21) (.tmp 24) 22 (by rfl) (E := bdE) (base := w2.heap.size) Try.underlying22 hi hz0 hz1 hz2 rfl ((o3.below b4 (Nat.le_refl _)).alloc _) (rd_beside ((o3.below b4 (Nat.le_refl _)).alloc _) (o4.alloc _) b3.size) (new_cells w4 [.int .i64 x.o, .int .i64 x.c, .int .i64 x.n, .slice A4 x.v.length c4] 38) (by rfl) (by rfl) (by have := HFL.out; unfold maxLen; omega) (by have := HFL.out; omega) (by simp only [World.size_alloc]; have := b3.size; have := b4.size; simp at *; omega) ?_; intro v5 w5 HO HB5; have HBw := (((bstep (bstep hb2 b3) b4).alloc (bstep (bstep hb2 b3) b4).size _).trans (HB5.mono hb2.size)); have k0 := (HB5.cell (p := ⟨w.heap.size, 0, none⟩) hyl).trans ((((Below.refl w4.heap.size w4).alloc (Nat.le_refl _) _).cell (p := ⟨w.heap.size, 0, none⟩) (Nat.lt_of_lt_of_le (Nat.lt_of_lt_of_le hyl b3.size) b4.size)).trans z0); have k1 := (HB5.cell (p := ⟨w.heap.size, 1, none⟩) hyl).trans ((((Below.refl w4.heap.size w4).alloc (Nat.le_refl _) _).cell (p := ⟨w.heap.size, 1, none⟩) (Nat.lt_of_lt_of_le (Nat.lt_of_lt_of_le hyl b3.size) b4.size)).trans z1); have k2 := (HB5.cell (p := ⟨w.heap.size, 2, none⟩) hyl).trans ((((Below.refl w4.heap.size w4).alloc (Nat.le_refl _) _).cell (p := ⟨w.heap.size, 2, none⟩) (Nat.lt_of_lt_of_le (Nat.lt_of_lt_of_le hyl b3.size) b4.size)).trans z2); have k3 := (HB5.cell (p := ⟨w.heap.size, 3, none⟩) hyl).trans ((((Below.refl w4.heap.size w4).alloc (Nat.le_refl _) _).cell (p := ⟨w.heap.size, 3, none⟩) (Nat.lt_of_lt_of_le (Nat.lt_of_lt_of_le hyl b3.size) b4.size)).trans z3))
      | (refine step_append_one _ (by rfl) (.tmp 21) (.tmp 24) 22 (by rfl) (E := bdE) (base := w2.heap.size) Try.underlying22 hi hz0 hz1 hz2 rfl ((o3.low b4.size).alloc _) (rd_beside ((o3.low b4.size).alloc _) ((o4.below b3 (Nat.le_refl _)).alloc _) (Nat.le_refl _)) (new_cells w3 [.int .i64 x.o, .int .i64 x.c, .int .i64 x.n, .slice A4 x.v.length c4] 38) (by rfl) (by rfl) (by have := HFL.out; unfold maxLen; omega) (by have := HFL.out; omega) (by simp only [World.size_alloc]; have := b3.size; have := b4.size; simp at *; omega) ?_; intro v5 w5 HO HB5; have HBw := (((bstep (bstep hb2 b4) b3).alloc (bstep (bstep hb2 b4) b3).size _).trans (HB5.mono hb2.size)); have k0 := (HB5.cell (p := ⟨w.heap.size, 0, none⟩) hyl).trans ((((Below.refl w3.heap.size w3).alloc (Nat.le_refl _) _).cell (p := ⟨w.heap.size, 0, none⟩) (Nat.lt_of_lt_of_le (Nat.lt_of_lt_of_le hyl b4.size) b3.size)).trans z0); have k1 := (HB5.cell (p := ⟨w.heap.size, 1, none⟩) hyl).trans ((((Below.refl w3.heap.size w3).alloc (Nat.le_refl _) _).cell (p := ⟨w.heap.size, 1, none⟩) (Nat.lt_of_lt_of_le (Nat.lt_of_lt_of_le hyl b4.size) b3.size)).trans z1); have k2 := (HB5.cell (p := ⟨w.heap.size, 2, none⟩) hyl).trans ((((Below.refl w3.heap.size w3).alloc (Nat.le_refl _) _).cell (p := ⟨w.heap.size, 2, none⟩) (Nat.lt_of_lt_of_le (Nat.lt_of_lt_of_le hyl b4.size) b3.size)).trans z2); have k3 := (HB5.cell (p := ⟨w.heap.size, 3, none⟩) hyl).trans ((((Below.refl w3.heap.size w3).alloc (Nat.le_refl _) _).cell (p := ⟨w.heap.size, 3, none⟩) (Nat.lt_of_lt_of_le (Nat.lt_of_lt_of_le hyl b4.size) b3.size)).trans z3))
      | (refine step_append_one _ (by rfl) (.tmp 21) (.tmp 24) 22 (by rfl) (E := bdE) (base := w2.heap.size) Try.underlying22 hi hz0 hz1 hz2 rfl (o3.low (Nat.le_trans b4.size (by simp))) (rd_beside (o3.low (Nat.le_trans b4.size (by simp))) ((o4.alloc _).below b3 (Nat.le_refl _)) (Nat.le_refl _)) (box_cell (cs := [.int .i64 x.o, .int .i64 x.c, .int .i64 x.n, .slice A4 x.v.length c4]) b3 (by simp)) (by rfl) (by rfl) (by have := HFL.out; unfold maxLen; omega) (by have := HFL.out; omega) (by simp only [World.size_alloc]; have := b3.size; have := b4.size; simp at *; omega) ?_; intro v5 w5 HO HB5; have HBw := ((bstep ((bstep hb2 b4).alloc (bstep hb2 b4).size _) b3).trans (HB5.mono hb2.size)); have k0 := (HB5.cell (p := ⟨w.heap.size, 0, none⟩) hyl).trans z0; have k1 := (HB5.cell (p := ⟨w.heap.size, 1, none⟩) hyl).trans z1; have k2 := (HB5.cell (p := ⟨w.heap.size, 2, none⟩) hyl).trans z2; have k3 := (HB5.cell (p := ⟨w.heap.size, 3, none⟩) hyl).trans z3))
  all_goals have HW := HO.low hb2.size
  all_goals clear HO HB5 o3 o4 k0 k1 k2 k3 z0 z1 z2 z3 x0 x1 x2 x3 y0 y1 y2 y3
  all_goals generalize hout : forget l x.o ++ [x] = out at *
  all_goals have HS := HW.slHi
  all_goals clear HW hout
  all_goals obtain ⟨A5, c5, rfl, hd1, hd2, _⟩ := HS.shape
  all_goals unfold maxLen at hd2
  all_goals have hbig := HFL.out.2.2
  all_goals have hroom := HQ.out.1
  all_goals go_wp2
  all_goals go_loop [8] (fun s => ∃ (k : Nat) (A6 : Option Addr) (c6 : Nat), k ≤ out.length ∧ s = .slice A6 (out.length - k) c6 ∧ Hid (Sl bdE (Hi w.heap.size) w5 (.slice A6 (out.length - k) c6) (out.drop k)) ∧ Hid (trim room (out.drop k) = trim room out)) (fun s => slen s)
  all_goals first
    | (exact ⟨0, A5, c5, Nat.zero_le _, rfl, HS, Lib.hid (by rw [List.drop_zero])⟩)
    | (
      obtain ⟨k, A6, c6, hk, rfl, HK, HT⟩ := hrel
      have hle := used_drop_le out k
      have HC := Lib.hid (rused_c HK.out (by omega))
      have hcc := HK.out.cells.2.1
      have hcm := HK.out.cells.2.2.1
      unfold maxLen at hcm
      generalize hm : out.length - k = m at *
      have HM := Lib.hid hm
      clear hm
      by_cases hlt : room < (used (out.drop k) : Int)
      · have hkl := trim_lt hroom hlt
        have HN := Lib.hid ((trim_drop hkl hlt).symm.trans HT.out)
        have d1 : decide (room < (used (out.drop k) : Int)) = true := decide_eq_true hlt
        obtain ⟨A7, c7, hcut, hrun⟩ := HK.out.cut_l Try.underlying22 hi hz1 (lo := 1) (L := 1) (by have := HM.out; omega) rfl
        have HZ := Lib.hid hcut
        clear hlt hcut
        go_wp2_with (go_at_call 14; refine HC.out.mono ?_; rintro e w6 ⟨rfl, rfl⟩)
        go_round
        case rel => exact ⟨k + 1, A7, c7, by omega, by rw [← HM.out, Nat.sub_sub], by have h := HZ.out; rw [List.drop_drop, ← HM.out, Nat.sub_sub] at h; exact Lib.hid h, HN⟩
        case measure => simp [slen]; have := HM.out; omega
      · have HN := Lib.hid ((trim_stop hlt).symm.trans HT.out)
        have d1 : decide (room < (used (out.drop k) : Int)) = false := decide_eq_false hlt
        clear hlt
        go_wp2_with (go_at_call 14; refine HC.out.mono ?_; rintro e w6 ⟨rfl, rfl⟩)
        go_ret2
        rw [HP.out.1, HP.out.2, ← HN.out]
        exact ⟨_, rfl, HK.out, HBw⟩)


end Go.Proofs.Ytjcbheeihckgmaa
