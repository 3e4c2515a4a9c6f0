/- A row of the call's own: one element is cut out in place; the tail is cleared; two rows are joined. -/
import Derived.Test.YtkocbhcklnjomaaBack
import Derived.Lib.SliceRun
import Derived.Laws.Rows
namespace Go.Proofs.Ytkocbhcklnjomaa
open Go.RowKit

/-- a call of a Go function at a step of a region that draws its order, by its contract -/
theorem step_call {P : Program} {w : World} {ops : Array Oper} {o : Oper} {ac : Act} {K : Act → World → Prop} {Q : Exit → Act → World → Prop} {X : Prop} (hgd : o.guard = none) (f : FuncId) (xs : Array Operand) (tys : Array TypeId)
    (ho : o.op = .call { callee := .value (.func f), args := xs, argTypes := tys }) {fn : Func} (hfn : P.funcs[f]? = some fn) (hnm : ¬ fn.name = "runtime.NumGoroutine") (hbd : ¬ fn.body = none)
    {args : List Value} (ha : xs.toList.map ac.eval = args) {R : Ending → World → Prop} (hc : Calls P f args.toArray w R)
    (h : ∀ e w', R e w' → ∃ v, e = .returned v ∧ K (ac.put o.dst v) w') : if Region.wanted o (yielded ops ac.tmps) = true then Oper.wp P o ac w K Q else X := by
  have hw : Region.wanted o (yielded ops ac.tmps) = true := by simp [Region.wanted, hgd]
  rw [if_pos hw]
  have hr : (execOp ac.eval o).run P w = .ok (.enter f args.toArray) w := by
    have e : xs.map ac.eval = args.toArray := by rw [← ha, ← Array.toList_map]
    simp only [execOp, ho, resolve, invoke, Sem.run_bind, e]
    simp [Act.eval, Deferred.ofValue, callFunc, hfn, hnm, hbd]
  unfold Oper.wp
  rw [hr]
  refine hc.mono fun e w' hR => ?_
  obtain ⟨v, rfl, hk⟩ := h e w' hR
  exact hk

theorem cell_far {w : World} {p q : Addr} {u : Value} (h : q.block ≠ p.block) : (w.setCell p u).cell? q = w.cell? q := by
  unfold World.cell?
  rw [heap_setCell_other w p q.block u h]
/-- results: a struct of its own cells, and two slots -/
theorem results_cell_tmp2 {P : Program} {fn : Func} {p x y : Tmp} {ty : TypeId} (h : fn.results = #[.cell p ty, .tmp x, .tmp y]) (tmps : Array Value) (w : World) (g : Nat) (t : TypeId) (cs : Array Value) (fr : Nat × Nat) (d : TypeDesc)
    (hp : tmps.getD p undef = .pointer (some ⟨g, 0, none⟩)) (hg : w.heap[g]? = some (.cells cs t fr))
    (hu : P.underlying ty = some d) (hd : (match d with | .struct _ | .array _ _ => true | _ => false) = true) (hi : (P.info? ty).map (·.size) = some cs.size) :
    (results fn tmps).run P w = .ok (.tuple #[.agg cs, tmps.getD x undef, tmps.getD y undef]) w := by
  have hp' : tmps[p]?.getD undef = .pointer (some ⟨g, 0, none⟩) := by simpa using hp
  simp [results, h, hp', asAddr, run_loadVar_row w g t ty cs fr d hg hu hd hi]
/-- four cells of a block, all written -/
theorem set4 {w : World} {R : Nat} {z0 z1 z2 z3 a b c d : Value} {T : TypeId} (q : w.heap[R]? = some (.cells #[z0, z1, z2, z3] T (0, 0))) :
    ((((w.setCell ⟨R, 0, none⟩ a).setCell ⟨R, 1, none⟩ b).setCell ⟨R, 2, none⟩ c).setCell ⟨R, 3, none⟩ d).heap[R]? = some (.cells #[a, b, c, d] T (0, 0)) := by
  have q3 := heap_setCell_same w R 0 _ _ a q
  have q4 := heap_setCell_same _ R 1 _ _ b q3
  have q5 := heap_setCell_same _ R 2 _ _ c q4
  exact heap_setCell_same _ R 3 _ _ d q5

section
variable {α : Type} {E : Enc α} {P : Program} {w w' : World} {t e : TypeId} {i : TypeInfo} {B g cap : Nat} {l m : List α} {S : Foot}

theorem run_cut_h (ht : P.underlying t = some (.slice e)) (hi : P.info? e = some i) (hs : i.size = E.k) {n k : Nat} (hk : k ≤ cap) (w' : World) (kh : IntKind) {H : Int} (hH : H = k) :
    (Instr.sliceAt t (.slice (some ⟨g, 0, none⟩) n cap) none (some (.int kh H)) none).run P w' = .ok (.slice (some ⟨g, 0, none⟩) k cap) w' := by
  have he : P.elem t = e := by simp [Program.elem, ht]
  subst hH
  rw [run_sliceAt_slice w' t _ _ _ _ (by rw [he]; exact ht), run_slice_h w' t _ n cap (by rw [he]; exact ht) kh k (by omega) (by omega), he, run_size_of hi hs]
  simp [Result.andThen, Go.sliced, add_lit']
theorem run_cut_l (ht : P.underlying t = some (.slice e)) (hi : P.info? e = some i) (hs : i.size = E.k) {n k : Nat} (hk : k ≤ n) :
    ∃ A : Addr, (k < cap → A = ⟨g, k * E.k, none⟩) ∧ ∀ (w' : World) (kl : IntKind) (L : Int), L = k → (Instr.sliceAt t (.slice (some ⟨g, 0, none⟩) n cap) (some (.int kl L)) none none).run P w' = .ok (.slice (some A) (n - k) (cap - k)) w' := by
  have he : P.elem t = e := by simp [Program.elem, ht]
  refine ⟨if cap = k then ⟨g, 0, none⟩ else ⟨g, k * E.k, none⟩, fun h => by rw [if_neg (by omega)], fun w' kl L hL => ?_⟩
  subst hL
  rw [run_sliceAt_slice w' t _ _ _ _ (by rw [he]; exact ht), run_slice_l w' t _ n cap (by rw [he]; exact ht) kl k (by omega) (by omega), he, run_size_of hi hs]
  simp only [Result.andThen, Go.sliced, Int.toNat_natCast]
  split <;> simp [add_lit']
theorem run_cut_lh (ht : P.underlying t = some (.slice e)) (hi : P.info? e = some i) (hs : i.size = E.k) {n lo hh : Nat} (h1 : lo ≤ hh) (h2 : hh ≤ cap) (h3 : lo < cap) (w' : World) (kl kh : IntKind) {L H : Int} (hL : L = lo) (hH : H = hh) :
    (Instr.sliceAt t (.slice (some ⟨g, 0, none⟩) n cap) (some (.int kl L)) (some (.int kh H)) none).run P w' = .ok (.slice (some ⟨g, lo * E.k, none⟩) (hh - lo) (cap - lo)) w' := by
  have he : P.elem t = e := by simp [Program.elem, ht]
  subst hL hH
  rw [run_sliceAt_slice w' t _ _ _ _ (by rw [he]; exact ht), run_slice_lh w' t _ n cap (by rw [he]; exact ht) kl kh lo hh (by omega) (by omega) (by omega), he, run_size_of hi hs]
  simp only [Result.andThen, Go.sliced, Int.toNat_natCast]
  rw [if_neg (by omega)]
  simp [add_lit']
theorem run_cut_lhm (ht : P.underlying t = some (.slice e)) (hi : P.info? e = some i) (hs : i.size = E.k) {n lo hh mx : Nat} (h1 : lo ≤ hh) (h2 : hh ≤ mx) (h3 : mx ≤ cap) :
    ∃ v : Value, ∀ (w' : World) (kl kh km : IntKind) (L H M : Int), L = lo → H = hh → M = mx → (Instr.sliceAt t (.slice (some ⟨g, 0, none⟩) n cap) (some (.int kl L)) (some (.int kh H)) (some (.int km M))).run P w' = .ok v w' := by
  have he : P.elem t = e := by simp [Program.elem, ht]
  refine ⟨Go.sliced (some ⟨g, 0, none⟩) lo hh mx E.k, fun w' kl kh km L H M hL hH hM => ?_⟩
  subst hL hH hM
  rw [run_sliceAt_slice w' t _ _ _ _ (by rw [he]; exact ht), run_slice_lhm w' t _ n cap (by rw [he]; exact ht) kl kh km lo hh mx (by omega) (by omega) (by omega) (by omega), he, run_size_of hi hs]
  simp only [Result.andThen, Int.toNat_natCast]

theorem ownsRow_short {n k : Nat} {xs : List Value} {sz : Nat} (h : w.ownsRow B e sz (.slice (some ⟨g, 0, none⟩) n cap) n xs) (hk : k ≤ n) : w.ownsRow B e sz (.slice (some ⟨g, 0, none⟩) k cap) k (xs.take (k * sz)) := by
  have hle : k * sz ≤ n * sz := Nat.mul_le_mul_right _ hk
  refine ⟨by rw [List.length_take, h.1]; omega, ?_⟩
  rcases h.2 with ⟨h0, _⟩ | ⟨g', cap', cur, hv, hb, hh, hn, hm, hs, ht⟩
  · cases h0
  · injection hv with e1 _ e3
    injection e1 with e1
    injection e1 with e1
    subst e1 e3
    refine .inr ⟨g, cap, cur, rfl, hb, hh, by omega, hm, hs, ?_⟩
    rw [← ht, List.take_take, Nat.min_eq_left hle]

/-- one element is cut out in place -/
theorem run_del (ht : P.underlying t = some (.slice e)) (hi : P.info? e = some i) (hs : i.size = E.k) (h : Own E (HiN B (some g)) w B e (.slice (some ⟨g, 0, none⟩) l.length cap) l) {k : Nat} (hk : k < l.length) {A : Addr} (hA : k + 1 < cap → A = ⟨g, (k + 1) * E.k, none⟩) (ty : TypeId) (c : Nat) :
    ∃ w', (Builtin.append_ #[t, t] ty #[.slice (some ⟨g, 0, none⟩) k cap, .slice (some A) (l.length - (k + 1)) c]).run P w = .ok (.slice (some ⟨g, 0, none⟩) (l.length - 1) cap) w' ∧
      Own E (HiN B (some g)) w' B e (.slice (some ⟨g, 0, none⟩) (l.length - 1) cap) (l.eraseIdx k) ∧ w.grownBy w' (some g) := by
  obtain ⟨xs, ho, hr⟩ := h
  have hlc : l.length ≤ cap := by
    rcases ho.2 with ⟨h0, _⟩ | ⟨_, _, _, hv, _, _, hn, _⟩
    · cases h0
    · injection hv with _ _ e3; omega
  have hmul : (l.length - (k + 1)) * E.k = l.length * E.k - (k + 1) * E.k := Nat.sub_mul _ _ _
  have hxl : (xs.drop ((k + 1) * E.k)).length = (l.length - (k + 1)) * E.k := by rw [List.length_drop, ho.1, hmul]
  have hcells : ∀ j u, (xs.drop ((k + 1) * E.k))[j]? = some u → w.cell? (A.add j) = some u := by
    intro j u hu
    have hj := (List.getElem?_eq_some_iff.1 hu).1
    have hpos := E.pos
    rw [hxl] at hj
    have hlt : k + 1 < l.length := by
      rcases Nat.lt_or_ge (k + 1) l.length with h | h
      · exact h
      · rw [show l.length - (k + 1) = 0 by omega, Nat.zero_mul] at hj; omega
    rw [hA (by omega), add_lit', ho.cellAt ((k + 1) * E.k + j) (by have := Nat.mul_le_mul_right E.k (show k + 1 ≤ l.length by omega); omega)]
    rw [List.getElem?_drop] at hu
    exact hu
  obtain ⟨w', hrun, h2, h3⟩ := run_append_fits (P := P) w B t ty e i E.k ht hi hs g k cap _ (ownsRow_short ho (Nat.le_of_lt hk)) A (l.length - (k + 1)) c _ hxl hcells (fun u hu => hr.one u (List.mem_of_mem_drop hu)) (by omega)
  have hlen : k + (l.length - (k + 1)) = l.length - 1 := by omega
  rw [hlen] at hrun h2
  have hE : (l.eraseIdx k).length = l.length - 1 := by rw [List.length_eraseIdx, if_pos hk]
  refine ⟨w', hrun, ⟨_, by rw [hE]; exact h2, ?_⟩, h3⟩
  rw [List.eraseIdx_eq_take_drop_succ]
  exact ((hr.take k).append (hr.drop (k + 1))).keep (fun b _ hb hl => h3.block b hl hb.2.2)

theorem ownsRow_set {n : Nat} {xs : List Value} {sz : Nat} (h : w.ownsRow B e sz (.slice (some ⟨g, 0, none⟩) n cap) n xs) {o : Nat} (hoo : n * sz ≤ o) (u : Value) :
    (w.setCell ⟨g, o, none⟩ u).ownsRow B e sz (.slice (some ⟨g, 0, none⟩) n cap) n xs := by
  refine ⟨h.1, ?_⟩
  rcases h.2 with ⟨h0, _⟩ | ⟨g', cap', cur, hv, hb, hh, hn, hm, hs, ht⟩
  · cases h0
  · injection hv with e1 _ e3
    injection e1 with e1
    injection e1 with e1
    subst e1 e3
    refine .inr ⟨g, cap, _, rfl, hb, heap_setCell_same w g o cur e u hh, hn, hm, by rw [Array.size_setIfInBounds]; exact hs, ?_⟩
    rw [Array.toList_setIfInBounds, List.take_set_of_le hoo]
    exact ht
theorem grown_set (u : Value) (o : Nat) : w.grownBy (w.setCell ⟨g, o, none⟩ u) (some g) :=
  ⟨rfl, rfl, rfl, by simp, fun k _ hk => heap_setCell_other w ⟨g, o, none⟩ k u (fun e => hk (by rw [e]))⟩
theorem grown_trans {a b c : World} {r : Option Nat} (h : a.grownBy b r) (k : b.grownBy c r) : a.grownBy c r :=
  ⟨k.os.trans h.os, k.tape.trans h.tape, k.output.trans h.output, Nat.le_trans h.size k.size, fun i hi hr => (k.block i (Nat.lt_of_lt_of_le hi h.size) hr).trans (h.block i hi hr)⟩
theorem ownsRow_sets {n : Nat} {xs : List Value} {sz : Nat} : ∀ (vs : List Value) (o : Nat) (w : World), w.ownsRow B e sz (.slice (some ⟨g, 0, none⟩) n cap) n xs → n * sz ≤ o →
    (w.setCells g o vs).ownsRow B e sz (.slice (some ⟨g, 0, none⟩) n cap) n xs ∧ w.grownBy (w.setCells g o vs) (some g)
  | [], _, w, h, _ => ⟨h, World.grownBy.refl w _⟩
  | v :: r, o, w, h, ho => by
    obtain ⟨h1, h2⟩ := ownsRow_sets r (o + 1) _ (ownsRow_set h ho v) (by omega)
    exact ⟨h1, grown_trans (grown_set v o) h2⟩

/-- the cells behind the row are cleared -/
theorem run_clear (ht : P.underlying t = some (.slice e)) (hi : P.info? e = some i) {z : Value} (hz : i.zero = some z) (hzs : z.cells.size = E.k) (hz1 : ∀ u ∈ z.cells.toList, u.oneCell' = true)
    (h : Own E (HiN B (some g)) w B e (.slice (some ⟨g, 0, none⟩) l.length cap) l) {n c : Nat} (hn : l.length + n ≤ cap) (ty : TypeId) :
    ∃ w', (Builtin.clear_ #[t] ty #[.slice (some ⟨g, l.length * E.k, none⟩) n c]).run P w = .ok (.tuple #[]) w' ∧ Own E (HiN B (some g)) w' B e (.slice (some ⟨g, 0, none⟩) l.length cap) l ∧ w.grownBy w' (some g) := by
  rcases Nat.eq_zero_or_pos n with h0 | h0
  · subst h0
    exact ⟨w, by simp [Builtin.clear_, run_underlying ht], h, World.grownBy.refl w _⟩
  · obtain ⟨xs, ho, hr⟩ := h
    have hpos := E.pos
    obtain ⟨cur, hcur, hsz⟩ : ∃ cur, w.heap[g]? = some (.cells cur e (0, 0)) ∧ cur.size = cap * E.k := by
      rcases ho.2 with ⟨h0, _⟩ | ⟨g', cap', cur, hv, hb, hh, _, _, hs, _⟩
      · cases h0
      · injection hv with e1 _ e3
        injection e1 with e1
        injection e1 with e1
        subst e1 e3
        exact ⟨cur, hh, hs⟩
    have hzl : (Builtin.zeroCells z.cells n).toList.length = n * E.k := by simp [Builtin.zeroCells, hzs]
    have hbound : l.length * E.k + n * E.k ≤ cap * E.k := by rw [← Nat.add_mul]; exact Nat.mul_le_mul_right _ hn
    have hst := run_storeCells_cells (P := P) g (l.length * E.k) (Builtin.zeroCells z.cells n).toList 0 w
      (fun j hj => by rw [hzl] at hj; rw [Nat.add_zero, cell_of_row w g _ cur e (0, 0) hcur, Array.getElem?_eq_getElem (by omega)]; rfl)
      (fun j hj => by rw [Nat.add_zero]; exact frozen_of_row w g _ cur e hcur)
      (fun v hv => by
        simp only [Builtin.zeroCells, Array.toList_map, List.mem_map] at hv
        obtain ⟨j, _, rfl⟩ := hv
        have hlt : j % z.cells.size < z.cells.size := Nat.mod_lt _ (by omega)
        rw [getElem!_pos z.cells _ hlt]
        exact hz1 _ (by simp))
    rw [Nat.add_zero] at hst
    obtain ⟨h1, h2⟩ := ownsRow_sets (Builtin.zeroCells z.cells n).toList (l.length * E.k) w ho (Nat.le_refl _)
    refine ⟨_, ?_, ⟨xs, h1, hr.keep (fun b _ hb hl => h2.block b hl hb.2.2)⟩, h2⟩
    obtain ⟨n', rfl⟩ : ∃ n', n = n' + 1 := ⟨n - 1, by omega⟩
    simp [Builtin.clear_, run_underlying ht, zeroValue, typeInfo, hi, hz, hst]

/-- one cell of one element is another one -/
theorem Own.replaced {W' : World} (h : Own E (HiN B (some g)) w B e (.slice (some ⟨g, 0, none⟩) l.length cap) l) {n j : Nat} (hn : n < l.length) (hj : j < E.k) {u : Value} {a' : α}
    (hg : ∀ cur, w.heap[g]? = some (.cells cur e (0, 0)) → W'.heap[g]? = some (.cells (cur.setIfInBounds (n * E.k + j) u) e (0, 0))) (hb : ∀ b, b < w.heap.size → b ≠ g → W'.heap[b]? = w.heap[b]?)
    (hrd : ∀ cs, E.rd (HiN B (some g)) w cs l[n] → E.rd (HiN B (some g)) W' (cs.set j u) a') : Own E (HiN B (some g)) W' B e (.slice (some ⟨g, 0, none⟩) l.length cap) (l.set n a') := by
  obtain ⟨xs, ho, hr⟩ := h
  refine ⟨xs.set (n * E.k + j) u, ?_, ?_, ?_⟩
  · rw [List.length_set]
    refine ⟨by rw [List.length_set]; exact ho.1, ?_⟩
    rcases ho.2 with ⟨h0, _⟩ | ⟨g', cap', cur, hv, hbb, hh, hnc, hm, hs, ht⟩
    · cases h0
    · injection hv with e1 _ e3
      injection e1 with e1
      injection e1 with e1
      subst e1 e3
      refine .inr ⟨g, cap, _, rfl, hbb, hg cur hh, hnc, hm, by rw [Array.size_setIfInBounds]; exact hs, ?_⟩
      rw [Array.toList_setIfInBounds, List.take_set, ht]
  · rw [List.length_set, List.length_set]; exact hr.1
  · intro m a hma
    rw [List.getElem?_set] at hma
    by_cases hmn : n = m
    · subst hmn
      rw [if_pos rfl, if_pos hn] at hma
      injection hma with hma
      subst hma
      rw [List.drop_set, if_neg (by omega), List.take_set, show n * E.k + j - n * E.k = j by omega]
      exact hrd _ (hr.2 n _ (List.getElem?_eq_getElem hn))
    · rw [if_neg hmn] at hma
      have h1 := hr.2 m a hma
      have e1 : ((xs.set (n * E.k + j) u).drop (m * E.k)).take E.k = (xs.drop (m * E.k)).take E.k := by
        rw [List.drop_set]
        split
        · rfl
        · rename_i hge
          have : m + 1 ≤ n := by
            rcases Nat.lt_or_ge n m with h | h
            · have := Nat.mul_le_mul_right E.k (show n + 1 ≤ m from h)
              rw [Nat.add_mul] at this
              omega
            · omega
          have h2 := Nat.mul_le_mul_right E.k this
          rw [Nat.add_mul] at h2
          rw [List.take_set_of_le (by omega)]
      rw [e1]
      exact E.keep h1 fun b _ hs hl => hb b hl (fun e => hs.2.2 (by rw [e]))
/-- the form of an owned row that holds something -/
theorem Own.form1 {v : Value} (h : Own E S w B e v l) (hl : 0 < l.length) : ∃ g cap, v = .slice (some ⟨g, 0, none⟩) l.length cap ∧ B ≤ g ∧ g < w.heap.size ∧ l.length ≤ cap ∧ cap ≤ maxLen := by
  have hlt := h.lt
  obtain ⟨xs, ho, _⟩ := h
  rcases ho.2 with ⟨_, h0⟩ | ⟨g, cap, cur, rfl, hb, hh, hn, hm, _⟩
  · omega
  · exact ⟨g, cap, rfl, hb, (hlt g rfl).2, hn, hm⟩
/-- append(a, b...) at a step of a region that draws its order, both rows the call's own -/
theorem step_append_two {t e : TypeId} {i : TypeInfo} {ops : Array Oper} {o : Oper} {ac : Act} {K : Act → World → Prop} {Q : Exit → Act → World → Prop} {X : Prop} (hgd : o.guard = none) (s y : Operand)
    (ho : o.op = .call { callee := .builtin .append, args := #[s, y], argTypes := #[t, t] })
    {z : Value} {bytes : Nat} (ht : P.underlying t = some (.slice e)) (hi : P.info? e = some i) (hz : i.zero = some z) (hsize : i.size = E.k) (hby : i.bytes = bytes) (hzs : z.cells.size = E.k)
    {v x : Value} (hown : Own E (HiN B v.ownBlock) w B e v l) (hx : Sl E (HiN B v.ownBlock) w x m) (hs : ac.eval s = v) (hxv : ac.eval y = x)
    (h63 : l.length + m.length ≤ maxLen) (hbytes : (l.length + m.length) * bytes ≤ 140737488355328) (hbase : B ≤ w.heap.size)
    (h : ∀ v' w', Own E (HiN B v'.ownBlock) w' B e v' (l ++ m) → Below B w w' → (v'.ownBlock = v.ownBlock ∨ v'.ownBlock = some w.heap.size) → w.grownBy w' v.ownBlock → K (ac.put o.dst v') w') :
    if Region.wanted o (yielded ops ac.tmps) = true then Oper.wp P o ac w K Q else X := by
  have hw : Region.wanted o (yielded ops ac.tmps) = true := by simp [Region.wanted, hgd]
  rw [if_pos hw]
  have hlt := hown.lt
  obtain ⟨xs, ho', hr⟩ := hown
  exact wp_append_sl (P := P) w s y t ho ht hi hz hsize hby hzs ho' hx hs hxv h63 hbytes hbase fun v' w' ys h2 h3 h4 h5 =>
    h v' w' (Own.appended hr h3 h2 h4 h5) (bgrown h4 hbase (fun k hk => (hlt k hk).1)) h5 h4

/-- a row of the call's own, seen from beside another one -/
theorem Own.besideO {b1 : Nat} {v : Value} {r : Option Nat} (h : Own E (HiN b1 v.ownBlock) w b1 e v l) (hb : B ≤ b1) (hr : ∀ g, r = some g → g < b1) : Sl E (HiN B r) w v l :=
  h.sl (fun b _ hs _ => ⟨Nat.le_trans hb hs.1, hs.2.1, fun e => by have := hr b e.symm; have := hs.1; omega⟩) (fun g hg h1 _ => ⟨Nat.le_trans hb h1, rfl, fun e => by have := hr g e.symm; omega⟩)
end
end Go.Proofs.Ytkocbhcklnjomaa
