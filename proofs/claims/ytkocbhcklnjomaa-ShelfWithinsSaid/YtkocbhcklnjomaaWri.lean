/- Shelves: a write laid into a row: slices.Insert's ways. -/
import Derived.Test.YtkocbhcklnjomaaWrh
import Derived.Test.YtkocbhcklnjomaaRow
import Derived.Lib.Overlaps
import Derived.Lib.AppendZerosOnto
import Derived.Laws.CopyOwn
import Derived.Laws.Externs
namespace Go.Proofs.Ytkocbhcklnjomaa
open Go.RowKit

section
variable {P : Program} {w : World}
theorem run_copy_k (dT sT ty elem : TypeId) {i : TypeInfo} {g o dLen dCap sLen sCap : Nat} {a : Addr} {cur cs : List Value} {t : TypeId} (hu : P.underlying dT = some (.slice elem)) (hi : P.info? elem = some i)
    (hg : w.heap[g]? = some (.cells cur.toArray t (0, 0))) (hn : cs.length = Nat.min sLen dLen * i.size) (hsrc : ∀ j v, cs[j]? = some v → w.cell? (a.add j) = some v) (hfit : o + cs.length ≤ cur.length) (h1 : ∀ v ∈ cs, v.oneCell' = true) :
    (Builtin.copy_ #[dT, sT] ty #[.slice (some ⟨g, o, none⟩) dLen dCap, .slice (some a) sLen sCap]).run P w = .ok (goInt (Nat.min sLen dLen)) (w.setRow g (splice cur o cs).toArray) := by
  have hl := run_loadCells_list (P := P) w a cs hsrc
  have hst := run_storeCells_at P g o t cs 0 cur.toArray w hg (by simpa using hfit) h1
  simp only [Builtin.copy_, Builtin.lenOf, Builtin.firstCells, sizeOf, typeInfo]
  simp [run_underlying hu, hi, ← hn, hl, hst, splice]
theorem grown_row (g : Nat) (cs : Array Value) : w.grownBy (w.setRow g cs) (some g) :=
  ⟨rfl, rfl, rfl, by simp [World.setRow], fun k _ hk => setRow_other w g k cs (fun e => hk (by rw [e]))⟩
theorem wpList_copy_k {ops : Array Oper} {rest : List Oper} {o : Oper} {a : Act} {Q : Exit → Act → World → Prop} (hgd : o.guard = none) (d s : Operand) (dT sT elem : TypeId) (ho : o.op = .call { callee := .builtin .copy, args := #[d, s], argTypes := #[dT, sT] })
    {i : TypeInfo} {g off dLen dCap sLen sCap : Nat} {ad : Addr} {cur cs : List Value} {t : TypeId} (hu : P.underlying dT = some (.slice elem)) (hi : P.info? elem = some i) (hd : a.eval d = .slice (some ⟨g, off, none⟩) dLen dCap) (hs : a.eval s = .slice (some ad) sLen sCap)
    (hg : w.heap[g]? = some (.cells cur.toArray t (0, 0))) (hn : cs.length = Nat.min sLen dLen * i.size) (hsrc : ∀ j v, cs[j]? = some v → w.cell? (ad.add j) = some v) (hfit : off + cs.length ≤ cur.length) (h1 : ∀ v ∈ cs, v.oneCell' = true)
    (h : ∀ w', Hid (w'.heap[g]? = some (.cells (splice cur off cs).toArray t (0, 0))) → w.grownBy w' (some g) → wpList P ops Q rest (a.put o.dst (goInt (Nat.min sLen dLen))) w') : wpList P ops Q (o :: rest) a w := by
  refine wpList_plain hgd fun K hK => ?_
  have hrun := run_copy_k dT sT o.type elem hu hi hg hn hsrc hfit h1 (dCap := dCap) (sCap := sCap)
  unfold Oper.wp
  simp [execOp, ho, resolve, invoke, builtin, hd, hs, hrun, Result.andThen]
  exact hK _ _ (h _ (show _ = _ from setRow_heap w g _ _ t _ hg) (grown_row g _))
theorem step_copy_k {ops : Array Oper} {o : Oper} {a : Act} {K : Act → World → Prop} {Q : Exit → Act → World → Prop} {E : Prop} (hgd : o.guard = none) (d s : Operand) (dT sT elem : TypeId) (ho : o.op = .call { callee := .builtin .copy, args := #[d, s], argTypes := #[dT, sT] })
    {i : TypeInfo} {g off dLen dCap sLen sCap : Nat} {ad : Addr} {cur cs : List Value} {t : TypeId} (hu : P.underlying dT = some (.slice elem)) (hi : P.info? elem = some i) (hd : a.eval d = .slice (some ⟨g, off, none⟩) dLen dCap) (hs : a.eval s = .slice (some ad) sLen sCap)
    (hg : w.heap[g]? = some (.cells cur.toArray t (0, 0))) (hn : cs.length = Nat.min sLen dLen * i.size) (hsrc : ∀ j v, cs[j]? = some v → w.cell? (ad.add j) = some v) (hfit : off + cs.length ≤ cur.length) (h1 : ∀ v ∈ cs, v.oneCell' = true)
    (h : ∀ w', Hid (w'.heap[g]? = some (.cells (splice cur off cs).toArray t (0, 0))) → w.grownBy w' (some g) → K (a.put o.dst (goInt (Nat.min sLen dLen))) w') : if Region.wanted o (yielded ops a.tmps) = true then Oper.wp P o a w K Q else E := by
  have hw : Region.wanted o (yielded ops a.tmps) = true := by simp [Region.wanted, hgd]
  rw [if_pos hw]
  have hrun := run_copy_k dT sT o.type elem hu hi hg hn hsrc hfit h1 (dCap := dCap) (sCap := sCap)
  unfold Oper.wp
  simp [execOp, ho, resolve, invoke, builtin, hd, hs, hrun, Result.andThen]
  exact h _ (show _ = _ from setRow_heap w g _ _ t _ hg) (grown_row g _)

/-- two copies in a row make room and fill it -/
theorem splice_shift {α : Type} (cur ys : List α) (k n m : Nat) (hk : k ≤ n) (hm : ys.length = m) (hn : n + m ≤ cur.length) :
    (splice (splice cur (k + m) ((cur.take n).drop k)) k ys).take (n + m) = (cur.take n).take k ++ (ys ++ (cur.take n).drop k) := by
  have hl : ((cur.take n).drop k).length = n - k := by simp; omega
  subst hm
  unfold splice
  rw [hl]
  have e1 : (cur.take (k + ys.length) ++ ((cur.take n).drop k ++ cur.drop (k + ys.length + (n - k)))).take k = (cur.take n).take k := by
    rw [List.take_append_of_le_length (by simp; omega), List.take_take, List.take_take]; congr 1; omega
  have e2 : (cur.take (k + ys.length) ++ ((cur.take n).drop k ++ cur.drop (k + ys.length + (n - k)))).drop (k + ys.length) = (cur.take n).drop k ++ cur.drop (k + ys.length + (n - k)) := by
    rw [List.drop_append_of_le_length (by simp; omega), List.drop_eq_nil_of_le (by simp; omega)]; simp
  rw [e1, e2, ← List.append_assoc, ← List.append_assoc, List.take_append_of_le_length (by simp; omega), List.take_of_length_le (by simp; omega), List.append_assoc]
end

def Inserted (B : Nat) (l : List Wr) (i : Nat) (x : Wr) (w : World) (e : Ending) (w' : World) : Prop :=
  ∃ v', e = .returned v' ∧ Own wrE Any w' B 32 v' (l.insertIdx i x) ∧ Below B w w'

theorem insertIdx_eq {α : Type} (l : List α) (i : Nat) (x : α) (h : i ≤ l.length) : l.insertIdx i x = l.take i ++ ([x] ++ l.drop i) := by
  induction l generalizing i with
  | nil => simp at h; subst h; simp
  | cons a l ih =>
    cases i with
    | zero => simp
    | succ i => simp at h; simp [ih i h]

def wcs (x : Wr) : List Value := [.int .i64 x.c, .int .i64 x.n, .int .i64 x.o, .bool x.g]
theorem reps_insert {S S' : Foot} {w w' : World} {xs : List Value} {l : List Wr} {i : Nat} {x : Wr} (h : Reps wrE S w xs l) (hi : i ≤ l.length) : Reps wrE S' w' (xs.take (i * 4) ++ (wcs x ++ xs.drop (i * 4))) (l.insertIdx i x) := by
  rw [insertIdx_eq l i x hi]
  have h' : Reps wrE S' w' xs l := ⟨h.1, fun i a hi => h.2 i a hi⟩
  exact (h'.take i).append ((Reps.single (show wrE.rd S' w' (wcs x) x from rfl)).append (h'.drop i))
end Go.Proofs.Ytkocbhcklnjomaa
