/- Words that go backwards through a world's own spelling: what is kept behind a draw, a new block, a store, a call. -/
import Derived.Test.YtkocbhcklnjomaaFlat
namespace Go.Proofs.Ytkocbhcklnjomaa
open Go.RowKit

theorem ret_bool {a b : Bool} (h : a = b) : Ending.returned (.bool a) = Ending.returned (.bool b) := by rw [h]
theorem ret_int {k : IntKind} {a b : Int} (h : a = b) : Ending.returned (.int k a) = Ending.returned (.int k b) := by rw [h]

theorem bdraw {B : Nat} {a w : World} (h : Below B a w) : Below B a w.drew := ⟨h.os, h.tape, h.output, h.size, h.block⟩
theorem balloc {a w : World} (h : Below a.heap.size a w) (o : Obj) : Below a.heap.size a (w.alloc o) := h.alloc h.size o
theorem bset {B : Nat} {a w : World} {p : Addr} {u : Value} (h : Below B a w) (hp : B ≤ p.block) : Below B a (w.setCell p u) := h.setCell hp u
theorem bcell {W w1 : World} (hb : Below W.heap.size W w1) : (∀ b o, b < W.heap.size → w1.cell? ⟨b, o, none⟩ = W.cell? ⟨b, o, none⟩) ∧ (∀ b o, b < W.heap.size → w1.frozen? ⟨b, o, none⟩ = W.frozen? ⟨b, o, none⟩) :=
  ⟨fun b o h => hb.cell (p := ⟨b, o, none⟩) h, fun b o h => hb.frozen (p := ⟨b, o, none⟩) h⟩

section
variable {α : Type} {E : Enc α} {S S' : Foot} {w w' : World} {v : Value} {l : List α} {base : Nat} {t : TypeId}
theorem obel (h : Own E S w base t v l) (k : Below w.heap.size w w') : Own E S w' base t v l := h.below k (Nat.le_refl _)
theorem odraw (h : Own E S w base t v l) : Own E S w.drew base t v l := obel h (bdraw (Below.refl _ _))
theorem oalloc (h : Own E S w base t v l) (o : Obj) : Own E S (w.alloc o) base t v l := h.alloc o
theorem oset {l : List UInt8} {p : Addr} {u : Value} (h : Own u8E Any w base t v l) (hp : ∀ g, v.ownBlock = some g → g ≠ p.block) : Own u8E Any (w.setCell p u) base t v l :=
  ((h.u8 (S' := fun _ _ => False)).keep (fun g hg => heap_setCell_other w p g u (hp g hg)) (fun _ _ h _ => h.elim)).u8
theorem Own.low {α : Type} {E : Enc α} {w : World} {v : Value} {l : List α} {t : TypeId} {b0 b1 : Nat} (h : Own E (HiN b1 v.ownBlock) w b1 t v l) (hb : b0 ≤ b1) : Own E (HiN b0 v.ownBlock) w b0 t v l :=
  (h.mono fun _ _ hs _ => ⟨Nat.le_trans hb hs.1, hs.2⟩).base_mono hb
theorem sbel (h : Sl E S w v l) (k : Below w.heap.size w w') : Sl E S w' v l := h.below k (Nat.le_refl _)
theorem sdraw (h : Sl E S w v l) : Sl E S w.drew v l := sbel h (bdraw (Below.refl _ _))
theorem salloc (h : Sl E S w v l) (o : Obj) : Sl E S (w.alloc o) v l := sbel h ((Below.refl _ _).alloc (Nat.le_refl _) o)
theorem Sl.max {A : Option Addr} {n cap : Nat} (h : Sl E S w (.slice A n cap) l) : l.length ≤ 9223372036854775807 := by
  obtain ⟨_, _, e, h1, h2, _⟩ := h.shape
  injection e with _ _ e
  subst e
  unfold maxLen at h2
  omega
end
theorem btrans {B : Nat} {a x y : World} (h : Below B a x) (k : Below B x y) : Below B a y := h.trans k
theorem bsz {B : Nat} {a w : World} (h : Below B a w) (e : a.heap.size = B) : Below a.heap.size a w := e ▸ h
/-- a cell behind whatever left the old blocks as they were -/
theorem atb {S : Foot} {w w' : World} {b o : Nat} {u : Value} (h : At S w b o u) (k : Below w.heap.size w w') : w'.cell? ⟨b, o, none⟩ = some u := (h.keep fun b _ _ hl => k.block b hl).cell
theorem atk {S : Foot} {w w' : World} {b o : Nat} {u : Value} (h : At S w b o u) (k : Below w.heap.size w w') : At S w' b o u := h.keep fun b _ _ hl => k.block b hl
/-- a cell beside a row that grew -/
theorem atg {S : Foot} {w w' : World} {b o : Nat} {u : Value} {r : Option Nat} (h : At S w b o u) (hg : w.grownBy w' r) (hr : ∀ g, r = some g → g ≠ b) : w'.cell? ⟨b, o, none⟩ = some u := by
  obtain ⟨c, t, fr, hb, hc, hS⟩ := h
  have hl : b < w.heap.size := At.lt (S := S) ⟨c, t, fr, hb, hc, hS⟩
  exact At.cell (S := S) ⟨c, t, fr, (hg.block b hl (fun e => hr b e.symm rfl)).trans hb, hc, hS⟩
theorem sgrown {α : Type} {E : Enc α} {w w' : World} {B : Nat} {v : Value} {l : List α} {r : Option Nat} (h : Sl E (Hi B) w v l) (hg : w.grownBy w' r) (hr : ∀ g, r = some g → g < B) : Sl E (Hi B) w' v l :=
  h.keep fun b _ hs hl => hg.block b hl fun e => by have := hr b e.symm; have := hs.1; omega
theorem sfar {α : Type} {E : Enc α} {w : World} {B : Nat} {v : Value} {l : List α} {p : Addr} {u : Value} (h : Sl E (Hi B) w v l) (hp : p.block < B) : Sl E (Hi B) (w.setCell p u) v l :=
  h.keep fun b _ hs _ => heap_setCell_other w p b u (by have := hs.1; omega)
theorem some_blk {g g' : Nat} (h : (some g : Option Nat) = some g') : g' = g := (Option.some.inj h).symm
/-- a row of bytes beside a row that grew -/
theorem ogrown8 {w w' : World} {B : Nat} {t : TypeId} {v : Value} {l : List UInt8} {r : Option Nat} (h : Own u8E Any w B t v l) (hg : w.grownBy w' r) (hr : ∀ g, r = some g → g < B) : Own u8E Any w' B t v l :=
  ((h.u8 (S' := fun _ _ => False)).grown hg (fun g hv e => by have := (h.lt g hv).1; have := hr g e; omega) (fun _ _ h _ => h.elim)).u8
/-- a row behind a store ahead of it -/
theorem ofarN {α : Type} {E : Enc α} {w : World} {B : Nat} {r : Option Nat} {t : TypeId} {v : Value} {l : List α} {p : Addr} {u : Value} (h : Own E (HiN B r) w B t v l) (hp : p.block < B) : Own E (HiN B r) (w.setCell p u) B t v l :=
  h.far hp fun b _ hs _ => by have := hs.1; omega
/-- a block known whole, behind whatever left the old blocks as they were; beside a row that grew -/
theorem blkb {w w' : World} {b : Nat} {o : Obj} (q : w.heap[b]? = some o) (k : Below w.heap.size w w') : w'.heap[b]? = some o := (k.block b (Array.getElem?_eq_some_iff.1 q).1).trans q
theorem blkg {w w' : World} {b : Nat} {o : Obj} {r : Option Nat} (q : w.heap[b]? = some o) (hg : w.grownBy w' r) (hr : ∀ g, r = some g → g ≠ b) : w'.heap[b]? = some o :=
  (hg.block b (Array.getElem?_eq_some_iff.1 q).1 (fun e => hr b e.symm rfl)).trans q
theorem at_new {w : World} {cs : Array Value} {t : TypeId} {i : Nat} {v : Value} (h : cs[i]? = some v) : At Any (w.alloc (.cells cs t)) w.heap.size i v := ⟨cs, t, (0, 0), heap_alloc_new w _, h, trivial⟩
/-- a new row of bytes beside another row -/
theorem Own.beside {S : Foot} {w : World} {B b1 : Nat} {t : TypeId} {v : Value} {l : List UInt8} {r : Option Nat} (h : Own u8E S w b1 t v l) (hb : B ≤ b1) (hr : ∀ g, r = some g → g < b1) : Sl u8E (HiN B r) w v l :=
  h.byteSl fun g h1 _ => ⟨by omega, rfl, fun e => by have := hr g e.symm; omega⟩
/-- append of one element at a step of a region that draws its order -/
theorem step_append_one {α : Type} {E : Enc α} {P : Program} (w : World) {ops : Array Oper} {o : Oper} {ac : Act} {K : Act → World → Prop} {Q : Exit → Act → World → Prop} {X : Prop} (hgd : o.guard = none) (s y : Operand) (t : TypeId)
    (ho : o.op = .call { callee := .builtin .append, args := #[s, y], argTypes := #[t, t] })
    {e : TypeId} {base : Nat} {v : Value} {l : List α} {i : TypeInfo} {z : Value} {bytes : Nat} (ht : P.underlying t = some (.slice e)) (hi : P.info? e = some i) (hz : i.zero = some z)
    (hsize : i.size = E.k) (hby : i.bytes = bytes) (hzs : z.cells.size = E.k)
    {a : α} {cs : List Value} {g c : Nat} (hown : Own E (HiN base v.ownBlock) w base e v l) (hrd : E.rd (HiN base v.ownBlock) w cs a) (hcs : ∀ j u, cs[j]? = some u → w.cell? ⟨g, j, none⟩ = some u)
    (hs : ac.eval s = v) (hy : ac.eval y = .slice (some ⟨g, 0, none⟩) 1 c)
    (h63 : l.length + 1 ≤ maxLen) (hbytes : (l.length + 1) * bytes ≤ 140737488355328) (hbase : base ≤ w.heap.size)
    (h : ∀ v' w', Own E (HiN base v'.ownBlock) w' base e v' (l ++ [a]) → Below base w w' → (v'.ownBlock = v.ownBlock ∨ v'.ownBlock = some w.heap.size) → w.grownBy w' v.ownBlock → K (ac.put o.dst v') w') : if Region.wanted o (yielded ops ac.tmps) = true then Oper.wp P o ac w K Q else X := by
  have hw : Region.wanted o (yielded ops ac.tmps) = true := by simp [Region.wanted, hgd]
  rw [if_pos hw]
  have hlt := hown.lt
  obtain ⟨v', w', hrun, h2, h3, h4⟩ := run_append_one (P := P) (ty := o.type) (c := c) ht hi hz hsize hby hzs hown hrd hcs h63 hbytes hbase
  unfold Oper.wp execOp
  simp only [ho, resolve, invoke, builtin, Sem.run_bind, Sem.run_pure, Result.andThen_ok, List.map_toArray, List.map_cons, List.map_nil, hs, hy, hrun]
  exact h v' w' h2 (bgrown h3 hbase (fun k hk => (hlt k hk).1)) h4 h3

end Go.Proofs.Ytkocbhcklnjomaa
