/- Words for memory, over any program: how a slice value reads as a list, what is kept when other blocks change, append onto a row of the call's own. Own text of this claim; no program in sight. -/
import Derived.WalkKit
import Derived.WalkLawsBesides
import Derived.WalkSpells
import Derived.BigQuiet
import Derived.Lib.Hide
import Derived.Maps.AppendAt
import Derived.Deep.Slices
import Derived.Deep.AppendLies
import Derived.Deep.QuietTactic
namespace Go.Proofs.YtameigjggdagpaaDoor
open Go.RowKit

theorem bgrown {B : Nat} {w w' : World} {row : Option Nat} (hg : w.grownBy w' row) (hB : B ≤ w.heap.size) (hr : ∀ k, row = some k → B ≤ k) : Below B w w' :=
  (Below.refl B w).grown hg hB hr
theorem bstep {w a b : World} (h : Below w.heap.size w a) (k : Below a.heap.size a b) : Below w.heap.size w b := h.trans (k.mono h.size)
theorem bdrewN {B : Nat} {a w : World} (h : Below B a w) (n : Nat) : Below B a (w.drewN n) := ⟨h.os, h.tape, h.output, h.size, h.block⟩
theorem bundrew {B : Nat} {a w : World} (h : Below B a.drew w) : Below B a w := ⟨h.os, h.tape, h.output, h.size, h.block⟩
theorem quiet_left {P : Program} {f : FuncId} {args : Array Value} {w : World} {n : Nat} {v : Value}
    (h : Calls P f args (w.drewN n) fun e w' => e = .returned v ∧ w.drewN n = w') : Calls P f args (w.drewN n) fun e w'' => e = .returned v ∧ ∃ m, w'' = w.drewN m :=
  h.mono fun _ _ ⟨he, hm⟩ => ⟨he, n, hm.symm⟩

theorem quiet_more {P : Program} {f : FuncId} {args : Array Value} {w : World} {a n : Nat} {v : Value}
    (h : Calls P f args (w.drewN (a + n)) fun e w' => e = .returned v ∧ w.drewN (a + n) = w') :
    Calls P f args (w.drewN (a + n)) fun e w'' => e = .returned v ∧ ∃ m, w'' = w.drewN (a + m) :=
  h.mono fun _ _ ⟨he, hm⟩ => ⟨he, n, hm.symm⟩

/-! ### Cells with a footprint -/

abbrev Foot := Nat → Nat × Nat → Prop
def Any : Foot := fun _ _ => True
def Lo (B : Nat) : Foot := fun b _ => b < B
def Hi (B : Nat) : Foot := fun b fr => B ≤ b ∧ fr = (0, 0)
/-- from B on, unfrozen, not the row r -/
def HiN (B : Nat) (r : Option Nat) : Foot := fun b fr => B ≤ b ∧ fr = (0, 0) ∧ some b ≠ r

def At (S : Foot) (w : World) (b o : Nat) (u : Value) : Prop := ∃ c t fr, w.heap[b]? = some (.cells c t fr) ∧ c[o]? = some u ∧ S b fr

theorem At.cell {S : Foot} {w : World} {b o : Nat} {u : Value} (h : At S w b o u) : w.cell? ⟨b, o, none⟩ = some u := by
  obtain ⟨c, t, fr, hb, hc, _⟩ := h
  rw [cell_of_row w b o c t fr hb]; exact hc
theorem At.lt {S : Foot} {w : World} {b o : Nat} {u : Value} (h : At S w b o u) : b < w.heap.size := by
  obtain ⟨c, t, fr, hb, _⟩ := h
  rcases Nat.lt_or_ge b w.heap.size with h | h
  · exact h
  · rw [Array.getElem?_eq_none h] at hb; cases hb
theorem At.mono {S S' : Foot} {w : World} {b o : Nat} {u : Value} (h : At S w b o u) (hs : ∀ b fr, S b fr → b < w.heap.size → S' b fr) : At S' w b o u := by
  have hl := h.lt
  obtain ⟨c, t, fr, hb, hc, hS⟩ := h
  exact ⟨c, t, fr, hb, hc, hs _ _ hS hl⟩
theorem At.keep {S : Foot} {w w' : World} {b o : Nat} {u : Value} (h : At S w b o u) (hk : ∀ b fr, S b fr → b < w.heap.size → w'.heap[b]? = w.heap[b]?) : At S w' b o u := by
  have hl := h.lt
  obtain ⟨c, t, fr, hb, hc, hS⟩ := h
  exact ⟨c, t, fr, (hk _ _ hS hl).trans hb, hc, hS⟩
theorem At.of_cell {w : World} {b o : Nat} {sp : Option _} {u : Value} (h : w.cell? ⟨b, o, sp⟩ = some u) : sp = none ∧ At Any w b o u := by
  have hs : sp = none := World.cell?_spot h
  subst hs
  refine ⟨rfl, ?_⟩
  unfold World.cell? at h
  split at h
  · rename_i c t fr hb
    exact ⟨c, t, fr, hb, by simpa using h, trivial⟩
  · cases h
theorem At.frozen {S : Foot} {w : World} {b o : Nat} {u : Value} (h : At S w b o u) (hs : ∀ b fr, S b fr → fr = (0, 0)) : w.frozen? ⟨b, o, none⟩ = false := by
  obtain ⟨c, t, fr, hb, _, hS⟩ := h
  have := hs _ _ hS
  subst this
  exact frozen_of_row w b o c t hb

/-! ### How elements read -/

structure Enc (α : Type) where
  k : Nat
  pos : 0 < k
  rd : Foot → World → List Value → α → Prop
  len : ∀ {S w cs a}, rd S w cs a → cs.length = k
  mono : ∀ {S S' : Foot} {w cs a}, rd S w cs a → (∀ b fr, S b fr → b < w.heap.size → S' b fr) → rd S' w cs a
  keep : ∀ {S : Foot} {w w' : World} {cs a}, rd S w cs a → (∀ b fr, S b fr → b < w.heap.size → w'.heap[b]? = w.heap[b]?) → rd S w' cs a
  one : ∀ {S w cs a}, rd S w cs a → ∀ u ∈ cs, u.oneCell' = true

section
variable {α : Type} (E : Enc α)

/-- The raw cells xs read as the list l, element by element. -/
def Reps (S : Foot) (w : World) (xs : List Value) (l : List α) : Prop :=
  xs.length = l.length * E.k ∧ ∀ i a, l[i]? = some a → E.rd S w ((xs.drop (i * E.k)).take E.k) a

/-- The slice value v reads as the list l. -/
def Sl (S : Foot) (w : World) (v : Value) (l : List α) : Prop :=
  ∃ A cap xs, v = .slice A l.length cap ∧ l.length ≤ cap ∧ cap ≤ maxLen ∧ (A = none → cap = 0) ∧ Reps E S w xs l ∧
    ∀ j u, xs[j]? = some u → ∃ b off, A = some ⟨b, off, none⟩ ∧ At S w b (off + j) u

/-- The slice value v owns a row, from block `base` on, whose elements read as l; what the elements lead to lies in S. -/
def Own (S : Foot) (w : World) (base : Nat) (t : TypeId) (v : Value) (l : List α) : Prop :=
  ∃ xs, w.ownsRow base t E.k v l.length xs ∧ Reps E S w xs l
end

section
variable {α : Type} {E : Enc α} {S S' : Foot} {w w' : World} {v : Value} {l m : List α} {xs ys : List Value} {base : Nat} {t : TypeId}

theorem Reps.nil : Reps E S w [] [] := ⟨by simp, by intro i a h; simp at h⟩
theorem Reps.mono (h : Reps E S w xs l) (hs : ∀ b fr, S b fr → b < w.heap.size → S' b fr) : Reps E S' w xs l := ⟨h.1, fun i a hi => E.mono (h.2 i a hi) hs⟩
theorem Reps.keep (h : Reps E S w xs l) (hk : ∀ b fr, S b fr → b < w.heap.size → w'.heap[b]? = w.heap[b]?) : Reps E S w' xs l := ⟨h.1, fun i a hi => E.keep (h.2 i a hi) hk⟩
theorem Reps.append (h : Reps E S w xs l) (h' : Reps E S w ys m) : Reps E S w (xs ++ ys) (l ++ m) := by
  refine ⟨by simp [h.1, h'.1, Nat.add_mul], fun i a hi => ?_⟩
  rcases Nat.lt_or_ge i l.length with hl | hl
  · rw [List.getElem?_append_left hl] at hi
    have h1 := h.2 i a hi
    have : (i + 1) * E.k ≤ l.length * E.k := Nat.mul_le_mul_right _ (by omega)
    rw [Nat.add_mul] at this
    have hle : i * E.k + E.k ≤ xs.length := by rw [h.1]; omega
    rw [List.drop_append_of_le_length (by omega), List.take_append_of_le_length (by rw [List.length_drop]; omega)]
    exact h1
  · rw [List.getElem?_append_right hl] at hi
    have h1 := h'.2 _ a hi
    have e : i * E.k = xs.length + (i - l.length) * E.k := by rw [h.1, ← Nat.add_mul]; congr 1; omega
    rw [e, ← List.drop_drop, List.drop_left]
    exact h1
theorem Reps.single {cs : List Value} {a : α} (h : E.rd S w cs a) : Reps E S w cs [a] := by
  have hl := E.len h
  refine ⟨by simp [hl], fun i b hi => ?_⟩
  match i, hi with
  | 0, hi => simp at hi; subst hi; simpa [← hl] using h
theorem Reps.drop (h : Reps E S w xs l) (n : Nat) : Reps E S w (xs.drop (n * E.k)) (l.drop n) := by
  refine ⟨by simp [h.1, Nat.sub_mul], fun i a hi => ?_⟩
  rw [List.getElem?_drop] at hi
  have h1 := h.2 _ a hi
  rw [List.drop_drop, ← Nat.add_mul]
  exact h1
theorem Reps.take (h : Reps E S w xs l) (n : Nat) : Reps E S w (xs.take (n * E.k)) (l.take n) := by
  refine ⟨?_, fun i a hi => ?_⟩
  · rw [List.length_take, List.length_take, h.1]
    rcases Nat.le_total n l.length with hn | hn
    · rw [Nat.min_eq_left hn, Nat.min_eq_left (Nat.mul_le_mul_right _ hn)]
    · rw [Nat.min_eq_right hn, Nat.min_eq_right (Nat.mul_le_mul_right _ hn)]
  · rw [List.getElem?_take] at hi
    split at hi
    · rename_i hin
      have h1 := h.2 i a hi
      have hle : (i + 1) * E.k ≤ n * E.k := Nat.mul_le_mul_right _ (by omega)
      rw [Nat.add_mul] at hle
      rw [List.drop_take, List.take_take, Nat.min_eq_left (by omega)]
      exact h1
    · cases hi
theorem Reps.at_ (h : Reps E S w xs l) {i : Nat} {a : α} (hi : l[i]? = some a) : ∃ cs, E.rd S w cs a ∧ cs.length = E.k ∧ ∀ j u, cs[j]? = some u → xs[i * E.k + j]? = some u := by
  refine ⟨_, h.2 i a hi, E.len (h.2 i a hi), fun j u hj => ?_⟩
  rw [List.getElem?_take] at hj
  split at hj
  · rw [List.getElem?_drop] at hj; exact hj
  · cases hj

theorem Sl.mono (h : Sl E S w v l) (hs : ∀ b fr, S b fr → b < w.heap.size → S' b fr) : Sl E S' w v l := by
  obtain ⟨A, cap, xs, rfl, hc, hm, ha, hr, hx⟩ := h
  refine ⟨A, cap, xs, rfl, hc, hm, ha, hr.mono hs, fun j u hu => ?_⟩
  obtain ⟨b, off, e, hat⟩ := hx j u hu
  exact ⟨b, off, e, hat.mono hs⟩
theorem Sl.keep (h : Sl E S w v l) (hk : ∀ b fr, S b fr → b < w.heap.size → w'.heap[b]? = w.heap[b]?) : Sl E S w' v l := by
  obtain ⟨A, cap, xs, rfl, hc, hm, ha, hr, hx⟩ := h
  refine ⟨A, cap, xs, rfl, hc, hm, ha, hr.keep hk, fun j u hu => ?_⟩
  obtain ⟨b, off, e, hat⟩ := hx j u hu
  exact ⟨b, off, e, hat.keep hk⟩
theorem Sl.drewN (h : Sl E S w v l) (n : Nat) : Sl E S (w.drewN n) v l := h.keep fun _ _ _ _ => rfl
theorem Sl.any (h : Sl E S w v l) : Sl E Any w v l := h.mono fun _ _ _ _ => trivial
theorem Sl.lo (h : Sl E S w v l) : Sl E (Lo w.heap.size) w v l := h.mono fun _ _ _ hl => hl
theorem Sl.below {B : Nat} (h : Sl E S w v l) (hb : Below B w w') (hB : w.heap.size ≤ B) : Sl E S w' v l := h.keep fun b _ _ hl => hb.block b (by omega)
theorem Sl.lob {B : Nat} (h : Sl E (Lo B) w v l) (hb : Below B w w') : Sl E (Lo B) w' v l := h.keep fun b _ hs _ => hb.block b hs
theorem Sl.shape (h : Sl E S w v l) : ∃ A cap, v = .slice A l.length cap ∧ l.length ≤ cap ∧ cap ≤ maxLen ∧ (A = none → cap = 0) := by
  obtain ⟨A, cap, xs, rfl, hc, hm, ha, _⟩ := h
  exact ⟨A, cap, rfl, hc, hm, ha⟩
theorem Sl.nil : Sl E S w (.slice none 0 0) [] := ⟨none, 0, [], rfl, by simp, Nat.zero_le _, fun _ => rfl, Reps.nil, by intro j u h; simp at h⟩
theorem Sl.cells {A : Option Addr} {n cap : Nat} (h : Sl E S w (.slice A n cap) l) :
    n = l.length ∧ n ≤ cap ∧ cap ≤ maxLen ∧ (A = none → cap = 0) ∧ ∀ i a, l[i]? = some a → ∃ b off cs, A = some ⟨b, off, none⟩ ∧ E.rd S w cs a ∧ cs.length = E.k ∧ ∀ j u, cs[j]? = some u → At S w b (off + (i * E.k + j)) u := by
  obtain ⟨A', cap', xs, e, hc, hm, ha, hr, hx⟩ := h
  injection e with e1 e2 e3
  subst e1 e2 e3
  refine ⟨rfl, hc, hm, ha, fun i a hi => ?_⟩
  obtain ⟨cs, hrd, hl, hcs⟩ := hr.at_ hi
  have hpos := E.pos
  obtain ⟨b, off, e, _⟩ := hx (i * E.k + 0) _ (hcs 0 _ (List.getElem?_eq_getElem (by omega)))
  refine ⟨b, off, cs, e, hrd, hl, fun j u hj => ?_⟩
  obtain ⟨b', off', e', hat⟩ := hx _ _ (hcs j u hj)
  rw [e] at e'
  injection e' with e'
  injection e' with e1 e2
  subst e1 e2
  exact hat

theorem Reps.one (h : Reps E S w xs l) : ∀ u ∈ xs, u.oneCell' = true := by
  have hk := E.pos
  intro u hu
  obtain ⟨j, hj, rfl⟩ := List.getElem_of_mem hu
  have hjl : j / E.k < l.length := by rw [Nat.div_lt_iff_lt_mul hk, ← h.1]; exact hj
  have h1 := h.2 _ _ (List.getElem?_eq_getElem hjl)
  refine E.one h1 _ ?_
  have hdm := Nat.div_add_mod' j E.k
  have hlt := Nat.mod_lt j hk
  rw [List.mem_iff_getElem?]
  refine ⟨j % E.k, ?_⟩
  rw [List.getElem?_take, if_pos hlt, List.getElem?_drop, hdm]
  exact List.getElem?_eq_getElem hj

theorem add_lit' (b off n : Nat) : (⟨b, off, none⟩ : Addr).add n = ⟨b, off + n, none⟩ := by unfold Addr.add; split <;> simp_all

/-- A cut `s[lo:hi]`, as the walk computes it. -/
theorem Sl.sliced {A : Option Addr} {n cap : Nat} (h : Sl E S w (.slice A n cap) l) {lo hi : Nat} (h1 : lo ≤ hi) (h2 : hi ≤ n) : Sl E S w (Go.sliced A lo hi cap E.k) ((l.take hi).drop lo) := by
  obtain ⟨A', cap', xs, e, hc, hm, ha, hr, hx⟩ := h
  injection e with e1 e2 e3
  subst e1 e2 e3
  have hlen : ((l.take hi).drop lo).length = hi - lo := by simp [Nat.min_eq_left h2]
  refine ⟨if cap = lo then A else A.map (·.add (lo * E.k)), cap - lo, (xs.take (hi * E.k)).drop (lo * E.k), by rw [hlen]; rfl, by omega, by omega, ?_, (hr.take hi).drop lo, ?_⟩
  · intro hn
    split at hn
    · omega
    · rcases A with _ | ad
      · have := ha rfl; omega
      · cases hn
  · intro j u hu
    rw [List.getElem?_drop, List.getElem?_take] at hu
    split at hu
    · rename_i hlt
      obtain ⟨b, off, e, hat⟩ := hx _ _ hu
      subst e
      have hpos := E.pos
      have hne : cap ≠ lo := by
        intro hcl
        have : hi = lo := by omega
        subst this
        omega
      rw [if_neg hne]
      refine ⟨b, off + lo * E.k, by simp [add_lit'], ?_⟩
      rw [Nat.add_assoc]
      exact hat
    · cases hu

/-- the value of a cut, with its address and room behind letters -/
theorem Sl.cutv {A : Option Addr} {n cap : Nat} (h : Sl E S w (.slice A n cap) l) {lo hi : Nat} (h1 : lo ≤ hi) (h2 : hi ≤ n) :
    ∃ A1 c1, Go.sliced A lo hi cap E.k = .slice A1 (hi - lo) c1 ∧ Sl E S w (.slice A1 (hi - lo) c1) ((l.take hi).drop lo) :=
  ⟨_, _, rfl, h.sliced h1 h2⟩

section
variable {P : Program} {e : TypeId} {i : TypeInfo}
theorem run_size_of (hinf : P.info? e = some i) (hs : i.size = E.k) (w : World) : (sizeOf e).run P w = .ok E.k w := by
  simp [sizeOf, typeInfo, hinf, hs]
theorem Sl.cut_lh (ht : P.underlying t = some (.slice e)) (hinf : P.info? e = some i) (hs : i.size = E.k) {A : Option Addr} {n cap : Nat} (h : Sl E S w (.slice A n cap) l) {lo hi : Nat} (h1 : lo ≤ hi) (h2 : hi ≤ n) {L H : Int} (hL : L = lo) (hH : H = hi) :
    ∃ A1 c1, Sl E S w (.slice A1 (hi - lo) c1) ((l.take hi).drop lo) ∧ ∀ (w' : World) (kl kh : IntKind), (Instr.sliceAt t (.slice A n cap) (some (.int kl L)) (some (.int kh H)) none).run P w' = .ok (.slice A1 (hi - lo) c1) w' := by
  obtain ⟨A1, c1, hv, hsl⟩ := h.cutv h1 h2
  obtain ⟨_, hc, _⟩ := h.cells
  have he : P.elem t = e := by simp [Program.elem, ht]
  refine ⟨A1, c1, hsl, fun w' kl kh => ?_⟩
  subst hL hH
  rw [run_sliceAt_slice w' t _ _ _ _ (by rw [he]; exact ht), run_slice_lh w' t A n cap (by rw [he]; exact ht) kl kh lo hi (by omega) (by omega) (by omega), he, run_size_of hinf hs]
  simp only [Result.andThen, Int.toNat_natCast, hv]
theorem Sl.cut_l (ht : P.underlying t = some (.slice e)) (hinf : P.info? e = some i) (hs : i.size = E.k) {A : Option Addr} {n cap : Nat} (h : Sl E S w (.slice A n cap) l) {lo : Nat} (h1 : lo ≤ n) {L : Int} (hL : L = lo) :
    ∃ A1 c1, Sl E S w (.slice A1 (n - lo) c1) (l.drop lo) ∧ ∀ (w' : World) (kl : IntKind), (Instr.sliceAt t (.slice A n cap) (some (.int kl L)) none none).run P w' = .ok (.slice A1 (n - lo) c1) w' := by
  obtain ⟨A1, c1, hv, hsl⟩ := h.cutv h1 (Nat.le_refl _)
  obtain ⟨hn, hc, _⟩ := h.cells
  have he : P.elem t = e := by simp [Program.elem, ht]
  refine ⟨A1, c1, by rw [hn, List.take_length, ← hn] at hsl; exact hsl, fun w' kl => ?_⟩
  subst hL
  rw [run_sliceAt_slice w' t _ _ _ _ (by rw [he]; exact ht), run_slice_l w' t A n cap (by rw [he]; exact ht) kl lo (by omega) (by omega), he, run_size_of hinf hs]
  simp only [Result.andThen, Int.toNat_natCast, hv]
theorem Sl.cut_h (ht : P.underlying t = some (.slice e)) (hinf : P.info? e = some i) (hs : i.size = E.k) {A : Option Addr} {n cap : Nat} (h : Sl E S w (.slice A n cap) l) {hi : Nat} (h2 : hi ≤ n) {H : Int} (hH : H = hi) :
    ∃ A1 c1, Sl E S w (.slice A1 hi c1) (l.take hi) ∧ ∀ (w' : World) (kh : IntKind), (Instr.sliceAt t (.slice A n cap) none (some (.int kh H)) none).run P w' = .ok (.slice A1 hi c1) w' := by
  obtain ⟨A1, c1, hv, hsl⟩ := h.cutv (Nat.zero_le _) h2
  obtain ⟨_, hc, _⟩ := h.cells
  have he : P.elem t = e := by simp [Program.elem, ht]
  refine ⟨A1, c1, by simpa using hsl, fun w' kh => ?_⟩
  subst hH
  rw [run_sliceAt_slice w' t _ _ _ _ (by rw [he]; exact ht), run_slice_h w' t A n cap (by rw [he]; exact ht) kh hi (by omega) (by omega), he, run_size_of hinf hs]
  simp only [Result.andThen, Int.toNat_natCast, hv, Nat.sub_zero]
end

/-! ### Rows of the call's own -/
theorem Own.len (h : Own E S w base t v l) : ∃ xs, w.ownsRow base t E.k v l.length xs ∧ Reps E S w xs l := h
theorem Own.nil : Own E S w base t (.slice none 0 0) [] := ⟨[], World.ownsRow_nil _ _ _ _, Reps.nil⟩
theorem Own.lt (h : Own E S w base t v l) : ∀ g, v.ownBlock = some g → base ≤ g ∧ g < w.heap.size := by
  obtain ⟨xs, ho, _⟩ := h
  exact ho.lt
theorem Own.mono (h : Own E S w base t v l) (hs : ∀ b fr, S b fr → b < w.heap.size → S' b fr) : Own E S' w base t v l := by
  obtain ⟨xs, ho, hr⟩ := h
  exact ⟨xs, ho, hr.mono hs⟩
/-- kept where the row's block, and all that its elements lead to, is as it was. -/
theorem Own.keep (h : Own E S w base t v l) (hg : ∀ g, v.ownBlock = some g → w'.heap[g]? = w.heap[g]?) (hk : ∀ b fr, S b fr → b < w.heap.size → w'.heap[b]? = w.heap[b]?) : Own E S w' base t v l := by
  obtain ⟨xs, ho, hr⟩ := h
  refine ⟨xs, ⟨ho.1, ?_⟩, hr.keep hk⟩
  rcases ho.2 with h0 | ⟨g, cap, cur, rfl, hb, hh, rest⟩
  · exact .inl h0
  · exact .inr ⟨g, cap, cur, rfl, hb, by rw [hg g rfl]; exact hh, rest⟩
theorem Own.below {B : Nat} (h : Own E S w base t v l) (hb : Below B w w') (hB : w.heap.size ≤ B) : Own E S w' base t v l :=
  h.keep (fun g hg => hb.block g (by have := h.lt g hg; omega)) (fun b _ _ hl => hb.block b (by omega))
theorem Own.base_mono {base' : Nat} (h : Own E S w base t v l) (hb : base' ≤ base) : Own E S w base' t v l := by
  obtain ⟨xs, ho, hr⟩ := h
  refine ⟨xs, ⟨ho.1, ?_⟩, hr⟩
  rcases ho.2 with h0 | ⟨g, cap, cur, rfl, hbb, hh, rest⟩
  · exact .inl h0
  · exact .inr ⟨g, cap, cur, rfl, by omega, hh, rest⟩

theorem Own.sl (h : Own E S w base t v l) (hs : ∀ b fr, S b fr → b < w.heap.size → S' b fr) (hg : ∀ g, v.ownBlock = some g → base ≤ g → g < w.heap.size → S' g (0, 0)) : Sl E S' w v l := by
  have hlt := h.lt
  obtain ⟨xs, ho, hr⟩ := h
  rcases ho.2 with ⟨rfl, hn⟩ | ⟨g, cap, cur, rfl, hb, hh, hnc, hcm, hcs, htake⟩
  · have : l = [] := List.eq_nil_of_length_eq_zero hn
    subst this
    exact Sl.nil
  · have hgl := (hlt g rfl).2
    refine ⟨some ⟨g, 0, none⟩, cap, xs, rfl, hnc, hcm, by simp, hr.mono hs, fun j u hu => ⟨g, 0, rfl, cur, t, (0, 0), hh, ?_, hg g rfl hb hgl⟩⟩
    rw [← htake, List.getElem?_take] at hu
    split at hu
    · rw [Nat.zero_add]; simpa using hu
    · cases hu
theorem Own.slAny (h : Own E S w base t v l) : Sl E Any w v l := h.sl (fun _ _ _ _ => trivial) (fun _ _ _ _ => trivial)
theorem Own.slHi (h : Own E (HiN base v.ownBlock) w base t v l) : Sl E (Hi base) w v l := h.sl (fun _ _ h _ => ⟨h.1, h.2.1⟩) (fun _ _ h _ => ⟨h, rfl⟩)
theorem Own.slLoHi {B : Nat} (h : Own E S w base t v l) (hs : ∀ b fr, S b fr → b < w.heap.size → B ≤ b) (hb : B ≤ base) : Sl E (fun b _ => B ≤ b ∧ b < w.heap.size) w v l :=
  h.sl (fun b fr h hl => ⟨hs b fr h hl, hl⟩) (fun g _ h hl => ⟨by omega, hl⟩)

end

/-! ### append onto a row of the call's own, whatever the source -/
section
variable {P : Program} (w : World)

theorem run_append_nothing (base : Nat) (t ty e : TypeId) (i : TypeInfo) (size : Nat) (ht : P.underlying t = some (.slice e)) (hi : P.info? e = some i)
    (v : Value) (n : Nat) (xs : List Value) (hown : w.ownsRow base e size v n xs) (A : Option Addr) (c : Nat) : (Builtin.append_ #[t, t] ty #[v, .slice A 0 c]).run P w = .ok v w := by
  rcases A with _ | ad
  · rcases hown.2 with ⟨rfl, rfl⟩ | ⟨g, cap, cur, rfl, _, _, hnc, _⟩
    · simp [Builtin.append_, run_underlying ht, sizeOf, typeInfo, hi, Builtin.lenOf, Builtin.firstCells]
    · simp [Builtin.append_, run_underlying ht, sizeOf, typeInfo, hi, Builtin.lenOf, Builtin.firstCells, hnc, storeCells]
  · rcases hown.2 with ⟨rfl, rfl⟩ | ⟨g, cap, cur, rfl, _, _, hnc, _⟩
    · simp [Builtin.append_, run_underlying ht, sizeOf, typeInfo, hi, Builtin.lenOf, Builtin.firstCells, loadCells, loadCellsFrom]
    · simp [Builtin.append_, run_underlying ht, sizeOf, typeInfo, hi, Builtin.lenOf, Builtin.firstCells, hnc, storeCells, loadCells, loadCellsFrom]

/-- what an append leaves: the new list is owned, in the old row or the next block. -/
theorem run_append_sl {α : Type} {E : Enc α} {S : Foot} {base : Nat} {t ty e : TypeId} {i : TypeInfo} {z : Value} {bytes : Nat} (ht : P.underlying t = some (.slice e)) (hi : P.info? e = some i) (hz : i.zero = some z)
    (hsize : i.size = E.k) (hby : i.bytes = bytes) (hzs : z.cells.size = E.k)
    {v x : Value} {l m : List α} {xs : List Value} (hown : w.ownsRow base e E.k v l.length xs) (hx : Sl E S w x m)
    (h63 : l.length + m.length ≤ maxLen) (hbytes : (l.length + m.length) * bytes ≤ 140737488355328) (hbase : base ≤ w.heap.size) :
    ∃ v' w' ys, (Builtin.append_ #[t, t] ty #[v, x]).run P w = .ok v' w' ∧ w'.ownsRow base e E.k v' (l ++ m).length (xs ++ ys) ∧ Reps E S w ys m ∧ w.grownBy w' v.ownBlock ∧
      (v'.ownBlock = v.ownBlock ∨ v'.ownBlock = some w.heap.size) := by
  obtain ⟨A, cap, ys, rfl, _, _, ha, hr, hc⟩ := hx
  have hpos := E.pos
  by_cases hm : m.length = 0
  · have hm' : m = [] := List.eq_nil_of_length_eq_zero hm
    subst hm'
    have hys : ys = [] := List.eq_nil_of_length_eq_zero (by rw [hr.1]; simp)
    subst hys
    exact ⟨v, w, [], run_append_nothing w base t ty e i E.k ht hi v _ xs hown A cap, by simpa using hown, hr, World.grownBy.refl w _, .inl rfl⟩
  · have hy0 : 0 < ys.length := by rw [hr.1]; exact Nat.mul_pos (by omega) hpos
    obtain ⟨b, off, rfl, _⟩ := hc 0 _ (List.getElem?_eq_getElem hy0)
    have hcells : ∀ j u, ys[j]? = some u → w.cell? ((⟨b, off, none⟩ : Addr).add j) = some u := by
      intro j u hu
      obtain ⟨b', off', e', hat⟩ := hc j u hu
      injection e' with e'
      injection e' with e1 e2
      subst e1 e2
      rw [add_lit']
      exact hat.cell
    obtain ⟨v', w', hrun, h2, h3, _, h5⟩ := run_append_own_at (P := P) w base t ty e i z E.k bytes ht hi hz hsize hby hzs hpos v l.length xs hown ⟨b, off, none⟩ m.length cap ys hr.1 hcells (fun u hu => hr.one u hu) h63 hbytes hbase
    exact ⟨v', w', ys, hrun, by simpa using h2, hr, h3, h5⟩

theorem wp_append_sl {o : Oper} {a : Act} {K : Act → World → Prop} {Q : Exit → Act → World → Prop} (s y : Operand) (t : TypeId)
    (ho : o.op = .call { callee := .builtin .append, args := #[s, y], argTypes := #[t, t] })
    {α : Type} {E : Enc α} {S : Foot} {base : Nat} {e : TypeId} {i : TypeInfo} {z : Value} {bytes : Nat} (ht : P.underlying t = some (.slice e)) (hi : P.info? e = some i) (hz : i.zero = some z)
    (hsize : i.size = E.k) (hby : i.bytes = bytes) (hzs : z.cells.size = E.k)
    {v x : Value} {l m : List α} {xs : List Value} (hown : w.ownsRow base e E.k v l.length xs) (hx : Sl E S w x m) (hs : a.eval s = v) (hxv : a.eval y = x)
    (h63 : l.length + m.length ≤ maxLen) (hbytes : (l.length + m.length) * bytes ≤ 140737488355328) (hbase : base ≤ w.heap.size)
    (h : ∀ v' w' ys, w'.ownsRow base e E.k v' (l ++ m).length (xs ++ ys) → Reps E S w ys m → w.grownBy w' v.ownBlock → (v'.ownBlock = v.ownBlock ∨ v'.ownBlock = some w.heap.size) → K (a.put o.dst v') w') : o.wp P a w K Q := by
  obtain ⟨v', w', ys, hrun, h2, h3, h4, h5⟩ := run_append_sl (P := P) w (ty := o.type) ht hi hz hsize hby hzs hown hx h63 hbytes hbase
  unfold Oper.wp execOp
  simp only [ho, resolve, invoke, builtin, Sem.run_bind, Sem.run_pure, Result.andThen_ok, List.map_toArray, List.map_cons, List.map_nil, hs, hxv, hrun]
  exact h v' w' ys h2 h3 h4 h5

theorem wpList_append_sl {ops : Array Oper} {rest : List Oper} {o : Oper} {a : Act} {Q : Exit → Act → World → Prop} (hgd : o.guard = none) (s y : Operand) (t : TypeId)
    (ho : o.op = .call { callee := .builtin .append, args := #[s, y], argTypes := #[t, t] })
    {α : Type} {E : Enc α} {S : Foot} {base : Nat} {e : TypeId} {i : TypeInfo} {z : Value} {bytes : Nat} (ht : P.underlying t = some (.slice e)) (hi : P.info? e = some i) (hz : i.zero = some z)
    (hsize : i.size = E.k) (hby : i.bytes = bytes) (hzs : z.cells.size = E.k)
    {v x : Value} {l m : List α} {xs : List Value} (hown : w.ownsRow base e E.k v l.length xs) (hx : Sl E S w x m) (hs : a.eval s = v) (hxv : a.eval y = x)
    (h63 : l.length + m.length ≤ maxLen) (hbytes : (l.length + m.length) * bytes ≤ 140737488355328) (hbase : base ≤ w.heap.size)
    (h : ∀ v' w' ys, w'.ownsRow base e E.k v' (l ++ m).length (xs ++ ys) → Reps E S w ys m → w.grownBy w' v.ownBlock → (v'.ownBlock = v.ownBlock ∨ v'.ownBlock = some w.heap.size) → wpList P ops Q rest (a.put o.dst v') w') : wpList P ops Q (o :: rest) a w :=
  wpList_plain hgd fun _ hK => wp_append_sl w s y t ho ht hi hz hsize hby hzs hown hx hs hxv h63 hbytes hbase fun v' w' ys h2 h3 h4 h5 => hK _ _ (h v' w' ys h2 h3 h4 h5)

end

/-! ### Elements that are slices; append of one element -/

/-- an element that is itself a slice -/
def slE {α : Type} (E : Enc α) : Enc (List α) where
  k := 1
  pos := by omega
  rd := fun S w cs l => ∃ v, cs = [v] ∧ Sl E S w v l
  len := fun ⟨_, h, _⟩ => by rw [h]; rfl
  mono := fun ⟨v, h, hs⟩ hm => ⟨v, h, hs.mono hm⟩
  keep := fun ⟨v, h, hs⟩ hk => ⟨v, h, hs.keep hk⟩
  one := fun ⟨v, h, hs⟩ u hu => by
    subst h
    obtain ⟨A, cap, rfl, _⟩ := hs.shape
    simp at hu
    subst hu
    rfl

section
variable {α : Type} {E : Enc α} {w w' : World} {v v' : Value} {l m : List α} {xs ys : List Value} {base : Nat} {e : TypeId}

/-- the i-th element of a slice of slices -/
theorem Sl.elem {S : Foot} {A : Option Addr} {n cap : Nat} {l : List (List α)} (h : Sl (slE E) S w (.slice A n cap) l) {i : Nat} (hi : i < l.length) :
    ∃ b off u, A = some ⟨b, off, none⟩ ∧ At S w b (off + i) u ∧ Sl E S w u l[i] := by
  obtain ⟨_, _, _, _, hc⟩ := h.cells
  obtain ⟨b, off, cs, e, ⟨u, hu, hs⟩, _, hat⟩ := hc i _ (List.getElem?_eq_getElem hi)
  subst hu
  have := hat 0 _ rfl
  exact ⟨b, off, u, e, by simpa [slE] using this, hs⟩

/-- Behind an append: what both halves lead to lies apart from the row. -/
theorem Own.appended (hr : Reps E (HiN base v.ownBlock) w xs l) (hr' : Reps E (HiN base v.ownBlock) w ys m) (ho : w'.ownsRow base e E.k v' (l ++ m).length (xs ++ ys))
    (hg : w.grownBy w' v.ownBlock) (hb : v'.ownBlock = v.ownBlock ∨ v'.ownBlock = some w.heap.size) : Own E (HiN base v'.ownBlock) w' base e v' (l ++ m) := by
  refine ⟨_, ho, Reps.append ?_ ?_⟩
  · refine (hr.mono (S' := fun b fr => HiN base v.ownBlock b fr ∧ b < w.heap.size) fun b fr h hl => ⟨h, hl⟩).keep (fun b fr h hl => hg.block b hl h.1.2.2) |>.mono fun b fr h _ => ⟨h.1.1, h.1.2.1, ?_⟩
    rcases hb with hb | hb
    · rw [hb]; exact h.1.2.2
    · rw [hb]; intro hc; injection hc with hc; have := h.2; omega
  · refine (hr'.mono (S' := fun b fr => HiN base v.ownBlock b fr ∧ b < w.heap.size) fun b fr h hl => ⟨h, hl⟩).keep (fun b fr h hl => hg.block b hl h.1.2.2) |>.mono fun b fr h _ => ⟨h.1.1, h.1.2.1, ?_⟩
    rcases hb with hb | hb
    · rw [hb]; exact h.1.2.2
    · rw [hb]; intro hc; injection hc with hc; have := h.2; omega

theorem run_append_one {P : Program} {t ty : TypeId} {i : TypeInfo} {z : Value} {bytes : Nat} (ht : P.underlying t = some (.slice e)) (hi : P.info? e = some i) (hz : i.zero = some z)
    (hsize : i.size = E.k) (hby : i.bytes = bytes) (hzs : z.cells.size = E.k)
    {a : α} {cs : List Value} {g c : Nat} (hown : Own E (HiN base v.ownBlock) w base e v l) (hrd : E.rd (HiN base v.ownBlock) w cs a) (hcs : ∀ j u, cs[j]? = some u → w.cell? ⟨g, j, none⟩ = some u)
    (h63 : l.length + 1 ≤ maxLen) (hbytes : (l.length + 1) * bytes ≤ 140737488355328) (hbase : base ≤ w.heap.size) :
    ∃ v' w', (Builtin.append_ #[t, t] ty #[v, .slice (some ⟨g, 0, none⟩) 1 c]).run P w = .ok v' w' ∧ Own E (HiN base v'.ownBlock) w' base e v' (l ++ [a]) ∧ w.grownBy w' v.ownBlock ∧
      (v'.ownBlock = v.ownBlock ∨ v'.ownBlock = some w.heap.size) := by
  obtain ⟨xs, ho, hr⟩ := hown
  have hone := (Reps.single hrd).one
  obtain ⟨v', w', hrun, h2, h3, _, h5⟩ := run_append_own_at (P := P) w base t ty e i z E.k bytes ht hi hz hsize hby hzs E.pos v l.length xs ho ⟨g, 0, none⟩ 1 c cs (by rw [E.len hrd]; omega)
    (fun j u hu => by rw [add_lit', Nat.zero_add]; exact hcs j u hu) (fun u hu => hone u hu) h63 hbytes hbase
  exact ⟨v', w', hrun, Own.appended hr (Reps.single hrd) (by simpa using h2) h3 h5, h3, h5⟩

theorem wpList_append_one {P : Program} (w : World) {ops : Array Oper} {rest : List Oper} {o : Oper} {ac : Act} {Q : Exit → Act → World → Prop} (hgd : o.guard = none) (s y : Operand) (t : TypeId)
    (ho : o.op = .call { callee := .builtin .append, args := #[s, y], argTypes := #[t, t] })
    {i : TypeInfo} {z : Value} {bytes : Nat} (ht : P.underlying t = some (.slice e)) (hi : P.info? e = some i) (hz : i.zero = some z)
    (hsize : i.size = E.k) (hby : i.bytes = bytes) (hzs : z.cells.size = E.k)
    {a : α} {cs : List Value} {g c : Nat} (hown : Own E (HiN base v.ownBlock) w base e v l) (hrd : E.rd (HiN base v.ownBlock) w cs a) (hcs : ∀ j u, cs[j]? = some u → w.cell? ⟨g, j, none⟩ = some u)
    (hs : ac.eval s = v) (hy : ac.eval y = .slice (some ⟨g, 0, none⟩) 1 c)
    (h63 : l.length + 1 ≤ maxLen) (hbytes : (l.length + 1) * bytes ≤ 140737488355328) (hbase : base ≤ w.heap.size)
    (h : ∀ v' w', Own E (HiN base v'.ownBlock) w' base e v' (l ++ [a]) → Below base w w' → (v'.ownBlock = v.ownBlock ∨ v'.ownBlock = some w.heap.size) → w.grownBy w' v.ownBlock → wpList P ops Q rest (ac.put o.dst v') w') : wpList P ops Q (o :: rest) ac w := by
  refine wpList_plain hgd fun K hK => ?_
  have hlt := hown.lt
  obtain ⟨v', w', hrun, h2, h3, h4⟩ := run_append_one (P := P) (ty := o.type) (c := c) ht hi hz hsize hby hzs hown hrd hcs h63 hbytes hbase
  unfold Oper.wp execOp
  simp only [ho, resolve, invoke, builtin, Sem.run_bind, Sem.run_pure, Result.andThen_ok, List.map_toArray, List.map_cons, List.map_nil, hs, hy, hrun]
  exact hK _ _ (h v' w' h2 (bgrown h3 hbase (fun k hk => (hlt k hk).1)) h4 h3)
/-- the cells of a new block, as buildSlice lays them -/
theorem new_cells (w : World) (cs : List Value) (t : TypeId) : ∀ j u, cs[j]? = some u → (w.alloc (.cells cs.toArray t)).cell? ⟨w.heap.size, j, none⟩ = some u := by
  intro j u hu
  rw [cell_of_row _ _ j cs.toArray t (0, 0) (heap_alloc_new w _)]
  simpa using hu
theorem Own.alloc {S : Foot} (h : Own E S w base e v l) (o : Obj) : Own E S (w.alloc o) base e v l :=
  h.below (B := w.heap.size) ((Below.refl _ _).alloc (Nat.le_refl _) _) (Nat.le_refl _)
end

/-- two rows of different element types lie apart -/
theorem own_ne {α β : Type} {E : Enc α} {E' : Enc β} {S S' : Foot} {w : World} {b1 b2 : Nat} {t1 t2 : TypeId} {v1 v2 : Value} {l1 : List α} {l2 : List β}
    (h1 : Own E S w b1 t1 v1 l1) (h2 : Own E' S' w b2 t2 v2 l2) (hne : t1 ≠ t2) : ∀ g, v1.ownBlock = some g → v2.ownBlock ≠ some g := by
  intro g hg hg2
  obtain ⟨xs, o1, _⟩ := h1
  obtain ⟨ys, o2, _⟩ := h2
  rcases o1.2 with ⟨rfl, _⟩ | ⟨g1, cap1, cur1, rfl, _, hh1, _⟩
  · simp [Value.ownBlock] at hg
  · rcases o2.2 with ⟨rfl, _⟩ | ⟨g2, cap2, cur2, rfl, _, hh2, _⟩
    · simp [Value.ownBlock] at hg2
    · simp only [Value.ownBlock, Option.some.injEq] at hg hg2
      subst hg hg2
      rw [hh1] at hh2
      injection hh2 with hh2
      injection hh2 with _ ht
      exact hne ht
/-- kept while another row grows -/
theorem Own.grown {α : Type} {E : Enc α} {S : Foot} {w w' : World} {base : Nat} {t : TypeId} {v : Value} {l : List α} {row : Option Nat} (h : Own E S w base t v l) (hg : w.grownBy w' row)
    (hv : ∀ g, v.ownBlock = some g → row ≠ some g) (hS : ∀ b fr, S b fr → b < w.heap.size → row ≠ some b) : Own E S w' base t v l := by
  have hlt := h.lt
  exact h.keep (fun g hg' => hg.block g (hlt g hg').2 (fun e => hv g hg' e.symm)) (fun b fr hs hl => hg.block b hl (fun e => hS b fr hs hl e.symm))

/-- a block of one's own, seen behind a call -/
theorem box_cell {w w1 : World} {cs : List Value} {t : TypeId} {B : Nat} (hb : Below B (w.alloc (.cells cs.toArray t)) w1) (hB : w.heap.size < B) : ∀ j u, cs[j]? = some u → w1.cell? ⟨w.heap.size, j, none⟩ = some u :=
  fun j u hu => (hb.cell (p := ⟨w.heap.size, j, none⟩) hB).trans (new_cells w cs t j u hu)
theorem box_free {w w1 : World} {cs : List Value} {t : TypeId} {B : Nat} (hb : Below B (w.alloc (.cells cs.toArray t)) w1) (hB : w.heap.size < B) (j : Nat) : w1.frozen? ⟨w.heap.size, j, none⟩ = false := by
  rw [hb.frozen (p := ⟨w.heap.size, j, none⟩) hB]
  exact frozen_of_row _ _ _ _ _ (heap_alloc_new w _)
/-- kept behind a store elsewhere -/
theorem Own.far {α : Type} {E : Enc α} {S : Foot} {w : World} {base : Nat} {t : TypeId} {v : Value} {l : List α} {p : Addr} {u : Value} (h : Own E S w base t v l)
    (hv : p.block < base) (hS : ∀ b fr, S b fr → b < w.heap.size → b ≠ p.block) : Own E S (w.setCell p u) base t v l := by
  have hlt := h.lt
  exact h.keep (fun g hg => heap_setCell_other w p g u (by have := (hlt g hg).1; omega)) (fun b fr hs hl => heap_setCell_other w p b u (hS b fr hs hl))
end Go.Proofs.YtameigjggdagpaaDoor
