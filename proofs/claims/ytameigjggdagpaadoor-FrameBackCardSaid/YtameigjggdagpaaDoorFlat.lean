/- Flat elements and bytes: how a slice of them reads, its conversion to a string. -/
import Derived.Test.YtameigjggdagpaaDoorProg
import Derived.Test.YtameigjggdagpaaDoorLib
namespace Go.Proofs.YtameigjggdagpaaDoor
open Go.RowKit

/-- an element of k cells that lead nowhere -/
def flatE {α : Type} (k : Nat) (pos : 0 < k) (f : α → List Value) (hl : ∀ a, (f a).length = k) (h1 : ∀ a, ∀ u ∈ f a, u.oneCell' = true) : Enc α where
  k := k
  pos := pos
  rd := fun _ _ cs a => cs = f a
  len := fun h => by rw [h]; exact hl _
  mono := fun h _ => h
  keep := fun h _ => h
  one := fun h => by rw [h]; exact h1 _

/-- an integer -/
def intE (k : IntKind) : Enc Int := flatE 1 (by omega) (fun x => [.int k x]) (by simp) (by simp [Value.oneCell'])
theorem Sl.intAt {k : IntKind} {S : Foot} {w : World} {A : Option Addr} {n cap : Nat} {l : List Int} (h : Sl (intE k) S w (.slice A n cap) l) {i : Nat} (hi : i < l.length) :
    ∃ b off, A = some ⟨b, off, none⟩ ∧ At S w b (off + i) (.int k l[i]) := by
  obtain ⟨_, _, _, _, hc⟩ := h.cells
  obtain ⟨b, off, cs, e, hrd, _, hat⟩ := hc i _ (List.getElem?_eq_getElem hi)
  have hrd' : cs = [.int k l[i]] := hrd
  subst hrd'
  have := hat 0 _ rfl
  refine ⟨b, off, e, ?_⟩
  simpa [intE, flatE] using this
/-- what leads nowhere: any footprint serves -/
theorem Own.flat {α : Type} {k : Nat} {pos : 0 < k} {f : α → List Value} {hl : ∀ a, (f a).length = k} {h1 : ∀ a, ∀ u ∈ f a, u.oneCell' = true} {S S' : Foot} {w : World} {base : Nat} {t : TypeId} {v : Value} {l : List α}
    (h : Own (flatE k pos f hl h1) S w base t v l) : Own (flatE k pos f hl h1) S' w base t v l := by
  obtain ⟨xs, ho, hr⟩ := h
  exact ⟨xs, ho, hr.1, hr.2⟩

def u8E : Enc UInt8 := flatE 1 (by omega) (fun x => [.int .u8 (x.toNat : Int)]) (by simp) (by simp [Value.oneCell'])

theorem Sl.byte {S : Foot} {w : World} {A : Option Addr} {n cap : Nat} {l : List UInt8} (h : Sl u8E S w (.slice A n cap) l) {i : Nat} (hi : i < l.length) :
    ∃ b off, A = some ⟨b, off, none⟩ ∧ At S w b (off + i) (.int .u8 ((l[i]).toNat : Int)) := by
  obtain ⟨_, _, _, _, hc⟩ := h.cells
  obtain ⟨b, off, cs, e, hrd, _, hat⟩ := hc i _ (List.getElem?_eq_getElem hi)
  have hrd' : cs = [.int .u8 ((l[i]).toNat : Int)] := hrd
  subst hrd'
  have := hat 0 _ rfl
  refine ⟨b, off, e, ?_⟩
  simpa [u8E, flatE] using this

theorem Reps.bytes {S : Foot} {w : World} {xs : List Value} {l : List UInt8} (h : Reps u8E S w xs l) : xs = l.map fun x => .int .u8 (x.toNat : Int) := by
  apply List.ext_getElem?
  intro i
  by_cases hi : i < l.length
  · obtain ⟨cs, hrd, hl, hcs⟩ := h.at_ (List.getElem?_eq_getElem hi)
    have hrd' : cs = [.int .u8 ((l[i]).toNat : Int)] := hrd
    subst hrd'
    have := hcs 0 _ rfl
    simp only [u8E, flatE, Nat.mul_one, Nat.add_zero] at this
    rw [this]
    simp [hi]
  · have h1 := h.1
    simp only [u8E, flatE, Nat.mul_one] at h1
    rw [List.getElem?_eq_none (by omega), List.getElem?_eq_none (by simpa using hi)]

theorem Reps.bytes_any {S S' : Foot} {w w' : World} {l : List UInt8} (h : Reps u8E S w (l.map fun x => .int .u8 (x.toNat : Int)) l) : Reps u8E S' w' (l.map fun x => .int .u8 (x.toNat : Int)) l := ⟨h.1, h.2⟩

theorem run_convert_sl {P : Program} {S : Foot} {w : World} {v : Value} {l : List UInt8} (src dst e : TypeId) (hs : P.underlying src = some (.slice e)) (he : P.underlying e = some (.int .u8)) (hd : P.underlying dst = some .string)
    (h : Sl u8E S w v l) : (convert src dst v).run P w = .ok (.string ⟨l.toArray⟩) w := by
  obtain ⟨A, cap, rfl, _⟩ := h.shape
  have hz : ∀ (n : Nat), (UInt8.ofNat ((n : Int)).toNat) = UInt8.ofNat n := fun n => by simp
  by_cases hl : l.length = 0
  · have hl' : l = [] := List.eq_nil_of_length_eq_zero hl
    subst hl'
    rcases A with _ | ad
    · rw [run_convert_bytes_nil w src e hs he _ _ dst hd]; rfl
    · rw [run_convert_bytes_string w src dst e _ _ _ hs he hd]
      simp [Conv.bytesToString, loadCells, loadCellsFrom, ByteArray.empty, ByteArray.emptyWithCapacity]
      rfl
  · obtain ⟨b, off, rfl, _⟩ := h.byte (i := 0) (by omega)
    have hc : ∀ i, i < l.length → w.cell? ⟨b, off + i, none⟩ = some (.int .u8 ((l.map fun x => (x.toNat : Int)).getD i 0)) := by
      intro i hi
      obtain ⟨b', off', e', hat⟩ := h.byte hi
      injection e' with e'
      injection e' with e1 e2
      subst e1 e2
      rw [hat.cell]
      simp [List.getD, hi]
    rw [run_convert_bytes_arg w src e hs he b off l.length cap _ (by simp) hc dst hd]
    have e : (l.map fun x => (x.toNat : Int)).map (fun n => UInt8.ofNat n.toNat) = l := by
      rw [List.map_map]
      conv => rhs; rw [← List.map_id l]
      apply List.map_congr_left
      intro x _
      simp
    unfold strOfNums
    rw [e]

/-- bytes lead nowhere: any footprint serves their row -/
theorem Own.u8 {S S' : Foot} {w : World} {base : Nat} {t : TypeId} {v : Value} {l : List UInt8} (h : Own u8E S w base t v l) : Own u8E S' w base t v l := by
  obtain ⟨xs, ho, hr⟩ := h
  exact ⟨xs, ho, hr.1, hr.2⟩
/-- a new row of bytes, seen from behind another row -/
theorem Own.byteSl {S S' : Foot} {w : World} {base : Nat} {t : TypeId} {v : Value} {l : List UInt8} (h : Own u8E S w base t v l) (hg : ∀ g, base ≤ g → g < w.heap.size → S' g (0, 0)) : Sl u8E S' w v l :=
  (h.u8 (S' := S')).sl (fun _ _ h _ => h) (fun g _ hb hl => hg g hb hl)

theorem bytes_cells (w : World) (bs : List UInt8) (t : TypeId) (base : Nat) (hb : base ≤ w.heap.size) (hn : bs.length ≤ 1048576) (S : Foot) :
    Own u8E S (w.alloc (.cells (bs.map fun x => Value.int .u8 (x.toNat : Int)).toArray t)) base t (.slice (some ⟨w.heap.size, 0, none⟩) bs.length bs.length) bs := by
  refine ⟨bs.map fun x => Value.int .u8 (x.toNat : Int), ⟨by simp [u8E, flatE], .inr ⟨w.heap.size, bs.length, _, rfl, hb, heap_alloc_new w _, Nat.le_refl _, by unfold maxLen; omega, by simp [u8E, flatE], by
    show (bs.map fun x => Value.int .u8 (x.toNat : Int)).toArray.toList.take (bs.length * 1) = _
    rw [Nat.mul_one]
    exact List.take_of_length_le (by simp)⟩⟩, by simp [u8E, flatE], ?_⟩
  intro i a hi
  obtain ⟨hil, rfl⟩ := List.getElem?_eq_some_iff.1 hi
  show ((bs.map fun x => Value.int .u8 (x.toNat : Int)).drop (i * 1)).take 1 = [.int .u8 ((bs[i]).toNat : Int)]
  rw [Nat.mul_one, List.drop_eq_getElem_cons (by simpa using hil)]
  simp

/-- a new row of bytes, marked or not -/
theorem bytes_block (w : World) (bs : List UInt8) (t : TypeId) (fr : Nat × Nat) (hn : bs.length ≤ 1048576) :
    Sl u8E Any (w.alloc (.cells (bs.map fun x => Value.int .u8 (x.toNat : Int)).toArray t fr)) (.slice (some ⟨w.heap.size, 0, none⟩) bs.length bs.length) bs := by
  refine ⟨some ⟨w.heap.size, 0, none⟩, bs.length, bs.map fun x => Value.int .u8 (x.toNat : Int), rfl, Nat.le_refl _, by unfold maxLen; omega, by simp, ⟨by simp [u8E, flatE], ?_⟩, ?_⟩
  · intro i a hi
    obtain ⟨hil, rfl⟩ := List.getElem?_eq_some_iff.1 hi
    show ((bs.map fun x => Value.int .u8 (x.toNat : Int)).drop (i * 1)).take 1 = [.int .u8 ((bs[i]).toNat : Int)]
    rw [Nat.mul_one, List.drop_eq_getElem_cons (by simpa using hil)]
    simp
  · intro j u hu
    exact ⟨w.heap.size, 0, rfl, _, t, fr, heap_alloc_new w _, by rw [Nat.zero_add]; simpa using hu, trivial⟩

theorem Own.byteFar {S : Foot} {w : World} {base : Nat} {t : TypeId} {v : Value} {l : List UInt8} {p : Addr} {u : Value} (h : Own u8E S w base t v l) (hv : p.block < base) : Own u8E Any (w.setCell p u) base t v l :=
  ((h.u8 (S' := fun _ _ => False)).far hv (fun _ _ h => h.elim)).u8

/-- a byte with another one put on it by exclusive or -/
def xr (x y : UInt8) : UInt8 := x ^^^ y
theorem u8_xr (x y : UInt8) : bits .xor .u8 (x.toNat : Int) (y.toNat : Int) = ((xr x y).toNat : Int) := by
  unfold xr
  rw [u8_xor_nat _ _ x.toNat_lt y.toNat_lt, UInt8.toNat_xor]
theorem u8_flip (x : UInt8) : bits .xor .u8 (x.toNat : Int) 255 = ((xr x 255).toNat : Int) := u8_xr x 255

theorem reps_bytes {S : Foot} {w : World} (l : List UInt8) : Reps u8E S w (l.map fun x => Value.int .u8 (x.toNat : Int)) l := by
  refine ⟨by simp [u8E, flatE], fun i a hi => ?_⟩
  obtain ⟨hil, rfl⟩ := List.getElem?_eq_some_iff.1 hi
  show ((l.map fun x => Value.int .u8 (x.toNat : Int)).drop (i * 1)).take 1 = [.int .u8 ((l[i]).toNat : Int)]
  rw [Nat.mul_one, List.drop_eq_getElem_cons (by simpa using hil)]
  simp

/-- a byte of a row of the call's own: it reads, it may be written, and what is owned behind that -/
theorem Own.byteCell {S : Foot} {w : World} {base : Nat} {t : TypeId} {v : Value} {l : List UInt8} (h : Own u8E S w base t v l) {i : Nat} (hi : i < l.length) :
    ∃ g cap, v = .slice (some ⟨g, 0, none⟩) l.length cap ∧ base ≤ g ∧ g < w.heap.size ∧ w.cell? ⟨g, i, none⟩ = some (.int .u8 ((l[i]).toNat : Int)) ∧ w.frozen? ⟨g, i, none⟩ = false ∧
      ∀ y : UInt8, Own u8E S (w.setCell ⟨g, i, none⟩ (.int .u8 (y.toNat : Int))) base t v (l.set i y) := by
  have hlt := h.lt
  obtain ⟨xs, ho, hr⟩ := h
  have hx := hr.bytes
  subst hx
  obtain ⟨g, cap, rfl, _⟩ := ho.form (by omega)
  have hg := hlt g rfl
  refine ⟨g, cap, rfl, hg.1, hg.2, ?_, ho.frozenAt i, fun y => ?_⟩
  · rw [ho.cellAt i (by simpa [u8E, flatE] using hi)]
    simp [hi]
  · obtain ⟨h1, _⟩ := ho.stored i (.int .u8 (y.toNat : Int))
    have e : (l.map fun x => Value.int .u8 (x.toNat : Int)).set i (.int .u8 (y.toNat : Int)) = (l.set i y).map fun x => Value.int .u8 (x.toNat : Int) := by rw [List.map_set]
    rw [e] at h1
    exact ⟨(l.set i y).map fun x => Value.int .u8 (x.toNat : Int), by simpa using h1, reps_bytes _⟩
end Go.Proofs.YtameigjggdagpaaDoor
