/- A set of numbers as the program's own map; whether bodies are formed: the program's. -/
import Derived.Test.YtjcbheeihckgmaaBodi
import Derived.Maps.Own
namespace Go.Proofs.Ytjcbheeihckgmaa
open Go.RowKit Go.ChangeMaps

def Ents (es : List MapEntry) (os : List Int) : Prop := es.map (fun e => (e.key, e.val)) = os.map (fun o => (Value.int .i64 o, Value.bool true))
def Seen (w : World) (b : Nat) (os : List Int) : Prop := ∃ es clock, w.heap[b]? = some (.map es clock) ∧ Ents es.toList os

theorem findNow_ents (x : Int) : ∀ (es : List MapEntry) (os : List Int) (i : Nat), Ents es os →
    (x ∈ os ∧ ∃ j, Instr.findNow (.int .i64) (.int .i64 x) es i = some (some (j, .bool true))) ∨ (x ∉ os ∧ Instr.findNow (.int .i64) (.int .i64 x) es i = some none)
  | [], [], i, _ => .inr ⟨by simp, rfl⟩
  | [], _ :: _, i, h => by simp [Ents] at h
  | _ :: _, [], i, h => by simp [Ents] at h
  | e :: es, o :: os, i, h => by
    obtain ⟨key, val, born⟩ := e
    simp only [Ents, List.map_cons, List.cons.injEq, Prod.mk.injEq] at h
    obtain ⟨⟨rfl, rfl⟩, h⟩ := h
    by_cases hx : x = o
    · subst hx
      exact .inl ⟨by simp, i, by simp [Instr.findNow, Instr.sameNow]⟩
    · have hb : (x == o) = false := by simpa using hx
      rcases findNow_ents x es os (i + 1) h with ⟨h1, j, h2⟩ | ⟨h1, h2⟩
      · exact .inl ⟨by simp [h1], j, by simp [Instr.findNow, Instr.sameNow, hb, h2]⟩
      · exact .inr ⟨by simp [h1, hx], by simp [Instr.findNow, Instr.sameNow, hb, h2]⟩

theorem Seen.made (w : World) : Seen (w.alloc (.map #[] 0)) w.heap.size [] := ⟨#[], 0, (MapKept.heap_alloc w _).1, rfl⟩
theorem Seen.lt {w : World} {b : Nat} {os : List Int} (h : Seen w b os) : b < w.heap.size := by
  obtain ⟨es, clock, hb, _⟩ := h
  exact (Array.getElem?_eq_some_iff.1 hb).1
theorem Seen.below {w w' : World} {B b : Nat} {os : List Int} (h : Seen w b os) (hb : Below B w w') (hB : b < B) : Seen w' b os := by
  obtain ⟨es, clock, h1, h2⟩ := h
  exact ⟨es, clock, (hb.block b hB).trans h1, h2⟩
theorem Seen.lookup {w : World} {b : Nat} {os : List Int} (h : Seen w b os) (x : Int) :
    (Instr.lookup 50 (.map (some b)) (.int .i64 x) false).run Try.prog w = .ok (.bool (decide (x ∈ os))) w := by
  obtain ⟨es, clock, hb, he⟩ := h
  have hk2 : ∀ c, (Instr.checkKey c 10000 3 (.int .i64 x)).run Try.prog w = .ok () w := fun c =>
    MapKept.run_checkKey Try.underlying3 (by unfold MapKept.IsKey; trivial) c 9999
  have hz : (zeroValue 4).run Try.prog w = .ok (.bool false) w := by kernel_rfl
  rcases findNow_ents x es.toList os 0 he with ⟨h1, j, h2⟩ | ⟨h1, h2⟩
  · simp [Instr.lookup, run_underlying Try.underlying50, MapKept.run_getObj_map hb, hk2, MapKept.run_findKey Try.underlying3 h2, h1, Result.andThen]
  · simp [Instr.lookup, run_underlying Try.underlying50, MapKept.run_getObj_map hb, hk2, MapKept.run_findKey Try.underlying3 h2, h1, hz, Result.andThen]
theorem Seen.update {w : World} {b : Nat} {os : List Int} (h : Seen w b os) {x : Int} (hx : x ∉ os) {B : Nat} (hB : B ≤ b) :
    ∃ w', (Instr.mapUpdate 50 (.map (some b)) (.int .i64 x) (.bool true)).run Try.prog w = .ok () w' ∧ Seen w' b (os ++ [x]) ∧ Below B w w' := by
  obtain ⟨es, clock, hb, he⟩ := h
  have hk2 : ∀ c, (Instr.checkKey c 10000 3 (.int .i64 x)).run Try.prog w = .ok () w := fun c =>
    MapKept.run_checkKey Try.underlying3 (by unfold MapKept.IsKey; trivial) c 9999
  rcases findNow_ents x es.toList os 0 he with ⟨h1, j, h2⟩ | ⟨h1, h2⟩
  · exact absurd h1 hx
  · refine ⟨setBlock w b (.map (es.push { key := .int .i64 x, val := .bool true, born := clock }) (clock + 1)), ?_, ⟨_, _, heap_setBlock_same hb _, ?_⟩, ?_⟩
    · simp [Instr.mapUpdate, run_underlying Try.underlying50, MapKept.run_getObj_map hb, hk2, MapKept.run_findKey Try.underlying3 h2, MapKept.run_setObj_map _ hb, setBlock, Result.andThen]
    · unfold Ents at *
      simp [he]
    · have hg : w.grownBy (setBlock w b (.map (es.push { key := .int .i64 x, val := .bool true, born := clock }) (clock + 1))) (some b) :=
        ⟨rfl, rfl, rfl, by simp [setBlock], fun i _ hi => heap_setBlock_other hb _ (fun e => hi (by rw [e]))⟩
      exact bgrown hg (by have := (Array.getElem?_eq_some_iff.1 hb).1; omega) (by intro k hk; injection hk with hk; omega)

def objs (l : List Bd) : List Int := l.map (·.o)
def fine (l : List Bd) : Bool := l.all right && decide (objs l).Nodup
def formed (l : List Bd) (room : Int) : Bool := decide (0 ≤ room ∧ room ≤ 16777216 ∧ l.length ≤ 256) && (fine l && decide ((used l : Int) ≤ room))
theorem objs_snoc {l : List Bd} {k : Nat} (h : k < l.length) : objs (l.take (k + 1)) = objs (l.take k) ++ [l[k].o] := by
  unfold objs
  rw [List.take_succ_eq_append_getElem h, List.map_append]
  rfl
theorem nodup_snoc {l : List Int} {x : Int} : (l ++ [x]).Nodup ↔ l.Nodup ∧ x ∉ l := by
  rw [List.nodup_append]
  constructor
  · rintro ⟨h1, _, h3⟩
    exact ⟨h1, fun h => h3 x h x (by simp) rfl⟩
  · rintro ⟨h1, h2⟩
    refine ⟨h1, by simp, ?_⟩
    intro a ha b hb e
    simp at hb
    subst hb
    subst e
    exact h2 ha
theorem fine_snoc {l : List Bd} {k : Nat} (h : k < l.length) : fine (l.take (k + 1)) = (fine (l.take k) && (right l[k] && !decide (l[k].o ∈ objs (l.take k)))) := by
  unfold fine
  rw [objs_snoc h, List.take_succ_eq_append_getElem h, List.all_append, Bool.eq_iff_iff]
  simp only [Bool.and_eq_true, decide_eq_true_eq, nodup_snoc, Bool.not_eq_true', decide_eq_false_iff_not, List.all_cons, List.all_nil, Bool.and_true]
  constructor
  · rintro ⟨⟨a, b⟩, c, d⟩; exact ⟨⟨a, c⟩, b, d⟩
  · rintro ⟨⟨a, c⟩, b, d⟩; exact ⟨⟨a, b⟩, c, d⟩
theorem fine_take {l : List Bd} (k : Nat) (h : fine l = true) : fine (l.take k) = true := by
  unfold fine objs at *
  simp only [Bool.and_eq_true, decide_eq_true_eq, List.all_eq_true] at *
  refine ⟨fun x hx => h.1 x (List.mem_of_mem_take hx), ?_⟩
  rw [List.map_take]
  exact h.2.sublist (List.take_sublist _ _)
theorem not_fine {l : List Bd} {k : Nat} (h : fine (l.take k) = false) : fine l = false := by
  cases hf : fine l
  · rfl
  · rw [fine_take k hf] at h; cases h

/-- are bodies formed: the program's -/
theorem formed_c {S : Foot} {v : Value} {l : List Bd} {room : Int} {w : World} (hp : Sl bdE S w v l) (hu : used l ≤ 1048576) :
    Calls Try.prog 21 #[v, .int .i64 room] w fun e w' => e = .returned (.bool (formed l room)) ∧ Below w.heap.size w w' := by
  obtain ⟨A, cap, rfl, hc1, hc2, _⟩ := hp.shape
  unfold maxLen at hc2
  by_cases h1 : room < 0
  · have d1 : decide (room < 0) = true := decide_eq_true h1
    have HR : Hid (formed l room = false) := by unfold Hid formed; simp; omega
    go_enter Try.func21, Try.ntmps21
    go_wp2
    go_ret
    rw [HR.out]
    exact ⟨rfl, Below.refl _ _⟩
  have d1 : decide (room < 0) = false := decide_eq_false h1
  by_cases h2 : room ≤ 16777216
  rotate_left
  · have d2 : decide (16777216 < room) = true := decide_eq_true (by omega)
    have HR : Hid (formed l room = false) := by unfold Hid formed; simp; omega
    go_enter Try.func21, Try.ntmps21
    go_wp2
    go_ret
    rw [HR.out]
    exact ⟨rfl, Below.refl _ _⟩
  have d2 : decide (16777216 < room) = false := decide_eq_false (by omega)
  by_cases h3 : l.length ≤ 256
  rotate_left
  · have d3 : decide (256 < (l.length : Int)) = true := decide_eq_true (by omega)
    have HR : Hid (formed l room = false) := by unfold Hid formed; simp; omega
    go_enter Try.func21, Try.ntmps21
    go_wp2
    go_ret
    rw [HR.out]
    exact ⟨rfl, Below.refl _ _⟩
  have d3 : decide (256 < (l.length : Int)) = false := decide_eq_false (by omega)
  have HB := Lib.hid (show 0 ≤ room ∧ room ≤ 16777216 ∧ l.length ≤ 256 by omega)
  have hmm : ∀ w : World, (Instr.makeMap 50 none).run Try.prog w = .ok (.map (some w.heap.size)) (w.alloc (.map #[] 0)) := fun _ => rfl
  go_enter Try.func21, Try.ntmps21
  go_wp2
  go_loopw [22] (fun i wr => ∃ k : Nat, k ≤ l.length ∧ i = .int .i64 k ∧ Seen wr w.heap.size (objs (l.take k)) ∧ Below w.heap.size w wr ∧ Hid (fine (l.take k) = true)) (fun i _ => l.length - (intOf i).toNat)
  case atStart => exact ⟨0, Nat.zero_le _, rfl, Seen.made w, (Below.refl _ _).alloc (Nat.le_refl _) _, Lib.hid rfl⟩
  case round =>
    obtain ⟨k, hk, rfl, hsn, hbr, HF⟩ := hrel
    by_cases hlt : k < l.length
    · have HS := Lib.hid (fine_snoc hlt)
      have HO := Lib.hid (objs_snoc hlt)
      have HN := Lib.hid (fun (h : fine (l.take (k + 1)) = false) => (by unfold formed; rw [not_fine h]; simp : formed l room = false))
      obtain ⟨b, off, Av, cv, rfl, a0, a1, a2, a3, hv⟩ := (hp.below hbr (Nat.le_refl _)).body hlt
      have c0 := a0.cell
      have c1 := a1.cell
      have c2 := a2.cell
      have c3 := a3.cell
      clear a0 a1 a2 a3
      generalize hx : l[k] = x at *
      clear hx
      have hbx : Below w.heap.size w (wr.alloc (.cells #[.int .i64 x.o, .int .i64 x.c, .int .i64 x.n, .slice Av x.v.length cv] 38)) := hbr.alloc hbr.size _
      have hsx : Seen (wr.alloc (.cells #[.int .i64 x.o, .int .i64 x.c, .int .i64 x.n, .slice Av x.v.length cv] 38)) w.heap.size (objs (l.take k)) := hsn.below ((Below.refl wr.heap.size wr).alloc (Nat.le_refl _) _) hsn.lt
      have hlk := hsx.lookup x.o
      by_cases hs : x.o ∈ objs (l.take k)
      · have HR := Lib.hid (HN.out (by rw [HS.out, decide_eq_true hs]; simp))
        rw [decide_eq_true hs] at hlk
        clear hs
        go_wp2
        go_ret
        rw [HR.out]
        exact ⟨rfl, hbx⟩
      · have HX := Lib.hid hs
        rw [decide_eq_false hs] at hlk
        clear hs
        have HC := fun w => Lib.hid (right_c x Av cv w)
        cases hr : right x
        · have HR := Lib.hid (HN.out (by rw [HS.out, hr]; simp))
          rw [hr] at HC
          clear hr
          go_wp2_with (go_at_call 30; refine (HC _).out.mono ?_; rintro e w1 ⟨rfl, b1⟩)
          go_ret
          rw [HR.out]
          exact ⟨rfl, bstep hbx b1⟩
        · have HR : Hid (fine (l.take (k + 1)) = true) := by
            unfold Hid
            rw [HS.out, HF.out, hr, decide_eq_false HX.out]
            rfl
          rw [hr] at HC
          clear hr
          go_wp2_with (go_at_call 30; refine (HC _).out.mono ?_; rintro e w1 ⟨rfl, b1⟩; have x0 := box_cell (cs := [.int .i64 x.o, .int .i64 x.c, .int .i64 x.n, .slice Av x.v.length cv]) b1 (by simp) 0 _ rfl; obtain ⟨w2, hup, hsn2, hb2⟩ := (hsx.below b1 hsx.lt).update HX.out (Nat.le_refl _))
          go_roundw
          case rel => exact ⟨k + 1, by omega, by go_num, by rw [HO.out]; exact hsn2, (bstep hbx b1).trans hb2, HR⟩
          case measure => simp [intOf]; omega
    · have HK := Lib.hid (show k = l.length by omega)
      have hF : fine l = true := by have h := HF.out; rw [HK.out, List.take_length] at h; exact h
      by_cases hroom : (used l : Int) ≤ room
      · have d4 : decide ((used l : Int) ≤ room) = true := decide_eq_true hroom
        have HR : Hid (formed l room = true) := by
          unfold Hid formed
          rw [hF, d4, decide_eq_true HB.out]
          rfl
        have HC := Lib.hid (used_c (hp.below hbr (Nat.le_refl _)) (by omega))
        clear hF hroom
        go_wp2_with (go_at_call 13; refine HC.out.mono ?_; rintro e w1 ⟨rfl, b1⟩)
        go_ret
        rw [HR.out]
        exact ⟨rfl, bstep hbr b1⟩
      · have d4 : decide ((used l : Int) ≤ room) = false := decide_eq_false hroom
        have HR : Hid (formed l room = false) := by
          unfold Hid formed
          rw [d4]
          simp
        have HC := Lib.hid (used_c (hp.below hbr (Nat.le_refl _)) (by omega))
        clear hF hroom
        go_wp2_with (go_at_call 13; refine HC.out.mono ?_; rintro e w1 ⟨rfl, b1⟩)
        go_ret
        rw [HR.out]
        exact ⟨rfl, bstep hbr b1⟩
end Go.Proofs.Ytjcbheeihckgmaa
