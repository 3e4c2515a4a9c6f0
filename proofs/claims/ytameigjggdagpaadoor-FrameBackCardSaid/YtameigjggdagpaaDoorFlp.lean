/- Plain laws of frames: what is sealed is opened; one byte turned is not whole. -/
import Derived.Test.YtameigjggdagpaaDoorFre
namespace Go.Proofs.YtameigjggdagpaaDoor

theorem sealed_num (p r : List UInt8) (h : p.length ≤ 1048576) : num (sealed p ++ r) = p.length := by
  have : sealed p ++ r = be4 p.length ++ (be4 (crc (be4 p.length ++ p)).toNat ++ p ++ r) := by simp [sealed]
  rw [this]
  exact num_be4 (by omega) _
theorem sealed_drop4 (p r : List UInt8) : (sealed p ++ r).drop 4 = be4 (crc (be4 p.length ++ p)).toNat ++ (p ++ r) := by
  have : sealed p ++ r = be4 p.length ++ (be4 (crc (be4 p.length ++ p)).toNat ++ (p ++ r)) := by simp [sealed]
  rw [this, show 4 = (be4 p.length).length from rfl, List.drop_left]
theorem sealed_take4 (p r : List UInt8) : (sealed p ++ r).take 4 = be4 p.length := by
  have : sealed p ++ r = be4 p.length ++ (be4 (crc (be4 p.length ++ p)).toNat ++ (p ++ r)) := by simp [sealed]
  rw [this, show 4 = (be4 p.length).length from rfl, List.take_left]
theorem sealed_payload (p r : List UInt8) (h : p.length ≤ 1048576) : payload (sealed p ++ r) = p := by
  unfold payload
  rw [sealed_num p r h]
  have : (sealed p ++ r).drop 8 = p ++ r := by
    rw [show 8 = 4 + 4 from rfl, ← List.drop_drop, sealed_drop4, show 4 = (be4 (crc (be4 p.length ++ p)).toNat).length from rfl, List.drop_left]
  rw [this, List.take_left]
theorem sealed_open (p r : List UInt8) (h : p.length ≤ 1048576) : openE (sealed p ++ r) = 0 ∧ openP (sealed p ++ r) = p ∧ openN (sealed p ++ r) = 8 + p.length := by
  have hE : openE (sealed p ++ r) = 0 := by
    unfold openE
    have hl : (sealed p ++ r).length = 8 + p.length + r.length := by rw [List.length_append, sealed_length]
    rw [sealed_num p r h, hl, if_neg (by omega), if_neg (by omega), if_neg (by omega), sealed_take4, sealed_payload p r h, sealed_drop4, num_be4 (crc_lt _), if_pos rfl]
  refine ⟨hE, ?_, ?_⟩
  · unfold openP; rw [if_pos hE, sealed_payload p r h]
  · unfold openN; rw [if_pos hE, sealed_num p r h]
theorem sealed_whole (p : List UInt8) (h : p.length ≤ 1048576) : wholeE (sealed p) = 0 ∧ wholeP (sealed p) = p := by
  have h1 := sealed_open p [] h
  have h2 := sealed_num p [] h
  rw [List.append_nil] at h1 h2
  unfold wholeE wholeP
  have hn : ¬ (8 ≤ (sealed p).length ∧ num (sealed p) < (sealed p).length - 8) := by rw [h2, sealed_length]; omega
  rw [if_neg hn, if_neg hn]
  exact ⟨h1.1, h1.2.1⟩

theorem wholeP_none {b : List UInt8} (h : wholeE b ≠ 0) : wholeP b = [] := by
  unfold wholeE at h
  unfold wholeP
  split
  · rfl
  · rename_i hn
    rw [if_neg hn] at h
    unfold openP
    rw [if_neg h]

/-- A frame of which one byte is another one is not whole. -/
theorem turned_whole (p : List UInt8) (h : p.length ≤ 1048576) {i : Nat} (hi : i < (sealed p).length) {y : UInt8} (hy : y ≠ (sealed p)[i]) : wholeE ((sealed p).set i y) ≠ 0 := by
  have hb := sealed_length p
  generalize hs : sealed p = b at *
  have hbl : (b.set i y).length = 8 + p.length := by rw [List.length_set]; exact hb
  have hnum : num b = p.length := by have := sealed_num p [] h; rw [List.append_nil, hs] at this; exact this
  by_cases h4 : i < 4
  · -- the length is another one
    have hne : num (b.set i y) ≠ p.length := by
      intro he
      have e1 := be4_num (l := b.set i y) (by omega)
      have e2 := be4_num (l := b) (by omega)
      rw [he] at e1
      rw [hnum] at e2
      have e3 : (b.set i y).take 4 = b.take 4 := by rw [← e1, ← e2]
      have e4 := congrArg (fun l => l[i]?) e3
      simp only [List.getElem?_take, if_pos h4] at e4
      rw [List.getElem?_set_self (by omega), List.getElem?_eq_getElem hi] at e4
      injection e4 with e4
      exact hy e4
    unfold wholeE
    by_cases hlt : num (b.set i y) < (b.set i y).length - 8
    · rw [if_pos ⟨by omega, hlt⟩]; omega
    · rw [if_neg (fun hh => hlt hh.2)]
      unfold openE
      rw [hbl] at hlt ⊢
      rw [if_neg (by omega)]
      split
      · omega
      · rw [if_pos (by omega)]; omega
  · have htk : (b.set i y).take 4 = b.take 4 := by
      rw [List.take_set]
      exact List.set_eq_of_length_le (by rw [List.length_take]; omega)
    have hnum' : num (b.set i y) = p.length := by rw [← hnum]; unfold num; rw [htk]
    unfold wholeE
    rw [if_neg (by rw [hnum', hbl]; omega)]
    unfold openE
    rw [hnum', hbl, if_neg (by omega), if_neg (by omega), if_neg (by omega)]
    have htk4 : b.take 4 = be4 p.length := by have := sealed_take4 p []; rw [List.append_nil, hs] at this; exact this
    have hd4 : b.drop 4 = be4 (crc (be4 p.length ++ p)).toNat ++ p := by have := sealed_drop4 p []; rw [List.append_nil, List.append_nil, hs] at this; exact this
    have hd8 : b.drop 8 = p := by
      rw [show 8 = 4 + 4 from rfl, ← List.drop_drop, hd4, show 4 = (be4 (crc (be4 p.length ++ p)).toNat).length from rfl, List.drop_left]
    rw [htk, htk4]
    by_cases h8 : i < 8
    · -- the sum is another one
      have hpay : payload (b.set i y) = p := by
        unfold payload
        rw [hnum', List.drop_set, if_pos h8, hd8, List.take_length]
      rw [hpay, if_neg ?_]
      · decide
      · intro he
        have e1 := be4_num (l := (b.set i y).drop 4) (by rw [List.length_drop]; omega)
        have e2 := be4_num (l := b.drop 4) (by rw [List.length_drop]; omega)
        have e3 : num (b.drop 4) = (crc (be4 p.length ++ p)).toNat := by rw [hd4]; exact num_be4 (crc_lt _) _
        rw [← he] at e1
        rw [e3] at e2
        have e4 := congrArg (fun l => l[i - 4]?) (e1.symm.trans e2)
        simp only [List.getElem?_take, if_pos (show i - 4 < 4 by omega), List.getElem?_drop] at e4
        rw [show 4 + (i - 4) = i by omega, List.getElem?_set_self (by omega), List.getElem?_eq_getElem hi] at e4
        injection e4 with e4
        exact hy e4
    · -- a byte of the payload is another one
      have hpay : payload (b.set i y) = p.set (i - 8) y := by
        unfold payload
        rw [hnum', List.drop_set, if_neg h8, hd8, List.take_of_length_le (by rw [List.length_set]; omega)]
      have hnd : num ((b.set i y).drop 4) = (crc (be4 p.length ++ p)).toNat := by
        have e3 : num (b.drop 4) = (crc (be4 p.length ++ p)).toNat := by rw [hd4]; exact num_be4 (crc_lt _) _
        rw [← e3]
        unfold num
        rw [List.drop_set, if_neg h4, List.take_set, List.set_eq_of_length_le (by rw [List.length_take, List.length_drop]; omega)]
      have hip : i - 8 < p.length := by omega
      have hbi : b[i] = p[i - 8] := by
        have e : b[i]? = p[i - 8]? := by
          have := congrArg (fun l => l[i - 8]?) hd8
          simp only [List.getElem?_drop] at this
          rw [show 8 + (i - 8) = i by omega] at this
          exact this
        rw [List.getElem?_eq_getElem hi, List.getElem?_eq_getElem hip] at e
        injection e
      rw [hpay, hnd, if_neg ?_]
      · decide
      · intro he
        have hsp : p = p.take (i - 8) ++ p[i - 8] :: p.drop (i - 8 + 1) := by
          rw [← List.drop_eq_getElem_cons hip, List.take_append_drop]
        have hsp' : p.set (i - 8) y = p.take (i - 8) ++ y :: p.drop (i - 8 + 1) := by
          rw [List.set_eq_take_append_cons_drop, if_pos hip]
        have hc : crc (be4 p.length ++ (p.take (i - 8) ++ y :: p.drop (i - 8 + 1))) = crc (be4 p.length ++ (p.take (i - 8) ++ p[i - 8] :: p.drop (i - 8 + 1))) := by
          rw [← hsp', ← hsp]
          exact BitVec.eq_of_toNat_eq he
        rw [← List.append_assoc, ← List.append_assoc] at hc
        exact crc_turned (by rw [← hbi]; exact hy) hc
end Go.Proofs.YtameigjggdagpaaDoor
