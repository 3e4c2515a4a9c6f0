/-
  No cell of these rows narrows 'for every input' (looked for: loops, veiled, ifaces, maps, wideKeys, modest, calm, conditions, laid).
  DERIVED. THE GIVEN ROWS OF THIS SEAT. 4 by the template 'for every input the law returns true; each argument reads behind the call as it read before'; 0 by the template 'total and deterministic' (their statements: YtggmhhbhpmfcnaaTotals.lean).
  GIVEN WITH THE SEED: the statements are not yours to turn. If you find one false, say at which input.
  Laid BY PROGRAM, IN A SANDBOX (cutbox-rows.mjs): the forced cells as the released guide's own fill.sh prints them over the translation 6ea87f939a2d7806… (all of the seat's roots in one cut). By AI agents, Wed Nov 11 2026. No macro, syntax, notation, axiom, sorry.
-/
import Derived.Test.YtggmhhbhpmfcnaaChecked
import GoSem.Claim
import GoSem.ClaimJoined
import GoSem.ClaimMapViews
import Derived.JoinedTies
import Derived.KernelRfl
namespace Go.Proofs.Ytggmhhbhpmfcnaa
/- THE CELL 'sum', in the pinned program and in every row, IS THE sha256 OF THE DUMP (.gsa) THAT YtggmhhbhpmfcnaaProg.lean LOADS. Nothing in Lean hashes anything: it is a label: what it is worth is what the hold of that sum in a sandbox is worth. -/
noncomputable def Try.pinned : Pinned := { name := "ytggmhhbhpmfcnaa", sum := "6ea87f939a2d78065cc269d5af373d11a484e433edfae08cf417c43315ce6c78", checked := Try.checked }
namespace Rows
def none {H : Type} : Left H := { results := [], args := [] }

/-- 'telltalelaw19.NetSends': WHATEVER THE INPUT: true; the input reads as it did. -/
def netSendsSpec : ChangeSpec := { name := "netSends", fn := fun _ => fun
  | [d1, d2, d3] => { results := [.lit (.bool true)], args := [d1, d2, d3] }
  | _ => none }
def netSendsRow : OpenClaim := { program := "ytggmhhbhpmfcnaa", sum := "6ea87f939a2d78065cc269d5af373d11a484e433edfae08cf417c43315ce6c78", func := "telltale/telltalelaw19.NetSends", spec := "netSends", unfollowed := true, recurses := true, apart := false }
def NetSendsSaid : Prop := netSendsRow.holds Try.pinned (OpenSpec.ofChange netSendsSpec)

/-- ITS FALSE NEIGHBOUR: 'it returns false'. Refute it at one input. -/
def netSendsWrong : ChangeSpec := { name := "netSends", fn := fun _ => fun
  | [d1, d2, d3] => { results := [.lit (.bool false)], args := [d1, d2, d3] }
  | _ => none }
def NetSendsWrongFalsely : Prop := netSendsRow.holds Try.pinned (OpenSpec.ofChange netSendsWrong)

/-- 'telltalelaw19.NetTurns': WHATEVER THE INPUT: true; the input reads as it did. -/
def netTurnsSpec : ChangeSpec := { name := "netTurns", fn := fun _ => fun
  | [d1, d2] => { results := [.lit (.bool true)], args := [d1, d2] }
  | _ => none }
def netTurnsRow : OpenClaim := { program := "ytggmhhbhpmfcnaa", sum := "6ea87f939a2d78065cc269d5af373d11a484e433edfae08cf417c43315ce6c78", func := "telltale/telltalelaw19.NetTurns", spec := "netTurns", unfollowed := true, recurses := true, apart := false }
def NetTurnsSaid : Prop := netTurnsRow.holds Try.pinned (OpenSpec.ofChange netTurnsSpec)

/-- ITS FALSE NEIGHBOUR: 'it returns false'. Refute it at one input. -/
def netTurnsWrong : ChangeSpec := { name := "netTurns", fn := fun _ => fun
  | [d1, d2] => { results := [.lit (.bool false)], args := [d1, d2] }
  | _ => none }
def NetTurnsWrongFalsely : Prop := netTurnsRow.holds Try.pinned (OpenSpec.ofChange netTurnsWrong)

/-- 'telltalelaw19.NetTakes': WHATEVER THE INPUT: true; the input reads as it did. -/
def netTakesSpec : ChangeSpec := { name := "netTakes", fn := fun _ => fun
  | [d1, d2] => { results := [.lit (.bool true)], args := [d1, d2] }
  | _ => none }
def netTakesRow : OpenClaim := { program := "ytggmhhbhpmfcnaa", sum := "6ea87f939a2d78065cc269d5af373d11a484e433edfae08cf417c43315ce6c78", func := "telltale/telltalelaw19.NetTakes", spec := "netTakes", unfollowed := true, recurses := true, apart := false }
def NetTakesSaid : Prop := netTakesRow.holds Try.pinned (OpenSpec.ofChange netTakesSpec)

/-- ITS FALSE NEIGHBOUR: 'it returns false'. Refute it at one input. -/
def netTakesWrong : ChangeSpec := { name := "netTakes", fn := fun _ => fun
  | [d1, d2] => { results := [.lit (.bool false)], args := [d1, d2] }
  | _ => none }
def NetTakesWrongFalsely : Prop := netTakesRow.holds Try.pinned (OpenSpec.ofChange netTakesWrong)

/-- 'telltalelaw19.NetOneByte': WHATEVER THE INPUT: true; the input reads as it did. -/
def netOneByteSpec : ChangeSpec := { name := "netOneByte", fn := fun _ => fun
  | [d1, d2] => { results := [.lit (.bool true)], args := [d1, d2] }
  | _ => none }
def netOneByteRow : OpenClaim := { program := "ytggmhhbhpmfcnaa", sum := "6ea87f939a2d78065cc269d5af373d11a484e433edfae08cf417c43315ce6c78", func := "telltale/telltalelaw19.NetOneByte", spec := "netOneByte", unfollowed := true, recurses := true, apart := false }
def NetOneByteSaid : Prop := netOneByteRow.holds Try.pinned (OpenSpec.ofChange netOneByteSpec)

/-- ITS FALSE NEIGHBOUR: 'it returns false'. Refute it at one input. -/
def netOneByteWrong : ChangeSpec := { name := "netOneByte", fn := fun _ => fun
  | [d1, d2] => { results := [.lit (.bool false)], args := [d1, d2] }
  | _ => none }
def NetOneByteWrongFalsely : Prop := netOneByteRow.holds Try.pinned (OpenSpec.ofChange netOneByteWrong)

/- THE SECOND FORM. 'bulk': how many values and letters a reading holds, each counted each time it is reached (what is shared counts as often as it is met; a slice's spare places count too). A statement '..UptoSaid' is the law's where the arguments, and the package variables that the reading takes, are together of bulk at most 1048576: NARROWER than '..Said'. Prove '..Said' where nothing that the law and all that it calls make is longer than what came in: it says more and counts as full. Else prove '..UptoSaid'. A law counts once. -/
mutual
def uptoBulk {H : Type} : DataW H → Nat
  | .lit (.string bytes) => bytes.length + 1
  | .lit _ => 1
  | .nil => 1
  | .ptr d => uptoBulk d + 1
  | .slice elems spare => uptoBulkAll elems + uptoBulkAll spare + 1
  | .agg parts => uptoBulkAll parts + 1
  | .iface _ d => uptoBulk d + 1
  | .map entries => uptoBulkEntries entries + 1
  | .held _ => 1
def uptoBulkAll {H : Type} : List (DataW H) → Nat
  | [] => 0
  | d :: r => uptoBulk d + uptoBulkAll r
def uptoBulkEntries {H : Type} : List (Lit × DataW H) → Nat
  | [] => 0
  | x :: r => uptoBulkEntry x + uptoBulkEntries r
def uptoBulkEntry {H : Type} : Lit × DataW H → Nat
  | (.string bytes, d) => bytes.length + uptoBulk d + 1
  | (_, d) => uptoBulk d + 1
 end
def uptoSmall : (H : Type) → List (DataW H) → Bool := fun _ ds => decide (uptoBulkAll ds ≤ 1048576)
def OpenSpec.upto (s : _root_.Go.ChangeSpec) : _root_.Go.OpenSpec := { _root_.Go.OpenSpec.ofChange s with cond := some uptoSmall }

/-- 'telltalelaw19.NetSends', WHERE WHAT IT READS IS OF BULK AT MOST 1048576: true; the input reads as it did. -/
def netSendsUptoRow : OpenClaim := { program := "ytggmhhbhpmfcnaa", sum := "6ea87f939a2d78065cc269d5af373d11a484e433edfae08cf417c43315ce6c78", func := "telltale/telltalelaw19.NetSends", spec := "netSends", unfollowed := true, recurses := true, apart := false, narrowed := true }
def NetSendsUptoSaid : Prop := netSendsUptoRow.holds Try.pinned (OpenSpec.upto netSendsSpec)

/-- 'telltalelaw19.NetTurns', WHERE WHAT IT READS IS OF BULK AT MOST 1048576: true; the input reads as it did. -/
def netTurnsUptoRow : OpenClaim := { program := "ytggmhhbhpmfcnaa", sum := "6ea87f939a2d78065cc269d5af373d11a484e433edfae08cf417c43315ce6c78", func := "telltale/telltalelaw19.NetTurns", spec := "netTurns", unfollowed := true, recurses := true, apart := false, narrowed := true }
def NetTurnsUptoSaid : Prop := netTurnsUptoRow.holds Try.pinned (OpenSpec.upto netTurnsSpec)

/-- 'telltalelaw19.NetTakes', WHERE WHAT IT READS IS OF BULK AT MOST 1048576: true; the input reads as it did. -/
def netTakesUptoRow : OpenClaim := { program := "ytggmhhbhpmfcnaa", sum := "6ea87f939a2d78065cc269d5af373d11a484e433edfae08cf417c43315ce6c78", func := "telltale/telltalelaw19.NetTakes", spec := "netTakes", unfollowed := true, recurses := true, apart := false, narrowed := true }
def NetTakesUptoSaid : Prop := netTakesUptoRow.holds Try.pinned (OpenSpec.upto netTakesSpec)

/-- 'telltalelaw19.NetOneByte', WHERE WHAT IT READS IS OF BULK AT MOST 1048576: true; the input reads as it did. -/
def netOneByteUptoRow : OpenClaim := { program := "ytggmhhbhpmfcnaa", sum := "6ea87f939a2d78065cc269d5af373d11a484e433edfae08cf417c43315ce6c78", func := "telltale/telltalelaw19.NetOneByte", spec := "netOneByte", unfollowed := true, recurses := true, apart := false, narrowed := true }
def NetOneByteUptoSaid : Prop := netOneByteUptoRow.holds Try.pinned (OpenSpec.upto netOneByteSpec)

end Rows
end Go.Proofs.Ytggmhhbhpmfcnaa
