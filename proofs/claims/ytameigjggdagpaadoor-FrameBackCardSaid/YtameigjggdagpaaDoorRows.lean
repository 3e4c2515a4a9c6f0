/-
  NARROWER THAN 'FOR EVERY INPUT', by the rows' own cells (each row's printed sentence says how): FrameSums: laid · FrameSeals: laid · FrameOpens: laid · FrameTurned: laid · FrameCuts: laid · FrameBack: laid.
  DERIVED. THE GIVEN ROWS OF THIS SEAT. 6 by the template 'for every input the law returns true; each argument reads behind the call as it read before'; 0 by the template 'total and deterministic' (their statements: YtameigjggdagpaaDoorTotals.lean).
  GIVEN WITH THE SEED: the statements are not yours to turn. If you find one false, say at which input.
  Laid BY PROGRAM, IN A SANDBOX (cutbox-rows.mjs): the forced cells as the released guide's own fill.sh prints them over the translation e2fe5f928fce921c… (all of the seat's roots in one cut). By AI agents, Wed Nov 11 2026. No macro, syntax, notation, axiom, sorry.
-/
import Derived.Test.YtameigjggdagpaaDoorChecked
import GoSem.Claim
import GoSem.ClaimJoined
import GoSem.ClaimMapViews
import Derived.JoinedTies
import Derived.KernelRfl
namespace Go.Proofs.YtameigjggdagpaaDoor
/- THE CELL 'sum', in the pinned program and in every row, IS THE sha256 OF THE DUMP (.gsa) THAT YtameigjggdagpaaDoorProg.lean LOADS. Nothing in Lean hashes anything: it is a label: what it is worth is what the hold of that sum in a sandbox is worth. -/
noncomputable def Tryd.pinned : Pinned := { name := "ytameigjggdagpaadoor", sum := "e2fe5f928fce921ce5881c666c2145191a6293453b74bc38c3fe9cc6139ae772", checked := Tryd.checked }
namespace Rows
def none {H : Type} : Left H := { results := [], args := [] }

/- WHAT THE LISTED PACKAGE-LEVEL VARIABLES READ AS WHEN THE CALL BEGINS. Each datum BY PROGRAM (the guide's laid-datum.mjs) off the statement by which the dump's own 'gosem.cut.vars' lays the variable. In a bare row this is a premise. The card (YtameigjggdagpaaDoorCards.lean) ties it to the program's text. -/
def laid_telltale_frame_table {H : Type} : DataW H := .agg [.lit (.int .u32 0), .lit (.int .u32 498536548), .lit (.int .u32 997073096), .lit (.int .u32 651767980), .lit (.int .u32 1994146192), .lit (.int .u32 1802195444), .lit (.int .u32 1303535960), .lit (.int .u32 1342533948), .lit (.int .u32 3988292384), .lit (.int .u32 4027552580), .lit (.int .u32 3604390888), .lit (.int .u32 3412177804), .lit (.int .u32 2607071920), .lit (.int .u32 2262029012), .lit (.int .u32 2685067896), .lit (.int .u32 3183342108)]

/-- 'telltalelaw07.FrameSums': WHATEVER THE INPUT: true; the input reads as it did. -/
def frameSumsSpec : ChangeSpec := { name := "frameSums", fn := fun _ => fun
  | [d1, d2] => { results := [.lit (.bool true)], args := [d1, d2] }
  | _ => none }
def frameSumsRow : OpenClaim := { program := "ytameigjggdagpaadoor", sum := "e2fe5f928fce921ce5881c666c2145191a6293453b74bc38c3fe9cc6139ae772", func := "telltale/telltalelaw07.FrameSums", spec := "frameSums", named := ["telltale/frame.table"], apart := false, laid := [("telltale/frame.table", laid_telltale_frame_table)] }
def FrameSumsSaid : Prop := frameSumsRow.holds Tryd.pinned (OpenSpec.ofChange frameSumsSpec)

/-- ITS FALSE NEIGHBOUR: 'it returns false'. Refute it at one input. -/
def frameSumsWrong : ChangeSpec := { name := "frameSums", fn := fun _ => fun
  | [d1, d2] => { results := [.lit (.bool false)], args := [d1, d2] }
  | _ => none }
def FrameSumsWrongFalsely : Prop := frameSumsRow.holds Tryd.pinned (OpenSpec.ofChange frameSumsWrong)

/-- 'telltalelaw07.FrameSeals': WHATEVER THE INPUT: true; the input reads as it did. -/
def frameSealsSpec : ChangeSpec := { name := "frameSeals", fn := fun _ => fun
  | [d] => { results := [.lit (.bool true)], args := [d] }
  | _ => none }
def frameSealsRow : OpenClaim := { program := "ytameigjggdagpaadoor", sum := "e2fe5f928fce921ce5881c666c2145191a6293453b74bc38c3fe9cc6139ae772", func := "telltale/telltalelaw07.FrameSeals", spec := "frameSeals", named := ["telltale/frame.table"], apart := false, laid := [("telltale/frame.table", laid_telltale_frame_table)] }
def FrameSealsSaid : Prop := frameSealsRow.holds Tryd.pinned (OpenSpec.ofChange frameSealsSpec)

/-- ITS FALSE NEIGHBOUR: 'it returns false'. Refute it at one input. -/
def frameSealsWrong : ChangeSpec := { name := "frameSeals", fn := fun _ => fun
  | [d] => { results := [.lit (.bool false)], args := [d] }
  | _ => none }
def FrameSealsWrongFalsely : Prop := frameSealsRow.holds Tryd.pinned (OpenSpec.ofChange frameSealsWrong)

/-- 'telltalelaw07.FrameOpens': WHATEVER THE INPUT: true; the input reads as it did. -/
def frameOpensSpec : ChangeSpec := { name := "frameOpens", fn := fun _ => fun
  | [d] => { results := [.lit (.bool true)], args := [d] }
  | _ => none }
def frameOpensRow : OpenClaim := { program := "ytameigjggdagpaadoor", sum := "e2fe5f928fce921ce5881c666c2145191a6293453b74bc38c3fe9cc6139ae772", func := "telltale/telltalelaw07.FrameOpens", spec := "frameOpens", named := ["telltale/frame.table"], apart := false, laid := [("telltale/frame.table", laid_telltale_frame_table)] }
def FrameOpensSaid : Prop := frameOpensRow.holds Tryd.pinned (OpenSpec.ofChange frameOpensSpec)

/-- ITS FALSE NEIGHBOUR: 'it returns false'. Refute it at one input. -/
def frameOpensWrong : ChangeSpec := { name := "frameOpens", fn := fun _ => fun
  | [d] => { results := [.lit (.bool false)], args := [d] }
  | _ => none }
def FrameOpensWrongFalsely : Prop := frameOpensRow.holds Tryd.pinned (OpenSpec.ofChange frameOpensWrong)

/-- 'telltalelaw07.FrameTurned': WHATEVER THE INPUT: true; the input reads as it did. -/
def frameTurnedSpec : ChangeSpec := { name := "frameTurned", fn := fun _ => fun
  | [d1, d2, d3] => { results := [.lit (.bool true)], args := [d1, d2, d3] }
  | _ => none }
def frameTurnedRow : OpenClaim := { program := "ytameigjggdagpaadoor", sum := "e2fe5f928fce921ce5881c666c2145191a6293453b74bc38c3fe9cc6139ae772", func := "telltale/telltalelaw07.FrameTurned", spec := "frameTurned", named := ["telltale/frame.table"], apart := false, laid := [("telltale/frame.table", laid_telltale_frame_table)] }
def FrameTurnedSaid : Prop := frameTurnedRow.holds Tryd.pinned (OpenSpec.ofChange frameTurnedSpec)

/-- ITS FALSE NEIGHBOUR: 'it returns false'. Refute it at one input. -/
def frameTurnedWrong : ChangeSpec := { name := "frameTurned", fn := fun _ => fun
  | [d1, d2, d3] => { results := [.lit (.bool false)], args := [d1, d2, d3] }
  | _ => none }
def FrameTurnedWrongFalsely : Prop := frameTurnedRow.holds Tryd.pinned (OpenSpec.ofChange frameTurnedWrong)

/-- 'telltalelaw07.FrameCuts': WHATEVER THE INPUT: true; the input reads as it did. -/
def frameCutsSpec : ChangeSpec := { name := "frameCuts", fn := fun _ => fun
  | [d] => { results := [.lit (.bool true)], args := [d] }
  | _ => none }
def frameCutsRow : OpenClaim := { program := "ytameigjggdagpaadoor", sum := "e2fe5f928fce921ce5881c666c2145191a6293453b74bc38c3fe9cc6139ae772", func := "telltale/telltalelaw07.FrameCuts", spec := "frameCuts", named := ["telltale/frame.table"], apart := false, laid := [("telltale/frame.table", laid_telltale_frame_table)] }
def FrameCutsSaid : Prop := frameCutsRow.holds Tryd.pinned (OpenSpec.ofChange frameCutsSpec)

/-- ITS FALSE NEIGHBOUR: 'it returns false'. Refute it at one input. -/
def frameCutsWrong : ChangeSpec := { name := "frameCuts", fn := fun _ => fun
  | [d] => { results := [.lit (.bool false)], args := [d] }
  | _ => none }
def FrameCutsWrongFalsely : Prop := frameCutsRow.holds Tryd.pinned (OpenSpec.ofChange frameCutsWrong)

/-- 'telltalelaw07.FrameBack': WHATEVER THE INPUT: true; the input reads as it did. -/
def frameBackSpec : ChangeSpec := { name := "frameBack", fn := fun _ => fun
  | [d1, d2, d3] => { results := [.lit (.bool true)], args := [d1, d2, d3] }
  | _ => none }
def frameBackRow : OpenClaim := { program := "ytameigjggdagpaadoor", sum := "e2fe5f928fce921ce5881c666c2145191a6293453b74bc38c3fe9cc6139ae772", func := "telltale/telltalelaw07.FrameBack", spec := "frameBack", named := ["telltale/frame.table"], apart := false, laid := [("telltale/frame.table", laid_telltale_frame_table)] }
def FrameBackSaid : Prop := frameBackRow.holds Tryd.pinned (OpenSpec.ofChange frameBackSpec)

/-- ITS FALSE NEIGHBOUR: 'it returns false'. Refute it at one input. -/
def frameBackWrong : ChangeSpec := { name := "frameBack", fn := fun _ => fun
  | [d1, d2, d3] => { results := [.lit (.bool false)], args := [d1, d2, d3] }
  | _ => none }
def FrameBackWrongFalsely : Prop := frameBackRow.holds Tryd.pinned (OpenSpec.ofChange frameBackWrong)

/- THE SECOND FORM. 'bulk': how many values and letters a reading holds, each counted each time it is reached (what is shared counts as often as it is met; a slice's spare places count too). A statement '..UptoSaid' is the law's where the arguments, and the package variables that the reading takes, are together of bulk at most 1048576: NARROWER than '..Said'. Prove '..Said' where nothing that the law and all that it calls make is longer than what came in: it says more and counts as full. Else prove '..UptoSaid'. A law counts once. -/
mutual
def uptoBulk {H : Type} : DataW H → Nat
  | .lit (.string bytes) => bytes.length + 1
  | .lit _ => 1
  | .nil => 1
  | .ptr d => uptoBulk d + 1
  | .slice elems spare => uptoBulkAll elems + uptoBulkAll spare + 1
  | .agg parts => uptoBulkAll parts + 1
  | .iface _ d => uptoBulk d + 1
  | .map entries => uptoBulkEntries entries + 1
  | .held _ => 1
def uptoBulkAll {H : Type} : List (DataW H) → Nat
  | [] => 0
  | d :: r => uptoBulk d + uptoBulkAll r
def uptoBulkEntries {H : Type} : List (Lit × DataW H) → Nat
  | [] => 0
  | x :: r => uptoBulkEntry x + uptoBulkEntries r
def uptoBulkEntry {H : Type} : Lit × DataW H → Nat
  | (.string bytes, d) => bytes.length + uptoBulk d + 1
  | (_, d) => uptoBulk d + 1
 end
def uptoSmall : (H : Type) → List (DataW H) → Bool := fun _ ds => decide (uptoBulkAll ds ≤ 1048576)
def OpenSpec.upto (s : _root_.Go.ChangeSpec) : _root_.Go.OpenSpec := { _root_.Go.OpenSpec.ofChange s with cond := some uptoSmall }

/-- 'telltalelaw07.FrameSums', WHERE WHAT IT READS IS OF BULK AT MOST 1048576: true; the input reads as it did. -/
def frameSumsUptoRow : OpenClaim := { program := "ytameigjggdagpaadoor", sum := "e2fe5f928fce921ce5881c666c2145191a6293453b74bc38c3fe9cc6139ae772", func := "telltale/telltalelaw07.FrameSums", spec := "frameSums", named := ["telltale/frame.table"], apart := false, laid := [("telltale/frame.table", laid_telltale_frame_table)], narrowed := true }
def FrameSumsUptoSaid : Prop := frameSumsUptoRow.holds Tryd.pinned (OpenSpec.upto frameSumsSpec)

/-- 'telltalelaw07.FrameSeals', WHERE WHAT IT READS IS OF BULK AT MOST 1048576: true; the input reads as it did. -/
def frameSealsUptoRow : OpenClaim := { program := "ytameigjggdagpaadoor", sum := "e2fe5f928fce921ce5881c666c2145191a6293453b74bc38c3fe9cc6139ae772", func := "telltale/telltalelaw07.FrameSeals", spec := "frameSeals", named := ["telltale/frame.table"], apart := false, laid := [("telltale/frame.table", laid_telltale_frame_table)], narrowed := true }
def FrameSealsUptoSaid : Prop := frameSealsUptoRow.holds Tryd.pinned (OpenSpec.upto frameSealsSpec)

/-- 'telltalelaw07.FrameOpens', WHERE WHAT IT READS IS OF BULK AT MOST 1048576: true; the input reads as it did. -/
def frameOpensUptoRow : OpenClaim := { program := "ytameigjggdagpaadoor", sum := "e2fe5f928fce921ce5881c666c2145191a6293453b74bc38c3fe9cc6139ae772", func := "telltale/telltalelaw07.FrameOpens", spec := "frameOpens", named := ["telltale/frame.table"], apart := false, laid := [("telltale/frame.table", laid_telltale_frame_table)], narrowed := true }
def FrameOpensUptoSaid : Prop := frameOpensUptoRow.holds Tryd.pinned (OpenSpec.upto frameOpensSpec)

/-- 'telltalelaw07.FrameTurned', WHERE WHAT IT READS IS OF BULK AT MOST 1048576: true; the input reads as it did. -/
def frameTurnedUptoRow : OpenClaim := { program := "ytameigjggdagpaadoor", sum := "e2fe5f928fce921ce5881c666c2145191a6293453b74bc38c3fe9cc6139ae772", func := "telltale/telltalelaw07.FrameTurned", spec := "frameTurned", named := ["telltale/frame.table"], apart := false, laid := [("telltale/frame.table", laid_telltale_frame_table)], narrowed := true }
def FrameTurnedUptoSaid : Prop := frameTurnedUptoRow.holds Tryd.pinned (OpenSpec.upto frameTurnedSpec)

/-- 'telltalelaw07.FrameCuts', WHERE WHAT IT READS IS OF BULK AT MOST 1048576: true; the input reads as it did. -/
def frameCutsUptoRow : OpenClaim := { program := "ytameigjggdagpaadoor", sum := "e2fe5f928fce921ce5881c666c2145191a6293453b74bc38c3fe9cc6139ae772", func := "telltale/telltalelaw07.FrameCuts", spec := "frameCuts", named := ["telltale/frame.table"], apart := false, laid := [("telltale/frame.table", laid_telltale_frame_table)], narrowed := true }
def FrameCutsUptoSaid : Prop := frameCutsUptoRow.holds Tryd.pinned (OpenSpec.upto frameCutsSpec)

/-- 'telltalelaw07.FrameBack', WHERE WHAT IT READS IS OF BULK AT MOST 1048576: true; the input reads as it did. -/
def frameBackUptoRow : OpenClaim := { program := "ytameigjggdagpaadoor", sum := "e2fe5f928fce921ce5881c666c2145191a6293453b74bc38c3fe9cc6139ae772", func := "telltale/telltalelaw07.FrameBack", spec := "frameBack", named := ["telltale/frame.table"], apart := false, laid := [("telltale/frame.table", laid_telltale_frame_table)], narrowed := true }
def FrameBackUptoSaid : Prop := frameBackUptoRow.holds Tryd.pinned (OpenSpec.upto frameBackSpec)

end Rows
end Go.Proofs.YtameigjggdagpaaDoor
