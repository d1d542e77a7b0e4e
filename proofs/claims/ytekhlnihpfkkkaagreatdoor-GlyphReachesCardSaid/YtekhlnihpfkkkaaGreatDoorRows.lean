/-
  NARROWER THAN 'FOR EVERY INPUT', by the rows' own cells (each row's printed sentence says how): GlyphReaches: laid.
  DERIVED. THE GIVEN ROWS OF THIS SEAT. 1 by the template 'for every input the law returns true; each argument reads behind the call as it read before'; 0 by the template 'total and deterministic' (their statements: YtekhlnihpfkkkaaGreatDoorTotals.lean).
  GIVEN WITH THE SEED: the statements are not yours to turn. If you find one false, say at which input.
  Laid BY PROGRAM, IN A SANDBOX (cutbox-rows.mjs): the forced cells as the released guide's own fill.sh prints them over the translation 228f309ad8a268f7… (all of the seat's roots in one cut). By AI agents, Wed Nov 11 2026. No macro, syntax, notation, axiom, sorry.
-/
import Derived.Test.YtekhlnihpfkkkaaGreatDoorChecked
import GoSem.Claim
import GoSem.ClaimJoined
import GoSem.ClaimMapViews
import Derived.JoinedTies
import Derived.KernelRfl
namespace Go.Proofs.YtekhlnihpfkkkaaGreatDoor
/- THE CELL 'sum', in the pinned program and in every row, IS THE sha256 OF THE DUMP (.gsa) THAT YtekhlnihpfkkkaaGreatDoorProg.lean LOADS. Nothing in Lean hashes anything: it is a label: what it is worth is what the hold of that sum in a sandbox is worth. -/
noncomputable def Tryz.pinned : Pinned := { name := "ytekhlnihpfkkkaagreatdoor", sum := "228f309ad8a268f73aaa73c2cb368dd918e67e23394baccc442e89c467fccae0", checked := Tryz.checked }
namespace Rows
def none {H : Type} : Left H := { results := [], args := [] }

/- WHAT THE LISTED PACKAGE-LEVEL VARIABLES READ AS WHEN THE CALL BEGINS. Each datum BY PROGRAM (the guide's laid-datum.mjs) off the statement by which the dump's own 'gosem.cut.vars' lays the variable. In a bare row this is a premise. The card (YtekhlnihpfkkkaaGreatDoorCards.lean) ties it to the program's text. -/
def laid_indelible_verify_kinds {H : Type} : DataW H := .agg [.agg [.lit (.string []), .lit (.bool false), .lit (.bool false), .lit (.int .i64 0), .lit (.int .i64 0)], .agg [.lit (.string [112, 117, 115, 104]), .lit (.bool true), .lit (.bool false), .lit (.int .i64 0), .lit (.int .i64 1)], .agg [.lit (.string [97, 100, 100]), .lit (.bool false), .lit (.bool false), .lit (.int .i64 2), .lit (.int .i64 1)], .agg [.lit (.string [115, 117, 98]), .lit (.bool false), .lit (.bool false), .lit (.int .i64 2), .lit (.int .i64 1)], .agg [.lit (.string [109, 105, 110]), .lit (.bool false), .lit (.bool false), .lit (.int .i64 2), .lit (.int .i64 1)], .agg [.lit (.string [109, 97, 120]), .lit (.bool false), .lit (.bool false), .lit (.int .i64 2), .lit (.int .i64 1)], .agg [.lit (.string [110, 101, 103]), .lit (.bool false), .lit (.bool false), .lit (.int .i64 1), .lit (.int .i64 1)], .agg [.lit (.string [104, 97, 108, 102]), .lit (.bool false), .lit (.bool false), .lit (.int .i64 1), .lit (.int .i64 1)], .agg [.lit (.string [114, 111, 117, 110, 100]), .lit (.bool false), .lit (.bool false), .lit (.int .i64 1), .lit (.int .i64 1)], .agg [.lit (.string [115, 105, 122, 101]), .lit (.bool false), .lit (.bool false), .lit (.int .i64 0), .lit (.int .i64 1)], .agg [.lit (.string [103, 101, 116, 120]), .lit (.bool true), .lit (.bool false), .lit (.int .i64 0), .lit (.int .i64 1)], .agg [.lit (.string [103, 101, 116, 121]), .lit (.bool true), .lit (.bool false), .lit (.int .i64 0), .lit (.int .i64 1)], .agg [.lit (.string [115, 101, 116, 120]), .lit (.bool true), .lit (.bool false), .lit (.int .i64 1), .lit (.int .i64 0)], .agg [.lit (.string [115, 101, 116, 121]), .lit (.bool true), .lit (.bool false), .lit (.int .i64 1), .lit (.int .i64 0)], .agg [.lit (.string [105, 102]), .lit (.bool true), .lit (.bool false), .lit (.int .i64 1), .lit (.int .i64 0)], .agg [.lit (.string [108, 111, 111, 112]), .lit (.bool true), .lit (.bool true), .lit (.int .i64 0), .lit (.int .i64 0)]]
def laid_indelible_font_checks {H : Type} : DataW H := .iface "func table" (.slice [.agg [.iface "func" (.lit (.string [105, 110, 100, 101, 108, 105, 98, 108, 101, 47, 102, 111, 110, 116, 46, 104, 101, 97, 100]))], .agg [.iface "func" (.lit (.string [105, 110, 100, 101, 108, 105, 98, 108, 101, 47, 102, 111, 110, 116, 46, 103, 108, 121, 112, 104, 115]))], .agg [.iface "func" (.lit (.string [105, 110, 100, 101, 108, 105, 98, 108, 101, 47, 102, 111, 110, 116, 46, 99, 104, 97, 114, 115]))], .agg [.iface "func" (.lit (.string [105, 110, 100, 101, 108, 105, 98, 108, 101, 47, 102, 111, 110, 116, 46, 108, 111, 111, 107, 117, 112, 115]))], .agg [.iface "func" (.lit (.string [105, 110, 100, 101, 108, 105, 98, 108, 101, 47, 102, 111, 110, 116, 46, 107, 101, 114, 110, 115]))]] [])

/-- 'indeliblelaw11.GlyphReaches': WHATEVER THE INPUT: true; the input reads as it did. -/
def glyphReachesSpec : ChangeSpec := { name := "glyphReaches", fn := fun _ => fun
  | [d1, d2, d3] => { results := [.lit (.bool true)], args := [d1, d2, d3] }
  | _ => none }
def glyphReachesRow : OpenClaim := { program := "ytekhlnihpfkkkaagreatdoor", sum := "228f309ad8a268f73aaa73c2cb368dd918e67e23394baccc442e89c467fccae0", func := "indelible/indeliblelaw11.GlyphReaches", spec := "glyphReaches", unfollowed := true, recurses := true, named := ["indelible/font.checks", "indelible/verify.kinds"], apart := false, laid := [("indelible/verify.kinds", laid_indelible_verify_kinds), ("indelible/font.checks", laid_indelible_font_checks)] }
def GlyphReachesSaid : Prop := glyphReachesRow.holds Tryz.pinned (OpenSpec.ofChange glyphReachesSpec)

/-- ITS FALSE NEIGHBOUR: 'it returns false'. Refute it at one input. -/
def glyphReachesWrong : ChangeSpec := { name := "glyphReaches", fn := fun _ => fun
  | [d1, d2, d3] => { results := [.lit (.bool false)], args := [d1, d2, d3] }
  | _ => none }
def GlyphReachesWrongFalsely : Prop := glyphReachesRow.holds Tryz.pinned (OpenSpec.ofChange glyphReachesWrong)

/- THE SECOND FORM. 'bulk': how many values and letters a reading holds, each counted each time it is reached (what is shared counts as often as it is met; a slice's spare places count too). A statement '..UptoSaid' is the law's where the arguments, and the package variables that the reading takes, are together of bulk at most 1048576: NARROWER than '..Said'. Prove '..Said' where nothing that the law and all that it calls make is longer than what came in: it says more and counts as full. Else prove '..UptoSaid'. A law counts once. -/
mutual
def uptoBulk {H : Type} : DataW H → Nat
  | .lit (.string bytes) => bytes.length + 1
  | .lit _ => 1
  | .nil => 1
  | .ptr d => uptoBulk d + 1
  | .slice elems spare => uptoBulkAll elems + uptoBulkAll spare + 1
  | .agg parts => uptoBulkAll parts + 1
  | .iface _ d => uptoBulk d + 1
  | .map entries => uptoBulkEntries entries + 1
  | .held _ => 1
def uptoBulkAll {H : Type} : List (DataW H) → Nat
  | [] => 0
  | d :: r => uptoBulk d + uptoBulkAll r
def uptoBulkEntries {H : Type} : List (Lit × DataW H) → Nat
  | [] => 0
  | x :: r => uptoBulkEntry x + uptoBulkEntries r
def uptoBulkEntry {H : Type} : Lit × DataW H → Nat
  | (.string bytes, d) => bytes.length + uptoBulk d + 1
  | (_, d) => uptoBulk d + 1
 end
def uptoSmall : (H : Type) → List (DataW H) → Bool := fun _ ds => decide (uptoBulkAll ds ≤ 1048576)
def OpenSpec.upto (s : _root_.Go.ChangeSpec) : _root_.Go.OpenSpec := { _root_.Go.OpenSpec.ofChange s with cond := some uptoSmall }

/-- 'indeliblelaw11.GlyphReaches', WHERE WHAT IT READS IS OF BULK AT MOST 1048576: true; the input reads as it did. -/
def glyphReachesUptoRow : OpenClaim := { program := "ytekhlnihpfkkkaagreatdoor", sum := "228f309ad8a268f73aaa73c2cb368dd918e67e23394baccc442e89c467fccae0", func := "indelible/indeliblelaw11.GlyphReaches", spec := "glyphReaches", unfollowed := true, recurses := true, named := ["indelible/font.checks", "indelible/verify.kinds"], apart := false, laid := [("indelible/verify.kinds", laid_indelible_verify_kinds), ("indelible/font.checks", laid_indelible_font_checks)], narrowed := true }
def GlyphReachesUptoSaid : Prop := glyphReachesUptoRow.holds Tryz.pinned (OpenSpec.upto glyphReachesSpec)

end Rows
end Go.Proofs.YtekhlnihpfkkkaaGreatDoor
