/-
  No cell of these rows narrows 'for every input' (looked for: loops, veiled, ifaces, maps, wideKeys, modest, calm, conditions, laid).
  DERIVED. THE GIVEN ROWS OF THIS SEAT. 5 by the template 'for every input the law returns true; each argument reads behind the call as it read before'; 0 by the template 'total and deterministic' (their statements: YtjnjmnfacaakfaaTotals.lean).
  GIVEN WITH THE SEED: the statements are not yours to turn. If you find one false, say at which input.
  Laid BY PROGRAM, IN A SANDBOX (cutbox-rows.mjs): the forced cells as the released guide's own fill.sh prints them over the translation 441e09501eeaa8cc… (all of the seat's roots in one cut). By AI agents, Wed Nov 11 2026. No macro, syntax, notation, axiom, sorry.
-/
import Derived.Test.YtjnjmnfacaakfaaChecked
import GoSem.Claim
import GoSem.ClaimJoined
import GoSem.ClaimMapViews
import Derived.JoinedTies
import Derived.KernelRfl
namespace Go.Proofs.Ytjnjmnfacaakfaa
/- THE CELL 'sum', in the pinned program and in every row, IS THE sha256 OF THE DUMP (.gsa) THAT YtjnjmnfacaakfaaProg.lean LOADS. Nothing in Lean hashes anything: it is a label: what it is worth is what the hold of that sum in a sandbox is worth. -/
noncomputable def Try.pinned : Pinned := { name := "ytjnjmnfacaakfaa", sum := "441e09501eeaa8cc35ce0f605e0b39e137e52253e5ce6b13afee6af75520eabb", checked := Try.checked }
namespace Rows
def none {H : Type} : Left H := { results := [], args := [] }

/-- 'indeliblelaw41.LanguageParses': WHATEVER THE INPUT: true; the input reads as it did. -/
def languageParsesSpec : ChangeSpec := { name := "languageParses", fn := fun _ => fun
  | [d1, d2, d3] => { results := [.lit (.bool true)], args := [d1, d2, d3] }
  | _ => none }
def languageParsesRow : OpenClaim := { program := "ytjnjmnfacaakfaa", sum := "441e09501eeaa8cc35ce0f605e0b39e137e52253e5ce6b13afee6af75520eabb", func := "indelible/indeliblelaw41.LanguageParses", spec := "languageParses", inPlace := ["internal/bytealg.IndexByteString", "internal/bytealg.IndexString"], unfollowed := true, recurses := true, named := ["internal/bytealg.MaxLen"], plainKeys := false, apart := false }
def LanguageParsesSaid : Prop := languageParsesRow.holds Try.pinned (OpenSpec.ofChange languageParsesSpec)

/-- ITS FALSE NEIGHBOUR: 'it returns false'. Refute it at one input. -/
def languageParsesWrong : ChangeSpec := { name := "languageParses", fn := fun _ => fun
  | [d1, d2, d3] => { results := [.lit (.bool false)], args := [d1, d2, d3] }
  | _ => none }
def LanguageParsesWrongFalsely : Prop := languageParsesRow.holds Try.pinned (OpenSpec.ofChange languageParsesWrong)

/-- 'indeliblelaw41.LanguageUnions': WHATEVER THE INPUT: true; the input reads as it did. -/
def languageUnionsSpec : ChangeSpec := { name := "languageUnions", fn := fun _ => fun
  | [d1, d2, d3] => { results := [.lit (.bool true)], args := [d1, d2, d3] }
  | _ => none }
def languageUnionsRow : OpenClaim := { program := "ytjnjmnfacaakfaa", sum := "441e09501eeaa8cc35ce0f605e0b39e137e52253e5ce6b13afee6af75520eabb", func := "indelible/indeliblelaw41.LanguageUnions", spec := "languageUnions", inPlace := ["internal/bytealg.IndexByteString", "internal/bytealg.IndexString"], unfollowed := true, recurses := true, named := ["internal/bytealg.MaxLen"], plainKeys := false, apart := false }
def LanguageUnionsSaid : Prop := languageUnionsRow.holds Try.pinned (OpenSpec.ofChange languageUnionsSpec)

/-- ITS FALSE NEIGHBOUR: 'it returns false'. Refute it at one input. -/
def languageUnionsWrong : ChangeSpec := { name := "languageUnions", fn := fun _ => fun
  | [d1, d2, d3] => { results := [.lit (.bool false)], args := [d1, d2, d3] }
  | _ => none }
def LanguageUnionsWrongFalsely : Prop := languageUnionsRow.holds Try.pinned (OpenSpec.ofChange languageUnionsWrong)

/-- 'indeliblelaw41.LanguageOrders': WHATEVER THE INPUT: true; the input reads as it did. -/
def languageOrdersSpec : ChangeSpec := { name := "languageOrders", fn := fun _ => fun
  | [d1, d2, d3] => { results := [.lit (.bool true)], args := [d1, d2, d3] }
  | _ => none }
def languageOrdersRow : OpenClaim := { program := "ytjnjmnfacaakfaa", sum := "441e09501eeaa8cc35ce0f605e0b39e137e52253e5ce6b13afee6af75520eabb", func := "indelible/indeliblelaw41.LanguageOrders", spec := "languageOrders", inPlace := ["internal/bytealg.IndexByteString", "internal/bytealg.IndexString"], unfollowed := true, recurses := true, named := ["internal/bytealg.MaxLen"], plainKeys := false, apart := false }
def LanguageOrdersSaid : Prop := languageOrdersRow.holds Try.pinned (OpenSpec.ofChange languageOrdersSpec)

/-- ITS FALSE NEIGHBOUR: 'it returns false'. Refute it at one input. -/
def languageOrdersWrong : ChangeSpec := { name := "languageOrders", fn := fun _ => fun
  | [d1, d2, d3] => { results := [.lit (.bool false)], args := [d1, d2, d3] }
  | _ => none }
def LanguageOrdersWrongFalsely : Prop := languageOrdersRow.holds Try.pinned (OpenSpec.ofChange languageOrdersWrong)

/-- 'indeliblelaw41.LanguageAnswers': WHATEVER THE INPUT: true; the input reads as it did. -/
def languageAnswersSpec : ChangeSpec := { name := "languageAnswers", fn := fun _ => fun
  | [d1, d2, d3, d4, d5, d6] => { results := [.lit (.bool true)], args := [d1, d2, d3, d4, d5, d6] }
  | _ => none }
def languageAnswersRow : OpenClaim := { program := "ytjnjmnfacaakfaa", sum := "441e09501eeaa8cc35ce0f605e0b39e137e52253e5ce6b13afee6af75520eabb", func := "indelible/indeliblelaw41.LanguageAnswers", spec := "languageAnswers", inPlace := ["internal/bytealg.IndexByteString", "internal/bytealg.IndexString"], unfollowed := true, recurses := true, named := ["internal/bytealg.MaxLen"], plainKeys := false, apart := false }
def LanguageAnswersSaid : Prop := languageAnswersRow.holds Try.pinned (OpenSpec.ofChange languageAnswersSpec)

/-- ITS FALSE NEIGHBOUR: 'it returns false'. Refute it at one input. -/
def languageAnswersWrong : ChangeSpec := { name := "languageAnswers", fn := fun _ => fun
  | [d1, d2, d3, d4, d5, d6] => { results := [.lit (.bool false)], args := [d1, d2, d3, d4, d5, d6] }
  | _ => none }
def LanguageAnswersWrongFalsely : Prop := languageAnswersRow.holds Try.pinned (OpenSpec.ofChange languageAnswersWrong)

/-- 'indeliblelaw41.LanguageMeans': WHATEVER THE INPUT: true; the input reads as it did. -/
def languageMeansSpec : ChangeSpec := { name := "languageMeans", fn := fun _ => fun
  | [d1, d2] => { results := [.lit (.bool true)], args := [d1, d2] }
  | _ => none }
def languageMeansRow : OpenClaim := { program := "ytjnjmnfacaakfaa", sum := "441e09501eeaa8cc35ce0f605e0b39e137e52253e5ce6b13afee6af75520eabb", func := "indelible/indeliblelaw41.LanguageMeans", spec := "languageMeans", inPlace := ["internal/bytealg.IndexByteString", "internal/bytealg.IndexString"], unfollowed := true, recurses := true, named := ["internal/bytealg.MaxLen"], plainKeys := false, apart := false }
def LanguageMeansSaid : Prop := languageMeansRow.holds Try.pinned (OpenSpec.ofChange languageMeansSpec)

/-- ITS FALSE NEIGHBOUR: 'it returns false'. Refute it at one input. -/
def languageMeansWrong : ChangeSpec := { name := "languageMeans", fn := fun _ => fun
  | [d1, d2] => { results := [.lit (.bool false)], args := [d1, d2] }
  | _ => none }
def LanguageMeansWrongFalsely : Prop := languageMeansRow.holds Try.pinned (OpenSpec.ofChange languageMeansWrong)

/- THE SECOND FORM. 'bulk': how many values and letters a reading holds, each counted each time it is reached (what is shared counts as often as it is met; a slice's spare places count too). A statement '..UptoSaid' is the law's where the arguments, and the package variables that the reading takes, are together of bulk at most 1048576: NARROWER than '..Said'. Prove '..Said' where nothing that the law and all that it calls make is longer than what came in: it says more and counts as full. Else prove '..UptoSaid'. A law counts once. -/
mutual
def uptoBulk {H : Type} : DataW H → Nat
  | .lit (.string bytes) => bytes.length + 1
  | .lit _ => 1
  | .nil => 1
  | .ptr d => uptoBulk d + 1
  | .slice elems spare => uptoBulkAll elems + uptoBulkAll spare + 1
  | .agg parts => uptoBulkAll parts + 1
  | .iface _ d => uptoBulk d + 1
  | .map entries => uptoBulkEntries entries + 1
  | .held _ => 1
def uptoBulkAll {H : Type} : List (DataW H) → Nat
  | [] => 0
  | d :: r => uptoBulk d + uptoBulkAll r
def uptoBulkEntries {H : Type} : List (Lit × DataW H) → Nat
  | [] => 0
  | x :: r => uptoBulkEntry x + uptoBulkEntries r
def uptoBulkEntry {H : Type} : Lit × DataW H → Nat
  | (.string bytes, d) => bytes.length + uptoBulk d + 1
  | (_, d) => uptoBulk d + 1
 end
def uptoSmall : (H : Type) → List (DataW H) → Bool := fun _ ds => decide (uptoBulkAll ds ≤ 1048576)
def OpenSpec.upto (s : _root_.Go.ChangeSpec) : _root_.Go.OpenSpec := { _root_.Go.OpenSpec.ofChange s with cond := some uptoSmall }

/-- 'indeliblelaw41.LanguageParses', WHERE WHAT IT READS IS OF BULK AT MOST 1048576: true; the input reads as it did. -/
def languageParsesUptoRow : OpenClaim := { program := "ytjnjmnfacaakfaa", sum := "441e09501eeaa8cc35ce0f605e0b39e137e52253e5ce6b13afee6af75520eabb", func := "indelible/indeliblelaw41.LanguageParses", spec := "languageParses", inPlace := ["internal/bytealg.IndexByteString", "internal/bytealg.IndexString"], unfollowed := true, recurses := true, named := ["internal/bytealg.MaxLen"], plainKeys := false, apart := false, narrowed := true }
def LanguageParsesUptoSaid : Prop := languageParsesUptoRow.holds Try.pinned (OpenSpec.upto languageParsesSpec)

/-- 'indeliblelaw41.LanguageUnions', WHERE WHAT IT READS IS OF BULK AT MOST 1048576: true; the input reads as it did. -/
def languageUnionsUptoRow : OpenClaim := { program := "ytjnjmnfacaakfaa", sum := "441e09501eeaa8cc35ce0f605e0b39e137e52253e5ce6b13afee6af75520eabb", func := "indelible/indeliblelaw41.LanguageUnions", spec := "languageUnions", inPlace := ["internal/bytealg.IndexByteString", "internal/bytealg.IndexString"], unfollowed := true, recurses := true, named := ["internal/bytealg.MaxLen"], plainKeys := false, apart := false, narrowed := true }
def LanguageUnionsUptoSaid : Prop := languageUnionsUptoRow.holds Try.pinned (OpenSpec.upto languageUnionsSpec)

/-- 'indeliblelaw41.LanguageOrders', WHERE WHAT IT READS IS OF BULK AT MOST 1048576: true; the input reads as it did. -/
def languageOrdersUptoRow : OpenClaim := { program := "ytjnjmnfacaakfaa", sum := "441e09501eeaa8cc35ce0f605e0b39e137e52253e5ce6b13afee6af75520eabb", func := "indelible/indeliblelaw41.LanguageOrders", spec := "languageOrders", inPlace := ["internal/bytealg.IndexByteString", "internal/bytealg.IndexString"], unfollowed := true, recurses := true, named := ["internal/bytealg.MaxLen"], plainKeys := false, apart := false, narrowed := true }
def LanguageOrdersUptoSaid : Prop := languageOrdersUptoRow.holds Try.pinned (OpenSpec.upto languageOrdersSpec)

/-- 'indeliblelaw41.LanguageAnswers', WHERE WHAT IT READS IS OF BULK AT MOST 1048576: true; the input reads as it did. -/
def languageAnswersUptoRow : OpenClaim := { program := "ytjnjmnfacaakfaa", sum := "441e09501eeaa8cc35ce0f605e0b39e137e52253e5ce6b13afee6af75520eabb", func := "indelible/indeliblelaw41.LanguageAnswers", spec := "languageAnswers", inPlace := ["internal/bytealg.IndexByteString", "internal/bytealg.IndexString"], unfollowed := true, recurses := true, named := ["internal/bytealg.MaxLen"], plainKeys := false, apart := false, narrowed := true }
def LanguageAnswersUptoSaid : Prop := languageAnswersUptoRow.holds Try.pinned (OpenSpec.upto languageAnswersSpec)

/-- 'indeliblelaw41.LanguageMeans', WHERE WHAT IT READS IS OF BULK AT MOST 1048576: true; the input reads as it did. -/
def languageMeansUptoRow : OpenClaim := { program := "ytjnjmnfacaakfaa", sum := "441e09501eeaa8cc35ce0f605e0b39e137e52253e5ce6b13afee6af75520eabb", func := "indelible/indeliblelaw41.LanguageMeans", spec := "languageMeans", inPlace := ["internal/bytealg.IndexByteString", "internal/bytealg.IndexString"], unfollowed := true, recurses := true, named := ["internal/bytealg.MaxLen"], plainKeys := false, apart := false, narrowed := true }
def LanguageMeansUptoSaid : Prop := languageMeansUptoRow.holds Try.pinned (OpenSpec.upto languageMeansSpec)

end Rows
end Go.Proofs.Ytjnjmnfacaakfaa
