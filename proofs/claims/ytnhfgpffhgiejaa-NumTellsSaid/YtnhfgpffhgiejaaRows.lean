/-
  No cell of these rows narrows 'for every input' (looked for: loops, veiled, ifaces, maps, wideKeys, modest, calm, conditions, laid).
  DERIVED. THE GIVEN ROWS OF THIS SEAT. 6 by the template 'for every input the law returns true; each argument reads behind the call as it read before'; 0 by the template 'total and deterministic' (their statements: YtnhfgpffhgiejaaTotals.lean).
  GIVEN WITH THE SEED: the statements are not yours to turn. If you find one false, say at which input.
  Laid BY PROGRAM, IN A SANDBOX (cutbox-rows.mjs): the forced cells as the released guide's own fill.sh prints them over the translation bceadcab7d1f600a… (all of the seat's roots in one cut). By AI agents, Wed Nov 11 2026. No macro, syntax, notation, axiom, sorry.
-/
import Derived.Test.YtnhfgpffhgiejaaChecked
import GoSem.Claim
import GoSem.ClaimJoined
import GoSem.ClaimMapViews
import Derived.JoinedTies
import Derived.KernelRfl
namespace Go.Proofs.Ytnhfgpffhgiejaa
/- THE CELL 'sum', in the pinned program and in every row, IS THE sha256 OF THE DUMP (.gsa) THAT YtnhfgpffhgiejaaProg.lean LOADS. Nothing in Lean hashes anything: it is a label: what it is worth is what the hold of that sum in a sandbox is worth. -/
noncomputable def Try.pinned : Pinned := { name := "ytnhfgpffhgiejaa", sum := "bceadcab7d1f600a4105b025e8f76cfecc7a826431c12ef0ee49bbb72f00a957", checked := Try.checked }
namespace Rows
def none {H : Type} : Left H := { results := [], args := [] }

/-- 'pelicanlaw03.NumBack': WHATEVER THE INPUT: true; the input reads as it did. -/
def numBackSpec : ChangeSpec := { name := "numBack", fn := fun _ => fun
  | [d1, d2, d3, d4, d5] => { results := [.lit (.bool true)], args := [d1, d2, d3, d4, d5] }
  | _ => none }
def numBackRow : OpenClaim := { program := "ytnhfgpffhgiejaa", sum := "bceadcab7d1f600a4105b025e8f76cfecc7a826431c12ef0ee49bbb72f00a957", func := "pelican/pelicanlaw03.NumBack", spec := "numBack", apart := false }
def NumBackSaid : Prop := numBackRow.holds Try.pinned (OpenSpec.ofChange numBackSpec)

/-- ITS FALSE NEIGHBOUR: 'it returns false'. Refute it at one input. -/
def numBackWrong : ChangeSpec := { name := "numBack", fn := fun _ => fun
  | [d1, d2, d3, d4, d5] => { results := [.lit (.bool false)], args := [d1, d2, d3, d4, d5] }
  | _ => none }
def NumBackWrongFalsely : Prop := numBackRow.holds Try.pinned (OpenSpec.ofChange numBackWrong)

/-- 'pelicanlaw03.NumOrder': WHATEVER THE INPUT: true; the input reads as it did. -/
def numOrderSpec : ChangeSpec := { name := "numOrder", fn := fun _ => fun
  | [d1, d2, d3] => { results := [.lit (.bool true)], args := [d1, d2, d3] }
  | _ => none }
def numOrderRow : OpenClaim := { program := "ytnhfgpffhgiejaa", sum := "bceadcab7d1f600a4105b025e8f76cfecc7a826431c12ef0ee49bbb72f00a957", func := "pelican/pelicanlaw03.NumOrder", spec := "numOrder", apart := false }
def NumOrderSaid : Prop := numOrderRow.holds Try.pinned (OpenSpec.ofChange numOrderSpec)

/-- ITS FALSE NEIGHBOUR: 'it returns false'. Refute it at one input. -/
def numOrderWrong : ChangeSpec := { name := "numOrder", fn := fun _ => fun
  | [d1, d2, d3] => { results := [.lit (.bool false)], args := [d1, d2, d3] }
  | _ => none }
def NumOrderWrongFalsely : Prop := numOrderRow.holds Try.pinned (OpenSpec.ofChange numOrderWrong)

/-- 'pelicanlaw03.NumFits': WHATEVER THE INPUT: true; the input reads as it did. -/
def numFitsSpec : ChangeSpec := { name := "numFits", fn := fun _ => fun
  | [d1, d2] => { results := [.lit (.bool true)], args := [d1, d2] }
  | _ => none }
def numFitsRow : OpenClaim := { program := "ytnhfgpffhgiejaa", sum := "bceadcab7d1f600a4105b025e8f76cfecc7a826431c12ef0ee49bbb72f00a957", func := "pelican/pelicanlaw03.NumFits", spec := "numFits", apart := false }
def NumFitsSaid : Prop := numFitsRow.holds Try.pinned (OpenSpec.ofChange numFitsSpec)

/-- ITS FALSE NEIGHBOUR: 'it returns false'. Refute it at one input. -/
def numFitsWrong : ChangeSpec := { name := "numFits", fn := fun _ => fun
  | [d1, d2] => { results := [.lit (.bool false)], args := [d1, d2] }
  | _ => none }
def NumFitsWrongFalsely : Prop := numFitsRow.holds Try.pinned (OpenSpec.ofChange numFitsWrong)

/-- 'pelicanlaw03.NumTells': WHATEVER THE INPUT: true; the input reads as it did. -/
def numTellsSpec : ChangeSpec := { name := "numTells", fn := fun _ => fun
  | [d1, d2, d3, d4, d5, d6] => { results := [.lit (.bool true)], args := [d1, d2, d3, d4, d5, d6] }
  | _ => none }
def numTellsRow : OpenClaim := { program := "ytnhfgpffhgiejaa", sum := "bceadcab7d1f600a4105b025e8f76cfecc7a826431c12ef0ee49bbb72f00a957", func := "pelican/pelicanlaw03.NumTells", spec := "numTells", apart := false }
def NumTellsSaid : Prop := numTellsRow.holds Try.pinned (OpenSpec.ofChange numTellsSpec)

/-- ITS FALSE NEIGHBOUR: 'it returns false'. Refute it at one input. -/
def numTellsWrong : ChangeSpec := { name := "numTells", fn := fun _ => fun
  | [d1, d2, d3, d4, d5, d6] => { results := [.lit (.bool false)], args := [d1, d2, d3, d4, d5, d6] }
  | _ => none }
def NumTellsWrongFalsely : Prop := numTellsRow.holds Try.pinned (OpenSpec.ofChange numTellsWrong)

/-- 'pelicanlaw03.NumCat': WHATEVER THE INPUT: true; the input reads as it did. -/
def numCatSpec : ChangeSpec := { name := "numCat", fn := fun _ => fun
  | [d1, d2] => { results := [.lit (.bool true)], args := [d1, d2] }
  | _ => none }
def numCatRow : OpenClaim := { program := "ytnhfgpffhgiejaa", sum := "bceadcab7d1f600a4105b025e8f76cfecc7a826431c12ef0ee49bbb72f00a957", func := "pelican/pelicanlaw03.NumCat", spec := "numCat", apart := false }
def NumCatSaid : Prop := numCatRow.holds Try.pinned (OpenSpec.ofChange numCatSpec)

/-- ITS FALSE NEIGHBOUR: 'it returns false'. Refute it at one input. -/
def numCatWrong : ChangeSpec := { name := "numCat", fn := fun _ => fun
  | [d1, d2] => { results := [.lit (.bool false)], args := [d1, d2] }
  | _ => none }
def NumCatWrongFalsely : Prop := numCatRow.holds Try.pinned (OpenSpec.ofChange numCatWrong)

/-- 'pelicanlaw03.NumCut': WHATEVER THE INPUT: true; the input reads as it did. -/
def numCutSpec : ChangeSpec := { name := "numCut", fn := fun _ => fun
  | [d1, d2, d3] => { results := [.lit (.bool true)], args := [d1, d2, d3] }
  | _ => none }
def numCutRow : OpenClaim := { program := "ytnhfgpffhgiejaa", sum := "bceadcab7d1f600a4105b025e8f76cfecc7a826431c12ef0ee49bbb72f00a957", func := "pelican/pelicanlaw03.NumCut", spec := "numCut", apart := false }
def NumCutSaid : Prop := numCutRow.holds Try.pinned (OpenSpec.ofChange numCutSpec)

/-- ITS FALSE NEIGHBOUR: 'it returns false'. Refute it at one input. -/
def numCutWrong : ChangeSpec := { name := "numCut", fn := fun _ => fun
  | [d1, d2, d3] => { results := [.lit (.bool false)], args := [d1, d2, d3] }
  | _ => none }
def NumCutWrongFalsely : Prop := numCutRow.holds Try.pinned (OpenSpec.ofChange numCutWrong)

/- THE SECOND FORM. 'bulk': how many values and letters a reading holds, each counted each time it is reached (what is shared counts as often as it is met; a slice's spare places count too). A statement '..UptoSaid' is the law's where the arguments, and the package variables that the reading takes, are together of bulk at most 1048576: NARROWER than '..Said'. Prove '..Said' where nothing that the law and all that it calls make is longer than what came in: it says more and counts as full. Else prove '..UptoSaid'. A law counts once. -/
mutual
def uptoBulk {H : Type} : DataW H → Nat
  | .lit (.string bytes) => bytes.length + 1
  | .lit _ => 1
  | .nil => 1
  | .ptr d => uptoBulk d + 1
  | .slice elems spare => uptoBulkAll elems + uptoBulkAll spare + 1
  | .agg parts => uptoBulkAll parts + 1
  | .iface _ d => uptoBulk d + 1
  | .map entries => uptoBulkEntries entries + 1
  | .held _ => 1
def uptoBulkAll {H : Type} : List (DataW H) → Nat
  | [] => 0
  | d :: r => uptoBulk d + uptoBulkAll r
def uptoBulkEntries {H : Type} : List (Lit × DataW H) → Nat
  | [] => 0
  | x :: r => uptoBulkEntry x + uptoBulkEntries r
def uptoBulkEntry {H : Type} : Lit × DataW H → Nat
  | (.string bytes, d) => bytes.length + uptoBulk d + 1
  | (_, d) => uptoBulk d + 1
 end
def uptoSmall : (H : Type) → List (DataW H) → Bool := fun _ ds => decide (uptoBulkAll ds ≤ 1048576)
def OpenSpec.upto (s : _root_.Go.ChangeSpec) : _root_.Go.OpenSpec := { _root_.Go.OpenSpec.ofChange s with cond := some uptoSmall }

/-- 'pelicanlaw03.NumBack', WHERE WHAT IT READS IS OF BULK AT MOST 1048576: true; the input reads as it did. -/
def numBackUptoRow : OpenClaim := { program := "ytnhfgpffhgiejaa", sum := "bceadcab7d1f600a4105b025e8f76cfecc7a826431c12ef0ee49bbb72f00a957", func := "pelican/pelicanlaw03.NumBack", spec := "numBack", apart := false, narrowed := true }
def NumBackUptoSaid : Prop := numBackUptoRow.holds Try.pinned (OpenSpec.upto numBackSpec)

/-- 'pelicanlaw03.NumOrder', WHERE WHAT IT READS IS OF BULK AT MOST 1048576: true; the input reads as it did. -/
def numOrderUptoRow : OpenClaim := { program := "ytnhfgpffhgiejaa", sum := "bceadcab7d1f600a4105b025e8f76cfecc7a826431c12ef0ee49bbb72f00a957", func := "pelican/pelicanlaw03.NumOrder", spec := "numOrder", apart := false, narrowed := true }
def NumOrderUptoSaid : Prop := numOrderUptoRow.holds Try.pinned (OpenSpec.upto numOrderSpec)

/-- 'pelicanlaw03.NumFits', WHERE WHAT IT READS IS OF BULK AT MOST 1048576: true; the input reads as it did. -/
def numFitsUptoRow : OpenClaim := { program := "ytnhfgpffhgiejaa", sum := "bceadcab7d1f600a4105b025e8f76cfecc7a826431c12ef0ee49bbb72f00a957", func := "pelican/pelicanlaw03.NumFits", spec := "numFits", apart := false, narrowed := true }
def NumFitsUptoSaid : Prop := numFitsUptoRow.holds Try.pinned (OpenSpec.upto numFitsSpec)

/-- 'pelicanlaw03.NumTells', WHERE WHAT IT READS IS OF BULK AT MOST 1048576: true; the input reads as it did. -/
def numTellsUptoRow : OpenClaim := { program := "ytnhfgpffhgiejaa", sum := "bceadcab7d1f600a4105b025e8f76cfecc7a826431c12ef0ee49bbb72f00a957", func := "pelican/pelicanlaw03.NumTells", spec := "numTells", apart := false, narrowed := true }
def NumTellsUptoSaid : Prop := numTellsUptoRow.holds Try.pinned (OpenSpec.upto numTellsSpec)

/-- 'pelicanlaw03.NumCat', WHERE WHAT IT READS IS OF BULK AT MOST 1048576: true; the input reads as it did. -/
def numCatUptoRow : OpenClaim := { program := "ytnhfgpffhgiejaa", sum := "bceadcab7d1f600a4105b025e8f76cfecc7a826431c12ef0ee49bbb72f00a957", func := "pelican/pelicanlaw03.NumCat", spec := "numCat", apart := false, narrowed := true }
def NumCatUptoSaid : Prop := numCatUptoRow.holds Try.pinned (OpenSpec.upto numCatSpec)

/-- 'pelicanlaw03.NumCut', WHERE WHAT IT READS IS OF BULK AT MOST 1048576: true; the input reads as it did. -/
def numCutUptoRow : OpenClaim := { program := "ytnhfgpffhgiejaa", sum := "bceadcab7d1f600a4105b025e8f76cfecc7a826431c12ef0ee49bbb72f00a957", func := "pelican/pelicanlaw03.NumCut", spec := "numCut", apart := false, narrowed := true }
def NumCutUptoSaid : Prop := numCutUptoRow.holds Try.pinned (OpenSpec.upto numCutSpec)

end Rows
end Go.Proofs.Ytnhfgpffhgiejaa
