/-
  NARROWER THAN 'FOR EVERY INPUT', by the rows' own cells (each row's printed sentence says how): TermTells: loops · TermSame: loops · TermRow: loops · TermPair: loops · TermEdge: loops.
  DERIVED. THE GIVEN ROWS OF THIS SEAT. 6 by the template 'for every input the law returns true; each argument reads behind the call as it read before'; 0 by the template 'total and deterministic' (their statements: YtmmmmedcgmcoaaaTotals.lean).
  GIVEN WITH THE SEED: the statements are not yours to turn. If you find one false, say at which input.
  Laid BY PROGRAM, IN A SANDBOX (cutbox-rows.mjs): the forced cells as the released guide's own fill.sh prints them over the translation 906e72322327b228… (all of the seat's roots in one cut). By AI agents, Wed Nov 11 2026. No macro, syntax, notation, axiom, sorry.
-/
import Derived.Test.YtmmmmedcgmcoaaaChecked
import GoSem.Claim
import GoSem.ClaimJoined
import GoSem.ClaimMapViews
import Derived.JoinedTies
import Derived.KernelRfl
namespace Go.Proofs.Ytmmmmedcgmcoaaa
/- THE CELL 'sum', in the pinned program and in every row, IS THE sha256 OF THE DUMP (.gsa) THAT YtmmmmedcgmcoaaaProg.lean LOADS. Nothing in Lean hashes anything: it is a label: what it is worth is what the hold of that sum in a sandbox is worth. -/
noncomputable def Try.pinned : Pinned := { name := "ytmmmmedcgmcoaaa", sum := "906e72322327b2288b50beea08a2b7c2cc8f379916cfc81cd2f293f1331e7803", checked := Try.checked }
namespace Rows
def none {H : Type} : Left H := { results := [], args := [] }

/-- 'pelicanlaw05.TermTells': WHATEVER THE INPUT: true; the input reads as it did. -/
def termTellsSpec : ChangeSpec := { name := "termTells", fn := fun _ => fun
  | [d1, d2, d3] => { results := [.lit (.bool true)], args := [d1, d2, d3] }
  | _ => none }
def termTellsRow : OpenClaim := { program := "ytmmmmedcgmcoaaa", sum := "906e72322327b2288b50beea08a2b7c2cc8f379916cfc81cd2f293f1331e7803", func := "pelican/pelicanlaw05.TermTells", spec := "termTells", unfollowed := true, recurses := true, loops := true, apart := false }
def TermTellsSaid : Prop := termTellsRow.holds Try.pinned (OpenSpec.ofChange termTellsSpec)

/-- ITS FALSE NEIGHBOUR: 'it returns false'. Refute it at one input. -/
def termTellsWrong : ChangeSpec := { name := "termTells", fn := fun _ => fun
  | [d1, d2, d3] => { results := [.lit (.bool false)], args := [d1, d2, d3] }
  | _ => none }
def TermTellsWrongFalsely : Prop := termTellsRow.holds Try.pinned (OpenSpec.ofChange termTellsWrong)

/-- 'pelicanlaw05.TermSame': WHATEVER THE INPUT: true; the input reads as it did. -/
def termSameSpec : ChangeSpec := { name := "termSame", fn := fun _ => fun
  | [d1, d2] => { results := [.lit (.bool true)], args := [d1, d2] }
  | _ => none }
def termSameRow : OpenClaim := { program := "ytmmmmedcgmcoaaa", sum := "906e72322327b2288b50beea08a2b7c2cc8f379916cfc81cd2f293f1331e7803", func := "pelican/pelicanlaw05.TermSame", spec := "termSame", unfollowed := true, recurses := true, loops := true, apart := false }
def TermSameSaid : Prop := termSameRow.holds Try.pinned (OpenSpec.ofChange termSameSpec)

/-- ITS FALSE NEIGHBOUR: 'it returns false'. Refute it at one input. -/
def termSameWrong : ChangeSpec := { name := "termSame", fn := fun _ => fun
  | [d1, d2] => { results := [.lit (.bool false)], args := [d1, d2] }
  | _ => none }
def TermSameWrongFalsely : Prop := termSameRow.holds Try.pinned (OpenSpec.ofChange termSameWrong)

/-- 'pelicanlaw05.TermRow': WHATEVER THE INPUT: true; the input reads as it did. -/
def termRowSpec : ChangeSpec := { name := "termRow", fn := fun _ => fun
  | [d1, d2, d3] => { results := [.lit (.bool true)], args := [d1, d2, d3] }
  | _ => none }
def termRowRow : OpenClaim := { program := "ytmmmmedcgmcoaaa", sum := "906e72322327b2288b50beea08a2b7c2cc8f379916cfc81cd2f293f1331e7803", func := "pelican/pelicanlaw05.TermRow", spec := "termRow", unfollowed := true, recurses := true, loops := true, apart := false }
def TermRowSaid : Prop := termRowRow.holds Try.pinned (OpenSpec.ofChange termRowSpec)

/-- ITS FALSE NEIGHBOUR: 'it returns false'. Refute it at one input. -/
def termRowWrong : ChangeSpec := { name := "termRow", fn := fun _ => fun
  | [d1, d2, d3] => { results := [.lit (.bool false)], args := [d1, d2, d3] }
  | _ => none }
def TermRowWrongFalsely : Prop := termRowRow.holds Try.pinned (OpenSpec.ofChange termRowWrong)

/-- 'pelicanlaw05.TermPair': WHATEVER THE INPUT: true; the input reads as it did. -/
def termPairSpec : ChangeSpec := { name := "termPair", fn := fun _ => fun
  | [d1, d2] => { results := [.lit (.bool true)], args := [d1, d2] }
  | _ => none }
def termPairRow : OpenClaim := { program := "ytmmmmedcgmcoaaa", sum := "906e72322327b2288b50beea08a2b7c2cc8f379916cfc81cd2f293f1331e7803", func := "pelican/pelicanlaw05.TermPair", spec := "termPair", unfollowed := true, recurses := true, loops := true, apart := false }
def TermPairSaid : Prop := termPairRow.holds Try.pinned (OpenSpec.ofChange termPairSpec)

/-- ITS FALSE NEIGHBOUR: 'it returns false'. Refute it at one input. -/
def termPairWrong : ChangeSpec := { name := "termPair", fn := fun _ => fun
  | [d1, d2] => { results := [.lit (.bool false)], args := [d1, d2] }
  | _ => none }
def TermPairWrongFalsely : Prop := termPairRow.holds Try.pinned (OpenSpec.ofChange termPairWrong)

/-- 'pelicanlaw05.TermLeaf': WHATEVER THE INPUT: true; the input reads as it did. -/
def termLeafSpec : ChangeSpec := { name := "termLeaf", fn := fun _ => fun
  | [d1, d2] => { results := [.lit (.bool true)], args := [d1, d2] }
  | _ => none }
def termLeafRow : OpenClaim := { program := "ytmmmmedcgmcoaaa", sum := "906e72322327b2288b50beea08a2b7c2cc8f379916cfc81cd2f293f1331e7803", func := "pelican/pelicanlaw05.TermLeaf", spec := "termLeaf", unfollowed := true, recurses := true, apart := false }
def TermLeafSaid : Prop := termLeafRow.holds Try.pinned (OpenSpec.ofChange termLeafSpec)

/-- ITS FALSE NEIGHBOUR: 'it returns false'. Refute it at one input. -/
def termLeafWrong : ChangeSpec := { name := "termLeaf", fn := fun _ => fun
  | [d1, d2] => { results := [.lit (.bool false)], args := [d1, d2] }
  | _ => none }
def TermLeafWrongFalsely : Prop := termLeafRow.holds Try.pinned (OpenSpec.ofChange termLeafWrong)

/-- 'pelicanlaw05.TermEdge': WHATEVER THE INPUT: true; the input reads as it did. -/
def termEdgeSpec : ChangeSpec := { name := "termEdge", fn := fun _ => fun
  | [d1, d2, d3, d4] => { results := [.lit (.bool true)], args := [d1, d2, d3, d4] }
  | _ => none }
def termEdgeRow : OpenClaim := { program := "ytmmmmedcgmcoaaa", sum := "906e72322327b2288b50beea08a2b7c2cc8f379916cfc81cd2f293f1331e7803", func := "pelican/pelicanlaw05.TermEdge", spec := "termEdge", unfollowed := true, recurses := true, loops := true, apart := false }
def TermEdgeSaid : Prop := termEdgeRow.holds Try.pinned (OpenSpec.ofChange termEdgeSpec)

/-- ITS FALSE NEIGHBOUR: 'it returns false'. Refute it at one input. -/
def termEdgeWrong : ChangeSpec := { name := "termEdge", fn := fun _ => fun
  | [d1, d2, d3, d4] => { results := [.lit (.bool false)], args := [d1, d2, d3, d4] }
  | _ => none }
def TermEdgeWrongFalsely : Prop := termEdgeRow.holds Try.pinned (OpenSpec.ofChange termEdgeWrong)

/- THE SECOND FORM. 'bulk': how many values and letters a reading holds, each counted each time it is reached (what is shared counts as often as it is met; a slice's spare places count too). A statement '..UptoSaid' is the law's where the arguments, and the package variables that the reading takes, are together of bulk at most 1048576: NARROWER than '..Said'. Prove '..Said' where nothing that the law and all that it calls make is longer than what came in: it says more and counts as full. Else prove '..UptoSaid'. A law counts once. -/
mutual
def uptoBulk {H : Type} : DataW H → Nat
  | .lit (.string bytes) => bytes.length + 1
  | .lit _ => 1
  | .nil => 1
  | .ptr d => uptoBulk d + 1
  | .slice elems spare => uptoBulkAll elems + uptoBulkAll spare + 1
  | .agg parts => uptoBulkAll parts + 1
  | .iface _ d => uptoBulk d + 1
  | .map entries => uptoBulkEntries entries + 1
  | .held _ => 1
def uptoBulkAll {H : Type} : List (DataW H) → Nat
  | [] => 0
  | d :: r => uptoBulk d + uptoBulkAll r
def uptoBulkEntries {H : Type} : List (Lit × DataW H) → Nat
  | [] => 0
  | x :: r => uptoBulkEntry x + uptoBulkEntries r
def uptoBulkEntry {H : Type} : Lit × DataW H → Nat
  | (.string bytes, d) => bytes.length + uptoBulk d + 1
  | (_, d) => uptoBulk d + 1
 end
def uptoSmall : (H : Type) → List (DataW H) → Bool := fun _ ds => decide (uptoBulkAll ds ≤ 1048576)
def OpenSpec.upto (s : _root_.Go.ChangeSpec) : _root_.Go.OpenSpec := { _root_.Go.OpenSpec.ofChange s with cond := some uptoSmall }

/-- 'pelicanlaw05.TermTells', WHERE WHAT IT READS IS OF BULK AT MOST 1048576: true; the input reads as it did. -/
def termTellsUptoRow : OpenClaim := { program := "ytmmmmedcgmcoaaa", sum := "906e72322327b2288b50beea08a2b7c2cc8f379916cfc81cd2f293f1331e7803", func := "pelican/pelicanlaw05.TermTells", spec := "termTells", unfollowed := true, recurses := true, loops := true, apart := false, narrowed := true }
def TermTellsUptoSaid : Prop := termTellsUptoRow.holds Try.pinned (OpenSpec.upto termTellsSpec)

/-- 'pelicanlaw05.TermSame', WHERE WHAT IT READS IS OF BULK AT MOST 1048576: true; the input reads as it did. -/
def termSameUptoRow : OpenClaim := { program := "ytmmmmedcgmcoaaa", sum := "906e72322327b2288b50beea08a2b7c2cc8f379916cfc81cd2f293f1331e7803", func := "pelican/pelicanlaw05.TermSame", spec := "termSame", unfollowed := true, recurses := true, loops := true, apart := false, narrowed := true }
def TermSameUptoSaid : Prop := termSameUptoRow.holds Try.pinned (OpenSpec.upto termSameSpec)

/-- 'pelicanlaw05.TermRow', WHERE WHAT IT READS IS OF BULK AT MOST 1048576: true; the input reads as it did. -/
def termRowUptoRow : OpenClaim := { program := "ytmmmmedcgmcoaaa", sum := "906e72322327b2288b50beea08a2b7c2cc8f379916cfc81cd2f293f1331e7803", func := "pelican/pelicanlaw05.TermRow", spec := "termRow", unfollowed := true, recurses := true, loops := true, apart := false, narrowed := true }
def TermRowUptoSaid : Prop := termRowUptoRow.holds Try.pinned (OpenSpec.upto termRowSpec)

/-- 'pelicanlaw05.TermPair', WHERE WHAT IT READS IS OF BULK AT MOST 1048576: true; the input reads as it did. -/
def termPairUptoRow : OpenClaim := { program := "ytmmmmedcgmcoaaa", sum := "906e72322327b2288b50beea08a2b7c2cc8f379916cfc81cd2f293f1331e7803", func := "pelican/pelicanlaw05.TermPair", spec := "termPair", unfollowed := true, recurses := true, loops := true, apart := false, narrowed := true }
def TermPairUptoSaid : Prop := termPairUptoRow.holds Try.pinned (OpenSpec.upto termPairSpec)

/-- 'pelicanlaw05.TermLeaf', WHERE WHAT IT READS IS OF BULK AT MOST 1048576: true; the input reads as it did. -/
def termLeafUptoRow : OpenClaim := { program := "ytmmmmedcgmcoaaa", sum := "906e72322327b2288b50beea08a2b7c2cc8f379916cfc81cd2f293f1331e7803", func := "pelican/pelicanlaw05.TermLeaf", spec := "termLeaf", unfollowed := true, recurses := true, apart := false, narrowed := true }
def TermLeafUptoSaid : Prop := termLeafUptoRow.holds Try.pinned (OpenSpec.upto termLeafSpec)

/-- 'pelicanlaw05.TermEdge', WHERE WHAT IT READS IS OF BULK AT MOST 1048576: true; the input reads as it did. -/
def termEdgeUptoRow : OpenClaim := { program := "ytmmmmedcgmcoaaa", sum := "906e72322327b2288b50beea08a2b7c2cc8f379916cfc81cd2f293f1331e7803", func := "pelican/pelicanlaw05.TermEdge", spec := "termEdge", unfollowed := true, recurses := true, loops := true, apart := false, narrowed := true }
def TermEdgeUptoSaid : Prop := termEdgeUptoRow.holds Try.pinned (OpenSpec.upto termEdgeSpec)

end Rows
end Go.Proofs.Ytmmmmedcgmcoaaa
