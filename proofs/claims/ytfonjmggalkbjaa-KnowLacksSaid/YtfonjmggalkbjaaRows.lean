/-
  NARROWER THAN 'FOR EVERY INPUT', by the rows' own cells (each row's printed sentence says how): KnowTells: loops · KnowMore: loops · KnowCut: loops · KnowForge: loops · KnowKeys: loops · KnowLacks: loops · KnowParts: loops.
  DERIVED. THE GIVEN ROWS OF THIS SEAT. 7 by the template 'for every input the law returns true; each argument reads behind the call as it read before'; 0 by the template 'total and deterministic' (their statements: YtfonjmggalkbjaaTotals.lean).
  GIVEN WITH THE SEED: the statements are not yours to turn. If you find one false, say at which input.
  Laid BY PROGRAM, IN A SANDBOX (cutbox-rows.mjs): the forced cells as the released guide's own fill.sh prints them over the translation 5b188608fb334122… (all of the seat's roots in one cut). By AI agents, Wed Nov 11 2026. No macro, syntax, notation, axiom, sorry.
-/
import Derived.Test.YtfonjmggalkbjaaChecked
import GoSem.Claim
import GoSem.ClaimJoined
import GoSem.ClaimMapViews
import Derived.JoinedTies
import Derived.KernelRfl
namespace Go.Proofs.Ytfonjmggalkbjaa
/- THE CELL 'sum', in the pinned program and in every row, IS THE sha256 OF THE DUMP (.gsa) THAT YtfonjmggalkbjaaProg.lean LOADS. Nothing in Lean hashes anything: it is a label: what it is worth is what the hold of that sum in a sandbox is worth. -/
noncomputable def Try.pinned : Pinned := { name := "ytfonjmggalkbjaa", sum := "5b188608fb334122f53120884e386dc0096be4e9d8584039cb4f990db04ce201", checked := Try.checked }
namespace Rows
def none {H : Type} : Left H := { results := [], args := [] }

/-- 'pelicanlaw06.KnowTells': WHATEVER THE INPUT: true; the input reads as it did. -/
def knowTellsSpec : ChangeSpec := { name := "knowTells", fn := fun _ => fun
  | [d1, d2, d3] => { results := [.lit (.bool true)], args := [d1, d2, d3] }
  | _ => none }
def knowTellsRow : OpenClaim := { program := "ytfonjmggalkbjaa", sum := "5b188608fb334122f53120884e386dc0096be4e9d8584039cb4f990db04ce201", func := "pelican/pelicanlaw06.KnowTells", spec := "knowTells", unfollowed := true, recurses := true, loops := true, apart := false }
def KnowTellsSaid : Prop := knowTellsRow.holds Try.pinned (OpenSpec.ofChange knowTellsSpec)

/-- ITS FALSE NEIGHBOUR: 'it returns false'. Refute it at one input. -/
def knowTellsWrong : ChangeSpec := { name := "knowTells", fn := fun _ => fun
  | [d1, d2, d3] => { results := [.lit (.bool false)], args := [d1, d2, d3] }
  | _ => none }
def KnowTellsWrongFalsely : Prop := knowTellsRow.holds Try.pinned (OpenSpec.ofChange knowTellsWrong)

/-- 'pelicanlaw06.KnowMore': WHATEVER THE INPUT: true; the input reads as it did. -/
def knowMoreSpec : ChangeSpec := { name := "knowMore", fn := fun _ => fun
  | [d1, d2, d3, d4] => { results := [.lit (.bool true)], args := [d1, d2, d3, d4] }
  | _ => none }
def knowMoreRow : OpenClaim := { program := "ytfonjmggalkbjaa", sum := "5b188608fb334122f53120884e386dc0096be4e9d8584039cb4f990db04ce201", func := "pelican/pelicanlaw06.KnowMore", spec := "knowMore", unfollowed := true, recurses := true, loops := true, apart := false }
def KnowMoreSaid : Prop := knowMoreRow.holds Try.pinned (OpenSpec.ofChange knowMoreSpec)

/-- ITS FALSE NEIGHBOUR: 'it returns false'. Refute it at one input. -/
def knowMoreWrong : ChangeSpec := { name := "knowMore", fn := fun _ => fun
  | [d1, d2, d3, d4] => { results := [.lit (.bool false)], args := [d1, d2, d3, d4] }
  | _ => none }
def KnowMoreWrongFalsely : Prop := knowMoreRow.holds Try.pinned (OpenSpec.ofChange knowMoreWrong)

/-- 'pelicanlaw06.KnowCut': WHATEVER THE INPUT: true; the input reads as it did. -/
def knowCutSpec : ChangeSpec := { name := "knowCut", fn := fun _ => fun
  | [d1, d2, d3] => { results := [.lit (.bool true)], args := [d1, d2, d3] }
  | _ => none }
def knowCutRow : OpenClaim := { program := "ytfonjmggalkbjaa", sum := "5b188608fb334122f53120884e386dc0096be4e9d8584039cb4f990db04ce201", func := "pelican/pelicanlaw06.KnowCut", spec := "knowCut", unfollowed := true, recurses := true, loops := true, apart := false }
def KnowCutSaid : Prop := knowCutRow.holds Try.pinned (OpenSpec.ofChange knowCutSpec)

/-- ITS FALSE NEIGHBOUR: 'it returns false'. Refute it at one input. -/
def knowCutWrong : ChangeSpec := { name := "knowCut", fn := fun _ => fun
  | [d1, d2, d3] => { results := [.lit (.bool false)], args := [d1, d2, d3] }
  | _ => none }
def KnowCutWrongFalsely : Prop := knowCutRow.holds Try.pinned (OpenSpec.ofChange knowCutWrong)

/-- 'pelicanlaw06.KnowForge': WHATEVER THE INPUT: true; the input reads as it did. -/
def knowForgeSpec : ChangeSpec := { name := "knowForge", fn := fun _ => fun
  | [d1, d2, d3] => { results := [.lit (.bool true)], args := [d1, d2, d3] }
  | _ => none }
def knowForgeRow : OpenClaim := { program := "ytfonjmggalkbjaa", sum := "5b188608fb334122f53120884e386dc0096be4e9d8584039cb4f990db04ce201", func := "pelican/pelicanlaw06.KnowForge", spec := "knowForge", unfollowed := true, recurses := true, loops := true, apart := false }
def KnowForgeSaid : Prop := knowForgeRow.holds Try.pinned (OpenSpec.ofChange knowForgeSpec)

/-- ITS FALSE NEIGHBOUR: 'it returns false'. Refute it at one input. -/
def knowForgeWrong : ChangeSpec := { name := "knowForge", fn := fun _ => fun
  | [d1, d2, d3] => { results := [.lit (.bool false)], args := [d1, d2, d3] }
  | _ => none }
def KnowForgeWrongFalsely : Prop := knowForgeRow.holds Try.pinned (OpenSpec.ofChange knowForgeWrong)

/-- 'pelicanlaw06.KnowKeys': WHATEVER THE INPUT: true; the input reads as it did. -/
def knowKeysSpec : ChangeSpec := { name := "knowKeys", fn := fun _ => fun
  | [d1, d2] => { results := [.lit (.bool true)], args := [d1, d2] }
  | _ => none }
def knowKeysRow : OpenClaim := { program := "ytfonjmggalkbjaa", sum := "5b188608fb334122f53120884e386dc0096be4e9d8584039cb4f990db04ce201", func := "pelican/pelicanlaw06.KnowKeys", spec := "knowKeys", unfollowed := true, recurses := true, loops := true, apart := false }
def KnowKeysSaid : Prop := knowKeysRow.holds Try.pinned (OpenSpec.ofChange knowKeysSpec)

/-- ITS FALSE NEIGHBOUR: 'it returns false'. Refute it at one input. -/
def knowKeysWrong : ChangeSpec := { name := "knowKeys", fn := fun _ => fun
  | [d1, d2] => { results := [.lit (.bool false)], args := [d1, d2] }
  | _ => none }
def KnowKeysWrongFalsely : Prop := knowKeysRow.holds Try.pinned (OpenSpec.ofChange knowKeysWrong)

/-- 'pelicanlaw06.KnowLacks': WHATEVER THE INPUT: true; the input reads as it did. -/
def knowLacksSpec : ChangeSpec := { name := "knowLacks", fn := fun _ => fun
  | [d1, d2] => { results := [.lit (.bool true)], args := [d1, d2] }
  | _ => none }
def knowLacksRow : OpenClaim := { program := "ytfonjmggalkbjaa", sum := "5b188608fb334122f53120884e386dc0096be4e9d8584039cb4f990db04ce201", func := "pelican/pelicanlaw06.KnowLacks", spec := "knowLacks", unfollowed := true, recurses := true, loops := true, apart := false }
def KnowLacksSaid : Prop := knowLacksRow.holds Try.pinned (OpenSpec.ofChange knowLacksSpec)

/-- ITS FALSE NEIGHBOUR: 'it returns false'. Refute it at one input. -/
def knowLacksWrong : ChangeSpec := { name := "knowLacks", fn := fun _ => fun
  | [d1, d2] => { results := [.lit (.bool false)], args := [d1, d2] }
  | _ => none }
def KnowLacksWrongFalsely : Prop := knowLacksRow.holds Try.pinned (OpenSpec.ofChange knowLacksWrong)

/-- 'pelicanlaw06.KnowParts': WHATEVER THE INPUT: true; the input reads as it did. -/
def knowPartsSpec : ChangeSpec := { name := "knowParts", fn := fun _ => fun
  | [d1, d2, d3] => { results := [.lit (.bool true)], args := [d1, d2, d3] }
  | _ => none }
def knowPartsRow : OpenClaim := { program := "ytfonjmggalkbjaa", sum := "5b188608fb334122f53120884e386dc0096be4e9d8584039cb4f990db04ce201", func := "pelican/pelicanlaw06.KnowParts", spec := "knowParts", unfollowed := true, recurses := true, loops := true, apart := false }
def KnowPartsSaid : Prop := knowPartsRow.holds Try.pinned (OpenSpec.ofChange knowPartsSpec)

/-- ITS FALSE NEIGHBOUR: 'it returns false'. Refute it at one input. -/
def knowPartsWrong : ChangeSpec := { name := "knowParts", fn := fun _ => fun
  | [d1, d2, d3] => { results := [.lit (.bool false)], args := [d1, d2, d3] }
  | _ => none }
def KnowPartsWrongFalsely : Prop := knowPartsRow.holds Try.pinned (OpenSpec.ofChange knowPartsWrong)

/- THE SECOND FORM. 'bulk': how many values and letters a reading holds, each counted each time it is reached (what is shared counts as often as it is met; a slice's spare places count too). A statement '..UptoSaid' is the law's where the arguments, and the package variables that the reading takes, are together of bulk at most 1048576: NARROWER than '..Said'. Prove '..Said' where nothing that the law and all that it calls make is longer than what came in: it says more and counts as full. Else prove '..UptoSaid'. A law counts once. -/
mutual
def uptoBulk {H : Type} : DataW H → Nat
  | .lit (.string bytes) => bytes.length + 1
  | .lit _ => 1
  | .nil => 1
  | .ptr d => uptoBulk d + 1
  | .slice elems spare => uptoBulkAll elems + uptoBulkAll spare + 1
  | .agg parts => uptoBulkAll parts + 1
  | .iface _ d => uptoBulk d + 1
  | .map entries => uptoBulkEntries entries + 1
  | .held _ => 1
def uptoBulkAll {H : Type} : List (DataW H) → Nat
  | [] => 0
  | d :: r => uptoBulk d + uptoBulkAll r
def uptoBulkEntries {H : Type} : List (Lit × DataW H) → Nat
  | [] => 0
  | x :: r => uptoBulkEntry x + uptoBulkEntries r
def uptoBulkEntry {H : Type} : Lit × DataW H → Nat
  | (.string bytes, d) => bytes.length + uptoBulk d + 1
  | (_, d) => uptoBulk d + 1
 end
def uptoSmall : (H : Type) → List (DataW H) → Bool := fun _ ds => decide (uptoBulkAll ds ≤ 1048576)
def OpenSpec.upto (s : _root_.Go.ChangeSpec) : _root_.Go.OpenSpec := { _root_.Go.OpenSpec.ofChange s with cond := some uptoSmall }

/-- 'pelicanlaw06.KnowTells', WHERE WHAT IT READS IS OF BULK AT MOST 1048576: true; the input reads as it did. -/
def knowTellsUptoRow : OpenClaim := { program := "ytfonjmggalkbjaa", sum := "5b188608fb334122f53120884e386dc0096be4e9d8584039cb4f990db04ce201", func := "pelican/pelicanlaw06.KnowTells", spec := "knowTells", unfollowed := true, recurses := true, loops := true, apart := false, narrowed := true }
def KnowTellsUptoSaid : Prop := knowTellsUptoRow.holds Try.pinned (OpenSpec.upto knowTellsSpec)

/-- 'pelicanlaw06.KnowMore', WHERE WHAT IT READS IS OF BULK AT MOST 1048576: true; the input reads as it did. -/
def knowMoreUptoRow : OpenClaim := { program := "ytfonjmggalkbjaa", sum := "5b188608fb334122f53120884e386dc0096be4e9d8584039cb4f990db04ce201", func := "pelican/pelicanlaw06.KnowMore", spec := "knowMore", unfollowed := true, recurses := true, loops := true, apart := false, narrowed := true }
def KnowMoreUptoSaid : Prop := knowMoreUptoRow.holds Try.pinned (OpenSpec.upto knowMoreSpec)

/-- 'pelicanlaw06.KnowCut', WHERE WHAT IT READS IS OF BULK AT MOST 1048576: true; the input reads as it did. -/
def knowCutUptoRow : OpenClaim := { program := "ytfonjmggalkbjaa", sum := "5b188608fb334122f53120884e386dc0096be4e9d8584039cb4f990db04ce201", func := "pelican/pelicanlaw06.KnowCut", spec := "knowCut", unfollowed := true, recurses := true, loops := true, apart := false, narrowed := true }
def KnowCutUptoSaid : Prop := knowCutUptoRow.holds Try.pinned (OpenSpec.upto knowCutSpec)

/-- 'pelicanlaw06.KnowForge', WHERE WHAT IT READS IS OF BULK AT MOST 1048576: true; the input reads as it did. -/
def knowForgeUptoRow : OpenClaim := { program := "ytfonjmggalkbjaa", sum := "5b188608fb334122f53120884e386dc0096be4e9d8584039cb4f990db04ce201", func := "pelican/pelicanlaw06.KnowForge", spec := "knowForge", unfollowed := true, recurses := true, loops := true, apart := false, narrowed := true }
def KnowForgeUptoSaid : Prop := knowForgeUptoRow.holds Try.pinned (OpenSpec.upto knowForgeSpec)

/-- 'pelicanlaw06.KnowKeys', WHERE WHAT IT READS IS OF BULK AT MOST 1048576: true; the input reads as it did. -/
def knowKeysUptoRow : OpenClaim := { program := "ytfonjmggalkbjaa", sum := "5b188608fb334122f53120884e386dc0096be4e9d8584039cb4f990db04ce201", func := "pelican/pelicanlaw06.KnowKeys", spec := "knowKeys", unfollowed := true, recurses := true, loops := true, apart := false, narrowed := true }
def KnowKeysUptoSaid : Prop := knowKeysUptoRow.holds Try.pinned (OpenSpec.upto knowKeysSpec)

/-- 'pelicanlaw06.KnowLacks', WHERE WHAT IT READS IS OF BULK AT MOST 1048576: true; the input reads as it did. -/
def knowLacksUptoRow : OpenClaim := { program := "ytfonjmggalkbjaa", sum := "5b188608fb334122f53120884e386dc0096be4e9d8584039cb4f990db04ce201", func := "pelican/pelicanlaw06.KnowLacks", spec := "knowLacks", unfollowed := true, recurses := true, loops := true, apart := false, narrowed := true }
def KnowLacksUptoSaid : Prop := knowLacksUptoRow.holds Try.pinned (OpenSpec.upto knowLacksSpec)

/-- 'pelicanlaw06.KnowParts', WHERE WHAT IT READS IS OF BULK AT MOST 1048576: true; the input reads as it did. -/
def knowPartsUptoRow : OpenClaim := { program := "ytfonjmggalkbjaa", sum := "5b188608fb334122f53120884e386dc0096be4e9d8584039cb4f990db04ce201", func := "pelican/pelicanlaw06.KnowParts", spec := "knowParts", unfollowed := true, recurses := true, loops := true, apart := false, narrowed := true }
def KnowPartsUptoSaid : Prop := knowPartsUptoRow.holds Try.pinned (OpenSpec.upto knowPartsSpec)

end Rows
end Go.Proofs.Ytfonjmggalkbjaa
