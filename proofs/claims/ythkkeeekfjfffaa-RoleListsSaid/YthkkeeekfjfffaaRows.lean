/-
  No cell of these rows narrows 'for every input' (looked for: loops, veiled, ifaces, maps, wideKeys, modest, calm, conditions, laid).
  DERIVED. THE GIVEN ROWS OF THIS SEAT. 5 by the template 'for every input the law returns true; each argument reads behind the call as it read before'; 0 by the template 'total and deterministic' (their statements: YthkkeeekfjfffaaTotals.lean).
  GIVEN WITH THE SEED: the statements are not yours to turn. If you find one false, say at which input.
  Laid BY PROGRAM, IN A SANDBOX (cutbox-rows.mjs): the forced cells as the released guide's own fill.sh prints them over the translation 637d13e40df212d5… (all of the seat's roots in one cut). By AI agents, Wed Nov 11 2026. No macro, syntax, notation, axiom, sorry.
-/
import Derived.Test.YthkkeeekfjfffaaChecked
import GoSem.Claim
import GoSem.ClaimJoined
import GoSem.ClaimMapViews
import Derived.JoinedTies
import Derived.KernelRfl
namespace Go.Proofs.Ythkkeeekfjfffaa
/- THE CELL 'sum', in the pinned program and in every row, IS THE sha256 OF THE DUMP (.gsa) THAT YthkkeeekfjfffaaProg.lean LOADS. Nothing in Lean hashes anything: it is a label: what it is worth is what the hold of that sum in a sandbox is worth. -/
noncomputable def Try.pinned : Pinned := { name := "ythkkeeekfjfffaa", sum := "637d13e40df212d5df7f991e4606d94e3c1444ee471120c0b07487f2d9f52171", checked := Try.checked }
namespace Rows
def none {H : Type} : Left H := { results := [], args := [] }

/-- 'pelicanlaw07.RoleTells': WHATEVER THE INPUT: true; the input reads as it did. -/
def roleTellsSpec : ChangeSpec := { name := "roleTells", fn := fun _ => fun
  | [d1, d2, d3] => { results := [.lit (.bool true)], args := [d1, d2, d3] }
  | _ => none }
def roleTellsRow : OpenClaim := { program := "ythkkeeekfjfffaa", sum := "637d13e40df212d5df7f991e4606d94e3c1444ee471120c0b07487f2d9f52171", func := "pelican/pelicanlaw07.RoleTells", spec := "roleTells", apart := false }
def RoleTellsSaid : Prop := roleTellsRow.holds Try.pinned (OpenSpec.ofChange roleTellsSpec)

/-- ITS FALSE NEIGHBOUR: 'it returns false'. Refute it at one input. -/
def roleTellsWrong : ChangeSpec := { name := "roleTells", fn := fun _ => fun
  | [d1, d2, d3] => { results := [.lit (.bool false)], args := [d1, d2, d3] }
  | _ => none }
def RoleTellsWrongFalsely : Prop := roleTellsRow.holds Try.pinned (OpenSpec.ofChange roleTellsWrong)

/-- 'pelicanlaw07.RoleNames': WHATEVER THE INPUT: true; the input reads as it did. -/
def roleNamesSpec : ChangeSpec := { name := "roleNames", fn := fun _ => fun
  | [d1, d2, d3] => { results := [.lit (.bool true)], args := [d1, d2, d3] }
  | _ => none }
def roleNamesRow : OpenClaim := { program := "ythkkeeekfjfffaa", sum := "637d13e40df212d5df7f991e4606d94e3c1444ee471120c0b07487f2d9f52171", func := "pelican/pelicanlaw07.RoleNames", spec := "roleNames", apart := false }
def RoleNamesSaid : Prop := roleNamesRow.holds Try.pinned (OpenSpec.ofChange roleNamesSpec)

/-- ITS FALSE NEIGHBOUR: 'it returns false'. Refute it at one input. -/
def roleNamesWrong : ChangeSpec := { name := "roleNames", fn := fun _ => fun
  | [d1, d2, d3] => { results := [.lit (.bool false)], args := [d1, d2, d3] }
  | _ => none }
def RoleNamesWrongFalsely : Prop := roleNamesRow.holds Try.pinned (OpenSpec.ofChange roleNamesWrong)

/-- 'pelicanlaw07.RoleLists': WHATEVER THE INPUT: true; the input reads as it did. -/
def roleListsSpec : ChangeSpec := { name := "roleLists", fn := fun _ => fun
  | [d1, d2, d3] => { results := [.lit (.bool true)], args := [d1, d2, d3] }
  | _ => none }
def roleListsRow : OpenClaim := { program := "ythkkeeekfjfffaa", sum := "637d13e40df212d5df7f991e4606d94e3c1444ee471120c0b07487f2d9f52171", func := "pelican/pelicanlaw07.RoleLists", spec := "roleLists", apart := false }
def RoleListsSaid : Prop := roleListsRow.holds Try.pinned (OpenSpec.ofChange roleListsSpec)

/-- ITS FALSE NEIGHBOUR: 'it returns false'. Refute it at one input. -/
def roleListsWrong : ChangeSpec := { name := "roleLists", fn := fun _ => fun
  | [d1, d2, d3] => { results := [.lit (.bool false)], args := [d1, d2, d3] }
  | _ => none }
def RoleListsWrongFalsely : Prop := roleListsRow.holds Try.pinned (OpenSpec.ofChange roleListsWrong)

/-- 'pelicanlaw07.RoleLess': WHATEVER THE INPUT: true; the input reads as it did. -/
def roleLessSpec : ChangeSpec := { name := "roleLess", fn := fun _ => fun
  | [d1, d2] => { results := [.lit (.bool true)], args := [d1, d2] }
  | _ => none }
def roleLessRow : OpenClaim := { program := "ythkkeeekfjfffaa", sum := "637d13e40df212d5df7f991e4606d94e3c1444ee471120c0b07487f2d9f52171", func := "pelican/pelicanlaw07.RoleLess", spec := "roleLess", apart := false }
def RoleLessSaid : Prop := roleLessRow.holds Try.pinned (OpenSpec.ofChange roleLessSpec)

/-- ITS FALSE NEIGHBOUR: 'it returns false'. Refute it at one input. -/
def roleLessWrong : ChangeSpec := { name := "roleLess", fn := fun _ => fun
  | [d1, d2] => { results := [.lit (.bool false)], args := [d1, d2] }
  | _ => none }
def RoleLessWrongFalsely : Prop := roleLessRow.holds Try.pinned (OpenSpec.ofChange roleLessWrong)

/-- 'pelicanlaw07.RoleRed': WHATEVER THE INPUT: true; the input reads as it did. -/
def roleRedSpec : ChangeSpec := { name := "roleRed", fn := fun _ => fun
  | [d] => { results := [.lit (.bool true)], args := [d] }
  | _ => none }
def roleRedRow : OpenClaim := { program := "ythkkeeekfjfffaa", sum := "637d13e40df212d5df7f991e4606d94e3c1444ee471120c0b07487f2d9f52171", func := "pelican/pelicanlaw07.RoleRed", spec := "roleRed", apart := false }
def RoleRedSaid : Prop := roleRedRow.holds Try.pinned (OpenSpec.ofChange roleRedSpec)

/-- ITS FALSE NEIGHBOUR: 'it returns false'. Refute it at one input. -/
def roleRedWrong : ChangeSpec := { name := "roleRed", fn := fun _ => fun
  | [d] => { results := [.lit (.bool false)], args := [d] }
  | _ => none }
def RoleRedWrongFalsely : Prop := roleRedRow.holds Try.pinned (OpenSpec.ofChange roleRedWrong)

/- THE SECOND FORM. 'bulk': how many values and letters a reading holds, each counted each time it is reached (what is shared counts as often as it is met; a slice's spare places count too). A statement '..UptoSaid' is the law's where the arguments, and the package variables that the reading takes, are together of bulk at most 1048576: NARROWER than '..Said'. Prove '..Said' where nothing that the law and all that it calls make is longer than what came in: it says more and counts as full. Else prove '..UptoSaid'. A law counts once. -/
mutual
def uptoBulk {H : Type} : DataW H → Nat
  | .lit (.string bytes) => bytes.length + 1
  | .lit _ => 1
  | .nil => 1
  | .ptr d => uptoBulk d + 1
  | .slice elems spare => uptoBulkAll elems + uptoBulkAll spare + 1
  | .agg parts => uptoBulkAll parts + 1
  | .iface _ d => uptoBulk d + 1
  | .map entries => uptoBulkEntries entries + 1
  | .held _ => 1
def uptoBulkAll {H : Type} : List (DataW H) → Nat
  | [] => 0
  | d :: r => uptoBulk d + uptoBulkAll r
def uptoBulkEntries {H : Type} : List (Lit × DataW H) → Nat
  | [] => 0
  | x :: r => uptoBulkEntry x + uptoBulkEntries r
def uptoBulkEntry {H : Type} : Lit × DataW H → Nat
  | (.string bytes, d) => bytes.length + uptoBulk d + 1
  | (_, d) => uptoBulk d + 1
 end
def uptoSmall : (H : Type) → List (DataW H) → Bool := fun _ ds => decide (uptoBulkAll ds ≤ 1048576)
def OpenSpec.upto (s : _root_.Go.ChangeSpec) : _root_.Go.OpenSpec := { _root_.Go.OpenSpec.ofChange s with cond := some uptoSmall }

/-- 'pelicanlaw07.RoleTells', WHERE WHAT IT READS IS OF BULK AT MOST 1048576: true; the input reads as it did. -/
def roleTellsUptoRow : OpenClaim := { program := "ythkkeeekfjfffaa", sum := "637d13e40df212d5df7f991e4606d94e3c1444ee471120c0b07487f2d9f52171", func := "pelican/pelicanlaw07.RoleTells", spec := "roleTells", apart := false, narrowed := true }
def RoleTellsUptoSaid : Prop := roleTellsUptoRow.holds Try.pinned (OpenSpec.upto roleTellsSpec)

/-- 'pelicanlaw07.RoleNames', WHERE WHAT IT READS IS OF BULK AT MOST 1048576: true; the input reads as it did. -/
def roleNamesUptoRow : OpenClaim := { program := "ythkkeeekfjfffaa", sum := "637d13e40df212d5df7f991e4606d94e3c1444ee471120c0b07487f2d9f52171", func := "pelican/pelicanlaw07.RoleNames", spec := "roleNames", apart := false, narrowed := true }
def RoleNamesUptoSaid : Prop := roleNamesUptoRow.holds Try.pinned (OpenSpec.upto roleNamesSpec)

/-- 'pelicanlaw07.RoleLists', WHERE WHAT IT READS IS OF BULK AT MOST 1048576: true; the input reads as it did. -/
def roleListsUptoRow : OpenClaim := { program := "ythkkeeekfjfffaa", sum := "637d13e40df212d5df7f991e4606d94e3c1444ee471120c0b07487f2d9f52171", func := "pelican/pelicanlaw07.RoleLists", spec := "roleLists", apart := false, narrowed := true }
def RoleListsUptoSaid : Prop := roleListsUptoRow.holds Try.pinned (OpenSpec.upto roleListsSpec)

/-- 'pelicanlaw07.RoleLess', WHERE WHAT IT READS IS OF BULK AT MOST 1048576: true; the input reads as it did. -/
def roleLessUptoRow : OpenClaim := { program := "ythkkeeekfjfffaa", sum := "637d13e40df212d5df7f991e4606d94e3c1444ee471120c0b07487f2d9f52171", func := "pelican/pelicanlaw07.RoleLess", spec := "roleLess", apart := false, narrowed := true }
def RoleLessUptoSaid : Prop := roleLessUptoRow.holds Try.pinned (OpenSpec.upto roleLessSpec)

/-- 'pelicanlaw07.RoleRed', WHERE WHAT IT READS IS OF BULK AT MOST 1048576: true; the input reads as it did. -/
def roleRedUptoRow : OpenClaim := { program := "ythkkeeekfjfffaa", sum := "637d13e40df212d5df7f991e4606d94e3c1444ee471120c0b07487f2d9f52171", func := "pelican/pelicanlaw07.RoleRed", spec := "roleRed", apart := false, narrowed := true }
def RoleRedUptoSaid : Prop := roleRedUptoRow.holds Try.pinned (OpenSpec.upto roleRedSpec)

end Rows
end Go.Proofs.Ythkkeeekfjfffaa
