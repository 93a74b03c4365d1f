/-
  NARROWER THAN 'FOR EVERY INPUT', by the rows' own cells (each row's printed sentence says how): SymOnce: loops · SymAgree: loops · SymForge: loops.
  DERIVED. THE GIVEN ROWS OF THIS SEAT. 3 by the template 'for every input the law returns true; each argument reads behind the call as it read before'; 0 by the template 'total and deterministic' (their statements: YtdinphnljokigaaGreatTotals.lean).
  GIVEN WITH THE SEED: the statements are not yours to turn. If you find one false, say at which input.
  Laid BY PROGRAM, IN A SANDBOX (cutbox-rows.mjs): the forced cells as the released guide's own fill.sh prints them over the translation 85080d1ec6b05e20… (all of the seat's roots in one cut). By AI agents, Wed Nov 11 2026. No macro, syntax, notation, axiom, sorry.
-/
import Derived.Test.YtdinphnljokigaaGreatChecked
import GoSem.Claim
import GoSem.ClaimJoined
import GoSem.ClaimMapViews
import Derived.JoinedTies
import Derived.KernelRfl
namespace Go.Proofs.YtdinphnljokigaaGreat
/- THE CELL 'sum', in the pinned program and in every row, IS THE sha256 OF THE DUMP (.gsa) THAT YtdinphnljokigaaGreatProg.lean LOADS. Nothing in Lean hashes anything: it is a label: what it is worth is what the hold of that sum in a sandbox is worth. -/
noncomputable def Tryz.pinned : Pinned := { name := "ytdinphnljokigaagreat", sum := "85080d1ec6b05e20cd28a4345f0e411b7466ed9e0aca36bf399926d9180fe890", checked := Tryz.checked }
namespace Rows
def none {H : Type} : Left H := { results := [], args := [] }

/-- 'pelicanlaw20.SymOnce': WHATEVER THE INPUT: true; the input reads as it did. -/
def symOnceSpec : ChangeSpec := { name := "symOnce", fn := fun _ => fun
  | [d1, d2, d3, d4, d5] => { results := [.lit (.bool true)], args := [d1, d2, d3, d4, d5] }
  | _ => none }
def symOnceRow : OpenClaim := { program := "ytdinphnljokigaagreat", sum := "85080d1ec6b05e20cd28a4345f0e411b7466ed9e0aca36bf399926d9180fe890", func := "pelican/pelicanlaw20.SymOnce", spec := "symOnce", inPlace := ["slices.overlaps[pelican/frame.slot]"], unfollowed := true, recurses := true, loops := true, apart := false }
def SymOnceSaid : Prop := symOnceRow.holds Tryz.pinned (OpenSpec.ofChange symOnceSpec)

/-- ITS FALSE NEIGHBOUR: 'it returns false'. Refute it at one input. -/
def symOnceWrong : ChangeSpec := { name := "symOnce", fn := fun _ => fun
  | [d1, d2, d3, d4, d5] => { results := [.lit (.bool false)], args := [d1, d2, d3, d4, d5] }
  | _ => none }
def SymOnceWrongFalsely : Prop := symOnceRow.holds Tryz.pinned (OpenSpec.ofChange symOnceWrong)

/-- 'pelicanlaw20.SymAgree': WHATEVER THE INPUT: true; the input reads as it did. -/
def symAgreeSpec : ChangeSpec := { name := "symAgree", fn := fun _ => fun
  | [d1, d2, d3, d4] => { results := [.lit (.bool true)], args := [d1, d2, d3, d4] }
  | _ => none }
def symAgreeRow : OpenClaim := { program := "ytdinphnljokigaagreat", sum := "85080d1ec6b05e20cd28a4345f0e411b7466ed9e0aca36bf399926d9180fe890", func := "pelican/pelicanlaw20.SymAgree", spec := "symAgree", inPlace := ["slices.overlaps[pelican/frame.slot]"], unfollowed := true, recurses := true, loops := true, apart := false }
def SymAgreeSaid : Prop := symAgreeRow.holds Tryz.pinned (OpenSpec.ofChange symAgreeSpec)

/-- ITS FALSE NEIGHBOUR: 'it returns false'. Refute it at one input. -/
def symAgreeWrong : ChangeSpec := { name := "symAgree", fn := fun _ => fun
  | [d1, d2, d3, d4] => { results := [.lit (.bool false)], args := [d1, d2, d3, d4] }
  | _ => none }
def SymAgreeWrongFalsely : Prop := symAgreeRow.holds Tryz.pinned (OpenSpec.ofChange symAgreeWrong)

/-- 'pelicanlaw20.SymForge': WHATEVER THE INPUT: true; the input reads as it did. -/
def symForgeSpec : ChangeSpec := { name := "symForge", fn := fun _ => fun
  | [d1, d2, d3, d4] => { results := [.lit (.bool true)], args := [d1, d2, d3, d4] }
  | _ => none }
def symForgeRow : OpenClaim := { program := "ytdinphnljokigaagreat", sum := "85080d1ec6b05e20cd28a4345f0e411b7466ed9e0aca36bf399926d9180fe890", func := "pelican/pelicanlaw20.SymForge", spec := "symForge", inPlace := ["slices.overlaps[pelican/frame.slot]"], unfollowed := true, recurses := true, loops := true, apart := false }
def SymForgeSaid : Prop := symForgeRow.holds Tryz.pinned (OpenSpec.ofChange symForgeSpec)

/-- ITS FALSE NEIGHBOUR: 'it returns false'. Refute it at one input. -/
def symForgeWrong : ChangeSpec := { name := "symForge", fn := fun _ => fun
  | [d1, d2, d3, d4] => { results := [.lit (.bool false)], args := [d1, d2, d3, d4] }
  | _ => none }
def SymForgeWrongFalsely : Prop := symForgeRow.holds Tryz.pinned (OpenSpec.ofChange symForgeWrong)

/- THE SECOND FORM. 'bulk': how many values and letters a reading holds, each counted each time it is reached (what is shared counts as often as it is met; a slice's spare places count too). A statement '..UptoSaid' is the law's where the arguments, and the package variables that the reading takes, are together of bulk at most 1048576: NARROWER than '..Said'. Prove '..Said' where nothing that the law and all that it calls make is longer than what came in: it says more and counts as full. Else prove '..UptoSaid'. A law counts once. -/
mutual
def uptoBulk {H : Type} : DataW H → Nat
  | .lit (.string bytes) => bytes.length + 1
  | .lit _ => 1
  | .nil => 1
  | .ptr d => uptoBulk d + 1
  | .slice elems spare => uptoBulkAll elems + uptoBulkAll spare + 1
  | .agg parts => uptoBulkAll parts + 1
  | .iface _ d => uptoBulk d + 1
  | .map entries => uptoBulkEntries entries + 1
  | .held _ => 1
def uptoBulkAll {H : Type} : List (DataW H) → Nat
  | [] => 0
  | d :: r => uptoBulk d + uptoBulkAll r
def uptoBulkEntries {H : Type} : List (Lit × DataW H) → Nat
  | [] => 0
  | x :: r => uptoBulkEntry x + uptoBulkEntries r
def uptoBulkEntry {H : Type} : Lit × DataW H → Nat
  | (.string bytes, d) => bytes.length + uptoBulk d + 1
  | (_, d) => uptoBulk d + 1
 end
def uptoSmall : (H : Type) → List (DataW H) → Bool := fun _ ds => decide (uptoBulkAll ds ≤ 1048576)
def OpenSpec.upto (s : _root_.Go.ChangeSpec) : _root_.Go.OpenSpec := { _root_.Go.OpenSpec.ofChange s with cond := some uptoSmall }

/-- 'pelicanlaw20.SymOnce', WHERE WHAT IT READS IS OF BULK AT MOST 1048576: true; the input reads as it did. -/
def symOnceUptoRow : OpenClaim := { program := "ytdinphnljokigaagreat", sum := "85080d1ec6b05e20cd28a4345f0e411b7466ed9e0aca36bf399926d9180fe890", func := "pelican/pelicanlaw20.SymOnce", spec := "symOnce", inPlace := ["slices.overlaps[pelican/frame.slot]"], unfollowed := true, recurses := true, loops := true, apart := false, narrowed := true }
def SymOnceUptoSaid : Prop := symOnceUptoRow.holds Tryz.pinned (OpenSpec.upto symOnceSpec)

/-- 'pelicanlaw20.SymAgree', WHERE WHAT IT READS IS OF BULK AT MOST 1048576: true; the input reads as it did. -/
def symAgreeUptoRow : OpenClaim := { program := "ytdinphnljokigaagreat", sum := "85080d1ec6b05e20cd28a4345f0e411b7466ed9e0aca36bf399926d9180fe890", func := "pelican/pelicanlaw20.SymAgree", spec := "symAgree", inPlace := ["slices.overlaps[pelican/frame.slot]"], unfollowed := true, recurses := true, loops := true, apart := false, narrowed := true }
def SymAgreeUptoSaid : Prop := symAgreeUptoRow.holds Tryz.pinned (OpenSpec.upto symAgreeSpec)

/-- 'pelicanlaw20.SymForge', WHERE WHAT IT READS IS OF BULK AT MOST 1048576: true; the input reads as it did. -/
def symForgeUptoRow : OpenClaim := { program := "ytdinphnljokigaagreat", sum := "85080d1ec6b05e20cd28a4345f0e411b7466ed9e0aca36bf399926d9180fe890", func := "pelican/pelicanlaw20.SymForge", spec := "symForge", inPlace := ["slices.overlaps[pelican/frame.slot]"], unfollowed := true, recurses := true, loops := true, apart := false, narrowed := true }
def SymForgeUptoSaid : Prop := symForgeUptoRow.holds Tryz.pinned (OpenSpec.upto symForgeSpec)

end Rows
end Go.Proofs.YtdinphnljokigaaGreat
