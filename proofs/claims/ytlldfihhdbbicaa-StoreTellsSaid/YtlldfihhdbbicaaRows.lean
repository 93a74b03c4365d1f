/-
  No cell of these rows narrows 'for every input' (looked for: loops, veiled, ifaces, maps, wideKeys, modest, calm, conditions, laid).
  DERIVED. THE GIVEN ROWS OF THIS SEAT. 6 by the template 'for every input the law returns true; each argument reads behind the call as it read before'; 0 by the template 'total and deterministic' (their statements: YtlldfihhdbbicaaTotals.lean).
  GIVEN WITH THE SEED: the statements are not yours to turn. If you find one false, say at which input.
  Laid BY PROGRAM, IN A SANDBOX (cutbox-rows.mjs): the forced cells as the released guide's own fill.sh prints them over the translation bc021bc94d331715… (all of the seat's roots in one cut). By AI agents, Wed Nov 11 2026. No macro, syntax, notation, axiom, sorry.
-/
import Derived.Test.YtlldfihhdbbicaaChecked
import GoSem.Claim
import GoSem.ClaimJoined
import GoSem.ClaimMapViews
import Derived.JoinedTies
import Derived.KernelRfl
namespace Go.Proofs.Ytlldfihhdbbicaa
/- THE CELL 'sum', in the pinned program and in every row, IS THE sha256 OF THE DUMP (.gsa) THAT YtlldfihhdbbicaaProg.lean LOADS. Nothing in Lean hashes anything: it is a label: what it is worth is what the hold of that sum in a sandbox is worth. -/
noncomputable def Try.pinned : Pinned := { name := "ytlldfihhdbbicaa", sum := "bc021bc94d3317151d0a7a628d7070fa5d71831081f18dabd1c1bffee6bfee85", checked := Try.checked }
namespace Rows
def none {H : Type} : Left H := { results := [], args := [] }

/-- 'pelicanlaw09.StoreMore': WHATEVER THE INPUT: true; the input reads as it did. -/
def storeMoreSpec : ChangeSpec := { name := "storeMore", fn := fun _ => fun
  | [d1, d2, d3] => { results := [.lit (.bool true)], args := [d1, d2, d3] }
  | _ => none }
def storeMoreRow : OpenClaim := { program := "ytlldfihhdbbicaa", sum := "bc021bc94d3317151d0a7a628d7070fa5d71831081f18dabd1c1bffee6bfee85", func := "pelican/pelicanlaw09.StoreMore", spec := "storeMore", unfollowed := true, recurses := true, apart := false }
def StoreMoreSaid : Prop := storeMoreRow.holds Try.pinned (OpenSpec.ofChange storeMoreSpec)

/-- ITS FALSE NEIGHBOUR: 'it returns false'. Refute it at one input. -/
def storeMoreWrong : ChangeSpec := { name := "storeMore", fn := fun _ => fun
  | [d1, d2, d3] => { results := [.lit (.bool false)], args := [d1, d2, d3] }
  | _ => none }
def StoreMoreWrongFalsely : Prop := storeMoreRow.holds Try.pinned (OpenSpec.ofChange storeMoreWrong)

/-- 'pelicanlaw09.StoreCrash': WHATEVER THE INPUT: true; the input reads as it did. -/
def storeCrashSpec : ChangeSpec := { name := "storeCrash", fn := fun _ => fun
  | [d1, d2, d3] => { results := [.lit (.bool true)], args := [d1, d2, d3] }
  | _ => none }
def storeCrashRow : OpenClaim := { program := "ytlldfihhdbbicaa", sum := "bc021bc94d3317151d0a7a628d7070fa5d71831081f18dabd1c1bffee6bfee85", func := "pelican/pelicanlaw09.StoreCrash", spec := "storeCrash", unfollowed := true, recurses := true, apart := false }
def StoreCrashSaid : Prop := storeCrashRow.holds Try.pinned (OpenSpec.ofChange storeCrashSpec)

/-- ITS FALSE NEIGHBOUR: 'it returns false'. Refute it at one input. -/
def storeCrashWrong : ChangeSpec := { name := "storeCrash", fn := fun _ => fun
  | [d1, d2, d3] => { results := [.lit (.bool false)], args := [d1, d2, d3] }
  | _ => none }
def StoreCrashWrongFalsely : Prop := storeCrashRow.holds Try.pinned (OpenSpec.ofChange storeCrashWrong)

/-- 'pelicanlaw09.StoreSure': WHATEVER THE INPUT: true; the input reads as it did. -/
def storeSureSpec : ChangeSpec := { name := "storeSure", fn := fun _ => fun
  | [d1, d2, d3] => { results := [.lit (.bool true)], args := [d1, d2, d3] }
  | _ => none }
def storeSureRow : OpenClaim := { program := "ytlldfihhdbbicaa", sum := "bc021bc94d3317151d0a7a628d7070fa5d71831081f18dabd1c1bffee6bfee85", func := "pelican/pelicanlaw09.StoreSure", spec := "storeSure", unfollowed := true, recurses := true, apart := false }
def StoreSureSaid : Prop := storeSureRow.holds Try.pinned (OpenSpec.ofChange storeSureSpec)

/-- ITS FALSE NEIGHBOUR: 'it returns false'. Refute it at one input. -/
def storeSureWrong : ChangeSpec := { name := "storeSure", fn := fun _ => fun
  | [d1, d2, d3] => { results := [.lit (.bool false)], args := [d1, d2, d3] }
  | _ => none }
def StoreSureWrongFalsely : Prop := storeSureRow.holds Try.pinned (OpenSpec.ofChange storeSureWrong)

/-- 'pelicanlaw09.StoreRoom': WHATEVER THE INPUT: true; the input reads as it did. -/
def storeRoomSpec : ChangeSpec := { name := "storeRoom", fn := fun _ => fun
  | [d1, d2, d3] => { results := [.lit (.bool true)], args := [d1, d2, d3] }
  | _ => none }
def storeRoomRow : OpenClaim := { program := "ytlldfihhdbbicaa", sum := "bc021bc94d3317151d0a7a628d7070fa5d71831081f18dabd1c1bffee6bfee85", func := "pelican/pelicanlaw09.StoreRoom", spec := "storeRoom", unfollowed := true, recurses := true, apart := false }
def StoreRoomSaid : Prop := storeRoomRow.holds Try.pinned (OpenSpec.ofChange storeRoomSpec)

/-- ITS FALSE NEIGHBOUR: 'it returns false'. Refute it at one input. -/
def storeRoomWrong : ChangeSpec := { name := "storeRoom", fn := fun _ => fun
  | [d1, d2, d3] => { results := [.lit (.bool false)], args := [d1, d2, d3] }
  | _ => none }
def StoreRoomWrongFalsely : Prop := storeRoomRow.holds Try.pinned (OpenSpec.ofChange storeRoomWrong)

/-- 'pelicanlaw09.StoreStays': WHATEVER THE INPUT: true; the input reads as it did. -/
def storeStaysSpec : ChangeSpec := { name := "storeStays", fn := fun _ => fun
  | [d1, d2, d3] => { results := [.lit (.bool true)], args := [d1, d2, d3] }
  | _ => none }
def storeStaysRow : OpenClaim := { program := "ytlldfihhdbbicaa", sum := "bc021bc94d3317151d0a7a628d7070fa5d71831081f18dabd1c1bffee6bfee85", func := "pelican/pelicanlaw09.StoreStays", spec := "storeStays", unfollowed := true, recurses := true, apart := false }
def StoreStaysSaid : Prop := storeStaysRow.holds Try.pinned (OpenSpec.ofChange storeStaysSpec)

/-- ITS FALSE NEIGHBOUR: 'it returns false'. Refute it at one input. -/
def storeStaysWrong : ChangeSpec := { name := "storeStays", fn := fun _ => fun
  | [d1, d2, d3] => { results := [.lit (.bool false)], args := [d1, d2, d3] }
  | _ => none }
def StoreStaysWrongFalsely : Prop := storeStaysRow.holds Try.pinned (OpenSpec.ofChange storeStaysWrong)

/-- 'pelicanlaw09.StoreTells': WHATEVER THE INPUT: true; the input reads as it did. -/
def storeTellsSpec : ChangeSpec := { name := "storeTells", fn := fun _ => fun
  | [d1, d2, d3, d4, d5] => { results := [.lit (.bool true)], args := [d1, d2, d3, d4, d5] }
  | _ => none }
def storeTellsRow : OpenClaim := { program := "ytlldfihhdbbicaa", sum := "bc021bc94d3317151d0a7a628d7070fa5d71831081f18dabd1c1bffee6bfee85", func := "pelican/pelicanlaw09.StoreTells", spec := "storeTells", unfollowed := true, recurses := true, apart := false }
def StoreTellsSaid : Prop := storeTellsRow.holds Try.pinned (OpenSpec.ofChange storeTellsSpec)

/-- ITS FALSE NEIGHBOUR: 'it returns false'. Refute it at one input. -/
def storeTellsWrong : ChangeSpec := { name := "storeTells", fn := fun _ => fun
  | [d1, d2, d3, d4, d5] => { results := [.lit (.bool false)], args := [d1, d2, d3, d4, d5] }
  | _ => none }
def StoreTellsWrongFalsely : Prop := storeTellsRow.holds Try.pinned (OpenSpec.ofChange storeTellsWrong)

/- THE SECOND FORM. 'bulk': how many values and letters a reading holds, each counted each time it is reached (what is shared counts as often as it is met; a slice's spare places count too). A statement '..UptoSaid' is the law's where the arguments, and the package variables that the reading takes, are together of bulk at most 1048576: NARROWER than '..Said'. Prove '..Said' where nothing that the law and all that it calls make is longer than what came in: it says more and counts as full. Else prove '..UptoSaid'. A law counts once. -/
mutual
def uptoBulk {H : Type} : DataW H → Nat
  | .lit (.string bytes) => bytes.length + 1
  | .lit _ => 1
  | .nil => 1
  | .ptr d => uptoBulk d + 1
  | .slice elems spare => uptoBulkAll elems + uptoBulkAll spare + 1
  | .agg parts => uptoBulkAll parts + 1
  | .iface _ d => uptoBulk d + 1
  | .map entries => uptoBulkEntries entries + 1
  | .held _ => 1
def uptoBulkAll {H : Type} : List (DataW H) → Nat
  | [] => 0
  | d :: r => uptoBulk d + uptoBulkAll r
def uptoBulkEntries {H : Type} : List (Lit × DataW H) → Nat
  | [] => 0
  | x :: r => uptoBulkEntry x + uptoBulkEntries r
def uptoBulkEntry {H : Type} : Lit × DataW H → Nat
  | (.string bytes, d) => bytes.length + uptoBulk d + 1
  | (_, d) => uptoBulk d + 1
 end
def uptoSmall : (H : Type) → List (DataW H) → Bool := fun _ ds => decide (uptoBulkAll ds ≤ 1048576)
def OpenSpec.upto (s : _root_.Go.ChangeSpec) : _root_.Go.OpenSpec := { _root_.Go.OpenSpec.ofChange s with cond := some uptoSmall }

/-- 'pelicanlaw09.StoreMore', WHERE WHAT IT READS IS OF BULK AT MOST 1048576: true; the input reads as it did. -/
def storeMoreUptoRow : OpenClaim := { program := "ytlldfihhdbbicaa", sum := "bc021bc94d3317151d0a7a628d7070fa5d71831081f18dabd1c1bffee6bfee85", func := "pelican/pelicanlaw09.StoreMore", spec := "storeMore", unfollowed := true, recurses := true, apart := false, narrowed := true }
def StoreMoreUptoSaid : Prop := storeMoreUptoRow.holds Try.pinned (OpenSpec.upto storeMoreSpec)

/-- 'pelicanlaw09.StoreCrash', WHERE WHAT IT READS IS OF BULK AT MOST 1048576: true; the input reads as it did. -/
def storeCrashUptoRow : OpenClaim := { program := "ytlldfihhdbbicaa", sum := "bc021bc94d3317151d0a7a628d7070fa5d71831081f18dabd1c1bffee6bfee85", func := "pelican/pelicanlaw09.StoreCrash", spec := "storeCrash", unfollowed := true, recurses := true, apart := false, narrowed := true }
def StoreCrashUptoSaid : Prop := storeCrashUptoRow.holds Try.pinned (OpenSpec.upto storeCrashSpec)

/-- 'pelicanlaw09.StoreSure', WHERE WHAT IT READS IS OF BULK AT MOST 1048576: true; the input reads as it did. -/
def storeSureUptoRow : OpenClaim := { program := "ytlldfihhdbbicaa", sum := "bc021bc94d3317151d0a7a628d7070fa5d71831081f18dabd1c1bffee6bfee85", func := "pelican/pelicanlaw09.StoreSure", spec := "storeSure", unfollowed := true, recurses := true, apart := false, narrowed := true }
def StoreSureUptoSaid : Prop := storeSureUptoRow.holds Try.pinned (OpenSpec.upto storeSureSpec)

/-- 'pelicanlaw09.StoreRoom', WHERE WHAT IT READS IS OF BULK AT MOST 1048576: true; the input reads as it did. -/
def storeRoomUptoRow : OpenClaim := { program := "ytlldfihhdbbicaa", sum := "bc021bc94d3317151d0a7a628d7070fa5d71831081f18dabd1c1bffee6bfee85", func := "pelican/pelicanlaw09.StoreRoom", spec := "storeRoom", unfollowed := true, recurses := true, apart := false, narrowed := true }
def StoreRoomUptoSaid : Prop := storeRoomUptoRow.holds Try.pinned (OpenSpec.upto storeRoomSpec)

/-- 'pelicanlaw09.StoreStays', WHERE WHAT IT READS IS OF BULK AT MOST 1048576: true; the input reads as it did. -/
def storeStaysUptoRow : OpenClaim := { program := "ytlldfihhdbbicaa", sum := "bc021bc94d3317151d0a7a628d7070fa5d71831081f18dabd1c1bffee6bfee85", func := "pelican/pelicanlaw09.StoreStays", spec := "storeStays", unfollowed := true, recurses := true, apart := false, narrowed := true }
def StoreStaysUptoSaid : Prop := storeStaysUptoRow.holds Try.pinned (OpenSpec.upto storeStaysSpec)

/-- 'pelicanlaw09.StoreTells', WHERE WHAT IT READS IS OF BULK AT MOST 1048576: true; the input reads as it did. -/
def storeTellsUptoRow : OpenClaim := { program := "ytlldfihhdbbicaa", sum := "bc021bc94d3317151d0a7a628d7070fa5d71831081f18dabd1c1bffee6bfee85", func := "pelican/pelicanlaw09.StoreTells", spec := "storeTells", unfollowed := true, recurses := true, apart := false, narrowed := true }
def StoreTellsUptoSaid : Prop := storeTellsUptoRow.holds Try.pinned (OpenSpec.upto storeTellsSpec)

end Rows
end Go.Proofs.Ytlldfihhdbbicaa
