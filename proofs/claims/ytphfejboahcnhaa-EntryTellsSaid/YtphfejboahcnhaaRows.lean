/-
  No cell of these rows narrows 'for every input' (looked for: loops, veiled, ifaces, maps, wideKeys, modest, calm, conditions, laid).
  DERIVED. THE GIVEN ROWS OF THIS SEAT. 6 by the template 'for every input the law returns true; each argument reads behind the call as it read before'; 0 by the template 'total and deterministic' (their statements: YtphfejboahcnhaaTotals.lean).
  GIVEN WITH THE SEED: the statements are not yours to turn. If you find one false, say at which input.
  Laid BY PROGRAM, IN A SANDBOX (cutbox-rows.mjs): the forced cells as the released guide's own fill.sh prints them over the translation ef4bc8b0f9b1b111… (all of the seat's roots in one cut). By AI agents, Wed Nov 11 2026. No macro, syntax, notation, axiom, sorry.
-/
import Derived.Test.YtphfejboahcnhaaChecked
import GoSem.Claim
import GoSem.ClaimJoined
import GoSem.ClaimMapViews
import Derived.JoinedTies
import Derived.KernelRfl
namespace Go.Proofs.Ytphfejboahcnhaa
/- THE CELL 'sum', in the pinned program and in every row, IS THE sha256 OF THE DUMP (.gsa) THAT YtphfejboahcnhaaProg.lean LOADS. Nothing in Lean hashes anything: it is a label: what it is worth is what the hold of that sum in a sandbox is worth. -/
noncomputable def Try.pinned : Pinned := { name := "ytphfejboahcnhaa", sum := "ef4bc8b0f9b1b11188c67e2e19eeb0b1d316a20a67608857ac4ccc173ff2ddee", checked := Try.checked }
namespace Rows
def none {H : Type} : Left H := { results := [], args := [] }

/-- 'pelicanlaw10.EntryTells': WHATEVER THE INPUT: true; the input reads as it did. -/
def entryTellsSpec : ChangeSpec := { name := "entryTells", fn := fun _ => fun
  | [d1, d2, d3, d4, d5] => { results := [.lit (.bool true)], args := [d1, d2, d3, d4, d5] }
  | _ => none }
def entryTellsRow : OpenClaim := { program := "ytphfejboahcnhaa", sum := "ef4bc8b0f9b1b11188c67e2e19eeb0b1d316a20a67608857ac4ccc173ff2ddee", func := "pelican/pelicanlaw10.EntryTells", spec := "entryTells", unfollowed := true, recurses := true, apart := false }
def EntryTellsSaid : Prop := entryTellsRow.holds Try.pinned (OpenSpec.ofChange entryTellsSpec)

/-- ITS FALSE NEIGHBOUR: 'it returns false'. Refute it at one input. -/
def entryTellsWrong : ChangeSpec := { name := "entryTells", fn := fun _ => fun
  | [d1, d2, d3, d4, d5] => { results := [.lit (.bool false)], args := [d1, d2, d3, d4, d5] }
  | _ => none }
def EntryTellsWrongFalsely : Prop := entryTellsRow.holds Try.pinned (OpenSpec.ofChange entryTellsWrong)

/-- 'pelicanlaw10.EntryBack': WHATEVER THE INPUT: true; the input reads as it did. -/
def entryBackSpec : ChangeSpec := { name := "entryBack", fn := fun _ => fun
  | [d1, d2, d3] => { results := [.lit (.bool true)], args := [d1, d2, d3] }
  | _ => none }
def entryBackRow : OpenClaim := { program := "ytphfejboahcnhaa", sum := "ef4bc8b0f9b1b11188c67e2e19eeb0b1d316a20a67608857ac4ccc173ff2ddee", func := "pelican/pelicanlaw10.EntryBack", spec := "entryBack", unfollowed := true, recurses := true, apart := false }
def EntryBackSaid : Prop := entryBackRow.holds Try.pinned (OpenSpec.ofChange entryBackSpec)

/-- ITS FALSE NEIGHBOUR: 'it returns false'. Refute it at one input. -/
def entryBackWrong : ChangeSpec := { name := "entryBack", fn := fun _ => fun
  | [d1, d2, d3] => { results := [.lit (.bool false)], args := [d1, d2, d3] }
  | _ => none }
def EntryBackWrongFalsely : Prop := entryBackRow.holds Try.pinned (OpenSpec.ofChange entryBackWrong)

/-- 'pelicanlaw10.EntryCut': WHATEVER THE INPUT: true; the input reads as it did. -/
def entryCutSpec : ChangeSpec := { name := "entryCut", fn := fun _ => fun
  | [d] => { results := [.lit (.bool true)], args := [d] }
  | _ => none }
def entryCutRow : OpenClaim := { program := "ytphfejboahcnhaa", sum := "ef4bc8b0f9b1b11188c67e2e19eeb0b1d316a20a67608857ac4ccc173ff2ddee", func := "pelican/pelicanlaw10.EntryCut", spec := "entryCut", unfollowed := true, recurses := true, apart := false }
def EntryCutSaid : Prop := entryCutRow.holds Try.pinned (OpenSpec.ofChange entryCutSpec)

/-- ITS FALSE NEIGHBOUR: 'it returns false'. Refute it at one input. -/
def entryCutWrong : ChangeSpec := { name := "entryCut", fn := fun _ => fun
  | [d] => { results := [.lit (.bool false)], args := [d] }
  | _ => none }
def EntryCutWrongFalsely : Prop := entryCutRow.holds Try.pinned (OpenSpec.ofChange entryCutWrong)

/-- 'pelicanlaw10.EntryOf': WHATEVER THE INPUT: true; the input reads as it did. -/
def entryOfSpec : ChangeSpec := { name := "entryOf", fn := fun _ => fun
  | [d1, d2] => { results := [.lit (.bool true)], args := [d1, d2] }
  | _ => none }
def entryOfRow : OpenClaim := { program := "ytphfejboahcnhaa", sum := "ef4bc8b0f9b1b11188c67e2e19eeb0b1d316a20a67608857ac4ccc173ff2ddee", func := "pelican/pelicanlaw10.EntryOf", spec := "entryOf", unfollowed := true, recurses := true, apart := false }
def EntryOfSaid : Prop := entryOfRow.holds Try.pinned (OpenSpec.ofChange entryOfSpec)

/-- ITS FALSE NEIGHBOUR: 'it returns false'. Refute it at one input. -/
def entryOfWrong : ChangeSpec := { name := "entryOf", fn := fun _ => fun
  | [d1, d2] => { results := [.lit (.bool false)], args := [d1, d2] }
  | _ => none }
def EntryOfWrongFalsely : Prop := entryOfRow.holds Try.pinned (OpenSpec.ofChange entryOfWrong)

/-- 'pelicanlaw10.EntryEpoch': WHATEVER THE INPUT: true; the input reads as it did. -/
def entryEpochSpec : ChangeSpec := { name := "entryEpoch", fn := fun _ => fun
  | [d1, d2] => { results := [.lit (.bool true)], args := [d1, d2] }
  | _ => none }
def entryEpochRow : OpenClaim := { program := "ytphfejboahcnhaa", sum := "ef4bc8b0f9b1b11188c67e2e19eeb0b1d316a20a67608857ac4ccc173ff2ddee", func := "pelican/pelicanlaw10.EntryEpoch", spec := "entryEpoch", unfollowed := true, recurses := true, apart := false }
def EntryEpochSaid : Prop := entryEpochRow.holds Try.pinned (OpenSpec.ofChange entryEpochSpec)

/-- ITS FALSE NEIGHBOUR: 'it returns false'. Refute it at one input. -/
def entryEpochWrong : ChangeSpec := { name := "entryEpoch", fn := fun _ => fun
  | [d1, d2] => { results := [.lit (.bool false)], args := [d1, d2] }
  | _ => none }
def EntryEpochWrongFalsely : Prop := entryEpochRow.holds Try.pinned (OpenSpec.ofChange entryEpochWrong)

/-- 'pelicanlaw10.EntrySame': WHATEVER THE INPUT: true; the input reads as it did. -/
def entrySameSpec : ChangeSpec := { name := "entrySame", fn := fun _ => fun
  | [d1, d2, d3] => { results := [.lit (.bool true)], args := [d1, d2, d3] }
  | _ => none }
def entrySameRow : OpenClaim := { program := "ytphfejboahcnhaa", sum := "ef4bc8b0f9b1b11188c67e2e19eeb0b1d316a20a67608857ac4ccc173ff2ddee", func := "pelican/pelicanlaw10.EntrySame", spec := "entrySame", unfollowed := true, recurses := true, apart := false }
def EntrySameSaid : Prop := entrySameRow.holds Try.pinned (OpenSpec.ofChange entrySameSpec)

/-- ITS FALSE NEIGHBOUR: 'it returns false'. Refute it at one input. -/
def entrySameWrong : ChangeSpec := { name := "entrySame", fn := fun _ => fun
  | [d1, d2, d3] => { results := [.lit (.bool false)], args := [d1, d2, d3] }
  | _ => none }
def EntrySameWrongFalsely : Prop := entrySameRow.holds Try.pinned (OpenSpec.ofChange entrySameWrong)

/- THE SECOND FORM. 'bulk': how many values and letters a reading holds, each counted each time it is reached (what is shared counts as often as it is met; a slice's spare places count too). A statement '..UptoSaid' is the law's where the arguments, and the package variables that the reading takes, are together of bulk at most 1048576: NARROWER than '..Said'. Prove '..Said' where nothing that the law and all that it calls make is longer than what came in: it says more and counts as full. Else prove '..UptoSaid'. A law counts once. -/
mutual
def uptoBulk {H : Type} : DataW H → Nat
  | .lit (.string bytes) => bytes.length + 1
  | .lit _ => 1
  | .nil => 1
  | .ptr d => uptoBulk d + 1
  | .slice elems spare => uptoBulkAll elems + uptoBulkAll spare + 1
  | .agg parts => uptoBulkAll parts + 1
  | .iface _ d => uptoBulk d + 1
  | .map entries => uptoBulkEntries entries + 1
  | .held _ => 1
def uptoBulkAll {H : Type} : List (DataW H) → Nat
  | [] => 0
  | d :: r => uptoBulk d + uptoBulkAll r
def uptoBulkEntries {H : Type} : List (Lit × DataW H) → Nat
  | [] => 0
  | x :: r => uptoBulkEntry x + uptoBulkEntries r
def uptoBulkEntry {H : Type} : Lit × DataW H → Nat
  | (.string bytes, d) => bytes.length + uptoBulk d + 1
  | (_, d) => uptoBulk d + 1
 end
def uptoSmall : (H : Type) → List (DataW H) → Bool := fun _ ds => decide (uptoBulkAll ds ≤ 1048576)
def OpenSpec.upto (s : _root_.Go.ChangeSpec) : _root_.Go.OpenSpec := { _root_.Go.OpenSpec.ofChange s with cond := some uptoSmall }

/-- 'pelicanlaw10.EntryTells', WHERE WHAT IT READS IS OF BULK AT MOST 1048576: true; the input reads as it did. -/
def entryTellsUptoRow : OpenClaim := { program := "ytphfejboahcnhaa", sum := "ef4bc8b0f9b1b11188c67e2e19eeb0b1d316a20a67608857ac4ccc173ff2ddee", func := "pelican/pelicanlaw10.EntryTells", spec := "entryTells", unfollowed := true, recurses := true, apart := false, narrowed := true }
def EntryTellsUptoSaid : Prop := entryTellsUptoRow.holds Try.pinned (OpenSpec.upto entryTellsSpec)

/-- 'pelicanlaw10.EntryBack', WHERE WHAT IT READS IS OF BULK AT MOST 1048576: true; the input reads as it did. -/
def entryBackUptoRow : OpenClaim := { program := "ytphfejboahcnhaa", sum := "ef4bc8b0f9b1b11188c67e2e19eeb0b1d316a20a67608857ac4ccc173ff2ddee", func := "pelican/pelicanlaw10.EntryBack", spec := "entryBack", unfollowed := true, recurses := true, apart := false, narrowed := true }
def EntryBackUptoSaid : Prop := entryBackUptoRow.holds Try.pinned (OpenSpec.upto entryBackSpec)

/-- 'pelicanlaw10.EntryCut', WHERE WHAT IT READS IS OF BULK AT MOST 1048576: true; the input reads as it did. -/
def entryCutUptoRow : OpenClaim := { program := "ytphfejboahcnhaa", sum := "ef4bc8b0f9b1b11188c67e2e19eeb0b1d316a20a67608857ac4ccc173ff2ddee", func := "pelican/pelicanlaw10.EntryCut", spec := "entryCut", unfollowed := true, recurses := true, apart := false, narrowed := true }
def EntryCutUptoSaid : Prop := entryCutUptoRow.holds Try.pinned (OpenSpec.upto entryCutSpec)

/-- 'pelicanlaw10.EntryOf', WHERE WHAT IT READS IS OF BULK AT MOST 1048576: true; the input reads as it did. -/
def entryOfUptoRow : OpenClaim := { program := "ytphfejboahcnhaa", sum := "ef4bc8b0f9b1b11188c67e2e19eeb0b1d316a20a67608857ac4ccc173ff2ddee", func := "pelican/pelicanlaw10.EntryOf", spec := "entryOf", unfollowed := true, recurses := true, apart := false, narrowed := true }
def EntryOfUptoSaid : Prop := entryOfUptoRow.holds Try.pinned (OpenSpec.upto entryOfSpec)

/-- 'pelicanlaw10.EntryEpoch', WHERE WHAT IT READS IS OF BULK AT MOST 1048576: true; the input reads as it did. -/
def entryEpochUptoRow : OpenClaim := { program := "ytphfejboahcnhaa", sum := "ef4bc8b0f9b1b11188c67e2e19eeb0b1d316a20a67608857ac4ccc173ff2ddee", func := "pelican/pelicanlaw10.EntryEpoch", spec := "entryEpoch", unfollowed := true, recurses := true, apart := false, narrowed := true }
def EntryEpochUptoSaid : Prop := entryEpochUptoRow.holds Try.pinned (OpenSpec.upto entryEpochSpec)

/-- 'pelicanlaw10.EntrySame', WHERE WHAT IT READS IS OF BULK AT MOST 1048576: true; the input reads as it did. -/
def entrySameUptoRow : OpenClaim := { program := "ytphfejboahcnhaa", sum := "ef4bc8b0f9b1b11188c67e2e19eeb0b1d316a20a67608857ac4ccc173ff2ddee", func := "pelican/pelicanlaw10.EntrySame", spec := "entrySame", unfollowed := true, recurses := true, apart := false, narrowed := true }
def EntrySameUptoSaid : Prop := entrySameUptoRow.holds Try.pinned (OpenSpec.upto entrySameSpec)

end Rows
end Go.Proofs.Ytphfejboahcnhaa
