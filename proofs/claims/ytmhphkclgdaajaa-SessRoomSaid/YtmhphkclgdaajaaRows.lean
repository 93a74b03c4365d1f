/-
  No cell of these rows narrows 'for every input' (looked for: loops, veiled, ifaces, maps, wideKeys, modest, calm, conditions, laid).
  DERIVED. THE GIVEN ROWS OF THIS SEAT. 6 by the template 'for every input the law returns true; each argument reads behind the call as it read before'; 0 by the template 'total and deterministic' (their statements: YtmhphkclgdaajaaTotals.lean).
  GIVEN WITH THE SEED: the statements are not yours to turn. If you find one false, say at which input.
  Laid BY PROGRAM, IN A SANDBOX (cutbox-rows.mjs): the forced cells as the released guide's own fill.sh prints them over the translation 21289f6e9bcf0a47… (all of the seat's roots in one cut). By AI agents, Wed Nov 11 2026. No macro, syntax, notation, axiom, sorry.
-/
import Derived.Test.YtmhphkclgdaajaaChecked
import GoSem.Claim
import GoSem.ClaimJoined
import GoSem.ClaimMapViews
import Derived.JoinedTies
import Derived.KernelRfl
namespace Go.Proofs.Ytmhphkclgdaajaa
/- THE CELL 'sum', in the pinned program and in every row, IS THE sha256 OF THE DUMP (.gsa) THAT YtmhphkclgdaajaaProg.lean LOADS. Nothing in Lean hashes anything: it is a label: what it is worth is what the hold of that sum in a sandbox is worth. -/
noncomputable def Try.pinned : Pinned := { name := "ytmhphkclgdaajaa", sum := "21289f6e9bcf0a472af3b2abe581353afd773fc1f8c7e7f16ba08ba0235fc0c8", checked := Try.checked }
namespace Rows
def none {H : Type} : Left H := { results := [], args := [] }

/-- 'pelicanlaw18.SessOnce': WHATEVER THE INPUT: true; the input reads as it did. -/
def sessOnceSpec : ChangeSpec := { name := "sessOnce", fn := fun _ => fun
  | [d1, d2, d3, d4, d5, d6, d7] => { results := [.lit (.bool true)], args := [d1, d2, d3, d4, d5, d6, d7] }
  | _ => none }
def sessOnceRow : OpenClaim := { program := "ytmhphkclgdaajaa", sum := "21289f6e9bcf0a472af3b2abe581353afd773fc1f8c7e7f16ba08ba0235fc0c8", func := "pelican/pelicanlaw18.SessOnce", spec := "sessOnce", unfollowed := true, recurses := true, apart := false }
def SessOnceSaid : Prop := sessOnceRow.holds Try.pinned (OpenSpec.ofChange sessOnceSpec)

/-- ITS FALSE NEIGHBOUR: 'it returns false'. Refute it at one input. -/
def sessOnceWrong : ChangeSpec := { name := "sessOnce", fn := fun _ => fun
  | [d1, d2, d3, d4, d5, d6, d7] => { results := [.lit (.bool false)], args := [d1, d2, d3, d4, d5, d6, d7] }
  | _ => none }
def SessOnceWrongFalsely : Prop := sessOnceRow.holds Try.pinned (OpenSpec.ofChange sessOnceWrong)

/-- 'pelicanlaw18.SessLast': WHATEVER THE INPUT: true; the input reads as it did. -/
def sessLastSpec : ChangeSpec := { name := "sessLast", fn := fun _ => fun
  | [d1, d2, d3, d4, d5] => { results := [.lit (.bool true)], args := [d1, d2, d3, d4, d5] }
  | _ => none }
def sessLastRow : OpenClaim := { program := "ytmhphkclgdaajaa", sum := "21289f6e9bcf0a472af3b2abe581353afd773fc1f8c7e7f16ba08ba0235fc0c8", func := "pelican/pelicanlaw18.SessLast", spec := "sessLast", unfollowed := true, recurses := true, apart := false }
def SessLastSaid : Prop := sessLastRow.holds Try.pinned (OpenSpec.ofChange sessLastSpec)

/-- ITS FALSE NEIGHBOUR: 'it returns false'. Refute it at one input. -/
def sessLastWrong : ChangeSpec := { name := "sessLast", fn := fun _ => fun
  | [d1, d2, d3, d4, d5] => { results := [.lit (.bool false)], args := [d1, d2, d3, d4, d5] }
  | _ => none }
def SessLastWrongFalsely : Prop := sessLastRow.holds Try.pinned (OpenSpec.ofChange sessLastWrong)

/-- 'pelicanlaw18.SessRoom': WHATEVER THE INPUT: true; the input reads as it did. -/
def sessRoomSpec : ChangeSpec := { name := "sessRoom", fn := fun _ => fun
  | [d1, d2, d3, d4, d5] => { results := [.lit (.bool true)], args := [d1, d2, d3, d4, d5] }
  | _ => none }
def sessRoomRow : OpenClaim := { program := "ytmhphkclgdaajaa", sum := "21289f6e9bcf0a472af3b2abe581353afd773fc1f8c7e7f16ba08ba0235fc0c8", func := "pelican/pelicanlaw18.SessRoom", spec := "sessRoom", unfollowed := true, recurses := true, apart := false }
def SessRoomSaid : Prop := sessRoomRow.holds Try.pinned (OpenSpec.ofChange sessRoomSpec)

/-- ITS FALSE NEIGHBOUR: 'it returns false'. Refute it at one input. -/
def sessRoomWrong : ChangeSpec := { name := "sessRoom", fn := fun _ => fun
  | [d1, d2, d3, d4, d5] => { results := [.lit (.bool false)], args := [d1, d2, d3, d4, d5] }
  | _ => none }
def SessRoomWrongFalsely : Prop := sessRoomRow.holds Try.pinned (OpenSpec.ofChange sessRoomWrong)

/-- 'pelicanlaw18.SessTells': WHATEVER THE INPUT: true; the input reads as it did. -/
def sessTellsSpec : ChangeSpec := { name := "sessTells", fn := fun _ => fun
  | [d1, d2, d3, d4, d5, d6] => { results := [.lit (.bool true)], args := [d1, d2, d3, d4, d5, d6] }
  | _ => none }
def sessTellsRow : OpenClaim := { program := "ytmhphkclgdaajaa", sum := "21289f6e9bcf0a472af3b2abe581353afd773fc1f8c7e7f16ba08ba0235fc0c8", func := "pelican/pelicanlaw18.SessTells", spec := "sessTells", unfollowed := true, recurses := true, apart := false }
def SessTellsSaid : Prop := sessTellsRow.holds Try.pinned (OpenSpec.ofChange sessTellsSpec)

/-- ITS FALSE NEIGHBOUR: 'it returns false'. Refute it at one input. -/
def sessTellsWrong : ChangeSpec := { name := "sessTells", fn := fun _ => fun
  | [d1, d2, d3, d4, d5, d6] => { results := [.lit (.bool false)], args := [d1, d2, d3, d4, d5, d6] }
  | _ => none }
def SessTellsWrongFalsely : Prop := sessTellsRow.holds Try.pinned (OpenSpec.ofChange sessTellsWrong)

/-- 'pelicanlaw18.SessStays': WHATEVER THE INPUT: true; the input reads as it did. -/
def sessStaysSpec : ChangeSpec := { name := "sessStays", fn := fun _ => fun
  | [d1, d2, d3, d4, d5] => { results := [.lit (.bool true)], args := [d1, d2, d3, d4, d5] }
  | _ => none }
def sessStaysRow : OpenClaim := { program := "ytmhphkclgdaajaa", sum := "21289f6e9bcf0a472af3b2abe581353afd773fc1f8c7e7f16ba08ba0235fc0c8", func := "pelican/pelicanlaw18.SessStays", spec := "sessStays", unfollowed := true, recurses := true, apart := false }
def SessStaysSaid : Prop := sessStaysRow.holds Try.pinned (OpenSpec.ofChange sessStaysSpec)

/-- ITS FALSE NEIGHBOUR: 'it returns false'. Refute it at one input. -/
def sessStaysWrong : ChangeSpec := { name := "sessStays", fn := fun _ => fun
  | [d1, d2, d3, d4, d5] => { results := [.lit (.bool false)], args := [d1, d2, d3, d4, d5] }
  | _ => none }
def SessStaysWrongFalsely : Prop := sessStaysRow.holds Try.pinned (OpenSpec.ofChange sessStaysWrong)

/-- 'pelicanlaw18.SessOthers': WHATEVER THE INPUT: true; the input reads as it did. -/
def sessOthersSpec : ChangeSpec := { name := "sessOthers", fn := fun _ => fun
  | [d1, d2, d3, d4, d5] => { results := [.lit (.bool true)], args := [d1, d2, d3, d4, d5] }
  | _ => none }
def sessOthersRow : OpenClaim := { program := "ytmhphkclgdaajaa", sum := "21289f6e9bcf0a472af3b2abe581353afd773fc1f8c7e7f16ba08ba0235fc0c8", func := "pelican/pelicanlaw18.SessOthers", spec := "sessOthers", unfollowed := true, recurses := true, apart := false }
def SessOthersSaid : Prop := sessOthersRow.holds Try.pinned (OpenSpec.ofChange sessOthersSpec)

/-- ITS FALSE NEIGHBOUR: 'it returns false'. Refute it at one input. -/
def sessOthersWrong : ChangeSpec := { name := "sessOthers", fn := fun _ => fun
  | [d1, d2, d3, d4, d5] => { results := [.lit (.bool false)], args := [d1, d2, d3, d4, d5] }
  | _ => none }
def SessOthersWrongFalsely : Prop := sessOthersRow.holds Try.pinned (OpenSpec.ofChange sessOthersWrong)

/- THE SECOND FORM. 'bulk': how many values and letters a reading holds, each counted each time it is reached (what is shared counts as often as it is met; a slice's spare places count too). A statement '..UptoSaid' is the law's where the arguments, and the package variables that the reading takes, are together of bulk at most 1048576: NARROWER than '..Said'. Prove '..Said' where nothing that the law and all that it calls make is longer than what came in: it says more and counts as full. Else prove '..UptoSaid'. A law counts once. -/
mutual
def uptoBulk {H : Type} : DataW H → Nat
  | .lit (.string bytes) => bytes.length + 1
  | .lit _ => 1
  | .nil => 1
  | .ptr d => uptoBulk d + 1
  | .slice elems spare => uptoBulkAll elems + uptoBulkAll spare + 1
  | .agg parts => uptoBulkAll parts + 1
  | .iface _ d => uptoBulk d + 1
  | .map entries => uptoBulkEntries entries + 1
  | .held _ => 1
def uptoBulkAll {H : Type} : List (DataW H) → Nat
  | [] => 0
  | d :: r => uptoBulk d + uptoBulkAll r
def uptoBulkEntries {H : Type} : List (Lit × DataW H) → Nat
  | [] => 0
  | x :: r => uptoBulkEntry x + uptoBulkEntries r
def uptoBulkEntry {H : Type} : Lit × DataW H → Nat
  | (.string bytes, d) => bytes.length + uptoBulk d + 1
  | (_, d) => uptoBulk d + 1
 end
def uptoSmall : (H : Type) → List (DataW H) → Bool := fun _ ds => decide (uptoBulkAll ds ≤ 1048576)
def OpenSpec.upto (s : _root_.Go.ChangeSpec) : _root_.Go.OpenSpec := { _root_.Go.OpenSpec.ofChange s with cond := some uptoSmall }

/-- 'pelicanlaw18.SessOnce', WHERE WHAT IT READS IS OF BULK AT MOST 1048576: true; the input reads as it did. -/
def sessOnceUptoRow : OpenClaim := { program := "ytmhphkclgdaajaa", sum := "21289f6e9bcf0a472af3b2abe581353afd773fc1f8c7e7f16ba08ba0235fc0c8", func := "pelican/pelicanlaw18.SessOnce", spec := "sessOnce", unfollowed := true, recurses := true, apart := false, narrowed := true }
def SessOnceUptoSaid : Prop := sessOnceUptoRow.holds Try.pinned (OpenSpec.upto sessOnceSpec)

/-- 'pelicanlaw18.SessLast', WHERE WHAT IT READS IS OF BULK AT MOST 1048576: true; the input reads as it did. -/
def sessLastUptoRow : OpenClaim := { program := "ytmhphkclgdaajaa", sum := "21289f6e9bcf0a472af3b2abe581353afd773fc1f8c7e7f16ba08ba0235fc0c8", func := "pelican/pelicanlaw18.SessLast", spec := "sessLast", unfollowed := true, recurses := true, apart := false, narrowed := true }
def SessLastUptoSaid : Prop := sessLastUptoRow.holds Try.pinned (OpenSpec.upto sessLastSpec)

/-- 'pelicanlaw18.SessRoom', WHERE WHAT IT READS IS OF BULK AT MOST 1048576: true; the input reads as it did. -/
def sessRoomUptoRow : OpenClaim := { program := "ytmhphkclgdaajaa", sum := "21289f6e9bcf0a472af3b2abe581353afd773fc1f8c7e7f16ba08ba0235fc0c8", func := "pelican/pelicanlaw18.SessRoom", spec := "sessRoom", unfollowed := true, recurses := true, apart := false, narrowed := true }
def SessRoomUptoSaid : Prop := sessRoomUptoRow.holds Try.pinned (OpenSpec.upto sessRoomSpec)

/-- 'pelicanlaw18.SessTells', WHERE WHAT IT READS IS OF BULK AT MOST 1048576: true; the input reads as it did. -/
def sessTellsUptoRow : OpenClaim := { program := "ytmhphkclgdaajaa", sum := "21289f6e9bcf0a472af3b2abe581353afd773fc1f8c7e7f16ba08ba0235fc0c8", func := "pelican/pelicanlaw18.SessTells", spec := "sessTells", unfollowed := true, recurses := true, apart := false, narrowed := true }
def SessTellsUptoSaid : Prop := sessTellsUptoRow.holds Try.pinned (OpenSpec.upto sessTellsSpec)

/-- 'pelicanlaw18.SessStays', WHERE WHAT IT READS IS OF BULK AT MOST 1048576: true; the input reads as it did. -/
def sessStaysUptoRow : OpenClaim := { program := "ytmhphkclgdaajaa", sum := "21289f6e9bcf0a472af3b2abe581353afd773fc1f8c7e7f16ba08ba0235fc0c8", func := "pelican/pelicanlaw18.SessStays", spec := "sessStays", unfollowed := true, recurses := true, apart := false, narrowed := true }
def SessStaysUptoSaid : Prop := sessStaysUptoRow.holds Try.pinned (OpenSpec.upto sessStaysSpec)

/-- 'pelicanlaw18.SessOthers', WHERE WHAT IT READS IS OF BULK AT MOST 1048576: true; the input reads as it did. -/
def sessOthersUptoRow : OpenClaim := { program := "ytmhphkclgdaajaa", sum := "21289f6e9bcf0a472af3b2abe581353afd773fc1f8c7e7f16ba08ba0235fc0c8", func := "pelican/pelicanlaw18.SessOthers", spec := "sessOthers", unfollowed := true, recurses := true, apart := false, narrowed := true }
def SessOthersUptoSaid : Prop := sessOthersUptoRow.holds Try.pinned (OpenSpec.upto sessOthersSpec)

end Rows
end Go.Proofs.Ytmhphkclgdaajaa
