/- Words that the session's print lacks. -/
import Derived.Test.YtmhphkclgdaajaaWMore
namespace Go.Proofs.YtmhphkclgdaajaaW.PrintWords
open Go.RowKit
/-- A view of bytes, made into a string. -/
theorem Kd.V_string {P : Program} {w : World} {e0 base n c : Nat} {A : Option Addr} {ok : Nat → Prop} {e src dst : TypeId} {xs : List Int} (hs : P.underlying src = some (.slice e)) (he : P.underlying e = some (.int .u8)) (hd : P.underlying dst = some .string)
    (h : Kd.V (Kd.int .u8) e0 w base ok (.slice A n c) xs) : (convert src dst (.slice A n c)).run P w = .ok (.string (strOfNums xs)) w := by
  obtain ⟨hn, hc, hC⟩ := Kd.V_reads' h
  subst hn
  exact Kd.C_string hs he hd hC
end Go.Proofs.YtmhphkclgdaajaaW.PrintWords
