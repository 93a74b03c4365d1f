/- By hand: the law StoreTells' walk, the way through. -/
import Derived.Test.YtlldfihhdbbicaaHTellsK
import Derived.Deep.RegionHeld3
namespace Go.Proofs.Ytlldfihhdbbicaa.P
open Go.RowKit Go.Lib Go.Proofs.YtlldfihhdbbicaaW.PrintWords Go.Proofs.YtlldfihhdbbicaaW.PrintLast Go.Proofs.YtlldfihhdbbicaaW.PrintMore
set_option linter.unusedVariables false
set_option linter.unusedSimpArgs false
set_option maxRecDepth 100000 in
set_option maxHeartbeats 16000000 in
theorem st_main (a n a2 n2 x room : Int) (A A2 B : Option Addr) (c c2 d : Nat) (l l2 k : List Int) (w : World) (hr : Kd.C (Kd.int .u8) w A l.length l) (hc : l.length ≤ c) (hr2 : Kd.C (Kd.int .u8) w A2 l2.length l2) (hc2 : l2.length ≤ c2) (hk : Kd.C (Kd.int .u8) w B k.length k) (hd : k.length ≤ d) (d1 : (l.length : Int) ≤ 5000) (d2 : (l2.length : Int) ≤ 5000) (d3 : (k.length : Int) ≤ 5000) (p1 p3 p4 q1 q3 q4 s1 s3 s4 t1 t3 y1 y3 left : Int) (p2 q2 s2 t2 y2 : List Int) (t4 may same : Bool) (hFW : store_Write.f a l n k = some (p1, p2, p3, p4)) (hFY : store_Sync.f a l n = some (q1, q2, q3, q4)) (hFC : store_Cut.f a l n x = some (s1, s2, s3, s4)) (hFN1 : store_New.f room = some (t1, t2, t3, t4)) (hFN2 : pelicanref09_New.f room = some (t1, t2, t3, t4)) (hFK : store_Crash.f a l n x = some (y1, y2, y3)) (hFM : store_May.f a l n = some may) (hFS1 : pelicanref09_Same.f a l n a2 l2 n2 = some same) (hFS2 : store_Same.f a l n a2 l2 n2 = some same) (hFL1 : store_Left.f a l n = some left) (hFL2 : pelicanref09_Left.f a l n = some left) (hFE : ∀ r1 r2 r3, pelicanref09_Same.f r1 r2 r3 r1 r2 r3 = some true) :
    Calls Try.prog 8 #[.agg #[.int .i64 a, .slice A l.length c, .int .i64 n], .agg #[.int .i64 a2, .slice A2 l2.length c2, .int .i64 n2], .slice B k.length d, .int .i64 x, .int .i64 room] w fun e w' => e = .returned (.bool true) ∧ Below w.heap.size w w' := by
  have HR := Aside0.mk hr
  have HC := Aside0.mk hc
  have HR2 := Aside0.mk hr2
  have HC2 := Aside0.mk hc2
  have HK := Aside0.mk hk
  have HD := Aside0.mk hd
  clear hr hc hr2 hc2 hk hd
  have FW := Aside0.mk hFW
  have FY := Aside0.mk hFY
  have FC := Aside0.mk hFC
  have FN1 := Aside0.mk hFN1
  have FN2 := Aside0.mk hFN2
  have FK := Aside0.mk hFK
  have FM := Aside0.mk hFM
  have FS1 := Aside0.mk hFS1
  have FS2 := Aside0.mk hFS2
  have FL1 := Aside0.mk hFL1
  have FL2 := Aside0.mk hFL2
  have FE := Aside0.mk hFE
  clear hFW hFY hFC hFN1 hFN2 hFK hFM hFS1 hFS2 hFL1 hFL2 hFE
  go_enter Try.func8, Try.ntmps8
  go_upto_region 6 with (first
    | (go_at_call 9; (with_reducible refine (pelicanlaw09_awake.calls true _ aw_true).mono ?_); rintro e w_ ⟨rfl, hb_⟩; have X1 := Aside0.mk (two_blocks hb_).1; have X2 := Aside0.mk (two_blocks hb_).2; have HB := Aside0.mk (below_step (below_alloc (below_alloc (Below.refl w.heap.size w) (.cells #[.int .i64 a, .slice A l.length c, .int .i64 n] 24)) (.cells #[.int .i64 a2, .slice A2 l2.length c2, .int .i64 n2] 24)) hb_); clear hb_; obtain ⟨⟨k0, k1, k2⟩, j0, j1, j2⟩ := cells3 X1.out; obtain ⟨⟨m0, m1, m2⟩, i0, i1, i2⟩ := cells3 X2.out)
    | (go_at_call 10; (with_reducible refine (pelicanlaw09_Few.calls a A c l n _ _ (Kd.C_below HR.out HB.out) HC.out rfl).mono ?_); rintro e w_ ⟨rfl, hb_⟩; clear k0 k1 k2 j0 j1 j2 m0 m1 m2 i0 i1 i2; have HB := Aside0.mk (below_step HB.out hb_); have X1 := Aside0.mk (blk_below X1.out hb_); have X2 := Aside0.mk (blk_below X2.out hb_); obtain ⟨⟨k0, k1, k2⟩, j0, j1, j2⟩ := cells3 X1.out; obtain ⟨⟨m0, m1, m2⟩, i0, i1, i2⟩ := cells3 X2.out; clear hb_)
    | (go_at_call 10; (with_reducible refine (pelicanlaw09_Few.calls a2 A2 c2 l2 n2 _ _ (Kd.C_below HR2.out HB.out) HC2.out rfl).mono ?_); rintro e w_ ⟨rfl, hb_⟩; clear k0 k1 k2 j0 j1 j2 m0 m1 m2 i0 i1 i2; have HB := Aside0.mk (below_step HB.out hb_); have X1 := Aside0.mk (blk_below X1.out hb_); have X2 := Aside0.mk (blk_below X2.out hb_); obtain ⟨⟨k0, k1, k2⟩, j0, j1, j2⟩ := cells3 X1.out; obtain ⟨⟨m0, m1, m2⟩, i0, i1, i2⟩ := cells3 X2.out; clear hb_))
  go_cut [14, 15] (fun va vb wc => ∃ b14 : Nat, va = .pointer (some ⟨b14, 0, none⟩) ∧ vb = .int .i64 p4 ∧ Aside0 (Bx wc b14 p1 p2 p3) ∧ Aside0 (wc.heap[w.heap.size]? = some (.cells #[.int .i64 a, .slice A l.length c, .int .i64 n] 24)) ∧ Aside0 (wc.heap[w.heap.size + 1]? = some (.cells #[.int .i64 a2, .slice A2 l2.length c2, .int .i64 n2] 24)) ∧ Aside0 (Below w.heap.size w wc))
  case first => as_aux_lemma =>
    go_wp2_with (first | (go_at_call 15; (with_reducible refine (store_Write.calls a A c l n B d k p1 p2 p3 p4 _ (Kd.C_below HR.out HB.out) HC.out (Kd.C_below HK.out HB.out) HD.out FW.out).mono ?_); rintro e w_ ⟨v1, rfl, hV, hb_⟩; clear k0 k1 k2 j0 j1 j2 m0 m1 m2 i0 i1 i2; obtain ⟨Ar, cr, rfl⟩ := Kd.V_slice hV; have HLr := Aside0.mk (Kd.V_reads' hV).2.1; have HCr := Aside0.mk (Kd.V_reads' hV).2.2; clear hV; have HB := Aside0.mk (below_step HB.out hb_); have X1 := Aside0.mk (blk_below X1.out hb_); have X2 := Aside0.mk (blk_below X2.out hb_); obtain ⟨⟨k0, k1, k2⟩, j0, j1, j2⟩ := cells3 X1.out; obtain ⟨⟨m0, m1, m2⟩, i0, i1, i2⟩ := cells3 X2.out; clear hb_))
    have HNW := Aside0.mk (Bx.new w_ p1 p3 p2 HLr.out HCr.out)
    go_meet
    case rel => exact ⟨w_.heap.size, rfl, rfl, ⟨HNW.out.2⟩, ⟨blk_below X1.out HNW.out.1⟩, ⟨blk_below X2.out HNW.out.1⟩, ⟨below_step HB.out HNW.out.1⟩⟩
  case rest => as_aux_lemma =>
    clear X1 X2 HB k0 k1 k2 j0 j1 j2 m0 m1 m2 i0 i1 i2 
    obtain ⟨b14, rfl, rfl, B14, X1, X2, HB⟩ := hcut
    obtain ⟨⟨k0, k1, k2⟩, j0, j1, j2⟩ := cells3 X1.out
    obtain ⟨⟨m0, m1, m2⟩, i0, i1, i2⟩ := cells3 X2.out
    go_upto_region 7 with (fail)
    go_cut [16, 17] (fun va vb wc => ∃ b16 : Nat, va = .pointer (some ⟨b16, 0, none⟩) ∧ vb = .int .i64 p4 ∧ Aside0 (Bx wc b16 p1 p2 p3) ∧ Aside0 (wc.heap[w.heap.size]? = some (.cells #[.int .i64 a, .slice A l.length c, .int .i64 n] 24)) ∧ Aside0 (wc.heap[w.heap.size + 1]? = some (.cells #[.int .i64 a2, .slice A2 l2.length c2, .int .i64 n2] 24)) ∧ Aside0 (Below w.heap.size w wc) ∧ Aside0 (Bx wc b14 p1 p2 p3))
    case first => as_aux_lemma =>
      go_wp2_with (first | (go_at_call 18; (with_reducible refine (refwrite_same a n A c l _ (Kd.C_below HR.out HB.out) HC.out p1 p2 p3 p4 B d k (Kd.C_below HK.out HB.out) HD.out FW.out).mono ?_); rintro e w_ ⟨Ar, cr, rfl, hl_, hC_, hb_⟩; clear k0 k1 k2 j0 j1 j2 m0 m1 m2 i0 i1 i2; have HLr := Aside0.mk hl_; have HCr := Aside0.mk hC_; clear hl_ hC_; have B14 := Aside0.mk (B14.out.step hb_); have HB := Aside0.mk (below_step HB.out hb_); have X1 := Aside0.mk (blk_below X1.out hb_); have X2 := Aside0.mk (blk_below X2.out hb_); obtain ⟨⟨k0, k1, k2⟩, j0, j1, j2⟩ := cells3 X1.out; obtain ⟨⟨m0, m1, m2⟩, i0, i1, i2⟩ := cells3 X2.out; clear hb_))
      have HNW := Aside0.mk (Bx.new w_ p1 p3 p2 HLr.out HCr.out)
      go_meet
      case rel => exact ⟨w_.heap.size, rfl, rfl, ⟨HNW.out.2⟩, ⟨blk_below X1.out HNW.out.1⟩, ⟨blk_below X2.out HNW.out.1⟩, ⟨below_step HB.out HNW.out.1⟩, ⟨B14.out.step HNW.out.1⟩⟩
    case rest => as_aux_lemma =>
      clear X1 X2 HB k0 k1 k2 j0 j1 j2 m0 m1 m2 i0 i1 i2 B14
      obtain ⟨b16, rfl, rfl, B16, X1, X2, HB, B14⟩ := hcut
      obtain ⟨⟨k0, k1, k2⟩, j0, j1, j2⟩ := cells3 X1.out
      obtain ⟨⟨m0, m1, m2⟩, i0, i1, i2⟩ := cells3 X2.out
      go_upto_region 8 with (fail)
      go_cut [18, 19] (fun va vb wc => ∃ b18 : Nat, va = .pointer (some ⟨b18, 0, none⟩) ∧ vb = .int .i64 q4 ∧ Aside0 (Bx wc b18 q1 q2 q3) ∧ Aside0 (wc.heap[w.heap.size]? = some (.cells #[.int .i64 a, .slice A l.length c, .int .i64 n] 24)) ∧ Aside0 (wc.heap[w.heap.size + 1]? = some (.cells #[.int .i64 a2, .slice A2 l2.length c2, .int .i64 n2] 24)) ∧ Aside0 (Below w.heap.size w wc) ∧ Aside0 (Bx wc b14 p1 p2 p3) ∧ Aside0 (Bx wc b16 p1 p2 p3))
      case first => as_aux_lemma =>
        go_wp2_with (first | (go_at_call 13; (with_reducible refine (store_Sync.calls a A c l n q1 q2 q3 q4 _ (Kd.C_below HR.out HB.out) HC.out FY.out).mono ?_); rintro e w_ ⟨v1, rfl, hV, hb_⟩; clear k0 k1 k2 j0 j1 j2 m0 m1 m2 i0 i1 i2; obtain ⟨Ar, cr, rfl⟩ := Kd.V_slice hV; have HLr := Aside0.mk (Kd.V_reads' hV).2.1; have HCr := Aside0.mk (Kd.V_reads' hV).2.2; clear hV; have B14 := Aside0.mk (B14.out.step hb_); have B16 := Aside0.mk (B16.out.step hb_); have HB := Aside0.mk (below_step HB.out hb_); have X1 := Aside0.mk (blk_below X1.out hb_); have X2 := Aside0.mk (blk_below X2.out hb_); obtain ⟨⟨k0, k1, k2⟩, j0, j1, j2⟩ := cells3 X1.out; obtain ⟨⟨m0, m1, m2⟩, i0, i1, i2⟩ := cells3 X2.out; clear hb_))
        have HNW := Aside0.mk (Bx.new w_ q1 q3 q2 HLr.out HCr.out)
        go_meet
        case rel => exact ⟨w_.heap.size, rfl, rfl, ⟨HNW.out.2⟩, ⟨blk_below X1.out HNW.out.1⟩, ⟨blk_below X2.out HNW.out.1⟩, ⟨below_step HB.out HNW.out.1⟩, ⟨B14.out.step HNW.out.1⟩, ⟨B16.out.step HNW.out.1⟩⟩
      case rest => as_aux_lemma =>
        clear X1 X2 HB k0 k1 k2 j0 j1 j2 m0 m1 m2 i0 i1 i2 B14 B16
        obtain ⟨b18, rfl, rfl, B18, X1, X2, HB, B14, B16⟩ := hcut
        obtain ⟨⟨k0, k1, k2⟩, j0, j1, j2⟩ := cells3 X1.out
        obtain ⟨⟨m0, m1, m2⟩, i0, i1, i2⟩ := cells3 X2.out
        go_upto_region 9 with (fail)
        go_cut [20, 21] (fun va vb wc => ∃ b20 : Nat, va = .pointer (some ⟨b20, 0, none⟩) ∧ vb = .int .i64 q4 ∧ Aside0 (Bx wc b20 q1 q2 q3) ∧ Aside0 (wc.heap[w.heap.size]? = some (.cells #[.int .i64 a, .slice A l.length c, .int .i64 n] 24)) ∧ Aside0 (wc.heap[w.heap.size + 1]? = some (.cells #[.int .i64 a2, .slice A2 l2.length c2, .int .i64 n2] 24)) ∧ Aside0 (Below w.heap.size w wc) ∧ Aside0 (Bx wc b14 p1 p2 p3) ∧ Aside0 (Bx wc b16 p1 p2 p3) ∧ Aside0 (Bx wc b18 q1 q2 q3))
        case first => as_aux_lemma =>
          go_wp2_with (first | (go_at_call 19; (with_reducible refine (refsync_same a n A c l _ (Kd.C_below HR.out HB.out) HC.out q1 q2 q3 q4 FY.out).mono ?_); rintro e w_ ⟨Ar, cr, rfl, hl_, hC_, hb_⟩; clear k0 k1 k2 j0 j1 j2 m0 m1 m2 i0 i1 i2; have HLr := Aside0.mk hl_; have HCr := Aside0.mk hC_; clear hl_ hC_; have B14 := Aside0.mk (B14.out.step hb_); have B16 := Aside0.mk (B16.out.step hb_); have B18 := Aside0.mk (B18.out.step hb_); have HB := Aside0.mk (below_step HB.out hb_); have X1 := Aside0.mk (blk_below X1.out hb_); have X2 := Aside0.mk (blk_below X2.out hb_); obtain ⟨⟨k0, k1, k2⟩, j0, j1, j2⟩ := cells3 X1.out; obtain ⟨⟨m0, m1, m2⟩, i0, i1, i2⟩ := cells3 X2.out; clear hb_))
          have HNW := Aside0.mk (Bx.new w_ q1 q3 q2 HLr.out HCr.out)
          go_meet
          case rel => exact ⟨w_.heap.size, rfl, rfl, ⟨HNW.out.2⟩, ⟨blk_below X1.out HNW.out.1⟩, ⟨blk_below X2.out HNW.out.1⟩, ⟨below_step HB.out HNW.out.1⟩, ⟨B14.out.step HNW.out.1⟩, ⟨B16.out.step HNW.out.1⟩, ⟨B18.out.step HNW.out.1⟩⟩
        case rest => as_aux_lemma =>
          clear X1 X2 HB k0 k1 k2 j0 j1 j2 m0 m1 m2 i0 i1 i2 B14 B16 B18
          obtain ⟨b20, rfl, rfl, B20, X1, X2, HB, B14, B16, B18⟩ := hcut
          obtain ⟨⟨k0, k1, k2⟩, j0, j1, j2⟩ := cells3 X1.out
          obtain ⟨⟨m0, m1, m2⟩, i0, i1, i2⟩ := cells3 X2.out
          go_upto_region 10 with (fail)
          go_cut [22, 23] (fun va vb wc => ∃ b22 : Nat, va = .pointer (some ⟨b22, 0, none⟩) ∧ vb = .int .i64 s4 ∧ Aside0 (Bx wc b22 s1 s2 s3) ∧ Aside0 (wc.heap[w.heap.size]? = some (.cells #[.int .i64 a, .slice A l.length c, .int .i64 n] 24)) ∧ Aside0 (wc.heap[w.heap.size + 1]? = some (.cells #[.int .i64 a2, .slice A2 l2.length c2, .int .i64 n2] 24)) ∧ Aside0 (Below w.heap.size w wc) ∧ Aside0 (Bx wc b14 p1 p2 p3) ∧ Aside0 (Bx wc b16 p1 p2 p3) ∧ Aside0 (Bx wc b18 q1 q2 q3) ∧ Aside0 (Bx wc b20 q1 q2 q3))
          case first => as_aux_lemma =>
            go_wp2_with (first | (go_at_call 17; (with_reducible refine (store_Cut.calls a A c l n x s1 s2 s3 s4 _ (Kd.C_below HR.out HB.out) HC.out FC.out).mono ?_); rintro e w_ ⟨v1, rfl, hV, hb_⟩; clear k0 k1 k2 j0 j1 j2 m0 m1 m2 i0 i1 i2; obtain ⟨Ar, cr, rfl⟩ := Kd.V_slice hV; have HLr := Aside0.mk (Kd.V_reads' hV).2.1; have HCr := Aside0.mk (Kd.V_reads' hV).2.2; clear hV; have B14 := Aside0.mk (B14.out.step hb_); have B16 := Aside0.mk (B16.out.step hb_); have B18 := Aside0.mk (B18.out.step hb_); have B20 := Aside0.mk (B20.out.step hb_); have HB := Aside0.mk (below_step HB.out hb_); have X1 := Aside0.mk (blk_below X1.out hb_); have X2 := Aside0.mk (blk_below X2.out hb_); obtain ⟨⟨k0, k1, k2⟩, j0, j1, j2⟩ := cells3 X1.out; obtain ⟨⟨m0, m1, m2⟩, i0, i1, i2⟩ := cells3 X2.out; clear hb_))
            have HNW := Aside0.mk (Bx.new w_ s1 s3 s2 HLr.out HCr.out)
            go_meet
            case rel => exact ⟨w_.heap.size, rfl, rfl, ⟨HNW.out.2⟩, ⟨blk_below X1.out HNW.out.1⟩, ⟨blk_below X2.out HNW.out.1⟩, ⟨below_step HB.out HNW.out.1⟩, ⟨B14.out.step HNW.out.1⟩, ⟨B16.out.step HNW.out.1⟩, ⟨B18.out.step HNW.out.1⟩, ⟨B20.out.step HNW.out.1⟩⟩
          case rest => as_aux_lemma =>
            clear X1 X2 HB k0 k1 k2 j0 j1 j2 m0 m1 m2 i0 i1 i2 B14 B16 B18 B20
            obtain ⟨b22, rfl, rfl, B22, X1, X2, HB, B14, B16, B18, B20⟩ := hcut
            obtain ⟨⟨k0, k1, k2⟩, j0, j1, j2⟩ := cells3 X1.out
            obtain ⟨⟨m0, m1, m2⟩, i0, i1, i2⟩ := cells3 X2.out
            go_upto_region 11 with (fail)
            go_cut [24, 25] (fun va vb wc => ∃ b24 : Nat, va = .pointer (some ⟨b24, 0, none⟩) ∧ vb = .int .i64 s4 ∧ Aside0 (Bx wc b24 s1 s2 s3) ∧ Aside0 (wc.heap[w.heap.size]? = some (.cells #[.int .i64 a, .slice A l.length c, .int .i64 n] 24)) ∧ Aside0 (wc.heap[w.heap.size + 1]? = some (.cells #[.int .i64 a2, .slice A2 l2.length c2, .int .i64 n2] 24)) ∧ Aside0 (Below w.heap.size w wc) ∧ Aside0 (Bx wc b14 p1 p2 p3) ∧ Aside0 (Bx wc b16 p1 p2 p3) ∧ Aside0 (Bx wc b18 q1 q2 q3) ∧ Aside0 (Bx wc b20 q1 q2 q3) ∧ Aside0 (Bx wc b22 s1 s2 s3))
            case first => as_aux_lemma =>
              go_wp2_with (first | (go_at_call 20; (with_reducible refine (refcut_same a n A c l _ (Kd.C_below HR.out HB.out) HC.out s1 s2 s3 s4 x FC.out).mono ?_); rintro e w_ ⟨Ar, cr, rfl, hl_, hC_, hb_⟩; clear k0 k1 k2 j0 j1 j2 m0 m1 m2 i0 i1 i2; have HLr := Aside0.mk hl_; have HCr := Aside0.mk hC_; clear hl_ hC_; have B14 := Aside0.mk (B14.out.step hb_); have B16 := Aside0.mk (B16.out.step hb_); have B18 := Aside0.mk (B18.out.step hb_); have B20 := Aside0.mk (B20.out.step hb_); have B22 := Aside0.mk (B22.out.step hb_); have HB := Aside0.mk (below_step HB.out hb_); have X1 := Aside0.mk (blk_below X1.out hb_); have X2 := Aside0.mk (blk_below X2.out hb_); obtain ⟨⟨k0, k1, k2⟩, j0, j1, j2⟩ := cells3 X1.out; obtain ⟨⟨m0, m1, m2⟩, i0, i1, i2⟩ := cells3 X2.out; clear hb_))
              have HNW := Aside0.mk (Bx.new w_ s1 s3 s2 HLr.out HCr.out)
              go_meet
              case rel => exact ⟨w_.heap.size, rfl, rfl, ⟨HNW.out.2⟩, ⟨blk_below X1.out HNW.out.1⟩, ⟨blk_below X2.out HNW.out.1⟩, ⟨below_step HB.out HNW.out.1⟩, ⟨B14.out.step HNW.out.1⟩, ⟨B16.out.step HNW.out.1⟩, ⟨B18.out.step HNW.out.1⟩, ⟨B20.out.step HNW.out.1⟩, ⟨B22.out.step HNW.out.1⟩⟩
            case rest => as_aux_lemma =>
              clear X1 X2 HB k0 k1 k2 j0 j1 j2 m0 m1 m2 i0 i1 i2 B14 B16 B18 B20 B22
              obtain ⟨b24, rfl, rfl, B24, X1, X2, HB, B14, B16, B18, B20, B22⟩ := hcut
              obtain ⟨⟨k0, k1, k2⟩, j0, j1, j2⟩ := cells3 X1.out
              obtain ⟨⟨m0, m1, m2⟩, i0, i1, i2⟩ := cells3 X2.out
              go_upto_region 12 with (fail)
              go_cut [26, 27] (fun va vb wc => ∃ b26 : Nat, va = .pointer (some ⟨b26, 0, none⟩) ∧ vb = .bool t4 ∧ Aside0 (Bx wc b26 t1 t2 t3) ∧ Aside0 (wc.heap[w.heap.size]? = some (.cells #[.int .i64 a, .slice A l.length c, .int .i64 n] 24)) ∧ Aside0 (wc.heap[w.heap.size + 1]? = some (.cells #[.int .i64 a2, .slice A2 l2.length c2, .int .i64 n2] 24)) ∧ Aside0 (Below w.heap.size w wc) ∧ Aside0 (Bx wc b14 p1 p2 p3) ∧ Aside0 (Bx wc b16 p1 p2 p3) ∧ Aside0 (Bx wc b18 q1 q2 q3) ∧ Aside0 (Bx wc b20 q1 q2 q3) ∧ Aside0 (Bx wc b22 s1 s2 s3) ∧ Aside0 (Bx wc b24 s1 s2 s3))
              case first => as_aux_lemma =>
                go_wp2_with (first | (go_at_call 21; (with_reducible refine (store_New.calls room t1 t2 t3 t4 _ FN1.out).mono ?_); rintro e w_ ⟨v1, rfl, hV, hb_⟩; clear k0 k1 k2 j0 j1 j2 m0 m1 m2 i0 i1 i2; obtain ⟨Ar, cr, rfl⟩ := Kd.R_slice hV; have HLr := Aside0.mk (Kd.R_reads' hV).2.1; have HCr := Aside0.mk (Kd.R_reads' hV).2.2; clear hV; have B14 := Aside0.mk (B14.out.step hb_); have B16 := Aside0.mk (B16.out.step hb_); have B18 := Aside0.mk (B18.out.step hb_); have B20 := Aside0.mk (B20.out.step hb_); have B22 := Aside0.mk (B22.out.step hb_); have B24 := Aside0.mk (B24.out.step hb_); have HB := Aside0.mk (below_step HB.out hb_); have X1 := Aside0.mk (blk_below X1.out hb_); have X2 := Aside0.mk (blk_below X2.out hb_); obtain ⟨⟨k0, k1, k2⟩, j0, j1, j2⟩ := cells3 X1.out; obtain ⟨⟨m0, m1, m2⟩, i0, i1, i2⟩ := cells3 X2.out; clear hb_))
                have HNW := Aside0.mk (Bx.new w_ t1 t3 t2 HLr.out HCr.out)
                go_meet
                case rel => exact ⟨w_.heap.size, rfl, rfl, ⟨HNW.out.2⟩, ⟨blk_below X1.out HNW.out.1⟩, ⟨blk_below X2.out HNW.out.1⟩, ⟨below_step HB.out HNW.out.1⟩, ⟨B14.out.step HNW.out.1⟩, ⟨B16.out.step HNW.out.1⟩, ⟨B18.out.step HNW.out.1⟩, ⟨B20.out.step HNW.out.1⟩, ⟨B22.out.step HNW.out.1⟩, ⟨B24.out.step HNW.out.1⟩⟩
              case rest => as_aux_lemma =>
                clear X1 X2 HB k0 k1 k2 j0 j1 j2 m0 m1 m2 i0 i1 i2 B14 B16 B18 B20 B22 B24
                obtain ⟨b26, rfl, rfl, B26, X1, X2, HB, B14, B16, B18, B20, B22, B24⟩ := hcut
                obtain ⟨⟨k0, k1, k2⟩, j0, j1, j2⟩ := cells3 X1.out
                obtain ⟨⟨m0, m1, m2⟩, i0, i1, i2⟩ := cells3 X2.out
                go_upto_region 13 with (fail)
                go_cut [28, 29] (fun va vb wc => ∃ b28 : Nat, va = .pointer (some ⟨b28, 0, none⟩) ∧ vb = .bool t4 ∧ Aside0 (Bx wc b28 t1 t2 t3) ∧ Aside0 (wc.heap[w.heap.size]? = some (.cells #[.int .i64 a, .slice A l.length c, .int .i64 n] 24)) ∧ Aside0 (wc.heap[w.heap.size + 1]? = some (.cells #[.int .i64 a2, .slice A2 l2.length c2, .int .i64 n2] 24)) ∧ Aside0 (Below w.heap.size w wc) ∧ Aside0 (Bx wc b14 p1 p2 p3) ∧ Aside0 (Bx wc b16 p1 p2 p3) ∧ Aside0 (Bx wc b18 q1 q2 q3) ∧ Aside0 (Bx wc b20 q1 q2 q3) ∧ Aside0 (Bx wc b22 s1 s2 s3) ∧ Aside0 (Bx wc b24 s1 s2 s3) ∧ Aside0 (Bx wc b26 t1 t2 t3))
                case first => as_aux_lemma =>
                  go_wp2_with (first | (go_at_call 22; (with_reducible refine (pelicanref09_New.calls room t1 t2 t3 t4 _ FN2.out).mono ?_); rintro e w_ ⟨v1, rfl, hV, hb_⟩; clear k0 k1 k2 j0 j1 j2 m0 m1 m2 i0 i1 i2; obtain ⟨Ar, cr, rfl⟩ := Kd.R_slice hV; have HLr := Aside0.mk (Kd.R_reads' hV).2.1; have HCr := Aside0.mk (Kd.R_reads' hV).2.2; clear hV; have B14 := Aside0.mk (B14.out.step hb_); have B16 := Aside0.mk (B16.out.step hb_); have B18 := Aside0.mk (B18.out.step hb_); have B20 := Aside0.mk (B20.out.step hb_); have B22 := Aside0.mk (B22.out.step hb_); have B24 := Aside0.mk (B24.out.step hb_); have B26 := Aside0.mk (B26.out.step hb_); have HB := Aside0.mk (below_step HB.out hb_); have X1 := Aside0.mk (blk_below X1.out hb_); have X2 := Aside0.mk (blk_below X2.out hb_); obtain ⟨⟨k0, k1, k2⟩, j0, j1, j2⟩ := cells3 X1.out; obtain ⟨⟨m0, m1, m2⟩, i0, i1, i2⟩ := cells3 X2.out; clear hb_))
                  have HNW := Aside0.mk (Bx.new w_ t1 t3 t2 HLr.out HCr.out)
                  go_meet
                  case rel => exact ⟨w_.heap.size, rfl, rfl, ⟨HNW.out.2⟩, ⟨blk_below X1.out HNW.out.1⟩, ⟨blk_below X2.out HNW.out.1⟩, ⟨below_step HB.out HNW.out.1⟩, ⟨B14.out.step HNW.out.1⟩, ⟨B16.out.step HNW.out.1⟩, ⟨B18.out.step HNW.out.1⟩, ⟨B20.out.step HNW.out.1⟩, ⟨B22.out.step HNW.out.1⟩, ⟨B24.out.step HNW.out.1⟩, ⟨B26.out.step HNW.out.1⟩⟩
                case rest => as_aux_lemma =>
                  clear X1 X2 HB k0 k1 k2 j0 j1 j2 m0 m1 m2 i0 i1 i2 B14 B16 B18 B20 B22 B24 B26
                  obtain ⟨b28, rfl, rfl, B28, X1, X2, HB, B14, B16, B18, B20, B22, B24, B26⟩ := hcut
                  obtain ⟨⟨k0, k1, k2⟩, j0, j1, j2⟩ := cells3 X1.out
                  obtain ⟨⟨m0, m1, m2⟩, i0, i1, i2⟩ := cells3 X2.out
                  go_upto_region 14 with (fail)
                  go_cut [30] (fun va wc => va = .bool true ∧ Aside0 (wc.heap[w.heap.size]? = some (.cells #[.int .i64 a, .slice A l.length c, .int .i64 n] 24)) ∧ Aside0 (wc.heap[w.heap.size + 1]? = some (.cells #[.int .i64 a2, .slice A2 l2.length c2, .int .i64 n2] 24)) ∧ Aside0 (Below w.heap.size w wc) ∧ Aside0 (Bx wc b18 q1 q2 q3) ∧ Aside0 (Bx wc b20 q1 q2 q3) ∧ Aside0 (Bx wc b22 s1 s2 s3) ∧ Aside0 (Bx wc b24 s1 s2 s3) ∧ Aside0 (Bx wc b26 t1 t2 t3) ∧ Aside0 (Bx wc b28 t1 t2 t3))
                  case first => as_aux_lemma =>
                    obtain ⟨Aa, ca, xa, hla, hCa⟩ := B14.out
                    obtain ⟨Ab, cb, xb, hlb, hCb⟩ := B16.out
                    have HLa := Aside0.mk hla
                    have HCa := Aside0.mk hCa
                    have HLb := Aside0.mk hlb
                    have HCb := Aside0.mk hCb
                    clear hla hCa hlb hCb
                    obtain ⟨⟨e0, e1, e2⟩, _⟩ := cells3 xa
                    obtain ⟨⟨g0, g1, g2⟩, _⟩ := cells3 xb
                    go_wp2_with (first | (go_at_call 23; (with_reducible refine (pelicanref09_Same.calls p1 Aa ca p2 p3 p1 Ab cb p2 p3 true _ HCa.out HLa.out HCb.out HLb.out (FE.out p1 p2 p3)).mono ?_); rintro e w_ ⟨rfl, hb_⟩; clear k0 k1 k2 j0 j1 j2 m0 m1 m2 i0 i1 i2; clear e0 e1 e2 g0 g1 g2; have B18 := Aside0.mk (B18.out.step hb_); have B20 := Aside0.mk (B20.out.step hb_); have B22 := Aside0.mk (B22.out.step hb_); have B24 := Aside0.mk (B24.out.step hb_); have B26 := Aside0.mk (B26.out.step hb_); have B28 := Aside0.mk (B28.out.step hb_); have HB := Aside0.mk (below_step HB.out hb_); have X1 := Aside0.mk (blk_below X1.out hb_); have X2 := Aside0.mk (blk_below X2.out hb_); obtain ⟨⟨k0, k1, k2⟩, j0, j1, j2⟩ := cells3 X1.out; obtain ⟨⟨m0, m1, m2⟩, i0, i1, i2⟩ := cells3 X2.out; clear hb_))
                    go_meet
                    case rel => exact ⟨rfl, X1, X2, HB, B18, B20, B22, B24, B26, B28⟩
                  case rest => as_aux_lemma =>
                    clear X1 X2 HB k0 k1 k2 j0 j1 j2 m0 m1 m2 i0 i1 i2 B14 B16 B18 B20 B22 B24 B26 B28
                    obtain ⟨rfl, X1, X2, HB, B18, B20, B22, B24, B26, B28⟩ := hcut
                    obtain ⟨⟨k0, k1, k2⟩, j0, j1, j2⟩ := cells3 X1.out
                    obtain ⟨⟨m0, m1, m2⟩, i0, i1, i2⟩ := cells3 X2.out
                    go_upto_region 15 with (fail)
                    go_cut [31] (fun va wc => va = .bool true ∧ Aside0 (wc.heap[w.heap.size]? = some (.cells #[.int .i64 a, .slice A l.length c, .int .i64 n] 24)) ∧ Aside0 (wc.heap[w.heap.size + 1]? = some (.cells #[.int .i64 a2, .slice A2 l2.length c2, .int .i64 n2] 24)) ∧ Aside0 (Below w.heap.size w wc) ∧ Aside0 (Bx wc b22 s1 s2 s3) ∧ Aside0 (Bx wc b24 s1 s2 s3) ∧ Aside0 (Bx wc b26 t1 t2 t3) ∧ Aside0 (Bx wc b28 t1 t2 t3))
                    case first => as_aux_lemma =>
                      obtain ⟨Aa, ca, xa, hla, hCa⟩ := B18.out
                      obtain ⟨Ab, cb, xb, hlb, hCb⟩ := B20.out
                      have HLa := Aside0.mk hla
                      have HCa := Aside0.mk hCa
                      have HLb := Aside0.mk hlb
                      have HCb := Aside0.mk hCb
                      clear hla hCa hlb hCb
                      obtain ⟨⟨e0, e1, e2⟩, _⟩ := cells3 xa
                      obtain ⟨⟨g0, g1, g2⟩, _⟩ := cells3 xb
                      go_wp2_with (first | (go_at_call 23; (with_reducible refine (pelicanref09_Same.calls q1 Aa ca q2 q3 q1 Ab cb q2 q3 true _ HCa.out HLa.out HCb.out HLb.out (FE.out q1 q2 q3)).mono ?_); rintro e w_ ⟨rfl, hb_⟩; clear k0 k1 k2 j0 j1 j2 m0 m1 m2 i0 i1 i2; clear e0 e1 e2 g0 g1 g2; have B22 := Aside0.mk (B22.out.step hb_); have B24 := Aside0.mk (B24.out.step hb_); have B26 := Aside0.mk (B26.out.step hb_); have B28 := Aside0.mk (B28.out.step hb_); have HB := Aside0.mk (below_step HB.out hb_); have X1 := Aside0.mk (blk_below X1.out hb_); have X2 := Aside0.mk (blk_below X2.out hb_); obtain ⟨⟨k0, k1, k2⟩, j0, j1, j2⟩ := cells3 X1.out; obtain ⟨⟨m0, m1, m2⟩, i0, i1, i2⟩ := cells3 X2.out; clear hb_))
                      go_meet
                      case rel => exact ⟨rfl, X1, X2, HB, B22, B24, B26, B28⟩
                    case rest => as_aux_lemma =>
                      clear X1 X2 HB k0 k1 k2 j0 j1 j2 m0 m1 m2 i0 i1 i2 B18 B20 B22 B24 B26 B28
                      obtain ⟨rfl, X1, X2, HB, B22, B24, B26, B28⟩ := hcut
                      obtain ⟨⟨k0, k1, k2⟩, j0, j1, j2⟩ := cells3 X1.out
                      obtain ⟨⟨m0, m1, m2⟩, i0, i1, i2⟩ := cells3 X2.out
                      go_upto_region 16 with (fail)
                      go_cut [32] (fun va wc => va = .bool true ∧ Aside0 (wc.heap[w.heap.size]? = some (.cells #[.int .i64 a, .slice A l.length c, .int .i64 n] 24)) ∧ Aside0 (wc.heap[w.heap.size + 1]? = some (.cells #[.int .i64 a2, .slice A2 l2.length c2, .int .i64 n2] 24)) ∧ Aside0 (Below w.heap.size w wc) ∧ Aside0 (Bx wc b26 t1 t2 t3) ∧ Aside0 (Bx wc b28 t1 t2 t3))
                      case first => as_aux_lemma =>
                        obtain ⟨Aa, ca, xa, hla, hCa⟩ := B22.out
                        obtain ⟨Ab, cb, xb, hlb, hCb⟩ := B24.out
                        have HLa := Aside0.mk hla
                        have HCa := Aside0.mk hCa
                        have HLb := Aside0.mk hlb
                        have HCb := Aside0.mk hCb
                        clear hla hCa hlb hCb
                        obtain ⟨⟨e0, e1, e2⟩, _⟩ := cells3 xa
                        obtain ⟨⟨g0, g1, g2⟩, _⟩ := cells3 xb
                        go_wp2_with (first | (go_at_call 23; (with_reducible refine (pelicanref09_Same.calls s1 Aa ca s2 s3 s1 Ab cb s2 s3 true _ HCa.out HLa.out HCb.out HLb.out (FE.out s1 s2 s3)).mono ?_); rintro e w_ ⟨rfl, hb_⟩; clear k0 k1 k2 j0 j1 j2 m0 m1 m2 i0 i1 i2; clear e0 e1 e2 g0 g1 g2; have B26 := Aside0.mk (B26.out.step hb_); have B28 := Aside0.mk (B28.out.step hb_); have HB := Aside0.mk (below_step HB.out hb_); have X1 := Aside0.mk (blk_below X1.out hb_); have X2 := Aside0.mk (blk_below X2.out hb_); obtain ⟨⟨k0, k1, k2⟩, j0, j1, j2⟩ := cells3 X1.out; obtain ⟨⟨m0, m1, m2⟩, i0, i1, i2⟩ := cells3 X2.out; clear hb_))
                        go_meet
                        case rel => exact ⟨rfl, X1, X2, HB, B26, B28⟩
                      case rest => as_aux_lemma =>
                        clear X1 X2 HB k0 k1 k2 j0 j1 j2 m0 m1 m2 i0 i1 i2 B22 B24 B26 B28
                        obtain ⟨rfl, X1, X2, HB, B26, B28⟩ := hcut
                        obtain ⟨⟨k0, k1, k2⟩, j0, j1, j2⟩ := cells3 X1.out
                        obtain ⟨⟨m0, m1, m2⟩, i0, i1, i2⟩ := cells3 X2.out
                        go_upto_region 17 with (fail)
                        go_cut [33] (fun va wc => va = .bool true ∧ Aside0 (wc.heap[w.heap.size]? = some (.cells #[.int .i64 a, .slice A l.length c, .int .i64 n] 24)) ∧ Aside0 (wc.heap[w.heap.size + 1]? = some (.cells #[.int .i64 a2, .slice A2 l2.length c2, .int .i64 n2] 24)) ∧ Aside0 (Below w.heap.size w wc) ∧ Aside0 (Bx wc b26 t1 t2 t3) ∧ Aside0 (Bx wc b28 t1 t2 t3))
                        case first => as_aux_lemma =>
                          go_wp2
                          have HBd := Aside0.mk (below_drew HB.out)
                          have X1d := Aside0.mk (blk_drew X1.out)
                          have X2d := Aside0.mk (blk_drew X2.out)
                          have B26d := Aside0.mk (B26.out.step (below_drew (Below.refl _ _)))
                          have B28d := Aside0.mk (B28.out.step (below_drew (Below.refl _ _)))
                          clear HB X1 X2 B26 B28 k0 k1 k2 j0 j1 j2 m0 m1 m2 i0 i1 i2
                          have HB := HBd
                          have X1 := X1d
                          have X2 := X2d
                          have B26 := B26d
                          have B28 := B28d
                          clear HBd X1d X2d B26d B28d
                          obtain ⟨⟨k0, k1, k2⟩, j0, j1, j2⟩ := cells3 X1.out
                          obtain ⟨⟨m0, m1, m2⟩, i0, i1, i2⟩ := cells3 X2.out
                          go_region_held3 (fun w' => w'.cell? ⟨w.heap.size, 0, none⟩ = some (.int .i64 a) ∧ w'.cell? ⟨w.heap.size, 1, none⟩ = some (.slice A l.length c) ∧ w'.cell? ⟨w.heap.size, 2, none⟩ = some (.int .i64 n)) (first | exact ⟨k0, k1, k2⟩ | go_keep)
                            (first
                              | (go_at_call 12; (with_reducible refine (store_Crash.calls a A c l n x y1 y2 y3 _ (Kd.C_below HR.out HB.out) HC.out FK.out).mono ?_); rintro e w_ ⟨v1, rfl, hV, hb_⟩; clear k0 k1 k2 j0 j1 j2 m0 m1 m2 i0 i1 i2; obtain ⟨Aa, ca, rfl⟩ := Kd.V_slice hV; have HLa := Aside0.mk (Kd.V_reads' hV).2.1; have HCa := Aside0.mk (Kd.V_reads' hV).2.2; clear hV; have B26 := Aside0.mk (B26.out.step hb_); have B28 := Aside0.mk (B28.out.step hb_); have HB := Aside0.mk (below_step HB.out hb_); have X1 := Aside0.mk (blk_below X1.out hb_); have X2 := Aside0.mk (blk_below X2.out hb_); obtain ⟨⟨k0, k1, k2⟩, j0, j1, j2⟩ := cells3 X1.out; obtain ⟨⟨m0, m1, m2⟩, i0, i1, i2⟩ := cells3 X2.out; clear hb_)
                              | (go_at_call 24; (with_reducible refine (refcrash_same a n A c l _ (Kd.C_below HR.out HB.out) HC.out y1 y2 y3 x FK.out).mono ?_); rintro e w_ ⟨Ab, cb, rfl, hlb, hCb, hb_⟩; clear k0 k1 k2 j0 j1 j2 m0 m1 m2 i0 i1 i2; have HLb := Aside0.mk hlb; have HCb := Aside0.mk hCb; clear hlb hCb; have HCa := Aside0.mk (Kd.C_below HCa.out hb_); have B26 := Aside0.mk (B26.out.step hb_); have B28 := Aside0.mk (B28.out.step hb_); have HB := Aside0.mk (below_step HB.out hb_); have X1 := Aside0.mk (blk_below X1.out hb_); have X2 := Aside0.mk (blk_below X2.out hb_); obtain ⟨⟨k0, k1, k2⟩, j0, j1, j2⟩ := cells3 X1.out; obtain ⟨⟨m0, m1, m2⟩, i0, i1, i2⟩ := cells3 X2.out; clear hb_)
                              | (go_at_call 23; (with_reducible refine (pelicanref09_Same.calls y1 Aa ca y2 y3 y1 Ab cb y2 y3 true _ HCa.out HLa.out HCb.out HLb.out (FE.out y1 y2 y3)).mono ?_); rintro e w_ ⟨rfl, hb_⟩; clear k0 k1 k2 j0 j1 j2 m0 m1 m2 i0 i1 i2; have B26 := Aside0.mk (B26.out.step hb_); have B28 := Aside0.mk (B28.out.step hb_); have HB := Aside0.mk (below_step HB.out hb_); have X1 := Aside0.mk (blk_below X1.out hb_); have X2 := Aside0.mk (blk_below X2.out hb_); obtain ⟨⟨k0, k1, k2⟩, j0, j1, j2⟩ := cells3 X1.out; obtain ⟨⟨m0, m1, m2⟩, i0, i1, i2⟩ := cells3 X2.out; clear hb_))
                          go_wp2
                          go_meet
                          case rel => exact ⟨rfl, X1, X2, HB, B26, B28⟩
                        case rest => as_aux_lemma =>
                          clear X1 X2 HB k0 k1 k2 j0 j1 j2 m0 m1 m2 i0 i1 i2 B26 B28
                          obtain ⟨rfl, X1, X2, HB, B26, B28⟩ := hcut
                          obtain ⟨⟨k0, k1, k2⟩, j0, j1, j2⟩ := cells3 X1.out
                          obtain ⟨⟨m0, m1, m2⟩, i0, i1, i2⟩ := cells3 X2.out
                          go_upto_region 18 with (fail)
                          go_cut [34] (fun va wc => va = .bool true ∧ Aside0 (wc.heap[w.heap.size]? = some (.cells #[.int .i64 a, .slice A l.length c, .int .i64 n] 24)) ∧ Aside0 (wc.heap[w.heap.size + 1]? = some (.cells #[.int .i64 a2, .slice A2 l2.length c2, .int .i64 n2] 24)) ∧ Aside0 (Below w.heap.size w wc))
                          case first => as_aux_lemma =>
                            obtain ⟨Aa, ca, xa, hla, hCa⟩ := B26.out
                            obtain ⟨Ab, cb, xb, hlb, hCb⟩ := B28.out
                            have HLa := Aside0.mk hla
                            have HCa := Aside0.mk hCa
                            have HLb := Aside0.mk hlb
                            have HCb := Aside0.mk hCb
                            clear hla hCa hlb hCb
                            obtain ⟨⟨e0, e1, e2⟩, _⟩ := cells3 xa
                            obtain ⟨⟨g0, g1, g2⟩, _⟩ := cells3 xb
                            go_wp2_with (first | (go_at_call 23; (with_reducible refine (pelicanref09_Same.calls t1 Aa ca t2 t3 t1 Ab cb t2 t3 true _ HCa.out HLa.out HCb.out HLb.out (FE.out t1 t2 t3)).mono ?_); rintro e w_ ⟨rfl, hb_⟩; clear k0 k1 k2 j0 j1 j2 m0 m1 m2 i0 i1 i2; clear e0 e1 e2 g0 g1 g2; have HB := Aside0.mk (below_step HB.out hb_); have X1 := Aside0.mk (blk_below X1.out hb_); have X2 := Aside0.mk (blk_below X2.out hb_); obtain ⟨⟨k0, k1, k2⟩, j0, j1, j2⟩ := cells3 X1.out; obtain ⟨⟨m0, m1, m2⟩, i0, i1, i2⟩ := cells3 X2.out; clear hb_))
                            go_meet
                            case rel => exact ⟨rfl, X1, X2, HB⟩
                          case rest => as_aux_lemma =>
                            clear X1 X2 HB k0 k1 k2 j0 j1 j2 m0 m1 m2 i0 i1 i2 B26 B28
                            obtain ⟨rfl, X1, X2, HB⟩ := hcut
                            obtain ⟨⟨k0, k1, k2⟩, j0, j1, j2⟩ := cells3 X1.out
                            obtain ⟨⟨m0, m1, m2⟩, i0, i1, i2⟩ := cells3 X2.out
                            go_upto_region 19 with (fail)
                            go_cut [35] (fun va wc => va = .bool may ∧ Aside0 (wc.heap[w.heap.size]? = some (.cells #[.int .i64 a, .slice A l.length c, .int .i64 n] 24)) ∧ Aside0 (wc.heap[w.heap.size + 1]? = some (.cells #[.int .i64 a2, .slice A2 l2.length c2, .int .i64 n2] 24)) ∧ Aside0 (Below w.heap.size w wc))
                            case first => as_aux_lemma =>
                              go_wp2_with (first | (go_at_call 25; (with_reducible refine (pelicanref09_May.calls a A c l n may _ (Kd.C_below HR.out HB.out) HC.out ((may_same a n l).trans FM.out)).mono ?_); rintro e w_ ⟨rfl, hb_⟩; clear k0 k1 k2 j0 j1 j2 m0 m1 m2 i0 i1 i2; have HB := Aside0.mk (below_step HB.out hb_); have X1 := Aside0.mk (blk_below X1.out hb_); have X2 := Aside0.mk (blk_below X2.out hb_); obtain ⟨⟨k0, k1, k2⟩, j0, j1, j2⟩ := cells3 X1.out; obtain ⟨⟨m0, m1, m2⟩, i0, i1, i2⟩ := cells3 X2.out; clear hb_))
                              go_meet
                              case rel => exact ⟨rfl, X1, X2, HB⟩
                            case rest => as_aux_lemma =>
                              clear X1 X2 HB k0 k1 k2 j0 j1 j2 m0 m1 m2 i0 i1 i2 
                              obtain ⟨rfl, X1, X2, HB⟩ := hcut
                              obtain ⟨⟨k0, k1, k2⟩, j0, j1, j2⟩ := cells3 X1.out
                              obtain ⟨⟨m0, m1, m2⟩, i0, i1, i2⟩ := cells3 X2.out
                              go_upto_region 20 with (fail)
                              go_cut [36] (fun va wc => va = .bool same ∧ Aside0 (wc.heap[w.heap.size]? = some (.cells #[.int .i64 a, .slice A l.length c, .int .i64 n] 24)) ∧ Aside0 (wc.heap[w.heap.size + 1]? = some (.cells #[.int .i64 a2, .slice A2 l2.length c2, .int .i64 n2] 24)) ∧ Aside0 (Below w.heap.size w wc))
                              case first => as_aux_lemma =>
                                go_wp2_with (first | (go_at_call 23; (with_reducible refine (pelicanref09_Same.calls a A c l n a2 A2 c2 l2 n2 same _ (Kd.C_below HR.out HB.out) HC.out (Kd.C_below HR2.out HB.out) HC2.out FS1.out).mono ?_); rintro e w_ ⟨rfl, hb_⟩; clear k0 k1 k2 j0 j1 j2 m0 m1 m2 i0 i1 i2; have HB := Aside0.mk (below_step HB.out hb_); have X1 := Aside0.mk (blk_below X1.out hb_); have X2 := Aside0.mk (blk_below X2.out hb_); obtain ⟨⟨k0, k1, k2⟩, j0, j1, j2⟩ := cells3 X1.out; obtain ⟨⟨m0, m1, m2⟩, i0, i1, i2⟩ := cells3 X2.out; clear hb_))
                                go_meet
                                case rel => exact ⟨rfl, X1, X2, HB⟩
                              case rest => as_aux_lemma =>
                                clear X1 X2 HB k0 k1 k2 j0 j1 j2 m0 m1 m2 i0 i1 i2 
                                obtain ⟨rfl, X1, X2, HB⟩ := hcut
                                obtain ⟨⟨k0, k1, k2⟩, j0, j1, j2⟩ := cells3 X1.out
                                obtain ⟨⟨m0, m1, m2⟩, i0, i1, i2⟩ := cells3 X2.out
                                go_upto_region 21 with (fail)
                                have HBd := Aside0.mk (below_drew HB.out)
                                have X1d := Aside0.mk (blk_drew X1.out)
                                have X2d := Aside0.mk (blk_drew X2.out)
                                clear HB X1 X2  k0 k1 k2 j0 j1 j2 m0 m1 m2 i0 i1 i2
                                have HB := HBd
                                have X1 := X1d
                                have X2 := X2d
                                clear HBd X1d X2d 
                                obtain ⟨⟨k0, k1, k2⟩, j0, j1, j2⟩ := cells3 X1.out
                                obtain ⟨⟨m0, m1, m2⟩, i0, i1, i2⟩ := cells3 X2.out
                                refine start_ (n := 54) (S := fun w' => w'.cell? ⟨w.heap.size, 0, none⟩ = some (.int .i64 a) ∧ w'.cell? ⟨w.heap.size, 1, none⟩ = some (.slice A l.length c) ∧ w'.cell? ⟨w.heap.size, 2, none⟩ = some (.int .i64 n) ∧ w'.cell? ⟨w.heap.size + 1, 0, none⟩ = some (.int .i64 a2) ∧ w'.cell? ⟨w.heap.size + 1, 1, none⟩ = some (.slice A2 l2.length c2) ∧ w'.cell? ⟨w.heap.size + 1, 2, none⟩ = some (.int .i64 n2)) (ds := []) #[false, false, false, false, false, false, false, false, false, false, false, false, false, false, false, false, false, false, false, false, false, false, false, false, false, false, false, false, false, false, false, false, false, false, false, false, false, false, false, false, false, false, false, false, false, false, false, false, false, false, false, false, false, false] (by kernel_rfl) rfl rfl ⟨k0, k1, k2, m0, m1, m2⟩ (fun hHeld => ?_)
                                refine pure_ (i := 0) (N := some 126) (v := ?_) (a' := ?_) #[true, false, false, false, false, false, false, false, false, false, false, false, false, false, false, false, false, false, false, false, false, false, false, false, false, false, false, false, false, false, false, false, false, false, false, false, false, false, false, false, false, false, false, false, false, false, false, false, false, false, false, false, false, false] rfl rfl (by kernel_rfl) (fun _ _ _ h => h) (Or.inl ⟨by rfl, ?_⟩) ?_ ?_
                                rotate_left
                                · intro w'
                                  go_simp
                                  with_reducible rfl
                                rotate_left
                                · simp only [Act.put, List.setIfInBounds_toArray, List.set_cons_zero, List.set_cons_succ, i64_w, i32_w]
                                  rfl
                                refine pure_ (i := 1) (N := some 127) (v := ?_) (a' := ?_) #[true, true, false, false, false, false, false, false, false, false, false, false, false, false, false, false, false, false, false, false, false, false, false, false, false, false, false, false, false, false, false, false, false, false, false, false, false, false, false, false, false, false, false, false, false, false, false, false, false, false, false, false, false, false] rfl rfl (by kernel_rfl) (fun _ _ _ h => h) (Or.inl ⟨by rfl, ?_⟩) ?_ ?_
                                rotate_left
                                · intro w'
                                  go_simp
                                  with_reducible rfl
                                rotate_left
                                · simp only [Act.put, List.setIfInBounds_toArray, List.set_cons_zero, List.set_cons_succ, i64_w, i32_w]
                                  rfl
                                refine pure_ (i := 2) (N := some 128) (v := ?_) (a' := ?_) #[true, true, true, false, false, false, false, false, false, false, false, false, false, false, false, false, false, false, false, false, false, false, false, false, false, false, false, false, false, false, false, false, false, false, false, false, false, false, false, false, false, false, false, false, false, false, false, false, false, false, false, false, false, false] rfl rfl (by kernel_rfl) (fun _ _ _ h => h) (Or.inl ⟨by rfl, ?_⟩) ?_ ?_
                                rotate_left
                                · intro w'
                                  go_simp
                                  with_reducible rfl
                                rotate_left
                                · simp only [Act.put, List.setIfInBounds_toArray, List.set_cons_zero, List.set_cons_succ, i64_w, i32_w]
                                  rfl
                                refine pure_ (i := 3) (N := some 129) (v := ?_) (a' := ?_) #[true, true, true, true, false, false, false, false, false, false, false, false, false, false, false, false, false, false, false, false, false, false, false, false, false, false, false, false, false, false, false, false, false, false, false, false, false, false, false, false, false, false, false, false, false, false, false, false, false, false, false, false, false, false] rfl rfl (by kernel_rfl) (fun _ _ _ h => h) (Or.inl ⟨by rfl, ?_⟩) ?_ ?_
                                rotate_left
                                · intro w'
                                  go_simp
                                  with_reducible rfl
                                rotate_left
                                · simp only [Act.put, List.setIfInBounds_toArray, List.set_cons_zero, List.set_cons_succ, i64_w, i32_w]
                                  rfl
                                refine pure_ (i := 4) (N := some 130) (v := ?_) (a' := ?_) #[true, true, true, true, true, false, false, false, false, false, false, false, false, false, false, false, false, false, false, false, false, false, false, false, false, false, false, false, false, false, false, false, false, false, false, false, false, false, false, false, false, false, false, false, false, false, false, false, false, false, false, false, false, false] rfl rfl (by kernel_rfl) (fun _ _ _ h => h) (Or.inl ⟨by rfl, ?_⟩) ?_ ?_
                                rotate_left
                                · intro w'
                                  go_simp
                                  with_reducible rfl
                                rotate_left
                                · simp only [Act.put, List.setIfInBounds_toArray, List.set_cons_zero, List.set_cons_succ, i64_w, i32_w]
                                  rfl
                                refine pure_ (i := 5) (N := some 131) (v := ?_) (a' := ?_) #[true, true, true, true, true, true, false, false, false, false, false, false, false, false, false, false, false, false, false, false, false, false, false, false, false, false, false, false, false, false, false, false, false, false, false, false, false, false, false, false, false, false, false, false, false, false, false, false, false, false, false, false, false, false] rfl rfl (by kernel_rfl) (fun _ _ _ h => h) (Or.inl ⟨by rfl, ?_⟩) ?_ ?_
                                rotate_left
                                · intro w'
                                  go_simp
                                  with_reducible rfl
                                rotate_left
                                · simp only [Act.put, List.setIfInBounds_toArray, List.set_cons_zero, List.set_cons_succ, i64_w, i32_w]
                                  rfl
                                refine pure_ (i := 6) (N := some 132) (v := ?_) (a' := ?_) #[true, true, true, true, true, true, true, false, false, false, false, false, false, false, false, false, false, false, false, false, false, false, false, false, false, false, false, false, false, false, false, false, false, false, false, false, false, false, false, false, false, false, false, false, false, false, false, false, false, false, false, false, false, false] rfl rfl (by kernel_rfl) (fun _ _ _ h => h) (Or.inl ⟨by rfl, ?_⟩) ?_ ?_
                                rotate_left
                                · intro w'
                                  go_simp
                                  with_reducible rfl
                                rotate_left
                                · simp only [Act.put, List.setIfInBounds_toArray, List.set_cons_zero, List.set_cons_succ, i64_w, i32_w]
                                  rfl
                                refine pure_ (i := 7) (N := some 133) (v := ?_) (a' := ?_) #[true, true, true, true, true, true, true, true, false, false, false, false, false, false, false, false, false, false, false, false, false, false, false, false, false, false, false, false, false, false, false, false, false, false, false, false, false, false, false, false, false, false, false, false, false, false, false, false, false, false, false, false, false, false] rfl rfl (by kernel_rfl) (fun _ _ _ h => h) (Or.inl ⟨by rfl, ?_⟩) ?_ ?_
                                rotate_left
                                · intro w'
                                  go_simp
                                  with_reducible rfl
                                rotate_left
                                · simp only [Act.put, List.setIfInBounds_toArray, List.set_cons_zero, List.set_cons_succ, i64_w, i32_w]
                                  rfl
                                refine pure_ (i := 8) (N := some 134) (v := ?_) (a' := ?_) #[true, true, true, true, true, true, true, true, true, false, false, false, false, false, false, false, false, false, false, false, false, false, false, false, false, false, false, false, false, false, false, false, false, false, false, false, false, false, false, false, false, false, false, false, false, false, false, false, false, false, false, false, false, false] rfl rfl (by kernel_rfl) (fun _ _ _ h => h) (Or.inl ⟨by rfl, ?_⟩) ?_ ?_
                                rotate_left
                                · intro w'
                                  go_simp
                                  with_reducible rfl
                                rotate_left
                                · simp only [Act.put, List.setIfInBounds_toArray, List.set_cons_zero, List.set_cons_succ, i64_w, i32_w]
                                  rfl
                                refine pure_ (i := 9) (N := some 135) (v := ?_) (a' := ?_) #[true, true, true, true, true, true, true, true, true, true, false, false, false, false, false, false, false, false, false, false, false, false, false, false, false, false, false, false, false, false, false, false, false, false, false, false, false, false, false, false, false, false, false, false, false, false, false, false, false, false, false, false, false, false] rfl rfl (by kernel_rfl) (fun _ _ _ h => h) (Or.inl ⟨by rfl, ?_⟩) ?_ ?_
                                rotate_left
                                · intro w'
                                  go_simp
                                  with_reducible rfl
                                rotate_left
                                · simp only [Act.put, List.setIfInBounds_toArray, List.set_cons_zero, List.set_cons_succ, i64_w, i32_w]
                                  rfl
                                refine pure_ (i := 10) (N := some 136) (v := ?_) (a' := ?_) #[true, true, true, true, true, true, true, true, true, true, true, false, false, false, false, false, false, false, false, false, false, false, false, false, false, false, false, false, false, false, false, false, false, false, false, false, false, false, false, false, false, false, false, false, false, false, false, false, false, false, false, false, false, false] rfl rfl (by kernel_rfl) (fun _ _ _ h => h) (Or.inl ⟨by rfl, ?_⟩) ?_ ?_
                                rotate_left
                                · intro w'
                                  go_simp
                                  with_reducible rfl
                                rotate_left
                                · simp only [Act.put, List.setIfInBounds_toArray, List.set_cons_zero, List.set_cons_succ, i64_w, i32_w]
                                  rfl
                                refine pure_ (i := 11) (N := some 137) (v := ?_) (a' := ?_) #[true, true, true, true, true, true, true, true, true, true, true, true, false, false, false, false, false, false, false, false, false, false, false, false, false, false, false, false, false, false, false, false, false, false, false, false, false, false, false, false, false, false, false, false, false, false, false, false, false, false, false, false, false, false] rfl rfl (by kernel_rfl) (fun _ _ _ h => h) (Or.inl ⟨by rfl, ?_⟩) ?_ ?_
                                rotate_left
                                · intro w'
                                  go_simp
                                  with_reducible rfl
                                rotate_left
                                · simp only [Act.put, List.setIfInBounds_toArray, List.set_cons_zero, List.set_cons_succ, i64_w, i32_w]
                                  rfl
                                refine pure_ (i := 12) (N := some 138) (v := ?_) (a' := ?_) #[true, true, true, true, true, true, true, true, true, true, true, true, true, false, false, false, false, false, false, false, false, false, false, false, false, false, false, false, false, false, false, false, false, false, false, false, false, false, false, false, false, false, false, false, false, false, false, false, false, false, false, false, false, false] rfl rfl (by kernel_rfl) (fun _ _ _ h => h) (Or.inl ⟨by rfl, ?_⟩) ?_ ?_
                                rotate_left
                                · intro w'
                                  go_simp
                                  with_reducible rfl
                                rotate_left
                                · simp only [Act.put, List.setIfInBounds_toArray, List.set_cons_zero, List.set_cons_succ, i64_w, i32_w]
                                  rfl
                                refine pure_ (i := 13) (N := some 139) (v := ?_) (a' := ?_) #[true, true, true, true, true, true, true, true, true, true, true, true, true, true, false, false, false, false, false, false, false, false, false, false, false, false, false, false, false, false, false, false, false, false, false, false, false, false, false, false, false, false, false, false, false, false, false, false, false, false, false, false, false, false] rfl rfl (by kernel_rfl) (fun _ _ _ h => h) (Or.inl ⟨by rfl, ?_⟩) ?_ ?_
                                rotate_left
                                · intro w'
                                  go_simp
                                  with_reducible rfl
                                rotate_left
                                · simp only [Act.put, List.setIfInBounds_toArray, List.set_cons_zero, List.set_cons_succ, i64_w, i32_w]
                                  rfl
                                refine pure_ (i := 14) (N := some 140) (v := ?_) (a' := ?_) #[true, true, true, true, true, true, true, true, true, true, true, true, true, true, true, false, false, false, false, false, false, false, false, false, false, false, false, false, false, false, false, false, false, false, false, false, false, false, false, false, false, false, false, false, false, false, false, false, false, false, false, false, false, false] rfl rfl (by kernel_rfl) (fun _ _ _ h => h) (Or.inl ⟨by rfl, ?_⟩) ?_ ?_
                                rotate_left
                                · intro w'
                                  go_simp
                                  with_reducible rfl
                                rotate_left
                                · simp only [Act.put, List.setIfInBounds_toArray, List.set_cons_zero, List.set_cons_succ, i64_w, i32_w]
                                  rfl
                                refine pure_ (i := 15) (N := some 141) (v := ?_) (a' := ?_) #[true, true, true, true, true, true, true, true, true, true, true, true, true, true, true, true, false, false, false, false, false, false, false, false, false, false, false, false, false, false, false, false, false, false, false, false, false, false, false, false, false, false, false, false, false, false, false, false, false, false, false, false, false, false] rfl rfl (by kernel_rfl) (fun _ _ _ h => h) (Or.inl ⟨by rfl, ?_⟩) ?_ ?_
                                rotate_left
                                · intro w'
                                  go_simp
                                  with_reducible rfl
                                rotate_left
                                · simp only [Act.put, List.setIfInBounds_toArray, List.set_cons_zero, List.set_cons_succ, i64_w, i32_w]
                                  rfl
                                refine pure_ (i := 16) (N := some 142) (v := ?_) (a' := ?_) #[true, true, true, true, true, true, true, true, true, true, true, true, true, true, true, true, true, false, false, false, false, false, false, false, false, false, false, false, false, false, false, false, false, false, false, false, false, false, false, false, false, false, false, false, false, false, false, false, false, false, false, false, false, false] rfl rfl (by kernel_rfl) (fun _ _ _ h => h) (Or.inl ⟨by rfl, ?_⟩) ?_ ?_
                                rotate_left
                                · intro w'
                                  go_simp
                                  with_reducible rfl
                                rotate_left
                                · simp only [Act.put, List.setIfInBounds_toArray, List.set_cons_zero, List.set_cons_succ, i64_w, i32_w]
                                  rfl
                                refine pure_ (i := 17) (N := some 143) (v := ?_) (a' := ?_) #[true, true, true, true, true, true, true, true, true, true, true, true, true, true, true, true, true, true, false, false, false, false, false, false, false, false, false, false, false, false, false, false, false, false, false, false, false, false, false, false, false, false, false, false, false, false, false, false, false, false, false, false, false, false] rfl rfl (by kernel_rfl) (fun _ _ _ h => h) (Or.inl ⟨by rfl, ?_⟩) ?_ ?_
                                rotate_left
                                · intro w'
                                  go_simp
                                  with_reducible rfl
                                rotate_left
                                · simp only [Act.put, List.setIfInBounds_toArray, List.set_cons_zero, List.set_cons_succ, i64_w, i32_w]
                                  rfl
                                refine pure_ (i := 18) (N := some 144) (v := ?_) (a' := ?_) #[true, true, true, true, true, true, true, true, true, true, true, true, true, true, true, true, true, true, true, false, false, false, false, false, false, false, false, false, false, false, false, false, false, false, false, false, false, false, false, false, false, false, false, false, false, false, false, false, false, false, false, false, false, false] rfl rfl (by kernel_rfl) (fun _ _ _ h => h) (Or.inl ⟨by rfl, ?_⟩) ?_ ?_
                                rotate_left
                                · intro w'
                                  go_simp
                                  with_reducible rfl
                                rotate_left
                                · simp only [Act.put, List.setIfInBounds_toArray, List.set_cons_zero, List.set_cons_succ, i64_w, i32_w]
                                  rfl
                                refine pure_ (i := 19) (N := some 145) (v := ?_) (a' := ?_) #[true, true, true, true, true, true, true, true, true, true, true, true, true, true, true, true, true, true, true, true, false, false, false, false, false, false, false, false, false, false, false, false, false, false, false, false, false, false, false, false, false, false, false, false, false, false, false, false, false, false, false, false, false, false] rfl rfl (by kernel_rfl) (fun _ _ _ h => h) (Or.inl ⟨by rfl, ?_⟩) ?_ ?_
                                rotate_left
                                · intro w'
                                  go_simp
                                  with_reducible rfl
                                rotate_left
                                · simp only [Act.put, List.setIfInBounds_toArray, List.set_cons_zero, List.set_cons_succ, i64_w, i32_w]
                                  rfl
                                refine pure_ (i := 20) (N := some 146) (v := ?_) (a' := ?_) #[true, true, true, true, true, true, true, true, true, true, true, true, true, true, true, true, true, true, true, true, true, false, false, false, false, false, false, false, false, false, false, false, false, false, false, false, false, false, false, false, false, false, false, false, false, false, false, false, false, false, false, false, false, false] rfl rfl (by kernel_rfl) (fun _ _ _ h => h) (Or.inl ⟨by rfl, ?_⟩) ?_ ?_
                                rotate_left
                                · intro w'
                                  go_simp
                                  with_reducible rfl
                                rotate_left
                                · simp only [Act.put, List.setIfInBounds_toArray, List.set_cons_zero, List.set_cons_succ, i64_w, i32_w]
                                  rfl
                                refine pure_ (i := 21) (N := some 147) (v := ?_) (a' := ?_) #[true, true, true, true, true, true, true, true, true, true, true, true, true, true, true, true, true, true, true, true, true, true, false, false, false, false, false, false, false, false, false, false, false, false, false, false, false, false, false, false, false, false, false, false, false, false, false, false, false, false, false, false, false, false] rfl rfl (by kernel_rfl) (fun _ _ _ h => h) (Or.inl ⟨by rfl, ?_⟩) ?_ ?_
                                rotate_left
                                · intro w'
                                  go_simp
                                  with_reducible rfl
                                rotate_left
                                · simp only [Act.put, List.setIfInBounds_toArray, List.set_cons_zero, List.set_cons_succ, i64_w, i32_w]
                                  rfl
                                refine pure_ (i := 22) (N := some 148) (v := ?_) (a' := ?_) #[true, true, true, true, true, true, true, true, true, true, true, true, true, true, true, true, true, true, true, true, true, true, true, false, false, false, false, false, false, false, false, false, false, false, false, false, false, false, false, false, false, false, false, false, false, false, false, false, false, false, false, false, false, false] rfl rfl (by kernel_rfl) (fun _ _ _ h => h) (Or.inl ⟨by rfl, ?_⟩) ?_ ?_
                                rotate_left
                                · intro w'
                                  go_simp
                                  with_reducible rfl
                                rotate_left
                                · simp only [Act.put, List.setIfInBounds_toArray, List.set_cons_zero, List.set_cons_succ, i64_w, i32_w]
                                  rfl
                                refine pure_ (i := 23) (N := some 149) (v := ?_) (a' := ?_) #[true, true, true, true, true, true, true, true, true, true, true, true, true, true, true, true, true, true, true, true, true, true, true, true, false, false, false, false, false, false, false, false, false, false, false, false, false, false, false, false, false, false, false, false, false, false, false, false, false, false, false, false, false, false] rfl rfl (by kernel_rfl) (fun _ _ _ h => h) (Or.inl ⟨by rfl, ?_⟩) ?_ ?_
                                rotate_left
                                · intro w'
                                  go_simp
                                  with_reducible rfl
                                rotate_left
                                · simp only [Act.put, List.setIfInBounds_toArray, List.set_cons_zero, List.set_cons_succ, i64_w, i32_w]
                                  rfl
                                refine pure_ (i := 24) (N := some 150) (v := ?_) (a' := ?_) #[true, true, true, true, true, true, true, true, true, true, true, true, true, true, true, true, true, true, true, true, true, true, true, true, true, false, false, false, false, false, false, false, false, false, false, false, false, false, false, false, false, false, false, false, false, false, false, false, false, false, false, false, false, false] rfl rfl (by kernel_rfl) (fun _ _ _ h => h) (Or.inl ⟨by rfl, ?_⟩) ?_ ?_
                                rotate_left
                                · intro w'
                                  go_simp
                                  with_reducible rfl
                                rotate_left
                                · simp only [Act.put, List.setIfInBounds_toArray, List.set_cons_zero, List.set_cons_succ, i64_w, i32_w]
                                  rfl
                                refine pure_ (i := 25) (N := some 151) (v := ?_) (a' := ?_) #[true, true, true, true, true, true, true, true, true, true, true, true, true, true, true, true, true, true, true, true, true, true, true, true, true, true, false, false, false, false, false, false, false, false, false, false, false, false, false, false, false, false, false, false, false, false, false, false, false, false, false, false, false, false] rfl rfl (by kernel_rfl) (fun _ _ _ h => h) (Or.inl ⟨by rfl, ?_⟩) ?_ ?_
                                rotate_left
                                · intro w'
                                  go_simp
                                  with_reducible rfl
                                rotate_left
                                · simp only [Act.put, List.setIfInBounds_toArray, List.set_cons_zero, List.set_cons_succ, i64_w, i32_w]
                                  rfl
                                refine pure_ (i := 26) (N := some 152) (v := ?_) (a' := ?_) #[true, true, true, true, true, true, true, true, true, true, true, true, true, true, true, true, true, true, true, true, true, true, true, true, true, true, true, false, false, false, false, false, false, false, false, false, false, false, false, false, false, false, false, false, false, false, false, false, false, false, false, false, false, false] rfl rfl (by kernel_rfl) (fun _ _ _ h => h) (Or.inl ⟨by rfl, ?_⟩) ?_ ?_
                                rotate_left
                                · intro w'
                                  go_simp
                                  with_reducible rfl
                                rotate_left
                                · simp only [Act.put, List.setIfInBounds_toArray, List.set_cons_zero, List.set_cons_succ, i64_w, i32_w]
                                  rfl
                                refine pure_ (i := 27) (N := some 153) (v := ?_) (a' := ?_) #[true, true, true, true, true, true, true, true, true, true, true, true, true, true, true, true, true, true, true, true, true, true, true, true, true, true, true, true, false, false, false, false, false, false, false, false, false, false, false, false, false, false, false, false, false, false, false, false, false, false, false, false, false, false] rfl rfl (by kernel_rfl) (fun _ _ _ h => h) (Or.inl ⟨by rfl, ?_⟩) ?_ ?_
                                rotate_left
                                · intro w'
                                  go_simp
                                  with_reducible rfl
                                rotate_left
                                · simp only [Act.put, List.setIfInBounds_toArray, List.set_cons_zero, List.set_cons_succ, i64_w, i32_w]
                                  rfl
                                refine pure_ (i := 28) (N := some 154) (v := ?_) (a' := ?_) #[true, true, true, true, true, true, true, true, true, true, true, true, true, true, true, true, true, true, true, true, true, true, true, true, true, true, true, true, true, false, false, false, false, false, false, false, false, false, false, false, false, false, false, false, false, false, false, false, false, false, false, false, false, false] rfl rfl (by kernel_rfl) (fun _ _ _ h => h) (Or.inl ⟨by rfl, ?_⟩) ?_ ?_
                                rotate_left
                                · intro w'
                                  go_simp
                                  with_reducible rfl
                                rotate_left
                                · simp only [Act.put, List.setIfInBounds_toArray, List.set_cons_zero, List.set_cons_succ, i64_w, i32_w]
                                  rfl
                                refine pure_ (i := 29) (N := some 155) (v := ?_) (a' := ?_) #[true, true, true, true, true, true, true, true, true, true, true, true, true, true, true, true, true, true, true, true, true, true, true, true, true, true, true, true, true, true, false, false, false, false, false, false, false, false, false, false, false, false, false, false, false, false, false, false, false, false, false, false, false, false] rfl rfl (by kernel_rfl) (fun _ _ _ h => h) (Or.inl ⟨by rfl, ?_⟩) ?_ ?_
                                rotate_left
                                · intro w'
                                  go_simp
                                  with_reducible rfl
                                rotate_left
                                · simp only [Act.put, List.setIfInBounds_toArray, List.set_cons_zero, List.set_cons_succ, i64_w, i32_w]
                                  rfl
                                refine pure_ (i := 30) (N := some 156) (v := ?_) (a' := ?_) #[true, true, true, true, true, true, true, true, true, true, true, true, true, true, true, true, true, true, true, true, true, true, true, true, true, true, true, true, true, true, true, false, false, false, false, false, false, false, false, false, false, false, false, false, false, false, false, false, false, false, false, false, false, false] rfl rfl (by kernel_rfl) (fun _ _ _ h => h) (Or.inl ⟨by rfl, ?_⟩) ?_ ?_
                                rotate_left
                                · intro w'
                                  go_simp
                                  with_reducible rfl
                                rotate_left
                                · simp only [Act.put, List.setIfInBounds_toArray, List.set_cons_zero, List.set_cons_succ, i64_w, i32_w]
                                  rfl
                                refine pure_ (i := 31) (N := some 157) (v := ?_) (a' := ?_) #[true, true, true, true, true, true, true, true, true, true, true, true, true, true, true, true, true, true, true, true, true, true, true, true, true, true, true, true, true, true, true, true, false, false, false, false, false, false, false, false, false, false, false, false, false, false, false, false, false, false, false, false, false, false] rfl rfl (by kernel_rfl) (fun _ _ _ h => h) (Or.inl ⟨by rfl, ?_⟩) ?_ ?_
                                rotate_left
                                · intro w'
                                  go_simp
                                  with_reducible rfl
                                rotate_left
                                · simp only [Act.put, List.setIfInBounds_toArray, List.set_cons_zero, List.set_cons_succ, i64_w, i32_w]
                                  rfl
                                refine pure_ (i := 32) (N := some 158) (v := ?_) (a' := ?_) #[true, true, true, true, true, true, true, true, true, true, true, true, true, true, true, true, true, true, true, true, true, true, true, true, true, true, true, true, true, true, true, true, true, false, false, false, false, false, false, false, false, false, false, false, false, false, false, false, false, false, false, false, false, false] rfl rfl (by kernel_rfl) (fun _ _ _ h => h) (Or.inl ⟨by rfl, ?_⟩) ?_ ?_
                                rotate_left
                                · intro w'
                                  go_simp
                                  with_reducible rfl
                                rotate_left
                                · simp only [Act.put, List.setIfInBounds_toArray, List.set_cons_zero, List.set_cons_succ, i64_w, i32_w]
                                  rfl
                                refine pure_ (i := 33) (N := some 159) (v := ?_) (a' := ?_) #[true, true, true, true, true, true, true, true, true, true, true, true, true, true, true, true, true, true, true, true, true, true, true, true, true, true, true, true, true, true, true, true, true, true, false, false, false, false, false, false, false, false, false, false, false, false, false, false, false, false, false, false, false, false] rfl rfl (by kernel_rfl) (fun _ _ _ h => h) (Or.inl ⟨by rfl, ?_⟩) ?_ ?_
                                rotate_left
                                · intro w'
                                  go_simp
                                  with_reducible rfl
                                rotate_left
                                · simp only [Act.put, List.setIfInBounds_toArray, List.set_cons_zero, List.set_cons_succ, i64_w, i32_w]
                                  rfl
                                refine pure_ (i := 36) (N := some 162) (v := ?_) (a' := ?_) #[true, true, true, true, true, true, true, true, true, true, true, true, true, true, true, true, true, true, true, true, true, true, true, true, true, true, true, true, true, true, true, true, true, true, false, false, true, false, false, false, false, false, false, false, false, false, false, false, false, false, false, false, false, false] rfl rfl (by kernel_rfl) (fun _ _ _ h => h) (Or.inl ⟨by rfl, ?_⟩) ?_ ?_
                                rotate_left
                                · intro w'
                                  go_simp
                                  with_reducible rfl
                                rotate_left
                                · simp only [Act.put, List.setIfInBounds_toArray, List.set_cons_zero, List.set_cons_succ, i64_w, i32_w]
                                  rfl
                                refine take_ (i := 34) (N := some 160) (v := ?_) (a' := ?_) #[true, true, true, true, true, true, true, true, true, true, true, true, true, true, true, true, true, true, true, true, true, true, true, true, true, true, true, true, true, true, true, true, true, true, true, false, true, false, false, false, false, false, false, false, false, false, false, false, false, false, false, false, false, false] rfl rfl (by kernel_rfl) (fun _ _ _ h => h) (Or.inl ⟨by rfl, ?_⟩) hHeld ?_ ?_
                                rotate_left
                                · rintro w' ⟨s0, s1, s2, s3, s4, s5⟩
                                  go_simp
                                  with_reducible rfl
                                rotate_left
                                · simp only [Act.put, List.setIfInBounds_toArray, List.set_cons_zero, List.set_cons_succ, i64_w, i32_w]
                                  rfl
                                refine one_ (i := 35) (N := some 161) #[true, true, true, true, true, true, true, true, true, true, true, true, true, true, true, true, true, true, true, true, true, true, true, true, true, true, true, true, true, true, true, true, true, true, true, true, true, false, false, false, false, false, false, false, false, false, false, false, false, false, false, false, false, false] rfl rfl (by kernel_rfl) (by decide) (fun K hK => ?_)
                                refine goes_ Try.func11 (by kernel_rfl) rfl #[.agg #[.int .i64 a, .slice A l.length c, .int .i64 n]] (by rfl) rfl rfl (by simp only [List.map_toArray, List.map_cons, List.map_nil]; rfl) ?_
                                with_reducible refine (store_May.calls a A c l n may _ (Kd.C_below HR.out HB.out) HC.out FM.out).mono ?_
                                rintro e w_ ⟨rfl, hb_⟩
                                refine ⟨_, rfl, ?_⟩
                                clear k0 k1 k2 j0 j1 j2 m0 m1 m2 i0 i1 i2
                                have HB := Aside0.mk (below_step HB.out hb_)
                                have X1 := Aside0.mk (blk_below X1.out hb_)
                                have X2 := Aside0.mk (blk_below X2.out hb_)
                                obtain ⟨⟨k0, k1, k2⟩, j0, j1, j2⟩ := cells3 X1.out
                                obtain ⟨⟨m0, m1, m2⟩, i0, i1, i2⟩ := cells3 X2.out
                                clear hb_
                                refine hK.out _ _ ⟨k0, k1, k2, m0, m1, m2⟩ (fun hHeld => ?_)
                                clear hK K
                                refine norm_ (a' := ?_) ?_ ?_
                                rotate_left
                                · show Act.put _ (some 161) _ = _
                                  simp only [Act.put, List.setIfInBounds_toArray, List.set_cons_zero, List.set_cons_succ, i64_w, i32_w]
                                  rfl
                                refine pure_ (i := 37) (N := some 163) (v := ?_) (a' := ?_) #[true, true, true, true, true, true, true, true, true, true, true, true, true, true, true, true, true, true, true, true, true, true, true, true, true, true, true, true, true, true, true, true, true, true, true, true, true, true, false, false, false, false, false, false, false, false, false, false, false, false, false, false, false, false] rfl rfl (by kernel_rfl) (fun _ _ _ h => h) (Or.inl ⟨by rfl, ?_⟩) ?_ ?_
                                rotate_left
                                · intro w'
                                  go_simp
                                  with_reducible rfl
                                rotate_left
                                · simp only [Act.put, List.setIfInBounds_toArray, List.set_cons_zero, List.set_cons_succ, i64_w, i32_w]
                                  rfl
                                refine pure_ (i := 38) (N := some 164) (v := ?_) (a' := ?_) #[true, true, true, true, true, true, true, true, true, true, true, true, true, true, true, true, true, true, true, true, true, true, true, true, true, true, true, true, true, true, true, true, true, true, true, true, true, true, true, false, false, false, false, false, false, false, false, false, false, false, false, false, false, false] rfl rfl (by kernel_rfl) (fun _ _ _ h => h) (Or.inl ⟨by rfl, ?_⟩) ?_ ?_
                                rotate_left
                                · intro w'
                                  go_simp
                                  with_reducible rfl
                                rotate_left
                                · simp only [Act.put, List.setIfInBounds_toArray, List.set_cons_zero, List.set_cons_succ, i64_w, i32_w]
                                  rfl
                                refine pure_ (i := 39) (N := some 165) (v := ?_) (a' := ?_) #[true, true, true, true, true, true, true, true, true, true, true, true, true, true, true, true, true, true, true, true, true, true, true, true, true, true, true, true, true, true, true, true, true, true, true, true, true, true, true, true, false, false, false, false, false, false, false, false, false, false, false, false, false, false] rfl rfl (by kernel_rfl) (fun _ _ _ h => h) (Or.inl ⟨by rfl, ?_⟩) ?_ ?_
                                rotate_left
                                · intro w'
                                  go_simp
                                  with_reducible rfl
                                rotate_left
                                · simp only [Act.put, List.setIfInBounds_toArray, List.set_cons_zero, List.set_cons_succ, i64_w, i32_w]
                                  rfl
                                refine pure_ (i := 43) (N := some 169) (v := ?_) (a' := ?_) #[true, true, true, true, true, true, true, true, true, true, true, true, true, true, true, true, true, true, true, true, true, true, true, true, true, true, true, true, true, true, true, true, true, true, true, true, true, true, true, true, false, false, false, true, false, false, false, false, false, false, false, false, false, false] rfl rfl (by kernel_rfl) (fun _ _ _ h => h) (Or.inl ⟨by rfl, ?_⟩) ?_ ?_
                                rotate_left
                                · intro w'
                                  go_simp
                                  with_reducible rfl
                                rotate_left
                                · simp only [Act.put, List.setIfInBounds_toArray, List.set_cons_zero, List.set_cons_succ, i64_w, i32_w]
                                  rfl
                                refine take_ (i := 40) (N := some 166) (v := ?_) (a' := ?_) #[true, true, true, true, true, true, true, true, true, true, true, true, true, true, true, true, true, true, true, true, true, true, true, true, true, true, true, true, true, true, true, true, true, true, true, true, true, true, true, true, true, false, false, true, false, false, false, false, false, false, false, false, false, false] rfl rfl (by kernel_rfl) (fun _ _ _ h => h) (Or.inl ⟨by rfl, ?_⟩) hHeld ?_ ?_
                                rotate_left
                                · rintro w' ⟨s0, s1, s2, s3, s4, s5⟩
                                  go_simp
                                  with_reducible rfl
                                rotate_left
                                · simp only [Act.put, List.setIfInBounds_toArray, List.set_cons_zero, List.set_cons_succ, i64_w, i32_w]
                                  rfl
                                refine take_ (i := 41) (N := some 167) (v := ?_) (a' := ?_) #[true, true, true, true, true, true, true, true, true, true, true, true, true, true, true, true, true, true, true, true, true, true, true, true, true, true, true, true, true, true, true, true, true, true, true, true, true, true, true, true, true, true, false, true, false, false, false, false, false, false, false, false, false, false] rfl rfl (by kernel_rfl) (fun _ _ _ h => h) (Or.inl ⟨by rfl, ?_⟩) hHeld ?_ ?_
                                rotate_left
                                · rintro w' ⟨s0, s1, s2, s3, s4, s5⟩
                                  go_simp
                                  with_reducible rfl
                                rotate_left
                                · simp only [Act.put, List.setIfInBounds_toArray, List.set_cons_zero, List.set_cons_succ, i64_w, i32_w]
                                  rfl
                                refine one_ (i := 42) (N := some 168) #[true, true, true, true, true, true, true, true, true, true, true, true, true, true, true, true, true, true, true, true, true, true, true, true, true, true, true, true, true, true, true, true, true, true, true, true, true, true, true, true, true, true, true, true, false, false, false, false, false, false, false, false, false, false] rfl rfl (by kernel_rfl) (by decide) (fun K hK => ?_)
                                refine goes_ Try.func14 (by kernel_rfl) rfl #[.agg #[.int .i64 a, .slice A l.length c, .int .i64 n], .agg #[.int .i64 a2, .slice A2 l2.length c2, .int .i64 n2]] (by rfl) rfl rfl (by simp only [List.map_toArray, List.map_cons, List.map_nil]; rfl) ?_
                                with_reducible refine (store_Same.calls a A c l n a2 A2 c2 l2 n2 same _ (Kd.C_below HR.out HB.out) HC.out (Kd.C_below HR2.out HB.out) HC2.out FS2.out).mono ?_
                                rintro e w_ ⟨rfl, hb_⟩
                                refine ⟨_, rfl, ?_⟩
                                clear k0 k1 k2 j0 j1 j2 m0 m1 m2 i0 i1 i2
                                have HB := Aside0.mk (below_step HB.out hb_)
                                have X1 := Aside0.mk (blk_below X1.out hb_)
                                have X2 := Aside0.mk (blk_below X2.out hb_)
                                obtain ⟨⟨k0, k1, k2⟩, j0, j1, j2⟩ := cells3 X1.out
                                obtain ⟨⟨m0, m1, m2⟩, i0, i1, i2⟩ := cells3 X2.out
                                clear hb_
                                refine hK.out _ _ ⟨k0, k1, k2, m0, m1, m2⟩ (fun hHeld => ?_)
                                clear hK K
                                refine norm_ (a' := ?_) ?_ ?_
                                rotate_left
                                · show Act.put _ (some 168) _ = _
                                  simp only [Act.put, List.setIfInBounds_toArray, List.set_cons_zero, List.set_cons_succ, i64_w, i32_w]
                                  rfl
                                refine pure_ (i := 44) (N := some 170) (v := ?_) (a' := ?_) #[true, true, true, true, true, true, true, true, true, true, true, true, true, true, true, true, true, true, true, true, true, true, true, true, true, true, true, true, true, true, true, true, true, true, true, true, true, true, true, true, true, true, true, true, true, false, false, false, false, false, false, false, false, false] rfl rfl (by kernel_rfl) (fun _ _ _ h => h) (Or.inl ⟨by rfl, ?_⟩) ?_ ?_
                                rotate_left
                                · intro w'
                                  go_simp
                                  with_reducible rfl
                                rotate_left
                                · simp only [Act.put, List.setIfInBounds_toArray, List.set_cons_zero, List.set_cons_succ, i64_w, i32_w]
                                  rfl
                                refine pure_ (i := 45) (N := some 171) (v := ?_) (a' := ?_) #[true, true, true, true, true, true, true, true, true, true, true, true, true, true, true, true, true, true, true, true, true, true, true, true, true, true, true, true, true, true, true, true, true, true, true, true, true, true, true, true, true, true, true, true, true, true, false, false, false, false, false, false, false, false] rfl rfl (by kernel_rfl) (fun _ _ _ h => h) (Or.inl ⟨by rfl, ?_⟩) ?_ ?_
                                rotate_left
                                · intro w'
                                  go_simp
                                  with_reducible rfl
                                rotate_left
                                · simp only [Act.put, List.setIfInBounds_toArray, List.set_cons_zero, List.set_cons_succ, i64_w, i32_w]
                                  rfl
                                refine pure_ (i := 46) (N := some 172) (v := ?_) (a' := ?_) #[true, true, true, true, true, true, true, true, true, true, true, true, true, true, true, true, true, true, true, true, true, true, true, true, true, true, true, true, true, true, true, true, true, true, true, true, true, true, true, true, true, true, true, true, true, true, true, false, false, false, false, false, false, false] rfl rfl (by kernel_rfl) (fun _ _ _ h => h) (Or.inl ⟨by rfl, ?_⟩) ?_ ?_
                                rotate_left
                                · intro w'
                                  go_simp
                                  with_reducible rfl
                                rotate_left
                                · simp only [Act.put, List.setIfInBounds_toArray, List.set_cons_zero, List.set_cons_succ, i64_w, i32_w]
                                  rfl
                                refine take_ (i := 47) (N := some 173) (v := ?_) (a' := ?_) #[true, true, true, true, true, true, true, true, true, true, true, true, true, true, true, true, true, true, true, true, true, true, true, true, true, true, true, true, true, true, true, true, true, true, true, true, true, true, true, true, true, true, true, true, true, true, true, true, false, false, false, false, false, false] rfl rfl (by kernel_rfl) (fun _ _ _ h => h) (Or.inl ⟨by rfl, ?_⟩) hHeld ?_ ?_
                                rotate_left
                                · rintro w' ⟨s0, s1, s2, s3, s4, s5⟩
                                  go_simp
                                  with_reducible rfl
                                rotate_left
                                · simp only [Act.put, List.setIfInBounds_toArray, List.set_cons_zero, List.set_cons_succ, i64_w, i32_w]
                                  rfl
                                refine take_ (i := 49) (N := some 175) (v := ?_) (a' := ?_) #[true, true, true, true, true, true, true, true, true, true, true, true, true, true, true, true, true, true, true, true, true, true, true, true, true, true, true, true, true, true, true, true, true, true, true, true, true, true, true, true, true, true, true, true, true, true, true, true, false, true, false, false, false, false] rfl rfl (by kernel_rfl) (fun _ _ _ h => h) (Or.inl ⟨by rfl, ?_⟩) hHeld ?_ ?_
                                rotate_left
                                · rintro w' ⟨s0, s1, s2, s3, s4, s5⟩
                                  go_simp
                                  with_reducible rfl
                                rotate_left
                                · simp only [Act.put, List.setIfInBounds_toArray, List.set_cons_zero, List.set_cons_succ, i64_w, i32_w]
                                  rfl
                                refine one_ (i := 48) (N := some 174) #[true, true, true, true, true, true, true, true, true, true, true, true, true, true, true, true, true, true, true, true, true, true, true, true, true, true, true, true, true, true, true, true, true, true, true, true, true, true, true, true, true, true, true, true, true, true, true, true, true, true, false, false, false, false] rfl rfl (by kernel_rfl) (by decide) (fun K hK => ?_)
                                refine goes_ Try.func16 (by kernel_rfl) rfl #[.agg #[.int .i64 a, .slice A l.length c, .int .i64 n]] (by rfl) rfl rfl (by simp only [List.map_toArray, List.map_cons, List.map_nil]; rfl) ?_
                                with_reducible refine (store_Left.calls a A c l n left _ (Kd.C_below HR.out HB.out) HC.out FL1.out).mono ?_
                                rintro e w_ ⟨rfl, hb_⟩
                                refine ⟨_, rfl, ?_⟩
                                clear k0 k1 k2 j0 j1 j2 m0 m1 m2 i0 i1 i2
                                have HB := Aside0.mk (below_step HB.out hb_)
                                have X1 := Aside0.mk (blk_below X1.out hb_)
                                have X2 := Aside0.mk (blk_below X2.out hb_)
                                obtain ⟨⟨k0, k1, k2⟩, j0, j1, j2⟩ := cells3 X1.out
                                obtain ⟨⟨m0, m1, m2⟩, i0, i1, i2⟩ := cells3 X2.out
                                clear hb_
                                refine hK.out _ _ ⟨k0, k1, k2, m0, m1, m2⟩ (fun hHeld => ?_)
                                clear hK K
                                refine norm_ (a' := ?_) ?_ ?_
                                rotate_left
                                · show Act.put _ (some 174) _ = _
                                  simp only [Act.put, List.setIfInBounds_toArray, List.set_cons_zero, List.set_cons_succ, i64_w, i32_w]
                                  rfl
                                refine one_ (i := 50) (N := some 176) #[true, true, true, true, true, true, true, true, true, true, true, true, true, true, true, true, true, true, true, true, true, true, true, true, true, true, true, true, true, true, true, true, true, true, true, true, true, true, true, true, true, true, true, true, true, true, true, true, true, true, true, false, false, false] rfl rfl (by kernel_rfl) (by decide) (fun K hK => ?_)
                                refine goes_ Try.func26 (by kernel_rfl) rfl #[.agg #[.int .i64 a, .slice A l.length c, .int .i64 n]] (by rfl) rfl rfl (by simp only [List.map_toArray, List.map_cons, List.map_nil]; rfl) ?_
                                with_reducible refine (pelicanref09_Left.calls a A c l n left _ (Kd.C_below HR.out HB.out) HC.out FL2.out).mono ?_
                                rintro e w_ ⟨rfl, hb_⟩
                                refine ⟨_, rfl, ?_⟩
                                clear k0 k1 k2 j0 j1 j2 m0 m1 m2 i0 i1 i2
                                have HB := Aside0.mk (below_step HB.out hb_)
                                have X1 := Aside0.mk (blk_below X1.out hb_)
                                have X2 := Aside0.mk (blk_below X2.out hb_)
                                obtain ⟨⟨k0, k1, k2⟩, j0, j1, j2⟩ := cells3 X1.out
                                obtain ⟨⟨m0, m1, m2⟩, i0, i1, i2⟩ := cells3 X2.out
                                clear hb_
                                refine hK.out _ _ ⟨k0, k1, k2, m0, m1, m2⟩ (fun hHeld => ?_)
                                clear hK K
                                refine norm_ (a' := ?_) ?_ ?_
                                rotate_left
                                · show Act.put _ (some 176) _ = _
                                  simp only [Act.put, List.setIfInBounds_toArray, List.set_cons_zero, List.set_cons_succ, i64_w, i32_w]
                                  rfl
                                refine pure_ (i := 51) (N := some 177) (v := ?_) (a' := ?_) #[true, true, true, true, true, true, true, true, true, true, true, true, true, true, true, true, true, true, true, true, true, true, true, true, true, true, true, true, true, true, true, true, true, true, true, true, true, true, true, true, true, true, true, true, true, true, true, true, true, true, true, true, false, false] rfl rfl (by kernel_rfl) (fun _ _ _ h => h) (Or.inl ⟨by rfl, ?_⟩) ?_ ?_
                                rotate_left
                                · intro w'
                                  go_simp
                                  with_reducible rfl
                                rotate_left
                                · simp only [Act.put, List.setIfInBounds_toArray, List.set_cons_zero, List.set_cons_succ, i64_w, i32_w]
                                  rfl
                                refine pure_ (i := 52) (N := some 178) (v := ?_) (a' := ?_) #[true, true, true, true, true, true, true, true, true, true, true, true, true, true, true, true, true, true, true, true, true, true, true, true, true, true, true, true, true, true, true, true, true, true, true, true, true, true, true, true, true, true, true, true, true, true, true, true, true, true, true, true, true, false] rfl rfl (by kernel_rfl) (fun _ _ _ h => h) (Or.inl ⟨by rfl, ?_⟩) ?_ ?_
                                rotate_left
                                · intro w'
                                  go_simp
                                  with_reducible rfl
                                rotate_left
                                · simp only [Act.put, List.setIfInBounds_toArray, List.set_cons_zero, List.set_cons_succ, i64_w, i32_w]
                                  rfl
                                refine pure_ (i := 53) (N := some 10) (v := ?_) (a' := ?_) #[true, true, true, true, true, true, true, true, true, true, true, true, true, true, true, true, true, true, true, true, true, true, true, true, true, true, true, true, true, true, true, true, true, true, true, true, true, true, true, true, true, true, true, true, true, true, true, true, true, true, true, true, true, true] rfl rfl (by kernel_rfl) (fun _ _ _ h => h) (Or.inl ⟨by rfl, ?_⟩) ?_ ?_
                                rotate_left
                                · intro w'
                                  go_simp
                                  with_reducible rfl
                                rotate_left
                                · simp only [Act.put, List.setIfInBounds_toArray, List.set_cons_zero, List.set_cons_succ, i64_w, i32_w]
                                  rfl
                                refine done_ (by kernel_rfl) ?_
                                go_wp2
                                go_ret
                                exact ⟨rfl, HB.out⟩
end Go.Proofs.Ytlldfihhdbbicaa.P
