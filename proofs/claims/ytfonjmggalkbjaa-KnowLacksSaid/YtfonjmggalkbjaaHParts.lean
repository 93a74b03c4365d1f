/- By hand: know.Parts. -/
import Derived.Test.YtfonjmggalkbjaaHConcat
import Derived.Test.YtfonjmggalkbjaaHTermP
import Derived.WalkMore
import Derived.Deep.LoopGhost
namespace Go.Proofs.Ytfonjmggalkbjaa.P
open Go.RowKit Go.Proofs.YtfonjmggalkbjaaW.PrintWords Go.Proofs.YtfonjmggalkbjaaW.PrintLast Go.Proofs.YtfonjmggalkbjaaW.PrintMore
set_option linter.unusedVariables false
set_option linter.unusedSimpArgs false
theorem lsize_append : ∀ l k : List S24, lsize (l ++ k) = lsize l + lsize k
  | [], k => by simp [lsize]
  | x :: l, k => by rw [List.cons_append, lsize, lsize, lsize_append l k]; omega
/-- Among others? -/
def inL (l : List S24) (t : S24) : Bool := l.any fun z => sameT z t
def todoN (t : S24) (rest : List S24) : List S24 := if t.f0 = 2 then t.f2 ++ rest else rest
def outN (t : S24) (out : List S24) : List S24 := if inL out t = true then out else out ++ [t]
theorem todoN_size (t : S24) (rest : List S24) : lsize (todoN t rest) + 1 ≤ lsize (t :: rest) := by
  have := tsize_eq t
  unfold todoN
  rw [lsize]
  split
  · rw [lsize_append]; omega
  · omega
def partsW (todo out : List S24) : List S24 := match todo with
  | [] => out
  | t :: rest => partsW (todoN t rest) (outN t out)
termination_by lsize todo
decreasing_by have := todoN_size t rest; omega
theorem partsW_nil (out : List S24) : partsW [] out = out := by rw [partsW]
theorem partsW_cons (t : S24) (rest out : List S24) : partsW (t :: rest) out = partsW (todoN t rest) (outN t out) := by rw [partsW]
theorem sl_one (ad : Addr) (m c : Nat) (hc : m + 1 ≤ c) (hm : m + 1 ≤ 9223372036854775807) : ∀ W : World, (Instr.slice 22 (.slice (some ad) (m + 1) c) (some (.int .i64 1)) none none).run Try.prog W = .ok (.slice (if c = 1 then some ad else (some ad).map (·.add (1 * 3))) m (c - 1)) W := by
  intro W
  have hel : Try.prog.elem 22 = 24 := by simp [Program.elem, Try.underlying22]
  have hu : Try.prog.underlying 22 = some (.slice (Try.prog.elem 22)) := by rw [hel]; exact Try.underlying22
  obtain ⟨i0, hi, hzz⟩ := Option.map_eq_some_iff.1 info24
  simp only [Prod.mk.injEq] at hzz
  obtain ⟨_, hz1, _⟩ := hzz
  rw [run_slice_l W 22 (some ad) (m + 1) c hu .i64 1 (by omega) (by omega), hel]
  by_cases h1 : c = 1
  · simp [sizeOf, typeInfo, hi, hz1, sliced, Result.andThen, h1]
  · simp [sizeOf, typeInfo, hi, hz1, sliced, Result.andThen, h1]
theorem head_F {W : World} {ok : Nat → Prop} {A : Option Addr} {n : Nat} {t : S24} {rest : List S24} (h : Kd.F k24 W ok A n (t :: rest)) :
    ∃ ad A2 c2, A = some ad ∧ n = rest.length + 1 ∧ W.cell? ad = some (.int .i64 t.f0) ∧ W.cell? ⟨ad.block, ad.off + 1, none⟩ = some (.int .i64 t.f1) ∧ W.cell? ⟨ad.block, ad.off + 2, none⟩ = some (.slice A2 t.f2.length c2) ∧ t.f2.length ≤ c2 ∧ Kd.F k24 W ok A2 t.f2.length t.f2 := by
  have hn := Kd.F_len h
  obtain ⟨ad, cs, rfl, hl, hFK, hc, _⟩ := Kd.F_get h t 0 (by omega) (by rw [← hn]; simp)
  obtain ⟨A2, c2, rfl, h2, h3⟩ := k24_openF hFK
  have e0 := hc 0 _ rfl
  have e1 := hc 1 _ rfl
  have e2 := hc 2 _ rfl
  refine ⟨ad, A2, c2, rfl, by rw [← hn]; rfl, ?_, ?_, ?_, h2, h3⟩
  · simpa [Addr.add] using e0
  · simpa [Addr.add] using e1
  · simpa [Addr.add] using e2
theorem rest_F {W : World} {ok : Nat → Prop} {t : S24} {rest : List S24} {ad : Addr} {c : Nat} (h : Kd.F k24 W ok (some ad) (rest.length + 1) (t :: rest)) (hc : rest.length + 1 ≤ c) :
    Kd.F k24 W ok (if c = 1 then some ad else (some ad).map (·.add (1 * 3))) rest.length rest := by
  have z := Kd.F_cut (c := c) (xs := t :: rest) (m := 1) h (by simp) hc
  exact z
def know_Parts.f (l0 : List (S24)) : Option ((List (S24))) := if lsize l0 ≤ 1000000 then some (if mayL l0 = true then partsW l0 [] else []) else none
set_option maxHeartbeats 4000000 in
set_option maxRecDepth 100000 in
theorem parts_yes (P0_ : Nat → Prop) (A0 : Option Addr) (c0 : Nat) (l0 : List (S24)) (w : World) (hs0 : Kd.V k24 24 w w.heap.size (fun k_ => P0_ k_) (.slice A0 l0.length c0) l0) (hz : lsize l0 ≤ 1000000) (hm : mayL l0 = true) :
    Calls Try.prog 14 #[.slice A0 l0.length c0] w fun e w' => ∃ v0_ : Value, e = .returned (v0_) ∧ Kd.N k24 24 w' w.heap.size (fun k_ => (P0_ k_ ∨ w.heap.size ≤ k_)) v0_ (partsW l0 []) ∧ Below w.heap.size w w' := by
  have HS := Aside0.mk hs0
  have HM := Aside0.mk (show know_May.f l0 = some true by unfold know_May.f; rw [hm])
  have HK := Aside0.mk (show api_Term_30.f l0 = some l0 by unfold api_Term_30.f; rw [if_pos (by have := len_lsize l0; omega)])
  have HC := Aside0.mk (Kd.V_reads' hs0)
  have HZ := Aside0.mk hz
  clear hs0 hm hz
  obtain ⟨R, hR⟩ : ∃ R, R = partsW l0 [] := ⟨_, rfl⟩
  rw [← hR]
  have HR := Aside0.mk hR.symm
  clear hR
  go_enter Try.func14, Try.ntmps14
  go_wp2
  refine wp_scope_straight ?_
  go_wp2_with (first
    | (go_at_call 20; (with_reducible refine (know_May.calls A0 c0 l0 true _ HC.out.2.2 HC.out.2.1 HM.out).mono ?_); rintro e w1 ⟨rfl, hb⟩; have HB := Aside0.mk hb; clear hb)
    | (go_at_call 30; (with_reducible refine (api_Term_30.calls P0_ A0 c0 l0 l0 _ (Kd.V_map HS.out (fun _ hf => Kd.F_below hf HB.out)) HK.out).mono ?_); rintro e w2 ⟨v, rfl, hN, hb⟩; have HN := Aside0.mk (Kd.N_lower (Kd.N_mono (ok' := fun k_ => P0_ k_ ∨ w.heap.size ≤ k_) hN (fun k hk => hk.imp id (fun h => Nat.le_trans HB.out.size h))) HB.out.size); have HB2 := Aside0.mk (below_step HB.out hb); clear hN hb))
  go_step3
  obtain ⟨A1, c1, ev, hl1, _⟩ := Kd.N_reads HN.out
  subst ev
  have HL1 := Aside0.mk hl1
  have HF := Aside0.mk (Kd.N_F HN.out)
  clear hl1
  go_wp2
  go_loopg [3, 4] (lsize l0) (fun k v3 v4 wr => ∃ (todo out : List S24) (A : Option Addr) (n c : Nat) (co : Nat) (Ao : Option Addr), v4 = .slice A n c ∧ v3 = .slice Ao out.length co ∧ Aside0 (n ≤ c) ∧ Aside0 (partsW todo out = R) ∧ Aside0 (out.length + lsize todo ≤ 1000000) ∧ Aside0 (k = lsize todo) ∧ Aside0 (Kd.N k24 24 wr w.heap.size (fun k_ => P0_ k_ ∨ w.heap.size ≤ k_) (.slice Ao out.length co) out) ∧ Aside0 (Kd.F k24 wr (fun k_ => (P0_ k_ ∨ w.heap.size ≤ k_) ∧ some k_ ≠ (Value.slice Ao out.length co).ownBlock) A n todo) ∧ Aside0 (Below w.heap.size w wr))
  case atStart => exact ⟨l0, [], A1, l0.length, c1, 0, none, rfl, rfl, HL1, HR, ⟨by have := HZ.out; simp; omega⟩, ⟨rfl⟩, ⟨Kd.N_nil _ _ _ _ _⟩, ⟨Kd.F_apart_nil HF.out⟩, HB2⟩
  case round =>
    obtain ⟨todo, out, A, n, c, co, Ao, rfl, rfl, HNC, HPW, HSZ, HKK, HO, HF, HB⟩ := hrel
    clear HB2 HN HL1 HR
    cases todo with
    | nil =>
      have hn := Kd.F_len HF.out
      obtain rfl : n = 0 := hn.symm
      go_wp2
      simp only [Exit.noGoto]
      go_ret
      refine ⟨_, rfl, ?_, HB.out⟩
      have := HPW.out
      rw [partsW_nil] at this
      rw [← this]
      exact HO.out
    | cons t rest =>
      obtain ⟨ad, A2, c2, eA, hn, x0, x1, x2, hl2, hF2⟩ := head_F HF.out
      subst eA
      obtain ⟨m, hm⟩ : ∃ m, m = rest.length := ⟨_, rfl⟩
      rw [← hm] at hn
      subst hn
      have HMR := Aside0.mk hm.symm
      clear hm
      have hmm : (0 : Int) < (m : Int) + 1 := by omega
      have hsl := sl_one ad m c HNC.out (Kd.F_max HF.out)
      have hrf := rest_F (t := t) (rest := rest) (ad := ad) (c := c) (by rw [HMR.out]; exact HF.out) (by rw [HMR.out]; exact HNC.out)
      rw [HMR.out] at hrf
      obtain ⟨A3, hA3⟩ : ∃ A3, A3 = (if c = 1 then some ad else (some ad).map (·.add (1 * 3))) := ⟨_, rfl⟩
      rw [← hA3] at hsl hrf
      have HL2 := Aside0.mk hl2
      have HF2 := Aside0.mk hF2
      have HRF := Aside0.mk hrf
      clear hA3 hrf hl2 hF2
      have BX := Aside0.mk (blk_new wr (.cells #[.int .i64 t.f0, .int .i64 t.f1, .slice A2 t.f2.length c2] 24 (0, 0)))
      obtain ⟨⟨k0, k1, k2⟩, j0, j1, j2⟩ := cells3 BX.out
      obtain ⟨b, hb⟩ : ∃ b, (t.f0 == 2) = b := ⟨_, rfl⟩
      have HBB := Aside0.mk hb
      go_upto_if 21 with (fail)
      have HB1 := Aside0.mk (below_alloc HB.out (.cells #[.int .i64 t.f0, .int .i64 t.f1, .slice A2 t.f2.length c2] 24 (0, 0)))
      have HSZ3 : Aside0 (lsize (t :: rest) ≤ 1000000) := ⟨by have := HSZ.out; omega⟩
      clear x0 x1 x2 hsl hmm
      go_cut [4] (fun v4 wc => ∃ (A4 : Option Addr) (n4 c4 : Nat), v4 = .slice A4 n4 c4 ∧ Aside0 (n4 ≤ c4) ∧ Aside0 (wc.heap[wr.heap.size]? = some (.cells #[.int .i64 t.f0, .int .i64 t.f1, .slice A2 t.f2.length c2] 24 (0, 0))) ∧ Aside0 (Kd.F k24 wc (fun k_ => (P0_ k_ ∨ w.heap.size ≤ k_) ∧ some k_ ≠ (Value.slice Ao out.length co).ownBlock) A4 n4 (todoN t rest)) ∧ Aside0 (Kd.F k24 wc (fun k_ => (P0_ k_ ∨ w.heap.size ≤ k_) ∧ some k_ ≠ (Value.slice Ao out.length co).ownBlock) A2 t.f2.length t.f2) ∧ Aside0 (Kd.N k24 24 wc w.heap.size (fun k_ => P0_ k_ ∨ w.heap.size ≤ k_) (.slice Ao out.length co) out) ∧ Aside0 (Below w.heap.size w wc))
      case first =>
        cases b with
        | false =>
          have HT := Aside0.mk (show todoN t rest = rest by unfold todoN; rw [if_neg (by simpa using HBB.out)])
          go_wp2
          go_meet
          case rel => exact ⟨A3, m, c - 1, rfl, ⟨by have := HNC.out; omega⟩, BX, ⟨by rw [HT.out]; exact Kd.F_alloc HRF.out _⟩, ⟨Kd.F_alloc HF2.out _⟩, ⟨Kd.N_alloc HO.out _⟩, HB1⟩
        | true =>
          have HT := Aside0.mk (show todoN t rest = t.f2 ++ rest by unfold todoN; rw [if_pos (by simpa using HBB.out)])
          have hz1 : (wr.alloc (.cells #[.int .i64 t.f0, .int .i64 t.f1, .slice A2 t.f2.length c2] 24 (0, 0))).heap.size = wr.heap.size + 1 := Array.size_push _
          have BQ := blk_new (wr.alloc (.cells #[.int .i64 t.f0, .int .i64 t.f1, .slice A2 t.f2.length c2] 24 (0, 0))) (.cells #[.slice A2 t.f2.length c2, .slice A3 m (c - 1)] 22 (0, 0))
          rw [hz1] at BQ
          have HQ := Aside0.mk BQ
          clear BQ hz1
          go_wp2_with (first | (go_at_call 31; (with_reducible refine (concat_two' _ (wr.heap.size + 1) A2 A3 c2 (c - 1) t.f2 rest m HMR.out (fun k_ => (P0_ k_ ∨ w.heap.size ≤ k_) ∧ some k_ ≠ (Value.slice Ao out.length co).ownBlock) HQ.out (Kd.F_alloc (Kd.F_alloc HF2.out _) _) (Kd.F_alloc (Kd.F_alloc HRF.out _) _) (by have := HSZ3.out; have h1 := tsize_eq t; have h2 := len_lsize t.f2; rw [lsize] at this; omega) (by have := HSZ3.out; have h2 := len_lsize rest; rw [lsize] at this; rw [HMR.out] at h2; omega)).mono ?_); rintro e w3 ⟨v, rfl, hN, hb⟩; have HN3 := Aside0.mk hN; have HB3 := Aside0.mk hb; have HBR := Aside0.mk (below_step (below_alloc (below_alloc (Below.refl wr.heap.size wr) (.cells #[.int .i64 t.f0, .int .i64 t.f1, .slice A2 t.f2.length c2] 24 (0, 0))) (.cells #[.slice A2 t.f2.length c2, .slice A3 m (c - 1)] 22 (0, 0))) hb); obtain ⟨A4, c4, ev, hl4, _⟩ := Kd.N_reads hN; subst ev; have HL4 := Aside0.mk hl4; have HS3 := Aside0.mk hb.size; clear hN hb hl4))
          go_meet
          case rel =>
            refine ⟨A4, (t.f2 ++ rest).length, c4, by first | rfl | (simp; done), HL4, ⟨?_⟩, ⟨?_⟩, ⟨Kd.F_below HF2.out HBR.out⟩, ⟨Kd.N_below HO.out HBR.out⟩, ⟨below_step HB.out HBR.out⟩⟩
            · exact blk_below (blk_alloc BX.out (.cells #[.slice A2 t.f2.length c2, .slice A3 m (c - 1)] 22 (0, 0))) HB3.out
            · rw [HT.out]
              exact Kd.F_mono (Kd.N_F HN3.out) (fun k hk => hk.elim id (fun h => ⟨Or.inr (by have h1 := HB1.out.size; have h2 := below_size (below_alloc (Below.refl _ (wr.alloc (.cells #[.int .i64 t.f0, .int .i64 t.f1, .slice A2 t.f2.length c2] 24 (0, 0)))) (.cells #[.slice A2 t.f2.length c2, .slice A3 m (c - 1)] 22 (0, 0))); omega), fun e => by have h1 := Kd.N_lt HO.out k e.symm; have h2 := below_size (below_alloc (below_alloc (Below.refl _ wr) (.cells #[.int .i64 t.f0, .int .i64 t.f1, .slice A2 t.f2.length c2] 24 (0, 0))) (.cells #[.slice A2 t.f2.length c2, .slice A3 m (c - 1)] 22 (0, 0))); omega⟩))
      case rest =>
        clear BX HB1 HRF HF2 HO HB HF k0 k1 k2 j0 j1 j2
        obtain ⟨A4, n4, c4, rfl, HN4, BX, HRF, HF2, HO, HB⟩ := hcut
        obtain ⟨⟨k0, k1, k2⟩, j0, j1, j2⟩ := cells3 BX.out
        have HTS := Aside0.mk (show tsize t ≤ 1000000 by have := HSZ3.out; rw [lsize] at this; omega)
        obtain ⟨b2, hb2⟩ : ∃ b2, inL out t = b2 := ⟨_, rfl⟩
        have HH := Aside0.mk (show know_has.f out t.f0 t.f1 t.f2 = some b2 by rw [← hb2]; unfold know_has.f inL; rw [eta24])
        have HTN := Aside0.mk (todoN_size t rest)
        cases b2 with
        | true =>
          have HOE := Aside0.mk (show outN t out = out by unfold outN; rw [if_pos hb2])
          clear hb2
          go_wp2_with (first | (go_at_call 32; (with_reducible refine (know_has.calls Ao co out t.f0 t.f1 A2 c2 t.f2 true _ (Kd.N_reads' HO.out).2.2 (Kd.N_reads' HO.out).2.1 (Kd.F_now HF2.out) HL2.out HH.out).mono ?_); rintro e w4 ⟨rfl, hb⟩; have HO4 := Aside0.mk (Kd.N_below HO.out hb); have HRF4 := Aside0.mk (Kd.F_below HRF.out hb); have HB4 := Aside0.mk (below_step HB.out hb); clear hb))
          go_roundg (lsize (todoN t rest))
          case measure => have := HTN.out; have := HKK.out; omega
          case rel => exact ⟨todoN t rest, out, A4, n4, c4, co, Ao, rfl, rfl, HN4, ⟨by have := HPW.out; rw [partsW_cons, HOE.out] at this; exact this⟩, ⟨by have := HSZ.out; have := HTN.out; omega⟩, ⟨rfl⟩, HO4, HRF4, HB4⟩
        | false =>
          have HOE := Aside0.mk (show outN t out = out ++ [t] by unfold outN; rw [if_neg (by rw [hb2]; decide)])
          clear hb2
          obtain ⟨q, hq⟩ := Ev.rounds (own_ev t HTS.out)
          have HQO := Aside0.mk hq
          clear hq
          go_wp2_with (first
            | (go_at_call 32; (with_reducible refine (know_has.calls Ao co out t.f0 t.f1 A2 c2 t.f2 false _ (Kd.N_reads' HO.out).2.2 (Kd.N_reads' HO.out).2.1 (Kd.F_now HF2.out) HL2.out HH.out).mono ?_); rintro e w4 ⟨rfl, hb⟩; have HO4 := Aside0.mk (Kd.N_below HO.out hb); have HRF4 := Aside0.mk (Kd.F_below HRF.out hb); have HF4 := Aside0.mk (show Kd.V k24 24 w4 w4.heap.size (fun k_ => (P0_ k_ ∨ w.heap.size ≤ k_) ∧ some k_ ≠ (Value.slice Ao out.length co).ownBlock) (.slice A2 t.f2.length c2) t.f2 from ⟨A2, c2, rfl, HL2.out, Kd.F_below HF2.out hb⟩); have HB4 := Aside0.mk (below_step HB.out hb); have BX4 := Aside0.mk (blk_below BX.out hb); clear hb k0 k1 k2 j0 j1 j2; obtain ⟨⟨k0, k1, k2⟩, j0, j1, j2⟩ := cells3 BX4.out)
            | (go_at_call 33; (with_reducible refine (term_Own.calls q t.f0 t.f1 (fun k_ => (P0_ k_ ∨ w.heap.size ≤ k_) ∧ some k_ ≠ (Value.slice Ao out.length co).ownBlock) A2 c2 t.f2 _ _ _ _ HF4.out HQO.out).mono ?_); rintro e w5 ⟨v2, rfl, hN, hb⟩; have HN5 := Aside0.mk hN; have HO5 := Aside0.mk (Kd.N_below HO4.out hb); have HRF5 := Aside0.mk (Kd.F_below HRF4.out hb); have HB5 := Aside0.mk (below_step HB4.out hb); have HS4 := Aside0.mk hb.size; obtain ⟨A5, c5, ev, hl5, _⟩ := Kd.N_reads hN; subst ev; have HL5 := Aside0.mk hl5; clear hN hb hl5)
            | ((with_reducible refine gate_builtin (b := .append) (xs := #[.tmp 30, .tmp 33]) rfl ?_); at_builtin; refine Kd.N_append k24 (w0 := w) w.heap.size rfl (.tmp 30) (.tmp 33) 22 24 zT 40 rfl Try.underlying22 info24 rfl (by decide) (by omega) (.slice Ao out.length co) out t [.int .i64 t.f0, .int .i64 t.f1, .slice A5 t.f2.length c5] (fun k_ => P0_ k_ ∨ w.heap.size ≤ k_) (fun k_ => ((P0_ k_ ∨ w.heap.size ≤ k_) ∧ some k_ ≠ (Value.slice Ao out.length co).ownBlock) ∨ w4.heap.size ≤ k_) rfl rfl (k24_mkF _ _ t HL5.out (Kd.N_F HN5.out)) (fun k hk => hk.elim id (fun h => ⟨Or.inr (Nat.le_trans HB4.out.size h), fun e => by have := Kd.N_lt HO4.out k e.symm; omega⟩)) (fun k hk => Or.inr (Nat.le_trans HB5.out.size hk)) HO5.out HB5.out HB5.out.size (by have := HSZ.out; omega) ?_; intro v' w6 hN hb hg hat; have HO6 := Aside0.mk hN; have HB6 := Aside0.mk hb; have HRF6 := Aside0.mk (Kd.F_after HRF5.out hg hat); obtain ⟨A6, c6, rfl⟩ := Kd.N_slice hN; clear hN hb hg hat))
          go_roundg (lsize (todoN t rest))
          case measure => have := HTN.out; have := HKK.out; omega
          case rel => exact ⟨todoN t rest, out ++ [t], A4, n4, c4, c6, A6, rfl, by first | rfl | (simp; done), HN4, ⟨by have := HPW.out; rw [partsW_cons, HOE.out] at this; exact this⟩, ⟨by have := HSZ.out; have := HTN.out; simp; omega⟩, ⟨rfl⟩, HO6, HRF6, HB6⟩
set_option maxHeartbeats 1000000 in
set_option maxRecDepth 100000 in
theorem know_Parts.calls (P0_ : Nat → Prop) (A0 : Option Addr) (c0 : Nat) (l0 : List (S24)) (r : List (S24)) (w : World) (hs0 : Kd.V k24 24 w w.heap.size (fun k_ => P0_ k_) (.slice A0 l0.length c0) l0) (h : know_Parts.f l0 = some r) :
    Calls Try.prog 14 #[.slice A0 l0.length c0] w fun e w' => ∃ v0_ : Value, e = .returned (v0_) ∧ Kd.N k24 24 w' w.heap.size (fun k_ => (P0_ k_ ∨ w.heap.size ≤ k_)) v0_ r ∧ Below w.heap.size w w' := by
  unfold know_Parts.f at h
  by_cases hz : lsize l0 ≤ 1000000
  · rw [if_pos hz] at h
    have hr := Option.some.inj h
    cases hm : mayL l0 with
    | true =>
      rw [hm, if_pos rfl] at hr
      subst hr
      exact parts_yes P0_ A0 c0 l0 w hs0 hz hm
    | false =>
      rw [hm, if_neg (by decide)] at hr
      subst hr
      have HM := Aside0.mk (show know_May.f l0 = some false by unfold know_May.f; rw [hm])
      have HC := Aside0.mk (Kd.V_reads' hs0)
      clear hs0 hm hz h
      go_enter Try.func14, Try.ntmps14
      go_wp2
      refine wp_scope_straight ?_
      go_wp2_with (first | (go_at_call 20; (with_reducible refine (know_May.calls A0 c0 l0 false _ HC.out.2.2 HC.out.2.1 HM.out).mono ?_); rintro e w1 ⟨rfl, hb⟩; have HB := Aside0.mk hb; clear hb))
      simp only [Exit.noGoto]
      go_ret
      exact ⟨_, rfl, Kd.N_nil _ _ _ _ _, HB.out⟩
  · rw [if_neg hz] at h
    cases h
end Go.Proofs.Ytfonjmggalkbjaa.P
