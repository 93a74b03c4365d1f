/- By hand: pelicanref06.taken and Parts (a row that comes in is appended to). -/
import Derived.Test.YtfonjmggalkbjaaHKnowP
import Derived.Test.YtfonjmggalkbjaaPx8
namespace Go.Proofs.Ytfonjmggalkbjaa.P
open Go.RowKit Go.Proofs.YtfonjmggalkbjaaW.PrintWords Go.Proofs.YtfonjmggalkbjaaW.PrintLast Go.Proofs.YtfonjmggalkbjaaW.PrintMore
set_option linter.unusedVariables false
set_option linter.unusedSimpArgs false
/-- What a row that was handed in and comes back is: its new elements, and all else as it was. -/
def TakQ (W1 W W' : World) (okO : Nat → Prop) (ov : Value) (out' : List S24) (e : Ending) : Prop :=
  ∃ (Ao : Option Addr) (co : Nat), e = .returned (.slice Ao out'.length co) ∧ Kd.N k24 24 W' W1.heap.size okO (.slice Ao out'.length co) out' ∧
    ((Value.slice Ao out'.length co).ownBlock = ov.ownBlock ∨ ∃ b, (Value.slice Ao out'.length co).ownBlock = some b ∧ W.heap.size ≤ b) ∧
    (∀ k, k < W.heap.size → some k ≠ ov.ownBlock → W'.heap[k]? = W.heap[k]?) ∧ W.heap.size ≤ W'.heap.size ∧ Below W1.heap.size W1 W'
/-- The same without the ending: between two steps. -/
def TakS (W1 W W' : World) (okO : Nat → Prop) (ov : Value) (Ao : Option Addr) (co : Nat) (out' : List S24) : Prop :=
  Kd.N k24 24 W' W1.heap.size okO (.slice Ao out'.length co) out' ∧
    ((Value.slice Ao out'.length co).ownBlock = ov.ownBlock ∨ ∃ b, (Value.slice Ao out'.length co).ownBlock = some b ∧ W.heap.size ≤ b) ∧
    (∀ k, k < W.heap.size → some k ≠ ov.ownBlock → W'.heap[k]? = W.heap[k]?) ∧ W.heap.size ≤ W'.heap.size ∧ Below W1.heap.size W1 W'
theorem TakS.q {W1 W W' : World} {okO : Nat → Prop} {ov : Value} {Ao : Option Addr} {co : Nat} {out' : List S24} (h : TakS W1 W W' okO ov Ao co out') : TakQ W1 W W' okO ov out' (.returned (.slice Ao out'.length co)) := ⟨Ao, co, rfl, h⟩
theorem TakS.start {W1 W : World} {okO : Nat → Prop} {Ao : Option Addr} {co : Nat} {out : List S24} (hN : Kd.N k24 24 W W1.heap.size okO (.slice Ao out.length co) out) (hB : Below W1.heap.size W1 W) : TakS W1 W W okO (.slice Ao out.length co) Ao co out :=
  ⟨hN, Or.inl rfl, fun _ _ _ => rfl, Nat.le_refl _, hB⟩
theorem TakS.below {W1 W W' W2 : World} {okO : Nat → Prop} {ov : Value} {Ao : Option Addr} {co : Nat} {out' : List S24} (h : TakS W1 W W' okO ov Ao co out') (hb : Below W'.heap.size W' W2) : TakS W1 W W2 okO ov Ao co out' := by
  obtain ⟨h1, h2, h3, h4, h5⟩ := h
  exact ⟨Kd.N_below h1 hb, h2, fun k hk ho => (hb.block k (Nat.lt_of_lt_of_le hk h4)).trans (h3 k hk ho), Nat.le_trans h4 hb.size, below_step h5 hb⟩
/-- Behind a step from W' on. -/
theorem TakS.trans {W1 W W' W2 : World} {okO : Nat → Prop} {ov : Value} {Ao A2 : Option Addr} {co c2 : Nat} {out' out2 : List S24} (h : TakS W1 W W' okO ov Ao co out') (k : TakS W1 W' W2 okO (.slice Ao out'.length co) A2 c2 out2) : TakS W1 W W2 okO ov A2 c2 out2 := by
  obtain ⟨h1, h2, h3, h4, h5⟩ := h
  obtain ⟨k1, k2, k3, k4, k5⟩ := k
  refine ⟨k1, ?_, fun j hj ho => ?_, Nat.le_trans h4 k4, k5⟩
  · rcases k2 with k2 | ⟨b, k2, hb⟩
    · rw [k2]; exact h2
    · exact Or.inr ⟨b, k2, Nat.le_trans h4 hb⟩
  · have hne : some j ≠ (Value.slice Ao out'.length co).ownBlock := by
      rcases h2 with h2 | ⟨b, h2, hb⟩
      · rw [h2]; exact ho
      · rw [h2]; intro e; injection e with e; omega
    rw [k3 j (Nat.lt_of_lt_of_le hj h4) hne]
    exact h3 j hj ho
theorem TakS.head {W1 W Wb W' : World} {okO : Nat → Prop} {ov : Value} {Ao : Option Addr} {co : Nat} {out' : List S24} (hb : Below W.heap.size W Wb) (h : TakS W1 Wb W' okO ov Ao co out') : TakS W1 W W' okO ov Ao co out' := by
  obtain ⟨h1, h2, h3, h4, h5⟩ := h
  exact ⟨h1, h2.imp id (fun ⟨b, e, h⟩ => ⟨b, e, Nat.le_trans hb.size h⟩), fun k hk ho => (h3 k (Nat.lt_of_lt_of_le hk hb.size) ho).trans (hb.block k hk), Nat.le_trans hb.size h4, h5⟩
/-- An append to it. -/
theorem TakS.app {W1 W W2 : World} {okO : Nat → Prop} {Ao A2 : Option Addr} {co c2 : Nat} {out out2 : List S24} (hN : Kd.N k24 24 W2 W1.heap.size okO (.slice A2 out2.length c2) out2) (hg : W.grownBy W2 (Value.slice Ao out.length co).ownBlock) (hat : (Value.slice A2 out2.length c2).ownBlock = (Value.slice Ao out.length co).ownBlock ∨ ∃ b, (Value.slice A2 out2.length c2).ownBlock = some b ∧ W.heap.size ≤ b) (hB : Below W1.heap.size W1 W2) :
    TakS W1 W W2 okO (.slice Ao out.length co) A2 c2 out2 := ⟨hN, hat, fun k hk ho => hg.block k hk ho, hg.size, hB⟩
/-- A block that is not the row's. -/
theorem TakS.blk {W1 W W' : World} {okO : Nat → Prop} {ov : Value} {Ao : Option Addr} {co : Nat} {out' : List S24} {g : Nat} {o : Obj} (h : TakS W1 W W' okO ov Ao co out') (hg : W.heap[g]? = some o) (hne : some g ≠ ov.ownBlock) : W'.heap[g]? = some o := (h.2.2.1 g (blk_lt hg) hne).trans hg
theorem fresh_ne {w : World} {base : Nat} {okO : Nat → Prop} {v : Value} {out : List S24} (h : Kd.N k24 24 w base okO v out) : some w.heap.size ≠ v.ownBlock := fun e => by have := Kd.N_lt h _ e.symm; omega
theorem outN_len (t : S24) (out : List S24) : (outN t out).length ≤ out.length + 1 := by unfold outN; split <;> simp
theorem outN_sizes {t : S24} {out : List S24} {n : Nat} (h : ∀ z ∈ out, tsize z ≤ n) (ht : tsize t ≤ n) : ∀ z ∈ outN t out, tsize z ≤ n := fun z hz => by
  rcases (outN_mem t z out).1 hz with h1 | rfl
  · exact h z h1
  · exact ht
theorem addAll_sizes {l out : List S24} {n : Nat} (h : ∀ z ∈ out, tsize z ≤ n) (hl : ∀ z ∈ l, tsize z ≤ n) : ∀ z ∈ addAll out l, tsize z ≤ n := fun z hz => by
  rcases (addAll_mem l out z).1 hz with h1 | h1
  · exact h z h1
  · exact hl z h1
theorem lsize_take_succ {l : List S24} {i : Nat} (h : i < l.length) : lsize (l.take i) + tsize (rd_T24 l i) ≤ lsize l := by
  have e := split_at l h
  have z := congrArg lsize e
  rw [lsize_append, lsize] at z
  omega
theorem reach_take {x : S24} {i : Nat} : ∀ z ∈ reachL (x.f2.take i), tsize z ≤ tsize x := fun z hz => by
  obtain ⟨t, ht, hz⟩ := (mem_reachL _ _).1 hz
  have h1 := reach_size t z hz
  have h2 := lsize_mem x.f2 t (List.mem_of_mem_take ht)
  have h3 := tsize_eq x
  omega
theorem in_calls_n (W : World) (l : List S24) (x : S24) (A B : Option Addr) (c d : Nat) (hA : Kd.C k24 W A l.length l) (hc : l.length ≤ c) (hB : Kd.C k24 W B x.f2.length x.f2) (hd : x.f2.length ≤ d) (hl : l.length ≤ 1000000) (hs : ∀ z ∈ l, tsize z ≤ 1000000) :
    Calls Try.prog 25 #[.slice A l.length c, .agg #[.int .i64 x.f0, .int .i64 x.f1, .slice B x.f2.length d]] W fun e w' => e = .returned (.bool (inL l x)) ∧ Below W.heap.size W w' := by
  obtain ⟨k, hk⟩ := Ev.rounds (in_ev l x hl hs)
  exact pelicanref06_In.calls k A c l x.f0 x.f1 B d x.f2 (inL l x) W hA hc hB hd hk
set_option maxHeartbeats 4000000 in
set_option maxRecDepth 100000 in
theorem taken_calls (W1 : World) (okX : Nat → Prop) (hok : ∀ k, okX k → k < W1.heap.size) : ∀ (m : Nat) (x : S24) (out : List S24) (A : Option Addr) (c : Nat) (Ao : Option Addr) (co : Nat) (W : World), tsize x ≤ m → out.length + tsize x ≤ 1000000 → (∀ z ∈ out, tsize z ≤ 1000000) → Kd.F k24 W1 okX A x.f2.length x.f2 → x.f2.length ≤ c → Below W1.heap.size W1 W →
    Kd.N k24 24 W W1.heap.size (fun k => okX k ∨ W1.heap.size ≤ k) (.slice Ao out.length co) out →
    Calls Try.prog 34 #[.slice Ao out.length co, .agg #[.int .i64 x.f0, .int .i64 x.f1, .slice A x.f2.length c]] W fun e W' => TakQ W1 W W' (fun k => okX k ∨ W1.heap.size ≤ k) (.slice Ao out.length co) (addAll out (reachT x)) e := by
  intro m
  induction m with
  | zero => intro x out A c Ao co W h; have := tsize_pos x; omega
  | succ m ih =>
    intro x out A c Ao co W hm hsz hss hF hc hB hN
    have IH := Aside0.mk ih
    have HM := Aside0.mk hm
    have HSZ := Aside0.mk hsz
    have HSS := Aside0.mk hss
    have HF := Aside0.mk hF
    have HCc := Aside0.mk hc
    have HB0 := Aside0.mk hB
    have HN0 := Aside0.mk hN
    have HHO := Aside0.mk hok
    have HTS := Aside0.mk (tsize_eq x)
    have HX := Aside0.mk (blk_new W (.cells #[.int .i64 x.f0, .int .i64 x.f1, .slice A x.f2.length c] 24 (0, 0)))
    have HNE := Aside0.mk (fresh_ne hN)
    have HS0 := Aside0.mk (TakS.start (Kd.N_alloc hN (.cells #[.int .i64 x.f0, .int .i64 x.f1, .slice A x.f2.length c] 24 (0, 0))) (below_alloc hB (.cells #[.int .i64 x.f0, .int .i64 x.f1, .slice A x.f2.length c] 24 (0, 0))))
    have HBX := Aside0.mk (below_alloc (Below.refl W.heap.size W) (.cells #[.int .i64 x.f0, .int .i64 x.f1, .slice A x.f2.length c] 24 (0, 0)))
    obtain ⟨⟨k0, k1, k2⟩, j0, j1, j2⟩ := cells3 HX.out
    clear ih hm hsz hss hF hc hB hN hok
    obtain ⟨b, hb⟩ : ∃ b, inL out x = b := ⟨_, rfl⟩
    have HBB := Aside0.mk hb
    clear hb
    have HSC0 := Aside0.mk (Kd.N_reads' HS0.out.1)
    have HSB0 := Aside0.mk HS0.out.2.2.2.2
    go_enter Try.func34, Try.ntmps34
    go_upto_if 11 with (first | (go_at_call 25; (with_reducible refine (in_calls_n _ out x Ao A co c HSC0.out.2.2 HSC0.out.2.1 (Kd.C_below (Kd.F_now HF.out) HSB0.out) HCc.out (by have := HSZ.out; omega) HSS.out).mono ?_); rw [HBB.out]; rintro e w2 ⟨rfl, hb⟩; have HS2 := Aside0.mk (HS0.out.below hb); have HX2 := Aside0.mk (blk_below HX.out hb); clear hb k0 k1 k2 j0 j1 j2; obtain ⟨⟨k0, k1, k2⟩, j0, j1, j2⟩ := cells3 HX2.out))
    go_cut [0] (fun v0 wc => ∃ (A2 : Option Addr) (c2 : Nat), v0 = .slice A2 (outN x out).length c2 ∧ Aside0 (TakS W1 (W.alloc (.cells #[.int .i64 x.f0, .int .i64 x.f1, .slice A x.f2.length c] 24 (0, 0))) wc (fun k => okX k ∨ W1.heap.size ≤ k) (.slice Ao out.length co) A2 c2 (outN x out)))
    case first =>
      cases b with
      | true =>
        have HE := Aside0.mk (show outN x out = out by unfold outN; rw [if_pos HBB.out])
        go_wp2
        go_meet
        case rel => exact ⟨Ao, co, by rw [HE.out], ⟨by rw [HE.out]; exact HS2.out⟩⟩
      | false =>
        have HE := Aside0.mk (show outN x out = out ++ [x] by unfold outN; rw [if_neg (by rw [HBB.out]; decide)])
        go_wp2_with (first | ((with_reducible refine gate_builtin (b := .append) (xs := #[.tmp 12, .tmp 14]) rfl ?_); at_builtin; refine Kd.N_append k24 (w0 := W1) W1.heap.size rfl (.tmp 12) (.tmp 14) 22 24 zT 40 rfl Try.underlying22 info24 rfl (by decide) (by omega) (.slice Ao out.length co) out x [.int .i64 x.f0, .int .i64 x.f1, .slice A x.f2.length c] (fun k => okX k ∨ W1.heap.size ≤ k) okX rfl rfl (k24_mkF _ _ x HCc.out (Kd.F_below HF.out HS2.out.2.2.2.2)) (fun k hk => ⟨Or.inl hk, fun e => by have h1 := Kd.N_base HN0.out k e.symm; have h2 := HHO.out k hk; omega⟩) (fun k hk => Or.inr (Nat.le_trans HS2.out.2.2.2.2.size hk)) HS2.out.1 HS2.out.2.2.2.2 HS2.out.2.2.2.2.size (by have := HSZ.out; omega) ?_; intro v' w3 hN hb hg hat; obtain ⟨A3, c3, rfl⟩ := Kd.N_slice hN; have HS3 := Aside0.mk (HS2.out.trans (TakS.app hN hg hat hb)); clear hN hb hg hat))
        go_meet
        case rel => exact ⟨A3, c3, by rw [HE.out]; first | done | rfl | (simp; done), ⟨by rw [HE.out]; exact HS3.out⟩⟩
    case rest =>
      clear HS0 HS2 HX2 k0 k1 k2 j0 j1 j2
      obtain ⟨A2, c2, rfl, HS⟩ := hcut
      have HXc := Aside0.mk (TakS.blk HS.out HX.out HNE.out)
      obtain ⟨⟨k0, k1, k2⟩, j0, j1, j2⟩ := cells3 HXc.out
      have HOL := Aside0.mk (outN_len x out)
      have HOS := Aside0.mk (outN_sizes HSS.out (show tsize x ≤ 1000000 by have := HSZ.out; omega))
      by_cases h2 : x.f0 = 2
      · have g2 : (x.f0 == 2) = true := by simpa using h2
        have HE := Aside0.mk (show addAll out (reachT x) = addAll (outN x out) (reachL x.f2) by rw [reachT_eq, if_pos h2, addAll])
        have hml : x.f2.length ≤ 9223372036854775807 := Kd.F_max HF.out
        clear h2
        go_wp2
        go_loopw [0, 6] (fun v0 v6 wr => ∃ (i : Nat) (A2 : Option Addr) (c2 : Nat), i ≤ x.f2.length ∧ v6 = .int .i64 i ∧ v0 = .slice A2 (addAll (outN x out) (reachL (x.f2.take i))).length c2 ∧ Aside0 (TakS W1 (W.alloc (.cells #[.int .i64 x.f0, .int .i64 x.f1, .slice A x.f2.length c] 24 (0, 0))) wr (fun k => okX k ∨ W1.heap.size ≤ k) (.slice Ao out.length co) A2 c2 (addAll (outN x out) (reachL (x.f2.take i))))) (fun _ v6 _ => x.f2.length - (intOf v6).toNat)
        case atStart => exact ⟨0, A2, c2, by omega, rfl, by simp [reachL, addAll], ⟨by simpa [reachL, addAll] using HS.out⟩⟩
        case round =>
          clear HS HXc k0 k1 k2 j0 j1 j2
          obtain ⟨i, A4, c4, hi, rfl, rfl, HS⟩ := hrel
          obtain ⟨acc, hacc⟩ : ∃ acc, acc = addAll (outN x out) (reachL (x.f2.take i)) := ⟨_, rfl⟩
          rw [← hacc] at HS ⊢
          have HAC := Aside0.mk hacc
          clear hacc
          have HXc := Aside0.mk (TakS.blk HS.out HX.out HNE.out)
          obtain ⟨⟨k0, k1, k2⟩, j0, j1, j2⟩ := cells3 HXc.out
          by_cases hlt : i < x.f2.length
          · obtain ⟨ad, cs, eA, hcl, hFK, hcs, _⟩ := Kd.F_get HF.out z24 (i : Int) (by omega) (by omega)
            obtain ⟨A5, c5, rfl, hl5, hF5⟩ := k24_openF hFK
            rw [Int.toNat_natCast] at hcs hl5 hF5
            have HYE := Aside0.mk (show x.f2.getD i z24 = rd_T24 x.f2 (i : Int) by unfold rd_T24; rw [Int.toNat_natCast])
            have HTK := Aside0.mk (rdT_take x.f2 hlt)
            have HYM := Aside0.mk (lsize_mem x.f2 _ (rdT_mem x.f2 hlt))
            have HYZ := Aside0.mk (len_lsize (x.f2.take i))
            have HTZ := Aside0.mk (lsize_take_succ hlt)
            obtain ⟨y, hy⟩ : ∃ y, y = rd_T24 x.f2 (i : Int) := ⟨_, rfl⟩
            rw [HYE.out, ← hy] at hcs hl5 hF5
            rw [← hy] at HTK HYM HTZ
            clear hy HYE
            have y0 : World.cell? W1 (ad.add (i * 3)) = some (.int .i64 y.f0) := hcs 0 _ rfl
            have y1 : World.cell? W1 ⟨(ad.add (i * 3)).block, (ad.add (i * 3)).off + 1, none⟩ = some (.int .i64 y.f1) := by rw [← add_field _ _ 1 (by omega)]; exact hcs 1 _ rfl
            have y2 : World.cell? W1 ⟨(ad.add (i * 3)).block, (ad.add (i * 3)).off + 2, none⟩ = some (.slice A5 y.f2.length c5) := by rw [← add_field _ _ 2 (by omega)]; exact hcs 2 _ rfl
            have HSB := Aside0.mk HS.out.2.2.2.2
            have HSN := Aside0.mk HS.out.1
            replace y0 := (HSB.out.cell (World.block_lt_of_cell? W1 _ y0)).trans y0
            replace y1 := (HSB.out.cell (World.block_lt_of_cell? W1 _ y1)).trans y1
            replace y2 := (HSB.out.cell (World.block_lt_of_cell? W1 _ y2)).trans y2
            have HF5 := Aside0.mk hF5
            have HL5 := Aside0.mk hl5
            have HAS : Aside0 (∀ z ∈ acc, tsize z ≤ 1000000) := ⟨by rw [HAC.out]; exact addAll_sizes HOS.out (fun z hz => by have h1 := reach_take z hz; have h2 := HSZ.out; omega)⟩
            have HAL : Aside0 (acc.length + tsize y ≤ 1000000) := ⟨by have h1 := addAll_len (reachL (x.f2.take i)) (outN x out); rw [← HAC.out] at h1; have h2 := reachL_len (x.f2.take i); have h3 := HTZ.out; have h4 := HOL.out; have h5 := HSZ.out; have h6 := HTS.out; omega⟩
            subst eA
            clear hcs hcl hFK hl5 hF5
            go_wp2_with (first | (go_at_call 34; (with_reducible refine (IH.out y acc A5 c5 A4 c4 _ (by have h1 := HM.out; have h2 := HTS.out; have h3 := HYM.out; omega) HAL.out HAS.out HF5.out HL5.out HSB.out HSN.out).mono ?_); rintro e w3 ⟨A6, c6, rfl, hq⟩; have HS3 := Aside0.mk (HS.out.trans hq); clear hq))
            go_roundw
            case rel =>
              have e : addAll (outN x out) (reachL (x.f2.take (i + 1))) = addAll acc (reachT y) := by rw [HTK.out, reachL_append, addAll_append, ← HAC.out, reachL, reachL, List.append_nil]
              exact ⟨i + 1, A6, c6, by omega, by go_num, by rw [e], ⟨by rw [e]; exact HS3.out⟩⟩
            case measure => simp [intOf]; omega
          · obtain rfl : i = x.f2.length := by omega
            have hac := HAC.out
            rw [List.take_length] at hac
            subst hac
            go_wp2
            go_ret
            rw [HE.out]
            exact (HS.out.head HBX.out).q
      · have g2 : (x.f0 == 2) = false := by simpa using h2
        have HE := Aside0.mk (show addAll out (reachT x) = outN x out by rw [reachT_eq, if_neg h2, addAll, addAll])
        have hml : x.f2.length ≤ 9223372036854775807 := Kd.F_max HF.out
        clear h2
        go_wp2
        go_loopw [0, 6] (fun v0 v6 wr => v0 = .slice A2 (outN x out).length c2 ∧ v6 = .int .i64 0 ∧ Aside0 (TakS W1 (W.alloc (.cells #[.int .i64 x.f0, .int .i64 x.f1, .slice A x.f2.length c] 24 (0, 0))) wr (fun k => okX k ∨ W1.heap.size ≤ k) (.slice Ao out.length co) A2 c2 (outN x out))) (fun _ v6 _ => 0)
        case atStart => exact ⟨rfl, rfl, HS⟩
        case round =>
          clear HS HXc k0 k1 k2 j0 j1 j2
          obtain ⟨rfl, rfl, HS⟩ := hrel
          have HXc := Aside0.mk (TakS.blk HS.out HX.out HNE.out)
          obtain ⟨⟨k0, k1, k2⟩, j0, j1, j2⟩ := cells3 HXc.out
          by_cases hlt : 0 < x.f2.length
          all_goals
            go_wp2
            go_ret
            rw [HE.out]
            exact (HS.out.head HBX.out).q
/-! #### Parts -/
theorem refmay_loop (l : List S24) (hs : ∀ z ∈ l, tsize z ≤ 1000000) (hl : l.length ≤ 1000000) : ∀ (s : List S24) (i : Nat), l.drop i = s → i ≤ 40 → Ev (fun k => pelicanref06_May.l0 k l (i : Int)) (decide (l.length ≤ 40) && s.all mayT) := by
  intro s
  induction s with
  | nil =>
    intro i hd hi
    have hll := drop_nil hd
    refine Ev.step (f := fun k => pelicanref06_May.j1 k l (i : Int) false) (fun k => by rw [pelicanref06_May.l0, if_neg (by omega)]) (Ev.step (f := fun _ => some (decide ((l.length : Int) ≤ 40))) (fun k => by rw [pelicanref06_May.j1, if_neg (by simp)]) (Ev.const ?_))
    congr 1
    rw [List.all_nil, Bool.and_true, decide_eq_decide]; omega
  | cons y s ihs =>
    intro i hd hi
    obtain ⟨hll, hr, hd2, hm⟩ := drop_cons hd
    by_cases h40 : i < 40
    · have e : decide ((i : Int) < 40) = true := decide_eq_true (by omega)
      refine Ev.step (f := fun k => pelicanref06_May.j1 k l (i : Int) true) (fun k => by rw [pelicanref06_May.l0, if_pos (by omega), e]) ?_
      refine Ev.step (f := fun k => (pelicanref05_May.f k y.f0 y.f1 y.f2).bind fun t => if t = true then pelicanref06_May.l0 k l ((i + 1 : Nat) : Int) else some false) (fun k => ?_) ?_
      · rw [pelicanref06_May.j1, if_pos rfl, if_pos (by omega), if_pos (by omega), hr, cw64 (x := (i : Int) + 1) (by omega) (by omega)]; rfl
      · refine Ev.bind (ref_may_ev y (hs y hm)) (Ev.ite (fun h => ?_) (fun h => ?_))
        · rw [List.all_cons, h, Bool.true_and]; exact ihs (i + 1) hd2 (by omega)
        · refine Ev.const ?_
          rw [List.all_cons, Bool.eq_false_iff.2 h, Bool.false_and, Bool.and_false]
    · have e : decide ((i : Int) < 40) = false := decide_eq_false (by omega)
      refine Ev.step (f := fun k => pelicanref06_May.j1 k l (i : Int) false) (fun k => by rw [pelicanref06_May.l0, if_pos (by omega), e]) (Ev.step (f := fun _ => some (decide ((l.length : Int) ≤ 40))) (fun k => by rw [pelicanref06_May.j1, if_neg (by simp)]) (Ev.const ?_))
      rw [decide_eq_false (show ¬ l.length ≤ 40 by omega), decide_eq_false (by omega), Bool.false_and]
theorem refmay_ev (l : List S24) (hz : lsize l ≤ 1000000) : Ev (fun k => pelicanref06_May.f k l) (mayL l) := by
  have hs : ∀ z ∈ l, tsize z ≤ 1000000 := fun z hz' => Nat.le_trans (lsize_mem l z hz') hz
  have h := refmay_loop l hs (Nat.le_trans (len_lsize l) hz) l 0 rfl (by omega)
  have e : (decide (l.length ≤ 40) && l.all mayT) = mayL l := by
    rw [Bool.eq_iff_iff, mayL_iff l hs]
    simp [List.all_eq_true]
  rw [e] at h
  exact h
def pelicanref06_Parts.f (l0 : List (S24)) : Option ((List (S24))) := if lsize l0 ≤ 1000000 then some (if mayL l0 = true then partsOf l0 else []) else none
set_option maxHeartbeats 4000000 in
set_option maxRecDepth 100000 in
theorem pelicanref06_Parts.calls (P0_ : Nat → Prop) (A0 : Option Addr) (c0 : Nat) (l0 : List (S24)) (r : List (S24)) (w : World) (hs0 : Kd.V k24 24 w w.heap.size (fun k_ => P0_ k_) (.slice A0 l0.length c0) l0) (h : pelicanref06_Parts.f l0 = some r) :
    Calls Try.prog 15 #[.slice A0 l0.length c0] w fun e w' => ∃ v0_ : Value, e = .returned (v0_) ∧ Kd.N k24 24 w' w.heap.size (fun k_ => (P0_ k_ ∨ w.heap.size ≤ k_)) v0_ r ∧ Below w.heap.size w w' := by
  unfold pelicanref06_Parts.f at h
  split at h
  · rename_i hz
    have HH := Aside0.mk (Option.some.inj h)
    have HZ := Aside0.mk hz
    have HF := Aside0.mk (Kd.F_bound (Kd.V_F hs0))
    have HC := Aside0.mk (Kd.V_reads' hs0)
    obtain ⟨q, hq⟩ := Ev.rounds (refmay_ev l0 hz)
    have HQ := Aside0.mk hq
    have hml : l0.length ≤ 9223372036854775807 := Kd.F_max HF.out
    clear h hz hs0 hq
    cases hm : mayL l0 with
    | false =>
      have HE := Aside0.mk (show ([] : List S24) = r by rw [← HH.out, if_neg (by rw [hm]; simp)])
      rw [hm] at HQ
      clear hm
      rw [← HE.out]
      go_enter Try.func15, Try.ntmps15
      go_wp2_with (first | (go_at_call 18; (with_reducible refine (pelicanref06_May.calls q A0 c0 l0 false _ HC.out.2.2 HC.out.2.1 HQ.out).mono ?_); rintro e w1 ⟨rfl, hb⟩; have HB := Aside0.mk hb; clear hb))
      go_loopw [4, 5] (fun v4 v5 wr => v4 = .slice none 0 0 ∧ v5 = .int .i64 0 ∧ Aside0 (Below w.heap.size w wr)) (fun _ v5 _ => 0)
      case atStart => exact ⟨rfl, rfl, HB⟩
      case round =>
        clear HB
        obtain ⟨rfl, rfl, HB⟩ := hrel
        by_cases hlt : 0 < l0.length
        all_goals
          go_wp2
          go_ret
          exact ⟨_, rfl, Kd.N_nil _ _ _ _ _, HB.out⟩
    | true =>
      have HE := Aside0.mk (show partsOf l0 = r by rw [← HH.out, if_pos hm])
      rw [hm] at HQ
      clear hm
      rw [← HE.out]
      go_enter Try.func15, Try.ntmps15
      go_wp2_with (first | (go_at_call 18; (with_reducible refine (pelicanref06_May.calls q A0 c0 l0 true _ HC.out.2.2 HC.out.2.1 HQ.out).mono ?_); rintro e w1 ⟨rfl, hb⟩; have HB := Aside0.mk hb; clear hb))
      go_loopw [4, 5] (fun v4 v5 wr => ∃ (i : Nat) (A2 : Option Addr) (c2 : Nat), i ≤ l0.length ∧ v5 = .int .i64 i ∧ v4 = .slice A2 (addAll [] (reachL (l0.take i))).length c2 ∧ Aside0 (Kd.N k24 24 wr w.heap.size (fun k => (P0_ k ∧ k < w.heap.size) ∨ w.heap.size ≤ k) (.slice A2 (addAll [] (reachL (l0.take i))).length c2) (addAll [] (reachL (l0.take i)))) ∧ Aside0 (Below w.heap.size w wr)) (fun _ v5 _ => l0.length - (intOf v5).toNat)
      case atStart => exact ⟨0, none, 0, by omega, rfl, by simp [reachL, addAll], ⟨by simpa [reachL, addAll] using Kd.N_nil k24 24 _ w.heap.size (fun k => (P0_ k ∧ k < w.heap.size) ∨ w.heap.size ≤ k)⟩, HB⟩
      case round =>
        clear HB
        obtain ⟨i, A4, c4, hi, rfl, rfl, HN, HB⟩ := hrel
        obtain ⟨acc, hacc⟩ : ∃ acc, acc = addAll [] (reachL (l0.take i)) := ⟨_, rfl⟩
        rw [← hacc] at HN ⊢
        have HAC := Aside0.mk hacc
        clear hacc
        by_cases hlt : i < l0.length
        · obtain ⟨ad, cs, eA, hcl, hFK, hcs, _⟩ := Kd.F_get HF.out z24 (i : Int) (by omega) (by omega)
          obtain ⟨A5, c5, rfl, hl5, hF5⟩ := k24_openF hFK
          rw [Int.toNat_natCast] at hcs hl5 hF5
          have HYE := Aside0.mk (show l0.getD i z24 = rd_T24 l0 (i : Int) by unfold rd_T24; rw [Int.toNat_natCast])
          have HTK := Aside0.mk (rdT_take l0 hlt)
          have HTZ := Aside0.mk (lsize_take_succ hlt)
          obtain ⟨y, hy⟩ : ∃ y, y = rd_T24 l0 (i : Int) := ⟨_, rfl⟩
          rw [HYE.out, ← hy] at hcs hl5 hF5
          rw [← hy] at HTK HTZ
          clear hy HYE
          have y0 : World.cell? w (ad.add (i * 3)) = some (.int .i64 y.f0) := hcs 0 _ rfl
          have y1 : World.cell? w ⟨(ad.add (i * 3)).block, (ad.add (i * 3)).off + 1, none⟩ = some (.int .i64 y.f1) := by rw [← add_field _ _ 1 (by omega)]; exact hcs 1 _ rfl
          have y2 : World.cell? w ⟨(ad.add (i * 3)).block, (ad.add (i * 3)).off + 2, none⟩ = some (.slice A5 y.f2.length c5) := by rw [← add_field _ _ 2 (by omega)]; exact hcs 2 _ rfl
          replace y0 := (HB.out.cell (World.block_lt_of_cell? w _ y0)).trans y0
          replace y1 := (HB.out.cell (World.block_lt_of_cell? w _ y1)).trans y1
          replace y2 := (HB.out.cell (World.block_lt_of_cell? w _ y2)).trans y2
          have HF5 := Aside0.mk hF5
          have HL5 := Aside0.mk hl5
          have HAS : Aside0 (∀ z ∈ acc, tsize z ≤ 1000000) := ⟨by rw [HAC.out]; exact addAll_sizes (by simp) (fun z hz => by obtain ⟨t, ht, hz⟩ := (mem_reachL _ _).1 hz; have h1 := reach_size t z hz; have h2 := lsize_mem l0 t (List.mem_of_mem_take ht); have h3 := HZ.out; omega)⟩
          have HAL : Aside0 (acc.length + tsize y ≤ 1000000) := ⟨by have h1 := addAll_len (reachL (l0.take i)) []; rw [← HAC.out] at h1; have h2 := reachL_len (l0.take i); have h3 := HTZ.out; have h5 := HZ.out; simp at h1; omega⟩
          subst eA
          clear hcs hcl hFK hl5 hF5
          go_wp2_with (first | (go_at_call 34; (with_reducible refine (taken_calls w (fun k => P0_ k ∧ k < w.heap.size) (fun k hk => hk.2) _ y acc A5 c5 A4 c4 _ (Nat.le_refl _) HAL.out HAS.out HF5.out HL5.out HB.out HN.out).mono ?_); rintro e w3 ⟨A6, c6, rfl, hq⟩; have HN3 := Aside0.mk hq.1; have HB3 := Aside0.mk hq.2.2.2.2; clear hq))
          go_roundw
          case rel =>
            have e : addAll [] (reachL (l0.take (i + 1))) = addAll acc (reachT y) := by rw [HTK.out, reachL_append, addAll_append, ← HAC.out, reachL, reachL, List.append_nil]
            exact ⟨i + 1, A6, c6, by omega, by go_num, by rw [e], ⟨by rw [e]; exact HN3.out⟩, HB3⟩
          case measure => simp [intOf]; omega
        · obtain rfl : i = l0.length := by omega
          have hac := HAC.out
          rw [List.take_length] at hac
          subst hac
          go_wp2
          go_ret
          exact ⟨_, rfl, Kd.N_mono HN.out (fun k hk => hk.imp (fun h => h.1) id), HB.out⟩
  · cases h
end Go.Proofs.Ytfonjmggalkbjaa.P
