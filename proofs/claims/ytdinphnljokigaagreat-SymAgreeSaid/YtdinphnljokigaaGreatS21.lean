/- What LawSymAgree rests on, part 21: several texts put together. -/
import Derived.Test.YtdinphnljokigaaGreatS20
import Derived.Deep.RegionHeld3
import Derived.Test.YtdinphnljokigaaGreatS3
set_option linter.unusedVariables false
set_option linter.unnecessarySimpa false
set_option linter.unusedSimpArgs false
set_option maxRecDepth 100000
section
namespace Go.Proofs.YtdinphnljokigaaGreat.P
open Go.RowKit Go.Proofs.YtdinphnljokigaaGreatW.PrintWords Go.Proofs.YtdinphnljokigaaGreatW.PrintLast Go.Proofs.YtdinphnljokigaaGreatW.PrintMore
section
variable {P : Program} {ops : Array Oper} {Q : Exit → Act → World → Prop} {md : Region.Mode} {S : World → Prop} {ds : List Nat}
theorem two_last_ {i j : Nat} {Ni Nj : Option Tmp} {oi oj : Oper} {fuel : Nat} {l : Array Bool} {a : Act} {w : World} (li lj : Array Bool) (hi : ops[i]? = some oi) (hj : ops[j]? = some oj) (hNi : oi.dst = Ni) (hNj : oj.dst = Nj)
  (hc : (Region.ready md ops l == [i, j] && l.setIfInBounds i true == li && l.setIfInBounds j true == lj) = true) (hdi : i ∈ ds) (hdj : j ∈ ds)
  (h1 : ∀ K : Act → World → Prop, Shut (∀ a' w', wpAnyLast P md ops Q S ds fuel li a' w' → K a' w') → if Region.wanted oi (yielded ops a.tmps) = true then Oper.wp P oi a w K Q else K (a.put Ni undef) w)
  (h2 : ∀ K : Act → World → Prop, Shut (∀ a' w', wpAnyLast P md ops Q S ds fuel lj a' w' → K a' w') → if Region.wanted oj (yielded ops a.tmps) = true then Oper.wp P oj a w K Q else K (a.put Nj undef) w) :
  wpAnyLast P md ops Q S ds (fuel + 1) l a w := by
 subst hNi
 subst hNj
 simp only [Bool.and_eq_true, beq_iff_eq] at hc
 obtain ⟨⟨h3, h4⟩, h5⟩ := hc
 subst h4
 subst h5
 exact wpAnyLast_ready h3 (by simp) (AllReadyL.cons_last hi hdi (fun K hK => h1 K hK) (AllReadyL.cons_last hj hdj (fun K hK => h2 K hK) AllReadyL.nil))
end
mutual
def lookT (parts : List S24) (x : S24) (out : List S24) : List S24 := match x with
 | ⟨a, b, l⟩ => if a = 0 then out else if inL parts ⟨a, b, l⟩ = true then out else if a = 1 then (if inL out ⟨a, b, l⟩ = true then out else out ++ [⟨a, b, l⟩]) else lookL parts l out
def lookL (parts : List S24) (l : List S24) (out : List S24) : List S24 := match l with
 | [] => out
 | x :: l => lookL parts l (lookT parts x out)
end
theorem lookT_eq (parts : List S24) (x : S24) (out : List S24) : lookT parts x out = if x.f0 = 0 then out else if inL parts x = true then out else if x.f0 = 1 then (if inL out x = true then out else out ++ [x]) else lookL parts x.f2 out := by
 cases x; rw [lookT]
theorem lookL_two (parts : List S24) (p q : S24) (out : List S24) : lookL parts [p, q] out = lookT parts q (lookT parts p out) := by rw [lookL, lookL, lookL]
mutual
theorem lookT_len (parts : List S24) (x : S24) (out : List S24) : (lookT parts x out).length ≤ out.length + tsize x := match x with
 | ⟨a, b, l⟩ => by
  rw [lookT, tsize]
  have := lookL_len parts l out
  split
  ·omega
  ·split
   ·omega
   ·split
    ·split
     ·omega
     ·simp
    ·omega
theorem lookL_len (parts : List S24) (l : List S24) (out : List S24) : (lookL parts l out).length ≤ out.length + lsize l := match l with
 | [] => by rw [lookL]; omega
 | x :: l => by
  rw [lookL, lsize]
  have h1 := lookT_len parts x out
  have h2 := lookL_len parts l (lookT parts x out)
  omega
end
theorem two_F {W : World} {ok : Nat → Prop} {A : Option Addr} {n : Nat} {p q : S24} (h : Kd.F k24 W ok A n [p, q]) :
  ∃ ad A2 c2 A3 c3, A = some ad ∧ (W.cell? ad = some (.int .i64 p.f0) ∧ W.cell? ⟨ad.block, ad.off + 1, none⟩ = some (.int .i64 p.f1) ∧ W.cell? ⟨ad.block, ad.off + 2, none⟩ = some (.slice A2 p.f2.length c2)) ∧ (W.cell? ⟨ad.block, ad.off + 3, none⟩ = some (.int .i64 q.f0) ∧ W.cell? ⟨ad.block, (ad.off + 3) + 1, none⟩ = some (.int .i64 q.f1) ∧ W.cell? ⟨ad.block, (ad.off + 3) + 2, none⟩ = some (.slice A3 q.f2.length c3)) ∧ p.f2.length ≤ c2 ∧ Kd.F k24 W ok A2 p.f2.length p.f2 ∧ q.f2.length ≤ c3 ∧ Kd.F k24 W ok A3 q.f2.length q.f2 := by
 have hn := Kd.F_len h
 obtain ⟨ad, A2, c2, rfl, _, x0, x1, x2, h2, h3⟩ := head_F h
 obtain ⟨ad', cs, e, hl, hFK, hc, _⟩ := Kd.F_get h p 1 (by omega) (by rw [← hn]; simp)
 obtain rfl := Option.some.inj e
 obtain ⟨A3, c3, rfl, h4, h5⟩ := k24_openF hFK
 have e0 := hc 0 _ rfl
 have e1 := hc 1 _ rfl
 have e2 := hc 2 _ rfl
 have z0 : (ad.add (Int.toNat 1 * k24.sz + 0)) = ⟨ad.block, ad.off + 3, none⟩ := by
  show ad.add 3 = _
  simp [Addr.add]
 have z1 : (ad.add (Int.toNat 1 * k24.sz + 1)) = ⟨ad.block, ad.off + 3 + 1, none⟩ := by
  show ad.add 4 = _
  simp [Addr.add]
 have z2 : (ad.add (Int.toNat 1 * k24.sz + 2)) = ⟨ad.block, ad.off + 3 + 2, none⟩ := by
  show ad.add 5 = _
  simp [Addr.add]
 rw [z0] at e0
 rw [z1] at e1
 rw [z2] at e2
 exact ⟨ad, A2, c2, A3, c3, rfl, ⟨x0, x1, x2⟩, ⟨e0, e1, e2⟩, h2, h3, h4, h5⟩
theorem okT_fork {x : S24} (h : okT x = true) (h0 : x.f0 ≠ 0) (h1 : x.f0 ≠ 1) : ∃ p q, x.f2 = [p, q] ∧ okT p = true ∧ okT q = true := by
 rw [okT_eq, Bool.and_eq_true] at h
 have hn := h.1
 unfold nodeB at hn
 rw [if_neg (by omega)] at hn
 split at hn
 ·simp only [Bool.and_eq_true, decide_eq_true_eq] at hn
  have hl := hn.2
  match hx : x.f2, hl with
  | [p, q], _ =>
   rw [hx, okL, okL, okL] at h
   simp only [Bool.and_eq_true] at h
   exact ⟨p, q, rfl, h.2.1, h.2.2.1⟩
 ·cases hn
def OutAt (W1 W W' : World) (okO : Nat → Prop) (Bo : Nat) (ov : Value) (out' : List S24) : Prop :=
 ∃ (Ao : Option Addr) (co : Nat), W'.heap[Bo]? = some (.cells #[.slice Ao out'.length co] 34 (0, 0)) ∧ Kd.N k24 36 W' W1.heap.size okO (.slice Ao out'.length co) out' ∧
  ((Value.slice Ao out'.length co).ownBlock = ov.ownBlock ∨ ∃ b, (Value.slice Ao out'.length co).ownBlock = some b ∧ W.heap.size ≤ b) ∧
  (∀ k, k < W.heap.size → k ≠ Bo → some k ≠ ov.ownBlock → W'.heap[k]? = W.heap[k]?) ∧ W.heap.size ≤ W'.heap.size ∧ Below W1.heap.size W1 W'
theorem outAt_below {W1 W W' : World} {okO : Nat → Prop} {Bo : Nat} {Ao : Option Addr} {co : Nat} {out : List S24} (hb : Below W.heap.size W W') (hB : Below W1.heap.size W1 W) (hO : W.heap[Bo]? = some (.cells #[.slice Ao out.length co] 34 (0, 0))) (hN : Kd.N k24 36 W W1.heap.size okO (.slice Ao out.length co) out) :
  OutAt W1 W W' okO Bo (.slice Ao out.length co) out :=
 ⟨Ao, co, blk_below hO hb, Kd.N_below hN hb, Or.inl rfl, fun k hk _ _ => hb.block k hk, hb.size, below_step hB hb⟩
theorem outAt_trans {W1 W W2 W3 : World} {okO : Nat → Prop} {Bo : Nat} {ov : Value} {o1 o2 : List S24} {Ao : Option Addr} {co : Nat} (hs : W.heap.size ≤ W2.heap.size) (ho : (Value.slice Ao o1.length co).ownBlock = ov.ownBlock ∨ ∃ b, (Value.slice Ao o1.length co).ownBlock = some b ∧ W.heap.size ≤ b)
  (hk : ∀ k, k < W.heap.size → k ≠ Bo → some k ≠ ov.ownBlock → W2.heap[k]? = W.heap[k]?) (h : OutAt W1 W2 W3 okO Bo (.slice Ao o1.length co) o2) : OutAt W1 W W3 okO Bo ov o2 := by
 obtain ⟨A3, c3, h1, h2, h3, h4, h5, h6⟩ := h
 refine ⟨A3, c3, h1, h2, ?_, fun k hlt hne how => ?_, Nat.le_trans hs h5, h6⟩
 ·rcases h3 with h3 | ⟨b, h3, hb⟩
  ·rw [h3]; exact ho
  ·exact Or.inr ⟨b, h3, Nat.le_trans hs hb⟩
 ·have hne2 : some k ≠ (Value.slice Ao o1.length co).ownBlock := by
   rcases ho with ho | ⟨b, ho, hb⟩
   ·rw [ho]; exact how
   ·rw [ho]; intro e; injection e with e; omega
  rw [h4 k (Nat.lt_of_lt_of_le hlt hs) hne hne2]
  exact hk k hlt hne how
theorem outAt_head {W1 W W2 W' : World} {okO : Nat → Prop} {Bo : Nat} {ov : Value} {o2 : List S24} (hb : Below W.heap.size W W2) (h : OutAt W1 W2 W' okO Bo ov o2) : OutAt W1 W W' okO Bo ov o2 := by
 obtain ⟨A3, c3, h1, h2, h3, h4, h5, h6⟩ := h
 refine ⟨A3, c3, h1, h2, h3.imp id (fun ⟨b, e, h⟩ => ⟨b, e, Nat.le_trans hb.size h⟩), fun k hlt hne how => ?_, Nat.le_trans hb.size h5, h6⟩
 rw [h4 k (Nat.lt_of_lt_of_le hlt hb.size) hne how]
 exact hb.block k hlt
theorem outAt_app {W1 W W3 w5 Wf : World} {okO : Nat → Prop} {Bo g' : Nat} {ov : Value} {cap' : Nat} {out' : List S24} (hb : Below W.heap.size W W3) (hg : W3.grownBy w5 ov.ownBlock) (hat : some g' = ov.ownBlock ∨ W3.heap.size ≤ g')
  (hf : ∀ k, k ≠ g' → k ≠ Bo → Wf.heap[k]? = w5.heap[k]?) (hs : Wf.heap.size = w5.heap.size) (hN : Kd.N k24 36 Wf W1.heap.size okO (.slice (some ⟨g', 0, none⟩) out'.length cap') out') (hO : Wf.heap[Bo]? = some (.cells #[.slice (some ⟨g', 0, none⟩) out'.length cap'] 34 (0, 0))) (hB : Below W1.heap.size W1 Wf) :
  OutAt W1 W Wf okO Bo ov out' := by
 refine ⟨some ⟨g', 0, none⟩, cap', hO, hN, ?_, fun k hlt hne how => ?_, ?_, hB⟩
 ·rcases hat with h | h
  ·exact Or.inl h
  ·exact Or.inr ⟨g', rfl, Nat.le_trans hb.size h⟩
 ·have hk3 : k < W3.heap.size := Nat.lt_of_lt_of_le hlt hb.size
  rw [hf k (fun e => by subst e; rcases hat with h | h; exact how h; omega) hne, hg.block k hk3 how]
  exact hb.block k hlt
 ·rw [hs]; exact Nat.le_trans hb.size hg.size
theorem own_fresh {v v' : Value} {n b : Nat} (hat : v'.ownBlock = v.ownBlock ∨ ∃ k, v'.ownBlock = some k ∧ n ≤ k) (h1 : some b ≠ v.ownBlock) (h2 : b < n) : some b ≠ v'.ownBlock := by
 rcases hat with h | ⟨k, h, hk⟩
 ·rw [h]; exact h1
 ·rw [h]; intro e; injection e with e; omega
theorem own_ne {W W1 : World} {okX : Nat → Prop} {Bp Bl Bo : Nat} {base : Nat} {v : Value} {out : List S24} (hok : ∀ k, okX k → k < W1.heap.size) (hBp : W1.heap.size ≤ Bp) (hBl : W1.heap.size ≤ Bl) (hBo : W1.heap.size ≤ Bo) (h : Kd.N k24 36 W base (fun k => okX k ∨ (W1.heap.size ≤ k ∧ k ≠ Bp ∧ k ≠ Bl ∧ k ≠ Bo)) v out) :
  some Bp ≠ v.ownBlock ∧ some Bl ≠ v.ownBlock ∧ some Bo ≠ v.ownBlock := by
 refine ⟨fun e => ?_, fun e => ?_, fun e => ?_⟩
 ·rcases h.1 _ e.symm with z | z
  ·have := hok _ z; omega
  ·exact z.2.1 rfl
 ·rcases h.1 _ e.symm with z | z
  ·have := hok _ z; omega
  ·exact z.2.2.1 rfl
 ·rcases h.1 _ e.symm with z | z
  ·have := hok _ z; omega
  ·exact z.2.2.2 rfl
set_option maxHeartbeats 4000000 in
set_option maxRecDepth 100000 in
theorem look_down (W1 : World) (okX : Nat → Prop) (hok : ∀ k, okX k → k < W1.heap.size) (Bp Bl Bo : Nat) (hBp : W1.heap.size ≤ Bp) (hBl : W1.heap.size ≤ Bl) (hBo : W1.heap.size ≤ Bo) (hpo : Bp ≠ Bo) (hlo : Bl ≠ Bo) (Ap : Option Addr) (cp : Nat) (parts : List S24) (HPa : Aside0 (Kd.C k24 W1 Ap parts.length parts)) (HPc : Aside0 (parts.length ≤ cp)) :
  ∀ (m : Nat) (x : S24) (out : List S24) (A : Option Addr) (c : Nat) (Ao : Option Addr) (co : Nat) (W : World), tsize x ≤ m → okT x = true → out.length + tsize x ≤ 1000000 → Kd.F k24 W1 okX A x.f2.length x.f2 → x.f2.length ≤ c → Below W1.heap.size W1 W →
   W.heap[Bp]? = some (.cells #[.slice Ap parts.length cp] 34 (0, 0)) → W.heap[Bl]? = some (.cells #[.func (.func 62) #[] #[.pointer (some ⟨Bp, 0, none⟩), .pointer (some ⟨Bl, 0, none⟩), .pointer (some ⟨Bo, 0, none⟩)]] 103 (0, 0)) →
   W.heap[Bo]? = some (.cells #[.slice Ao out.length co] 34 (0, 0)) → Kd.N k24 36 W W1.heap.size (fun k => okX k ∨ (W1.heap.size ≤ k ∧ k ≠ Bp ∧ k ≠ Bl ∧ k ≠ Bo)) (.slice Ao out.length co) out →
   Calls Tryz.prog 62 #[.agg #[.int .i64 x.f0, .int .i64 x.f1, .slice A x.f2.length c], .pointer (some ⟨Bp, 0, none⟩), .pointer (some ⟨Bl, 0, none⟩), .pointer (some ⟨Bo, 0, none⟩)] W fun e W' => e = .returned (.tuple #[]) ∧ OutAt W1 W W' (fun k => okX k ∨ (W1.heap.size ≤ k ∧ k ≠ Bp ∧ k ≠ Bl ∧ k ≠ Bo)) Bo (.slice Ao out.length co) (lookT parts x out) := by
 intro m
 induction m with
 | zero => intro x out A c Ao co W h; have := tsize_pos x; omega
 | succ m ih =>
  intro x out A c Ao co W hm hokx hsz hF hc hB hP hL hO hN
  have IH := aq_ ih
  have HM := aq_ hm
  have HF := aq_ hF
  have HCc := aq_ hc
  have HB0 := aq_ hB
  have HO0 := aq_ hO
  have HN0 := aq_ hN
  have HOK := aq_ hokx
  have HSZ := aq_ hsz
  have HHO := aq_ hok
  have HL0 := aq_ hL
  have HP0 := aq_ hP
  have HBb := aq_ (below_alloc (Below.refl W.heap.size W) (.cells #[.int .i64 x.f0, .int .i64 x.f1, .slice A x.f2.length c] 36 (0, 0)))
  have HX := aq_ (blk_new W (.cells #[.int .i64 x.f0, .int .i64 x.f1, .slice A x.f2.length c] 36 (0, 0)))
  have HLK := aq_ (lookT_eq parts x out)
  have HC1 := aq_ (Kd.C_below (Kd.F_now HF.out) HB0.out)
  have hp1 := blk_cell (blk_alloc HP0.out (.cells #[.int .i64 x.f0, .int .i64 x.f1, .slice A x.f2.length c] 36 (0, 0))) 0
  obtain ⟨⟨k0, k1, k2⟩, j0, j1, j2⟩ := cells3 HX.out
  clear ih hm hF hc hB hO hN hokx hsz hok hP hL
  by_cases h0 : x.f0 = 0
  ·have g0 : (x.f0 == 0) = true := by simpa using h0
   have HE := aq_ (show lookT parts x out = out by rw [HLK.out, if_pos h0])
   clear h0
   rw [HE.out]
   go_enter Tryz.func62, Tryz.ntmps62
   go_wp2
   go_end0
   exact ⟨rfl, outAt_below HBb.out HB0.out HO0.out HN0.out⟩
  ·have g0 : (x.f0 == 0) = false := by simpa using h0
   obtain ⟨b1, hb1⟩ : ∃ b, inL parts x = b := ⟨_, rfl⟩
   have HH1 := aq_ (show know_has.f parts x.f0 x.f1 x.f2 = some b1 by rw [← hb1]; unfold know_has.f inL; rw [eta24])
   cases b1 with
   | true =>
    have HE := aq_ (show lookT parts x out = out by rw [HLK.out, if_neg h0, if_pos hb1])
    clear h0 hb1
    rw [HE.out]
    go_enter Tryz.func62, Tryz.ntmps62
    go_wp2_with (first | (go_at_call 63; (with_reducible refine (know_has.calls Ap cp parts x.f0 x.f1 A c x.f2 true _ (Kd.C_below HPa.out (below_step HB0.out HBb.out)) HPc.out (Kd.C_below HC1.out HBb.out) HCc.out HH1.out).mono ?_); rintro e w2 ⟨rfl, hb⟩; have HB2 := aq_ (below_step HBb.out hb); clear hb))
    go_end0
    exact ⟨rfl, outAt_below HB2.out HB0.out HO0.out HN0.out⟩
   | false =>
    by_cases h1 : x.f0 = 1
    ·have g1 : (x.f0 != 1) = false := by simpa using h1
     obtain ⟨b2, hb2⟩ : ∃ b, inL out x = b := ⟨_, rfl⟩
     have HH2 := aq_ (show know_has.f out x.f0 x.f1 x.f2 = some b2 by rw [← hb2]; unfold know_has.f inL; rw [eta24])
     have hco := aq_ (Kd.N_reads' HN0.out).2.1
     cases b2 with
     | true =>
      have HE := aq_ (show lookT parts x out = out by rw [HLK.out, if_neg h0, if_neg (by rw [hb1]; decide), if_pos h1, if_pos hb2])
      clear h0 h1 hb1 hb2
      rw [HE.out]
      go_enter Tryz.func62, Tryz.ntmps62
      go_wp2_with (first
       | (go_at_call 63; (with_reducible refine (know_has.calls Ap cp parts x.f0 x.f1 A c x.f2 false _ (Kd.C_below HPa.out (below_step HB0.out HBb.out)) HPc.out (Kd.C_below HC1.out HBb.out) HCc.out HH1.out).mono ?_); rintro e w2 ⟨rfl, hb⟩; have HB2 := aq_ (below_step HBb.out hb); have HX2 := aq_ (blk_below HX.out hb); clear hb k0 k1 k2 j0 j1 j2; obtain ⟨⟨k0, k1, k2⟩, j0, j1, j2⟩ := cells3 HX2.out; have c0 := blk_cell (blk_below HO0.out HB2.out) 0)
       | (go_at_call 63; (with_reducible refine (know_has.calls Ao co out x.f0 x.f1 A c x.f2 true _ (Kd.N_reads' (Kd.N_below HN0.out HB2.out)).2.2 hco.out (Kd.C_below HC1.out HB2.out) HCc.out HH2.out).mono ?_); rintro e w3 ⟨rfl, hb⟩; have HB3 := aq_ (below_step HB2.out hb); clear hb))
      go_end0
      exact ⟨rfl, outAt_below HB3.out HB0.out HO0.out HN0.out⟩
     | false =>
      have HE := aq_ (show lookT parts x out = out ++ [x] by rw [HLK.out, if_neg h0, if_neg (by rw [hb1]; decide), if_pos h1, if_neg (by rw [hb2]; decide)])
      clear h0 h1 hb1 hb2
      rw [HE.out]
      go_enter Tryz.func62, Tryz.ntmps62
      go_wp2_with (first
       | (go_at_call 63; (with_reducible refine (know_has.calls Ap cp parts x.f0 x.f1 A c x.f2 false _ (Kd.C_below HPa.out (below_step HB0.out HBb.out)) HPc.out (Kd.C_below HC1.out HBb.out) HCc.out HH1.out).mono ?_); rintro e w2 ⟨rfl, hb⟩; have HB2 := aq_ (below_step HBb.out hb); have HX2 := aq_ (blk_below HX.out hb); clear hb k0 k1 k2 j0 j1 j2; obtain ⟨⟨k0, k1, k2⟩, j0, j1, j2⟩ := cells3 HX2.out; have c0 := blk_cell (blk_below HO0.out HB2.out) 0)
       | (go_at_call 63; (with_reducible refine (know_has.calls Ao co out x.f0 x.f1 A c x.f2 false _ (Kd.N_reads' (Kd.N_below HN0.out HB2.out)).2.2 hco.out (Kd.C_below HC1.out HB2.out) HCc.out HH2.out).mono ?_); rintro e w3 ⟨rfl, hb⟩; have HB3 := aq_ (below_step HB2.out hb); have HX3 := aq_ (blk_below HX2.out hb); clear hb k0 k1 k2 j0 j1 j2 c0))
      have HXd := aq_ (blk_drew HX3.out)
      have HOd := aq_ (blk_drew (blk_below HO0.out HB3.out))
      have HPd := aq_ (blk_lt (blk_drew (blk_below HP0.out HB3.out)))
      have HLd := aq_ (blk_lt (blk_drew (blk_below HL0.out HB3.out)))
      have HNd := aq_ (Kd.N_drew (Kd.N_below HN0.out HB3.out))
      have HBd := aq_ (below_drew (below_step HB0.out HB3.out))
      have HBO := aq_ (show some W.heap.size ≠ (Value.slice Ao out.length co).ownBlock from fun e => by have := Kd.N_lt HN0.out _ e.symm; omega)
      have hbo : W.heap.size ≠ Bo := by have := blk_lt HO0.out; omega
      have hob : Bo ≠ W.heap.size := by omega
      obtain ⟨⟨k0, k1, k2⟩, j0, j1, j2⟩ := cells3 HXd.out
      have c0 : World.cell? w3.drew ⟨Bo, 0, none⟩ = some (.slice Ao out.length co) := (blk_cell HOd.out 0).trans rfl
      clear hp1
      refine start_ (n := 8) (S := fun w' => w'.cell? ⟨Bo, 0, none⟩ = some (.slice Ao out.length co) ∧ w'.cell? ⟨W.heap.size, 0, none⟩ = some (.int .i64 x.f0) ∧ w'.cell? ⟨W.heap.size, 1, none⟩ = some (.int .i64 x.f1) ∧ w'.cell? ⟨W.heap.size, 2, none⟩ = some (.slice A x.f2.length c)) (ds := [6, 7]) #[false, false, false, false, false, false, false, false] (by kernel_rfl) rfl rfl ⟨c0, k0, k1, k2⟩ (fun hHeld => ?_)
      refine tz_ 0 (some 33) (bt_ 8 1) hHeld ?_
      refine pz_ 2 (some 35) (bt_ 8 5) ?_
      refine tz_ 1 (some 34) (bt_ 8 7) hHeld ?_
      refine one_ (i := 3) (N := some 36) (bt_ 8 15) rfl rfl (by kernel_rfl) (by decide) (fun K hK => ?_)
      refine value_ (w1 := ?_) (v := ?_) (by rfl) rfl ?_ ?_
      rotate_left 2
      ·go_simp
       constructor
       ·rfl
       ·rfl
      obtain ⟨⟨a0, a1, a2⟩, _⟩ := cells3 (blk_alloc HXd.out (.cells #[.int .i64 0, .int .i64 0, .slice none 0 0] 36 (0, 0)))
      have c1 := (blk_cell (blk_alloc HOd.out (.cells #[.int .i64 0, .int .i64 0, .slice none 0 0] 36 (0, 0))) 0)
      refine hK.out _ _ ⟨c1, a0, a1, a2⟩ (fun hHeld => ?_)
      clear hK K
      refine norm_ (a' := ?_) ?_ ?_
      rotate_left
      ·show Act.put _ (some 36) _ = _
       simp only [pt_]
       rfl
      refine one_ (i := 4) (N := some 37) (bt_ 8 31) rfl rfl (by kernel_rfl) (by decide) (fun K hK => ?_)
      refine Kd.N_append_step k24 (w0 := W1) W1.heap.size (by rfl) (.tmp 33) (.tmp 36) 34 36 zT 40 (by rfl) Tryz.underlying34 info24 rfl (by decide) (by omega) (.slice Ao out.length co) out z24 [.int .i64 0, .int .i64 0, .slice none 0 0] (fun k => okX k ∨ (W1.heap.size ≤ k ∧ k ≠ Bp ∧ k ≠ Bl ∧ k ≠ Bo)) (fun _ => False) (by rfl) (by rfl) (k24_mkF _ _ z24 (A2 := none) (c2 := 0) (Nat.le_refl _) (Kd.F_nil _ _ _)) (fun _ h => h.elim) (fun k hk => Or.inr ⟨Nat.le_trans HBd.out.size hk, by have := HPd.out; omega, by have := HLd.out; omega, by have := blk_lt HOd.out; omega⟩) HNd.out HBd.out HBd.out.size (by have := HSZ.out; omega) ?_
      intro v' w5 hN hb hg hat
      obtain ⟨g', cap', ev, hge, hglt, cells, hcc⟩ := Kd.N_form hN (by simp)
      rw [List.length_append, List.length_singleton] at ev
      subst ev
      have HN5 := aq_ hN
      have HG5 := aq_ hg
      have HB5 := aq_ hb
      have HGE := aq_ hge
      have HAT : Aside0 (some g' = (Value.slice Ao out.length co).ownBlock ∨ w3.drew.heap.size ≤ g') := ⟨hat.imp (fun h => h) (fun ⟨b, h, hb⟩ => by have e : g' = b := (by simpa [Value.ownBlock] using h); rw [e]; exact hb)⟩
      have own3 := own_ne HHO.out hBp hBl hBo hN
      have hgo : g' ≠ Bo := fun e => own3.2.2 (by rw [← e]; rfl)
      have hog : Bo ≠ g' := fun e => hgo e.symm
      have hgb : g' ≠ W.heap.size := fun e => own_fresh (n := w3.drew.heap.size) (hat) HBO.out (blk_lt HXd.out) (by rw [← e]; rfl)
      have hbg : W.heap.size ≠ g' := fun e => hgb e.symm
      obtain ⟨ce, hcl, hM, hcc', hfr⟩ := Kd.N_elem hN z24 (out.length : Int) (by omega) (by omega)
      rw [show (out ++ [z24]).getD ((out.length : Int).toNat) z24 = z24 by simp] at hM
      obtain ⟨ua, uc, rfl, ul, ge⟩ := k24_openF hM
      have HCE := aq_ hcc'
      have HSEG := aq_ (fun (W' : World) (hN' : Kd.N k24 36 W' W1.heap.size (fun k => okX k ∨ (W1.heap.size ≤ k ∧ k ≠ Bp ∧ k ≠ Bl ∧ k ≠ Bo)) (.slice (some ⟨g', 0, none⟩) (out.length + 1) cap') (out ++ [z24])) (hcc2 : ∀ j u, ([.int .i64 z24.f0, .int .i64 z24.f1, .slice ua z24.f2.length uc] : List Value)[j]? = some u → W'.cell? ⟨g', (out.length : Int).toNat * k24.sz + j, none⟩ = some u) hFK => (Kd.N_seg hN' (out.length : Int) (by omega) (by omega) (seg := [.int .i64 x.f0, .int .i64 x.f1, .slice A x.f2.length c]) (c := [.int .i64 z24.f0, .int .i64 z24.f1, .slice ua z24.f2.length uc]) (j := 0) rfl hcc2 (show 3 ≤ 3 from by decide) (x' := x) (okp := fun k => okX k) hFK (fun k hk => ⟨Or.inl hk, fun e => by have h1 := HHO.out k hk; omega⟩)).1)
      rw [Int.toNat_natCast] at hcc' hfr
      have y0 : World.cell? w5 ⟨g', out.length * 3, none⟩ = some (.int .i64 _) := hcc' 0 _ rfl
      have y1 : World.cell? w5 ⟨g', out.length * 3 + 1, none⟩ = some (.int .i64 _) := hcc' 1 _ rfl
      have y2 : World.cell? w5 ⟨g', out.length * 3 + 2, none⟩ = some (.slice _ _ _) := hcc' 2 _ rfl
      have u0 : World.frozen? w5 ⟨g', out.length * 3, none⟩ = false := hfr 0
      have u1 : World.frozen? w5 ⟨g', out.length * 3 + 1, none⟩ = false := hfr 1
      have u2 : World.frozen? w5 ⟨g', out.length * 3 + 2, none⟩ = false := hfr 2
      have HX5 := aq_ ((hg.block W.heap.size (blk_lt HXd.out) HBO.out).trans HXd.out)
      have HO5 := aq_ ((hg.block Bo (blk_lt HOd.out) (own_ne HHO.out hBp hBl hBo HNd.out).2.2).trans HOd.out)
      have c5 : World.cell? w5 ⟨Bo, 0, none⟩ = some (.slice Ao out.length co) := (blk_cell HO5.out 0).trans rfl
      have d5 := blk_frozen HO5.out 0
      obtain ⟨⟨m0, m1, m2⟩, _⟩ := cells3 HX5.out
      have hlt : (out.length : Int) < (out.length : Int) + 1 := by omega
      clear hN hg hat hb hge hcc hcc' hfr hM own3 ge c0 c1 k0 k1 k2 a0 a1 a2 j0 j1 j2 hglt
      refine hK.out _ _ ⟨c5, m0, m1, m2⟩ (fun hHeld => ?_)
      clear hK K
      refine norm_ (a' := ?_) ?_ ?_
      rotate_left
      ·show Act.put _ (some 37) _ = _
       simp only [pt_]
       rfl
      refine pz_ 5 (some 38) (bt_ 8 63) ?_
      refine two_last_ (i := 6) (j := 7) (Ni := none) (Nj := none) (bt_ 8 127) (bt_ 8 191) rfl rfl rfl rfl (by kernel_rfl) (by decide) (by decide) (fun K hK => ?_) (fun K hK => ?_)
      ·skip
       refine skip_ (w1 := ?_) (by rfl) rfl ?_ ?_
       rotate_left
       ·go_simp
        rfl
       refine hK.out _ _ ?_
       clear hK K
       refine last_ (i := 7) (N := none) (bt_ 8 255) rfl rfl (by kernel_rfl) (by decide) (fun K hK => ?_)
       refine skip_ (w1 := ?_) (by rfl) rfl ?_ ?_
       rotate_left
       ·go_simp
        rfl
       refine hK.out _ _ ?_
       clear hK K
       refine done_ (by kernel_rfl) ?_
       go_wp2
       go_end0
       refine ⟨rfl, outAt_app (W3 := w3.drew) (w5 := w5) (g' := g') (cap' := cap') (below_drew HB3.out) HG5.out HAT.out ?zf ?zs ?zn ?zo ?zb⟩
       case zf => intro k hk1 hk2; exact (Below.heap_setCell _ _ _ _ hk2).trans ((Below.heap_setCell _ _ _ _ hk1).trans ((Below.heap_setCell _ _ _ _ hk1).trans (Below.heap_setCell _ _ _ _ hk1)))
       case zs => simp
       case zn => have z := HSEG.out w5 HN5.out HCE.out (k24_mkF _ _ x HCc.out (Kd.F_below HF.out (HB5.out))); rw [show (out ++ [z24]).set ((out.length : Int).toNat) x = out ++ [x] by simp] at z; rw [List.length_append, List.length_singleton]; exact Kd.N_far (p := ⟨Bo, 0, none⟩) z (fun k hk => hk.elim (fun h => by have := HHO.out k h; show k ≠ Bo; omega) (fun h => h.2.2.2)) _
       case zo => rw [List.length_append, List.length_singleton]; exact blk_put (blk_far (blk_far (blk_far (HO5.out) hog _) hog _) hog _) 0 _ rfl
       case zb => exact below_set (below_set (below_set (below_set HB5.out HGE.out) HGE.out) HGE.out) hBo
      ·skip
       refine skip_ (w1 := ?_) (by rfl) rfl ?_ ?_
       rotate_left
       ·go_simp
        rfl
       refine hK.out _ _ ?_
       clear hK K
       refine last_ (i := 6) (N := none) (bt_ 8 255) rfl rfl (by kernel_rfl) (by decide) (fun K hK => ?_)
       refine skip_ (w1 := ?_) (by rfl) rfl ?_ ?_
       rotate_left
       ·go_simp
        rfl
       refine hK.out _ _ ?_
       clear hK K
       refine done_ (by kernel_rfl) ?_
       go_wp2
       go_end0
       refine ⟨rfl, outAt_app (W3 := w3.drew) (w5 := w5) (g' := g') (cap' := cap') (below_drew HB3.out) HG5.out HAT.out ?zf ?zs ?zn ?zo ?zb⟩
       case zf => intro k hk1 hk2; exact (Below.heap_setCell _ _ _ _ hk1).trans ((Below.heap_setCell _ _ _ _ hk1).trans ((Below.heap_setCell _ _ _ _ hk1).trans (Below.heap_setCell _ _ _ _ hk2)))
       case zs => simp
       case zn => have z := HSEG.out (w5.setCell ⟨Bo, 0, none⟩ (.slice (some ⟨g', 0, none⟩) (out.length + 1) cap')) (Kd.N_far (p := ⟨Bo, 0, none⟩) HN5.out (fun k hk => hk.elim (fun h => by have := HHO.out k h; show k ≠ Bo; omega) (fun h => h.2.2.2)) _) (fun j u h => (World.cell?_of_block (Below.heap_setCell w5 ⟨Bo, 0, none⟩ _ g' hgo)).trans (HCE.out j u h)) (k24_mkF _ _ x HCc.out (Kd.F_below HF.out (below_set HB5.out hBo))); rw [show (out ++ [z24]).set ((out.length : Int).toNat) x = out ++ [x] by simp] at z; rw [List.length_append, List.length_singleton]; exact z
       case zo => rw [List.length_append, List.length_singleton]; exact blk_far (blk_far (blk_far (blk_put HO5.out 0 _ rfl) hog _) hog _) hog _
       case zb => exact below_set (below_set (below_set (below_set HB5.out hBo) HGE.out) HGE.out) HGE.out
    ·
     have HE := aq_ (show lookT parts x out = lookL parts x.f2 out by rw [HLK.out, if_neg h0, if_neg (by rw [hb1]; decide), if_neg h1])
     have g1 : (x.f0 != 1) = true := by simpa using h1
     obtain ⟨p, q, hpq, hp, hq⟩ := okT_fork HOK.out h0 h1
     clear h0 h1 hb1
     have HE2 := aq_ (show lookT parts x out = lookT parts q (lookT parts p out) by rw [HE.out, hpq, lookL_two])
     have hF2 := HF.out
     rw [hpq] at hF2
     have hts := tsize_eq x
     rw [hpq, lsize, lsize, lsize] at hts
     have hlen : x.f2.length = 2 := by rw [hpq]; rfl
     have hl1 : (1 : Int) < (x.f2.length : Int) := by omega
     have hl0 : (0 : Int) < (x.f2.length : Int) := by omega
     have hl1' : 1 < x.f2.length := by omega
     have hl0' : 0 < x.f2.length := by omega
     obtain ⟨ad, A2, c2, A3, c3, eA, ⟨p0, p1, p2⟩, ⟨q0, q1, q2⟩, hlp, hFp, hlq, hFq⟩ := two_F hF2
     subst eA
     have TS := aq_ hts
     have HTP := aq_ (tsize_pos p)
     have HTQ := aq_ (tsize_pos q)
     have HP2 := aq_ (show (W1.cell? ad = some (.int .i64 p.f0) ∧ W1.cell? ⟨ad.block, ad.off + 1, none⟩ = some (.int .i64 p.f1) ∧ W1.cell? ⟨ad.block, ad.off + 2, none⟩ = some (.slice A2 p.f2.length c2)) from ⟨p0, p1, p2⟩)
     have HQ2 := aq_ (show (W1.cell? ⟨ad.block, ad.off + 3, none⟩ = some (.int .i64 q.f0) ∧ W1.cell? ⟨ad.block, (ad.off + 3) + 1, none⟩ = some (.int .i64 q.f1) ∧ W1.cell? ⟨ad.block, (ad.off + 3) + 2, none⟩ = some (.slice A3 q.f2.length c3)) from ⟨q0, q1, q2⟩)
     have HLP := aq_ hlp
     have HFP := aq_ hFp
     have HLQ := aq_ hlq
     have HFQ := aq_ hFq
     have HPK := aq_ hp
     have HQK := aq_ hq
     have HLEN := aq_ (lookT_len parts p out)
     have HHP := aq_ hpq
     clear p0 p1 p2 q0 q1 q2 hlp hFp hlq hFq hp hq hF2 hts hpq hlen
     rw [HE2.out]
     go_enter Tryz.func62, Tryz.ntmps62
     go_wp2_with (first | (go_at_call 63; (with_reducible refine (know_has.calls Ap cp parts x.f0 x.f1 (some ad) c x.f2 false _ (Kd.C_below HPa.out (below_step HB0.out HBb.out)) HPc.out (Kd.C_below HC1.out HBb.out) HCc.out HH1.out).mono ?_); rintro e w2 ⟨rfl, hb⟩; have HB2 := aq_ (below_step HBb.out hb); have HX2 := aq_ (blk_below HX.out hb); clear hb k0 k1 k2 j0 j1 j2; obtain ⟨⟨k0, k1, k2⟩, j0, j1, j2⟩ := cells3 HX2.out))
     have HBW := aq_ (below_drew (below_step HB0.out HB2.out))
     have z0 := (HBW.out.cell (World.block_lt_of_cell? W1 _ HP2.out.1)).trans HP2.out.1
     have z1 := (HBW.out.cell (World.block_lt_of_cell? W1 _ HP2.out.2.1)).trans HP2.out.2.1
     have z2 := (HBW.out.cell (World.block_lt_of_cell? W1 _ HP2.out.2.2)).trans HP2.out.2.2
     have HLd := aq_ (blk_drew (blk_below HL0.out HB2.out))
     have HPd := aq_ (blk_drew (blk_below HP0.out HB2.out))
     have HOd := aq_ (blk_drew (blk_below HO0.out HB2.out))
     have HXd := aq_ (blk_drew HX2.out)
     have HNd := aq_ (Kd.N_drew (Kd.N_below HN0.out HB2.out))
     have f0 : World.cell? w2.drew ⟨Bl, 0, none⟩ = some (.func (.func 62) #[] #[.pointer (some ⟨Bp, 0, none⟩), .pointer (some ⟨Bl, 0, none⟩), .pointer (some ⟨Bo, 0, none⟩)]) := (blk_cell HLd.out 0).trans rfl
     have x2 := (cells3 HXd.out).1.2.2
     clear k0 k1 k2 j0 j1 j2 hp1
     go_region_held3 (fun w' => w'.cell? ⟨Bl, 0, none⟩ = some (.func (.func 62) #[] #[.pointer (some ⟨Bp, 0, none⟩), .pointer (some ⟨Bl, 0, none⟩), .pointer (some ⟨Bo, 0, none⟩)]) ∧ w'.cell? ⟨W.heap.size, 2, none⟩ = some (.slice (some ad) x.f2.length c) ∧ w'.cell? ad = some (.int .i64 p.f0) ∧ w'.cell? ⟨ad.block, ad.off + 1, none⟩ = some (.int .i64 p.f1) ∧ w'.cell? ⟨ad.block, ad.off + 2, none⟩ = some (.slice A2 p.f2.length c2)) (first | exact ⟨f0, x2, z0, z1, z2⟩ | go_keep)
      (first
       | (go_at_call 62; (with_reducible refine (IH.out p out A2 c2 Ao co _ (by have := HM.out; have := TS.out; have := HTQ.out; omega) HPK.out (by have := HSZ.out; have := TS.out; omega) HFP.out HLP.out HBW.out HPd.out HLd.out HOd.out HNd.out).mono ?_); rintro e w3 ⟨rfl, ⟨A4, c4, r1, r2, r3, r4, r5, r6⟩⟩; have HO3 := aq_ r1; have HN3 := aq_ r2; have HS3 := aq_ r3; have HK3 := aq_ r4; have HZ3 := aq_ r5; have HB3 := aq_ r6; have HL3 := aq_ ((r4 Bl (blk_lt HLd.out) hlo (own_ne HHO.out hBp hBl hBo HNd.out).2.1).trans HLd.out); have HP3 := aq_ ((r4 Bp (blk_lt HPd.out) hpo (own_ne HHO.out hBp hBl hBo HNd.out).1).trans HPd.out); have HX3 := aq_ ((r4 W.heap.size (blk_lt HXd.out) (by have := blk_lt HO0.out; omega) (fun e => by have := Kd.N_lt HN0.out _ e.symm; omega)).trans HXd.out); clear r1 r2 r3 r4 r5 r6 f0 x2 z0 z1 z2; have f0 : World.cell? w3 ⟨Bl, 0, none⟩ = some (.func (.func 62) #[] #[.pointer (some ⟨Bp, 0, none⟩), .pointer (some ⟨Bl, 0, none⟩), .pointer (some ⟨Bo, 0, none⟩)]) := (blk_cell HL3.out 0).trans rfl; have x2 := (cells3 HX3.out).1.2.2; have z0 := (HB3.out.cell (World.block_lt_of_cell? W1 _ HP2.out.1)).trans HP2.out.1; have z1 := (HB3.out.cell (World.block_lt_of_cell? W1 _ HP2.out.2.1)).trans HP2.out.2.1; have z2 := (HB3.out.cell (World.block_lt_of_cell? W1 _ HP2.out.2.2)).trans HP2.out.2.2))
     go_wp2
     have HBV := aq_ (below_drew HB3.out)
     have HLv := aq_ (blk_drew HL3.out)
     have HPv := aq_ (blk_drew HP3.out)
     have HOv := aq_ (blk_drew HO3.out)
     have HXv := aq_ (blk_drew HX3.out)
     have HNv := aq_ (Kd.N_drew HN3.out)
     clear f0 x2 z0 z1 z2
     have f0 : World.cell? w3.drew ⟨Bl, 0, none⟩ = some (.func (.func 62) #[] #[.pointer (some ⟨Bp, 0, none⟩), .pointer (some ⟨Bl, 0, none⟩), .pointer (some ⟨Bo, 0, none⟩)]) := (blk_cell HLv.out 0).trans rfl
     have x2 := (cells3 HXv.out).1.2.2
     have z0 := (HBV.out.cell (World.block_lt_of_cell? W1 _ HQ2.out.1)).trans HQ2.out.1
     have z1 := (HBV.out.cell (World.block_lt_of_cell? W1 _ HQ2.out.2.1)).trans HQ2.out.2.1
     have z2 := (HBV.out.cell (World.block_lt_of_cell? W1 _ HQ2.out.2.2)).trans HQ2.out.2.2
     go_region_held3 (fun w' => w'.cell? ⟨Bl, 0, none⟩ = some (.func (.func 62) #[] #[.pointer (some ⟨Bp, 0, none⟩), .pointer (some ⟨Bl, 0, none⟩), .pointer (some ⟨Bo, 0, none⟩)]) ∧ w'.cell? ⟨W.heap.size, 2, none⟩ = some (.slice (some ad) x.f2.length c) ∧ w'.cell? ⟨ad.block, ad.off + 3, none⟩ = some (.int .i64 q.f0) ∧ w'.cell? ⟨ad.block, (ad.off + 3) + 1, none⟩ = some (.int .i64 q.f1) ∧ w'.cell? ⟨ad.block, (ad.off + 3) + 2, none⟩ = some (.slice A3 q.f2.length c3)) (first | exact ⟨f0, x2, z0, z1, z2⟩ | go_keep)
      (first
       | (go_at_call 62; (with_reducible refine (IH.out q (lookT parts p out) A3 c3 A4 c4 _ (by have := HM.out; have := TS.out; have := HTP.out; omega) HQK.out (by have := HSZ.out; have := TS.out; have := HLEN.out; omega) HFQ.out HLQ.out HBV.out HPv.out HLv.out HOv.out HNv.out).mono ?_); rintro e w4 ⟨rfl, ho4⟩; have HO4 := aq_ ho4; obtain ⟨A5, c5, r1, r2, r3, r4, r5, r6⟩ := ho4; clear f0 x2 z0 z1 z2; have f0 : World.cell? w4 ⟨Bl, 0, none⟩ = some (.func (.func 62) #[] #[.pointer (some ⟨Bp, 0, none⟩), .pointer (some ⟨Bl, 0, none⟩), .pointer (some ⟨Bo, 0, none⟩)]) := (blk_cell ((r4 Bl (blk_lt HLv.out) hlo (own_ne HHO.out hBp hBl hBo HNv.out).2.1).trans HLv.out) 0).trans rfl; have x2 := (cells3 ((r4 W.heap.size (blk_lt HXv.out) (by have := blk_lt HO0.out; omega) (fun e => by have h1 := HS3.out; rw [← e] at h1; rcases h1 with h1 | ⟨b, h1, h2⟩; exact absurd (Kd.N_lt HN0.out _ h1.symm) (by omega); have h3 := blk_lt HX2.out; injection h1 with h1; have h4 : w2.heap.size ≤ b := h2; omega)).trans HXv.out)).1.2.2; have z0 := (r6.cell (World.block_lt_of_cell? W1 _ HQ2.out.1)).trans HQ2.out.1; have z1 := (r6.cell (World.block_lt_of_cell? W1 _ HQ2.out.2.1)).trans HQ2.out.2.1; have z2 := (r6.cell (World.block_lt_of_cell? W1 _ HQ2.out.2.2)).trans HQ2.out.2.2; clear r1 r2 r3 r4 r5 r6))
     go_wp2
     go_end0
     exact ⟨rfl, outAt_head (below_drew HB2.out) (outAt_trans (W := w2.drew) (W2 := w3.drew) HZ3.out HS3.out HK3.out HO4.out)⟩
theorem look_start (W1 : World) (okX : Nat → Prop) (hok : ∀ k, okX k → k < W1.heap.size) (Bp Bl Bo : Nat) (hBp : W1.heap.size ≤ Bp) (hBl : W1.heap.size ≤ Bl) (hBo : W1.heap.size ≤ Bo) (hpo : Bp ≠ Bo) (hlo : Bl ≠ Bo) (Ap : Option Addr) (cp : Nat) (parts : List S24) (HPa : Aside0 (Kd.C k24 W1 Ap parts.length parts)) (HPc : Aside0 (parts.length ≤ cp))
  (a b : Int) (l out : List S24) (A : Option Addr) (c : Nat) (Ao : Option Addr) (co : Nat) (W : World) (h1 : okT ⟨a, b, l⟩ = true) (h2 : out.length + tsize ⟨a, b, l⟩ ≤ 1000000) (h3 : Kd.F k24 W1 okX A l.length l) (h4 : l.length ≤ c) (h5 : Below W1.heap.size W1 W)
  (h6 : W.heap[Bp]? = some (.cells #[.slice Ap parts.length cp] 34 (0, 0))) (h7 : W.heap[Bl]? = some (.cells #[.func (.func 62) #[] #[.pointer (some ⟨Bp, 0, none⟩), .pointer (some ⟨Bl, 0, none⟩), .pointer (some ⟨Bo, 0, none⟩)]] 103 (0, 0)))
  (h8 : W.heap[Bo]? = some (.cells #[.slice Ao out.length co] 34 (0, 0))) (h9 : Kd.N k24 36 W W1.heap.size (fun k => okX k ∨ (W1.heap.size ≤ k ∧ k ≠ Bp ∧ k ≠ Bl ∧ k ≠ Bo)) (.slice Ao out.length co) out) :
  Calls Tryz.prog 62 #[.agg #[.int .i64 a, .int .i64 b, .slice A l.length c], .pointer (some ⟨Bp, 0, none⟩), .pointer (some ⟨Bl, 0, none⟩), .pointer (some ⟨Bo, 0, none⟩)] W fun e W' => e = .returned (.tuple #[]) ∧ OutAt W1 W W' (fun k => okX k ∨ (W1.heap.size ≤ k ∧ k ≠ Bp ∧ k ≠ Bl ∧ k ≠ Bo)) Bo (.slice Ao out.length co) (lookT parts ⟨a, b, l⟩ out) :=
 look_down W1 okX hok Bp Bl Bo hBp hBl hBo hpo hlo Ap cp parts HPa HPc _ ⟨a, b, l⟩ out A c Ao co W (Nat.le_refl _) h1 h2 h3 h4 h5 h6 h7 h8 h9
def know_Lacks.f (l0 : List (S24)) (a1_0 : Int) (a1_1 : Int) (l1_2 : List (S24)) : Option ((List (S24))) :=
 if lsize l0 ≤ 1000000 ∧ tsize ⟨a1_0, a1_1, l1_2⟩ ≤ 1000000 then some (if mayL l0 = true ∧ mayT ⟨a1_0, a1_1, l1_2⟩ = true then lookT (partsW l0 []) ⟨a1_0, a1_1, l1_2⟩ [] else []) else none
set_option maxHeartbeats 4000000 in
set_option maxRecDepth 100000 in
theorem know_Lacks.calls (A0 : Option Addr) (c0 : Nat) (l0 : List (S24)) (a1_0 : Int) (a1_1 : Int) (P1_2_ : Nat → Prop) (A1_2 : Option Addr) (c1_2 : Nat) (l1_2 : List (S24)) (r : List (S24)) (w : World) (hr0 : Kd.C k24 w A0 l0.length l0) (hc0 : l0.length ≤ c0) (hs1_2 : Kd.V k24 36 w w.heap.size (fun k_ => P1_2_ k_) (.slice A1_2 l1_2.length c1_2) l1_2) (h : know_Lacks.f l0 a1_0 a1_1 l1_2 = some r) :
  Calls Tryz.prog 27 #[.slice A0 l0.length c0, .agg #[.int .i64 a1_0, .int .i64 a1_1, .slice A1_2 l1_2.length c1_2]] w fun e w' => ∃ v0_ : Value, e = .returned (v0_) ∧ Kd.N k24 36 w' w.heap.size (fun k_ => (P1_2_ k_ ∨ w.heap.size ≤ k_)) v0_ r ∧ Below w.heap.size w w' := by
 unfold know_Lacks.f at h
 split at h
 ·rename_i hsz
  have HH := aq_ (Option.some.inj h)
  have HS0 := aq_ hsz.1
  have HS1 := aq_ hsz.2
  have HR := aq_ hr0
  have HC := aq_ hc0
  have HV := aq_ hs1_2
  have HT := aq_ (Kd.V_reads' hs1_2)
  have HM := aq_ (show term_May.f a1_0 a1_1 l1_2 = some (mayT ⟨a1_0, a1_1, l1_2⟩) from may_f ⟨a1_0, a1_1, l1_2⟩ hsz.2)
  have HB := aq_ (below_alloc (Below.refl w.heap.size w) (.cells #[.int .i64 a1_0, .int .i64 a1_1, .slice A1_2 l1_2.length c1_2] 36 (0, 0)))
  have BX := aq_ (blk_new w (.cells #[.int .i64 a1_0, .int .i64 a1_1, .slice A1_2 l1_2.length c1_2] 36 (0, 0)))
  obtain ⟨⟨k0, k1, k2⟩, j0, j1, j2⟩ := cells3 BX.out
  clear h hsz hr0 hc0 hs1_2
  cases hml : mayL l0 with
  | false =>
   have HE := aq_ (show ([] : List S24) = r by rw [← HH.out, if_neg (by rw [hml]; simp)])
   have HL := aq_ (show know_May.f l0 = some false by unfold know_May.f; rw [hml])
   clear hml
   rw [← HE.out]
   go_enter Tryz.func27, Tryz.ntmps27
   go_wp2_with (first | (go_at_call 19; (with_reducible refine (know_May.calls A0 c0 l0 false _ (Kd.C_below HR.out HB.out) HC.out HL.out).mono ?_); rintro e w1 ⟨rfl, hb⟩; have HB1 := aq_ (below_step HB.out hb); clear hb))
   go_ret
   exact ⟨_, rfl, Kd.N_nil _ _ _ _ _, HB1.out⟩
  | true =>
   have HL := aq_ (show know_May.f l0 = some true by unfold know_May.f; rw [hml])
   cases hmt : mayT ⟨a1_0, a1_1, l1_2⟩ with
   | false =>
    have HE := aq_ (show ([] : List S24) = r by rw [← HH.out, if_neg (by rw [hmt]; simp)])
    rw [hmt] at HM
    clear hml hmt
    rw [← HE.out]
    go_enter Tryz.func27, Tryz.ntmps27
    go_wp2_with (first
     | (go_at_call 19; (with_reducible refine (know_May.calls A0 c0 l0 true _ (Kd.C_below HR.out HB.out) HC.out HL.out).mono ?_); rintro e w1 ⟨rfl, hb⟩; have HB1 := aq_ (below_step HB.out hb); have BX1 := aq_ (blk_below BX.out hb); clear hb k0 k1 k2 j0 j1 j2; obtain ⟨⟨k0, k1, k2⟩, j0, j1, j2⟩ := cells3 BX1.out)
     | (go_at_call 26; (with_reducible refine (term_May.calls a1_0 a1_1 A1_2 c1_2 l1_2 false _ (Kd.C_below HT.out.2.2 HB1.out) HT.out.2.1 HM.out).mono ?_); rintro e w2 ⟨rfl, hb⟩; have HB2 := aq_ (below_step HB1.out hb); clear hb))
    go_ret
    exact ⟨_, rfl, Kd.N_nil _ _ _ _ _, HB2.out⟩
   | true =>
    have HE := aq_ (show lookT (partsW l0 []) ⟨a1_0, a1_1, l1_2⟩ [] = r by rw [← HH.out, if_pos ⟨hml, hmt⟩])
    have HOK := aq_ (show okT ⟨a1_0, a1_1, l1_2⟩ = true by unfold mayT at hmt; simp only [Bool.and_eq_true] at hmt; exact hmt.1)
    have HPF := aq_ (show know_Parts.f l0 = some (partsW l0 []) by unfold know_Parts.f; rw [if_pos HS0.out, if_pos hml])
    rw [hmt] at HM
    clear hml hmt
    rw [← HE.out]
    go_enter Tryz.func27, Tryz.ntmps27
    go_upto_region 7 with (first
     | (go_at_call 19; (with_reducible refine (know_May.calls A0 c0 l0 true _ (Kd.C_below HR.out HB.out) HC.out HL.out).mono ?_); rintro e w1 ⟨rfl, hb⟩; have HB1 := aq_ (below_step HB.out hb); have BX1 := aq_ (blk_below BX.out hb); clear hb k0 k1 k2 j0 j1 j2; obtain ⟨⟨k0, k1, k2⟩, j0, j1, j2⟩ := cells3 BX1.out)
     | (go_at_call 26; (with_reducible refine (term_May.calls a1_0 a1_1 A1_2 c1_2 l1_2 true _ (Kd.C_below HT.out.2.2 HB1.out) HT.out.2.1 HM.out).mono ?_); rintro e w2 ⟨rfl, hb⟩; have HB2 := aq_ (below_step HB1.out hb); have BX2 := aq_ (blk_below BX1.out hb); have HVP := aq_ (show Kd.V k24 36 w2 w2.heap.size (fun k => k < w2.heap.size) (.slice A0 l0.length c0) l0 from ⟨A0, c0, rfl, HC.out, Kd.C_F k24_heap (Kd.C_below HR.out HB2.out)⟩); clear hb k0 k1 k2 j0 j1 j2)
     | (go_at_call 61; (with_reducible refine (know_Parts.calls (fun k => k < w2.heap.size) A0 c0 l0 _ _ HVP.out HPF.out).mono ?_); rintro e w3 ⟨vp, rfl, hN, hb⟩; have HB3 := aq_ (below_step HB2.out hb); have BX3 := aq_ (blk_below BX2.out hb); obtain ⟨Ap, cp, ev, hlp, hCp⟩ := Kd.N_reads hN; subst ev; have HPA := aq_ hCp; have HPC := aq_ hlp; clear hb hN hlp hCp))
    have HSZ3 := aq_ HB3.out.size
    obtain ⟨t1, t2⟩ := three_blocks w3 (.cells #[.slice Ap (partsW l0 []).length cp] 34 (0, 0)) (.cells #[.slice none 0 0] 34 (0, 0)) (.cells #[.func (.func 62) #[] #[.pointer (some ⟨w3.heap.size, 0, none⟩), .pointer (some ⟨w3.heap.size + 1 + 1, 0, none⟩), .pointer (some ⟨w3.heap.size + 1, 0, none⟩)]] 103 (0, 0))
    have BP := aq_ (blk_alloc (blk_alloc (blk_new w3 (.cells #[.slice Ap (partsW l0 []).length cp] 34 (0, 0))) (.cells #[.slice none 0 0] 34 (0, 0))) (.cells #[.func (.func 62) #[] #[.pointer (some ⟨w3.heap.size, 0, none⟩), .pointer (some ⟨w3.heap.size + 1 + 1, 0, none⟩), .pointer (some ⟨w3.heap.size + 1, 0, none⟩)]] 103 (0, 0)))
    have BO := aq_ t1
    have BL := aq_ t2
    have BX4 := aq_ (blk_alloc (blk_alloc (blk_alloc BX3.out (.cells #[.slice Ap (partsW l0 []).length cp] 34 (0, 0))) (.cells #[.slice none 0 0] 34 (0, 0))) (.cells #[.func (.func 62) #[] #[.pointer (some ⟨w3.heap.size, 0, none⟩), .pointer (some ⟨w3.heap.size + 1 + 1, 0, none⟩), .pointer (some ⟨w3.heap.size + 1, 0, none⟩)]] 103 (0, 0)))
    have HB4 := aq_ (below_alloc (below_alloc (below_alloc (Below.refl w3.heap.size w3) (.cells #[.slice Ap (partsW l0 []).length cp] 34 (0, 0))) (.cells #[.slice none 0 0] 34 (0, 0))) (.cells #[.func (.func 62) #[] #[.pointer (some ⟨w3.heap.size, 0, none⟩), .pointer (some ⟨w3.heap.size + 1 + 1, 0, none⟩), .pointer (some ⟨w3.heap.size + 1, 0, none⟩)]] 103 (0, 0)))
    clear t1 t2
    obtain ⟨W4, hW4⟩ : ∃ W4, W4 = ((w3.alloc (.cells #[.slice Ap (partsW l0 []).length cp] 34 (0, 0))).alloc (.cells #[.slice none 0 0] 34 (0, 0))).alloc (.cells #[.func (.func 62) #[] #[.pointer (some ⟨w3.heap.size, 0, none⟩), .pointer (some ⟨w3.heap.size + 1 + 1, 0, none⟩), .pointer (some ⟨w3.heap.size + 1, 0, none⟩)]] 103 (0, 0)) := ⟨_, rfl⟩
    rw [← hW4]
    rw [← hW4] at BP BO BL BX4 HB4
    clear hW4
    obtain ⟨⟨k0, k1, k2⟩, j0, j1, j2⟩ := cells3 BX4.out
    have f0 : World.cell? W4 ⟨w3.heap.size + 1 + 1, 0, none⟩ = some (.func (.func 62) #[] #[.pointer (some ⟨w3.heap.size, 0, none⟩), .pointer (some ⟨w3.heap.size + 1 + 1, 0, none⟩), .pointer (some ⟨w3.heap.size + 1, 0, none⟩)]) := (blk_cell BL.out 0).trans rfl
    have HLD := aq_ (look_start w3 (fun k => P1_2_ k ∧ k < w.heap.size) (fun k hk => Nat.lt_of_lt_of_le hk.2 HSZ3.out) w3.heap.size (w3.heap.size + 1 + 1) (w3.heap.size + 1) (Nat.le_refl _) (by omega) (by omega) (by omega) (by omega) Ap cp (partsW l0 []) HPA HPC a1_0 a1_1 l1_2 [] A1_2 c1_2 none 0 W4 HOK.out (by have := HS1.out; simp; omega) (Kd.F_below (Kd.F_bound (Kd.V_F HV.out)) HB3.out) HT.out.2.1 HB4.out BP.out BL.out BO.out (Kd.N_nil _ _ _ _ _))
    go_wp2_with (first | (go_at_call 62; (with_reducible refine (HLD.out).mono ?_); rintro e w5 ⟨rfl, ⟨A6, c6, r1, r2, r3, r4, r5, r6⟩⟩; have f6 := blk_cell r1 0; have HN6 := aq_ r2; have HB6 := aq_ r6; clear r1 r2 r3 r4 r5 r6))
    go_ret
    exact ⟨_, rfl, Kd.N_lower (Kd.N_mono HN6.out (fun k hk => hk.imp (fun h => h.1) (fun h => Nat.le_trans HSZ3.out h.1))) HSZ3.out, below_step HB3.out HB6.out⟩
 ·cases h
end Go.Proofs.YtdinphnljokigaaGreat.P
end
