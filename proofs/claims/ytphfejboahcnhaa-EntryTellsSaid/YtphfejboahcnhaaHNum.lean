/- Contracts by hand: num.Put (a loop by goto) and num.Get (a cut with three indexes). -/
import Derived.Test.YtphfejboahcnhaaPx0
import Derived.Test.YtphfejboahcnhaaHNumMath
import Derived.Test.YtphfejboahcnhaaHGoto
import Derived.Laws.Bits64b
namespace Go.Proofs.Ytphfejboahcnhaa.P
open Go.RowKit Go.Proofs.YtphfejboahcnhaaW.PrintWords Go.Proofs.YtphfejboahcnhaaW.PrintLast Go.Proofs.YtphfejboahcnhaaW.PrintMore
set_option linter.unusedVariables false
set_option linter.unusedSimpArgs false

/-- num.Put, of any number: its bytes, if it fits. (None for what is no uint64.) -/
def num_Put.f (a0 : Int) (a1 : Int) : Option (List Int × Bool) :=
  if 0 ≤ a0 ∧ a0 < 18446744073709551616 then some (if fits a0 a1 then (be a1.toNat a0, true) else ([], false)) else none
/-- num.Get: the number that stands there, and where it ends. (None where the list's numbers are no bytes.) -/
def num_Get.f (l0 : List Int) (a1 : Int) (a2 : Int) : Option (Int × Int) :=
  if bytesB l0 = true then some (if 1 ≤ a2 ∧ a2 ≤ 8 ∧ 0 ≤ a1 ∧ a1 + a2 ≤ l0.length then (val ((l0.drop a1.toNat).take a2.toNat), a1 + a2) else (0, -1)) else none

theorem or_byte (n c : Int) (h0 : 0 ≤ n) (h1 : n < 72057594037927936) (h2 : 0 ≤ c) (h3 : c < 256) : Go.bits .or .u64 (n * 256) c = n * 256 + c := by
  obtain ⟨N, rfl⟩ := Int.eq_ofNat_of_zero_le h0
  obtain ⟨C, rfl⟩ := Int.eq_ofNat_of_zero_le h2
  have e : ((N : Int) * 256) = ((N * 256 : Nat) : Int) := by simp
  rw [e, bits_or_u64_nat _ _ (by omega) (by omega)]
  have h : N * 256 ||| C = N * 256 + C := by
    have := Nat.shiftLeft_add_eq_or_of_lt (show C < 2 ^ 8 by omega) N
    rw [Nat.shiftLeft_eq] at this
    exact this.symm
  rw [h]
  simp

set_option maxHeartbeats 1000000 in
set_option maxRecDepth 100000 in
theorem get_no (A0 : Option Addr) (c0 : Nat) (l0 : List Int) (a1 : Int) (a2 : Int) (w : World) (hm : l0.length ≤ 9223372036854775807) (h : ¬ (1 ≤ a2 ∧ a2 ≤ 8 ∧ 0 ≤ a1 ∧ a1 + a2 ≤ l0.length)) :
    Calls Try.prog 33 #[.slice A0 l0.length c0, .int .i64 a1, .int .i64 a2] w fun e w' => e = .returned (.tuple #[.int .u64 0, .int .i64 (-1)]) ∧ w' = w := by
  by_cases g1 : 1 ≤ a2
  · by_cases g2 : a2 ≤ 8
    · by_cases g3 : 0 ≤ a1
      · by_cases g4 : a1 ≤ l0.length
        · have g5 : (l0.length : Int) - a1 < a2 := by omega
          clear h
          go_enter Try.func33, Try.ntmps33
          go_wp2
          go_ret2
          exact ⟨rfl, rfl⟩
        · have g5 : (l0.length : Int) < a1 := by omega
          clear h g4
          go_enter Try.func33, Try.ntmps33
          go_wp2
          go_ret2
          exact ⟨rfl, rfl⟩
      · have g5 : a1 < 0 := by omega
        clear h g3
        go_enter Try.func33, Try.ntmps33
        go_wp2
        go_ret2
        exact ⟨rfl, rfl⟩
    · have g5 : 8 < a2 := by omega
      clear h g2
      go_enter Try.func33, Try.ntmps33
      go_wp2
      go_ret2
      exact ⟨rfl, rfl⟩
  · have g5 : a2 < 1 := by omega
    clear h g1
    go_enter Try.func33, Try.ntmps33
    go_wp2
    go_ret2
    exact ⟨rfl, rfl⟩

theorem val_take_succ (l : List Int) (i : Nat) (h : i < l.length) : val (l.take (i + 1)) = val (l.take i) * 256 + l[i] := by
  rw [List.take_succ_eq_append_getElem h, val_snoc]

theorem add_add_ (a : Addr) (p i : Nat) : (a.add p).add i = a.add (p + i) := by
  unfold Addr.add
  by_cases hp : p = 0
  · subst hp; simp
  · by_cases hi : i = 0
    · subst hi; simp
    · simp [hp, hi, Nat.add_assoc]

set_option maxHeartbeats 1000000 in
set_option maxRecDepth 100000 in
theorem get_yes (A0 : Option Addr) (c0 : Nat) (l0 : List Int) (a1 : Int) (a2 : Int) (w : World) (hr0 : Kd.C (Kd.int .u8) w A0 l0.length l0) (hc0 : l0.length ≤ c0) (hb : ∀ x ∈ l0, 0 ≤ x ∧ x < 256)
    (g1 : 1 ≤ a2) (g2 : a2 ≤ 8) (g3 : 0 ≤ a1) (g4 : a1 + a2 ≤ l0.length) :
    Calls Try.prog 33 #[.slice A0 l0.length c0, .int .i64 a1, .int .i64 a2] w fun e w' => e = .returned (.tuple #[.int .u64 (val ((l0.drop a1.toNat).take a2.toNat)), .int .i64 (a1 + a2)]) ∧ w' = w := by
  have hm : l0.length ≤ 9223372036854775807 := hr0.2.1
  obtain ⟨p, rfl⟩ := Int.eq_ofNat_of_zero_le g3
  obtain ⟨k, rfl⟩ := Int.eq_ofNat_of_zero_le (show 0 ≤ a2 by omega)
  obtain ⟨ad, e0, hcell⟩ : ∃ ad, A0 = some ad ∧ ∀ i, i < k → w.cell? ((ad.add p).add i) = some (.int .u8 ((l0.drop p).getD i 0)) := by
    obtain ⟨ad, e0, _⟩ := Kd.at_int hr0 p (by omega) (by omega)
    refine ⟨ad, e0, fun i hi => ?_⟩
    obtain ⟨ad', e1, h⟩ := Kd.at_int hr0 ((p + i : Nat) : Int) (by omega) (by omega)
    rw [e0] at e1
    injection e1 with e1
    subst e1
    rw [Int.toNat_natCast] at h
    have hrd : rd l0 ((p + i : Nat) : Int) = (l0.drop p).getD i 0 := by
      unfold rd
      rw [Int.toNat_natCast]
      simp [List.getD_eq_getElem?_getD, List.getElem?_drop]
    rw [add_add_, ← hrd]
    exact h
  subst e0
  have hk : k ≤ 8 := by omega
  have hk1 : 1 ≤ k := by omega
  have hlen : p + k ≤ l0.length := by omega
  have hsl : ∀ W : World, (Instr.slice 26 (.slice (some ad) l0.length c0) (some (.int .i64 p)) (some (.int .i64 ((p : Int) + k))) (some (.int .i64 ((p : Int) + k)))).run Try.prog W = .ok (.slice (some (ad.add p)) k k) W := by
    intro W
    have hel : Try.prog.elem 26 = 5 := by simp [Program.elem, Try.underlying26]
    have hu : Try.prog.underlying 26 = some (.slice (Try.prog.elem 26)) := by rw [hel]; exact Try.underlying26
    obtain ⟨i0, hi, hzz⟩ := Option.map_eq_some_iff.1 info5
    simp only [Prod.mk.injEq] at hzz
    obtain ⟨_, hz1, _⟩ := hzz
    rw [run_slice_lhm W 26 (some ad) l0.length c0 hu .i64 .i64 .i64 p _ _ (by omega) (by omega) (by omega) (by omega), hel]
    have e1 : ((p : Int) + (k : Int)).toNat = p + k := by omega
    rw [e1, Int.toNat_natCast]
    have e2 : ¬ (p + k = p) := by omega
    simp [sizeOf, typeInfo, hi, hz1, sliced, Result.andThen]
    omega
  have HS := Aside0.mk hcell
  have hbd : ∀ i, 0 ≤ val (((l0.drop p).take k).take i) ∧ val (((l0.drop p).take k).take i) < 256 ^ (((l0.drop p).take k).take i).length := fun i => val_bound _ fun x hx => hb x (List.mem_of_mem_drop (List.mem_of_mem_take (List.mem_of_mem_take hx)))
  have HBD := Aside0.mk hbd
  have HBY := Aside0.mk hb
  have hsk : ((l0.drop p).take k).length = k := by rw [List.length_take, List.length_drop]; omega
  have HSK := Aside0.mk hsk
  clear hcell hbd hb hsk hr0
  rw [Int.toNat_natCast, Int.toNat_natCast]
  have g5 : (k : Int) ≤ (l0.length : Int) - (p : Int) := by omega
  go_enter Try.func33, Try.ntmps33
  go_wp2
  go_loop [8, 42] (fun v8 v42 => ∃ i : Nat, i ≤ k ∧ v42 = .int .i64 i ∧ v8 = .int .u64 (val (((l0.drop p).take k).take i))) (fun _ v42 => k - (intOf v42).toNat)
  case atStart => exact ⟨0, by omega, rfl, rfl⟩
  case round =>
    obtain ⟨i, hi, rfl, rfl⟩ := hrel
    by_cases hlt : i < k
    · have hc := HS.out i hlt
      have hb1 := HBD.out i
      have hpw : (256 : Int) ^ (((l0.drop p).take k).take i).length ≤ 72057594037927936 := by
        have hle : (((l0.drop p).take k).take i).length < 8 := by rw [List.length_take]; omega
        have hall : ∀ m, m < 8 → (256 : Int) ^ m ≤ 72057594037927936 := by decide
        exact hall _ hle
      have hn1 : val (((l0.drop p).take k).take i) < 72057594037927936 := by omega
      have hn0 := hb1.1
      have hcb : 0 ≤ (l0.drop p).getD i 0 ∧ (l0.drop p).getD i 0 < 256 := by
        have hil : i < (l0.drop p).length := by rw [List.length_drop]; omega
        rw [List.getD_eq_getElem?_getD, List.getElem?_eq_getElem hil]
        exact HBY.out _ (List.mem_of_mem_drop (List.getElem_mem hil))
      obtain ⟨hc0', hc1'⟩ := hcb
      have hnext : val (((l0.drop p).take k).take (i + 1)) = val (((l0.drop p).take k).take i) * 256 + (l0.drop p).getD i 0 := by
        have hil : i < ((l0.drop p).take k).length := by rw [HSK.out]; exact hlt
        rw [val_take_succ _ i hil]
        congr 1
        rw [List.getElem_take, List.getD_eq_getElem?_getD, List.getElem?_eq_getElem (by rw [List.length_drop]; omega)]
        rfl
      have HN := Aside0.mk hnext
      clear hnext hb1 hpw
      obtain ⟨c, hcc⟩ : ∃ c, c = (l0.drop p).getD i 0 := ⟨_, rfl⟩
      rw [← hcc] at hc hc0' hc1'
      have HC := Aside0.mk hcc
      clear hcc
      obtain ⟨n, hnn⟩ : ∃ n, n = val (((l0.drop p).take k).take i) := ⟨_, rfl⟩
      rw [← hnn] at hn0 hn1 ⊢
      have HNN := Aside0.mk hnn
      clear hnn
      have hor := or_byte n c hn0 hn1 hc0' hc1'
      go_wp2
      go_round
      case rel => exact ⟨i + 1, by omega, by go_num, by rw [HN.out, ← HC.out, ← HNN.out]⟩
      case measure => simp [intOf]; omega
    · obtain rfl : i = k := by omega
      go_wp2
      go_ret2
      have e : ((l0.drop p).take i).take i = (l0.drop p).take i := by rw [List.take_take, Nat.min_self]
      exact ⟨by first | rfl | (rw [e]; rfl), rfl⟩

theorem num_Get.calls (A0 : Option Addr) (c0 : Nat) (l0 : List Int) (a1 : Int) (a2 : Int) (r1 : Int) (r2 : Int) (w : World) (hr0 : Kd.C (Kd.int .u8) w A0 l0.length l0) (hc0 : l0.length ≤ c0) (h : num_Get.f l0 a1 a2 = some (r1, r2)) :
    Calls Try.prog 33 #[.slice A0 l0.length c0, .int .i64 a1, .int .i64 a2] w fun e w' => e = .returned (.tuple #[.int .u64 r1, .int .i64 r2]) ∧ Drawn0 w w' := by
  unfold num_Get.f at h
  by_cases hb : bytesB l0 = true
  · rw [if_pos hb] at h
    by_cases hg : 1 ≤ a2 ∧ a2 ≤ 8 ∧ 0 ≤ a1 ∧ a1 + a2 ≤ l0.length
    · rw [if_pos hg] at h
      simp only [Option.some.injEq, Prod.mk.injEq] at h
      obtain ⟨rfl, rfl⟩ := h
      refine (get_yes A0 c0 l0 a1 a2 w hr0 hc0 (bytesB_iff.1 hb) hg.1 hg.2.1 hg.2.2.1 hg.2.2.2).mono ?_
      rintro e w' ⟨rfl, rfl⟩
      exact ⟨rfl, Drawn0.refl _⟩
    · rw [if_neg hg] at h
      simp only [Option.some.injEq, Prod.mk.injEq] at h
      obtain ⟨rfl, rfl⟩ := h
      refine (get_no A0 c0 l0 a1 a2 w hr0.2.1 hg).mono ?_
      rintro e w' ⟨rfl, rfl⟩
      exact ⟨rfl, Drawn0.refl _⟩
  · rw [if_neg hb] at h
    cases h

set_option maxHeartbeats 1000000 in
set_option maxRecDepth 100000 in
theorem put_no (a0 a1 : Int) (w : World) (h0 : 0 ≤ a0) (h1 : a0 < 18446744073709551616) (h : ¬ (1 ≤ a1 ∧ a1 ≤ 8)) :
    Calls Try.prog 31 #[.int .u64 a0, .int .i64 a1] w fun e w' => e = .returned (.tuple #[.slice none 0 0, .bool false]) ∧ w' = w := by
  clear h0 h1
  by_cases h2 : 1 ≤ a1
  · have h3 : 8 < a1 := by omega
    clear h
    go_enter Try.func31, Try.ntmps31
    go_wp2
    go_step3
    go_wp2
    go_ret2
    exact ⟨rfl, rfl⟩
  · have h3 : a1 < 1 := by omega
    clear h h2
    go_enter Try.func31, Try.ntmps31
    go_wp2
    go_step3
    go_wp2
    go_ret2
    exact ⟨rfl, rfl⟩
set_option maxHeartbeats 1000000 in
set_option maxRecDepth 100000 in
theorem put_big (a0 a1 : Int) (w : World) (h0 : 0 ≤ a0) (h1 : a0 < 18446744073709551616) (h2 : 1 ≤ a1) (h3 : a1 < 8) (h4 : (a0 / 2 ^ (8 * a1).toNat != 0) = true) :
    Calls Try.prog 31 #[.int .u64 a0, .int .i64 a1] w fun e w' => e = .returned (.tuple #[.slice none 0 0, .bool false]) ∧ w' = w := by
  go_enter Try.func31, Try.ntmps31
  go_wp2
  go_step3
  go_wp2
  rw [Exit.noGoto_ret]
  go_ret2
  exact ⟨rfl, rfl⟩
/-- What holds at the label of num.Put. -/
def PutJ (w : World) (a0 a1 : Int) (a' : Act) (w' : World) : Prop := ∃ (m : Nat) (i : Int) (n : Int) (xs : List Int) (v : Value) (u8 u9 u10 u11 u12 u13 u14 u15 u16 u17 u18 u19 u20 u21 u22 u23 u24 u25 u26 u27 u28 u29 u30 u31 u32 u33 u34 u35 u36 u37 : Value),
  a' = { tmps := #[.int .u64 n, .int .i64 a1, undef, undef, .slice none 0 0, .bool false, v, .int .i64 i, u8, u9, u10, u11, u12, u13, u14, u15, u16, u17, u18, u19, u20, u21, u22, u23, u24, u25, u26, u27, u28, u29, u30, u31, u32, u33, u34, u35, u36, u37], defers := [] } ∧
  Aside0 (i = m) ∧ m < a1.toNat ∧ Aside0 (putL (m + 1) n xs = be a1.toNat a0) ∧ Aside0 (xs.length = a1.toNat) ∧ 0 ≤ n ∧ n < 18446744073709551616 ∧
  Aside0 (Kd.R (Kd.int .u8) 5 w' w.heap.size (fun _ => True) v xs) ∧ Aside0 (Below w.heap.size w w')
def putM (a' : Act) (_ : World) : Nat := (intOf (a'.tmps.getD 7 undef)).toNat

set_option maxHeartbeats 1000000 in
set_option maxRecDepth 100000 in
theorem put_yes (a0 a1 : Int) (w : World) (h0 : 0 ≤ a0) (h1 : a0 < 18446744073709551616) (h2 : 1 ≤ a1) (h3 : a1 ≤ 8) (h4 : a1 < 8 → (a0 / 2 ^ (8 * a1).toNat != 0) = false) :
    Calls Try.prog 31 #[.int .u64 a0, .int .i64 a1] w fun e w' => ∃ v0_ : Value, e = .returned (.tuple #[v0_, .bool true]) ∧ Kd.R (Kd.int .u8) 5 w' w.heap.size (fun _ => True) v0_ (be a1.toNat a0) ∧ Below w.heap.size w w' := by
  have HB := Aside0.mk (Below.refl w.heap.size w)
  have hfin := putL_be a1.toNat a0 (List.replicate a1.toNat 0) (by simp)
  rw [List.drop_of_length_le (by simp), List.append_nil] at hfin
  have HF := Aside0.mk hfin
  clear hfin
  have c6b1 : decide (0 ≤ a1) = true := decide_eq_true (by omega)
  have c7b1 : decide ((a1 : Int).toNat ≤ 281474976710656) = true := decide_eq_true (by omega)
  obtain ⟨y106, hy106⟩ : ∃ y_ : List Int, y_ = (List.replicate (a1 : Int).toNat 0) := ⟨_, rfl⟩
  have Ny106 := Aside0.mk hy106
  clear hy106
  go_enter Try.func31, Try.ntmps31
  go_wp2
  refine wp_scope_loop 0 (PutJ w a0 a1) putM rfl ?_ ?_
  · rintro a' w' ⟨m, _, n, xs, v, u8, u9, u10, u11, u12, u13, u14, u15, u16, u17, u18, u19, u20, u21, u22, u23, u24, u25, u26, u27, u28, u29, u30, u31, u32, u33, u34, u35, u36, u37, rfl, ⟨rfl⟩, hm, HS, HX, hn0, hn1, HO, HB1⟩
    obtain ⟨go13, co13, eo13, gb13, gl13, cl13, HG13⟩ := Kd.R_form HO.out (by have := HX.out; omega)
    subst eo13
    have GB13 := Aside0.mk gb13
    clear gb13 gl13 HG13
    have hl13 : (m : Int) < (xs.length : Int) := by have := HX.out; omega
    obtain ⟨hx13, hf13⟩ := Kd.R_celln 0 HO.out (m : Int) (by omega) hl13
    rw [Int.toNat_natCast] at hx13 hf13
    have HP14 := Kd.R_putg HO.out (m : Int) (n % 256)
    rw [Int.toNat_natCast] at HP14
    have hm1 : (m : Int) ≤ 7 := by omega
    go_wp2_with (first | ((with_reducible refine gate_store (t := 5) (p := 30) rfl ?_); refine store_event (t := 5) (p := 30) (v := ?vo_w15) (w1 := (w'.setCell ⟨go13, m, none⟩ (.int .u8 (n % 256)))) ?hg ?ho ?hn ?hr ?_; (case ho => rfl); (case hg => rfl); (case hn => rfl); (case hr => first | (go_simp; done) | (go_simp; rfl)); intro w15 hw; have HO2 := Aside0.mk (show Kd.R (Kd.int .u8) 5 w15 w.heap.size (fun _ => True) (.slice (some ⟨go13, 0, none⟩) xs.length co13) (xs.set m (n % 256)) by rw [hw]; exact HP14.1); have HB2 := Aside0.mk (show Below w.heap.size w w15 by rw [hw]; exact below_set HB1.out GB13.out); clear HP14 hw hx13 hf13 HO HB1))
    · go_step3
      have hpos : 1 ≤ (m : Int) := by assumption
      refine ⟨rfl, ⟨m - 1, _, _, xs.set m (n % 256), _, _, _, _, _, _, _, _, _, _, _, _, _, _, _, _, _, _, _, _, _, _, _, _, _, _, _, _, _, _, _, rfl, ⟨by omega⟩, by omega, ⟨?_⟩, ⟨by rw [List.length_set]; exact HX.out⟩, by omega, by omega, HO2, HB2⟩, ?_⟩
      · rw [show m - 1 + 1 = m by omega, ← HS.out]; rfl
      · show (intOf (.int .i64 ((m : Int) - 1))).toNat < (intOf (.int .i64 (m : Int))).toNat
        simp [intOf]
        omega
    · have hneg : (m : Int) < 1 := by assumption
      obtain rfl : m = 0 := by omega
      simp only [Exit.jump]
      go_ret2
      refine ⟨_, rfl, ?_, HB2.out⟩
      have hs := HS.out
      simp only [putL] at hs
      rw [← hs]
      exact HO2.out
  · intro hpass
    by_cases hlt : a1 < 8
    all_goals
      go_wp2_with (first | ((with_reducible refine gate_dst (N := 23) rfl ?_); refine Kd.R_make (Kd.int .u8) _ 5 rfl (N := 23) rfl 26 _ _ rfl a1 rfl rfl Try.underlying26 (.int .u8 0) 1 info5 rfl (by decide) (by omega) 0 (ok := fun _ => True) (okp := fun _ => True) rfl (fun _ hk => hk) trivial (of_decide_eq_true (by first | (with_reducible assumption) | assumption)) (Nat.le_trans (Nat.mul_le_mul_right _ (of_decide_eq_true (by first | (with_reducible assumption) | assumption) : a1.toNat ≤ 281474976710656)) (by omega)) (Below.refl _ _) (Nat.le_refl _) ?_; intro v107 w8 ho9 hb hg_ hnew_; clear hg_ hnew_; rw [← Ny106.out] at ho9; have HO := Aside0.mk (Kd.R_lower ho9 (below_size HB.out)); have HB2 := Aside0.mk (below_step HB.out hb); clear hb ho9) | go_in)
      go_step3
      refine ‹∀ (a : Act) (w : World), Code.wp _ _ _ a w → _› _ _ (hpass _ _ ?_)
      refine ⟨a1.toNat - 1, a1 - 1, _, y106, v107, _, _, _, _, _, _, _, _, _, _, _, _, _, _, _, _, _, _, _, _, _, _, _, _, _, _, _, _, _, _, rfl, ⟨by omega⟩, by omega, ⟨?_⟩, ⟨by rw [Ny106.out, List.length_replicate]⟩, h0, h1, HO, HB2⟩
      rw [show a1.toNat - 1 + 1 = a1.toNat by omega, Ny106.out]; exact HF.out

theorem shr_fits (a0 a1 : Int) (h0 : 0 ≤ a0) (h2 : 1 ≤ a1) (h3 : a1 ≤ 8) : (a0 / 2 ^ (8 * a1).toNat = 0) ↔ a0 < 256 ^ a1.toNat := by
  have e : (2 : Int) ^ (8 * a1).toNat = 256 ^ a1.toNat := by
    rw [show (8 * a1).toNat = 8 * a1.toNat by omega, Int.pow_mul]
    rfl
  rw [e]
  constructor
  · intro h
    have hp : (0 : Int) < 256 ^ a1.toNat := Int.pow_pos (by omega)
    have := Int.lt_ediv_add_one_mul_self a0 hp
    rw [h] at this
    omega
  · exact fun h => Int.ediv_eq_zero_of_lt h0 h

theorem num_Put.calls (a0 : Int) (a1 : Int) (r1 : List Int) (r2 : Bool) (w : World) (h : num_Put.f a0 a1 = some (r1, r2)) :
    Calls Try.prog 31 #[.int .u64 a0, .int .i64 a1] w fun e w' => ∃ v0_ : Value, e = .returned (.tuple #[v0_, .bool r2]) ∧ Kd.R (Kd.int .u8) 5 w' w.heap.size (fun _ => True) v0_ r1 ∧ Below w.heap.size w w' := by
  unfold num_Put.f at h
  by_cases hb : 0 ≤ a0 ∧ a0 < 18446744073709551616
  · rw [if_pos hb] at h
    by_cases hg : fits a0 a1
    · rw [if_pos hg] at h
      simp only [Option.some.injEq, Prod.mk.injEq] at h
      obtain ⟨rfl, rfl⟩ := h
      exact put_yes a0 a1 w hb.1 hb.2 hg.1 hg.2.1 fun _ => bne_eq_false_iff_eq.mpr ((shr_fits a0 a1 hb.1 hg.1 hg.2.1).2 hg.2.2)
    · rw [if_neg hg] at h
      simp only [Option.some.injEq, Prod.mk.injEq] at h
      obtain ⟨rfl, rfl⟩ := h
      have hno : Calls Try.prog 31 #[.int .u64 a0, .int .i64 a1] w fun e w' => e = .returned (.tuple #[.slice none 0 0, .bool false]) ∧ w' = w := by
        by_cases hk : 1 ≤ a1 ∧ a1 ≤ 8
        · have h8 : a1 < 8 := by
            by_cases h8 : a1 = 8
            · exact absurd ⟨hk.1, hk.2, by rw [h8]; exact hb.2⟩ hg
            · omega
          exact put_big a0 a1 w hb.1 hb.2 hk.1 h8 (bne_iff_ne.mpr fun hz => hg ⟨hk.1, hk.2, (shr_fits a0 a1 hb.1 hk.1 hk.2).1 hz⟩)
        · exact put_no a0 a1 w hb.1 hb.2 hk
      refine hno.mono ?_
      rintro e w' ⟨rfl, rfl⟩
      exact ⟨_, rfl, Kd.R_nil _ _ _ _ _, Below.refl _ _⟩
  · rw [if_neg hb] at h
    cases h
end Go.Proofs.Ytphfejboahcnhaa.P
