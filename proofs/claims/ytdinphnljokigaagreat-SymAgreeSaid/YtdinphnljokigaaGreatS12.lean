/- What LawSymAgree rests on, part 12: several texts put together. -/
import Derived.Test.YtdinphnljokigaaGreatS11
import Derived.Test.YtdinphnljokigaaGreatS7
import Derived.Laws.CopyOwn
import Derived.Lib.AppendZerosOnto
import Derived.Test.YtdinphnljokigaaGreatS3
set_option linter.unusedVariables false
set_option linter.unnecessarySimpa false
set_option linter.unusedSimpArgs false
set_option maxRecDepth 100000
section
namespace Go.Proofs.YtdinphnljokigaaGreat.P
open Go.RowKit Go.Lib Go.Proofs.YtdinphnljokigaaGreatW.PrintWords Go.Proofs.YtdinphnljokigaaGreatW.PrintLast Go.Proofs.YtdinphnljokigaaGreatW.PrintMore
structure Usr where
 no : Int
 role : Int
 key : List Int
def zusr : Usr := ⟨0, 0, []⟩
theorem infoU : (Tryz.prog.info? 67).map (fun i => (i.zero, i.size, i.bytes)) = some (some (.agg #[.int .i64 0, .int .i64 0, .slice none 0 0]), 3, 40) := by kernel_rfl
def kU : Kd Usr := Kd.iso (Kd.pair (Kd.int .i64) (Kd.pair (Kd.int .i64) (Kd.slice 5 (Kd.int .u8)))) (fun x : Usr => (x.no, x.role, x.key))
theorem kU_open {w : World} {x : Usr} {cs : List Value} (h : kU.K w x cs) : ∃ A2 c2, cs = [.int .i64 x.no, .int .i64 x.role, .slice A2 x.key.length c2] ∧ x.key.length ≤ c2 ∧ (Kd.int .u8).C w A2 x.key.length x.key := by
 obtain ⟨_, _, rfl, rfl, ⟨_, _, rfl, rfl, ⟨A2, c2, rfl, l2, g2⟩⟩⟩ := h
 exact ⟨A2, c2, rfl, l2, g2⟩
theorem kU_mk (w : World) (x : Usr) {A2 : Option Addr} {c2 : Nat} (l2 : x.key.length ≤ c2) (g2 : (Kd.int .u8).C w A2 x.key.length x.key) : kU.K w x [.int .i64 x.no, .int .i64 x.role, .slice A2 x.key.length c2] :=
 ⟨[.int .i64 x.no], [.int .i64 x.role, .slice A2 x.key.length c2], rfl, rfl, ⟨[.int .i64 x.role], [.slice A2 x.key.length c2], rfl, rfl, ⟨A2, c2, rfl, l2, g2⟩⟩⟩
def rdU (l : List Usr) (i : Int) : Usr := l.getD i.toNat zusr
theorem at_U {w : World} {A : Option Addr} {n : Nat} {l : List Usr} (h : kU.C w A n l) (i : Nat) (hi : i < n) : ∃ ad A2 c2, A = some ad ∧ w.cell? (ad.add (i * 3)) = some (.int .i64 (rdU l i).no) ∧ w.cell? ⟨(ad.add (i * 3)).block, (ad.add (i * 3)).off + 1, none⟩ = some (.int .i64 (rdU l i).role) ∧ w.cell? ⟨(ad.add (i * 3)).block, (ad.add (i * 3)).off + 2, none⟩ = some (.slice A2 (rdU l i).key.length c2) ∧ (rdU l i).key.length ≤ c2 ∧ (Kd.int .u8).C w A2 (rdU l i).key.length (rdU l i).key := by
 obtain ⟨ad, c, e, _, hK, hc0⟩ := Kd.C_get h zusr (i : Int) (by omega) (by omega)
 have hc : ∀ j u, c[j]? = some u → w.cell? (ad.add (i * 3 + j)) = some u := hc0
 obtain ⟨A2, c2, rfl, l2, g2⟩ := kU_open hK
 exact ⟨ad, A2, c2, e, hc 0 _ rfl, by rw [← add_field _ _ 1 (by omega)]; exact hc 1 _ rfl, by rw [← add_field _ _ 2 (by omega)]; exact hc 2 _ rfl, l2, g2⟩
theorem rdU_get (l : List Usr) {i : Nat} (h : i < l.length) : rdU l (i : Int) = l[i] := by
 unfold rdU
 rw [Int.toNat_natCast, List.getD_eq_getElem?_getD, List.getElem?_eq_getElem h]
 rfl
def mayUF : Int → List Usr → Bool
 | _, [] => true
 | last, u :: l => inB u.no (last + 1) 255 && (roleB u.role && (inB u.key.length 16 64 && mayUF u.no l))
def mayU (l : List Usr) : Bool := mayUF 0 l && decide ((l.length : Int) ≤ 8)
theorem drop_rdU (l : List Usr) {i : Nat} (h : i < l.length) : l.drop i = rdU l i :: l.drop (i + 1) := by
 rw [rdU_get l h, ← List.drop_eq_getElem_cons h]
theorem inB_le {n a b : Int} (h : inB n a b = true) : a ≤ n ∧ n ≤ b := by
 simpa [inB] using h
theorem may_step {last : Int} {l : List Usr} {i : Nat} (h : i < l.length) : mayUF last (l.drop i) = (inB (rdU l i).no (last + 1) 255 && (roleB (rdU l i).role && (inB ((rdU l i).key.length : Int) 16 64 && mayUF (rdU l i).no (l.drop (i + 1))))) := by
 rw [drop_rdU l h]
 rfl
set_option maxHeartbeats 4000000 in
theorem umay_any (l : List Usr) (A : Option Addr) (c : Nat) (w : World) (hr : kU.C w A l.length l) :
  Calls Tryz.prog 42 #[.slice A l.length c] w fun e w' => e = .returned (.bool (mayU l)) ∧ Below w.heap.size w w' := by
 have hml : l.length ≤ 9223372036854775807 := hr.2.1
 have HC := aq_ hr
 have HB := aq_ (Below.refl w.heap.size w)
 clear hr
 go_enter Tryz.func42, Tryz.ntmps42
 go_wp2
 refine wp_scope_straight ?_
 go_wp2
 refine wp_label ?_
 go_wp2
 go_loopw [3, 4, 9] (fun v3 v4 v9 wr => ∃ (i : Nat) (last : Int), i ≤ l.length ∧ v9 = .int .i64 i ∧ v3 = .int .i64 last ∧ v4 = .bool false ∧ 0 ≤ last ∧ last ≤ 255 ∧ Aside0 (mayUF 0 l = mayUF last (l.drop i)) ∧ Aside0 (Below w.heap.size w wr)) (fun v3 v4 v9 _ => l.length - (intOf v9).toNat)
 case atStart => exact ⟨0, 0, by omega, rfl, rfl, rfl, by omega, by omega, ⟨rfl⟩, HB⟩
 case round =>
  clear HB
  obtain ⟨i, last, hi, rfl, rfl, rfl, hl0, hl1, HM, HB⟩ := hrel
  by_cases hlt : i < l.length
  ·obtain ⟨ad, A2, c2, rfl, a0, a1, a2, hc2, hk2⟩ := at_U (Kd.C_below HC.out HB.out) i hlt
   have HM1 := aq_ (HM.out.trans (may_step hlt))
   have hw1 : wrap64 (last + 1) = last + 1 := w64 (by omega) (by omega)
   cases t0 : inB (rdU l i).no (last + 1) 255
   ·have T0 := aq_ t0
    clear t0
    go_wp2_with (first
     | (go_at_call 71; (with_reducible refine (uin_any (rdU l i).no (last + 1) 255 _).mono ?_); rw [T0.out]; rintro e w_ ⟨rfl, rfl⟩))
    rw [Exit.noGoto_ret]
    go_ret
    exact ⟨ret_bool (by have h := HM1.out; unfold mayU; rw [h, T0.out]; rfl), below_alloc HB.out _⟩
   cases t1 : roleB (rdU l i).role
   ·have T0 := aq_ t0
    have T1 := aq_ t1
    clear t0 t1
    go_wp2_with (first
     | (go_at_call 71; (with_reducible refine (uin_any (rdU l i).no (last + 1) 255 _).mono ?_); rw [T0.out]; rintro e w_ ⟨rfl, rfl⟩)
     | (go_at_call 31; (with_reducible refine (role_any (rdU l i).role _).mono ?_); rw [T1.out]; rintro e w_ ⟨rfl, rfl⟩))
    rw [Exit.noGoto_ret]
    go_ret
    exact ⟨ret_bool (by have h := HM1.out; unfold mayU; rw [h, T0.out, T1.out]; rfl), below_alloc HB.out _⟩
   cases t2 : inB ((rdU l i).key.length : Int) 16 64
   ·have T0 := aq_ t0
    have T1 := aq_ t1
    have T2 := aq_ t2
    clear t0 t1 t2
    go_wp2_with (first
     | (go_at_call 71; (with_reducible refine (uin_any (rdU l i).no (last + 1) 255 _).mono ?_); rw [T0.out]; rintro e w_ ⟨rfl, rfl⟩)
     | (go_at_call 31; (with_reducible refine (role_any (rdU l i).role _).mono ?_); rw [T1.out]; rintro e w_ ⟨rfl, rfl⟩)
     | (go_at_call 71; (with_reducible refine (uin_any ((rdU l i).key.length : Int) 16 64 _).mono ?_); rw [T2.out]; rintro e w_ ⟨rfl, rfl⟩))
    rw [Exit.noGoto_ret]
    go_ret
    exact ⟨ret_bool (by have h := HM1.out; unfold mayU; rw [h, T0.out, T1.out, T2.out]; rfl), below_alloc HB.out _⟩
   ·have T0 := aq_ t0
    have T1 := aq_ t1
    have T2 := aq_ t2
    have hn := inB_le t0
    clear t0 t1 t2
    go_wp2_with (first
     | (go_at_call 71; (with_reducible refine (uin_any (rdU l i).no (last + 1) 255 _).mono ?_); rw [T0.out]; rintro e w_ ⟨rfl, rfl⟩)
     | (go_at_call 31; (with_reducible refine (role_any (rdU l i).role _).mono ?_); rw [T1.out]; rintro e w_ ⟨rfl, rfl⟩)
     | (go_at_call 71; (with_reducible refine (uin_any ((rdU l i).key.length : Int) 16 64 _).mono ?_); rw [T2.out]; rintro e w_ ⟨rfl, rfl⟩))
    go_roundw
    case rel => exact ⟨i + 1, (rdU l i).no, by omega, by go_num, rfl, rfl, by omega, by omega, ⟨by rw [HM1.out, T0.out, T1.out, T2.out]; rfl⟩, ⟨below_alloc HB.out _⟩⟩
    case measure => simp [intOf]; omega
  ·obtain rfl : i = l.length := by omega
   have hm : mayU l = decide ((l.length : Int) ≤ 8) := by
    unfold mayU
    rw [HM.out, List.drop_length]
    rfl
   go_wp2
   rw [Exit.noGoto_ret]
   go_ret
   exact ⟨ret_bool hm.symm, HB.out⟩
theorem mayUF_gt : ∀ (l : List Usr) (last : Int), mayUF last l = true → ∀ u ∈ l, last < u.no
 | [], _, _, u, hu => by simp at hu
 | x :: l, last, h, u, hu => by
  simp only [mayUF, Bool.and_eq_true] at h
  obtain ⟨h1, _, _, h4⟩ := h
  have := (inB_le h1).1
  rcases List.mem_cons.1 hu with rfl | hu
  ·omega
  ·have := mayUF_gt l x.no h4 u hu
   omega
theorem mayUF_lt : ∀ (l : List Usr) (last : Int), mayUF last l = true → ∀ (i j : Nat) (hj : j < l.length) (hij : i < j), (l[i]'(by omega)).no < (l[j]).no
 | [], _, _, i, j, hj, _ => by simp at hj
 | x :: l, last, h, i, j, hj, hij => by
  simp only [mayUF, Bool.and_eq_true] at h
  obtain ⟨h1, _, _, h4⟩ := h
  obtain ⟨j', rfl⟩ : ∃ j', j = j' + 1 := ⟨j - 1, by omega⟩
  cases i with
  | zero =>
   simp only [List.getElem_cons_zero, List.getElem_cons_succ]
   exact mayUF_gt l x.no h4 _ (List.getElem_mem _)
  | succ i =>
   simp only [List.getElem_cons_succ]
   exact mayUF_lt l x.no h4 i j' (by simpa using hj) (by omega)
def idxU (no : Int) : List Usr → Int
 | [] => -1
 | u :: l => if u.no = no then 0 else if idxU no l = -1 then -1 else idxU no l + 1
def findU (l : List Usr) (no : Int) : Int := if mayU l = true then idxU no l else -1
theorem idxU_ge (no : Int) : ∀ l, -1 ≤ idxU no l ∧ idxU no l < l.length
 | [] => by simp [idxU]
 | x :: l => by
  have := idxU_ge no l
  rw [idxU, List.length_cons]
  split
  ·omega
  ·split <;> omega
theorem idxU_none (no : Int) : ∀ l : List Usr, (∀ u ∈ l, u.no ≠ no) → idxU no l = -1
 | [], _ => rfl
 | x :: l, h => by
  rw [idxU, if_neg (h x (by simp)), if_pos (idxU_none no l fun u hu => h u (by simp [hu]))]
theorem idxU_at (no : Int) : ∀ (l : List Usr) (i : Nat) (hi : i < l.length), (l[i]).no = no → (∀ j (hj : j < i), (l[j]'(by omega)).no ≠ no) → idxU no l = i
 | [], i, hi, _, _ => by simp at hi
 | x :: l, 0, hi, h, _ => by
  rw [idxU, if_pos (by simpa using h)]
  rfl
 | x :: l, i + 1, hi, h, hn => by
  have h0 : x.no ≠ no := by simpa using hn 0 (by omega)
  have ih := idxU_at no l i (by simpa using hi) (by simpa using h) fun j hj => by simpa using hn (j + 1) (by omega)
  rw [idxU, if_neg h0, ih, if_neg (by omega)]
  simp
set_option maxHeartbeats 1000000 in
theorem find1u_any (l : List Usr) (A : Option Addr) (c : Nat) (no : Int) (i : Nat) (p q : Nat) (w : World) (hr : kU.C w A l.length l) (hi : i < l.length) (hp : w.heap[p]? = some (.cells #[.slice A l.length c] 22 (0, 0))) (hq : w.heap[q]? = some (.cells #[.int .i64 no] 3 (0, 0))) :
  Calls Tryz.prog 67 #[.int .i64 i, .pointer (some ⟨p, 0, none⟩), .pointer (some ⟨q, 0, none⟩)] w fun e w' => e = .returned (.bool (decide (no ≤ (rdU l i).no))) ∧ Below w.heap.size w w' := by
 have HB := aq_ (Below.refl w.heap.size w)
 obtain ⟨ad, A2, c2, rfl, a0, _, _, _⟩ := at_U hr i hi
 have hp0 := blk_cell hp 0
 have hq0 := blk_cell hq 0
 simp only [List.getElem?_toArray, List.getElem?_cons_zero] at hp0 hq0
 clear hr hp hq
 go_enter Tryz.func67, Tryz.ntmps67
 go_upto_region 1 with (fail)
 go_region
 go_wp2
 go_ret
 exact ⟨rfl, below_drew HB.out⟩
set_option maxHeartbeats 2000000 in
theorem search_any (l : List Usr) (A : Option Addr) (c : Nat) (no : Int) (p q : Nat) (w : World) (hr : kU.C w A l.length l) (hl : l.length ≤ 1000) (hs : ∀ (i j : Nat) (hj : j < l.length) (hij : i < j), (l[i]'(by omega)).no < (l[j]).no) (hp : w.heap[p]? = some (.cells #[.slice A l.length c] 22 (0, 0))) (hq : w.heap[q]? = some (.cells #[.int .i64 no] 3 (0, 0))) :
  Calls Tryz.prog 66 #[.int .i64 l.length, .func (.func 67) #[] #[.pointer (some ⟨p, 0, none⟩), .pointer (some ⟨q, 0, none⟩)]] w fun e w' => ∃ k : Nat, e = .returned (.int .i64 k) ∧ k ≤ l.length ∧ (∀ j, j < k → (rdU l j).no < no) ∧ (∀ j, k ≤ j → j < l.length → no ≤ (rdU l j).no) ∧ Below w.heap.size w w' := by
 have HR := aq_ hr
 have HS := aq_ hs
 have HP := aq_ hp
 have HQ := aq_ hq
 have HB := aq_ (Below.refl w.heap.size w)
 clear hr hs hp hq
 go_enter Tryz.func66, Tryz.ntmps66
 go_wp2
 go_loopw [5, 6] (fun v5 v6 wr => ∃ i j : Nat, v5 = .int .i64 i ∧ v6 = .int .i64 j ∧ i ≤ j ∧ j ≤ l.length ∧ Aside0 (∀ k, k < i → (rdU l k).no < no) ∧ Aside0 (∀ k, j ≤ k → k < l.length → no ≤ (rdU l k).no) ∧ Aside0 (Below w.heap.size w wr)) (fun v5 v6 _ => (intOf v6 - intOf v5).toNat)
 case atStart => exact ⟨0, l.length, rfl, rfl, Nat.zero_le _, Nat.le_refl _, ⟨fun k hk => absurd hk (by omega)⟩, ⟨fun k h1 h2 => absurd h1 (by omega)⟩, HB⟩
 case round =>
  clear HB
  obtain ⟨i, j, rfl, rfl, hij, hj, HI, HJ, HB⟩ := hrel
  by_cases hlt : i < j
  ·obtain ⟨m, hm⟩ : ∃ m : Nat, m = (i + j) / 2 := ⟨_, rfl⟩
   have he : ((i : Int) + (j : Int)) / 2 = (m : Int) := by omega
   have h1 : i ≤ m := by omega
   have h2 : m < j := by omega
   have HRW := aq_ (Kd.C_below HR.out HB.out)
   have HPW := aq_ (blk_below HP.out HB.out)
   have HQW := aq_ (blk_below HQ.out HB.out)
   clear hm
   by_cases hc : no ≤ (rdU l m).no
   ·have hd : decide (no ≤ (rdU l m).no) = true := decide_eq_true hc
    have HD := aq_ hd
    have HJ2 := aq_ (show ∀ k, m ≤ k → k < l.length → no ≤ (rdU l k).no from fun k hk hkl => by
     rcases Nat.eq_or_lt_of_le hk with rfl | hk
     ·exact hc
     ·have := HS.out m k hkl hk
      rw [rdU_get l hkl]
      rw [rdU_get l (show m < l.length by omega)] at hc
      omega)
    clear hd hc
    go_wp2_with (go_at_call 67; (with_reducible refine (find1u_any l A c no m p q _ HRW.out (by omega) HPW.out HQW.out).mono ?_); rw [HD.out]; rintro e w2 ⟨rfl, hb⟩; have HB2 := aq_ (below_step HB.out hb); clear hb)
    go_roundw
    case rel => exact ⟨i, m, rfl, rfl, h1, by omega, HI, HJ2, HB2⟩
    case measure => simp [intOf]; omega
   ·have hd : decide (no ≤ (rdU l m).no) = false := decide_eq_false hc
    have HD := aq_ hd
    have HI2 := aq_ (show ∀ k, k < m + 1 → (rdU l k).no < no from fun k hk => by
     rcases Nat.eq_or_lt_of_le (Nat.le_of_lt_succ hk) with rfl | hk
     ·omega
     ·have := HS.out k m (by omega) hk
      rw [rdU_get l (show k < l.length by omega)]
      rw [rdU_get l (show m < l.length by omega)] at hc
      omega)
    clear hd hc
    go_wp2_with (go_at_call 67; (with_reducible refine (find1u_any l A c no m p q _ HRW.out (by omega) HPW.out HQW.out).mono ?_); rw [HD.out]; rintro e w2 ⟨rfl, hb⟩; have HB2 := aq_ (below_step HB.out hb); clear hb)
    go_roundw
    case rel => exact ⟨m + 1, j, by go_num, rfl, by omega, by omega, HI2, HJ, HB2⟩
    case measure => simp [intOf]; omega
  ·obtain rfl : i = j := by omega
   go_wp2
   go_ret
   exact ⟨i, rfl, hj, HI.out, HJ.out, HB.out⟩
structure Frm where
 kind : Int
 user : Int
 sess : Int
 cn : Int
 epoch : Int
 count : Int
 cmd : Int
 arg : Int
 tag : Key
theorem Frm.eq_iff (a b : Frm) : a = b ↔ (a.kind = b.kind ∧ a.user = b.user ∧ a.sess = b.sess ∧ a.cn = b.cn ∧ a.epoch = b.epoch ∧ a.count = b.count ∧ a.cmd = b.cmd ∧ a.arg = b.arg ∧ a.tag.1 = b.tag.1) := by
 constructor
 ·rintro rfl
  exact ⟨rfl, rfl, rfl, rfl, rfl, rfl, rfl, rfl, rfl⟩
 ·obtain ⟨a0, a1, a2, a3, a4, a5, a6, a7, ⟨a9, _⟩⟩ := a
  obtain ⟨b0, b1, b2, b3, b4, b5, b6, b7, ⟨b9, _⟩⟩ := b
  rintro ⟨h0, h1, h2, h3, h4, h5, h6, h7, h8⟩
  dsimp only at h0 h1 h2 h3 h4 h5 h6 h7 h8
  subst h0 h1 h2 h3 h4 h5 h6 h7 h8
  rfl
instance : DecidableEq Frm := fun a b => decidable_of_iff _ (Frm.eq_iff a b).symm
def zfrm : Frm := ⟨0, 0, 0, 0, 0, 0, 0, 0, zkey⟩
def fcl (x : Frm) : List Value := .int .i64 x.kind :: .int .i64 x.user :: .int .u64 x.sess :: .int .u64 x.cn :: .int .i64 x.epoch :: .int .u64 x.count :: .int .i64 x.cmd :: .int .i64 x.arg ::  (x.tag.1.map (Value.int .u8))
theorem fcl_len (x : Frm) : (fcl x).length = 40 := by
 have := x.tag.2
 simp only [fcl, List.length_cons, List.length_map, this]
theorem fcl_one (x : Frm) : ∀ u ∈ fcl x, u.oneCell' = true := by
 intro u hu
 simp only [fcl, List.mem_cons, List.mem_map] at hu
 rcases hu with rfl | rfl | rfl | rfl | rfl | rfl | rfl | rfl | ⟨a, _, rfl⟩ <;> rfl
theorem fcl_at (x : Frm) : (fcl x)[0]? = some (.int .i64 x.kind) ∧ (fcl x)[1]? = some (.int .i64 x.user) ∧ (fcl x)[2]? = some (.int .u64 x.sess) ∧ (fcl x)[3]? = some (.int .u64 x.cn) ∧ (fcl x)[4]? = some (.int .i64 x.epoch) ∧ (fcl x)[5]? = some (.int .u64 x.count) ∧ (fcl x)[6]? = some (.int .i64 x.cmd) ∧ (fcl x)[7]? = some (.int .i64 x.arg) := ⟨rfl, rfl, rfl, rfl, rfl, rfl, rfl, rfl⟩
theorem fcl_tag (x : Frm) : ((fcl x).drop 8).take 32 = x.tag.1.map (Value.int .u8) := by
 have hl : (x.tag.1.map (Value.int .u8)).length = 32 := by rw [List.length_map, x.tag.2]
 show (x.tag.1.map (Value.int .u8)).take 32 = _
 exact List.take_of_length_le (Nat.le_of_eq hl)
def fca (x : Frm) : Array Value := (fcl x).toArray
theorem fca_size (x : Frm) : (fca x).size = 40 := fcl_len x
theorem fca_list (x : Frm) : (fca x).toList = fcl x := rfl
theorem fca_at (x : Frm) : (fca x)[0]? = some (.int .i64 x.kind) ∧ (fca x)[1]? = some (.int .i64 x.user) ∧ (fca x)[2]? = some (.int .u64 x.sess) ∧ (fca x)[3]? = some (.int .u64 x.cn) ∧ (fca x)[4]? = some (.int .i64 x.epoch) ∧ (fca x)[5]? = some (.int .u64 x.count) ∧ (fca x)[6]? = some (.int .i64 x.cmd) ∧ (fca x)[7]? = some (.int .i64 x.arg) := by
 unfold fca
 simp only [List.getElem?_toArray]
 exact fcl_at x
theorem part_tag (w : World) (x : Frm) : (part 29 (fca x) 8).run Tryz.prog w = .ok (.agg (x.tag.1.map (Value.int .u8)).toArray) w := by
 have hi : (Tryz.prog.info? 29).map (·.size) = some 32 := by kernel_rfl
 cases hq : Tryz.prog.info? 29 with
 | none => rw [hq] at hi; simp at hi
 | some i =>
  have hs : i.size = 32 := by simpa [hq] using hi
  have he : (fca x).extract 8 (8 + 32) = (x.tag.1.map (Value.int .u8)).toArray := by
   apply Array.toList_inj.1
   rw [Array.toList_extract, fca_list]
   show ((fcl x).drop 8).take (8 + 32 - 8) = _
   exact fcl_tag x
  unfold part isAgg
  simp only [Sem.run_bind, run_underlying Tryz.underlying29 w, Result.andThen_ok, sizeOf, typeInfo, Sem.run_pure, if_true]
  simp [hq, hs, he]
theorem eq_frm (w : World) (d : Nat) (x y : Frm) : (Op.equalIn (d + 3) 31 (.agg (fca x)) (.agg (fca y))).run Tryz.prog w = .ok (decide (x = y)) w := by
 have c : ∀ (z : Frm) (t : TypeId) (off : Nat) (v : Value) (de : TypeDesc), Tryz.prog.underlying t = some de → aggD de = false → (fcl z)[off]? = some v → (part t (fca z) off).run Tryz.prog w = .ok v w := by
  intro z t off v de hu hd h
  exact part_cell hu hd (by rw [fca, List.getElem?_toArray]; exact h)
 obtain ⟨x0, x1, x2, x3, x4, x5, x6, x7⟩ := fcl_at x
 obtain ⟨y0, y1, y2, y3, y4, y5, y6, y7⟩ := fcl_at y
 have key : (Op.equalIn (d + 3) 31 (.agg (fca x)) (.agg (fca y))).run Tryz.prog w = .ok ((x.kind == y.kind) && ((x.user == y.user) && ((x.sess == y.sess) && ((x.cn == y.cn) && ((x.epoch == y.epoch) && ((x.count == y.count) && ((x.cmd == y.cmd) && ((x.arg == y.arg) && (decide (x.tag.1 = y.tag.1)))))))))) w := by
  refine eqA_of Tryz.underlying31 (by kernel_rfl) ?_
  refine eqf_cons (by rfl) (c x _ _ _ _ Tryz.underlying3 rfl x0) (c y _ _ _ _ Tryz.underlying3 rfl y0) (run_equalIn_int _ _ _ _ _ _ _ Tryz.underlying3) ?_
  refine eqf_cons (by rfl) (c x _ _ _ _ Tryz.underlying3 rfl x1) (c y _ _ _ _ Tryz.underlying3 rfl y1) (run_equalIn_int _ _ _ _ _ _ _ Tryz.underlying3) ?_
  refine eqf_cons (by rfl) (c x _ _ _ _ Tryz.underlying27 rfl x2) (c y _ _ _ _ Tryz.underlying27 rfl y2) (run_equalIn_int _ _ _ _ _ _ _ Tryz.underlying27) ?_
  refine eqf_cons (by rfl) (c x _ _ _ _ Tryz.underlying27 rfl x3) (c y _ _ _ _ Tryz.underlying27 rfl y3) (run_equalIn_int _ _ _ _ _ _ _ Tryz.underlying27) ?_
  refine eqf_cons (by rfl) (c x _ _ _ _ Tryz.underlying3 rfl x4) (c y _ _ _ _ Tryz.underlying3 rfl y4) (run_equalIn_int _ _ _ _ _ _ _ Tryz.underlying3) ?_
  refine eqf_cons (by rfl) (c x _ _ _ _ Tryz.underlying27 rfl x5) (c y _ _ _ _ Tryz.underlying27 rfl y5) (run_equalIn_int _ _ _ _ _ _ _ Tryz.underlying27) ?_
  refine eqf_cons (by rfl) (c x _ _ _ _ Tryz.underlying3 rfl x6) (c y _ _ _ _ Tryz.underlying3 rfl y6) (run_equalIn_int _ _ _ _ _ _ _ Tryz.underlying3) ?_
  refine eqf_cons (by rfl) (c x _ _ _ _ Tryz.underlying3 rfl x7) (c y _ _ _ _ Tryz.underlying3 rfl y7) (run_equalIn_int _ _ _ _ _ _ _ Tryz.underlying3) ?_
  exact eqf_last (by rfl) (part_tag w x) (part_tag w y) (eq_key w d x.tag y.tag)
 rw [key]
 congr 1
 rw [Bool.eq_iff_iff, decide_eq_true_eq, Frm.eq_iff]
 simp only [Bool.and_eq_true, beq_iff_eq, decide_eq_true_eq]
theorem eql_frm (w : World) (x y : Frm) : (binOp .eql 31 (.agg (fca x)) (.agg (fca y))).run Tryz.prog w = .ok (.bool (decide (x = y))) w := by
 show (do pure (Value.bool (← Op.equal 31 (.agg (fca x)) (.agg (fca y)))) : Sem Value).run Tryz.prog w = _
 have h : (Op.equal 31 (.agg (fca x)) (.agg (fca y))).run Tryz.prog w = .ok (decide (x = y)) w := eq_frm w 9997 x y
 simp only [Sem.run_bind, h, Result.andThen_ok, Sem.run_pure]
theorem infoF : (Tryz.prog.info? 31).map (·.size) = some 40 := by kernel_rfl
theorem cellsF {w : World} {g : Nat} {t : TypeId} {x : Frm} (h : w.heap[g]? = some (.cells (fca x) t (0, 0))) : w.cell? ⟨g, 0, none⟩ = some (.int .i64 x.kind) ∧ w.cell? ⟨g, 1, none⟩ = some (.int .i64 x.user) ∧ w.cell? ⟨g, 2, none⟩ = some (.int .u64 x.sess) ∧ w.cell? ⟨g, 3, none⟩ = some (.int .u64 x.cn) ∧ w.cell? ⟨g, 4, none⟩ = some (.int .i64 x.epoch) ∧ w.cell? ⟨g, 5, none⟩ = some (.int .u64 x.count) ∧ w.cell? ⟨g, 6, none⟩ = some (.int .i64 x.cmd) ∧ w.cell? ⟨g, 7, none⟩ = some (.int .i64 x.arg) := by
 have c : ∀ j v, (fcl x)[j]? = some v → w.cell? ⟨g, j, none⟩ = some v := fun j v hv => by
  rw [blk_cell h j, fca, List.getElem?_toArray]
  exact hv
 obtain ⟨h0, h1, h2, h3, h4, h5, h6, h7⟩ := fcl_at x
 exact ⟨c _ _ h0, c _ _ h1, c _ _ h2, c _ _ h3, c _ _ h4, c _ _ h5, c _ _ h6, c _ _ h7⟩
section
variable {ops : Array Oper} {rest : List Oper} {o : Oper} {a : Act} {w : World} {Q : Exit → Act → World → Prop} {K : Act → World → Prop}
theorem run_loadF {p : Addr} {x : Frm} (hc : ∀ j v, (fcl x)[j]? = some v → w.cell? (p.add j) = some v) : (loadVar 31 p).run Tryz.prog w = .ok (.agg (fca x)) w := by
 have hl := run_loadCells_list (P := Tryz.prog) w p (fcl x) hc
 rw [fcl_len] at hl
 have hi := infoF
 cases hq : Tryz.prog.info? 31 with
 | none => rw [hq] at hi; simp at hi
 | some i =>
  have hs : i.size = 40 := by simpa [hq] using hi
  have hagg : (isAgg 31).run Tryz.prog w = .ok true w := by
   unfold isAgg
   rw [Sem.run_bind, run_underlying Tryz.underlying31 w]
   simp
  simp [loadVar, Sem.run_bind, hagg, sizeOf, typeInfo, hq, hs, hl, fca]
theorem exec_loadF (x : Operand) (ho : o.op = .load 31 x) {p : Addr} (hx : a.eval x = .pointer (some p)) {s : Frm} (hc : ∀ j v, (fcl s)[j]? = some v → w.cell? (p.add j) = some v) :
  (execOp a.eval o).run Tryz.prog w = .ok (.value (.agg (fca s))) w := by
 unfold execOp
 simp only [ho, hx, Instr.loadAt, Instr.sureAddr, Sem.run_bind, Sem.run_pure, Result.andThen_ok, run_loadF hc]
theorem cells_boxF {g : Nat} {t : TypeId} {s : Frm} (h : w.heap[g]? = some (.cells (fca s) t (0, 0))) : ∀ j v, (fcl s)[j]? = some v → w.cell? ((⟨g, 0, none⟩ : Addr).add j) = some v := fun j v hv => by
 have hadd : (⟨g, 0, none⟩ : Addr).add j = ⟨g, j, none⟩ := by unfold Addr.add; split <;> simp_all
 rw [hadd, blk_cell h j, fca, List.getElem?_toArray]
 exact hv
theorem load_F (x : Operand) (ho : o.op = .load 31 x) (hgd : o.guard = none) {p : Addr} (hx : a.eval x = .pointer (some p)) {s : Frm} (hc : ∀ j v, (fcl s)[j]? = some v → w.cell? (p.add j) = some v)
  (h : wpList Tryz.prog ops Q rest (a.put o.dst (.agg (fca s))) w) : wpList Tryz.prog ops Q (o :: rest) a w := Kd.event_run hgd (exec_loadF x ho hx hc) h
end
theorem run_copy_rows {P : Program} (w : World) (dT sT ty elem : TypeId) (b o dLen dCap : Nat) (a : Addr) (sLen sCap sz n : Nat) (cs : List Value)
  (hu : P.underlying dT = some (.slice elem)) (hs : (P.info? elem).map (·.size) = some sz) (hn : n = Nat.min sLen dLen) (hl : cs.length = n * sz)
  (hsrc : ∀ j v, cs[j]? = some v → w.cell? (a.add j) = some v) (hc : ∀ j, j < cs.length → (w.cell? ⟨b, o + j, none⟩).isSome = true) (hf : ∀ j, j < cs.length → w.frozen? ⟨b, o + j, none⟩ = false) (h1 : ∀ v ∈ cs, v.oneCell' = true) :
  (Builtin.copy_ #[dT, sT] ty #[.slice (some ⟨b, o, none⟩) dLen dCap, .slice (some a) sLen sCap]).run P w = .ok (goInt n) (w.setCells b o cs) := by
 have hld := run_loadCells_list (P := P) w a cs hsrc
 have hst := run_storeCells_cells (P := P) b o cs 0 w (by simpa using hc) (by simpa using hf) h1
 cases hq : P.info? elem with
 | none => simp [hq] at hs
 | some i =>
  have hi : i.size = sz := by simpa [hq] using hs
  rw [hl] at hld
  simp [Builtin.copy_, run_underlying hu, Builtin.lenOf, Builtin.firstCells, sizeOf, typeInfo, hq, hi, ← hn, hld, hst]
structure Slot where
 n : Option Addr
 u : Option Addr
 k : Int
def sll (s : Slot) : List Value := [.pointer s.n, .pointer s.u, .int .i64 s.k]
def lcl (l : List Slot) : List Value := l.flatMap sll
def kL : Kd Slot where
 sz := 3
 E := []
 K := fun _ x cs => cs = sll x
 M := fun _ _ _ x cs => cs = sll x
 K_len := fun h => by rw [h]; rfl
 K_one := fun h u hu => by
  rw [h] at hu
  simp only [sll, List.mem_cons, List.not_mem_nil, or_false] at hu
  rcases hu with rfl | rfl | rfl <;> rfl
 K_below := fun _ h => h
 K_of_M := fun h => h
 M_mono := fun _ h => h
 M_bound := fun h => h
 M_move := fun _ h => h
 M_lower := fun _ h => h
theorem infoL : (Tryz.prog.info? 145).map (fun i => (i.zero, i.size, i.bytes)) = some (some (.agg #[.pointer none, .pointer none, .int .i64 0]), 3, 24) := by kernel_rfl
section
variable {ops : Array Oper} {rest : List Oper} {o : Oper} {a : Act} {Q : Exit → Act → World → Prop} {K : Act → World → Prop}
theorem append_event {P : Program} {W w1 : World} (s x : Operand) (t t' : TypeId) (ho : o.op = .call { callee := .builtin .append, args := #[s, x], argTypes := #[t, t'] }) (hgd : o.guard = none) {vs vx v : Value} (hs : a.eval s = vs) (hx : a.eval x = vx)
  (hr : (Builtin.append_ #[t, t'] o.type #[vs, vx]).run P W = .ok v w1) (h : wpList P ops Q rest (a.put o.dst v) w1) : wpList P ops Q (o :: rest) a W := by
 refine wpList_plain hgd fun K hK => ?_
 unfold Oper.wp execOp
 simp only [ho, resolve, invoke, builtin, Sem.run_bind, Sem.run_pure, Result.andThen_ok, List.map_toArray, List.map_cons, List.map_nil, hs, hx, hr]
 exact hK _ _ h
theorem copy_event {P : Program} {W w1 : World} (s x : Operand) (t t' : TypeId) (ho : o.op = .call { callee := .builtin .copy, args := #[s, x], argTypes := #[t, t'] }) (hgd : o.guard = none) {vs vx v : Value} (hs : a.eval s = vs) (hx : a.eval x = vx)
  (hr : (Builtin.copy_ #[t, t'] o.type #[vs, vx]).run P W = .ok v w1) (h : wpList P ops Q rest (a.put o.dst v) w1) : wpList P ops Q (o :: rest) a W := by
 refine wpList_plain hgd fun K hK => ?_
 unfold Oper.wp execOp
 simp only [ho, resolve, invoke, builtin, Sem.run_bind, Sem.run_pure, Result.andThen_ok, List.map_toArray, List.map_cons, List.map_nil, hs, hx, hr]
 exact hK _ _ h
theorem copy_step {P : Program} {W w1 : World} (s x : Operand) (t t' : TypeId) (ho : o.op = .call { callee := .builtin .copy, args := #[s, x], argTypes := #[t, t'] }) (hw : Region.wanted o (yielded ops a.tmps) = true) {vs vx v : Value} (hs : a.eval s = vs) (hx : a.eval x = vx)
  (hr : (Builtin.copy_ #[t, t'] o.type #[vs, vx]).run P W = .ok v w1) {E : Prop} (h : K (a.put o.dst v) w1) : if Region.wanted o (yielded ops a.tmps) = true then Oper.wp P o a W K Q else E := by
 rw [if_pos hw]
 unfold Oper.wp execOp
 simp only [ho, resolve, invoke, builtin, Sem.run_bind, Sem.run_pure, Result.andThen_ok, List.map_toArray, List.map_cons, List.map_nil, hs, hx, hr]
 exact h
end
theorem run_zeros4 (w : World) (ad : Addr) (ty : TypeId) : ∃ c cur, (Builtin.append_ #[135, 3] ty #[.slice (some ad) 0 3, .int .i64 4]).run Tryz.prog w = .ok (.slice (some ⟨w.heap.size, 0, none⟩) 4 c) (w.drew.alloc (.cells cur 145)) ∧ 4 ≤ c ∧ 12 ≤ cur.size := by
 have hi := infoL
 cases hq : Tryz.prog.info? 145 with
 | none => rw [hq] at hi; simp at hi
 | some i =>
  rw [hq] at hi
  simp only [Option.map_some, Option.some.injEq, Prod.mk.injEq] at hi
  obtain ⟨hz, hs, hb⟩ := hi
  have hold : (Builtin.firstCells i.size 0 (.slice (some ad) 0 3)).run Tryz.prog w.drew = .ok ([] : List Value).toArray w.drew := by
   have hl := run_loadCells_list (P := Tryz.prog) w.drew ad [] (by simp)
   simpa [Builtin.firstCells] using hl
  have h := Go.Lib.run_append_grow_zeros (P := Tryz.prog) w 135 3 ty 145 i (.agg #[.pointer none, .pointer none, .int .i64 0]) .i64 .i64 Tryz.underlying135 Tryz.underlying3 hq hz (some ad) 0 3 [] hold 4 (by decide) (by omega) (by decide) (by decide) (by rw [hb]; decide) (by rw [hb]; decide)
  refine ⟨_, _, h, ?_, ?_⟩
  ·have := grownCap_ge w 4 3 145
   simpa using this
  ·have hz3 : (Value.agg #[.pointer none, .pointer none, .int .i64 0]).cells.size = 3 := rfl
   simp [size_zeroCells, hz3]
def CellsL (w : World) (b : Nat) (l : List Slot) : Prop := ∀ j v, (lcl l)[j]? = some v → w.cell? ⟨b, j, none⟩ = some v
theorem lcl_len (l : List Slot) : (lcl l).length = l.length * 3 := by
 induction l with
 | nil => rfl
 | cons s l ih => rw [lcl, List.flatMap_cons, List.length_append, ← lcl, ih, List.length_cons]; simp [sll]; omega
theorem lcl_one (l : List Slot) : ∀ u ∈ lcl l, u.oneCell' = true := by
 intro u hu
 rw [lcl, List.mem_flatMap] at hu
 obtain ⟨s, _, hs⟩ := hu
 simp only [sll, List.mem_cons, List.not_mem_nil, or_false] at hs
 rcases hs with rfl | rfl | rfl <;> rfl
theorem infoL_size : (Tryz.prog.info? 145).map (·.size) = some 3 := by kernel_rfl
theorem add0 (b j : Nat) : (⟨b, 0, none⟩ : Addr).add j = ⟨b, j, none⟩ := by unfold Addr.add; split <;> simp_all
theorem cells_of {w w1 : World} {g : Nat} {l : List Slot} (hg : g < w.heap.size) (hL : CellsL w g l) (hb : Below w.heap.size w w1) : CellsL w1 g l := fun j v hv => by
 have h := hL j v hv
 unfold World.cell? at h ⊢
 rw [hb.block g hg]
 exact h
theorem below_cells {B : Nat} {w0 w : World} (h : Below B w0 w) {b : Nat} (hb : B ≤ b) (o : Nat) (cs : List Value) : Below B w0 (w.setCells b o cs) := by
 obtain ⟨s1, s2, s3, s4⟩ := setCells_same b cs o w
 refine h.trans ⟨s1, s2, s3, by rw [s4]; exact Nat.le_refl _, fun k hk => setCells_far _ _ k (by omega)⟩
theorem cells_set {w : World} {g b o : Nat} {l : List Slot} (hL : CellsL w g l) (hne : g ≠ b) (cs : List Value) : CellsL (w.setCells b o cs) g l := fun j v hv => by
 rw [World.cell?_setCells_out b cs o w _ (fun h _ => absurd h hne)]
 exact hL j v hv
theorem two_rows {w1 : World} {b : Nat} {cur : Array Value} {t : TypeId} (HN : w1.heap[b]? = some (.cells cur t (0, 0))) (hcur : 12 ≤ cur.size) (s : Slot) (l : List Slot) (hl : l.length = 3) :
  (∀ j, j < (lcl l).length → ((w1.setCells b 0 (sll s)).cell? ⟨b, 3 + j, none⟩).isSome = true) ∧ (∀ j, j < (lcl l).length → (w1.setCells b 0 (sll s)).frozen? ⟨b, 3 + j, none⟩ = false) ∧ CellsL ((w1.setCells b 0 (sll s)).drew.setCells b 3 (lcl l)) b (s :: l) := by
 have h9 : (lcl l).length = 9 := by rw [lcl_len, hl]
 have hs : ∀ j, j < 12 → (w1.cell? ⟨b, j, none⟩).isSome = true := fun j hj => by
  rw [blk_cell HN, Array.getElem?_eq_getElem (by omega)]
  rfl
 have h1 : ∀ j, j < (lcl l).length → ((w1.setCells b 0 (sll s)).cell? ⟨b, 3 + j, none⟩).isSome = true := fun j hj => by
  rw [World.cell?_setCells_out b (sll s) 0 w1 _ (fun _ _ => .inr (by show 0 + 3 ≤ 3 + j; omega))]
  exact hs _ (by omega)
 refine ⟨h1, fun j hj => ?_, fun j v hv => ?_⟩
 ·rw [World.frozen?_setCells]
  exact blk_frozen HN _
 ·have hv' : (sll s ++ lcl l)[j]? = some v := by simpa [lcl] using hv
  by_cases hj : j < 3
  ·rw [World.cell?_setCells_out b (lcl l) 3 _ _ (fun _ _ => .inl hj)]
   show (w1.setCells b 0 (sll s)).cell? _ = _
   rw [List.getElem?_append_left (by show j < 3; exact hj)] at hv'
   have h := World.cell?_setCells_in b (sll s) 0 w1 (fun k hk => by rw [Nat.zero_add]; exact hs k (by have : k < 3 := hk; omega)) j hj
   rw [Nat.zero_add] at h
   rw [h, ← hv', List.getElem?_eq_getElem (show j < (sll s).length from hj)]
   rfl
  ·rw [List.getElem?_append_right (by show 3 ≤ j; omega)] at hv'
   have hlt : j - 3 < (lcl l).length := (List.getElem?_eq_some_iff.1 hv').1
   have h := World.cell?_setCells_in b (lcl l) 3 (w1.setCells b 0 (sll s)).drew h1 (j - 3) hlt
   rw [show 3 + (j - 3) = j by omega] at h
   rw [h, ← hv']
   exact (List.getElem?_eq_getElem hlt).symm
set_option maxHeartbeats 4000000 in
theorem insert3_any (l : List Slot) (hl : l.length = 3) (s : Slot) (g h : Nat) (w : World) (hg : g < w.heap.size) (hh : h < w.heap.size) (hL : CellsL w g l) (hS : CellsL w h [s]) :
  Calls Tryz.prog 112 #[.slice (some ⟨g, 0, none⟩) 3 3, .int .i64 0, .slice (some ⟨h, 0, none⟩) 1 1] w fun e w' => ∃ b c, e = .returned (.slice (some ⟨b, 0, none⟩) 4 c) ∧ w.heap.size ≤ b ∧ 4 ≤ c ∧ CellsL w' b (s :: l) ∧ Below w.heap.size w w' := by
 have HL := aq_ hL
 have HS := aq_ hS
 have HB := aq_ (Below.refl w.heap.size w)
 clear hL hS
 go_enter Tryz.func112, Tryz.ntmps112
 obtain ⟨i0, hi0, hzz⟩ := Option.map_eq_some_iff.1 infoL
 simp only [Prod.mk.injEq] at hzz
 obtain ⟨_, hz1, _⟩ := hzz
 have k1 := cut_to 135 145 .i64 Tryz.underlying135 hi0 (some ⟨g, 0, none⟩) 3 3 0 (by decide) (by decide) (by decide)
 have k2 := cut_from 135 145 .i64 Tryz.underlying135 hi0 3 hz1 (some ⟨g, 0, none⟩) 3 3 0 (by decide) (by decide)
 have K3 := aq_ (fun A c => cut_from (P := Tryz.prog) 135 145 .i64 Tryz.underlying135 hi0 3 hz1 A 4 c 0 (by decide) (by decide))
 have K4 := aq_ (fun A c => cut_from (P := Tryz.prog) 135 145 .i64 Tryz.underlying135 hi0 3 hz1 A 4 c 1 (by decide) (by decide))
 clear hi0 hz1
 obtain ⟨cp, cur, hrun, hcp, hcur⟩ := run_zeros4 w ⟨g, 0, none⟩ 135
 have HR := aq_ hrun
 clear hrun
 go_upto_region 9 with (fail)
 go_upto_region 10 with (first
  | ((with_reducible refine gate_builtin (b := .append) (xs := #[.tmp 34, .tmp 39]) rfl ?_); at_builtin; go_loud (refine append_event (.tmp 34) (.tmp 39) 135 3 rfl rfl rfl rfl HR.out ?_)))
 obtain ⟨w1, hw1⟩ : ∃ w1, w1 = (w.alloc (.cells cur 145)).drew := ⟨_, rfl⟩
 rw [← hw1]
 have HN := aq_ (show w1.heap[w.heap.size]? = some (.cells cur 145 (0, 0)) by rw [hw1]; exact blk_drew (blk_new w _))
 have HB1 := aq_ (show Below w.heap.size w w1 by rw [hw1]; exact below_drew (below_alloc (Below.refl w.heap.size w) _))
 have HG1 := aq_ (cells_of hg HL.out HB1.out)
 have HH1 := aq_ (cells_of hh HS.out HB1.out)
 clear hw1
 have k3 : ∀ W : World, (Instr.slice 135 (.slice (some ⟨w.heap.size, 0, none⟩) 4 cp) (some (.int .i64 0)) none none).run Tryz.prog W = .ok (.slice (some ⟨w.heap.size, 0, none⟩) 4 cp) W := by
  intro W
  rw [K3.out (some ⟨w.heap.size, 0, none⟩) cp W]
  simp [Addr.add]
 have k4 : ∀ W : World, (Instr.slice 135 (.slice (some ⟨w.heap.size, 0, none⟩) 4 cp) (some (.int .i64 1)) none none).run Tryz.prog W = .ok (.slice (some ⟨w.heap.size, 3, none⟩) 3 (cp - 1)) W := by
  intro W
  rw [K4.out (some ⟨w.heap.size, 0, none⟩) cp W]
  have h1 : ¬ cp = 1 := by omega
  simp [Addr.add, h1]
 have hc1 := run_copy_rows (P := Tryz.prog) w1 135 135 3 145 w.heap.size 0 4 cp ⟨h, 0, none⟩ 1 1 3 1 (sll s) Tryz.underlying135 infoL_size (by decide) rfl (fun j v hv => by rw [add0]; exact HH1.out j v (by simpa [lcl] using hv)) (fun j hj => by rw [blk_cell HN.out, Nat.zero_add, Array.getElem?_eq_getElem (by have : j < 3 := hj; omega)]; rfl) (fun j hj => blk_frozen HN.out _) (fun v hv => lcl_one [s] v (by simpa [lcl] using hv))
 have HC1 := aq_ hc1
 clear hc1
 go_upto_region 11 with (first
  | ((with_reducible refine gate_builtin (b := .copy) (xs := #[.tmp 43, .tmp 44]) rfl ?_); go_loud (refine copy_event (.tmp 43) (.tmp 44) 135 135 rfl rfl rfl rfl HC1.out ?_)))
 obtain ⟨q1, q2, q3⟩ := two_rows HN.out hcur s l hl
 have hgb : g ≠ w.heap.size := by omega
 have hc2 := run_copy_rows (P := Tryz.prog) (w1.setCells w.heap.size 0 (sll s)).drew 135 135 3 145 w.heap.size 3 3 (cp - 1) ⟨g, 0, none⟩ 3 3 3 3 (lcl l) Tryz.underlying135 infoL_size (by decide) (by rw [lcl_len, hl]) (fun j v hv => by rw [add0]; exact cells_set HG1.out hgb (sll s) j v hv) q1 q2 (lcl_one l)
 have HC2 := aq_ hc2
 have Q3 := aq_ q3
 have HB3 := aq_ (below_cells (below_drew (below_cells HB1.out (Nat.le_refl _) 0 (sll s))) (Nat.le_refl _) 3 (lcl l))
 clear hc2 q1 q2 q3
 have hw1 : IntKind.i64.wrap 1 = 1 := by decide
 clear k1 HL HS HB HB1 HH1 HR HC1 K3 K4
 refine start_ (n := 9) (S := fun w' => True) (ds := []) #[false, false, false, false, false, false, false, false, false] (by kernel_rfl) rfl rfl trivial (fun hHeld => ?_)
 refine pz_ 0 (some 46) (bt_ 9 1) ?_
 refine pz_ 1 (some 47) (bt_ 9 3) ?_
 refine pz_ 2 (some 48) (bt_ 9 7) ?_
 refine pz_ 3 (some 49) (bt_ 9 15) ?_
 refine pz_ 4 (some 50) (bt_ 9 31) ?_
 refine pz_ 5 (some 51) (bt_ 9 63) ?_
 refine pz_ 6 (some 52) (bt_ 9 127) ?_
 refine pz_ 7 (some 53) (bt_ 9 255) ?_
 refine one_ (i := 8) (N := some 54) (bt_ 9 511) rfl rfl (by kernel_rfl) (by decide) (fun K hK => ?_)
 refine copy_step (.tmp 50) (.tmp 53) 135 135 rfl (by rfl) rfl rfl HC2.out ?_
 refine hK.out _ _ trivial (fun hHeld => ?_)
 clear hK K
 refine norm_ (a' := ?_) ?_ ?_
 rotate_left
 ·show Act.put _ (some 54) _ = _
  simp only [pt_]
  rfl
 refine done_ (by kernel_rfl) ?_
 have hdone : True := trivial
 clear k2 k3 k4 hw1
 go_wp2
 go_ret
 exact ⟨_, _, rfl, Nat.le_refl _, hcp, Q3.out, HB3.out⟩
theorem rows_of1 {w : World} {h : Nat} {s : Slot} (hS : CellsL w h [s]) : kL.C w (some ⟨h, 0, none⟩) 1 [s] := by
 refine ⟨rfl, by decide, fun _ => ⟨⟨h, 0, none⟩, rfl, fun j p hp => ?_⟩⟩
 have hj : j = 0 := by
  have := (List.getElem?_eq_some_iff.1 hp).1
  simp at this
  exact this
 subst hj
 have e : p = s := by simpa using hp.symm
 subst e
 refine ⟨sll p, rfl, rfl, fun q u hu => ?_⟩
 rw [add0, Nat.zero_mul, Nat.zero_add]
 exact hS q u (by simpa [lcl] using hu)
theorem cells_of1 {w : World} {base : Nat} {ok : Nat → Prop} {v : Value} {s : Slot} (HO : kL.R 145 w base ok v [s]) : ∃ b c, v = .slice (some ⟨b, 0, none⟩) 1 c ∧ base ≤ b ∧ 1 ≤ c ∧ CellsL w b [s] := by
 have HO' := HO
 obtain ⟨hok, inner, ⟨hlen, hor⟩, hr⟩ := HO'
 rcases hor with ⟨hv, hn⟩ | ⟨g, cap, cur, hv, hb, hh, hnc, hcm, hcs, htake⟩
 ·simp at hn
 ·subst hv
  refine ⟨g, cap, rfl, hb, by simpa using hnc, fun j u hu => ?_⟩
  obtain ⟨c, hcl, hcM, hcc, _⟩ := Kd.R_elem HO ⟨none, none, 0⟩ 0 (by decide) (by simp)
  have hc : c = sll s := hcM
  subst hc
  have h := hcc j u (by simpa [lcl] using hu)
  simpa using h
set_option maxHeartbeats 2000000 in
theorem insert0_any (s : Slot) (h : Nat) (w : World) (hh : h < w.heap.size) (hS : CellsL w h [s]) :
  Calls Tryz.prog 112 #[.slice none 0 0, .int .i64 0, .slice (some ⟨h, 0, none⟩) 1 1] w fun e w' => ∃ b c, e = .returned (.slice (some ⟨b, 0, none⟩) 1 c) ∧ w.heap.size ≤ b ∧ 1 ≤ c ∧ CellsL w' b [s] ∧ Below w.heap.size w w' := by
 have HC := aq_ (rows_of1 hS)
 have HB := aq_ (Below.refl w.heap.size w)
 clear hS
 go_enter Tryz.func112, Tryz.ntmps112
 go_wp2_with (first
  | ((with_reducible refine gate_builtin (b := .append) (xs := #[.tmp 23, .tmp 24]) rfl ?_); at_builtin; go_loud (refine Kd.R_append_rows kL (w0 := w) w.heap.size rfl (.tmp 23) (.tmp 24) 135 145 (.agg #[.pointer none, .pointer none, .int .i64 0]) 24 rfl Tryz.underlying135 infoL rfl (by decide) (by omega) (.slice none 0 0) ([] : List Slot) [s] _ _ _ (fun _ => True) (fun _ => False) rfl rfl (Kd.R_nil _ _ _ _ _) HC.out (fun _ _ h => h) (fun _ h => h.elim) (fun _ _ => trivial) HB.out (Nat.le_refl _) (by decide) ?_); intro v1 w1 ho hb hg hat; have HO1 := aq_ ho; have HB1 := aq_ hb; clear ho hb hg hat))
 obtain ⟨b, c, h1, h2, h3, h4⟩ := cells_of1 HO1.out
 subst h1
 go_ret
 exact ⟨b, c, rfl, h2, h3, h4, HB1.out⟩
def fN (g i : Nat) (k : Int) : Slot := ⟨some ⟨g, i, none⟩, none, k⟩
def fU (g i : Nat) (k : Int) : Slot := ⟨none, some ⟨g, i, none⟩, k⟩
theorem cells_new (w : World) (l : List Slot) (t : TypeId) : CellsL (w.alloc (.cells (lcl l).toArray t)) w.heap.size l := fun j v hv => by
 rw [blk_cell (blk_new w _) j, List.getElem?_toArray]
 exact hv
set_option maxHeartbeats 2000000 in
theorem slots_6 (g : Nat) (w : World) (hg : g < w.heap.size) (hk : w.cell? ⟨g, 0, none⟩ = some (.int .i64 6)) :
  Calls Tryz.prog 109 #[.pointer (some ⟨g, 0, none⟩)] w fun e w' => ∃ b c, e = .returned (.tuple #[.slice (some ⟨b, 0, none⟩) 1 c, .bool false]) ∧ w.heap.size ≤ b ∧ 1 ≤ c ∧ CellsL w' b [fN g 6 1] ∧ Below w.heap.size w w' := by
 have HB := aq_ (Below.refl w.heap.size w)
 go_enter Tryz.func109, Tryz.ntmps109
 go_wp2
 go_ret2
 exact ⟨_, _, rfl, Nat.le_refl _, Nat.le_refl _, cells_new w [fN g 6 1] _, below_alloc HB.out _⟩
set_option maxHeartbeats 2000000 in
theorem slots_0 (g : Nat) (w : World) (hg : g < w.heap.size) (hk : w.cell? ⟨g, 0, none⟩ = some (.int .i64 0)) :
  Calls Tryz.prog 109 #[.pointer (some ⟨g, 0, none⟩)] w fun e w' => ∃ b c, e = .returned (.tuple #[.slice (some ⟨b, 0, none⟩) 2 c, .bool false]) ∧ w.heap.size ≤ b ∧ 2 ≤ c ∧ CellsL w' b [fN g 1 1, fU g 3 8] ∧ Below w.heap.size w w' := by
 have HB := aq_ (Below.refl w.heap.size w)
 go_enter Tryz.func109, Tryz.ntmps109
 go_upto_region 10 with (fail)
 go_region
 go_wp2
 go_ret2
 exact ⟨_, _, rfl, Nat.le_refl _, Nat.le_refl _, cells_new _ [fN g 1 1, fU g 3 8] _, below_alloc (below_drew HB.out) _⟩
set_option maxHeartbeats 2000000 in
theorem slots_1 (g : Nat) (w : World) (hg : g < w.heap.size) (hk : w.cell? ⟨g, 0, none⟩ = some (.int .i64 1)) :
  Calls Tryz.prog 109 #[.pointer (some ⟨g, 0, none⟩)] w fun e w' => ∃ b c, e = .returned (.tuple #[.slice (some ⟨b, 0, none⟩) 2 c, .bool false]) ∧ w.heap.size ≤ b ∧ 2 ≤ c ∧ CellsL w' b [fU g 2 8, fN g 4 4] ∧ Below w.heap.size w w' := by
 have HB := aq_ (Below.refl w.heap.size w)
 go_enter Tryz.func109, Tryz.ntmps109
 go_upto_region 11 with (fail)
 go_region
 go_wp2
 go_ret2
 exact ⟨_, _, rfl, Nat.le_refl _, Nat.le_refl _, cells_new _ [fU g 2 8, fN g 4 4] _, below_alloc (below_drew HB.out) _⟩
end Go.Proofs.YtdinphnljokigaaGreat.P
end
