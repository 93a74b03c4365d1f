/- What LawSymAgree rests on, part 22: several texts put together. -/
import Derived.Test.YtdinphnljokigaaGreatS21
import Derived.Test.YtdinphnljokigaaGreatS19
import Derived.Test.YtdinphnljokigaaGreatS20
import Derived.Test.YtdinphnljokigaaGreatS17
import Derived.Test.YtdinphnljokigaaGreatS3
set_option linter.unusedVariables false
set_option linter.unnecessarySimpa false
set_option linter.unusedSimpArgs false
set_option maxRecDepth 100000
section
namespace Go.Proofs.YtdinphnljokigaaGreat.P
open Go.RowKit Go.Proofs.YtdinphnljokigaaGreatW.PrintWords Go.Proofs.YtdinphnljokigaaGreatW.PrintLast
mutual
def reachT (x : S24) : List S24 := match x with
 | ⟨a, b, l⟩ => ⟨a, b, l⟩ :: (if a = 2 then reachL l else [])
def reachL (l : List S24) : List S24 := match l with
 | [] => []
 | x :: l => reachT x ++ reachL l
end
def addAll (out : List S24) (l : List S24) : List S24 := match l with
 | [] => out
 | x :: l => addAll (outN x out) l
mutual
def missT (parts : List S24) (x : S24) : List S24 := match x with
 | ⟨a, b, l⟩ => if a = 0 then [] else if inL parts ⟨a, b, l⟩ = true then [] else if a = 1 then [⟨a, b, l⟩] else missL parts l
def missL (parts : List S24) (l : List S24) : List S24 := match l with
 | [] => []
 | x :: l => missT parts x ++ missL parts l
end
theorem reachT_eq (x : S24) : reachT x = x :: (if x.f0 = 2 then reachL x.f2 else []) := by cases x; rw [reachT]
theorem missT_eq (parts : List S24) (x : S24) : missT parts x = if x.f0 = 0 then [] else if inL parts x = true then [] else if x.f0 = 1 then [x] else missL parts x.f2 := by cases x; rw [missT]
theorem inL_iff (l : List S24) (t : S24) : inL l t = true ↔ t ∈ l := by
 unfold inL
 rw [List.any_eq_true]
 constructor
 ·rintro ⟨x, hx, h⟩; rw [← (sameT_iff x t).1 h]; exact hx
 ·exact fun h => ⟨t, h, sameT_self t⟩
theorem outN_mem (t x : S24) (out : List S24) : x ∈ outN t out ↔ x ∈ out ∨ x = t := by
 unfold outN
 split
 ·rename_i h
  have := (inL_iff out t).1 h
  constructor
  ·exact Or.inl
  ·rintro (h | rfl)
   ·exact h
   ·exact this
 ·simp
theorem addAll_append : ∀ (a b out : List S24), addAll out (a ++ b) = addAll (addAll out a) b
 | [], b, out => by simp [addAll]
 | x :: a, b, out => by rw [List.cons_append, addAll, addAll, addAll_append a b]
theorem addAll_mem : ∀ (l out : List S24) (x : S24), x ∈ addAll out l ↔ x ∈ out ∨ x ∈ l
 | [], out, x => by simp [addAll]
 | y :: l, out, x => by
  rw [addAll, addAll_mem l, outN_mem, List.mem_cons]
  constructor
  ·rintro ((h | h) | h)
   ·exact Or.inl h
   ·exact Or.inr (Or.inl h)
   ·exact Or.inr (Or.inr h)
  ·rintro (h | h | h)
   ·exact Or.inl (Or.inl h)
   ·exact Or.inl (Or.inr h)
   ·exact Or.inr h
theorem reachL_append : ∀ a b : List S24, reachL (a ++ b) = reachL a ++ reachL b
 | [], b => by simp [reachL]
 | x :: a, b => by rw [List.cons_append, reachL, reachL, reachL_append a b, List.append_assoc]
theorem partsW_reach : ∀ (m : Nat) (todo out : List S24), lsize todo ≤ m → partsW todo out = addAll out (reachL todo) := by
 intro m
 induction m with
 | zero =>
  intro todo out h
  cases todo with
  | nil => rw [partsW_nil, reachL, addAll]
  | cons t rest => have := tsize_pos t; rw [lsize] at h; omega
 | succ m ih =>
  intro todo out h
  cases todo with
  | nil => rw [partsW_nil, reachL, addAll]
  | cons t rest =>
   have h1 := todoN_size t rest
   rw [partsW_cons, ih _ _ (by omega), reachL, reachT_eq, List.cons_append, addAll]
   congr 1
   unfold todoN
   by_cases h2 : t.f0 = 2
   ·rw [if_pos h2, if_pos h2, reachL_append]
   ·rw [if_neg h2, if_neg h2]; rfl
def partsOf (l : List S24) : List S24 := addAll [] (reachL l)
theorem partsW_eq (l : List S24) : partsW l [] = partsOf l := partsW_reach _ l [] (Nat.le_refl _)
theorem mem_parts (l : List S24) (x : S24) : x ∈ partsOf l ↔ x ∈ reachL l := by
 unfold partsOf
 rw [addAll_mem]
 simp
theorem mem_reachL : ∀ (l : List S24) (x : S24), x ∈ reachL l ↔ ∃ t ∈ l, x ∈ reachT t
 | [], x => by simp [reachL]
 | y :: l, x => by
  rw [reachL, List.mem_append, mem_reachL l]
  simp
theorem reach_self (x : S24) : x ∈ reachT x := by rw [reachT_eq]; simp
theorem lookT_miss : ∀ (x : S24) (parts out : List S24), lookT parts x out = addAll out (missT parts x) := tree_ind fun x ih parts out => by
 have hl : ∀ (l : List S24), (∀ y ∈ l, ∀ (parts out : List S24), lookT parts y out = addAll out (missT parts y)) → ∀ out, lookL parts l out = addAll out (missL parts l) := by
  intro l
  induction l with
  | nil => intro _ out; rw [lookL, missL, addAll]
  | cons y l ihl =>
   intro h out
   rw [lookL, missL, addAll_append, h y (by simp), ihl (fun z hz => h z (by simp [hz]))]
 rw [lookT_eq, missT_eq]
 split
 ·rw [addAll]
 ·split
  ·rw [addAll]
  ·split
   ·rw [addAll, addAll]; rfl
   ·exact hl x.f2 ih out
def makesB (l : List S24) (t : S24) : Bool := mayL l && (mayT t && decide (missT (partsOf l) t = []))
theorem addAll_nil_iff (l : List S24) : addAll [] l = [] ↔ l = [] := by
 cases l with
 | nil => simp [addAll]
 | cons x l =>
  constructor
  ·intro h
   have : x ∈ addAll [] (x :: l) := (addAll_mem _ _ _).2 (Or.inr (by simp))
   rw [h] at this; simp at this
  ·intro h; cases h
theorem lacks_f (l : List S24) (t : S24) (h : lsize l ≤ 1000000) (ht : tsize t ≤ 1000000) : know_Lacks.f l t.f0 t.f1 t.f2 = some (if mayL l = true ∧ mayT t = true then addAll [] (missT (partsOf l) t) else []) := by
 unfold know_Lacks.f
 rw [S24_eta, if_pos ⟨h, ht⟩, partsW_eq, lookT_miss]
theorem lsize_le (l : List S24) (n : Nat) (h : ∀ x ∈ l, tsize x ≤ n) : lsize l ≤ l.length * n := by
 induction l with
 | nil => simp [lsize]
 | cons x l ih =>
  have h1 := h x (by simp)
  have h2 := ih fun y hy => h y (by simp [hy])
  rw [lsize, List.length_cons, Nat.add_mul]; omega
end Go.Proofs.YtdinphnljokigaaGreat.P
end

section
namespace Go.Proofs.YtdinphnljokigaaGreat.P
open Go.RowKit Go.Lib Go.Proofs.YtdinphnljokigaaGreatW.PrintWords Go.Proofs.YtdinphnljokigaaGreatW.PrintLast Go.Proofs.YtdinphnljokigaaGreatW.PrintMore
theorem byte_no (ad : Addr) (n c : Nat) (w : World) : Sem.run Tryz.prog (binOp .eql 64 (.slice (some ad) n c) (.slice none 0 0)) w = .ok (.bool false) w := by
 kernel_rfl
theorem byte_yes (n c : Nat) (w : World) : Sem.run Tryz.prog (binOp .eql 64 (.slice none n c) (.slice none 0 0)) w = .ok (.bool true) w := by
 kernel_rfl
theorem byte_lit0 (W : World) : (Kd.int .u8).R 5 (W.alloc (.cells #[] 5)) W.heap.size (fun _ => True) (.slice (some ⟨W.heap.size, 0, none⟩) 0 0) ([] : List Int) :=
 ⟨fun k hk => trivial, [], ⟨by simp, .inr ⟨W.heap.size, 0, #[], rfl, Nat.le_refl _, blk_new W _, Nat.le_refl _, Nat.zero_le _, rfl, rfl⟩⟩, ⟨rfl, fun j p h => by simp at h⟩⟩
set_option maxHeartbeats 400000 in
theorem byte_clone (l : List Int) (A : Option Addr) (c : Nat) (w : World) (hr : (Kd.int .u8).C w A l.length l) (hl : l.length < 1000000) :
  Calls Tryz.prog 55 #[.slice A l.length c] w fun e w' => ∃ v : Value, e = .returned v ∧ (Kd.int .u8).R 5 w' w.heap.size (fun _ => True) v l ∧ Below w.heap.size w w' := by
 have HR := aq_ hr
 have HL := aq_ hl
 have HB := aq_ (Below.refl w.heap.size w)
 cases A with
 | none =>
  have hnil : l = [] := by
   rcases l with _ | ⟨x, l⟩
   ·rfl
   ·obtain ⟨ad, e, _⟩ := hr.2.2 (by simp)
    simp at e
  subst hnil
  have e1 := byte_yes 0 c
  clear hr hl
  go_enter Tryz.func55, Tryz.ntmps55
  go_wp2
  go_ret
  exact ⟨_, rfl, Kd.R_nil _ _ _ _ _, HB.out⟩
 | some ad =>
  have e1 := byte_no ad l.length c
  clear hr hl
  go_enter Tryz.func55, Tryz.ntmps55
  go_wp2_with (first | ((with_reducible refine gate_builtin (b := .append) (xs := #[.tmp 5, .tmp 6]) rfl ?_); (try (refine gate_guard (by rfl) ?_; dsimp only)); at_builtin; refine Kd.R_append_rows (Kd.int .u8) (w0 := w) w.heap.size rfl (.tmp 5) (.tmp 6) 64 5 (.int .u8 0) 1 rfl Tryz.underlying64 info5 rfl (by decide) (by omega) (.slice (some ⟨w.heap.size, 0, none⟩) 0 0) ([] : List Int) l _ _ _ (fun _ => True) (fun _ => False) rfl rfl ?aO ?aR (fun _ _ h => h) (fun _ h => h.elim) ?aF ?aB ?aS ?aL ?_; (case aR => exact Kd.C_alloc HR.out _); (case aB => exact below_alloc HB.out _); (case aF => exact fun _ _ => trivial); (case aO => exact byte_lit0 w); (case aS => exact below_size (below_alloc HB.out _)); (case aL => have := HL.out; simpa using (by omega : l.length * 1 ≤ 140737488355328)); intro v1 w1 ho hb hg hat; have HO1 := aq_ ho; have HB1 := aq_ hb; clear ho hb hg hat))
  go_ret
  exact ⟨_, rfl, HO1.out, HB1.out⟩
theorem done_no (ad : Addr) (n c : Nat) (w : World) : Sem.run Tryz.prog (binOp .eql 40 (.slice (some ad) n c) (.slice none 0 0)) w = .ok (.bool false) w := by
 kernel_rfl
theorem done_yes (n c : Nat) (w : World) : Sem.run Tryz.prog (binOp .eql 40 (.slice none n c) (.slice none 0 0)) w = .ok (.bool true) w := by
 kernel_rfl
theorem done_lit0 (W : World) : kD.R 48 (W.alloc (.cells #[] 48)) W.heap.size (fun _ => True) (.slice (some ⟨W.heap.size, 0, none⟩) 0 0) ([] : List Don) :=
 ⟨fun k hk => trivial, [], ⟨by simp, .inr ⟨W.heap.size, 0, #[], rfl, Nat.le_refl _, blk_new W _, Nat.le_refl _, Nat.zero_le _, rfl, rfl⟩⟩, ⟨rfl, fun j p h => by simp at h⟩⟩
set_option maxHeartbeats 400000 in
theorem done_clone (l : List Don) (A : Option Addr) (c : Nat) (w : World) (hr : kD.C w A l.length l) (hl : l.length < 1000000) :
  Calls Tryz.prog 54 #[.slice A l.length c] w fun e w' => ∃ v : Value, e = .returned v ∧ kD.R 48 w' w.heap.size (fun _ => True) v l ∧ Below w.heap.size w w' := by
 have HR := aq_ hr
 have HL := aq_ hl
 have HB := aq_ (Below.refl w.heap.size w)
 cases A with
 | none =>
  have hnil : l = [] := by
   rcases l with _ | ⟨x, l⟩
   ·rfl
   ·obtain ⟨ad, e, _⟩ := hr.2.2 (by simp)
    simp at e
  subst hnil
  have e1 := done_yes 0 c
  clear hr hl
  go_enter Tryz.func54, Tryz.ntmps54
  go_wp2
  go_ret
  exact ⟨_, rfl, Kd.R_nil _ _ _ _ _, HB.out⟩
 | some ad =>
  have e1 := done_no ad l.length c
  clear hr hl
  go_enter Tryz.func54, Tryz.ntmps54
  go_wp2_with (first | ((with_reducible refine gate_builtin (b := .append) (xs := #[.tmp 5, .tmp 6]) rfl ?_); (try (refine gate_guard (by rfl) ?_; dsimp only)); at_builtin; refine Kd.R_append_rows kD (w0 := w) w.heap.size rfl (.tmp 5) (.tmp 6) 40 48 (.agg #[.int .i64 0, .int .i64 0, .int .u64 0, .int .u64 0, .int .u64 0, .int .i64 0, .int .i64 0]) 56 rfl Tryz.underlying40 infoD rfl (by decide) (by omega) (.slice (some ⟨w.heap.size, 0, none⟩) 0 0) ([] : List Don) l _ _ _ (fun _ => True) (fun _ => False) rfl rfl ?aO ?aR (fun _ _ h => h) (fun _ h => h.elim) ?aF ?aB ?aS ?aL ?_; (case aR => exact Kd.C_alloc HR.out _); (case aB => exact below_alloc HB.out _); (case aF => exact fun _ _ => trivial); (case aO => exact done_lit0 w); (case aS => exact below_size (below_alloc HB.out _)); (case aL => have := HL.out; simpa using (by omega : l.length * 56 ≤ 140737488355328)); intro v1 w1 ho hb hg hat; have HO1 := aq_ ho; have HB1 := aq_ hb; clear ho hb hg hat))
  go_ret
  exact ⟨_, rfl, HO1.out, HB1.out⟩
theorem kU_heap : Kd.Heap kU := Kd.heap_iso _ (Kd.heap_pair (Kd.heap_int .i64) (Kd.heap_pair (Kd.heap_int .i64) (Kd.heap_slice 5 (Kd.heap_int .u8))))
theorem usr_no (ad : Addr) (n c : Nat) (w : World) : Sem.run Tryz.prog (binOp .eql 22 (.slice (some ad) n c) (.slice none 0 0)) w = .ok (.bool false) w := by
 kernel_rfl
theorem usr_yes (n c : Nat) (w : World) : Sem.run Tryz.prog (binOp .eql 22 (.slice none n c) (.slice none 0 0)) w = .ok (.bool true) w := by
 kernel_rfl
theorem usr_lit0 (W : World) (base : Nat) (ok : Nat → Prop) (hb : base ≤ W.heap.size) (hok : ∀ k, W.heap.size ≤ k → ok k) : Kd.N kU 67 (W.alloc (.cells #[] 67)) base ok (.slice (some ⟨W.heap.size, 0, none⟩) 0 0) ([] : List Usr) :=
 ⟨fun k hk => hok k (by simp [Value.ownBlock] at hk; omega), [], rfl, ⟨fun k hk => hk.symm, [], ⟨by simp, .inr ⟨W.heap.size, 0, #[], rfl, hb, blk_new W _, Nat.le_refl _, Nat.zero_le _, rfl, rfl⟩⟩, ⟨rfl, fun j p h => by simp at h⟩⟩, fun j x c h => by simp at h⟩
set_option maxHeartbeats 400000 in
theorem usr_clone (P : Nat → Prop) (A0 : Option Addr) (c0 : Nat) (l0 : List Usr) (w : World) (hs0 : Kd.V kU 67 w w.heap.size P (.slice A0 l0.length c0) l0) (hl : l0.length < 1000000) :
  Calls Tryz.prog 51 #[.slice A0 l0.length c0] w fun e w' => ∃ v0_ : Value, e = .returned v0_ ∧ Kd.N kU 67 w' w.heap.size (fun k_ => (P k_ ∨ w.heap.size ≤ k_)) v0_ l0 ∧ Below w.heap.size w w' := by
 have HL := aq_ hl
 have HB := aq_ (Below.refl w.heap.size w)
 obtain ⟨_, _, hF⟩ := Kd.V_at hs0
 have HF := aq_ (Kd.F_alloc (Kd.F_bound hF) (.cells #[] 67))
 cases A0 with
 | none =>
  have hnil : l0 = [] := by
   rcases l0 with _ | ⟨x, l⟩
   ·rfl
   ·obtain ⟨ad, e, _⟩ := (Kd.F_now hF).2.2 (by simp)
    simp at e
  subst hnil
  have e1 := usr_yes 0 c0
  clear hs0 hl hF HF
  go_enter Tryz.func51, Tryz.ntmps51
  go_wp2
  go_ret
  exact ⟨_, rfl, Kd.N_nil _ _ _ _ _, HB.out⟩
 | some ad =>
  have e1 := usr_no ad l0.length c0
  clear hs0 hl hF
  go_enter Tryz.func51, Tryz.ntmps51
  go_wp2_with (first | ((with_reducible refine gate_builtin (b := .append) (xs := #[.tmp 5, .tmp 6]) rfl ?_); (try (refine gate_guard (by rfl) ?_; dsimp only)); at_builtin; refine Kd.N_append_rows kU (w0 := w) w.heap.size rfl (.tmp 5) (.tmp 6) 22 67 (.agg #[.int .i64 0, .int .i64 0, .slice none 0 0]) 40 rfl Tryz.underlying22 infoU rfl (by decide) (by omega) (.slice (some ⟨w.heap.size, 0, none⟩) 0 0) ([] : List Usr) l0 (some ad) l0.length c0 (fun k_ => P k_ ∨ w.heap.size ≤ k_) (fun k_ => P k_ ∧ k_ < w.heap.size) rfl rfl ?aO ?aR ?aP ?aF ?aB ?aS ?aL ?_; (case aR => exact HF.out); (case aP => exact fun k hk => ⟨.inl hk.1, by have := hk.2; simp [Value.ownBlock]; omega⟩); (case aB => exact below_alloc HB.out _); (case aF => exact fun k hk => .inr (by simp at hk; omega)); (case aO => exact usr_lit0 w w.heap.size _ (Nat.le_refl _) (fun k hk => .inr hk)); (case aS => exact below_size (below_alloc HB.out _)); (case aL => have := HL.out; simpa using (by omega : l0.length * 40 ≤ 140737488355328)); intro v1 w1 ho hb hg hat; have HO1 := aq_ ho; have HB1 := aq_ hb; clear ho hb hg hat))
  go_ret
  exact ⟨_, rfl, by have := HO1.out; simpa using this, HB1.out⟩
theorem own_any (x : S24) (hx : tsize x ≤ 1000000) (P : Nat → Prop) (A : Option Addr) (c : Nat) (w : World) (hs : Kd.V k24 36 w w.heap.size P (.slice A x.f2.length c) x.f2) :
  Calls Tryz.prog 56 #[.agg #[.int .i64 x.f0, .int .i64 x.f1, .slice A x.f2.length c]] w fun e w' => ∃ v, e = .returned (.agg #[.int .i64 x.f0, .int .i64 x.f1, v]) ∧ Kd.N k24 36 w' w.heap.size (fun k => P k ∨ w.heap.size ≤ k) v x.f2 ∧ Below w.heap.size w w' := by
 obtain ⟨k, hk⟩ := (own_ev x hx).rounds
 exact term_Own.calls k x.f0 x.f1 P A c x.f2 x.f0 x.f1 x.f2 w hs hk
structure Mdl where
 U : List Usr
 idle : Int
 T : List Ses
 epoch : Int
 now : Int
 K : List S24
 D : List Don
def Told {α : Type} (d : Kd α) (w : World) (v : Value) (l : List α) : Prop := ∃ (A : Option Addr) (c : Nat), v = .slice A l.length c ∧ l.length ≤ c ∧ d.C w A l.length l
theorem told_V {α : Type} {d : Kd α} {w : World} {e B : Nat} {P : Nat → Prop} {v : Value} {l : List α} (h : Kd.V d e w B P v l) : Told d w v l := by
 obtain ⟨A, c, rfl, hc, hF⟩ := h
 exact ⟨A, c, rfl, hc, Kd.F_now hF⟩
theorem told_of {α : Type} {d : Kd α} (hd : Kd.Heap d) {w : World} (e B : Nat) {v : Value} {l : List α} (h : Told d w v l) : Kd.V d e w B (fun k => k < w.heap.size) v l := by
 obtain ⟨A, c, rfl, hc, hC⟩ := h
 exact ⟨A, c, rfl, hc, Kd.C_F hd hC⟩
theorem told_belowG {α : Type} {d : Kd α} {w w' : World} {v : Value} {l : List α} (h : Told d w v l) (hb : Below w.heap.size w w') : Told d w' v l := by
 obtain ⟨A, c, rfl, hc, hC⟩ := h
 exact ⟨A, c, rfl, hc, Kd.C_below hC hb⟩
theorem kS_heap : Kd.Heap kS := ⟨fun _ h => h⟩
theorem kD_heap : Kd.Heap kD := ⟨fun _ h => h⟩
def MdC (w : World) (M : Mdl) (vU vT vK vD : Value) : Prop := Told kU w vU M.U ∧ Told kS w vT M.T ∧ Told k24 w vK M.K ∧ Told kD w vD M.D
def mca (M : Mdl) (vU vT vK vD : Value) : Array Value := #[vU, .int .i64 M.idle, vT, .int .i64 M.epoch, .int .i64 M.now, vK, vD]
def smallM (M : Mdl) : Prop := (M.U.length < 1000000 ∧ M.T.length < 1000000 ∧ M.K.length < 1000000 ∧ M.D.length < 1000000) ∧ (∀ u ∈ M.U, u.key.length < 1000000) ∧ ∀ t ∈ M.K, tsize t ≤ 1000000
def OwnM (w : World) (base : Nat) (r : Nat → Prop) (M : Mdl) (vU vT vK vD : Value) : Prop := ∃ PU PT PK PD : Nat → Prop, Kd.V kU 67 w 0 PU vU M.U ∧ Kd.V kS 33 w 0 PT vT M.T ∧ Kd.N k24 36 w base PK vK M.K ∧ Kd.R kD 48 w base PD vD M.D ∧
 (∀ k, vK.ownBlock = some k → ¬ PU k ∧ ¬ PT k ∧ ¬ PD k) ∧ (∀ k, vD.ownBlock = some k → ¬ PU k ∧ ¬ PT k ∧ ¬ PK k) ∧ (∀ k, r k → k < base ∧ ¬ PU k ∧ ¬ PT k ∧ ¬ PK k ∧ ¬ PD k)
def MdO (w : World) (r : Nat → Prop) (M : Mdl) (vU vT vK vD : Value) : Prop := Kd.V kU 67 w 0 (fun k => ¬ r k) vU M.U ∧ Kd.V kS 33 w 0 (fun k => ¬ r k) vT M.T ∧ Kd.V k24 36 w 0 (fun k => ¬ r k) vK M.K ∧ Kd.V kD 48 w 0 (fun k => ¬ r k) vD M.D
theorem mdO_below {w w' : World} {r : Nat → Prop} {M : Mdl} {vU vT vK vD : Value} (h : MdO w r M vU vT vK vD) (hb : Below w.heap.size w w') : MdO w' r M vU vT vK vD := ⟨Kd.V_below h.1 hb, Kd.V_below h.2.1 hb, Kd.V_below h.2.2.1 hb, Kd.V_below h.2.2.2 hb⟩
theorem mdO_told {w : World} {r : Nat → Prop} {M : Mdl} {vU vT vK vD : Value} (h : MdO w r M vU vT vK vD) : MdC w M vU vT vK vD := ⟨told_V h.1, told_V h.2.1, told_V h.2.2.1, told_V h.2.2.2⟩
theorem mdO_of {w w' : World} {r : Nat → Prop} {M : Mdl} {vU vT vK vD : Value} (h : MdC w M vU vT vK vD) (hb : Below w.heap.size w w') (hr : ∀ k, r k → w.heap.size ≤ k) : MdO w' r M vU vT vK vD := ⟨Kd.V_mono (Kd.V_below (told_of kU_heap _ 0 h.1) hb) fun k hk h => by have := hr k h; omega, Kd.V_mono (Kd.V_below (told_of kS_heap _ 0 h.2.1) hb) fun k hk h => by have := hr k h; omega, Kd.V_mono (Kd.V_below (told_of k24_heap _ 0 h.2.2.1) hb) fun k hk h => by have := hr k h; omega, Kd.V_mono (Kd.V_below (told_of kD_heap _ 0 h.2.2.2) hb) fun k hk h => by have := hr k h; omega⟩
theorem ownM_told {w : World} {base : Nat} {r : Nat → Prop} {M : Mdl} {vU vT vK vD : Value} (h : OwnM w base r M vU vT vK vD) : MdC w M vU vT vK vD := by
 obtain ⟨PU, PT, PK, PD, h1, h2, h3, h4, _⟩ := h
 exact ⟨told_V h1, told_V h2, told_V (Kd.N_V (base' := 0) h3), by obtain ⟨A, c, e, hc, hC⟩ := Kd.R_reads h4; exact ⟨A, c, e, hc, hC⟩⟩
theorem kU_mkF (W : World) (ok : Nat → Prop) (x : Usr) {A2 : Option Addr} {c2 : Nat} (l2 : x.key.length ≤ c2) (g2 : Kd.F (Kd.int .u8) W ok A2 x.key.length x.key) : Kd.FK kU W ok x [.int .i64 x.no, .int .i64 x.role, .slice A2 x.key.length c2] := fun W2 hW => kU_mk W2 x l2 (g2 W2 hW)
theorem V_base {α : Type} {d : Kd α} {e b b' : Nat} {W : World} {ok : Nat → Prop} {v : Value} {l : List α} (h : Kd.V d e W b ok v l) : Kd.V d e W b' ok v l := h
theorem cells7 {w : World} {g : Nat} {t : TypeId} {a0 a1 a2 a3 a4 a5 a6 : Value} (h : w.heap[g]? = some (.cells #[a0, a1, a2, a3, a4, a5, a6] t (0, 0))) : (w.cell? ⟨g, 0, none⟩ = some a0 ∧ w.cell? ⟨g, 1, none⟩ = some a1 ∧ w.cell? ⟨g, 2, none⟩ = some a2 ∧ w.cell? ⟨g, 3, none⟩ = some a3 ∧ w.cell? ⟨g, 4, none⟩ = some a4 ∧ w.cell? ⟨g, 5, none⟩ = some a5 ∧ w.cell? ⟨g, 6, none⟩ = some a6) ∧ (w.frozen? ⟨g, 0, none⟩ = false ∧ w.frozen? ⟨g, 1, none⟩ = false ∧ w.frozen? ⟨g, 2, none⟩ = false ∧ w.frozen? ⟨g, 3, none⟩ = false ∧ w.frozen? ⟨g, 4, none⟩ = false ∧ w.frozen? ⟨g, 5, none⟩ = false ∧ w.frozen? ⟨g, 6, none⟩ = false) :=
 ⟨⟨blk_cell h 0, blk_cell h 1, blk_cell h 2, blk_cell h 3, blk_cell h 4, blk_cell h 5, blk_cell h 6⟩, blk_frozen h 0, blk_frozen h 1, blk_frozen h 2, blk_frozen h 3, blk_frozen h 4, blk_frozen h 5, blk_frozen h 6⟩
def keyQ (u e d c : Int) : S24 := ⟨3, 0, [⟨1, u, []⟩, ⟨2, 0, [word e, ⟨2, 0, [word d, ⟨2, 0, [word c, word u]⟩]⟩]⟩]⟩
def openQ (k : S24) (s : Int) : S24 := ⟨3, 0, [k, ⟨2, 0, [word 2, word s]⟩]⟩
def cmdQ (k : S24) (s n c g : Int) : S24 := ⟨3, 0, [k, ⟨2, 0, [word 4, ⟨2, 0, [word s, ⟨2, 0, [word n, ⟨2, 0, [word c, word g]⟩]⟩]⟩]⟩]⟩
theorem keyT_at {x : Ses} (hw : wfS x) (h : hasS x = true) : keyT x = keyQ x.user x.epoch x.draw x.cn := by
 obtain ⟨⟨h1, h2⟩, ⟨h3, h4⟩, h5, h6⟩ := has_parts h
 obtain ⟨h7, h8⟩ := hw
 unfold keyT
 rw [if_pos h]
 have ho : okRow [x.epoch, x.draw, x.cn, x.user] = true := by
  simp [okRow]
  omega
 unfold tagT
 rw [rowR, if_pos ho]
 rfl
theorem isP_parts {x : Ses} {f : Frm} (h : isP x f = true) : hasS x = true ∧ plainF f = true ∧ f.tag = zkey ∧ f.sess = x.draw ∧ f.count < 4611686018427387904 ∧ (f.kind = 2 ∨ f.kind = 4) := by
 simp only [isP, okP, bareB, Bool.and_eq_true, Bool.or_eq_true, decide_eq_true_eq, beq_iff_eq] at h
 obtain ⟨⟨h1, ⟨h2, h3⟩, h4, h5⟩, h6⟩ := h
 exact ⟨h1, h2, h3, h4, h5, h6⟩
theorem plain_q {f : Frm} (h : plainF f = true) : (0 ≤ f.cmd ∧ f.cmd ≤ 255) ∧ (0 ≤ f.arg ∧ f.arg ≤ 65535) ∧ bareF f = f := by
 simp only [plainF, inB, Bool.and_eq_true, decide_eq_true_eq] at h
 obtain ⟨_, _, _, h1, h2, h3⟩ := h
 exact ⟨h1, h2, h3⟩
theorem proofT_2 {x : Ses} {f : Frm} (hw : wfS x) (h : isP x f = true) (hk : f.kind = 2) : proofT x f = openQ (keyQ x.user x.epoch x.draw x.cn) x.draw := by
 obtain ⟨h1, h2, h3, h4, h5, h6⟩ := isP_parts h
 unfold proofT
 rw [if_pos h, if_pos hk, keyT_at hw h1, hk, h4]
 have ho : okRow [2, x.draw] = true := by
  have := hw.1
  simp [okRow]
  omega
 unfold tagT
 rw [rowR, if_pos ho]
 rfl
theorem proofT_4 {x : Ses} {f : Frm} (hw : wfS x) (hf : wfF f) (h : isP x f = true) (hk : f.kind = 4) : proofT x f = cmdQ (keyQ x.user x.epoch x.draw x.cn) x.draw f.count f.cmd f.arg := by
 obtain ⟨h1, h2, h3, h4, h5, h6⟩ := isP_parts h
 obtain ⟨p1, p2, p3⟩ := plain_q h2
 unfold proofT
 rw [if_pos h, if_neg (by omega), keyT_at hw h1, hk, h4]
 have ho : okRow [4, x.draw, f.count, f.cmd, f.arg] = true := by
  have := hw.1
  have := hf.2.2.1
  simp [okRow]
  omega
 unfold tagT
 rw [rowR, if_pos ho]
 rfl
theorem frame_2 {f : Frm} (h : plainF f = true) (ht : f.tag = zkey) (hk : f.kind = 2) : f = { zfrm with kind := 2, sess := f.sess } := by
 have h3 := (plain_q h).2.2
 unfold bareF at h3
 rw [if_neg (by omega), if_neg (by omega), if_pos (.inl hk), ht, hk] at h3
 exact h3.symm
theorem frame_4 {f : Frm} (h : plainF f = true) (ht : f.tag = zkey) (hk : f.kind = 4) : f = { zfrm with kind := 4, sess := f.sess, count := f.count, cmd := f.cmd, arg := f.arg } := by
 have h3 := (plain_q h).2.2
 unfold bareF at h3
 rw [if_neg (by omega), if_neg (by omega), if_neg (by omega), if_pos (.inl hk), ht, hk] at h3
 exact h3.symm
theorem proof_small {x : Ses} {f : Frm} (hw : wfS x) (hf : wfF f) (h : isP x f = true) : mayT (proofT x f) = true ∧ tsize (proofT x f) ≤ 19 ∧ (proofT x f).f0 = 3 := by
 obtain ⟨h1, h2, h3, h4, h5, h6⟩ := isP_parts h
 obtain ⟨p1, p2, p3⟩ := plain_q h2
 obtain ⟨⟨k1, k2⟩, ⟨k3, k4⟩, k5, k6⟩ := has_parts h1
 obtain ⟨k7, k8⟩ := hw
 have hc := hf.2.2.1
 rcases h6 with hk | hk
 ·rw [proofT_2 ⟨k7, k8⟩ h hk]
  refine ⟨?_, by simp [openQ, cmdQ, keyQ, word, tsize, lsize], rfl⟩
  simp [mayT, openQ, keyQ, okT, okL, nodeB, word, tsize, lsize, tdep, ldep]
  omega
 ·rw [proofT_4 ⟨k7, k8⟩ hf h hk]
  refine ⟨?_, by simp [openQ, cmdQ, keyQ, word, tsize, lsize], rfl⟩
  simp [mayT, cmdQ, keyQ, okT, okL, nodeB, word, tsize, lsize, tdep, ldep]
  omega
theorem proof_same {x y : Ses} {f g : Frm} (hw : wfS x) (hf : wfF f) (hy : wfS y) (hg : wfF g) (h : isP x f = true) (hh : isP y g = true) : sameT (proofT x f) (proofT y g) = ((x.user == y.user && (x.epoch == y.epoch && (x.draw == y.draw && x.cn == y.cn))) && decide (f = g)) := by
 obtain ⟨a1, a2, a3, a4, a5, a6⟩ := isP_parts h
 obtain ⟨b1, b2, b3, b4, b5, b6⟩ := isP_parts hh
 rw [Bool.eq_iff_iff, sameT_iff]
 simp only [Bool.and_eq_true, beq_iff_eq, decide_eq_true_eq]
 rcases a6 with hk | hk <;> rcases b6 with hl | hl
 ·rw [proofT_2 hw h hk, proofT_2 hy hh hl, frame_2 a2 a3 hk, frame_2 b2 b3 hl, a4, b4]
  simp only [openQ, keyQ, word, S24.mk.injEq, List.cons.injEq, Frm.mk.injEq]
  constructor
  ·rintro ⟨_, _, ⟨_, _, ⟨_, e1, _⟩, ⟨_, _, ⟨_, e2, _⟩, ⟨_, _, ⟨_, e3, _⟩, ⟨_, _, ⟨_, e4, _⟩, _⟩, _⟩, _⟩, _⟩, _⟩
   simp [e1, e2, e3, e4]
  ·rintro ⟨⟨e1, e2, e3, e4⟩, _⟩
   simp [e1, e2, e3, e4]
 ·rw [proofT_2 hw h hk, proofT_4 hy hg hh hl]
  constructor
  ·intro e
   simp [openQ, cmdQ, word] at e
  ·rintro ⟨_, rfl⟩
   omega
 ·rw [proofT_4 hw hf h hk, proofT_2 hy hh hl]
  constructor
  ·intro e
   simp [openQ, cmdQ, word] at e
  ·rintro ⟨_, rfl⟩
   omega
 ·rw [proofT_4 hw hf h hk, proofT_4 hy hg hh hl]
  rw [Frm.eq_iff]
  have q1 := (Frm.eq_iff _ _).1 (frame_4 a2 a3 hk)
  have q2 := (Frm.eq_iff _ _).1 (frame_4 b2 b3 hl)
  simp only [cmdQ, keyQ, word, S24.mk.injEq, List.cons.injEq]
  obtain ⟨q10, q11, q12, q13, q14, q15, q16, q17, q18⟩ := q1
  obtain ⟨q20, q21, q22, q23, q24, q25, q26, q27, q28⟩ := q2
  rw [a4, b4, q11, q21, q13, q23, q14, q24, a3, b3, hk, hl]
  constructor
  ·intro e
   simp at e
   simp [e]
  ·intro e
   simp at e
   simp [e]
theorem mayT_any (p : S24) (A1 : Option Addr) (c1 : Nat) (w : World) (hs : tsize p ≤ 1000000) (h1 : Kd.C k24 w A1 p.f2.length p.f2) (h1' : p.f2.length ≤ c1) :
  Calls Tryz.prog 26 #[.agg #[.int .i64 p.f0, .int .i64 p.f1, .slice A1 p.f2.length c1]] w fun e w' => e = .returned (.bool (mayT p)) ∧ Below w.heap.size w w' := term_May.calls p.f0 p.f1 A1 c1 p.f2 _ w h1 h1' (may_f p hs)
end Go.Proofs.YtdinphnljokigaaGreat.P
end
