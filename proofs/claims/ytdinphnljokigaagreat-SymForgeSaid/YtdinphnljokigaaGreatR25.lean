/- What LawSymForge rests on, part 25: several texts put together. -/
import Derived.Test.YtdinphnljokigaaGreatR24
import Derived.Test.YtdinphnljokigaaGreatR22
import Derived.Test.YtdinphnljokigaaGreatR23
import Derived.Test.YtdinphnljokigaaGreatR19
import Derived.Test.YtdinphnljokigaaGreatR2
set_option linter.unusedVariables false
set_option linter.unnecessarySimpa false
set_option linter.unusedSimpArgs false
set_option maxRecDepth 100000
section
namespace Go.Proofs.YtdinphnljokigaaGreat.P
open Go.RowKit Go.Proofs.YtdinphnljokigaaGreatW.PrintWords Go.Proofs.YtdinphnljokigaaGreatW.PrintLast
mutual
def reachT (x : S24) : List S24 := match x with
 | ⟨a, b, l⟩ => ⟨a, b, l⟩ :: (if a = 2 then reachL l else [])
def reachL (l : List S24) : List S24 := match l with
 | [] => []
 | x :: l => reachT x ++ reachL l
end
def addAll (out : List S24) (l : List S24) : List S24 := match l with
 | [] => out
 | x :: l => addAll (outN x out) l
mutual
def missT (parts : List S24) (x : S24) : List S24 := match x with
 | ⟨a, b, l⟩ => if a = 0 then [] else if inL parts ⟨a, b, l⟩ = true then [] else if a = 1 then [⟨a, b, l⟩] else missL parts l
def missL (parts : List S24) (l : List S24) : List S24 := match l with
 | [] => []
 | x :: l => missT parts x ++ missL parts l
end
theorem reachT_eq (x : S24) : reachT x = x :: (if x.f0 = 2 then reachL x.f2 else []) := by cases x; rw [reachT]
theorem missT_eq (parts : List S24) (x : S24) : missT parts x = if x.f0 = 0 then [] else if inL parts x = true then [] else if x.f0 = 1 then [x] else missL parts x.f2 := by cases x; rw [missT]
theorem inL_iff (l : List S24) (t : S24) : inL l t = true ↔ t ∈ l := by
 unfold inL
 rw [List.any_eq_true]
 constructor
 ·rintro ⟨x, hx, h⟩; rw [← (sameT_iff x t).1 h]; exact hx
 ·exact fun h => ⟨t, h, sameT_self t⟩
theorem outN_mem (t x : S24) (out : List S24) : x ∈ outN t out ↔ x ∈ out ∨ x = t := by
 unfold outN
 split
 ·rename_i h
  have := (inL_iff out t).1 h
  constructor
  ·exact Or.inl
  ·rintro (h | rfl)
   ·exact h
   ·exact this
 ·simp
theorem addAll_append : ∀ (a b out : List S24), addAll out (a ++ b) = addAll (addAll out a) b
 | [], b, out => by simp [addAll]
 | x :: a, b, out => by rw [List.cons_append, addAll, addAll, addAll_append a b]
theorem addAll_mem : ∀ (l out : List S24) (x : S24), x ∈ addAll out l ↔ x ∈ out ∨ x ∈ l
 | [], out, x => by simp [addAll]
 | y :: l, out, x => by
  rw [addAll, addAll_mem l, outN_mem, List.mem_cons]
  constructor
  ·rintro ((h | h) | h)
   ·exact Or.inl h
   ·exact Or.inr (Or.inl h)
   ·exact Or.inr (Or.inr h)
  ·rintro (h | h | h)
   ·exact Or.inl (Or.inl h)
   ·exact Or.inl (Or.inr h)
   ·exact Or.inr h
theorem reachL_append : ∀ a b : List S24, reachL (a ++ b) = reachL a ++ reachL b
 | [], b => by simp [reachL]
 | x :: a, b => by rw [List.cons_append, reachL, reachL, reachL_append a b, List.append_assoc]
theorem partsW_reach : ∀ (m : Nat) (todo out : List S24), lsize todo ≤ m → partsW todo out = addAll out (reachL todo) := by
 intro m
 induction m with
 | zero =>
  intro todo out h
  cases todo with
  | nil => rw [partsW_nil, reachL, addAll]
  | cons t rest => have := tsize_pos t; rw [lsize] at h; omega
 | succ m ih =>
  intro todo out h
  cases todo with
  | nil => rw [partsW_nil, reachL, addAll]
  | cons t rest =>
   have h1 := todoN_size t rest
   rw [partsW_cons, ih _ _ (by omega), reachL, reachT_eq, List.cons_append, addAll]
   congr 1
   unfold todoN
   by_cases h2 : t.f0 = 2
   ·rw [if_pos h2, if_pos h2, reachL_append]
   ·rw [if_neg h2, if_neg h2]; rfl
def partsOf (l : List S24) : List S24 := addAll [] (reachL l)
theorem partsW_eq (l : List S24) : partsW l [] = partsOf l := partsW_reach _ l [] (Nat.le_refl _)
theorem mem_parts (l : List S24) (x : S24) : x ∈ partsOf l ↔ x ∈ reachL l := by
 unfold partsOf
 rw [addAll_mem]
 simp
theorem mem_reachL : ∀ (l : List S24) (x : S24), x ∈ reachL l ↔ ∃ t ∈ l, x ∈ reachT t
 | [], x => by simp [reachL]
 | y :: l, x => by
  rw [reachL, List.mem_append, mem_reachL l]
  simp
theorem reach_self (x : S24) : x ∈ reachT x := by rw [reachT_eq]; simp
theorem lookT_miss : ∀ (x : S24) (parts out : List S24), lookT parts x out = addAll out (missT parts x) := tree_ind fun x ih parts out => by
 have hl : ∀ (l : List S24), (∀ y ∈ l, ∀ (parts out : List S24), lookT parts y out = addAll out (missT parts y)) → ∀ out, lookL parts l out = addAll out (missL parts l) := by
  intro l
  induction l with
  | nil => intro _ out; rw [lookL, missL, addAll]
  | cons y l ihl =>
   intro h out
   rw [lookL, missL, addAll_append, h y (by simp), ihl (fun z hz => h z (by simp [hz]))]
 rw [lookT_eq, missT_eq]
 split
 ·rw [addAll]
 ·split
  ·rw [addAll]
  ·split
   ·rw [addAll, addAll]; rfl
   ·exact hl x.f2 ih out
def makesB (l : List S24) (t : S24) : Bool := mayL l && (mayT t && decide (missT (partsOf l) t = []))
theorem addAll_nil_iff (l : List S24) : addAll [] l = [] ↔ l = [] := by
 cases l with
 | nil => simp [addAll]
 | cons x l =>
  constructor
  ·intro h
   have : x ∈ addAll [] (x :: l) := (addAll_mem _ _ _).2 (Or.inr (by simp))
   rw [h] at this; simp at this
  ·intro h; cases h
theorem lacks_f (l : List S24) (t : S24) (h : lsize l ≤ 1000000) (ht : tsize t ≤ 1000000) : know_Lacks.f l t.f0 t.f1 t.f2 = some (if mayL l = true ∧ mayT t = true then addAll [] (missT (partsOf l) t) else []) := by
 unfold know_Lacks.f
 rw [S24_eta, if_pos ⟨h, ht⟩, partsW_eq, lookT_miss]
theorem lsize_le (l : List S24) (n : Nat) (h : ∀ x ∈ l, tsize x ≤ n) : lsize l ≤ l.length * n := by
 induction l with
 | nil => simp [lsize]
 | cons x l ih =>
  have h1 := h x (by simp)
  have h2 := ih fun y hy => h y (by simp [hy])
  rw [lsize, List.length_cons, Nat.add_mul]; omega
end Go.Proofs.YtdinphnljokigaaGreat.P
end

section
namespace Go.Proofs.YtdinphnljokigaaGreat.P
open Go.RowKit Go.Lib Go.Proofs.YtdinphnljokigaaGreatW.PrintWords Go.Proofs.YtdinphnljokigaaGreatW.PrintLast Go.Proofs.YtdinphnljokigaaGreatW.PrintMore
theorem byte_no (ad : Addr) (n c : Nat) (w : World) : Sem.run Tryz.prog (binOp .eql 64 (.slice (some ad) n c) (.slice none 0 0)) w = .ok (.bool false) w := by
 kernel_rfl
theorem byte_yes (n c : Nat) (w : World) : Sem.run Tryz.prog (binOp .eql 64 (.slice none n c) (.slice none 0 0)) w = .ok (.bool true) w := by
 kernel_rfl
theorem byte_lit0 (W : World) : (Kd.int .u8).R 5 (W.alloc (.cells #[] 5)) W.heap.size (fun _ => True) (.slice (some ⟨W.heap.size, 0, none⟩) 0 0) ([] : List Int) :=
 ⟨fun k hk => trivial, [], ⟨by simp, .inr ⟨W.heap.size, 0, #[], rfl, Nat.le_refl _, blk_new W _, Nat.le_refl _, Nat.zero_le _, rfl, rfl⟩⟩, ⟨rfl, fun j p h => by simp at h⟩⟩
set_option maxHeartbeats 400000 in
theorem byte_clone (l : List Int) (A : Option Addr) (c : Nat) (w : World) (hr : (Kd.int .u8).C w A l.length l) (hl : l.length < 1000000) :
  Calls Tryz.prog 55 #[.slice A l.length c] w fun e w' => ∃ v : Value, e = .returned v ∧ (Kd.int .u8).R 5 w' w.heap.size (fun _ => True) v l ∧ Below w.heap.size w w' := by
 have HR := aq_ hr
 have HL := aq_ hl
 have HB := aq_ (Below.refl w.heap.size w)
 cases A with
 | none =>
  have hnil : l = [] := by
   rcases l with _ | ⟨x, l⟩
   ·rfl
   ·obtain ⟨ad, e, _⟩ := hr.2.2 (by simp)
    simp at e
  subst hnil
  have e1 := byte_yes 0 c
  clear hr hl
  go_enter Tryz.func55, Tryz.ntmps55
  go_wp2
  go_ret
  exact ⟨_, rfl, Kd.R_nil _ _ _ _ _, HB.out⟩
 | some ad =>
  have e1 := byte_no ad l.length c
  clear hr hl
  go_enter Tryz.func55, Tryz.ntmps55
  go_wp2_with (first | ((with_reducible refine gate_builtin (b := .append) (xs := #[.tmp 5, .tmp 6]) rfl ?_); (try (refine gate_guard (by rfl) ?_; dsimp only)); at_builtin; refine Kd.R_append_rows (Kd.int .u8) (w0 := w) w.heap.size rfl (.tmp 5) (.tmp 6) 64 5 (.int .u8 0) 1 rfl Tryz.underlying64 info5 rfl (by decide) (by omega) (.slice (some ⟨w.heap.size, 0, none⟩) 0 0) ([] : List Int) l _ _ _ (fun _ => True) (fun _ => False) rfl rfl ?aO ?aR (fun _ _ h => h) (fun _ h => h.elim) ?aF ?aB ?aS ?aL ?_; (case aR => exact Kd.C_alloc HR.out _); (case aB => exact below_alloc HB.out _); (case aF => exact fun _ _ => trivial); (case aO => exact byte_lit0 w); (case aS => exact below_size (below_alloc HB.out _)); (case aL => have := HL.out; simpa using (by omega : l.length * 1 ≤ 140737488355328)); intro v1 w1 ho hb hg hat; have HO1 := aq_ ho; have HB1 := aq_ hb; clear ho hb hg hat))
  go_ret
  exact ⟨_, rfl, HO1.out, HB1.out⟩
theorem done_no (ad : Addr) (n c : Nat) (w : World) : Sem.run Tryz.prog (binOp .eql 40 (.slice (some ad) n c) (.slice none 0 0)) w = .ok (.bool false) w := by
 kernel_rfl
theorem done_yes (n c : Nat) (w : World) : Sem.run Tryz.prog (binOp .eql 40 (.slice none n c) (.slice none 0 0)) w = .ok (.bool true) w := by
 kernel_rfl
theorem done_lit0 (W : World) : kD.R 48 (W.alloc (.cells #[] 48)) W.heap.size (fun _ => True) (.slice (some ⟨W.heap.size, 0, none⟩) 0 0) ([] : List Don) :=
 ⟨fun k hk => trivial, [], ⟨by simp, .inr ⟨W.heap.size, 0, #[], rfl, Nat.le_refl _, blk_new W _, Nat.le_refl _, Nat.zero_le _, rfl, rfl⟩⟩, ⟨rfl, fun j p h => by simp at h⟩⟩
set_option maxHeartbeats 400000 in
theorem done_clone (l : List Don) (A : Option Addr) (c : Nat) (w : World) (hr : kD.C w A l.length l) (hl : l.length < 1000000) :
  Calls Tryz.prog 54 #[.slice A l.length c] w fun e w' => ∃ v : Value, e = .returned v ∧ kD.R 48 w' w.heap.size (fun _ => True) v l ∧ Below w.heap.size w w' := by
 have HR := aq_ hr
 have HL := aq_ hl
 have HB := aq_ (Below.refl w.heap.size w)
 cases A with
 | none =>
  have hnil : l = [] := by
   rcases l with _ | ⟨x, l⟩
   ·rfl
   ·obtain ⟨ad, e, _⟩ := hr.2.2 (by simp)
    simp at e
  subst hnil
  have e1 := done_yes 0 c
  clear hr hl
  go_enter Tryz.func54, Tryz.ntmps54
  go_wp2
  go_ret
  exact ⟨_, rfl, Kd.R_nil _ _ _ _ _, HB.out⟩
 | some ad =>
  have e1 := done_no ad l.length c
  clear hr hl
  go_enter Tryz.func54, Tryz.ntmps54
  go_wp2_with (first | ((with_reducible refine gate_builtin (b := .append) (xs := #[.tmp 5, .tmp 6]) rfl ?_); (try (refine gate_guard (by rfl) ?_; dsimp only)); at_builtin; refine Kd.R_append_rows kD (w0 := w) w.heap.size rfl (.tmp 5) (.tmp 6) 40 48 (.agg #[.int .i64 0, .int .i64 0, .int .u64 0, .int .u64 0, .int .u64 0, .int .i64 0, .int .i64 0]) 56 rfl Tryz.underlying40 infoD rfl (by decide) (by omega) (.slice (some ⟨w.heap.size, 0, none⟩) 0 0) ([] : List Don) l _ _ _ (fun _ => True) (fun _ => False) rfl rfl ?aO ?aR (fun _ _ h => h) (fun _ h => h.elim) ?aF ?aB ?aS ?aL ?_; (case aR => exact Kd.C_alloc HR.out _); (case aB => exact below_alloc HB.out _); (case aF => exact fun _ _ => trivial); (case aO => exact done_lit0 w); (case aS => exact below_size (below_alloc HB.out _)); (case aL => have := HL.out; simpa using (by omega : l.length * 56 ≤ 140737488355328)); intro v1 w1 ho hb hg hat; have HO1 := aq_ ho; have HB1 := aq_ hb; clear ho hb hg hat))
  go_ret
  exact ⟨_, rfl, HO1.out, HB1.out⟩
theorem kU_heap : Kd.Heap kU := Kd.heap_iso _ (Kd.heap_pair (Kd.heap_int .i64) (Kd.heap_pair (Kd.heap_int .i64) (Kd.heap_slice 5 (Kd.heap_int .u8))))
theorem usr_no (ad : Addr) (n c : Nat) (w : World) : Sem.run Tryz.prog (binOp .eql 22 (.slice (some ad) n c) (.slice none 0 0)) w = .ok (.bool false) w := by
 kernel_rfl
theorem usr_yes (n c : Nat) (w : World) : Sem.run Tryz.prog (binOp .eql 22 (.slice none n c) (.slice none 0 0)) w = .ok (.bool true) w := by
 kernel_rfl
theorem usr_lit0 (W : World) (base : Nat) (ok : Nat → Prop) (hb : base ≤ W.heap.size) (hok : ∀ k, W.heap.size ≤ k → ok k) : Kd.N kU 67 (W.alloc (.cells #[] 67)) base ok (.slice (some ⟨W.heap.size, 0, none⟩) 0 0) ([] : List Usr) :=
 ⟨fun k hk => hok k (by simp [Value.ownBlock] at hk; omega), [], rfl, ⟨fun k hk => hk.symm, [], ⟨by simp, .inr ⟨W.heap.size, 0, #[], rfl, hb, blk_new W _, Nat.le_refl _, Nat.zero_le _, rfl, rfl⟩⟩, ⟨rfl, fun j p h => by simp at h⟩⟩, fun j x c h => by simp at h⟩
set_option maxHeartbeats 400000 in
theorem usr_clone (P : Nat → Prop) (A0 : Option Addr) (c0 : Nat) (l0 : List Usr) (w : World) (hs0 : Kd.V kU 67 w w.heap.size P (.slice A0 l0.length c0) l0) (hl : l0.length < 1000000) :
  Calls Tryz.prog 51 #[.slice A0 l0.length c0] w fun e w' => ∃ v0_ : Value, e = .returned v0_ ∧ Kd.N kU 67 w' w.heap.size (fun k_ => (P k_ ∨ w.heap.size ≤ k_)) v0_ l0 ∧ Below w.heap.size w w' := by
 have HL := aq_ hl
 have HB := aq_ (Below.refl w.heap.size w)
 obtain ⟨_, _, hF⟩ := Kd.V_at hs0
 have HF := aq_ (Kd.F_alloc (Kd.F_bound hF) (.cells #[] 67))
 cases A0 with
 | none =>
  have hnil : l0 = [] := by
   rcases l0 with _ | ⟨x, l⟩
   ·rfl
   ·obtain ⟨ad, e, _⟩ := (Kd.F_now hF).2.2 (by simp)
    simp at e
  subst hnil
  have e1 := usr_yes 0 c0
  clear hs0 hl hF HF
  go_enter Tryz.func51, Tryz.ntmps51
  go_wp2
  go_ret
  exact ⟨_, rfl, Kd.N_nil _ _ _ _ _, HB.out⟩
 | some ad =>
  have e1 := usr_no ad l0.length c0
  clear hs0 hl hF
  go_enter Tryz.func51, Tryz.ntmps51
  go_wp2_with (first | ((with_reducible refine gate_builtin (b := .append) (xs := #[.tmp 5, .tmp 6]) rfl ?_); (try (refine gate_guard (by rfl) ?_; dsimp only)); at_builtin; refine Kd.N_append_rows kU (w0 := w) w.heap.size rfl (.tmp 5) (.tmp 6) 22 67 (.agg #[.int .i64 0, .int .i64 0, .slice none 0 0]) 40 rfl Tryz.underlying22 infoU rfl (by decide) (by omega) (.slice (some ⟨w.heap.size, 0, none⟩) 0 0) ([] : List Usr) l0 (some ad) l0.length c0 (fun k_ => P k_ ∨ w.heap.size ≤ k_) (fun k_ => P k_ ∧ k_ < w.heap.size) rfl rfl ?aO ?aR ?aP ?aF ?aB ?aS ?aL ?_; (case aR => exact HF.out); (case aP => exact fun k hk => ⟨.inl hk.1, by have := hk.2; simp [Value.ownBlock]; omega⟩); (case aB => exact below_alloc HB.out _); (case aF => exact fun k hk => .inr (by simp at hk; omega)); (case aO => exact usr_lit0 w w.heap.size _ (Nat.le_refl _) (fun k hk => .inr hk)); (case aS => exact below_size (below_alloc HB.out _)); (case aL => have := HL.out; simpa using (by omega : l0.length * 40 ≤ 140737488355328)); intro v1 w1 ho hb hg hat; have HO1 := aq_ ho; have HB1 := aq_ hb; clear ho hb hg hat))
  go_ret
  exact ⟨_, rfl, by have := HO1.out; simpa using this, HB1.out⟩
theorem own_any (x : S24) (hx : tsize x ≤ 1000000) (P : Nat → Prop) (A : Option Addr) (c : Nat) (w : World) (hs : Kd.V k24 36 w w.heap.size P (.slice A x.f2.length c) x.f2) :
  Calls Tryz.prog 56 #[.agg #[.int .i64 x.f0, .int .i64 x.f1, .slice A x.f2.length c]] w fun e w' => ∃ v, e = .returned (.agg #[.int .i64 x.f0, .int .i64 x.f1, v]) ∧ Kd.N k24 36 w' w.heap.size (fun k => P k ∨ w.heap.size ≤ k) v x.f2 ∧ Below w.heap.size w w' := by
 obtain ⟨k, hk⟩ := (own_ev x hx).rounds
 exact term_Own.calls k x.f0 x.f1 P A c x.f2 x.f0 x.f1 x.f2 w hs hk
structure Mdl where
 U : List Usr
 idle : Int
 T : List Ses
 epoch : Int
 now : Int
 K : List S24
 D : List Don
def Told {α : Type} (d : Kd α) (w : World) (v : Value) (l : List α) : Prop := ∃ (A : Option Addr) (c : Nat), v = .slice A l.length c ∧ l.length ≤ c ∧ d.C w A l.length l
theorem told_V {α : Type} {d : Kd α} {w : World} {e B : Nat} {P : Nat → Prop} {v : Value} {l : List α} (h : Kd.V d e w B P v l) : Told d w v l := by
 obtain ⟨A, c, rfl, hc, hF⟩ := h
 exact ⟨A, c, rfl, hc, Kd.F_now hF⟩
theorem told_of {α : Type} {d : Kd α} (hd : Kd.Heap d) {w : World} (e B : Nat) {v : Value} {l : List α} (h : Told d w v l) : Kd.V d e w B (fun k => k < w.heap.size) v l := by
 obtain ⟨A, c, rfl, hc, hC⟩ := h
 exact ⟨A, c, rfl, hc, Kd.C_F hd hC⟩
theorem told_belowG {α : Type} {d : Kd α} {w w' : World} {v : Value} {l : List α} (h : Told d w v l) (hb : Below w.heap.size w w') : Told d w' v l := by
 obtain ⟨A, c, rfl, hc, hC⟩ := h
 exact ⟨A, c, rfl, hc, Kd.C_below hC hb⟩
theorem kS_heap : Kd.Heap kS := ⟨fun _ h => h⟩
theorem kD_heap : Kd.Heap kD := ⟨fun _ h => h⟩
def MdC (w : World) (M : Mdl) (vU vT vK vD : Value) : Prop := Told kU w vU M.U ∧ Told kS w vT M.T ∧ Told k24 w vK M.K ∧ Told kD w vD M.D
def mca (M : Mdl) (vU vT vK vD : Value) : Array Value := #[vU, .int .i64 M.idle, vT, .int .i64 M.epoch, .int .i64 M.now, vK, vD]
def smallM (M : Mdl) : Prop := (M.U.length < 1000000 ∧ M.T.length < 1000000 ∧ M.K.length < 1000000 ∧ M.D.length < 1000000) ∧ (∀ u ∈ M.U, u.key.length < 1000000) ∧ ∀ t ∈ M.K, tsize t ≤ 1000000
def OwnM (w : World) (base : Nat) (r : Nat → Prop) (M : Mdl) (vU vT vK vD : Value) : Prop := ∃ PU PT PK PD : Nat → Prop, Kd.V kU 67 w 0 PU vU M.U ∧ Kd.V kS 33 w 0 PT vT M.T ∧ Kd.N k24 36 w base PK vK M.K ∧ Kd.R kD 48 w base PD vD M.D ∧
 (∀ k, vK.ownBlock = some k → ¬ PU k ∧ ¬ PT k ∧ ¬ PD k) ∧ (∀ k, vD.ownBlock = some k → ¬ PU k ∧ ¬ PT k ∧ ¬ PK k) ∧ (∀ k, r k → k < base ∧ ¬ PU k ∧ ¬ PT k ∧ ¬ PK k ∧ ¬ PD k)
def MdO (w : World) (r : Nat → Prop) (M : Mdl) (vU vT vK vD : Value) : Prop := Kd.V kU 67 w 0 (fun k => ¬ r k) vU M.U ∧ Kd.V kS 33 w 0 (fun k => ¬ r k) vT M.T ∧ Kd.V k24 36 w 0 (fun k => ¬ r k) vK M.K ∧ Kd.V kD 48 w 0 (fun k => ¬ r k) vD M.D
theorem mdO_below {w w' : World} {r : Nat → Prop} {M : Mdl} {vU vT vK vD : Value} (h : MdO w r M vU vT vK vD) (hb : Below w.heap.size w w') : MdO w' r M vU vT vK vD := ⟨Kd.V_below h.1 hb, Kd.V_below h.2.1 hb, Kd.V_below h.2.2.1 hb, Kd.V_below h.2.2.2 hb⟩
theorem mdO_told {w : World} {r : Nat → Prop} {M : Mdl} {vU vT vK vD : Value} (h : MdO w r M vU vT vK vD) : MdC w M vU vT vK vD := ⟨told_V h.1, told_V h.2.1, told_V h.2.2.1, told_V h.2.2.2⟩
theorem mdO_of {w w' : World} {r : Nat → Prop} {M : Mdl} {vU vT vK vD : Value} (h : MdC w M vU vT vK vD) (hb : Below w.heap.size w w') (hr : ∀ k, r k → w.heap.size ≤ k) : MdO w' r M vU vT vK vD := ⟨Kd.V_mono (Kd.V_below (told_of kU_heap _ 0 h.1) hb) fun k hk h => by have := hr k h; omega, Kd.V_mono (Kd.V_below (told_of kS_heap _ 0 h.2.1) hb) fun k hk h => by have := hr k h; omega, Kd.V_mono (Kd.V_below (told_of k24_heap _ 0 h.2.2.1) hb) fun k hk h => by have := hr k h; omega, Kd.V_mono (Kd.V_below (told_of kD_heap _ 0 h.2.2.2) hb) fun k hk h => by have := hr k h; omega⟩
theorem ownM_told {w : World} {base : Nat} {r : Nat → Prop} {M : Mdl} {vU vT vK vD : Value} (h : OwnM w base r M vU vT vK vD) : MdC w M vU vT vK vD := by
 obtain ⟨PU, PT, PK, PD, h1, h2, h3, h4, _⟩ := h
 exact ⟨told_V h1, told_V h2, told_V (Kd.N_V (base' := 0) h3), by obtain ⟨A, c, e, hc, hC⟩ := Kd.R_reads h4; exact ⟨A, c, e, hc, hC⟩⟩
theorem kU_mkF (W : World) (ok : Nat → Prop) (x : Usr) {A2 : Option Addr} {c2 : Nat} (l2 : x.key.length ≤ c2) (g2 : Kd.F (Kd.int .u8) W ok A2 x.key.length x.key) : Kd.FK kU W ok x [.int .i64 x.no, .int .i64 x.role, .slice A2 x.key.length c2] := fun W2 hW => kU_mk W2 x l2 (g2 W2 hW)
theorem V_base {α : Type} {d : Kd α} {e b b' : Nat} {W : World} {ok : Nat → Prop} {v : Value} {l : List α} (h : Kd.V d e W b ok v l) : Kd.V d e W b' ok v l := h
theorem cells7 {w : World} {g : Nat} {t : TypeId} {a0 a1 a2 a3 a4 a5 a6 : Value} (h : w.heap[g]? = some (.cells #[a0, a1, a2, a3, a4, a5, a6] t (0, 0))) : (w.cell? ⟨g, 0, none⟩ = some a0 ∧ w.cell? ⟨g, 1, none⟩ = some a1 ∧ w.cell? ⟨g, 2, none⟩ = some a2 ∧ w.cell? ⟨g, 3, none⟩ = some a3 ∧ w.cell? ⟨g, 4, none⟩ = some a4 ∧ w.cell? ⟨g, 5, none⟩ = some a5 ∧ w.cell? ⟨g, 6, none⟩ = some a6) ∧ (w.frozen? ⟨g, 0, none⟩ = false ∧ w.frozen? ⟨g, 1, none⟩ = false ∧ w.frozen? ⟨g, 2, none⟩ = false ∧ w.frozen? ⟨g, 3, none⟩ = false ∧ w.frozen? ⟨g, 4, none⟩ = false ∧ w.frozen? ⟨g, 5, none⟩ = false ∧ w.frozen? ⟨g, 6, none⟩ = false) :=
 ⟨⟨blk_cell h 0, blk_cell h 1, blk_cell h 2, blk_cell h 3, blk_cell h 4, blk_cell h 5, blk_cell h 6⟩, blk_frozen h 0, blk_frozen h 1, blk_frozen h 2, blk_frozen h 3, blk_frozen h 4, blk_frozen h 5, blk_frozen h 6⟩
def keyQ (u e d c : Int) : S24 := ⟨3, 0, [⟨1, u, []⟩, ⟨2, 0, [word e, ⟨2, 0, [word d, ⟨2, 0, [word c, word u]⟩]⟩]⟩]⟩
def openQ (k : S24) (s : Int) : S24 := ⟨3, 0, [k, ⟨2, 0, [word 2, word s]⟩]⟩
def cmdQ (k : S24) (s n c g : Int) : S24 := ⟨3, 0, [k, ⟨2, 0, [word 4, ⟨2, 0, [word s, ⟨2, 0, [word n, ⟨2, 0, [word c, word g]⟩]⟩]⟩]⟩]⟩
theorem keyT_at {x : Ses} (hw : wfS x) (h : hasS x = true) : keyT x = keyQ x.user x.epoch x.draw x.cn := by
 obtain ⟨⟨h1, h2⟩, ⟨h3, h4⟩, h5, h6⟩ := has_parts h
 obtain ⟨h7, h8⟩ := hw
 unfold keyT
 rw [if_pos h]
 have ho : okRow [x.epoch, x.draw, x.cn, x.user] = true := by
  simp [okRow]
  omega
 unfold tagT
 rw [rowR, if_pos ho]
 rfl
theorem isP_parts {x : Ses} {f : Frm} (h : isP x f = true) : hasS x = true ∧ plainF f = true ∧ f.tag = zkey ∧ f.sess = x.draw ∧ f.count < 4611686018427387904 ∧ (f.kind = 2 ∨ f.kind = 4) := by
 simp only [isP, okP, bareB, Bool.and_eq_true, Bool.or_eq_true, decide_eq_true_eq, beq_iff_eq] at h
 obtain ⟨⟨h1, ⟨h2, h3⟩, h4, h5⟩, h6⟩ := h
 exact ⟨h1, h2, h3, h4, h5, h6⟩
theorem plain_q {f : Frm} (h : plainF f = true) : (0 ≤ f.cmd ∧ f.cmd ≤ 255) ∧ (0 ≤ f.arg ∧ f.arg ≤ 65535) ∧ bareF f = f := by
 simp only [plainF, inB, Bool.and_eq_true, decide_eq_true_eq] at h
 obtain ⟨_, _, _, h1, h2, h3⟩ := h
 exact ⟨h1, h2, h3⟩
theorem proofT_2 {x : Ses} {f : Frm} (hw : wfS x) (h : isP x f = true) (hk : f.kind = 2) : proofT x f = openQ (keyQ x.user x.epoch x.draw x.cn) x.draw := by
 obtain ⟨h1, h2, h3, h4, h5, h6⟩ := isP_parts h
 unfold proofT
 rw [if_pos h, if_pos hk, keyT_at hw h1, hk, h4]
 have ho : okRow [2, x.draw] = true := by
  have := hw.1
  simp [okRow]
  omega
 unfold tagT
 rw [rowR, if_pos ho]
 rfl
theorem proofT_4 {x : Ses} {f : Frm} (hw : wfS x) (hf : wfF f) (h : isP x f = true) (hk : f.kind = 4) : proofT x f = cmdQ (keyQ x.user x.epoch x.draw x.cn) x.draw f.count f.cmd f.arg := by
 obtain ⟨h1, h2, h3, h4, h5, h6⟩ := isP_parts h
 obtain ⟨p1, p2, p3⟩ := plain_q h2
 unfold proofT
 rw [if_pos h, if_neg (by omega), keyT_at hw h1, hk, h4]
 have ho : okRow [4, x.draw, f.count, f.cmd, f.arg] = true := by
  have := hw.1
  have := hf.2.2.1
  simp [okRow]
  omega
 unfold tagT
 rw [rowR, if_pos ho]
 rfl
theorem proof_small {x : Ses} {f : Frm} (hw : wfS x) (hf : wfF f) (h : isP x f = true) : mayT (proofT x f) = true ∧ tsize (proofT x f) ≤ 19 ∧ (proofT x f).f0 = 3 := by
 obtain ⟨h1, h2, h3, h4, h5, h6⟩ := isP_parts h
 obtain ⟨p1, p2, p3⟩ := plain_q h2
 obtain ⟨⟨k1, k2⟩, ⟨k3, k4⟩, k5, k6⟩ := has_parts h1
 obtain ⟨k7, k8⟩ := hw
 have hc := hf.2.2.1
 rcases h6 with hk | hk
 ·rw [proofT_2 ⟨k7, k8⟩ h hk]
  refine ⟨?_, by simp [openQ, cmdQ, keyQ, word, tsize, lsize], rfl⟩
  simp [mayT, openQ, keyQ, okT, okL, nodeB, word, tsize, lsize, tdep, ldep]
  omega
 ·rw [proofT_4 ⟨k7, k8⟩ hf h hk]
  refine ⟨?_, by simp [openQ, cmdQ, keyQ, word, tsize, lsize], rfl⟩
  simp [mayT, cmdQ, keyQ, okT, okL, nodeB, word, tsize, lsize, tdep, ldep]
  omega
theorem mayT_any (p : S24) (A1 : Option Addr) (c1 : Nat) (w : World) (hs : tsize p ≤ 1000000) (h1 : Kd.C k24 w A1 p.f2.length p.f2) (h1' : p.f2.length ≤ c1) :
  Calls Tryz.prog 26 #[.agg #[.int .i64 p.f0, .int .i64 p.f1, .slice A1 p.f2.length c1]] w fun e w' => e = .returned (.bool (mayT p)) ∧ Below w.heap.size w w' := term_May.calls p.f0 p.f1 A1 c1 p.f2 _ w h1 h1' (may_f p hs)
def OwnI (w : World) (M : Mdl) (vU vT vK vD : Value) (PU PT PK PD : Nat → Prop) (wr : World) : Prop :=
 wr.heap[w.heap.size]? = some (.cells (mca M vU vT vK vD) 42 (0, 0)) ∧ wr.heap[w.heap.size + 1]? = some (.cells #[.slice none 0 0, .int .i64 0, .slice none 0 0, .int .i64 0, .int .i64 0, .slice none 0 0, .slice none 0 0] 42 (0, 0)) ∧ Below w.heap.size w wr ∧
 Kd.N kU 67 wr w.heap.size PU vU M.U ∧ Kd.V kS 33 wr 0 PT vT M.T ∧ Kd.N k24 36 wr w.heap.size PK vK M.K ∧ Kd.R kD 48 wr w.heap.size PD vD M.D
theorem ownI_below {w : World} {M : Mdl} {vU vT vK vD : Value} {PU PT PK PD : Nat → Prop} {wr w1 : World} (h : OwnI w M vU vT vK vD PU PT PK PD wr) (hb : Below wr.heap.size wr w1) : OwnI w M vU vT vK vD PU PT PK PD w1 := by
 obtain ⟨h1, h2, h3, h4, h5, h6, h7⟩ := h
 exact ⟨blk_below h1 hb, blk_below h2 hb, below_step h3 hb, Kd.N_below h4 hb, Kd.V_below h5 hb, Kd.N_below h6 hb, Kd.R_below h7 hb⟩
theorem ownI_cells {w : World} {M : Mdl} {vU vT vK vD : Value} {PU PT PK PD : Nat → Prop} {wr : World} (h : OwnI w M vU vT vK vD PU PT PK PD wr) : wr.cell? ⟨w.heap.size, 0, none⟩ = some vU ∧ wr.cell? ⟨w.heap.size, 5, none⟩ = some vK := ⟨blk_cell h.1 0, blk_cell h.1 5⟩
theorem ownI_0 {rb : Nat → Prop} {w W : World} {M : Mdl} {AU AT AK AD BU BT BK BD : Option Addr} {cU cT cK cD dU dT dK dD : Nat} {wU wT wK wD : World} (hz : W.heap.size = w.heap.size + 2) (z1 : W.heap.size ≤ wU.heap.size) (z2 : wU.heap.size ≤ wT.heap.size) (z3 : wT.heap.size ≤ wK.heap.size) (z4 : wK.heap.size ≤ wD.heap.size)
  (NU : Kd.N kU 67 wD W.heap.size (fun k => ((k < w.heap.size ∧ ¬ rb k) ∨ W.heap.size ≤ k) ∧ k < wU.heap.size) (.slice BU M.U.length dU) M.U) {PT PD : Nat → Prop}
  (RT : Kd.R kS 33 wD wU.heap.size PT (.slice BT M.T.length dT) M.T) (hPT : ∀ k, PT k → wU.heap.size ≤ k ∧ k < wT.heap.size)
  (NK : Kd.N k24 36 wD wT.heap.size (fun k => ((k < w.heap.size ∧ ¬ rb k) ∨ wT.heap.size ≤ k) ∧ k < wK.heap.size) (.slice BK M.K.length dK) M.K)
  (RD : Kd.R kD 48 wD wK.heap.size PD (.slice BD M.D.length dD) M.D) (hPD : ∀ k, PD k → wK.heap.size ≤ k ∧ k < wD.heap.size)
  (XB : wD.heap[w.heap.size]? = some (.cells #[.slice AU M.U.length cU, .int .i64 M.idle, .slice AT M.T.length cT, .int .i64 M.epoch, .int .i64 M.now, .slice AK M.K.length cK, .slice AD M.D.length cD] 42 (0, 0)))
  (XR : wD.heap[w.heap.size + 1]? = some (.cells #[.slice none 0 0, .int .i64 0, .slice none 0 0, .int .i64 0, .int .i64 0, .slice none 0 0, .slice none 0 0] 42 (0, 0))) (HB : Below w.heap.size w wD) :
  OwnI w M (.slice BU M.U.length dU) (.slice BT M.T.length dT) (.slice BK M.K.length dK) (.slice BD M.D.length dD) (fun k => (k < w.heap.size ∧ ¬ rb k) ∨ (W.heap.size ≤ k ∧ k < wU.heap.size) ∨ wD.heap.size ≤ k) PT (fun k => (k < w.heap.size ∧ ¬ rb k) ∨ (wT.heap.size ≤ k ∧ k < wK.heap.size)) PD
   ((((wD.setCell ⟨w.heap.size, 0, none⟩ (.slice BU M.U.length dU)).setCell ⟨w.heap.size, 2, none⟩ (.slice BT M.T.length dT)).setCell ⟨w.heap.size, 5, none⟩ (.slice BK M.K.length dK)).setCell ⟨w.heap.size, 6, none⟩ (.slice BD M.D.length dD)) := by
 obtain ⟨W4, hW4⟩ : ∃ W4, W4 = ((((wD.setCell ⟨w.heap.size, 0, none⟩ (.slice BU M.U.length dU)).setCell ⟨w.heap.size, 2, none⟩ (.slice BT M.T.length dT)).setCell ⟨w.heap.size, 5, none⟩ (.slice BK M.K.length dK)).setCell ⟨w.heap.size, 6, none⟩ (.slice BD M.D.length dD)) := ⟨_, rfl⟩
 have far : ∀ k, k ≠ w.heap.size → W4.heap[k]? = wD.heap[k]? := fun k hk => by
  rw [hW4, Below.heap_setCell _ _ _ _ hk, Below.heap_setCell _ _ _ _ hk, Below.heap_setCell _ _ _ _ hk, Below.heap_setCell _ _ _ _ hk]
 have hx : W4.heap[w.heap.size]? = some (.cells (mca M (.slice BU M.U.length dU) (.slice BT M.T.length dT) (.slice BK M.K.length dK) (.slice BD M.D.length dD)) 42 (0, 0)) := by
  rw [hW4]
  exact blk_put (blk_put (blk_put (blk_put XB 0 _ rfl) 2 _ rfl) 5 _ rfl) 6 _ rfl
 have hb : Below w.heap.size w W4 := by
  rw [hW4]
  exact below_set (below_set (below_set (below_set HB (Nat.le_refl _)) (Nat.le_refl _)) (Nat.le_refl _)) (Nat.le_refl _)
 rw [← hW4]
 refine ⟨hx, (far _ (by omega)).trans XR, hb, Kd.N_lower (Kd.N_step (Kd.N_mono NU (ok' := fun k => (k < w.heap.size ∧ ¬ rb k) ∨ (W.heap.size ≤ k ∧ k < wU.heap.size) ∨ wD.heap.size ≤ k) fun k hk => ?_) fun k hk _ => far k (by omega)) (by omega), ?_, Kd.N_lower (Kd.N_step (Kd.N_mono NK (ok' := fun k => (k < w.heap.size ∧ ¬ rb k) ∨ (wT.heap.size ≤ k ∧ k < wK.heap.size)) fun k hk => ?_) fun k hk _ => far k (by omega)) (by omega), Kd.R_lower (Kd.R_step RD fun k hk _ => far k (by have := hPD k hk; omega)) (by omega)⟩
 ·rcases hk with ⟨hk | hk, h2⟩
  ·exact .inl hk
  ·exact .inr (.inl ⟨hk, h2⟩)
 ·obtain ⟨A, c, e, hc, _⟩ := Kd.R_reads RT
  injection e with e1 e2 e3
  subst e1
  have h := Kd.V_mk (e := 33) (base := 0) (xs := M.T) (hc) (Kd.R_F (Kd.R_step RT (w1 := W4) fun k hk _ => far k (by have := hPT k hk; omega)))
  rw [e3]
  exact h
 ·rcases hk with ⟨hk | hk, h2⟩
  ·exact .inl hk
  ·exact .inr ⟨hk, h2⟩
theorem ownI_atU {w : World} {M : Mdl} {g dU : Nat} {vT vK vD : Value} {PU PT PK PD : Nat → Prop} {wr : World} (h : OwnI w M (.slice (some ⟨g, 0, none⟩) M.U.length dU) vT vK vD PU PT PK PD wr) {i : Nat} (hi : i < M.U.length) :
  ∃ A c, (rdU M.U i).key.length ≤ c ∧ (Kd.int .u8).C wr A (rdU M.U i).key.length (rdU M.U i).key ∧ wr.cell? ⟨g, i * 3, none⟩ = some (.int .i64 (rdU M.U i).no) ∧ wr.cell? ⟨g, i * 3 + 1, none⟩ = some (.int .i64 (rdU M.U i).role) ∧ wr.cell? ⟨g, i * 3 + 2, none⟩ = some (.slice A (rdU M.U i).key.length c) ∧ wr.frozen? ⟨g, i * 3 + 2, none⟩ = false := by
 obtain ⟨_, _, _, hN, _⟩ := h
 obtain ⟨c, hcl, hF, hcc, hfr⟩ := Kd.N_elem hN zusr (i : Int) (by omega) (by omega)
 obtain ⟨A2, c2, rfl, l2, g2⟩ := kU_open (Kd.FK_now hF)
 exact ⟨A2, c2, l2, g2, hcc 0 _ rfl, hcc 1 _ rfl, hcc 2 _ rfl, hfr 2⟩
theorem ownI_setU {w : World} {M : Mdl} {g dU : Nat} {vT vK vD : Value} {PU PT PK PD : Nat → Prop} {wr : World} (h : OwnI w M (.slice (some ⟨g, 0, none⟩) M.U.length dU) vT vK vD PU PT PK PD wr) {i : Nat} (hi : i < M.U.length) {b : Nat} {ok : Nat → Prop} {A' : Option Addr} {c' : Nat}
  (hk : (Kd.int .u8).R 5 wr b ok (.slice A' (rdU M.U i).key.length c') (rdU M.U i).key) (hok : ∀ k, ok k → PU k ∧ k ≠ g) (hd : ∀ k, PU k → w.heap.size ≤ k → ¬ PT k ∧ ¬ PK k ∧ ¬ PD k) :
  OwnI w M (.slice (some ⟨g, 0, none⟩) M.U.length dU) vT vK vD PU PT PK PD (wr.setCell ⟨g, i * 3 + 2, none⟩ (.slice A' (rdU M.U i).key.length c')) := by
 obtain ⟨h1, h2, h3, hN, h5, h6, h7⟩ := h
 have hg : w.heap.size ≤ g := Kd.N_base hN g (by simp [Value.ownBlock])
 have hp : PU g := hN.1 g (by simp [Value.ownBlock])
 have n1 : g ≠ w.heap.size := fun e => Kd.N_ne hN h1 (by decide) (by simp [Value.ownBlock, e])
 have n2 : g ≠ w.heap.size + 1 := fun e => Kd.N_ne hN h2 (by decide) (by simp [Value.ownBlock, e])
 obtain ⟨d1, d2, d3⟩ := hd g hp hg
 obtain ⟨c, hcl, hF, hcc, _⟩ := Kd.N_elem hN zusr (i : Int) (by omega) (by omega)
 obtain ⟨A2, c2, rfl, l2, _⟩ := kU_open (Kd.FK_now hF)
 have hseg := (Kd.N_seg (okp := fun k => PU k ∧ k ≠ g) hN (i : Int) (by omega) (by omega) (seg := [.slice A' (rdU M.U i).key.length c']) (j := 2) hcl hcc (Nat.le_refl 3) (x' := rdU M.U i) (kU_mkF _ _ _ (Kd.R_reads' hk).2.1 (Kd.F_mono (Kd.R_F hk) hok)) (fun _ hk => hk)).1
 have hset : M.U.set (i : Int).toNat (rdU M.U i) = M.U := by
  rw [Int.toNat_natCast, rdU_get _ hi]
  exact List.set_getElem_self hi
 rw [hset] at hseg
 exact ⟨blk_far h1 (by show w.heap.size ≠ g; omega) _, blk_far h2 (by show w.heap.size + 1 ≠ g; omega) _, below_set h3 hg, hseg, Kd.V_far (p := ⟨g, i * 3 + 2, none⟩) h5 (fun k hk e => d1 (by rw [show k = g from e] at hk; exact hk)) _, Kd.N_far (p := ⟨g, i * 3 + 2, none⟩) h6 (fun k hk e => d2 (by rw [show k = g from e] at hk; exact hk)) _, Kd.R_far (p := ⟨g, i * 3 + 2, none⟩) h7 (fun k hk e => d3 (by rw [show k = g from e] at hk; exact hk)) _⟩
theorem ownI_atK {w : World} {M : Mdl} {g dK : Nat} {vU vT vD : Value} {PU PT PK PD : Nat → Prop} {wr : World} (h : OwnI w M vU vT (.slice (some ⟨g, 0, none⟩) M.K.length dK) vD PU PT PK PD wr) {i : Nat} (hi : i < M.K.length) :
  ∃ A c, Kd.V k24 36 wr 0 PK (.slice A (rd_T24 M.K i).f2.length c) (rd_T24 M.K i).f2 ∧ wr.cell? ⟨g, i * 3, none⟩ = some (.int .i64 (rd_T24 M.K i).f0) ∧ wr.cell? ⟨g, i * 3 + 1, none⟩ = some (.int .i64 (rd_T24 M.K i).f1) ∧ wr.cell? ⟨g, i * 3 + 2, none⟩ = some (.slice A (rd_T24 M.K i).f2.length c) ∧ wr.frozen? ⟨g, i * 3, none⟩ = false ∧ wr.frozen? ⟨g, i * 3 + 1, none⟩ = false ∧ wr.frozen? ⟨g, i * 3 + 2, none⟩ = false := by
 obtain ⟨_, _, _, _, _, hN, _⟩ := h
 obtain ⟨c, hcl, hF, hcc, hfr⟩ := Kd.N_elem hN z24 (i : Int) (by omega) (by omega)
 obtain ⟨A2, c2, rfl, l2, g2⟩ := k24_openF hF
 exact ⟨A2, c2, Kd.V_mk l2 (Kd.F_mono g2 fun k hk => hk.1), hcc 0 _ rfl, hcc 1 _ rfl, hcc 2 _ rfl, hfr 0, hfr 1, hfr 2⟩
theorem ownI_noK {w : World} {M : Mdl} {g dK : Nat} {vU vT vD : Value} {PU PT PK PD : Nat → Prop} {wr : World} (h : OwnI w M vU vT (.slice (some ⟨g, 0, none⟩) M.K.length dK) vD PU PT PK PD wr) {i : Nat} (hi : i < M.K.length) {A : Option Addr} {c : Nat} (hV : Kd.V k24 36 wr 0 PK (.slice A (rd_T24 M.K i).f2.length c) (rd_T24 M.K i).f2)
  (_a0 : wr.cell? ⟨g, i * 3, none⟩ = some (.int .i64 (rd_T24 M.K i).f0)) (_a1 : wr.cell? ⟨g, i * 3 + 1, none⟩ = some (.int .i64 (rd_T24 M.K i).f1)) (a2 : wr.cell? ⟨g, i * 3 + 2, none⟩ = some (.slice A (rd_T24 M.K i).f2.length c)) : Kd.V k24 36 wr 0 (fun k => PK k ∧ k ≠ g) (.slice A (rd_T24 M.K i).f2.length c) (rd_T24 M.K i).f2 := by
 obtain ⟨_, _, _, _, _, hN, _⟩ := h
 obtain ⟨cs, hcl, hF, hcc, hfr⟩ := Kd.N_elem hN z24 (i : Int) (by omega) (by omega)
 obtain ⟨A2, c2, rfl, l2, g2⟩ := k24_openF hF
 have h2 : wr.cell? ⟨g, i * 3 + 2, none⟩ = some (.slice A2 (rd_T24 M.K i).f2.length c2) := hcc 2 _ rfl
 rw [a2] at h2
 injection h2 with h2
 injection h2 with e1 e2 e3
 subst e1 e3
 exact Kd.V_mk l2 g2
theorem ownI_setK {w : World} {M : Mdl} {g dK : Nat} {vU vT vD : Value} {PU PT PK PD : Nat → Prop} {wr : World} (h : OwnI w M vU vT (.slice (some ⟨g, 0, none⟩) M.K.length dK) vD PU PT PK PD wr) {i : Nat} (hi : i < M.K.length) {b : Nat} {ok : Nat → Prop} {A' : Option Addr} {c' : Nat}
  (hk : Kd.V k24 36 wr b ok (.slice A' (rd_T24 M.K i).f2.length c') (rd_T24 M.K i).f2) (hok : ∀ k, ok k → PK k ∧ k ≠ g) (hd : ∀ k, PK k → w.heap.size ≤ k → ¬ PU k ∧ ¬ PT k ∧ ¬ PD k) :
  OwnI w M vU vT (.slice (some ⟨g, 0, none⟩) M.K.length dK) vD PU PT PK PD (((wr.setCell ⟨g, i * 3, none⟩ (.int .i64 (rd_T24 M.K i).f0)).setCell ⟨g, i * 3 + 1, none⟩ (.int .i64 (rd_T24 M.K i).f1)).setCell ⟨g, i * 3 + 2, none⟩ (.slice A' (rd_T24 M.K i).f2.length c')) := by
 obtain ⟨h1, h2, h3, h4, h5, hN, h7⟩ := h
 have hg : w.heap.size ≤ g := Kd.N_base hN g (by simp [Value.ownBlock])
 have hp : PK g := hN.1 g (by simp [Value.ownBlock])
 have n1 : g ≠ w.heap.size := fun e => Kd.N_ne hN h1 (by decide) (by simp [Value.ownBlock, e])
 have n2 : g ≠ w.heap.size + 1 := fun e => Kd.N_ne hN h2 (by decide) (by simp [Value.ownBlock, e])
 obtain ⟨d1, d2, d3⟩ := hd g hp hg
 obtain ⟨c, hcl, hF, hcc, _⟩ := Kd.N_elem hN z24 (i : Int) (by omega) (by omega)
 obtain ⟨A2, c2, rfl, l2, _⟩ := k24_openF hF
 obtain ⟨_, hl', hF'⟩ := Kd.V_at hk
 have hseg := (Kd.N_seg (okp := fun k => PK k ∧ k ≠ g) hN (i : Int) (by omega) (by omega) (seg := [.int .i64 (rd_T24 M.K i).f0, .int .i64 (rd_T24 M.K i).f1, .slice A' (rd_T24 M.K i).f2.length c']) (j := 0) hcl hcc (Nat.le_refl 3) (x' := rd_T24 M.K i) (k24_mkF _ _ _ hl' (Kd.F_mono hF' hok)) (fun _ hk => hk)).1
 have hset : M.K.set (i : Int).toNat (rd_T24 M.K i) = M.K := by
  rw [Int.toNat_natCast, rdT_get _ hi]
  exact List.set_getElem_self hi
 rw [hset] at hseg
 have far : ∀ k, k ≠ g → (((wr.setCell ⟨g, i * 3, none⟩ (.int .i64 (rd_T24 M.K i).f0)).setCell ⟨g, i * 3 + 1, none⟩ (.int .i64 (rd_T24 M.K i).f1)).setCell ⟨g, i * 3 + 2, none⟩ (.slice A' (rd_T24 M.K i).f2.length c')).heap[k]? = wr.heap[k]? := fun k hk => by
  rw [Below.heap_setCell _ _ _ _ hk, Below.heap_setCell _ _ _ _ hk, Below.heap_setCell _ _ _ _ hk]
 exact ⟨(far _ (by omega)).trans h1, (far _ (by omega)).trans h2, below_set (below_set (below_set h3 hg) hg) hg, Kd.N_step h4 (fun k hk _ => far k fun e => d1 (e ▸ hk)), Kd.V_step h5 (fun k hk _ => far k fun e => d2 (e ▸ hk)), hseg, Kd.R_step h7 (fun k hk _ => far k fun e => d3 (e ▸ hk))⟩
def Apart4 (w : World) (rb : Nat → Prop) (PU PT PK PD : Nat → Prop) : Prop := (∀ k, w.heap.size ≤ k → (PU k → ¬ PT k ∧ ¬ PK k ∧ ¬ PD k) ∧ (PK k → ¬ PT k ∧ ¬ PD k) ∧ (PT k → ¬ PD k) ∧ (k < w.heap.size + 2 → ¬ PU k ∧ ¬ PT k ∧ ¬ PK k ∧ ¬ PD k)) ∧ (∀ k, rb k → k < w.heap.size ∧ ¬ PU k ∧ ¬ PT k ∧ ¬ PK k ∧ ¬ PD k)
theorem apart_U {w : World} {rb : Nat → Prop} {PU PT PK PD : Nat → Prop} (h : Apart4 w rb PU PT PK PD) : ∀ k, PU k → w.heap.size ≤ k → ¬ PT k ∧ ¬ PK k ∧ ¬ PD k := fun k hp hk => (h.1 k hk).1 hp
theorem apart_K {w : World} {rb : Nat → Prop} {PU PT PK PD : Nat → Prop} (h : Apart4 w rb PU PT PK PD) : ∀ k, PK k → w.heap.size ≤ k → ¬ PU k ∧ ¬ PT k ∧ ¬ PD k := fun k hp hk => ⟨fun hu => ((h.1 k hk).1 hu).2.1 hp, (h.1 k hk).2.1 hp⟩
theorem apart_D {w : World} {rb : Nat → Prop} {PU PT PK PD : Nat → Prop} (h : Apart4 w rb PU PT PK PD) : ∀ k, PD k → w.heap.size ≤ k → ¬ PU k ∧ ¬ PT k ∧ ¬ PK k := fun k hp hk => ⟨fun hu => ((h.1 k hk).1 hu).2.2 hp, fun ht => (h.1 k hk).2.2.1 ht hp, fun hq => ((h.1 k hk).2.1 hq).2 hp⟩
theorem apart_0 {w : World} {rb : Nat → Prop} {s0 s1 s2 s3 s4 : Nat} {PT PD : Nat → Prop} (hrb : ∀ k, rb k → k < w.heap.size) (h0 : s0 = w.heap.size + 2) (h1 : s0 ≤ s1) (h2 : s1 ≤ s2) (h3 : s2 ≤ s3) (h4 : s3 ≤ s4) (hPT : ∀ k, PT k → s1 ≤ k ∧ k < s2) (hPD : ∀ k, PD k → s3 ≤ k ∧ k < s4) :
  Apart4 w rb (fun k => (k < w.heap.size ∧ ¬ rb k) ∨ (s0 ≤ k ∧ k < s1) ∨ s4 ≤ k) PT (fun k => (k < w.heap.size ∧ ¬ rb k) ∨ (s2 ≤ k ∧ k < s3)) PD := by
 refine ⟨?_, fun k hk => ⟨hrb k hk, fun h => ?_, fun h => ?_, fun h => ?_, fun h => ?_⟩⟩
 rotate_left
 ·have := hrb k hk; rcases h with h | h | h
  ·exact h.2 hk
  ·omega
  ·omega
 ·have := hrb k hk; have := hPT k h; omega
 ·have := hrb k hk; rcases h with h | h
  ·exact h.2 hk
  ·omega
 ·have := hrb k hk; have := hPD k h; omega
 intro k hk
 have hT := hPT k
 have hD := hPD k
 refine ⟨fun hu => ⟨fun ht => ?_, fun hq => ?_, fun hd => ?_⟩, fun hq => ⟨fun ht => ?_, fun hd => ?_⟩, fun ht hd => ?_, fun hz => ⟨fun hu => ?_, fun ht => ?_, fun hq => ?_, fun hd => ?_⟩⟩
 ·have := hT ht; omega
 ·omega
 ·have := hD hd; omega
 ·have := hT ht; omega
 ·have := hD hd; omega
 ·have := hT ht; have := hD hd; omega
 ·omega
 ·have := hT ht; omega
 ·omega
 ·have := hD hd; omega
theorem ownI_phase {w : World} {M : Mdl} {vU vT vK vD : Value} {PU PT PK PD : Nat → Prop} {wr : World} {rb : Nat → Prop} (h : OwnI w M vU vT vK vD PU PT PK PD wr) (ha : Apart4 w rb PU PT PK PD) :
  ∃ QU QT QK QD : Nat → Prop, OwnI w M vU vT vK vD QU QT QK QD wr ∧ Apart4 w rb QU QT QK QD ∧ ∀ k, wr.heap.size ≤ k → QK k := by
 obtain ⟨h1, h2, h3, h4, h5, h6, h7⟩ := h
 have hl : w.heap.size + 2 ≤ wr.heap.size := by have := blk_lt h2; omega
 refine ⟨fun k => PU k ∧ k < wr.heap.size, fun k => PT k ∧ k < wr.heap.size, fun k => PK k ∨ wr.heap.size ≤ k, fun k => PD k ∧ k < wr.heap.size, ⟨h1, h2, h3, Kd.N_bound h4, Kd.V_bound h5, Kd.N_mono h6 fun k hk => .inl hk, Kd.R_mono (Kd.R_bound h7) fun k hk => ⟨hk.1, hk.2.2.1⟩⟩, ⟨fun k hk => ?_, fun k hk => ⟨(ha.2 k hk).1, fun h => (ha.2 k hk).2.1 h.1, fun h => (ha.2 k hk).2.2.1 h.1, fun h => h.elim (ha.2 k hk).2.2.2.1 (by have := (ha.2 k hk).1; omega), fun h => (ha.2 k hk).2.2.2.2 h.1⟩⟩, fun k hk => .inr hk⟩
 obtain ⟨a1, a2, a3, a4⟩ := ha.1 k hk
 refine ⟨fun hu => ⟨fun ht => (a1 hu.1).1 ht.1, fun hq => ?_, fun hd => (a1 hu.1).2.2 hd.1⟩, fun hq => ⟨fun ht => ?_, fun hd => ?_⟩, fun ht hd => a3 ht.1 hd.1, fun hz => ⟨fun hu => (a4 hz).1 hu.1, fun ht => (a4 hz).2.1 ht.1, fun hq => ?_, fun hd => (a4 hz).2.2.2 hd.1⟩⟩
 ·rcases hq with hq | hq
  ·exact (a1 hu.1).2.1 hq
  ·have := hu.2; omega
 ·rcases hq with hq | hq
  ·exact (a2 hq).1 ht.1
  ·have := ht.2; omega
 ·rcases hq with hq | hq
  ·exact (a2 hq).2 hd.1
  ·have := hd.2; omega
 ·rcases hq with hq | hq
  ·exact (a4 hz).2.2.1 hq
  ·omega
theorem ownI_end {w : World} {M : Mdl} {vU vT vK vD : Value} {PU PT PK PD : Nat → Prop} {wr w1 : World} {rb : Nat → Prop} (h : OwnI w M vU vT vK vD PU PT PK PD wr) (ha : Apart4 w rb PU PT PK PD) (hf : ∀ k, k ≠ w.heap.size + 1 → w1.heap[k]? = wr.heap[k]?) : OwnM w1 w.heap.size rb M vU vT vK vD := by
 obtain ⟨h1, h2, h3, h4, h5, h6, h7⟩ := h
 have n1 := (ha.1 (w.heap.size + 1) (by omega)).2.2.2 (by omega)
 exact ⟨PU, PT, PK, PD, Kd.N_V (Kd.N_step h4 fun k hk _ => hf k fun e => n1.1 (e ▸ hk)), Kd.V_step h5 fun k hk _ => hf k fun e => n1.2.1 (e ▸ hk), Kd.N_step h6 fun k hk _ => hf k fun e => n1.2.2.1 (e ▸ hk), Kd.R_step h7 fun k hk _ => hf k fun e => n1.2.2.2 (e ▸ hk),
  fun k hk => apart_K ha k (h6.1 k hk) (Kd.N_base h6 k hk), fun k hk => apart_D ha k (h7.1 k hk) (Kd.R_base h7 k hk), ha.2⟩
theorem put_7 {w : World} {g : Nat} {t : TypeId} {a0 a1 a2 a3 a4 a5 a6 b0 b1 b2 b3 b4 b5 b6 : Value} (h : w.heap[g]? = some (.cells #[a0, a1, a2, a3, a4, a5, a6] t (0, 0))) : (((((((w.setCell ⟨g, 0, none⟩ b0).setCell ⟨g, 1, none⟩ b1).setCell ⟨g, 2, none⟩ b2).setCell ⟨g, 3, none⟩ b3).setCell ⟨g, 4, none⟩ b4).setCell ⟨g, 5, none⟩ b5).setCell ⟨g, 6, none⟩ b6).heap[g]? = some (.cells #[b0, b1, b2, b3, b4, b5, b6] t (0, 0)) :=
 blk_put (cs := #[b0, b1, b2, b3, b4, b5, a6]) (blk_put (cs := #[b0, b1, b2, b3, b4, a5, a6]) (blk_put (cs := #[b0, b1, b2, b3, a4, a5, a6]) (blk_put (cs := #[b0, b1, b2, a3, a4, a5, a6]) (blk_put (cs := #[b0, b1, a2, a3, a4, a5, a6]) (blk_put (cs := #[b0, a1, a2, a3, a4, a5, a6]) (blk_put h 0 b0 rfl) 1 b1 rfl) 2 b2 rfl) 3 b3 rfl) 4 b4 rfl) 5 b5 rfl) 6 b6 rfl
theorem far_7 {w : World} {g : Nat} {b0 b1 b2 b3 b4 b5 b6 : Value} {k : Nat} (hk : k ≠ g) : (((((((w.setCell ⟨g, 0, none⟩ b0).setCell ⟨g, 1, none⟩ b1).setCell ⟨g, 2, none⟩ b2).setCell ⟨g, 3, none⟩ b3).setCell ⟨g, 4, none⟩ b4).setCell ⟨g, 5, none⟩ b5).setCell ⟨g, 6, none⟩ b6).heap[k]? = w.heap[k]? := by
 rw [Below.heap_setCell _ _ _ _ hk, Below.heap_setCell _ _ _ _ hk, Below.heap_setCell _ _ _ _ hk, Below.heap_setCell _ _ _ _ hk, Below.heap_setCell _ _ _ _ hk, Below.heap_setCell _ _ _ _ hk, Below.heap_setCell _ _ _ _ hk]
theorem below_7 {B : Nat} {w0 w : World} (h : Below B w0 w) {g : Nat} (hg : B ≤ g) {b0 b1 b2 b3 b4 b5 b6 : Value} : Below B w0 (((((((w.setCell ⟨g, 0, none⟩ b0).setCell ⟨g, 1, none⟩ b1).setCell ⟨g, 2, none⟩ b2).setCell ⟨g, 3, none⟩ b3).setCell ⟨g, 4, none⟩ b4).setCell ⟨g, 5, none⟩ b5).setCell ⟨g, 6, none⟩ b6) := ((((((h.setCell (p := ⟨g, 0, none⟩) hg b0).setCell (p := ⟨g, 1, none⟩) hg b1).setCell (p := ⟨g, 2, none⟩) hg b2).setCell (p := ⟨g, 3, none⟩) hg b3).setCell (p := ⟨g, 4, none⟩) hg b4).setCell (p := ⟨g, 5, none⟩) hg b5).setCell (p := ⟨g, 6, none⟩) hg b6
theorem ret_7 {tmps : Array Value} {w : World} {fn : Func} {p : Tmp} (h : fn.results = #[.cell p 42]) {g : Nat} {a0 a1 a2 a3 a4 a5 a6 : Value} (hp : tmps.getD p undef = .pointer (some ⟨g, 0, none⟩)) (hg : w.heap[g]? = some (.cells #[a0, a1, a2, a3, a4, a5, a6] 42 (0, 0))) :
  (results fn tmps).run Tryz.prog w = .ok (.agg #[a0, a1, a2, a3, a4, a5, a6]) w :=
 results_cell_row h tmps w g 42 #[a0, a1, a2, a3, a4, a5, a6] (0, 0) _ hp hg Tryz.underlying42 rfl (by kernel_rfl)
end Go.Proofs.YtdinphnljokigaaGreat.P
end
