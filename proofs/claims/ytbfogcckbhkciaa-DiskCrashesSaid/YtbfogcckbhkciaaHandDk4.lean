/- The steps of saving: what they are, and that each does it. -/
import Derived.Test.YtbfogcckbhkciaaHandDk3
namespace Go.Proofs.Ytbfogcckbhkciaa.Hand
open Go.RowKit Go.Maps Go.Proofs.YtbfogcckbhkciaaW.PrintWords
set_option linter.unusedVariables false
set_option linter.unusedSimpArgs false
/-- What a step does. -/
inductive StepM where
  | wr (a : Nat) (l : List Int)
  | fl (a n : Nat)
  | fe
def Dev.step (d : Dev) : StepM → Dev
  | .wr a l => if a + l.length ≤ d.B.length then d.write a l else d
  | .fl a n => if a + n ≤ d.B.length then d.flush a n else d
  | .fe => d.fence
def Dev.steps (d : Dev) (ms : List StepM) : Dev := ms.foldl Dev.step d
def OkM : StepM → Prop
  | .wr _ l => Bys l
  | _ => True
theorem Dev.step_ok {d : Dev} (h : d.Ok) {m : StepM} (hm : OkM m) : (d.step m).Ok ∧ (d.step m).B.length = d.B.length := by
  cases m with
  | wr a l =>
    simp only [Dev.step]
    split
    · rename_i hi
      exact ⟨h.write hm hi, by simp only [Dev.write]; exact splice_length hi⟩
    · exact ⟨h, rfl⟩
  | fl a n =>
    simp only [Dev.step]
    split
    · exact ⟨h.flush a n, rfl⟩
    · exact ⟨h, rfl⟩
  | fe => exact ⟨h.fence, rfl⟩
theorem Dev.steps_ok {d : Dev} (h : d.Ok) {ms : List StepM} (hm : ∀ m ∈ ms, OkM m) : (d.steps ms).Ok ∧ (d.steps ms).B.length = d.B.length := by
  induction ms generalizing d with
  | nil => exact ⟨h, rfl⟩
  | cons m ms ih =>
    obtain ⟨h1, h2⟩ := Dev.step_ok h (hm m (List.mem_cons_self ..))
    obtain ⟨h3, h4⟩ := ih h1 (fun x hx => hm x (List.mem_cons_of_mem _ hx))
    exact ⟨h3, h4.trans h2⟩
theorem Dev.steps_snoc (d : Dev) (ms : List StepM) (m : StepM) : d.steps (ms ++ [m]) = (d.steps ms).step m := by simp [Dev.steps, List.foldl_append]
theorem insE_nat (len a n : Nat) : insE len a n = if a + n ≤ len then 0 else 30 := by
  unfold insE
  rw [if_neg (by omega)]
  by_cases h : a + n ≤ len
  · rw [if_neg (by omega), if_pos h]
  · rw [if_pos (by omega), if_neg h]
/-- A step, as it stands in a row: by the blocks of its variables. -/
inductive StepV where
  | wr (bd ba bx : Nat)
  | fl (bd ba bn : Nat)
  | fe (p : Nat)
def encS : StepV → Value
  | .wr bd ba bx => .func (.func 96) #[] #[.pointer (some ⟨bd, 0, none⟩), .pointer (some ⟨ba, 0, none⟩), .pointer (some ⟨bx, 0, none⟩)]
  | .fl bd ba bn => .func (.func 98) #[] #[.pointer (some ⟨bd, 0, none⟩), .pointer (some ⟨ba, 0, none⟩), .pointer (some ⟨bn, 0, none⟩)]
  | .fe p => .func (.func 24) #[.pointer (some ⟨p, 0, none⟩)] #[]
theorem encS_one (x : StepV) : (encS x).oneCell' = true := by cases x <;> rfl
def StK : Kd StepV := Kd.scalar encS encS_one
/-- A step of a row is what it should be; all that it needs lies in blocks of T. -/
def IsSt (w : World) (T : Nat → Prop) (p : Nat) : StepV → StepM → Prop
  | .wr bd ba bx, .wr a l => T bd ∧ T ba ∧ T bx ∧ w.cell? ⟨bd, 0, none⟩ = some (.pointer (some ⟨p, 0, none⟩)) ∧ w.cell? ⟨ba, 0, none⟩ = some (.int .i64 a) ∧
      0 < l.length ∧ ∃ g o c, T g ∧ w.cell? ⟨bx, 0, none⟩ = some (.slice (some ⟨g, o, none⟩) l.length c) ∧ ReadsInt w .u8 (some ⟨g, o, none⟩) l.length l
  | .fl bd ba bn, .fl a n => T bd ∧ T ba ∧ T bn ∧ w.cell? ⟨bd, 0, none⟩ = some (.pointer (some ⟨p, 0, none⟩)) ∧ w.cell? ⟨ba, 0, none⟩ = some (.int .i64 a) ∧ w.cell? ⟨bn, 0, none⟩ = some (.int .i64 n)
  | .fe q, .fe => q = p
  | _, _ => False
theorem IsSt.move {w w1 : World} {T S : Nat → Prop} {p : Nat} {x : StepV} {m : StepM} (h : IsSt w T p x m) (hf : Fr S w w1) (hs : ∀ b, T b → ¬ S b) : IsSt w1 T p x m := by
  cases x <;> cases m <;> simp only [IsSt] at h ⊢
  · obtain ⟨h1, h2, h3, h4, h5, h0, g, o, c, h6, h7, h8⟩ := h
    exact ⟨h1, h2, h3, hf.cell h4 (hs _ h1), hf.cell h5 (hs _ h2), h0, g, o, c, h6, hf.cell h7 (hs _ h3), reads_frA h8 hf (fun _ ad e => by obtain rfl := Option.some.inj e; exact hs _ h6)⟩
  · obtain ⟨h1, h2, h3, h4, h5, h6⟩ := h
    exact ⟨h1, h2, h3, hf.cell h4 (hs _ h1), hf.cell h5 (hs _ h2), hf.cell h6 (hs _ h3)⟩
  · exact h
theorem IsSt.mono {w : World} {T T' : Nat → Prop} {p : Nat} {x : StepV} {m : StepM} (h : IsSt w T p x m) (ht : ∀ b, b < w.heap.size → T b → T' b) : IsSt w T' p x m := by
  cases x <;> cases m <;> simp only [IsSt] at h ⊢
  · obtain ⟨h1, h2, h3, h4, h5, h0, g, o, c, h6, h7, h8⟩ := h
    refine ⟨ht _ (World.block_lt_of_cell? _ _ h4) h1, ht _ (World.block_lt_of_cell? _ _ h5) h2, ht _ (World.block_lt_of_cell? _ _ h7) h3, h4, h5, h0, ?_⟩
    obtain ⟨ad, e, hx⟩ := h8.2.2 h0
    obtain rfl := Option.some.inj e
    have := World.block_lt_of_cell? _ _ (hx 0 h0)
    rw [add_plain] at this
    exact ⟨g, o, c, ht _ this h6, h7, h8⟩
  · obtain ⟨h1, h2, h3, h4, h5, h6⟩ := h
    exact ⟨ht _ (World.block_lt_of_cell? _ _ h4) h1, ht _ (World.block_lt_of_cell? _ _ h5) h2, ht _ (World.block_lt_of_cell? _ _ h6) h3, h4, h5, h6⟩
  · exact h
/-- A row of steps. -/
def IsAll (w : World) (T : Nat → Prop) (p : Nat) : List StepV → List StepM → Prop
  | [], [] => True
  | x :: xs, m :: ms => IsSt w T p x m ∧ IsAll w T p xs ms
  | _, _ => False
theorem IsAll.move {w w1 : World} {T S : Nat → Prop} {p : Nat} (hf : Fr S w w1) (hs : ∀ b, T b → ¬ S b) : ∀ {xs : List StepV} {ms : List StepM}, IsAll w T p xs ms → IsAll w1 T p xs ms
  | [], [], _ => trivial
  | x :: xs, m :: ms, h => ⟨h.1.move hf hs, IsAll.move hf hs h.2⟩
theorem IsAll.mono {w : World} {T T' : Nat → Prop} {p : Nat} (ht : ∀ b, b < w.heap.size → T b → T' b) : ∀ {xs : List StepV} {ms : List StepM}, IsAll w T p xs ms → IsAll w T' p xs ms
  | [], [], _ => trivial
  | x :: xs, m :: ms, h => ⟨h.1.mono ht, IsAll.mono ht h.2⟩
theorem IsAll.app {w : World} {T : Nat → Prop} {p : Nat} {ys : List StepV} {ns : List StepM} (h2 : IsAll w T p ys ns) : ∀ {xs : List StepV} {ms : List StepM}, IsAll w T p xs ms → IsAll w T p (xs ++ ys) (ms ++ ns)
  | [], [], _ => h2
  | x :: xs, m :: ms, h => ⟨h.1, IsAll.app h2 h.2⟩
theorem IsAll.len {w : World} {T : Nat → Prop} {p : Nat} : ∀ {xs : List StepV} {ms : List StepM}, IsAll w T p xs ms → xs.length = ms.length
  | [], [], _ => rfl
  | x :: xs, m :: ms, h => by simp [IsAll.len h.2]
theorem IsAll.get {w : World} {T : Nat → Prop} {p : Nat} : ∀ {xs : List StepV} {ms : List StepM} {k : Nat} {x : StepV}, IsAll w T p xs ms → xs[k]? = some x → ∃ m, ms[k]? = some m ∧ IsSt w T p x m
  | x :: xs, m :: ms, 0, y, h, hx => by
    simp only [List.getElem?_cons_zero, Option.some.injEq] at hx ⊢
    subst hx
    exact ⟨m, rfl, h.1⟩
  | x :: xs, m :: ms, k + 1, y, h, hx => by
    simp only [List.getElem?_cons_succ] at hx ⊢
    exact IsAll.get h.2 hx
/-- What a step of a row does, where it is called. -/
def StepsD (w : World) (p : Nat) (v : Value) (s f : Nat) (d : Dev) (m : StepM) (e : Ending) (w' : World) : Prop :=
  e = .returned (.tuple #[]) ∧ HasD w' p v s f (d.step m) ∧ Fr (OwnD v s f) w w'
theorem step_wr (w : World) (p : Nat) (v : Value) (s f : Nat) (d : Dev) (T : Nat → Prop) (bd ba bx a : Nat) (l : List Int) (h : HasD w p v s f d) (hst : IsSt w T p (.wr bd ba bx) (.wr a l)) (hok : Bys l) :
    Calls Try.prog 96 #[.pointer (some ⟨bd, 0, none⟩), .pointer (some ⟨ba, 0, none⟩), .pointer (some ⟨bx, 0, none⟩)] w (StepsD w p v s f d (.wr a l)) := by
  obtain ⟨_, _, _, h4, h5, h0, g, o, c, _, h7, h8⟩ := hst
  have hl8 := h8.2.1
  by_cases hin : a + l.length ≤ d.B.length
  · have HE := Aside0.mk (show d.step (.wr a l) = d.write a l from if_pos hin)
    have HW := Aside0.mk (write_good w p v s f d a (some ⟨g, o, none⟩) l.length c l rfl h h8 hok (by rw [insE_nat, if_pos hin]))
    clear h hok h8
    go_enter Try.func96, Try.ntmps96
    go_wp2_with (go_at_call 23; ((with_reducible refine HW.out.mono ?_); rintro e w1 ⟨rfl, hd, hf⟩; have HD := Aside0.mk hd; have HF := Aside0.mk hf; clear hd hf))
    go_end0
    rw [StepsD, HE.out]
    exact ⟨rfl, HD.out, HF.out⟩
  · have HE := Aside0.mk (show d.step (.wr a l) = d from if_neg hin)
    have HH := Aside0.mk h
    have HW := Aside0.mk (write_bad w p v s f d a (some ⟨g, o, none⟩) l.length c h hl8 (by rw [insE_nat, if_neg hin]; decide))
    clear h hok h8
    go_enter Try.func96, Try.ntmps96
    go_wp2_with (go_at_call 23; ((with_reducible refine HW.out.mono ?_); rintro e w1 ⟨rfl, hb⟩; have HB := Aside0.mk hb; clear hb))
    go_end0
    rw [StepsD, HE.out]
    exact ⟨rfl, HH.out.move HB.out, Fr.of_below HB.out _⟩
theorem step_fl (w : World) (p : Nat) (v : Value) (s f : Nat) (d : Dev) (T : Nat → Prop) (bd ba bn a n : Nat) (h : HasD w p v s f d) (hst : IsSt w T p (.fl bd ba bn) (.fl a n)) :
    Calls Try.prog 98 #[.pointer (some ⟨bd, 0, none⟩), .pointer (some ⟨ba, 0, none⟩), .pointer (some ⟨bn, 0, none⟩)] w (StepsD w p v s f d (.fl a n)) := by
  obtain ⟨_, _, _, h4, h5, h6⟩ := hst
  by_cases hin : a + n ≤ d.B.length
  · have HE := Aside0.mk (show d.step (.fl a n) = d.flush a n from if_pos hin)
    have HW := Aside0.mk (flush_calls w p v s f d a n h (by rw [insE_nat, if_pos hin]))
    clear h
    go_enter Try.func98, Try.ntmps98
    go_wp2_with (go_at_call 25; ((with_reducible refine HW.out.mono ?_); rintro e w1 ⟨rfl, hd, hf⟩; have HD := Aside0.mk hd; have HF := Aside0.mk hf; clear hd hf))
    go_end0
    rw [StepsD, HE.out]
    exact ⟨rfl, HD.out, HF.out⟩
  · have HE := Aside0.mk (show d.step (.fl a n) = d from if_neg hin)
    have HH := Aside0.mk h
    have HW := Aside0.mk (flush_bad w p v s f d a n h (by rw [insE_nat, if_neg hin]; decide))
    clear h
    go_enter Try.func98, Try.ntmps98
    go_wp2_with (go_at_call 25; ((with_reducible refine HW.out.mono ?_); rintro e w1 ⟨rfl, hb⟩; have HB := Aside0.mk hb; clear hb))
    go_end0
    rw [StepsD, HE.out]
    exact ⟨rfl, HH.out.move HB.out, Fr.of_below HB.out _⟩
theorem step_fe (w : World) (p : Nat) (v : Value) (s f : Nat) (d : Dev) (h : HasD w p v s f d) :
    Calls Try.prog 24 #[.pointer (some ⟨p, 0, none⟩)] w (StepsD w p v s f d .fe) :=
  (fence_calls w p v s f d h).mono fun e w' he => he
/-- Begin's inner functions. -/
theorem mkwr_calls (w : World) (bd : Nat) (a : Int) (A : Option Addr) (n c : Nat) :
    Calls Try.prog 95 #[.int .i64 a, .slice A n c, .pointer (some ⟨bd, 0, none⟩)] w fun e w' => e = .returned (.func (.func 96) #[] #[.pointer (some ⟨bd, 0, none⟩), .pointer (some ⟨w.heap.size, 0, none⟩), .pointer (some ⟨w.heap.size + 1, 0, none⟩)]) ∧ w' = (w.alloc (.cells #[.int .i64 a] 3)).alloc (.cells #[.slice A n c] 23) := by
  go_enter Try.func95, Try.ntmps95
  go_wp2
  go_ret
  exact ⟨rfl, rfl⟩
theorem mkfl_calls (w : World) (bd : Nat) (a n : Int) :
    Calls Try.prog 97 #[.int .i64 a, .int .i64 n, .pointer (some ⟨bd, 0, none⟩)] w fun e w' => e = .returned (.func (.func 98) #[] #[.pointer (some ⟨bd, 0, none⟩), .pointer (some ⟨w.heap.size, 0, none⟩), .pointer (some ⟨w.heap.size + 1, 0, none⟩)]) ∧ w' = (w.alloc (.cells #[.int .i64 a] 3)).alloc (.cells #[.int .i64 n] 3) := by
  go_enter Try.func97, Try.ntmps97
  go_wp2
  go_ret
  exact ⟨rfl, rfl⟩
theorem mkwr2_calls (w : World) (bd : Nat) (a : Int) (A : Option Addr) (n c : Nat) :
    Calls Try.prog 95 #[.int .i64 a, .slice A n c, .pointer (some ⟨bd, 0, none⟩)] w fun e w' => ∃ ba bx, e = .returned (.func (.func 96) #[] #[.pointer (some ⟨bd, 0, none⟩), .pointer (some ⟨ba, 0, none⟩), .pointer (some ⟨bx, 0, none⟩)]) ∧
      w.heap.size ≤ ba ∧ w.heap.size ≤ bx ∧ w'.cell? ⟨ba, 0, none⟩ = some (.int .i64 a) ∧ w'.cell? ⟨bx, 0, none⟩ = some (.slice A n c) ∧ Below w.heap.size w w' := by
  refine (mkwr_calls w bd a A n c).mono ?_
  rintro e w' ⟨rfl, rfl⟩
  exact ⟨_, _, rfl, Nat.le_refl _, Nat.le_succ _, cell_alloc (blk_cell (heap_alloc_new w _) rfl) _, blk_cell (alloc_two _ _ _) rfl, ((Below.refl _ w).alloc (Nat.le_refl _) _).alloc (by simp) _⟩
theorem mkfl2_calls (w : World) (bd : Nat) (a n : Int) :
    Calls Try.prog 97 #[.int .i64 a, .int .i64 n, .pointer (some ⟨bd, 0, none⟩)] w fun e w' => ∃ ba bx, e = .returned (.func (.func 98) #[] #[.pointer (some ⟨bd, 0, none⟩), .pointer (some ⟨ba, 0, none⟩), .pointer (some ⟨bx, 0, none⟩)]) ∧
      w.heap.size ≤ ba ∧ w.heap.size ≤ bx ∧ w'.cell? ⟨ba, 0, none⟩ = some (.int .i64 a) ∧ w'.cell? ⟨bx, 0, none⟩ = some (.int .i64 n) ∧ Below w.heap.size w w' := by
  refine (mkfl_calls w bd a n).mono ?_
  rintro e w' ⟨rfl, rfl⟩
  exact ⟨_, _, rfl, Nat.le_refl _, Nat.le_succ _, cell_alloc (blk_cell (heap_alloc_new w _) rfl) _, blk_cell (alloc_two _ _ _) rfl, ((Below.refl _ w).alloc (Nat.le_refl _) _).alloc (by simp) _⟩
theorem info_fn : (Try.prog.info? 1).map (fun i => (i.zero, i.size, i.bytes)) = some (some .nilFunc, 1, 8) := by kernel_rfl
/-- What a row of steps becomes behind others. -/
def RowS (w : World) (base : Nat) (v : Value) (xs : List StepV) : Prop := StK.R 1 w base (fun _ => True) v xs
theorem steps_calls (w : World) (base : Nat) (v : Value) (xs ys : List StepV) (B : Option Addr) (c : Nat) (h : RowS w base v xs) (hr : StK.C w B ys.length ys) (hb : base ≤ w.heap.size) (hl : xs.length + ys.length ≤ 100000) :
    Calls Try.prog 100 #[v, .slice B ys.length c] w fun e w' => ∃ v' : Value, e = .returned v' ∧ RowS w' base v' (xs ++ ys) ∧ w.grownBy w' v.ownBlock ∧ (v'.ownBlock = v.ownBlock ∨ ∃ b, v'.ownBlock = some b ∧ w.heap.size ≤ b) := by
  have HR := Aside0.mk h
  have HC := Aside0.mk hr
  clear h hr
  go_enter Try.func100, Try.ntmps100
  go_wp2_with (((with_reducible refine gate_bi (b := .append) (xs := #[.tmp 5, .tmp 6]) rfl ?_); go_must (refine Kd.R_append_row encS (.fe 0) (h1 := encS_one) (w0 := w) base rfl (.tmp 5) (.tmp 6) 82 1 .nilFunc 8 rfl Try.underlying82 info_fn rfl (by decide) v xs ys B ys.length c (fun _ => True) rfl rfl (fun _ _ => trivial) HR.out HC.out (Below.refl _ _) hb (by omega) ?_); intro v1 w1 ho hb1 hg hat; have HO := Aside0.mk ho; have HG := Aside0.mk hg; have HA := Aside0.mk hat; clear ho hb1 hg hat))
  go_ret
  exact ⟨_, rfl, HO.out, HG.out, HA.out⟩
theorem steps_n (w : World) (base : Nat) (v : Value) (xs ys : List StepV) (B : Option Addr) (n c : Nat) (hn : ys.length = n) (h : RowS w base v xs) (hr : StK.C w B ys.length ys) (hb : base ≤ w.heap.size) (hl : xs.length + ys.length ≤ 100000) :
    Calls Try.prog 100 #[v, .slice B n c] w fun e w' => ∃ v' : Value, e = .returned v' ∧ RowS w' base v' (xs ++ ys) ∧ w.grownBy w' v.ownBlock ∧ (v'.ownBlock = v.ownBlock ∨ ∃ b, v'.ownBlock = some b ∧ w.heap.size ≤ b) := by
  subst hn
  exact steps_calls w base v xs ys B c h hr hb hl
theorem row_base {w : World} {base : Nat} {v : Value} {xs : List StepV} (h : RowS w base v xs) {b : Nat} (hb : v.ownBlock = some b) : base ≤ b ∧ b < w.heap.size := by
  obtain ⟨cs, t, fr, hc⟩ := own_blk h hb.symm
  refine ⟨?_, blk_lt hc⟩
  rcases (Kd.own_of_R h).2 with ⟨e, _⟩ | ⟨g, cap, cur, e, hg, _⟩
  · rw [e] at hb
    simp [Value.ownBlock] at hb
  · rw [e] at hb
    simp only [Value.ownBlock, Option.some.injEq] at hb
    rw [← hb]
    exact hg
theorem size_two (w : World) (o1 o2 : Obj) : ((w.alloc o1).alloc o2).heap.size = w.heap.size + 1 + 1 := by simp
theorem lit_steps {w : World} {xs : List StepV} {t : TypeId} (h : xs.length ≤ 9223372036854775807) : StK.C (w.alloc (.cells (xs.map encS).toArray t)) (some ⟨w.heap.size, 0, none⟩) xs.length xs := by
  refine Kd.C_of_reads (d := .fe 0) (h1 := encS_one) ⟨rfl, h, fun _ => ⟨_, rfl, fun j hj => ?_⟩⟩
  rw [add_plain]
  refine blk_cell (heap_alloc_new w _) ?_
  simp [hj]
/-- Blocks of a row of steps, but the row's own. -/
def TS (base : Nat) (sv : Value) (b : Nat) : Prop := base ≤ b ∧ some b ≠ sv.ownBlock
theorem add_steps {w wr W3 w6 : World} {p : Nat} {u v' : Value} {xs ys : List StepV} {ms ns : List StepM}
    (hrow : RowS wr w.heap.size u xs) (hall : IsAll wr (TS w.heap.size u) p xs ms) (hb : Below w.heap.size w wr) (hW : Below wr.heap.size wr W3) (hx : IsAll W3 (TS w.heap.size u) p ys ns)
    (hg : W3.grownBy w6 u.ownBlock) (hat : v'.ownBlock = u.ownBlock ∨ ∃ b, v'.ownBlock = some b ∧ W3.heap.size ≤ b) :
    IsAll w6 (TS w.heap.size v') p (xs ++ ys) (ms ++ ns) ∧ Below w.heap.size w w6 ∧ (∀ b, b < W3.heap.size → TS w.heap.size u b → TS w.heap.size v' b) ∧ Fr (fun b => some b = u.ownBlock) W3 w6 := by
  have hB3 : Below w.heap.size w W3 := bel_step hb hW
  have hT : ∀ b, b < W3.heap.size → TS w.heap.size u b → TS w.heap.size v' b := by
    rintro b hb3 ⟨h1, h2⟩
    refine ⟨h1, ?_⟩
    rcases hat with e | ⟨c, e, hc⟩
    · rw [e]; exact h2
    · rw [e]
      intro e2
      have := Option.some.inj e2
      omega
  have hF : Fr (fun b => some b = u.ownBlock) W3 w6 := (Fr.refl _ _).grown hg (fun k hk => .inl hk.symm)
  refine ⟨?_, hB3.grown hg hB3.size (fun k hk => (row_base hrow hk).1), hT, hF⟩
  have h1 : IsAll W3 (TS w.heap.size u) p xs ms := hall.move (S := fun _ => False) (Fr.of_below hW _) (fun _ _ h => h)
  have h2 : IsAll W3 (fun b => TS w.heap.size u b ∧ TS w.heap.size v' b) p (xs ++ ys) (ms ++ ns) := (IsAll.app hx h1).mono (fun b hb3 ht => ⟨ht, hT b hb3 ht⟩)
  exact (h2.move hF (fun b ht => ht.1.2)).mono (fun b _ ht => ht.2)
theorem five_calls {w wr W0 W1 W2 W3 : World} {p : Nat} {u : Value} {xs : List StepV} {ms : List StepM} {ba1 bn1 ba2 bx2 ba3 bn3 g7 c7 at_ len : Nat} {M : List Int}
    (hrow : RowS wr w.heap.size u xs) (hall : IsAll wr (TS w.heap.size u) p xs ms) (hb : Below w.heap.size w wr) (hTD : TS w.heap.size u w.heap.size) (hbd : wr.cell? ⟨w.heap.size, 0, none⟩ = some (.pointer (some ⟨p, 0, none⟩)))
    (hW0 : Below wr.heap.size wr W0) (hl : xs.length ≤ 90000)
    (hF1 : W0.heap.size ≤ ba1 ∧ W0.heap.size ≤ bn1 ∧ W1.cell? ⟨ba1, 0, none⟩ = some (.int .i64 (at_ : Int)) ∧ W1.cell? ⟨bn1, 0, none⟩ = some (.int .i64 (len : Int))) (hC1 : Below W0.heap.size W0 W1)
    (hF2 : W1.heap.size ≤ ba2 ∧ W1.heap.size ≤ bx2 ∧ W2.cell? ⟨ba2, 0, none⟩ = some (.int .i64 0) ∧ W2.cell? ⟨bx2, 0, none⟩ = some (.slice (some ⟨g7, 0, none⟩) 8 c7)) (hC2 : Below W1.heap.size W1 W2)
    (hF3 : W2.heap.size ≤ ba3 ∧ W2.heap.size ≤ bn3 ∧ W3.cell? ⟨ba3, 0, none⟩ = some (.int .i64 0) ∧ W3.cell? ⟨bn3, 0, none⟩ = some (.int .i64 8)) (hC3 : Below W2.heap.size W2 W3)
    (hg : wr.heap.size ≤ g7) (hr : ReadsInt W0 .u8 (some ⟨g7, 0, none⟩) 8 M) (hM : M.length = 8) :
    Calls Try.prog 100 #[u, .slice (some ⟨W3.heap.size, 0, none⟩) 5 5] (W3.alloc (.cells #[.func (.func 98) #[] #[.pointer (some ⟨w.heap.size, 0, none⟩), .pointer (some ⟨ba1, 0, none⟩), .pointer (some ⟨bn1, 0, none⟩)], .func (.func 24) #[.pointer (some ⟨p, 0, none⟩)] #[], .func (.func 96) #[] #[.pointer (some ⟨w.heap.size, 0, none⟩), .pointer (some ⟨ba2, 0, none⟩), .pointer (some ⟨bx2, 0, none⟩)], .func (.func 98) #[] #[.pointer (some ⟨w.heap.size, 0, none⟩), .pointer (some ⟨ba3, 0, none⟩), .pointer (some ⟨bn3, 0, none⟩)], .func (.func 24) #[.pointer (some ⟨p, 0, none⟩)] #[]] 1)) fun e w' => ∃ v' : Value, e = .returned v' ∧ RowS w' w.heap.size v' (xs ++ [.fl w.heap.size ba1 bn1, .fe p, .wr w.heap.size ba2 bx2, .fl w.heap.size ba3 bn3, .fe p]) ∧
      IsAll w' (fun b => w.heap.size ≤ b) p (xs ++ [.fl w.heap.size ba1 bn1, .fe p, .wr w.heap.size ba2 bx2, .fl w.heap.size ba3 bn3, .fe p]) (ms ++ [.fl at_ len, .fe, .wr 0 M, .fl 0 8, .fe]) ∧ Below w.heap.size w w' ∧ w'.cell? ⟨w.heap.size, 0, none⟩ = some (.pointer (some ⟨p, 0, none⟩)) := by
  have hA : Below W3.heap.size W3 (W3.alloc (.cells #[.func (.func 98) #[] #[.pointer (some ⟨w.heap.size, 0, none⟩), .pointer (some ⟨ba1, 0, none⟩), .pointer (some ⟨bn1, 0, none⟩)], .func (.func 24) #[.pointer (some ⟨p, 0, none⟩)] #[], .func (.func 96) #[] #[.pointer (some ⟨w.heap.size, 0, none⟩), .pointer (some ⟨ba2, 0, none⟩), .pointer (some ⟨bx2, 0, none⟩)], .func (.func 98) #[] #[.pointer (some ⟨w.heap.size, 0, none⟩), .pointer (some ⟨ba3, 0, none⟩), .pointer (some ⟨bn3, 0, none⟩)], .func (.func 24) #[.pointer (some ⟨p, 0, none⟩)] #[]] 1)) := below_alloc (Below.refl _ _) _
  have h3 := bel_step hC3 hA
  have h2 := bel_step hC2 h3
  have h1 := bel_step hC1 h2
  have h0 := bel_step hW0 h1
  have z0 := hW0.size
  have z1 := hC1.size
  have z2 := hC2.size
  have z3 := hC3.size
  have hT : ∀ b, wr.heap.size ≤ b → TS w.heap.size u b := fun b h => ⟨Nat.le_trans hb.size h, fun e => absurd (row_base hrow e.symm).2 (by omega)⟩
  have hbdA := bel_cell h0 hbd
  have hall5 : IsAll (W3.alloc (.cells #[.func (.func 98) #[] #[.pointer (some ⟨w.heap.size, 0, none⟩), .pointer (some ⟨ba1, 0, none⟩), .pointer (some ⟨bn1, 0, none⟩)], .func (.func 24) #[.pointer (some ⟨p, 0, none⟩)] #[], .func (.func 96) #[] #[.pointer (some ⟨w.heap.size, 0, none⟩), .pointer (some ⟨ba2, 0, none⟩), .pointer (some ⟨bx2, 0, none⟩)], .func (.func 98) #[] #[.pointer (some ⟨w.heap.size, 0, none⟩), .pointer (some ⟨ba3, 0, none⟩), .pointer (some ⟨bn3, 0, none⟩)], .func (.func 24) #[.pointer (some ⟨p, 0, none⟩)] #[]] 1)) (TS w.heap.size u) p [.fl w.heap.size ba1 bn1, .fe p, .wr w.heap.size ba2 bx2, .fl w.heap.size ba3 bn3, .fe p] [.fl at_ len, .fe, .wr 0 M, .fl 0 8, .fe] := by
    refine ⟨⟨hTD, hT _ (by omega), hT _ (by omega), hbdA, bel_cell h2 hF1.2.2.1, bel_cell h2 hF1.2.2.2⟩, rfl, ⟨hTD, hT _ (by omega), hT _ (by omega), hbdA, bel_cell h3 hF2.2.2.1, by omega, g7, 0, c7, hT _ hg, ?_, ?_⟩, ⟨hTD, hT _ (by omega), hT _ (by omega), hbdA, bel_cell hA hF3.2.2.1, bel_cell hA hF3.2.2.2⟩, rfl, trivial⟩
    · rw [hM]
      exact bel_cell h3 hF2.2.2.2
    · rw [hM]
      exact hr.below h1
  have hls := lit_steps (w := W3) (xs := [.fl w.heap.size ba1 bn1, .fe p, .wr w.heap.size ba2 bx2, .fl w.heap.size ba3 bn3, .fe p]) (t := 1) (by simp)
  refine (steps_n _ w.heap.size u xs [.fl w.heap.size ba1 bn1, .fe p, .wr w.heap.size ba2 bx2, .fl w.heap.size ba3 bn3, .fe p] (some ⟨W3.heap.size, 0, none⟩) 5 5 rfl (Kd.R_below hrow h0) hls (Nat.le_trans hb.size h0.size) (by simp; omega)).mono ?_
  rintro e w6 ⟨v6, rfl, hr6, hg6, ha6⟩
  obtain ⟨hal6, hb6, _, hf6⟩ := add_steps hrow hall hb h0 hall5 hg6 ha6
  exact ⟨v6, rfl, hr6, hal6.mono (fun b _ ht => ht.1), hb6, hf6.cell hbdA (fun e => hTD.2 e)⟩
end Go.Proofs.Ytbfogcckbhkciaa.Hand
