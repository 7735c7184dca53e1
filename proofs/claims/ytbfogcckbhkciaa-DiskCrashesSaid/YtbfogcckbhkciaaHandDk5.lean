/- Begin. -/
import Derived.Test.YtbfogcckbhkciaaHandDk4
import Derived.Test.YtbfogcckbhkciaaWLast
namespace Go.Proofs.Ytbfogcckbhkciaa.Hand
open Go.RowKit Go.Maps Go.Proofs.YtbfogcckbhkciaaW.PrintWords Go.Proofs.YtbfogcckbhkciaaW.PrintLast
set_option linter.unusedVariables false
set_option linter.unusedSimpArgs false
theorem mid_gen (g c n a : Nat) (i j : Int) (hi : i = a) (hj : j = a + 8) (hn : a + 8 ≤ n) (hc : n ≤ c) (W : World) : (Instr.slice 23 (.slice (some ⟨g, 0, none⟩) n c) (some (.int .i64 i)) (some (.int .i64 j)) none).run Try.prog W = .ok (.slice (some ⟨g, a, none⟩) 8 (c - a)) W := by
  subst hi hj
  obtain ⟨q, hq, hz⟩ := info_of
  have hel : Try.prog.elem 23 = 5 := by simp [Program.elem, Try.underlying23]
  have hu : Try.prog.underlying 23 = some (.slice (Try.prog.elem 23)) := by rw [hel]; exact Try.underlying23
  rw [run_slice_lh W 23 _ n c hu .i64 .i64 (a : Int) ((a : Int) + 8) (by omega) (by omega) (by omega), hel]
  have h1 : ¬ c = a := by omega
  have h2 : ((a : Int) + 8).toNat = a + 8 := by omega
  simp [sizeOf, typeInfo, hq, hz, sliced, Result.andThen, h1, h2, Addr.add]
  exact fun h => h.symm
theorem reads_mid {w : World} {g n : Nat} {xs : List Int} (hr : ReadsInt w .u8 (some ⟨g, 0, none⟩) n xs) (a : Nat) (h : a + 8 ≤ n) : ReadsInt w .u8 (some ⟨g, a, none⟩) 8 (cut xs a 8) := by
  have hl := hr.1
  refine ⟨cut_length (by omega), by omega, fun _ => ⟨_, rfl, fun j hj => ?_⟩⟩
  obtain ⟨ad, e, hx⟩ := hr.2.2 (by omega)
  obtain rfl := Option.some.inj e
  have := hx (a + j) (by omega)
  rw [add_plain] at this ⊢
  rw [show (0 : Nat) + (a + j) = a + j from Nat.zero_add _] at this
  rw [this, cut, List.getD_eq_getElem?_getD, List.getD_eq_getElem?_getD, List.getElem?_take_of_lt hj, List.getElem?_drop]
/-- The steps that write X from at on. -/
def wrsN (at_ : Nat) (X : List Int) (j : Nat) : List StepM := (List.range j).map fun i => .wr (at_ + 8 * i) (cut X (8 * i) 8)
theorem wrsN_succ (at_ : Nat) (X : List Int) (j : Nat) : wrsN at_ X (j + 1) = wrsN at_ X j ++ [.wr (at_ + 8 * j) (cut X (8 * j) 8)] := by
  simp [wrsN, List.range_succ]
def newK (d : Dev) : Int := if (dmark d).1 = 0 then 0 else 1 - (dmark d).2
def newAt (d : Dev) : Nat := 8 + (newK d).toNat * roomD d
/-- The steps of saving l. -/
def stepsD (d : Dev) (l : List Int) : List StepM :=
  wrsN (newAt d) (padL l) ((padL l).length / 8) ++ [.fl (newAt d) (padL l).length, .fe, .wr 0 (markL ((dmark d).1 + 1) (newK d)), .fl 0 8, .fe]
def FullD (d : Dev) (l : List Int) : Prop := roomD d < l.length ∨ 4294967295 ≤ (dmark d).1
instance (d : Dev) (l : List Int) : Decidable (FullD d l) := by unfold FullD; infer_instance
set_option maxRecDepth 100000 in
theorem begin_full (w : World) (p : Nat) (v : Value) (s f : Nat) (d : Dev) (A : Option Addr) (c : Nat) (l : List Int) (h : HasD w p v s f d) (hl : l.length ≤ 9223372036854775807) (hf : FullD d l) :
    Calls Try.prog 54 #[.pointer (some ⟨p, 0, none⟩), .slice A l.length c] w fun e w' => e = .returned (.tuple #[.slice none 0 0, .int .i64 191]) ∧ Below w.heap.size w w' := by
  have HM := Aside0.mk (fun {w : World} (h : HasD w p v s f d) => dmark_calls w p v s f d h)
  have hmax := h.ok.max
  have HW := Aside0.mk (fun (w : World) (h : HasD w p v s f d) => words_calls w p v s f d h)
  have HR := Aside0.mk (fun (w : World) => room_calls (d.B.length / 8) w (by omega))
  have HH := Aside0.mk h
  have BX0 := Aside0.mk (show (w.alloc (.cells #[.pointer (some ⟨p, 0, none⟩)] 27)).cell? ⟨w.heap.size, 0, none⟩ = some (.pointer (some ⟨p, 0, none⟩)) from blk_cell (heap_alloc_new w _) rfl)
  obtain ⟨m, hm⟩ : ∃ m, m = d.B.length / 8 := ⟨_, rfl⟩
  rw [← hm] at HW HR
  obtain ⟨g, hg⟩ : ∃ g, g = (dmark d).1 := ⟨_, rfl⟩
  obtain ⟨k, hk⟩ : ∃ g, g = (dmark d).2 := ⟨_, rfl⟩
  obtain ⟨n, hn⟩ : ∃ n, n = roomD d := ⟨_, rfl⟩
  rw [show roomN m = n by rw [hm]; exact hn.symm] at HR
  rw [FullD, ← hg, ← hn] at hf
  rw [← hg, ← hk] at HM
  rcases (show n < l.length ∨ (¬ n < l.length ∧ 4294967295 ≤ g) by omega) with h1 | ⟨h1, h2⟩
  all_goals
    clear h hm hg hn hf hk
    go_enter Try.func54, Try.ntmps54
    go_wp2_with (first | (go_at_call 90; ((with_reducible refine (HM.out (HH.out.move (below_alloc (Below.refl _ _) _))).mono ?_); rintro e w1 ⟨rfl, hb⟩; have HB1 := Aside0.mk (bel_step (below_alloc (Below.refl w.heap.size w) _) hb); have HD1 := Aside0.mk (HH.out.move HB1.out); have bx1 := bel_cell hb BX0.out; clear hb)) | (go_at_call 91; ((with_reducible refine (HW.out _ HD1.out).mono ?_); rintro e w2 ⟨rfl, rfl⟩)) | (go_at_call 50; ((with_reducible refine (HR.out _).mono ?_); rintro e w2 ⟨rfl, rfl⟩)))
    go_ret2
    exact ⟨rfl, HB1.out⟩
/-- A call of a function that lies in a slot. -/
theorem goesv_ {P : Program} {ops : Array Oper} {Q : Exit → Act → World → Prop} {oi : Oper} {N : Option Tmp} {a : Act} {w : World} {K : Act → World → Prop} {f : FuncId} {fn : Func} {t : Operand} {az : Array Operand} {ts : Array TypeId} {bs cs : Array Value} (hf : P.funcs[f]? = some fn) (hname : (fn.name == "runtime.NumGoroutine") = false) (hb : fn.body.isSome = true) (args : Array Value)
    (hw : Region.wanted oi (yielded ops a.tmps) = true) (hN : oi.dst = N) (hop : oi.op = .call { callee := .value t, args := az, argTypes := ts }) (hv : a.eval t = .func (.func f) bs cs) (hargs : bs ++ az.map a.eval ++ cs = args)
    (h : Calls P f args w fun e w' => ∃ v, e = .returned v ∧ K (a.put N v) w') : if Region.wanted oi (yielded ops a.tmps) = true then Oper.wp P oi a w K Q else K (a.put N undef) w := by
  refine call_ f args hw hN ?_ h
  have he := enters_ hf hname hb args w
  unfold execOp
  simp [hop, resolve, Deferred.ofValue, invoke, hv, hargs, he]
/-- What Begin leaves where it may. -/
def BegunD (w : World) (p : Nat) (d : Dev) (l : List Int) (e : Ending) (w' : World) : Prop :=
  ∃ (u : Value) (xs : List StepV), e = .returned (.tuple #[u, .int .i64 0]) ∧ RowS w' w.heap.size u xs ∧ IsAll w' (fun b => w.heap.size ≤ b) p xs (stepsD d l) ∧ Below w.heap.size w w'
theorem padL_length (l : List Int) : (padL l).length = 8 * ((l.length + 7) / 8) := by
  rw [padL, List.length_append, List.length_replicate]
  omega
theorem numL_inj : ∀ {l m : List Int}, Bys l → Bys m → l.length = m.length → numL l = numL m → l = m
  | [], [], _, _, _, _ => rfl
  | x :: l, y :: m, hl, hm, he, h => by
    have hx := hl x (List.mem_cons_self ..)
    have hy := hm y (List.mem_cons_self ..)
    simp only [numL] at h
    have h1 : x = y := by omega
    subst h1
    rw [numL_inj (fun z hz => hl z (List.mem_cons_of_mem _ hz)) (fun z hz => hm z (List.mem_cons_of_mem _ hz)) (by simpa using he) (by omega)]
theorem markL_put {g k : Int} (h : MarkOk g k) : putL (markN g k) 8 = markL g k := by
  have hr := markN_range g k
  have hf : fitsB (markN g k) 8 = true := by rw [fits_one _ 8 hr.1 hr.2]; simp [rfitsB, rightB, topN]; omega
  have hn : markN g k = numL (markL g k) := if_pos h
  rw [putL, hf, if_pos rfl]
  refine numL_inj (leB_bysq _ _) (markL_bys h) (by rw [leB_length, markL_length]; rfl) ?_
  rw [numL_leBq, ← hn]
  exact Int.emod_eq_of_lt hr.1 hr.2
theorem mput_calls (w : World) {g k : Int} (h : MarkOk g k) : Calls Try.prog 92 #[.slice none 0 0, .int .i64 8, .int .u64 (markN g k)] w fun e w' => ∃ (b c : Nat) (t : Bool), e = .returned (.tuple #[.slice (some ⟨b, 0, none⟩) 8 c, .bool t]) ∧ ReadsInt w' .u8 (some ⟨b, 0, none⟩) 8 (markL g k) ∧ w.heap.size ≤ b ∧ Below w.heap.size w w' := by
  refine (put_new 8 (markN g k) w).mono ?_
  rintro e w7 ⟨v7, rfl, hr7, hb7⟩
  rw [markL_put h] at hr7
  obtain ⟨g7, c7, e7, _, hg7, _⟩ := own_slice_form hr7 (by rw [markL_length]; decide)
  rw [markL_length] at e7
  subst e7
  obtain ⟨A, c, e, _, hr⟩ := reads_own2 hr7
  simp only [Value.slice.injEq] at e
  obtain ⟨rfl, h8, rfl⟩ := e
  rw [markL_length] at hr
  exact ⟨g7, c7, _, rfl, hr, hg7, hb7⟩
set_option maxRecDepth 100000 in
set_option maxHeartbeats 8000000 in
theorem begin_core (w : World) (p : Nat) (v : Value) (s f : Nat) (d : Dev) (A : Option Addr) (c : Nat) (l X : List Int) (g k kk : Int) (n m q qn at_ : Nat) (h : HasD w p v s f d)
    (HM : Aside0 (∀ {W : World}, HasD W p v s f d → Calls Try.prog 90 #[.pointer (some ⟨p, 0, none⟩)] W fun e w' => e = .returned (.tuple #[.int .i64 g, .int .i64 k]) ∧ Below W.heap.size W w'))
    (HW : Aside0 (∀ W : World, HasD W p v s f d → Calls Try.prog 91 #[.pointer (some ⟨p, 0, none⟩)] W fun e w' => e = .returned (.int .i64 (m : Int)) ∧ W = w'))
    (HR : Aside0 (∀ W : World, Calls Try.prog 50 #[.int .i64 (m : Int)] W fun e w' => e = .returned (.int .i64 (n : Int)) ∧ W = w'))
    (HPC : Aside0 (∀ W : World, ReadsInt W .u8 A l.length l → Calls Try.prog 99 #[.slice A l.length c] W fun e w' => ∃ v : Value, e = .returned v ∧ Kd.R (Kd.int .u8) 5 w' 0 (New W) v X ∧ Below W.heap.size W w'))
    (HLR : Aside0 (ReadsInt w .u8 A l.length l)) (HMK : Aside0 (MarkOk (g + 1) kk)) (HXM : Aside0 (X.length % 8 = 0)) (hxl : X.length ≤ 65544) (hgl : 0 ≤ g ∧ g < 4294967295)
    (hl1 : decide (n < l.length) = false) (hl2 : decide (4294967295 ≤ g) = false) (e1 : IntKind.i64.wrap (kk * n) = (qn : Int)) (e2 : IntKind.i64.wrap (8 + (qn : Int)) = (at_ : Int)) (hat : at_ ≤ 65544)
    (hcs : (decide (0 < g) = false ∧ kk = k) ∨ (decide (0 < g) = true ∧ IntKind.i64.wrap (1 - k) = kk)) :
    Calls Try.prog 54 #[.pointer (some ⟨p, 0, none⟩), .slice A l.length c] w fun e w' => ∃ (u : Value) (xs : List StepV), e = .returned (.tuple #[u, .int .i64 0]) ∧ RowS w' w.heap.size u xs ∧
      IsAll w' (fun b => w.heap.size ≤ b) p xs (wrsN at_ X (X.length / 8) ++ [.fl at_ X.length, .fe, .wr 0 (markL (g + 1) kk), .fl 0 8, .fe]) ∧ Below w.heap.size w w' := by
  have HH := Aside0.mk h
  have BX0 := Aside0.mk (show (w.alloc (.cells #[.pointer (some ⟨p, 0, none⟩)] 27)).cell? ⟨w.heap.size, 0, none⟩ = some (.pointer (some ⟨p, 0, none⟩)) from blk_cell (heap_alloc_new w _) rfl)
  clear h
  rcases hcs with ⟨hz, rfl⟩ | ⟨hz, e0⟩
  · skip
    go_enter Try.func54, Try.ntmps54
    go_wp2_with (first | (go_at_call 90; ((with_reducible refine (HM.out (HH.out.move (below_alloc (Below.refl _ _) _))).mono ?_); rintro e w1 ⟨rfl, hb⟩; have HB1 := Aside0.mk (bel_step (below_alloc (Below.refl w.heap.size w) _) hb); have HD1 := Aside0.mk (HH.out.move HB1.out); have bx1 := bel_cell hb BX0.out; clear hb)) | (go_at_call 91; ((with_reducible refine (HW.out _ HD1.out).mono ?_); rintro e w2 ⟨rfl, rfl⟩)) | (go_at_call 50; ((with_reducible refine (HR.out _).mono ?_); rintro e w2 ⟨rfl, rfl⟩)) | (go_at_call 99; ((with_reducible refine (HPC.out _ (HLR.out.below HB1.out)).mono ?_); rintro e w3 ⟨v3, rfl, hr3, hb3⟩; obtain ⟨A3, c3, rfl, hc3, hR3⟩ := reads_own2 hr3; have HR3 := Aside0.mk hR3; have HO3 := Aside0.mk (fun h0 => own_slice_form hr3 h0); have HB3 := Aside0.mk (bel_step HB1.out hb3); have bx3 := bel_cell hb3 bx1; clear hr3 hb3 hR3)))
    have BX3 := Aside0.mk bx3
    have HC3 := Aside0.mk hc3
    clear bx3 bx1 hc3
    have HTA : Aside0 (0 < X.length → ∀ g o, A3 = some ⟨g, o, none⟩ → TS w.heap.size (.slice none 0 0) g) := ⟨fun h0 g4 o4 e4 => by
      obtain ⟨g3, cap3, hsl, _, hg3, _⟩ := HO3.out h0
      simp only [Value.slice.injEq] at hsl
      rw [e4] at hsl
      have e5 := Option.some.inj hsl.1
      simp only [Addr.mk.injEq] at e5
      exact ⟨by rw [e5.1]; exact Nat.le_trans HB1.out.size hg3, by simp [Value.ownBlock]⟩⟩
    go_loopw [13, 14] (fun sv i wr => ∃ (K j : Nat) (xs : List StepV), K = 8 * j ∧ j ≤ X.length / 8 ∧ xs.length = j ∧ i = .int .i64 (K : Int) ∧ Aside0 (RowS wr w.heap.size sv xs) ∧ Aside0 (IsAll wr (TS w.heap.size sv) p xs (wrsN at_ X j)) ∧ Aside0 (Below w.heap.size w wr) ∧ Aside0 (ReadsInt wr .u8 A3 X.length X) ∧ Aside0 (0 < X.length → ∀ g o, A3 = some ⟨g, o, none⟩ → TS w.heap.size sv g) ∧ Aside0 (wr.cell? ⟨w.heap.size, 0, none⟩ = some (.pointer (some ⟨p, 0, none⟩))) ∧ Aside0 (TS w.heap.size sv w.heap.size)) (fun _ i _ => (X.length - intOf i).toNat)
    case atStart => exact ⟨0, 0, [], rfl, Nat.zero_le _, rfl, rfl, ⟨Kd.R_nil _ _ _ _ _⟩, ⟨trivial⟩, HB3, HR3, HTA, BX3, ⟨Nat.le_refl _, by simp [Value.ownBlock]⟩⟩
    case round =>
      obtain ⟨K, j, xs, hK, hj, hxs, rfl, HRO, HAL, HB, HXR, HXG, HBD, HTD⟩ := hrel
      by_cases hlt : K < X.length
      · have hK8 : K + 8 ≤ X.length := by have := HXM.out; omega
        obtain ⟨g3, cap3, hsl, hg30, hg3n, hcap3, _⟩ := HO3.out (by omega)
        simp only [Value.slice.injEq] at hsl
        obtain ⟨rfl, _, rfl⟩ := hsl
        have em := mid_gen g3 c3 X.length K (K : Int) ((K : Int) + 8) rfl rfl hK8 hcap3
        have HBW2 : Below wr.heap.size wr ((wr.alloc (.cells #[.int .i64 ((at_ : Int) + K)] 3)).alloc (.cells #[.slice (some ⟨g3, K, none⟩) 8 (c3 - K)] 23)) := ((Below.refl _ wr).alloc (Nat.le_refl _) _).alloc (by simp) _
        have HBW3 : Below wr.heap.size wr (((wr.alloc (.cells #[.int .i64 ((at_ : Int) + K)] 3)).alloc (.cells #[.slice (some ⟨g3, K, none⟩) 8 (c3 - K)] 23)).alloc (.cells #[.func (.func 96) #[] #[.pointer (some ⟨w.heap.size, 0, none⟩), .pointer (some ⟨wr.heap.size, 0, none⟩), .pointer (some ⟨wr.heap.size + 1, 0, none⟩)]] 1)) := HBW2.alloc HBW2.size _
        have hown : ∀ b, some b = u13.ownBlock → b < wr.heap.size := fun b hb => (row_base HRO.out hb.symm).2
        have hst : IsSt (((wr.alloc (.cells #[.int .i64 ((at_ : Int) + K)] 3)).alloc (.cells #[.slice (some ⟨g3, K, none⟩) 8 (c3 - K)] 23)).alloc (.cells #[.func (.func 96) #[] #[.pointer (some ⟨w.heap.size, 0, none⟩), .pointer (some ⟨wr.heap.size, 0, none⟩), .pointer (some ⟨wr.heap.size + 1, 0, none⟩)]] 1)) (TS w.heap.size u13) p (.wr w.heap.size wr.heap.size (wr.heap.size + 1)) (.wr (at_ + K) (cut X K 8)) := by
          have hcl : (cut X K 8).length = 8 := cut_length hK8
          refine ⟨HTD.out, ⟨HB.out.size, fun e => absurd (hown _ e) (Nat.lt_irrefl _)⟩, ⟨Nat.le_succ_of_le HB.out.size, fun e => absurd (hown _ e) (by omega)⟩, bel_cell HBW3 HBD.out, ?_, by omega, g3, K, c3 - K, HXG.out (by omega) _ _ rfl, ?_, ?_⟩
          · refine cell_alloc ?_ _
            rw [Int.natCast_add]
            exact cell_alloc (blk_cell (heap_alloc_new wr _) rfl) _
          · refine cell_alloc ?_ _
            rw [hcl]
            exact blk_cell (alloc_two _ _ _) rfl
          · rw [hcl]
            exact (reads_mid HXR.out K hK8).below HBW3
        have HST := Aside0.mk hst
        have HSC := Aside0.mk (steps_n (((wr.alloc (.cells #[.int .i64 ((at_ : Int) + K)] 3)).alloc (.cells #[.slice (some ⟨g3, K, none⟩) 8 (c3 - K)] 23)).alloc (.cells #[.func (.func 96) #[] #[.pointer (some ⟨w.heap.size, 0, none⟩), .pointer (some ⟨wr.heap.size, 0, none⟩), .pointer (some ⟨wr.heap.size + 1, 0, none⟩)]] 1)) w.heap.size u13 xs [.wr w.heap.size wr.heap.size (wr.heap.size + 1)] (some ⟨wr.heap.size + 1 + 1, 0, none⟩) 1 1 rfl (Kd.R_below HRO.out HBW3) (by have hls := lit_steps (w := ((wr.alloc (.cells #[.int .i64 ((at_ : Int) + K)] 3)).alloc (.cells #[.slice (some ⟨g3, K, none⟩) 8 (c3 - K)] 23))) (xs := [.wr w.heap.size wr.heap.size (wr.heap.size + 1)]) (t := 1) (by simp); rw [size_two] at hls; exact hls) (Nat.le_trans HB.out.size HBW3.size) (by simp; omega))
        have HW3 := Aside0.mk HBW3
        have HMW := Aside0.mk (mkwr_calls wr w.heap.size ((at_ : Int) + K) (some ⟨g3, K, none⟩) 8 (c3 - K))
        have HKJ := Aside0.mk hK
        have bdc := HBD.out
        clear hst HBW2 HBW3 hown hK8 hg3n hcap3 hg30 hK
        go_wp2_with (first | (go_at_call 95; ((with_reducible refine HMW.out.mono ?_); rintro e w5 ⟨rfl, rfl⟩)) | (go_at_call 100; go_must ((with_reducible refine HSC.out.mono ?_); rintro e w6 ⟨v6, rfl, hr6, hg6, ha6⟩; obtain ⟨hal6, hb6, ht6, hf6⟩ := add_steps HRO.out HAL.out HB.out HW3.out (ys := [_]) (ns := [_]) ⟨HST.out, trivial⟩ hg6 ha6; have HR6 := Aside0.mk hr6; have HAL6 := Aside0.mk hal6; have HB6 := Aside0.mk hb6; have HT6 := Aside0.mk ht6; have HF6 := Aside0.mk hf6; clear hr6 hg6 ha6 hal6 hb6 ht6 hf6)))
        refine ⟨⟨K + 8, j + 1, _, by have := HKJ.out; omega, by have := HKJ.out; have := HXM.out; omega, by rw [List.length_append, hxs]; rfl, by go_num, HR6, ⟨?_⟩, HB6, ⟨?_⟩, ⟨?_⟩, ⟨?_⟩, ⟨?_⟩⟩, by simp [intOf]; omega⟩
        · rw [wrsN_succ, ← HKJ.out]
          exact HAL6.out
        · exact reads_frA (HXR.out.below HW3.out) HF6.out (fun _ ad e => by obtain rfl := Option.some.inj e; exact (HXG.out (by omega) _ _ rfl).2)
        · intro _ g4 o4 e4
          have e5 := Option.some.inj e4
          simp only [Addr.mk.injEq] at e5
          obtain ⟨rfl, _⟩ := e5
          refine HT6.out _ (Nat.lt_of_lt_of_le ?_ HW3.out.size) (HXG.out (by omega) _ _ rfl)
          obtain ⟨ad, e, hx⟩ := HXR.out.2.2 (by omega)
          obtain rfl := Option.some.inj e
          exact World.block_lt_of_cell? _ _ (hx 0 (by omega))
        · exact HF6.out.cell (bel_cell HW3.out HBD.out) (fun e => HTD.out.2 e)
        · exact HT6.out _ (Nat.lt_of_lt_of_le (World.block_lt_of_cell? _ _ HBD.out) HW3.out.size) HTD.out
      · have hKX : K = X.length := by have := HXM.out; omega
        obtain rfl : j = X.length / 8 := by omega
        have HKX := Aside0.mk hKX
        have hKl : decide ((K : Int) < (X.length : Int)) = false := by simp; omega
        have hKn : decide (K < X.length) = false := by simp; omega
        have HXS := Aside0.mk (show xs.length ≤ 90000 by omega)
        clear hKX hlt hK hxs hj
        have bdc := HBD.out
        have HPU := Aside0.mk (fun (W : World) => mput_calls W HMK.out)
        have HMM := Aside0.mk (fun (W : World) => mark_calls (g + 1) kk W)
        go_wp2_with (first | (go_at_call 52; ((with_reducible refine (HMM.out _).mono ?_); rintro e w5 ⟨rfl, hb⟩; have HB5 := Aside0.mk hb; clear hb)) | (go_at_call 92; ((with_reducible refine (HPU.out w5).mono ?_); rintro e w7 ⟨g7, c7, b7, rfl, hr7, hg7, hb7⟩; have HR7 := Aside0.mk hr7; have HG7 := Aside0.mk hg7; have HB7 := Aside0.mk (bel_step HB5.out hb7); have bd7 := bel_cell HB7.out HBD.out; clear hr7 hb7 hg7)))
        have HBD' := Aside0.mk (show Below wr.heap.size wr w7.drew from HB7.out.drew)
        have HBX := Aside0.mk (fun W (h : Below wr.heap.size wr W) => bel_cell h HBD.out)
        have HRD := Aside0.mk (show ReadsInt w7.drew .u8 (some ⟨g7, 0, none⟩) 8 (markL (g + 1) kk) from HR7.out)
        have HG7' := Aside0.mk (Nat.le_trans HB5.out.size HG7.out)
        have HM8 := Aside0.mk (markL_length (g + 1) kk)
        have HKX2 := HKX
        refine start_ (n := 19) (S := fun w' => w'.cell? ⟨w.heap.size, 0, none⟩ = some (.pointer (some ⟨p, 0, none⟩))) (ds := []) #[false, false, false, false, false, false, false, false, false, false, false, false, false, false, false, false, false, false, false] (by kernel_rfl) rfl rfl ((HBX.out _ HBD'.out)) (fun hHeld => ?_)
        refine pure_ (i := 0) (N := some 72) (v := ?_) (a' := ?_) #[true, false, false, false, false, false, false, false, false, false, false, false, false, false, false, false, false, false, false] rfl rfl (by kernel_rfl) (fun _ _ _ h => h) (Or.inl ⟨by rfl, ?_⟩) ?_ ?_
        rotate_left
        · intro w'
          go_simp
          with_reducible rfl
        rotate_left
        · simp only [Act.put, List.setIfInBounds_toArray, List.set_cons_zero, List.set_cons_succ, i64_w, i32_w]
          rfl
        refine pure_ (i := 1) (N := some 73) (v := ?_) (a' := ?_) #[true, true, false, false, false, false, false, false, false, false, false, false, false, false, false, false, false, false, false] rfl rfl (by kernel_rfl) (fun _ _ _ h => h) (Or.inl ⟨by rfl, ?_⟩) ?_ ?_
        rotate_left
        · intro w'
          go_simp
          with_reducible rfl
        rotate_left
        · simp only [Act.put, List.setIfInBounds_toArray, List.set_cons_zero, List.set_cons_succ, i64_w, i32_w]
          rfl
        refine pure_ (i := 2) (N := some 74) (v := ?_) (a' := ?_) #[true, true, true, false, false, false, false, false, false, false, false, false, false, false, false, false, false, false, false] rfl rfl (by kernel_rfl) (fun _ _ _ h => h) (Or.inl ⟨by rfl, ?_⟩) ?_ ?_
        rotate_left
        · intro w'
          go_simp
          with_reducible rfl
        rotate_left
        · simp only [Act.put, List.setIfInBounds_toArray, List.set_cons_zero, List.set_cons_succ, i64_w, i32_w]
          rfl
        refine pure_ (i := 3) (N := some 75) (v := ?_) (a' := ?_) #[true, true, true, true, false, false, false, false, false, false, false, false, false, false, false, false, false, false, false] rfl rfl (by kernel_rfl) (fun _ _ _ h => h) (Or.inl ⟨by rfl, ?_⟩) ?_ ?_
        rotate_left
        · intro w'
          go_simp
          with_reducible rfl
        rotate_left
        · simp only [Act.put, List.setIfInBounds_toArray, List.set_cons_zero, List.set_cons_succ, i64_w, i32_w]
          rfl
        refine pure_ (i := 4) (N := some 76) (v := ?_) (a' := ?_) #[true, true, true, true, true, false, false, false, false, false, false, false, false, false, false, false, false, false, false] rfl rfl (by kernel_rfl) (fun _ _ _ h => h) (Or.inl ⟨by rfl, ?_⟩) ?_ ?_
        rotate_left
        · intro w'
          go_simp
          with_reducible rfl
        rotate_left
        · simp only [Act.put, List.setIfInBounds_toArray, List.set_cons_zero, List.set_cons_succ, i64_w, i32_w]
          rfl
        refine pure_ (i := 8) (N := some 80) (v := ?_) (a' := ?_) #[true, true, true, true, true, false, false, false, true, false, false, false, false, false, false, false, false, false, false] rfl rfl (by kernel_rfl) (fun _ _ _ h => h) (Or.inl ⟨by rfl, ?_⟩) ?_ ?_
        rotate_left
        · intro w'
          go_simp
          with_reducible rfl
        rotate_left
        · simp only [Act.put, List.setIfInBounds_toArray, List.set_cons_zero, List.set_cons_succ, i64_w, i32_w]
          rfl
        refine pure_ (i := 9) (N := some 81) (v := ?_) (a' := ?_) #[true, true, true, true, true, false, false, false, true, true, false, false, false, false, false, false, false, false, false] rfl rfl (by kernel_rfl) (fun _ _ _ h => h) (Or.inl ⟨by rfl, ?_⟩) ?_ ?_
        rotate_left
        · intro w'
          go_simp
          with_reducible rfl
        rotate_left
        · simp only [Act.put, List.setIfInBounds_toArray, List.set_cons_zero, List.set_cons_succ, i64_w, i32_w]
          rfl
        refine pure_ (i := 11) (N := some 83) (v := ?_) (a' := ?_) #[true, true, true, true, true, false, false, false, true, true, false, true, false, false, false, false, false, false, false] rfl rfl (by kernel_rfl) (fun _ _ _ h => h) (Or.inl ⟨by rfl, ?_⟩) ?_ ?_
        rotate_left
        · intro w'
          go_simp
          with_reducible rfl
        rotate_left
        · simp only [Act.put, List.setIfInBounds_toArray, List.set_cons_zero, List.set_cons_succ, i64_w, i32_w]
          rfl
        refine take_ (i := 6) (N := some 78) (v := ?_) (a' := ?_) #[true, true, true, true, true, false, true, false, true, true, false, true, false, false, false, false, false, false, false] rfl rfl (by kernel_rfl) (fun _ _ _ h => h) (Or.inl ⟨by rfl, ?_⟩) hHeld ?_ ?_
        rotate_left
        · intro w' s0
          go_simp
          with_reducible rfl
        rotate_left
        · simp only [Act.put, List.setIfInBounds_toArray, List.set_cons_zero, List.set_cons_succ, i64_w, i32_w]
          rfl
        refine pure_ (i := 7) (N := some 79) (v := ?_) (a' := ?_) #[true, true, true, true, true, false, true, true, true, true, false, true, false, false, false, false, false, false, false] rfl rfl (by kernel_rfl) (fun _ _ _ h => h) (Or.inl ⟨by rfl, ?_⟩) ?_ ?_
        rotate_left
        · intro w'
          go_simp
          with_reducible rfl
        rotate_left
        · simp only [Act.put, List.setIfInBounds_toArray, List.set_cons_zero, List.set_cons_succ, i64_w, i32_w]
          rfl
        refine take_ (i := 13) (N := some 85) (v := ?_) (a' := ?_) #[true, true, true, true, true, false, true, true, true, true, false, true, false, true, false, false, false, false, false] rfl rfl (by kernel_rfl) (fun _ _ _ h => h) (Or.inl ⟨by rfl, ?_⟩) hHeld ?_ ?_
        rotate_left
        · intro w' s0
          go_simp
          with_reducible rfl
        rotate_left
        · simp only [Act.put, List.setIfInBounds_toArray, List.set_cons_zero, List.set_cons_succ, i64_w, i32_w]
          rfl
        refine pure_ (i := 14) (N := some 86) (v := ?_) (a' := ?_) #[true, true, true, true, true, false, true, true, true, true, false, true, false, true, true, false, false, false, false] rfl rfl (by kernel_rfl) (fun _ _ _ h => h) (Or.inl ⟨by rfl, ?_⟩) ?_ ?_
        rotate_left
        · intro w'
          go_simp
          with_reducible rfl
        rotate_left
        · simp only [Act.put, List.setIfInBounds_toArray, List.set_cons_zero, List.set_cons_succ, i64_w, i32_w]
          rfl
        refine one_ (i := 5) (N := some 77) #[true, true, true, true, true, true, true, true, true, true, false, true, false, true, true, false, false, false, false] rfl rfl (by kernel_rfl) (by decide) (fun K hK => ?_)
        refine goesv_ (bs := #[]) (cs := #[.pointer (some ⟨w.heap.size, 0, none⟩)]) Try.func97 (by kernel_rfl) rfl #[.int .i64 (at_ : Int), .int .i64 (X.length : Int), .pointer (some ⟨w.heap.size, 0, none⟩)] (by rfl) rfl rfl rfl (by simp only [List.map_toArray, List.map_cons, List.map_nil]; rfl) ?_
        with_reducible refine (mkfl2_calls w7.drew w.heap.size at_ X.length).mono ?_
        rintro e W1 ⟨ba1, bn1, rfl, ha1, hn1, hca1, hcn1, hb⟩
        refine ⟨_, rfl, ?_⟩
        have HF1 := Aside0.mk (And.intro ha1 (And.intro hn1 (And.intro hca1 hcn1)))
        have HB8 := Aside0.mk (bel_step HBD'.out hb)
        have HC1 := Aside0.mk hb
        clear ha1 hn1 hca1 hcn1 hb
        refine hK.out _ _ ((HBX.out _ HB8.out)) (fun hHeld => ?_)
        clear hK K
        refine norm_ (a' := ?_) ?_ ?_
        rotate_left
        · show Act.put _ (some 77) _ = _
          simp only [Act.put, List.setIfInBounds_toArray, List.set_cons_zero, List.set_cons_succ, i64_w, i32_w]
          rfl
        refine one_ (i := 10) (N := some 82) #[true, true, true, true, true, true, true, true, true, true, true, true, false, true, true, false, false, false, false] rfl rfl (by kernel_rfl) (by decide) (fun K hK => ?_)
        refine goesv_ (bs := #[]) (cs := #[.pointer (some ⟨w.heap.size, 0, none⟩)]) Try.func95 (by kernel_rfl) rfl #[.int .i64 0, .slice (some ⟨g7, 0, none⟩) 8 c7, .pointer (some ⟨w.heap.size, 0, none⟩)] (by rfl) rfl rfl rfl (by simp only [List.map_toArray, List.map_cons, List.map_nil]; rfl) ?_
        with_reducible refine (mkwr2_calls W1 w.heap.size 0 (some ⟨g7, 0, none⟩) 8 c7).mono ?_
        rintro e W2 ⟨ba2, bx2, rfl, ha2, hn2, hca2, hcn2, hb⟩
        refine ⟨_, rfl, ?_⟩
        have HF2 := Aside0.mk (And.intro ha2 (And.intro hn2 (And.intro hca2 hcn2)))
        have HB9 := Aside0.mk (bel_step HB8.out hb)
        have HC2 := Aside0.mk hb
        clear ha2 hn2 hca2 hcn2 hb
        refine hK.out _ _ ((HBX.out _ HB9.out)) (fun hHeld => ?_)
        clear hK K
        refine norm_ (a' := ?_) ?_ ?_
        rotate_left
        · show Act.put _ (some 82) _ = _
          simp only [Act.put, List.setIfInBounds_toArray, List.set_cons_zero, List.set_cons_succ, i64_w, i32_w]
          rfl
        refine one_ (i := 12) (N := some 84) #[true, true, true, true, true, true, true, true, true, true, true, true, true, true, true, false, false, false, false] rfl rfl (by kernel_rfl) (by decide) (fun K hK => ?_)
        refine goesv_ (bs := #[]) (cs := #[.pointer (some ⟨w.heap.size, 0, none⟩)]) Try.func97 (by kernel_rfl) rfl #[.int .i64 0, .int .i64 8, .pointer (some ⟨w.heap.size, 0, none⟩)] (by rfl) rfl rfl rfl (by simp only [List.map_toArray, List.map_cons, List.map_nil]; rfl) ?_
        with_reducible refine (mkfl2_calls W2 w.heap.size 0 8).mono ?_
        rintro e W3 ⟨ba3, bn3, rfl, ha3, hn3, hca3, hcn3, hb⟩
        refine ⟨_, rfl, ?_⟩
        have HF3 := Aside0.mk (And.intro ha3 (And.intro hn3 (And.intro hca3 hcn3)))
        have HB10 := Aside0.mk (bel_step HB9.out hb)
        have HC3 := Aside0.mk hb
        clear ha3 hn3 hca3 hcn3 hb
        refine hK.out _ _ ((HBX.out _ HB10.out)) (fun hHeld => ?_)
        clear hK K
        refine norm_ (a' := ?_) ?_ ?_
        rotate_left
        · show Act.put _ (some 84) _ = _
          simp only [Act.put, List.setIfInBounds_toArray, List.set_cons_zero, List.set_cons_succ, i64_w, i32_w]
          rfl
        refine one_ (i := 15) (N := some 87) #[true, true, true, true, true, true, true, true, true, true, true, true, true, true, true, true, false, false, false] rfl rfl (by kernel_rfl) (by decide) (fun K hK => ?_)
        refine value_ (w1 := ?_) (v := ?_) (by rfl) rfl ?_ ?_
        rotate_left 2
        · go_simp
          constructor
          · rfl
          · rfl
        refine hK.out _ _ ((HBX.out _ (below_alloc HB10.out _))) (fun hHeld => ?_)
        clear hK K
        refine norm_ (a' := ?_) ?_ ?_
        rotate_left
        · show Act.put _ (some 87) _ = _
          simp only [Act.put, List.setIfInBounds_toArray, List.set_cons_zero, List.set_cons_succ, i64_w, i32_w]
          rfl
        refine one_ (i := 16) (N := some 88) #[true, true, true, true, true, true, true, true, true, true, true, true, true, true, true, true, true, false, false] rfl rfl (by kernel_rfl) (by decide) (fun K hK => ?_)
        refine goes_ Try.func100 (by kernel_rfl) rfl #[u13, .slice (some ⟨W3.heap.size, 0, none⟩) 5 5] (by rfl) rfl rfl (by simp only [List.map_toArray, List.map_cons, List.map_nil]; rfl) ?_
        with_reducible refine (five_calls (g7 := g7) (c7 := c7) (M := (markL (g + 1) kk)) HRO.out HAL.out HB.out HTD.out HBD.out HBD'.out (by have := HXS.out; omega) HF1.out HC1.out HF2.out HC2.out HF3.out HC3.out HG7'.out HRD.out HM8.out).mono ?_
        rintro e wE ⟨vE, rfl, hrE, haE, hbE, hcE⟩
        refine ⟨_, rfl, ?_⟩
        have HCE := Aside0.mk hcE
        have HRE := Aside0.mk hrE
        have HAE := Aside0.mk haE
        have HBE := Aside0.mk hbE
        clear hrE haE hbE hcE
        refine hK.out _ _ (HCE.out) (fun hHeld => ?_)
        clear hK K
        refine norm_ (a' := ?_) ?_ ?_
        rotate_left
        · show Act.put _ (some 88) _ = _
          simp only [Act.put, List.setIfInBounds_toArray, List.set_cons_zero, List.set_cons_succ, i64_w, i32_w]
          rfl
        refine pure_ (i := 17) (N := some 4) (v := ?_) (a' := ?_) #[true, true, true, true, true, true, true, true, true, true, true, true, true, true, true, true, true, true, false] rfl rfl (by kernel_rfl) (fun _ _ _ h => h) (Or.inl ⟨by rfl, ?_⟩) ?_ ?_
        rotate_left
        · intro w'
          go_simp
          with_reducible rfl
        rotate_left
        · simp only [Act.put, List.setIfInBounds_toArray, List.set_cons_zero, List.set_cons_succ, i64_w, i32_w]
          rfl
        refine pure_ (i := 18) (N := some 5) (v := ?_) (a' := ?_) #[true, true, true, true, true, true, true, true, true, true, true, true, true, true, true, true, true, true, true] rfl rfl (by kernel_rfl) (fun _ _ _ h => h) (Or.inl ⟨by rfl, ?_⟩) ?_ ?_
        rotate_left
        · intro w'
          go_simp
          with_reducible rfl
        rotate_left
        · simp only [Act.put, List.setIfInBounds_toArray, List.set_cons_zero, List.set_cons_succ, i64_w, i32_w]
          rfl
        refine done_ (by kernel_rfl) ?_

        all_goals
          go_wp2
          go_ret2
          exact ⟨_, _, rfl, HRE.out, HAE.out, HBE.out⟩
  · skip
    go_enter Try.func54, Try.ntmps54
    go_wp2_with (first | (go_at_call 90; ((with_reducible refine (HM.out (HH.out.move (below_alloc (Below.refl _ _) _))).mono ?_); rintro e w1 ⟨rfl, hb⟩; have HB1 := Aside0.mk (bel_step (below_alloc (Below.refl w.heap.size w) _) hb); have HD1 := Aside0.mk (HH.out.move HB1.out); have bx1 := bel_cell hb BX0.out; clear hb)) | (go_at_call 91; ((with_reducible refine (HW.out _ HD1.out).mono ?_); rintro e w2 ⟨rfl, rfl⟩)) | (go_at_call 50; ((with_reducible refine (HR.out _).mono ?_); rintro e w2 ⟨rfl, rfl⟩)) | (go_at_call 99; ((with_reducible refine (HPC.out _ (HLR.out.below HB1.out)).mono ?_); rintro e w3 ⟨v3, rfl, hr3, hb3⟩; obtain ⟨A3, c3, rfl, hc3, hR3⟩ := reads_own2 hr3; have HR3 := Aside0.mk hR3; have HO3 := Aside0.mk (fun h0 => own_slice_form hr3 h0); have HB3 := Aside0.mk (bel_step HB1.out hb3); have bx3 := bel_cell hb3 bx1; clear hr3 hb3 hR3)))
    have BX3 := Aside0.mk bx3
    have HC3 := Aside0.mk hc3
    clear bx3 bx1 hc3
    have HTA : Aside0 (0 < X.length → ∀ g o, A3 = some ⟨g, o, none⟩ → TS w.heap.size (.slice none 0 0) g) := ⟨fun h0 g4 o4 e4 => by
      obtain ⟨g3, cap3, hsl, _, hg3, _⟩ := HO3.out h0
      simp only [Value.slice.injEq] at hsl
      rw [e4] at hsl
      have e5 := Option.some.inj hsl.1
      simp only [Addr.mk.injEq] at e5
      exact ⟨by rw [e5.1]; exact Nat.le_trans HB1.out.size hg3, by simp [Value.ownBlock]⟩⟩
    go_loopw [13, 14] (fun sv i wr => ∃ (K j : Nat) (xs : List StepV), K = 8 * j ∧ j ≤ X.length / 8 ∧ xs.length = j ∧ i = .int .i64 (K : Int) ∧ Aside0 (RowS wr w.heap.size sv xs) ∧ Aside0 (IsAll wr (TS w.heap.size sv) p xs (wrsN at_ X j)) ∧ Aside0 (Below w.heap.size w wr) ∧ Aside0 (ReadsInt wr .u8 A3 X.length X) ∧ Aside0 (0 < X.length → ∀ g o, A3 = some ⟨g, o, none⟩ → TS w.heap.size sv g) ∧ Aside0 (wr.cell? ⟨w.heap.size, 0, none⟩ = some (.pointer (some ⟨p, 0, none⟩))) ∧ Aside0 (TS w.heap.size sv w.heap.size)) (fun _ i _ => (X.length - intOf i).toNat)
    case atStart => exact ⟨0, 0, [], rfl, Nat.zero_le _, rfl, rfl, ⟨Kd.R_nil _ _ _ _ _⟩, ⟨trivial⟩, HB3, HR3, HTA, BX3, ⟨Nat.le_refl _, by simp [Value.ownBlock]⟩⟩
    case round =>
      obtain ⟨K, j, xs, hK, hj, hxs, rfl, HRO, HAL, HB, HXR, HXG, HBD, HTD⟩ := hrel
      by_cases hlt : K < X.length
      · have hK8 : K + 8 ≤ X.length := by have := HXM.out; omega
        obtain ⟨g3, cap3, hsl, hg30, hg3n, hcap3, _⟩ := HO3.out (by omega)
        simp only [Value.slice.injEq] at hsl
        obtain ⟨rfl, _, rfl⟩ := hsl
        have em := mid_gen g3 c3 X.length K (K : Int) ((K : Int) + 8) rfl rfl hK8 hcap3
        have HBW2 : Below wr.heap.size wr ((wr.alloc (.cells #[.int .i64 ((at_ : Int) + K)] 3)).alloc (.cells #[.slice (some ⟨g3, K, none⟩) 8 (c3 - K)] 23)) := ((Below.refl _ wr).alloc (Nat.le_refl _) _).alloc (by simp) _
        have HBW3 : Below wr.heap.size wr (((wr.alloc (.cells #[.int .i64 ((at_ : Int) + K)] 3)).alloc (.cells #[.slice (some ⟨g3, K, none⟩) 8 (c3 - K)] 23)).alloc (.cells #[.func (.func 96) #[] #[.pointer (some ⟨w.heap.size, 0, none⟩), .pointer (some ⟨wr.heap.size, 0, none⟩), .pointer (some ⟨wr.heap.size + 1, 0, none⟩)]] 1)) := HBW2.alloc HBW2.size _
        have hown : ∀ b, some b = u13.ownBlock → b < wr.heap.size := fun b hb => (row_base HRO.out hb.symm).2
        have hst : IsSt (((wr.alloc (.cells #[.int .i64 ((at_ : Int) + K)] 3)).alloc (.cells #[.slice (some ⟨g3, K, none⟩) 8 (c3 - K)] 23)).alloc (.cells #[.func (.func 96) #[] #[.pointer (some ⟨w.heap.size, 0, none⟩), .pointer (some ⟨wr.heap.size, 0, none⟩), .pointer (some ⟨wr.heap.size + 1, 0, none⟩)]] 1)) (TS w.heap.size u13) p (.wr w.heap.size wr.heap.size (wr.heap.size + 1)) (.wr (at_ + K) (cut X K 8)) := by
          have hcl : (cut X K 8).length = 8 := cut_length hK8
          refine ⟨HTD.out, ⟨HB.out.size, fun e => absurd (hown _ e) (Nat.lt_irrefl _)⟩, ⟨Nat.le_succ_of_le HB.out.size, fun e => absurd (hown _ e) (by omega)⟩, bel_cell HBW3 HBD.out, ?_, by omega, g3, K, c3 - K, HXG.out (by omega) _ _ rfl, ?_, ?_⟩
          · refine cell_alloc ?_ _
            rw [Int.natCast_add]
            exact cell_alloc (blk_cell (heap_alloc_new wr _) rfl) _
          · refine cell_alloc ?_ _
            rw [hcl]
            exact blk_cell (alloc_two _ _ _) rfl
          · rw [hcl]
            exact (reads_mid HXR.out K hK8).below HBW3
        have HST := Aside0.mk hst
        have HSC := Aside0.mk (steps_n (((wr.alloc (.cells #[.int .i64 ((at_ : Int) + K)] 3)).alloc (.cells #[.slice (some ⟨g3, K, none⟩) 8 (c3 - K)] 23)).alloc (.cells #[.func (.func 96) #[] #[.pointer (some ⟨w.heap.size, 0, none⟩), .pointer (some ⟨wr.heap.size, 0, none⟩), .pointer (some ⟨wr.heap.size + 1, 0, none⟩)]] 1)) w.heap.size u13 xs [.wr w.heap.size wr.heap.size (wr.heap.size + 1)] (some ⟨wr.heap.size + 1 + 1, 0, none⟩) 1 1 rfl (Kd.R_below HRO.out HBW3) (by have hls := lit_steps (w := ((wr.alloc (.cells #[.int .i64 ((at_ : Int) + K)] 3)).alloc (.cells #[.slice (some ⟨g3, K, none⟩) 8 (c3 - K)] 23))) (xs := [.wr w.heap.size wr.heap.size (wr.heap.size + 1)]) (t := 1) (by simp); rw [size_two] at hls; exact hls) (Nat.le_trans HB.out.size HBW3.size) (by simp; omega))
        have HW3 := Aside0.mk HBW3
        have HMW := Aside0.mk (mkwr_calls wr w.heap.size ((at_ : Int) + K) (some ⟨g3, K, none⟩) 8 (c3 - K))
        have HKJ := Aside0.mk hK
        have bdc := HBD.out
        clear hst HBW2 HBW3 hown hK8 hg3n hcap3 hg30 hK
        go_wp2_with (first | (go_at_call 95; ((with_reducible refine HMW.out.mono ?_); rintro e w5 ⟨rfl, rfl⟩)) | (go_at_call 100; go_must ((with_reducible refine HSC.out.mono ?_); rintro e w6 ⟨v6, rfl, hr6, hg6, ha6⟩; obtain ⟨hal6, hb6, ht6, hf6⟩ := add_steps HRO.out HAL.out HB.out HW3.out (ys := [_]) (ns := [_]) ⟨HST.out, trivial⟩ hg6 ha6; have HR6 := Aside0.mk hr6; have HAL6 := Aside0.mk hal6; have HB6 := Aside0.mk hb6; have HT6 := Aside0.mk ht6; have HF6 := Aside0.mk hf6; clear hr6 hg6 ha6 hal6 hb6 ht6 hf6)))
        refine ⟨⟨K + 8, j + 1, _, by have := HKJ.out; omega, by have := HKJ.out; have := HXM.out; omega, by rw [List.length_append, hxs]; rfl, by go_num, HR6, ⟨?_⟩, HB6, ⟨?_⟩, ⟨?_⟩, ⟨?_⟩, ⟨?_⟩⟩, by simp [intOf]; omega⟩
        · rw [wrsN_succ, ← HKJ.out]
          exact HAL6.out
        · exact reads_frA (HXR.out.below HW3.out) HF6.out (fun _ ad e => by obtain rfl := Option.some.inj e; exact (HXG.out (by omega) _ _ rfl).2)
        · intro _ g4 o4 e4
          have e5 := Option.some.inj e4
          simp only [Addr.mk.injEq] at e5
          obtain ⟨rfl, _⟩ := e5
          refine HT6.out _ (Nat.lt_of_lt_of_le ?_ HW3.out.size) (HXG.out (by omega) _ _ rfl)
          obtain ⟨ad, e, hx⟩ := HXR.out.2.2 (by omega)
          obtain rfl := Option.some.inj e
          exact World.block_lt_of_cell? _ _ (hx 0 (by omega))
        · exact HF6.out.cell (bel_cell HW3.out HBD.out) (fun e => HTD.out.2 e)
        · exact HT6.out _ (Nat.lt_of_lt_of_le (World.block_lt_of_cell? _ _ HBD.out) HW3.out.size) HTD.out
      · have hKX : K = X.length := by have := HXM.out; omega
        obtain rfl : j = X.length / 8 := by omega
        have HKX := Aside0.mk hKX
        have hKl : decide ((K : Int) < (X.length : Int)) = false := by simp; omega
        have hKn : decide (K < X.length) = false := by simp; omega
        have HXS := Aside0.mk (show xs.length ≤ 90000 by omega)
        clear hKX hlt hK hxs hj
        have bdc := HBD.out
        have HPU := Aside0.mk (fun (W : World) => mput_calls W HMK.out)
        have HMM := Aside0.mk (fun (W : World) => mark_calls (g + 1) kk W)
        go_wp2_with (first | (go_at_call 52; ((with_reducible refine (HMM.out _).mono ?_); rintro e w5 ⟨rfl, hb⟩; have HB5 := Aside0.mk hb; clear hb)) | (go_at_call 92; ((with_reducible refine (HPU.out w5).mono ?_); rintro e w7 ⟨g7, c7, b7, rfl, hr7, hg7, hb7⟩; have HR7 := Aside0.mk hr7; have HG7 := Aside0.mk hg7; have HB7 := Aside0.mk (bel_step HB5.out hb7); have bd7 := bel_cell HB7.out HBD.out; clear hr7 hb7 hg7)))
        have HBD' := Aside0.mk (show Below wr.heap.size wr w7.drew from HB7.out.drew)
        have HBX := Aside0.mk (fun W (h : Below wr.heap.size wr W) => bel_cell h HBD.out)
        have HRD := Aside0.mk (show ReadsInt w7.drew .u8 (some ⟨g7, 0, none⟩) 8 (markL (g + 1) kk) from HR7.out)
        have HG7' := Aside0.mk (Nat.le_trans HB5.out.size HG7.out)
        have HM8 := Aside0.mk (markL_length (g + 1) kk)
        have HKX2 := HKX
        refine start_ (n := 19) (S := fun w' => w'.cell? ⟨w.heap.size, 0, none⟩ = some (.pointer (some ⟨p, 0, none⟩))) (ds := []) #[false, false, false, false, false, false, false, false, false, false, false, false, false, false, false, false, false, false, false] (by kernel_rfl) rfl rfl ((HBX.out _ HBD'.out)) (fun hHeld => ?_)
        refine pure_ (i := 0) (N := some 72) (v := ?_) (a' := ?_) #[true, false, false, false, false, false, false, false, false, false, false, false, false, false, false, false, false, false, false] rfl rfl (by kernel_rfl) (fun _ _ _ h => h) (Or.inl ⟨by rfl, ?_⟩) ?_ ?_
        rotate_left
        · intro w'
          go_simp
          with_reducible rfl
        rotate_left
        · simp only [Act.put, List.setIfInBounds_toArray, List.set_cons_zero, List.set_cons_succ, i64_w, i32_w]
          rfl
        refine pure_ (i := 1) (N := some 73) (v := ?_) (a' := ?_) #[true, true, false, false, false, false, false, false, false, false, false, false, false, false, false, false, false, false, false] rfl rfl (by kernel_rfl) (fun _ _ _ h => h) (Or.inl ⟨by rfl, ?_⟩) ?_ ?_
        rotate_left
        · intro w'
          go_simp
          with_reducible rfl
        rotate_left
        · simp only [Act.put, List.setIfInBounds_toArray, List.set_cons_zero, List.set_cons_succ, i64_w, i32_w]
          rfl
        refine pure_ (i := 2) (N := some 74) (v := ?_) (a' := ?_) #[true, true, true, false, false, false, false, false, false, false, false, false, false, false, false, false, false, false, false] rfl rfl (by kernel_rfl) (fun _ _ _ h => h) (Or.inl ⟨by rfl, ?_⟩) ?_ ?_
        rotate_left
        · intro w'
          go_simp
          with_reducible rfl
        rotate_left
        · simp only [Act.put, List.setIfInBounds_toArray, List.set_cons_zero, List.set_cons_succ, i64_w, i32_w]
          rfl
        refine pure_ (i := 3) (N := some 75) (v := ?_) (a' := ?_) #[true, true, true, true, false, false, false, false, false, false, false, false, false, false, false, false, false, false, false] rfl rfl (by kernel_rfl) (fun _ _ _ h => h) (Or.inl ⟨by rfl, ?_⟩) ?_ ?_
        rotate_left
        · intro w'
          go_simp
          with_reducible rfl
        rotate_left
        · simp only [Act.put, List.setIfInBounds_toArray, List.set_cons_zero, List.set_cons_succ, i64_w, i32_w]
          rfl
        refine pure_ (i := 4) (N := some 76) (v := ?_) (a' := ?_) #[true, true, true, true, true, false, false, false, false, false, false, false, false, false, false, false, false, false, false] rfl rfl (by kernel_rfl) (fun _ _ _ h => h) (Or.inl ⟨by rfl, ?_⟩) ?_ ?_
        rotate_left
        · intro w'
          go_simp
          with_reducible rfl
        rotate_left
        · simp only [Act.put, List.setIfInBounds_toArray, List.set_cons_zero, List.set_cons_succ, i64_w, i32_w]
          rfl
        refine pure_ (i := 8) (N := some 80) (v := ?_) (a' := ?_) #[true, true, true, true, true, false, false, false, true, false, false, false, false, false, false, false, false, false, false] rfl rfl (by kernel_rfl) (fun _ _ _ h => h) (Or.inl ⟨by rfl, ?_⟩) ?_ ?_
        rotate_left
        · intro w'
          go_simp
          with_reducible rfl
        rotate_left
        · simp only [Act.put, List.setIfInBounds_toArray, List.set_cons_zero, List.set_cons_succ, i64_w, i32_w]
          rfl
        refine pure_ (i := 9) (N := some 81) (v := ?_) (a' := ?_) #[true, true, true, true, true, false, false, false, true, true, false, false, false, false, false, false, false, false, false] rfl rfl (by kernel_rfl) (fun _ _ _ h => h) (Or.inl ⟨by rfl, ?_⟩) ?_ ?_
        rotate_left
        · intro w'
          go_simp
          with_reducible rfl
        rotate_left
        · simp only [Act.put, List.setIfInBounds_toArray, List.set_cons_zero, List.set_cons_succ, i64_w, i32_w]
          rfl
        refine pure_ (i := 11) (N := some 83) (v := ?_) (a' := ?_) #[true, true, true, true, true, false, false, false, true, true, false, true, false, false, false, false, false, false, false] rfl rfl (by kernel_rfl) (fun _ _ _ h => h) (Or.inl ⟨by rfl, ?_⟩) ?_ ?_
        rotate_left
        · intro w'
          go_simp
          with_reducible rfl
        rotate_left
        · simp only [Act.put, List.setIfInBounds_toArray, List.set_cons_zero, List.set_cons_succ, i64_w, i32_w]
          rfl
        refine take_ (i := 6) (N := some 78) (v := ?_) (a' := ?_) #[true, true, true, true, true, false, true, false, true, true, false, true, false, false, false, false, false, false, false] rfl rfl (by kernel_rfl) (fun _ _ _ h => h) (Or.inl ⟨by rfl, ?_⟩) hHeld ?_ ?_
        rotate_left
        · intro w' s0
          go_simp
          with_reducible rfl
        rotate_left
        · simp only [Act.put, List.setIfInBounds_toArray, List.set_cons_zero, List.set_cons_succ, i64_w, i32_w]
          rfl
        refine pure_ (i := 7) (N := some 79) (v := ?_) (a' := ?_) #[true, true, true, true, true, false, true, true, true, true, false, true, false, false, false, false, false, false, false] rfl rfl (by kernel_rfl) (fun _ _ _ h => h) (Or.inl ⟨by rfl, ?_⟩) ?_ ?_
        rotate_left
        · intro w'
          go_simp
          with_reducible rfl
        rotate_left
        · simp only [Act.put, List.setIfInBounds_toArray, List.set_cons_zero, List.set_cons_succ, i64_w, i32_w]
          rfl
        refine take_ (i := 13) (N := some 85) (v := ?_) (a' := ?_) #[true, true, true, true, true, false, true, true, true, true, false, true, false, true, false, false, false, false, false] rfl rfl (by kernel_rfl) (fun _ _ _ h => h) (Or.inl ⟨by rfl, ?_⟩) hHeld ?_ ?_
        rotate_left
        · intro w' s0
          go_simp
          with_reducible rfl
        rotate_left
        · simp only [Act.put, List.setIfInBounds_toArray, List.set_cons_zero, List.set_cons_succ, i64_w, i32_w]
          rfl
        refine pure_ (i := 14) (N := some 86) (v := ?_) (a' := ?_) #[true, true, true, true, true, false, true, true, true, true, false, true, false, true, true, false, false, false, false] rfl rfl (by kernel_rfl) (fun _ _ _ h => h) (Or.inl ⟨by rfl, ?_⟩) ?_ ?_
        rotate_left
        · intro w'
          go_simp
          with_reducible rfl
        rotate_left
        · simp only [Act.put, List.setIfInBounds_toArray, List.set_cons_zero, List.set_cons_succ, i64_w, i32_w]
          rfl
        refine one_ (i := 5) (N := some 77) #[true, true, true, true, true, true, true, true, true, true, false, true, false, true, true, false, false, false, false] rfl rfl (by kernel_rfl) (by decide) (fun K hK => ?_)
        refine goesv_ (bs := #[]) (cs := #[.pointer (some ⟨w.heap.size, 0, none⟩)]) Try.func97 (by kernel_rfl) rfl #[.int .i64 (at_ : Int), .int .i64 (X.length : Int), .pointer (some ⟨w.heap.size, 0, none⟩)] (by rfl) rfl rfl rfl (by simp only [List.map_toArray, List.map_cons, List.map_nil]; rfl) ?_
        with_reducible refine (mkfl2_calls w7.drew w.heap.size at_ X.length).mono ?_
        rintro e W1 ⟨ba1, bn1, rfl, ha1, hn1, hca1, hcn1, hb⟩
        refine ⟨_, rfl, ?_⟩
        have HF1 := Aside0.mk (And.intro ha1 (And.intro hn1 (And.intro hca1 hcn1)))
        have HB8 := Aside0.mk (bel_step HBD'.out hb)
        have HC1 := Aside0.mk hb
        clear ha1 hn1 hca1 hcn1 hb
        refine hK.out _ _ ((HBX.out _ HB8.out)) (fun hHeld => ?_)
        clear hK K
        refine norm_ (a' := ?_) ?_ ?_
        rotate_left
        · show Act.put _ (some 77) _ = _
          simp only [Act.put, List.setIfInBounds_toArray, List.set_cons_zero, List.set_cons_succ, i64_w, i32_w]
          rfl
        refine one_ (i := 10) (N := some 82) #[true, true, true, true, true, true, true, true, true, true, true, true, false, true, true, false, false, false, false] rfl rfl (by kernel_rfl) (by decide) (fun K hK => ?_)
        refine goesv_ (bs := #[]) (cs := #[.pointer (some ⟨w.heap.size, 0, none⟩)]) Try.func95 (by kernel_rfl) rfl #[.int .i64 0, .slice (some ⟨g7, 0, none⟩) 8 c7, .pointer (some ⟨w.heap.size, 0, none⟩)] (by rfl) rfl rfl rfl (by simp only [List.map_toArray, List.map_cons, List.map_nil]; rfl) ?_
        with_reducible refine (mkwr2_calls W1 w.heap.size 0 (some ⟨g7, 0, none⟩) 8 c7).mono ?_
        rintro e W2 ⟨ba2, bx2, rfl, ha2, hn2, hca2, hcn2, hb⟩
        refine ⟨_, rfl, ?_⟩
        have HF2 := Aside0.mk (And.intro ha2 (And.intro hn2 (And.intro hca2 hcn2)))
        have HB9 := Aside0.mk (bel_step HB8.out hb)
        have HC2 := Aside0.mk hb
        clear ha2 hn2 hca2 hcn2 hb
        refine hK.out _ _ ((HBX.out _ HB9.out)) (fun hHeld => ?_)
        clear hK K
        refine norm_ (a' := ?_) ?_ ?_
        rotate_left
        · show Act.put _ (some 82) _ = _
          simp only [Act.put, List.setIfInBounds_toArray, List.set_cons_zero, List.set_cons_succ, i64_w, i32_w]
          rfl
        refine one_ (i := 12) (N := some 84) #[true, true, true, true, true, true, true, true, true, true, true, true, true, true, true, false, false, false, false] rfl rfl (by kernel_rfl) (by decide) (fun K hK => ?_)
        refine goesv_ (bs := #[]) (cs := #[.pointer (some ⟨w.heap.size, 0, none⟩)]) Try.func97 (by kernel_rfl) rfl #[.int .i64 0, .int .i64 8, .pointer (some ⟨w.heap.size, 0, none⟩)] (by rfl) rfl rfl rfl (by simp only [List.map_toArray, List.map_cons, List.map_nil]; rfl) ?_
        with_reducible refine (mkfl2_calls W2 w.heap.size 0 8).mono ?_
        rintro e W3 ⟨ba3, bn3, rfl, ha3, hn3, hca3, hcn3, hb⟩
        refine ⟨_, rfl, ?_⟩
        have HF3 := Aside0.mk (And.intro ha3 (And.intro hn3 (And.intro hca3 hcn3)))
        have HB10 := Aside0.mk (bel_step HB9.out hb)
        have HC3 := Aside0.mk hb
        clear ha3 hn3 hca3 hcn3 hb
        refine hK.out _ _ ((HBX.out _ HB10.out)) (fun hHeld => ?_)
        clear hK K
        refine norm_ (a' := ?_) ?_ ?_
        rotate_left
        · show Act.put _ (some 84) _ = _
          simp only [Act.put, List.setIfInBounds_toArray, List.set_cons_zero, List.set_cons_succ, i64_w, i32_w]
          rfl
        refine one_ (i := 15) (N := some 87) #[true, true, true, true, true, true, true, true, true, true, true, true, true, true, true, true, false, false, false] rfl rfl (by kernel_rfl) (by decide) (fun K hK => ?_)
        refine value_ (w1 := ?_) (v := ?_) (by rfl) rfl ?_ ?_
        rotate_left 2
        · go_simp
          constructor
          · rfl
          · rfl
        refine hK.out _ _ ((HBX.out _ (below_alloc HB10.out _))) (fun hHeld => ?_)
        clear hK K
        refine norm_ (a' := ?_) ?_ ?_
        rotate_left
        · show Act.put _ (some 87) _ = _
          simp only [Act.put, List.setIfInBounds_toArray, List.set_cons_zero, List.set_cons_succ, i64_w, i32_w]
          rfl
        refine one_ (i := 16) (N := some 88) #[true, true, true, true, true, true, true, true, true, true, true, true, true, true, true, true, true, false, false] rfl rfl (by kernel_rfl) (by decide) (fun K hK => ?_)
        refine goes_ Try.func100 (by kernel_rfl) rfl #[u13, .slice (some ⟨W3.heap.size, 0, none⟩) 5 5] (by rfl) rfl rfl (by simp only [List.map_toArray, List.map_cons, List.map_nil]; rfl) ?_
        with_reducible refine (five_calls (g7 := g7) (c7 := c7) (M := (markL (g + 1) kk)) HRO.out HAL.out HB.out HTD.out HBD.out HBD'.out (by have := HXS.out; omega) HF1.out HC1.out HF2.out HC2.out HF3.out HC3.out HG7'.out HRD.out HM8.out).mono ?_
        rintro e wE ⟨vE, rfl, hrE, haE, hbE, hcE⟩
        refine ⟨_, rfl, ?_⟩
        have HCE := Aside0.mk hcE
        have HRE := Aside0.mk hrE
        have HAE := Aside0.mk haE
        have HBE := Aside0.mk hbE
        clear hrE haE hbE hcE
        refine hK.out _ _ (HCE.out) (fun hHeld => ?_)
        clear hK K
        refine norm_ (a' := ?_) ?_ ?_
        rotate_left
        · show Act.put _ (some 88) _ = _
          simp only [Act.put, List.setIfInBounds_toArray, List.set_cons_zero, List.set_cons_succ, i64_w, i32_w]
          rfl
        refine pure_ (i := 17) (N := some 4) (v := ?_) (a' := ?_) #[true, true, true, true, true, true, true, true, true, true, true, true, true, true, true, true, true, true, false] rfl rfl (by kernel_rfl) (fun _ _ _ h => h) (Or.inl ⟨by rfl, ?_⟩) ?_ ?_
        rotate_left
        · intro w'
          go_simp
          with_reducible rfl
        rotate_left
        · simp only [Act.put, List.setIfInBounds_toArray, List.set_cons_zero, List.set_cons_succ, i64_w, i32_w]
          rfl
        refine pure_ (i := 18) (N := some 5) (v := ?_) (a' := ?_) #[true, true, true, true, true, true, true, true, true, true, true, true, true, true, true, true, true, true, true] rfl rfl (by kernel_rfl) (fun _ _ _ h => h) (Or.inl ⟨by rfl, ?_⟩) ?_ ?_
        rotate_left
        · intro w'
          go_simp
          with_reducible rfl
        rotate_left
        · simp only [Act.put, List.setIfInBounds_toArray, List.set_cons_zero, List.set_cons_succ, i64_w, i32_w]
          rfl
        refine done_ (by kernel_rfl) ?_

        all_goals
          go_wp2
          go_ret2
          exact ⟨_, _, rfl, HRE.out, HAE.out, HBE.out⟩
theorem begin_good (w : World) (p : Nat) (v : Value) (s f : Nat) (d : Dev) (A : Option Addr) (c : Nat) (l : List Int) (h : HasD w p v s f d) (hr : ReadsInt w .u8 A l.length l) (hf : ¬ FullD d l) :
    Calls Try.prog 54 #[.pointer (some ⟨p, 0, none⟩), .slice A l.length c] w (BegunD w p d l) := by
  have hmax := h.ok.max
  have hcase := dmark_cases d
  have hnb : roomD d ≤ 65536 := by rw [roomD, roomN]; omega
  have hg0 : 0 ≤ (dmark d).1 ∧ (dmark d).1 < 4294967295 := by
    rw [FullD] at hf
    rcases hcase with hc | hc
    · rw [hc]; decide
    · have := hc.1
      omega
  have hk : (newK d = 0 ∨ newK d = 1) ∧ ((decide (0 < (dmark d).1) = false ∧ newK d = (dmark d).2) ∨ (decide (0 < (dmark d).1) = true ∧ IntKind.i64.wrap (1 - (dmark d).2) = newK d)) := by
    rw [newK]
    rcases hcase with hc | hc
    · rw [hc]
      exact ⟨.inl rfl, .inl ⟨rfl, rfl⟩⟩
    · obtain ⟨h1, h2, h3, h4⟩ := hc
      rw [if_neg (by omega)]
      exact ⟨by omega, .inr ⟨by simp; omega, IntWalk.i64_in _ (by omega)⟩⟩
  obtain ⟨hk1, hk2⟩ := hk
  have hkn : (newK d).toNat * roomD d ≤ 65536 := by rcases hk1 with e | e <;> rw [e] <;> simp <;> omega
  have hlr : l.length ≤ roomD d := by rw [FullD] at hf; omega
  refine begin_core w p v s f d A c l (padL l) (dmark d).1 (dmark d).2 (newK d) (roomD d) (d.B.length / 8) (newK d).toNat ((newK d).toNat * roomD d) (newAt d) h ⟨fun h => dmark_calls _ p v s f d h⟩ ⟨fun W h => words_calls W p v s f d h⟩ ⟨fun W => room_calls (d.B.length / 8) W (by omega)⟩
    ⟨fun W hr => pad_calls A c l W hr (by omega)⟩ ⟨hr⟩ ⟨⟨by omega, by omega, by omega, by omega⟩⟩ ⟨by rw [padL_length]; omega⟩ (by rw [padL_length]; omega) hg0 (by simp; omega) (by simp; omega) ?_ ?_ (by rw [newAt]; omega) hk2
  · rcases hk1 with e | e
    · rw [e]
      simp only [Int.zero_mul, Int.toNat_zero, Nat.zero_mul]
      rfl
    · rw [e]
      simp only [Int.one_mul, Int.toNat_one, Nat.one_mul]
      exact IntWalk.i64_in _ (by omega)
  · rw [IntWalk.i64_in _ (by omega), newAt]
    push_cast
    rfl
end Go.Proofs.Ytbfogcckbhkciaa.Hand
