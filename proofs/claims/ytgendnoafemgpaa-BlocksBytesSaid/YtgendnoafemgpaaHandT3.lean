/- What a claim needs of the walks and contracts, part 3. -/
import Derived.Test.YtgendnoafemgpaaProg
import Derived.Below
import Derived.Deep.Draws
import Derived.Deep.AppendLies
import Derived.Maps.AppendAt
import Derived.OwnWalk
import Derived.Laws.BytesArg
import Derived.Laws.MakeOwn
import Derived.Laws.OwnMore
import Derived.Deep.OwnRows
import Derived.Tactics
import Derived.Lib.ConvBytes
import Derived.Laws.Slices
import Derived.WalkKit
import Derived.KernelRfl
import Derived.RowKit3
import Derived.Deep.LoopGhost
import Derived.Deep.QuietTactic
import Derived.BigQuiet
import Derived.WideLaws
import Derived.Deep.DeepCutAuto
import Derived.Deep.CutBlock
import Derived.Deep.RegionHeld3
import Derived.Laws.Rows
import Derived.Lib.AppendStr
import Derived.ArgAppend
import Derived.Laws.IdiomCopy
import Derived.OrdersHeld
import Derived.Laws.BitsLemmas
import Derived.RowKit
import Derived.Test.YtgendnoafemgpaaWWords
import Derived.Test.YtgendnoafemgpaaWLast
import Derived.Test.YtgendnoafemgpaaWTab
import Derived.Test.YtgendnoafemgpaaWFour
import Derived.Test.YtgendnoafemgpaaWQPut
import Derived.Test.YtgendnoafemgpaaWApart
import Derived.Test.YtgendnoafemgpaaWArr
import Derived.Test.YtgendnoafemgpaaWZeros
import Derived.Test.YtgendnoafemgpaaWFoot
import Derived.Test.YtgendnoafemgpaaWKept
import Derived.Test.YtgendnoafemgpaaWShare
import Derived.Test.YtgendnoafemgpaaWN
import Derived.Test.YtgendnoafemgpaaWFootNe
import Derived.Test.YtgendnoafemgpaaWAt
import Derived.Test.YtgendnoafemgpaaWEqStruct
import Derived.Test.YtgendnoafemgpaaWRepsOne
import Derived.Test.YtgendnoafemgpaaWInv
import Derived.Test.YtgendnoafemgpaaWInvWords
import Derived.Test.YtgendnoafemgpaaWGuard
import Derived.Test.YtgendnoafemgpaaWNEv
import Derived.Test.YtgendnoafemgpaaWMore
import Derived.Test.YtgendnoafemgpaaHandT2
namespace Go.Proofs.Ytgendnoafemgpaa.PHandRB
open Go.RowKit Go.Proofs.YtgendnoafemgpaaW.PrintWords Go.Proofs.YtgendnoafemgpaaW.PrintLast Go.Proofs.YtgendnoafemgpaaW.PrintMore
attribute [local go_sem] max2_int min2_int max_two min_two max_three min_three max_four min_four   -- for this text's walks alone
set_option linter.unusedVariables false
set_option linter.unusedSimpArgs false



def errW : Option Int → Value
 | none => .nilIface
 | some c => .iface 0 (.int .i64 c)
theorem errW_none : errW none = .nilIface := rfl
theorem errW_some (c : Int) : errW (some c) = .iface 0 (.int .i64 c) := rfl

theorem info3 : (Try.prog.info? 3).map (fun i => (i.zero, i.size, i.bytes)) = some (some (.int .i64 0), 1, 8) := by kernel_rfl
structure S29 where
 f0 : Int
 f1 : Int
 f2 : Int
def k29 : Kd S29 := Kd.iso (Kd.pair (Kd.int .i64) (Kd.pair (Kd.int .i64) (Kd.int .i64))) (fun x : S29 => (x.f0, x.f1, x.f2))
def ecdysislaw10_few.f (a0 : Int) (l1 : List (S29)) : Option (Bool) := if (l1.length : Int) ≤ 60 then (if a0 ≤ 60 then (some true) else (some (decide (a0 > 1024)))) else (some false)
set_option maxHeartbeats 8000000 in
set_option maxRecDepth 100000 in
theorem ecdysislaw10_few.calls (a0 : Int) (A1 : Option Addr) (c1 : Nat) (l1 : List (S29)) (r : Bool) (w : World) (hr1 : Kd.C k29 w A1 l1.length l1) (hc1 : l1.length ≤ c1) (h : ecdysislaw10_few.f a0 l1 = some r) :
  Calls Try.prog 16 #[.int .i64 a0, .slice A1 l1.length c1] w fun e w' => e = .returned (.bool r) ∧ Drawn0 w w' := by
 have HR1 := Aside0.mk hr1
 have HC1 := Aside0.mk hc1
 clear hr1 hc1
 have H : (if (l1.length : Int) ≤ 60 then (if a0 ≤ 60 then (some true) else (some (decide (a0 > 1024)))) else (some false)) = some r := h
 clear h
 by_cases c3 : (l1.length : Int) ≤ 60
 ·rw [if_pos c3] at H
  have c3b0 : decide ((l1.length : Int) ≤ 60) = true := decide_eq_true c3
  have c3b1 : decide (l1.length ≤ 60) = true := decide_eq_true (by omega)
  clear c3
  by_cases c4 : a0 ≤ 60
  ·rw [if_pos c4] at H
   have c4b0 : decide (a0 ≤ 60) = true := decide_eq_true c4
   clear c4
   obtain rfl := Option.some.inj H
   go_enter Try.func16, Try.ntmps16
   go_wp2
   go_ret
   exact ⟨by first | rfl | (simp; done) | (simp [*]; done), by repeat (first | exact Drawn0.refl _ | apply Drawn0.step)⟩
  ·rw [if_neg c4] at H
   have c4b0 : decide (a0 ≤ 60) = false := decide_eq_false c4
   clear c4
   obtain rfl := Option.some.inj H
   go_enter Try.func16, Try.ntmps16
   go_wp2
   go_ret
   exact ⟨by first | rfl | (simp; done) | (simp [*]; done), by repeat (first | exact Drawn0.refl _ | apply Drawn0.step)⟩
 ·rw [if_neg c3] at H
  have c3b0 : decide ((l1.length : Int) ≤ 60) = false := decide_eq_false c3
  have c3b1 : decide (l1.length ≤ 60) = false := decide_eq_false (by omega)
  clear c3
  obtain rfl := Option.some.inj H
  go_enter Try.func16, Try.ntmps16
  go_wp2
  go_ret
  exact ⟨by first | rfl | (simp; done) | (simp [*]; done), by repeat (first | exact Drawn0.refl _ | apply Drawn0.step)⟩




/-! ### ecdysisref10_Starts: function 24 -/
def ecdysisref10_Starts.l0 : Nat → List Int → List Int → Int → Option (List Int)
 | 0, _, _, _ => none
 | k + 1, x0, x3, x4 => if x4 < (x0.length : Int) then (if 0 ≤ x4 then (if (rd x0 x4) = (wrap64 (x4 + 1)) then (if x3.length < 17592186044416 then (ecdysisref10_Starts.l0 k x0 (x3 ++ [x4]) (wrap64 (x4 + 1))) else (none)) else (ecdysisref10_Starts.l0 k x0 x3 (wrap64 (x4 + 1)))) else (none)) else (some x3)
def ecdysisref10_Starts.f (k : Nat) (l0 : List Int) : Option (List Int) := ecdysisref10_Starts.l0 k l0 ([] : List Int) 0
theorem ecdysisref10_Starts.mono_l : ∀ k, (∀ y0 y1 y2, LeO (ecdysisref10_Starts.l0 k y0 y1 y2) (ecdysisref10_Starts.l0 (k + 1) y0 y1 y2))
 | 0 => fun _ _ _ r h => by simp [ecdysisref10_Starts.l0] at h
 | k + 1 => by
  have ih0 := ecdysisref10_Starts.mono_l k
  ·intro y0 y1 y2
   unfold ecdysisref10_Starts.l0
   repeat' first
   | (with_reducible exact ih0 _ _ _)
   | (with_reducible exact LeO.refl _)
   | (with_reducible exact LeO.none _)
   | (with_reducible refine LeO.ite ?_ ?_)
   | (with_reducible refine LeO.bind ?_ (fun _ => ?_))
   | exact ih0 _ _ _
   | exact LeO.none _
   | refine LeO.ite ?_ ?_
   | refine LeO.bind ?_ (fun _ => ?_)
theorem ecdysisref10_Starts.mono : ∀ a0 k, LeO (ecdysisref10_Starts.f k a0) (ecdysisref10_Starts.f (k + 1) a0) := by
 intro a0 k
 have ih0 := ecdysisref10_Starts.mono_l k
 unfold ecdysisref10_Starts.f
 repeat' first
   | (with_reducible exact ih0 _ _ _)
   | (with_reducible exact LeO.refl _)
   | (with_reducible exact LeO.none _)
   | (with_reducible refine LeO.ite ?_ ?_)
   | (with_reducible refine LeO.bind ?_ (fun _ => ?_))
   | exact ih0 _ _ _
   | exact LeO.none _
   | refine LeO.ite ?_ ?_
   | refine LeO.bind ?_ (fun _ => ?_)
set_option maxHeartbeats 8000000 in
set_option maxRecDepth 100000 in
theorem ecdysisref10_Starts.calls (k : Nat) (A0 : Option Addr) (c0 : Nat) (l0 : List Int) (r : List Int) (w : World) (hr0 : Kd.C (Kd.int .i64) w A0 l0.length l0) (hc0 : l0.length ≤ c0) (h : ecdysisref10_Starts.f k l0 = some r) :
  Calls Try.prog 24 #[.slice A0 l0.length c0] w fun e w' => ∃ v0_ : Value, e = .returned (v0_) ∧ Kd.R (Kd.int .i64) 3 w' w.heap.size (fun _ => True) v0_ r ∧ Below w.heap.size w w' := by
 have HR0 := Aside0.mk hr0
 have HC0 := Aside0.mk hc0
 clear hr0 hc0
 have HB := Aside0.mk (Below.refl w.heap.size w)
 have H : (ecdysisref10_Starts.l0 k l0 ([] : List Int) 0) = some r := h
 clear h
 have H' := Aside0.mk H
 clear H
 go_enter Try.func24, Try.ntmps24
 go_wp2
 go_loopg [3, 4] k (fun kq v3 v4 w' => ∃ (x3_1 : List Int) (x4_1 : Int), v4 = .int .i64 x4_1 ∧ Aside0 (ecdysisref10_Starts.l0 kq l0 x3_1 x4_1 = some r) ∧ Aside0 (kq ≤ k) ∧ Aside0 (Kd.R (Kd.int .i64) 3 w' w.heap.size (fun _ => True) v3 x3_1) ∧ Aside0 (Below w.heap.size w w'))
 case atStart => exact ⟨(([] : List Int)), (0), (by first | rfl | (simp; done) | (simp [*]; done)), H', ⟨Nat.le_refl _⟩, ⟨by first | exact Kd.R_nil _ _ _ _ _ | exact Kd.N_nil _ _ _ _ _ | exact Kd.V_nil _ _ _ _ _ | exact Kd.Q_nil _ _ _ _ _ | exact Kd.S_nil _ _ _ _ _⟩, ⟨by repeat (first | (with_reducible first | exact HB.out | apply below_alloc | apply pw_below_drewN | apply below_drew1) | exact HB.out)⟩⟩
 case round =>
  clear H'
  obtain ⟨x3_1, x4_1, rfl, HA, HK1, HO_3, HB⟩ := hrel
  cases gk with
  | zero => exact absurd HA.out (by simp [ecdysisref10_Starts.l0])
  | succ k1 =>
   have H := HA.out
   clear HA
   simp only [ecdysisref10_Starts.l0] at H
   by_cases c2 : x4_1 < (l0.length : Int)
   ·rw [if_pos c2] at H
    have c2b0 : decide (x4_1 < (l0.length : Int)) = true := decide_eq_true c2
    clear c2
    by_cases c3 : 0 ≤ x4_1
    ·rw [if_pos c3] at H
     have c3b0 : decide (0 ≤ x4_1) = true := decide_eq_true c3
     clear c3
     by_cases c4 : (rd l0 x4_1) = (wrap64 (x4_1 + 1))
     ·rw [if_pos c4] at H
      have c4b0 : ((rd l0 x4_1) == (wrap64 (x4_1 + 1))) = true := beq_iff_eq.mpr c4
      have c4b1 : ((rd l0 x4_1) != (wrap64 (x4_1 + 1))) = false := bne_eq_false_iff_eq.mpr c4
      clear c4
      by_cases c5 : x3_1.length < 17592186044416
      ·rw [if_pos c5] at H
       have LMc5 := Aside0.mk c5
       clear c5
       obtain ⟨y109, hy109⟩ : ∃ y_ : List Int, y_ = (x3_1 ++ [x4_1]) := ⟨_, rfl⟩
       replace H : (ecdysisref10_Starts.l0 k1 l0 y109 (wrap64 (x4_1 + 1))) = some r := by first | (rw [hy109]; with_reducible exact H) | (have H2_ := (Option.bind_some _ _).symm.trans H; rw [hy109]; with_reducible exact H2_) | (have H2_ := (Option.bind_some _ _).symm.trans H; with_reducible exact H2_) | with_reducible exact H | (rw [hy109]; exact H) | exact H
       have Ny109 := Aside0.mk hy109
       clear hy109
       have H' := Aside0.mk H
       clear H
       have p108 : 0 ≤ (x4_1 : Int) := of_decide_eq_true (by first | (with_reducible assumption) | assumption)
       have q108 : x4_1 < (l0.length : Int) := of_decide_eq_true (by first | (with_reducible assumption) | assumption)
       obtain ⟨ad108, e108, hx108_0⟩ := Kd.at_int HR0.out x4_1 p108 q108
       cases e108
       replace hx108_0 := (HB.out.cell (World.block_lt_of_cell? w _ hx108_0)).trans hx108_0
       replace p108 := eq_true p108
       replace q108 := eq_true q108
       go_wp2_with (first | ((with_reducible refine gate_builtin (b := .append) (xs := #[.tmp 18, .tmp 20]) rfl ?_); at_builtin; refine Kd.R_append (Kd.int .i64) (w0 := w) w.heap.size rfl (.tmp 18) (.tmp 20) 36 3 (.int .i64 0) 8 rfl Try.underlying36 info3 rfl (by decide) (by omega) u3 x3_1 x4_1 [.int .i64 x4_1] (fun _ => True) (fun _ => False) rfl rfl ?aP (fun _ hk => hk.elim) ?aF ?aO ?aB ?aS ?aL ?_; (case aP => exact rfl); (case aB => exact (by repeat (first | (with_reducible first | exact HB.out | apply below_alloc | apply pw_below_drewN | apply below_drew1) | exact HB.out))); (case aF => exact (fun _ _ => trivial)); (case aO => exact (by (with_reducible repeat (first | apply Kd.R_alloc | apply Kd.R_drewN | apply Kd.R_drew)); exact HO_3.out)); (case aS => exact (below_size (by repeat (first | (with_reducible first | exact HB.out | apply below_alloc | apply pw_below_drewN | apply below_drew1) | exact HB.out)))); (case aL => have := LMc5.out; omega); intro v110 w6 ho hb hg hat; rw [← Ny109.out] at ho; have n0_ := Aside0.mk (hb); have n1_ := Aside0.mk (ho); clear HB; clear HO_3; have HB := n0_; have HO111 := n1_; clear n0_ n1_; clear ho hb hg hat))
       go_roundg k1
       case measure => have := HK1.out; omega
       case rel => exact ⟨(y109), (wrap64 (x4_1 + 1)), (by first | rfl | (simp; done) | (simp [*]; done)), H', ⟨by have := HK1.out; omega⟩, ⟨by (with_reducible repeat (first | apply Kd.R_alloc | apply Kd.R_drewN | apply Kd.R_drew)); exact HO111.out⟩, ⟨by repeat (first | (with_reducible first | exact HB.out | apply below_alloc | apply pw_below_drewN | apply below_drew1) | exact HB.out)⟩⟩
      ·rw [if_neg c5] at H
       exact absurd H (by simp)
     ·rw [if_neg c4] at H
      have c4b0 : ((rd l0 x4_1) == (wrap64 (x4_1 + 1))) = false := beq_eq_false_iff_ne.mpr c4
      have c4b1 : ((rd l0 x4_1) != (wrap64 (x4_1 + 1))) = true := bne_iff_ne.mpr c4
      have H' := Aside0.mk H
      clear H
      have p108 : 0 ≤ (x4_1 : Int) := of_decide_eq_true (by first | (with_reducible assumption) | assumption)
      have q108 : x4_1 < (l0.length : Int) := of_decide_eq_true (by first | (with_reducible assumption) | assumption)
      obtain ⟨ad108, e108, hx108_0⟩ := Kd.at_int HR0.out x4_1 p108 q108
      cases e108
      replace hx108_0 := (HB.out.cell (World.block_lt_of_cell? w _ hx108_0)).trans hx108_0
      replace p108 := eq_true p108
      replace q108 := eq_true q108
      go_wp2
      go_roundg k1
      case measure => have := HK1.out; omega
      case rel => exact ⟨(x3_1), (wrap64 (x4_1 + 1)), (by first | rfl | (simp; done) | (simp [*]; done)), H', ⟨by have := HK1.out; omega⟩, ⟨by (with_reducible repeat (first | apply Kd.R_alloc | apply Kd.R_drewN | apply Kd.R_drew)); exact HO_3.out⟩, ⟨by repeat (first | (with_reducible first | exact HB.out | apply below_alloc | apply pw_below_drewN | apply below_drew1) | exact HB.out)⟩⟩
    ·rw [if_neg c3] at H
     exact absurd H (by simp)
   ·rw [if_neg c2] at H
    have c2b0 : decide (x4_1 < (l0.length : Int)) = false := decide_eq_false c2
    clear c2
    obtain rfl := Option.some.inj H
    go_wp2
    go_ret
    exact ⟨_, by first | rfl | (simp [errW_none, errW_some] <;> rfl) | (simp [*, errW_none, errW_some] <;> rfl), by (with_reducible repeat (first | apply Kd.R_alloc | apply Kd.R_drewN | apply Kd.R_drew)); exact HO_3.out, by repeat (first | (with_reducible first | exact HB.out | apply below_alloc | apply pw_below_drewN | apply below_drew1) | exact HB.out)⟩


/-! ### ecdysisref10_Long: function 35 -/
def ecdysisref10_Long.l0 : Nat → List Int → Int → Int → Int → Option (Int)
 | 0, _, _, _, _ => none
 | k + 1, x0, x1, x5, x6 => if x6 < (x0.length : Int) then (if 0 ≤ x6 then (if (rd x0 x6) = (wrap64 (x1 + 1)) then (if x1 ≥ 0 then (ecdysisref10_Long.l0 k x0 x1 (wrap64 (x5 + 1)) (wrap64 (x6 + 1))) else (ecdysisref10_Long.l0 k x0 x1 x5 (wrap64 (x6 + 1)))) else (ecdysisref10_Long.l0 k x0 x1 x5 (wrap64 (x6 + 1)))) else (none)) else (some x5)
def ecdysisref10_Long.f (k : Nat) (l0 : List Int) (a1 : Int) : Option (Int) := ecdysisref10_Long.l0 k l0 a1 0 0
theorem ecdysisref10_Long.mono_l : ∀ k, (∀ y0 y1 y2 y3, LeO (ecdysisref10_Long.l0 k y0 y1 y2 y3) (ecdysisref10_Long.l0 (k + 1) y0 y1 y2 y3))
 | 0 => fun _ _ _ _ r h => by simp [ecdysisref10_Long.l0] at h
 | k + 1 => by
  have ih0 := ecdysisref10_Long.mono_l k
  ·intro y0 y1 y2 y3
   unfold ecdysisref10_Long.l0
   repeat' first
   | (with_reducible exact ih0 _ _ _ _)
   | (with_reducible exact LeO.refl _)
   | (with_reducible exact LeO.none _)
   | (with_reducible refine LeO.ite ?_ ?_)
   | (with_reducible refine LeO.bind ?_ (fun _ => ?_))
   | exact ih0 _ _ _ _
   | exact LeO.none _
   | refine LeO.ite ?_ ?_
   | refine LeO.bind ?_ (fun _ => ?_)
theorem ecdysisref10_Long.mono : ∀ a0 a1 k, LeO (ecdysisref10_Long.f k a0 a1) (ecdysisref10_Long.f (k + 1) a0 a1) := by
 intro a0 a1 k
 have ih0 := ecdysisref10_Long.mono_l k
 unfold ecdysisref10_Long.f
 repeat' first
   | (with_reducible exact ih0 _ _ _ _)
   | (with_reducible exact LeO.refl _)
   | (with_reducible exact LeO.none _)
   | (with_reducible refine LeO.ite ?_ ?_)
   | (with_reducible refine LeO.bind ?_ (fun _ => ?_))
   | exact ih0 _ _ _ _
   | exact LeO.none _
   | refine LeO.ite ?_ ?_
   | refine LeO.bind ?_ (fun _ => ?_)
set_option maxHeartbeats 8000000 in
set_option maxRecDepth 100000 in
theorem ecdysisref10_Long.calls (k : Nat) (A0 : Option Addr) (c0 : Nat) (l0 : List Int) (a1 : Int) (r : Int) (w : World) (hr0 : Kd.C (Kd.int .i64) w A0 l0.length l0) (hc0 : l0.length ≤ c0) (h : ecdysisref10_Long.f k l0 a1 = some r) :
  Calls Try.prog 35 #[.slice A0 l0.length c0, .int .i64 a1] w fun e w' => e = .returned (.int .i64 r) ∧ Drawn0 w w' := by
 have HR0 := Aside0.mk hr0
 have HC0 := Aside0.mk hc0
 clear hr0 hc0
 have H : (ecdysisref10_Long.l0 k l0 a1 0 0) = some r := h
 clear h
 have H' := Aside0.mk H
 clear H
 go_enter Try.func35, Try.ntmps35
 go_wp2
 go_loopg [5, 6] k (fun kq v5 v6 w' => ∃ (x5_1 : Int) (x6_1 : Int), v5 = .int .i64 x5_1 ∧ v6 = .int .i64 x6_1 ∧ Aside0 (ecdysisref10_Long.l0 kq l0 a1 x5_1 x6_1 = some r) ∧ Aside0 (kq ≤ k) ∧ Drawn0 w w')
 case atStart => exact ⟨(0), (0), (by first | rfl | (simp; done) | (simp [*]; done)), (by first | rfl | (simp; done) | (simp [*]; done)), H', ⟨Nat.le_refl _⟩, by repeat (first | exact Drawn0.refl _ | apply Drawn0.step)⟩
 case round =>
  clear H'
  try clear p2
  obtain ⟨x5_1, x6_1, rfl, rfl, HA, HK1, ⟨m1, rfl⟩⟩ := hrel
  cases gk with
  | zero => exact absurd HA.out (by simp [ecdysisref10_Long.l0])
  | succ k1 =>
   have H := HA.out
   clear HA
   simp only [ecdysisref10_Long.l0] at H
   by_cases c3 : x6_1 < (l0.length : Int)
   ·rw [if_pos c3] at H
    have c3b0 : decide (x6_1 < (l0.length : Int)) = true := decide_eq_true c3
    clear c3
    by_cases c4 : 0 ≤ x6_1
    ·rw [if_pos c4] at H
     have c4b0 : decide (0 ≤ x6_1) = true := decide_eq_true c4
     clear c4
     by_cases c5 : (rd l0 x6_1) = (wrap64 (a1 + 1))
     ·rw [if_pos c5] at H
      have c5b0 : ((rd l0 x6_1) == (wrap64 (a1 + 1))) = true := beq_iff_eq.mpr c5
      have c5b1 : ((rd l0 x6_1) != (wrap64 (a1 + 1))) = false := bne_eq_false_iff_eq.mpr c5
      clear c5
      by_cases c6 : a1 ≥ 0
      ·rw [if_pos c6] at H
       have c6b0 : decide (0 ≤ a1) = true := decide_eq_true c6
       clear c6
       have H' := Aside0.mk H
       clear H
       have p112 : 0 ≤ (x6_1 : Int) := of_decide_eq_true (by first | (with_reducible assumption) | assumption)
       have q112 : x6_1 < (l0.length : Int) := of_decide_eq_true (by first | (with_reducible assumption) | assumption)
       obtain ⟨ad112, e112, hx112_0⟩ := Kd.at_int HR0.out x6_1 p112 q112
       cases e112
       replace p112 := eq_true p112
       replace q112 := eq_true q112
       go_wp2
       go_roundg k1
       case measure => have := HK1.out; omega
       case rel => exact ⟨(wrap64 (x5_1 + 1)), (wrap64 (x6_1 + 1)), (by first | rfl | (simp; done) | (simp [*]; done)), (by first | rfl | (simp; done) | (simp [*]; done)), H', ⟨by have := HK1.out; omega⟩, by repeat (first | exact Drawn0.refl _ | apply Drawn0.step)⟩
      ·rw [if_neg c6] at H
       have c6b0 : decide (0 ≤ a1) = false := decide_eq_false c6
       clear c6
       have H' := Aside0.mk H
       clear H
       have p112 : 0 ≤ (x6_1 : Int) := of_decide_eq_true (by first | (with_reducible assumption) | assumption)
       have q112 : x6_1 < (l0.length : Int) := of_decide_eq_true (by first | (with_reducible assumption) | assumption)
       obtain ⟨ad112, e112, hx112_0⟩ := Kd.at_int HR0.out x6_1 p112 q112
       cases e112
       replace p112 := eq_true p112
       replace q112 := eq_true q112
       go_wp2
       go_roundg k1
       case measure => have := HK1.out; omega
       case rel => exact ⟨(x5_1), (wrap64 (x6_1 + 1)), (by first | rfl | (simp; done) | (simp [*]; done)), (by first | rfl | (simp; done) | (simp [*]; done)), H', ⟨by have := HK1.out; omega⟩, by repeat (first | exact Drawn0.refl _ | apply Drawn0.step)⟩
     ·rw [if_neg c5] at H
      have c5b0 : ((rd l0 x6_1) == (wrap64 (a1 + 1))) = false := beq_eq_false_iff_ne.mpr c5
      have c5b1 : ((rd l0 x6_1) != (wrap64 (a1 + 1))) = true := bne_iff_ne.mpr c5
      have H' := Aside0.mk H
      clear H
      have p112 : 0 ≤ (x6_1 : Int) := of_decide_eq_true (by first | (with_reducible assumption) | assumption)
      have q112 : x6_1 < (l0.length : Int) := of_decide_eq_true (by first | (with_reducible assumption) | assumption)
      obtain ⟨ad112, e112, hx112_0⟩ := Kd.at_int HR0.out x6_1 p112 q112
      cases e112
      replace p112 := eq_true p112
      replace q112 := eq_true q112
      go_wp2
      go_roundg k1
      case measure => have := HK1.out; omega
      case rel => exact ⟨(x5_1), (wrap64 (x6_1 + 1)), (by first | rfl | (simp; done) | (simp [*]; done)), (by first | rfl | (simp; done) | (simp [*]; done)), H', ⟨by have := HK1.out; omega⟩, by repeat (first | exact Drawn0.refl _ | apply Drawn0.step)⟩
    ·rw [if_neg c4] at H
     exact absurd H (by simp)
   ·rw [if_neg c3] at H
    have c3b0 : decide (x6_1 < (l0.length : Int)) = false := decide_eq_false c3
    clear c3
    obtain rfl := Option.some.inj H
    go_wp2
    go_ret
    exact ⟨by first | rfl | (simp; done) | (simp [*]; done), by repeat (first | exact Drawn0.refl _ | apply Drawn0.step)⟩


/-! ### ecdysisref03_Same: function 36 -/
def ecdysisref03_Same.l0 : Nat → List Int → List Int → Int → Option (Bool)
 | 0, _, _, _ => none
 | k + 1, x0, x1, x5 => if x5 < (x0.length : Int) then (if 0 ≤ x5 then (if x5 < (x1.length : Int) then (if (rd x0 x5) = (rd x1 x5) then (ecdysisref03_Same.l0 k x0 x1 (wrap64 (x5 + 1))) else (some false)) else (none)) else (none)) else (some true)
def ecdysisref03_Same.f (k : Nat) (l0 : List Int) (l1 : List Int) : Option (Bool) := if (l0.length : Int) = (l1.length : Int) then (ecdysisref03_Same.l0 k l0 l1 0) else (some false)
theorem ecdysisref03_Same.mono_l : ∀ k, (∀ y0 y1 y2, LeO (ecdysisref03_Same.l0 k y0 y1 y2) (ecdysisref03_Same.l0 (k + 1) y0 y1 y2))
 | 0 => fun _ _ _ r h => by simp [ecdysisref03_Same.l0] at h
 | k + 1 => by
  have ih0 := ecdysisref03_Same.mono_l k
  ·intro y0 y1 y2
   unfold ecdysisref03_Same.l0
   repeat' first
   | (with_reducible exact ih0 _ _ _)
   | (with_reducible exact LeO.refl _)
   | (with_reducible exact LeO.none _)
   | (with_reducible refine LeO.ite ?_ ?_)
   | (with_reducible refine LeO.bind ?_ (fun _ => ?_))
   | exact ih0 _ _ _
   | exact LeO.none _
   | refine LeO.ite ?_ ?_
   | refine LeO.bind ?_ (fun _ => ?_)
theorem ecdysisref03_Same.mono : ∀ a0 a1 k, LeO (ecdysisref03_Same.f k a0 a1) (ecdysisref03_Same.f (k + 1) a0 a1) := by
 intro a0 a1 k
 have ih0 := ecdysisref03_Same.mono_l k
 unfold ecdysisref03_Same.f
 repeat' first
   | (with_reducible exact ih0 _ _ _)
   | (with_reducible exact LeO.refl _)
   | (with_reducible exact LeO.none _)
   | (with_reducible refine LeO.ite ?_ ?_)
   | (with_reducible refine LeO.bind ?_ (fun _ => ?_))
   | exact ih0 _ _ _
   | exact LeO.none _
   | refine LeO.ite ?_ ?_
   | refine LeO.bind ?_ (fun _ => ?_)
set_option maxHeartbeats 8000000 in
set_option maxRecDepth 100000 in
theorem ecdysisref03_Same.calls (k : Nat) (A0 : Option Addr) (c0 : Nat) (l0 : List Int) (A1 : Option Addr) (c1 : Nat) (l1 : List Int) (r : Bool) (w : World) (hr0 : Kd.C (Kd.int .i64) w A0 l0.length l0) (hc0 : l0.length ≤ c0) (hr1 : Kd.C (Kd.int .i64) w A1 l1.length l1) (hc1 : l1.length ≤ c1) (h : ecdysisref03_Same.f k l0 l1 = some r) :
  Calls Try.prog 36 #[.slice A0 l0.length c0, .slice A1 l1.length c1] w fun e w' => e = .returned (.bool r) ∧ Drawn0 w w' := by
 have HR0 := Aside0.mk hr0
 have HC0 := Aside0.mk hc0
 clear hr0 hc0
 have HR1 := Aside0.mk hr1
 have HC1 := Aside0.mk hc1
 clear hr1 hc1
 have H : (if (l0.length : Int) = (l1.length : Int) then (ecdysisref03_Same.l0 k l0 l1 0) else (some false)) = some r := h
 clear h
 by_cases c3 : (l0.length : Int) = (l1.length : Int)
 ·rw [if_pos c3] at H
  have c3b0 : ((l0.length : Int) == (l1.length : Int)) = true := beq_iff_eq.mpr c3
  have c3b1 : ((l0.length : Int) != (l1.length : Int)) = false := bne_eq_false_iff_eq.mpr c3
  have c3b2 : (l0.length == l1.length) = true := by first | simpa using c3 | (simp at c3 ⊢; omega)
  clear c3
  have H' := Aside0.mk H
  clear H
  go_enter Try.func36, Try.ntmps36
  go_wp2
  repeat (go_quiet (fail); try go_wp2)
  go_loopg [5] k (fun kq v5 w' => ∃ (x5_1 : Int), v5 = .int .i64 x5_1 ∧ Aside0 (ecdysisref03_Same.l0 kq l0 l1 x5_1 = some r) ∧ Aside0 (kq ≤ k) ∧ Drawn0 w w')
  case atStart => exact ⟨(0), (by first | rfl | (simp; done) | (simp [*]; done)), H', ⟨Nat.le_refl _⟩, by repeat (first | exact Drawn0.refl _ | apply Drawn0.step)⟩
  case round =>
   clear H'
   try clear c1
   try clear p2
   try clear c3
   try clear c3b0
   try clear c3b1
   try clear c3b2
   obtain ⟨x5_1, rfl, HA, HK1, ⟨m1, rfl⟩⟩ := hrel
   cases gk with
   | zero => exact absurd HA.out (by simp [ecdysisref03_Same.l0])
   | succ k1 =>
    have H := HA.out
    clear HA
    simp only [ecdysisref03_Same.l0] at H
    by_cases c4 : x5_1 < (l0.length : Int)
    ·rw [if_pos c4] at H
     have c4b0 : decide (x5_1 < (l0.length : Int)) = true := decide_eq_true c4
     clear c4
     by_cases c5 : 0 ≤ x5_1
     ·rw [if_pos c5] at H
      have c5b0 : decide (0 ≤ x5_1) = true := decide_eq_true c5
      clear c5
      by_cases c6 : x5_1 < (l1.length : Int)
      ·rw [if_pos c6] at H
       have c6b0 : decide (x5_1 < (l1.length : Int)) = true := decide_eq_true c6
       clear c6
       by_cases c7 : (rd l0 x5_1) = (rd l1 x5_1)
       ·rw [if_pos c7] at H
        have c7b0 : ((rd l0 x5_1) == (rd l1 x5_1)) = true := beq_iff_eq.mpr c7
        have c7b1 : ((rd l0 x5_1) != (rd l1 x5_1)) = false := bne_eq_false_iff_eq.mpr c7
        clear c7
        have H' := Aside0.mk H
        clear H
        have p113 : 0 ≤ (x5_1 : Int) := of_decide_eq_true (by first | (with_reducible assumption) | assumption)
        have q113 : x5_1 < (l0.length : Int) := of_decide_eq_true (by first | (with_reducible assumption) | assumption)
        obtain ⟨ad113, e113, hx113_0⟩ := Kd.at_int HR0.out x5_1 p113 q113
        cases e113
        replace p113 := eq_true p113
        replace q113 := eq_true q113
        have p114 : 0 ≤ (x5_1 : Int) := of_decide_eq_true (by first | (with_reducible assumption) | assumption)
        have q114 : x5_1 < (l1.length : Int) := of_decide_eq_true (by first | (with_reducible assumption) | assumption)
        obtain ⟨ad114, e114, hx114_0⟩ := Kd.at_int HR1.out x5_1 p114 q114
        cases e114
        replace p114 := eq_true p114
        replace q114 := eq_true q114
        go_wp2
        repeat (go_quiet (fail); try go_wp2)
        go_roundg k1
        case measure => have := HK1.out; omega
        case rel => exact ⟨(wrap64 (x5_1 + 1)), (by first | rfl | (simp; done) | (simp [*]; done)), H', ⟨by have := HK1.out; omega⟩, by repeat (first | exact Drawn0.refl _ | apply Drawn0.step)⟩
       ·rw [if_neg c7] at H
        have c7b0 : ((rd l0 x5_1) == (rd l1 x5_1)) = false := beq_eq_false_iff_ne.mpr c7
        have c7b1 : ((rd l0 x5_1) != (rd l1 x5_1)) = true := bne_iff_ne.mpr c7
        obtain rfl := Option.some.inj H
        have p113 : 0 ≤ (x5_1 : Int) := of_decide_eq_true (by first | (with_reducible assumption) | assumption)
        have q113 : x5_1 < (l0.length : Int) := of_decide_eq_true (by first | (with_reducible assumption) | assumption)
        obtain ⟨ad113, e113, hx113_0⟩ := Kd.at_int HR0.out x5_1 p113 q113
        cases e113
        replace p113 := eq_true p113
        replace q113 := eq_true q113
        have p114 : 0 ≤ (x5_1 : Int) := of_decide_eq_true (by first | (with_reducible assumption) | assumption)
        have q114 : x5_1 < (l1.length : Int) := of_decide_eq_true (by first | (with_reducible assumption) | assumption)
        obtain ⟨ad114, e114, hx114_0⟩ := Kd.at_int HR1.out x5_1 p114 q114
        cases e114
        replace p114 := eq_true p114
        replace q114 := eq_true q114
        go_wp2
        repeat (go_quiet (fail); try go_wp2)
        go_ret
        exact ⟨by first | rfl | (simp; done) | (simp [*]; done), by repeat (first | exact Drawn0.refl _ | apply Drawn0.step)⟩
      ·rw [if_neg c6] at H
       exact absurd H (by simp)
     ·rw [if_neg c5] at H
      exact absurd H (by simp)
    ·rw [if_neg c4] at H
     have c4b0 : decide (x5_1 < (l0.length : Int)) = false := decide_eq_false c4
     clear c4
     obtain rfl := Option.some.inj H
     go_wp2
     repeat (go_quiet (fail); try go_wp2)
     go_ret
     exact ⟨by first | rfl | (simp; done) | (simp [*]; done), by repeat (first | exact Drawn0.refl _ | apply Drawn0.step)⟩
 ·rw [if_neg c3] at H
  have c3b0 : ((l0.length : Int) == (l1.length : Int)) = false := beq_eq_false_iff_ne.mpr c3
  have c3b1 : ((l0.length : Int) != (l1.length : Int)) = true := bne_iff_ne.mpr c3
  have c3b2 : (l0.length == l1.length) = false := by first | simpa using c3 | (simp at c3 ⊢; omega)
  obtain rfl := Option.some.inj H
  go_enter Try.func36, Try.ntmps36
  go_wp2
  repeat (go_quiet (fail); try go_wp2)
  go_ret
  exact ⟨by first | rfl | (simp; done) | (simp [*]; done), by repeat (first | exact Drawn0.refl _ | apply Drawn0.step)⟩



/-! ### ecdysisref10_Used: function 38 -/
def ecdysisref10_Used.l0 : Nat → List Int → Int → Int → Option (Int)
 | 0, _, _, _ => none
 | k + 1, x0, x3, x4 => if x4 < (x0.length : Int) then (if 0 ≤ x4 then (if (rd x0 x4) > 0 then (ecdysisref10_Used.l0 k x0 (wrap64 (x3 + 1)) (wrap64 (x4 + 1))) else (ecdysisref10_Used.l0 k x0 x3 (wrap64 (x4 + 1)))) else (none)) else (some x3)
def ecdysisref10_Used.f (k : Nat) (l0 : List Int) : Option (Int) := ecdysisref10_Used.l0 k l0 0 0
theorem ecdysisref10_Used.mono_l : ∀ k, (∀ y0 y1 y2, LeO (ecdysisref10_Used.l0 k y0 y1 y2) (ecdysisref10_Used.l0 (k + 1) y0 y1 y2))
 | 0 => fun _ _ _ r h => by simp [ecdysisref10_Used.l0] at h
 | k + 1 => by
  have ih0 := ecdysisref10_Used.mono_l k
  ·intro y0 y1 y2
   unfold ecdysisref10_Used.l0
   repeat' first
   | (with_reducible exact ih0 _ _ _)
   | (with_reducible exact LeO.refl _)
   | (with_reducible exact LeO.none _)
   | (with_reducible refine LeO.ite ?_ ?_)
   | (with_reducible refine LeO.bind ?_ (fun _ => ?_))
   | exact ih0 _ _ _
   | exact LeO.none _
   | refine LeO.ite ?_ ?_
   | refine LeO.bind ?_ (fun _ => ?_)
theorem ecdysisref10_Used.mono : ∀ a0 k, LeO (ecdysisref10_Used.f k a0) (ecdysisref10_Used.f (k + 1) a0) := by
 intro a0 k
 have ih0 := ecdysisref10_Used.mono_l k
 unfold ecdysisref10_Used.f
 repeat' first
   | (with_reducible exact ih0 _ _ _)
   | (with_reducible exact LeO.refl _)
   | (with_reducible exact LeO.none _)
   | (with_reducible refine LeO.ite ?_ ?_)
   | (with_reducible refine LeO.bind ?_ (fun _ => ?_))
   | exact ih0 _ _ _
   | exact LeO.none _
   | refine LeO.ite ?_ ?_
   | refine LeO.bind ?_ (fun _ => ?_)
set_option maxHeartbeats 8000000 in
set_option maxRecDepth 100000 in
theorem ecdysisref10_Used.calls (k : Nat) (A0 : Option Addr) (c0 : Nat) (l0 : List Int) (r : Int) (w : World) (hr0 : Kd.C (Kd.int .i64) w A0 l0.length l0) (hc0 : l0.length ≤ c0) (h : ecdysisref10_Used.f k l0 = some r) :
  Calls Try.prog 38 #[.slice A0 l0.length c0] w fun e w' => e = .returned (.int .i64 r) ∧ Drawn0 w w' := by
 have HR0 := Aside0.mk hr0
 have HC0 := Aside0.mk hc0
 clear hr0 hc0
 have H : (ecdysisref10_Used.l0 k l0 0 0) = some r := h
 clear h
 have H' := Aside0.mk H
 clear H
 go_enter Try.func38, Try.ntmps38
 go_wp2
 go_loopg [3, 4] k (fun kq v3 v4 w' => ∃ (x3_1 : Int) (x4_1 : Int), v3 = .int .i64 x3_1 ∧ v4 = .int .i64 x4_1 ∧ Aside0 (ecdysisref10_Used.l0 kq l0 x3_1 x4_1 = some r) ∧ Aside0 (kq ≤ k) ∧ Drawn0 w w')
 case atStart => exact ⟨(0), (0), (by first | rfl | (simp; done) | (simp [*]; done)), (by first | rfl | (simp; done) | (simp [*]; done)), H', ⟨Nat.le_refl _⟩, by repeat (first | exact Drawn0.refl _ | apply Drawn0.step)⟩
 case round =>
  clear H'
  obtain ⟨x3_1, x4_1, rfl, rfl, HA, HK1, ⟨m1, rfl⟩⟩ := hrel
  cases gk with
  | zero => exact absurd HA.out (by simp [ecdysisref10_Used.l0])
  | succ k1 =>
   have H := HA.out
   clear HA
   simp only [ecdysisref10_Used.l0] at H
   by_cases c2 : x4_1 < (l0.length : Int)
   ·rw [if_pos c2] at H
    have c2b0 : decide (x4_1 < (l0.length : Int)) = true := decide_eq_true c2
    clear c2
    by_cases c3 : 0 ≤ x4_1
    ·rw [if_pos c3] at H
     have c3b0 : decide (0 ≤ x4_1) = true := decide_eq_true c3
     clear c3
     by_cases c4 : (rd l0 x4_1) > 0
     ·rw [if_pos c4] at H
      have c4b0 : decide (0 < (rd l0 x4_1)) = true := decide_eq_true c4
      clear c4
      have H' := Aside0.mk H
      clear H
      have p115 : 0 ≤ (x4_1 : Int) := of_decide_eq_true (by first | (with_reducible assumption) | assumption)
      have q115 : x4_1 < (l0.length : Int) := of_decide_eq_true (by first | (with_reducible assumption) | assumption)
      obtain ⟨ad115, e115, hx115_0⟩ := Kd.at_int HR0.out x4_1 p115 q115
      cases e115
      replace p115 := eq_true p115
      replace q115 := eq_true q115
      go_wp2
      go_roundg k1
      case measure => have := HK1.out; omega
      case rel => exact ⟨(wrap64 (x3_1 + 1)), (wrap64 (x4_1 + 1)), (by first | rfl | (simp; done) | (simp [*]; done)), (by first | rfl | (simp; done) | (simp [*]; done)), H', ⟨by have := HK1.out; omega⟩, by repeat (first | exact Drawn0.refl _ | apply Drawn0.step)⟩
     ·rw [if_neg c4] at H
      have c4b0 : decide (0 < (rd l0 x4_1)) = false := decide_eq_false c4
      clear c4
      have H' := Aside0.mk H
      clear H
      have p115 : 0 ≤ (x4_1 : Int) := of_decide_eq_true (by first | (with_reducible assumption) | assumption)
      have q115 : x4_1 < (l0.length : Int) := of_decide_eq_true (by first | (with_reducible assumption) | assumption)
      obtain ⟨ad115, e115, hx115_0⟩ := Kd.at_int HR0.out x4_1 p115 q115
      cases e115
      replace p115 := eq_true p115
      replace q115 := eq_true q115
      go_wp2
      go_roundg k1
      case measure => have := HK1.out; omega
      case rel => exact ⟨(x3_1), (wrap64 (x4_1 + 1)), (by first | rfl | (simp; done) | (simp [*]; done)), (by first | rfl | (simp; done) | (simp [*]; done)), H', ⟨by have := HK1.out; omega⟩, by repeat (first | exact Drawn0.refl _ | apply Drawn0.step)⟩
    ·rw [if_neg c3] at H
     exact absurd H (by simp)
   ·rw [if_neg c2] at H
    have c2b0 : decide (x4_1 < (l0.length : Int)) = false := decide_eq_false c2
    clear c2
    obtain rfl := Option.some.inj H
    go_wp2
    go_ret
    exact ⟨by first | rfl | (simp; done) | (simp [*]; done), by repeat (first | exact Drawn0.refl _ | apply Drawn0.step)⟩


/-! ### ecdysisref10_Largest: function 39 -/
def ecdysisref10_Largest.l0 : Nat → List Int → Int → Int → Int → Option (Int)
 | 0, _, _, _, _ => none
 | k + 1, x0, x3, x4, x5 => if x5 < (x0.length : Int) then (if 0 ≤ x5 then (if (rd x0 x5) > 0 then (if 0 > x3 then (ecdysisref10_Largest.l0 k x0 0 0 (wrap64 (x5 + 1))) else (ecdysisref10_Largest.l0 k x0 x3 0 (wrap64 (x5 + 1)))) else (if (wrap64 (x4 + 1)) > x3 then (ecdysisref10_Largest.l0 k x0 (wrap64 (x4 + 1)) (wrap64 (x4 + 1)) (wrap64 (x5 + 1))) else (ecdysisref10_Largest.l0 k x0 x3 (wrap64 (x4 + 1)) (wrap64 (x5 + 1))))) else (none)) else (some x3)
def ecdysisref10_Largest.f (k : Nat) (l0 : List Int) : Option (Int) := ecdysisref10_Largest.l0 k l0 0 0 0
theorem ecdysisref10_Largest.mono_l : ∀ k, (∀ y0 y1 y2 y3, LeO (ecdysisref10_Largest.l0 k y0 y1 y2 y3) (ecdysisref10_Largest.l0 (k + 1) y0 y1 y2 y3))
 | 0 => fun _ _ _ _ r h => by simp [ecdysisref10_Largest.l0] at h
 | k + 1 => by
  have ih0 := ecdysisref10_Largest.mono_l k
  ·intro y0 y1 y2 y3
   unfold ecdysisref10_Largest.l0
   repeat' first
   | (with_reducible exact ih0 _ _ _ _)
   | (with_reducible exact LeO.refl _)
   | (with_reducible exact LeO.none _)
   | (with_reducible refine LeO.ite ?_ ?_)
   | (with_reducible refine LeO.bind ?_ (fun _ => ?_))
   | exact ih0 _ _ _ _
   | exact LeO.none _
   | refine LeO.ite ?_ ?_
   | refine LeO.bind ?_ (fun _ => ?_)
theorem ecdysisref10_Largest.mono : ∀ a0 k, LeO (ecdysisref10_Largest.f k a0) (ecdysisref10_Largest.f (k + 1) a0) := by
 intro a0 k
 have ih0 := ecdysisref10_Largest.mono_l k
 unfold ecdysisref10_Largest.f
 repeat' first
   | (with_reducible exact ih0 _ _ _ _)
   | (with_reducible exact LeO.refl _)
   | (with_reducible exact LeO.none _)
   | (with_reducible refine LeO.ite ?_ ?_)
   | (with_reducible refine LeO.bind ?_ (fun _ => ?_))
   | exact ih0 _ _ _ _
   | exact LeO.none _
   | refine LeO.ite ?_ ?_
   | refine LeO.bind ?_ (fun _ => ?_)
set_option maxHeartbeats 8000000 in
set_option maxRecDepth 100000 in
theorem ecdysisref10_Largest.calls (k : Nat) (A0 : Option Addr) (c0 : Nat) (l0 : List Int) (r : Int) (w : World) (hr0 : Kd.C (Kd.int .i64) w A0 l0.length l0) (hc0 : l0.length ≤ c0) (h : ecdysisref10_Largest.f k l0 = some r) :
  Calls Try.prog 39 #[.slice A0 l0.length c0] w fun e w' => e = .returned (.int .i64 r) ∧ Drawn0 w w' := by
 have HR0 := Aside0.mk hr0
 have HC0 := Aside0.mk hc0
 clear hr0 hc0
 have H : (ecdysisref10_Largest.l0 k l0 0 0 0) = some r := h
 clear h
 have H' := Aside0.mk H
 clear H
 go_enter Try.func39, Try.ntmps39
 go_wp2
 go_loopg [3, 4, 5] k (fun kq v3 v4 v5 w' => ∃ (x3_1 : Int) (x4_1 : Int) (x5_1 : Int), v3 = .int .i64 x3_1 ∧ v4 = .int .i64 x4_1 ∧ v5 = .int .i64 x5_1 ∧ Aside0 (ecdysisref10_Largest.l0 kq l0 x3_1 x4_1 x5_1 = some r) ∧ Aside0 (kq ≤ k) ∧ Drawn0 w w')
 case atStart => exact ⟨(0), (0), (0), (by first | rfl | (simp; done) | (simp [*]; done)), (by first | rfl | (simp; done) | (simp [*]; done)), (by first | rfl | (simp; done) | (simp [*]; done)), H', ⟨Nat.le_refl _⟩, by repeat (first | exact Drawn0.refl _ | apply Drawn0.step)⟩
 case round =>
  clear H'
  obtain ⟨x3_1, x4_1, x5_1, rfl, rfl, rfl, HA, HK1, ⟨m1, rfl⟩⟩ := hrel
  cases gk with
  | zero => exact absurd HA.out (by simp [ecdysisref10_Largest.l0])
  | succ k1 =>
   have H := HA.out
   clear HA
   simp only [ecdysisref10_Largest.l0] at H
   by_cases c2 : x5_1 < (l0.length : Int)
   ·rw [if_pos c2] at H
    have c2b0 : decide (x5_1 < (l0.length : Int)) = true := decide_eq_true c2
    clear c2
    by_cases c3 : 0 ≤ x5_1
    ·rw [if_pos c3] at H
     have c3b0 : decide (0 ≤ x5_1) = true := decide_eq_true c3
     clear c3
     by_cases c4 : (rd l0 x5_1) > 0
     ·rw [if_pos c4] at H
      have c4b0 : decide (0 < (rd l0 x5_1)) = true := decide_eq_true c4
      clear c4
      by_cases c5 : 0 > x3_1
      ·rw [if_pos c5] at H
       have c5b0 : decide (x3_1 < 0) = true := decide_eq_true c5
       clear c5
       have H' := Aside0.mk H
       clear H
       have p116 : 0 ≤ (x5_1 : Int) := of_decide_eq_true (by first | (with_reducible assumption) | assumption)
       have q116 : x5_1 < (l0.length : Int) := of_decide_eq_true (by first | (with_reducible assumption) | assumption)
       obtain ⟨ad116, e116, hx116_0⟩ := Kd.at_int HR0.out x5_1 p116 q116
       cases e116
       replace p116 := eq_true p116
       replace q116 := eq_true q116
       go_wp2
       go_roundg k1
       case measure => have := HK1.out; omega
       case rel => exact ⟨(0), (0), (wrap64 (x5_1 + 1)), (by first | rfl | (simp; done) | (simp [*]; done)), (by first | rfl | (simp; done) | (simp [*]; done)), (by first | rfl | (simp; done) | (simp [*]; done)), H', ⟨by have := HK1.out; omega⟩, by repeat (first | exact Drawn0.refl _ | apply Drawn0.step)⟩
      ·rw [if_neg c5] at H
       have c5b0 : decide (x3_1 < 0) = false := decide_eq_false c5
       clear c5
       have H' := Aside0.mk H
       clear H
       have p116 : 0 ≤ (x5_1 : Int) := of_decide_eq_true (by first | (with_reducible assumption) | assumption)
       have q116 : x5_1 < (l0.length : Int) := of_decide_eq_true (by first | (with_reducible assumption) | assumption)
       obtain ⟨ad116, e116, hx116_0⟩ := Kd.at_int HR0.out x5_1 p116 q116
       cases e116
       replace p116 := eq_true p116
       replace q116 := eq_true q116
       go_wp2
       go_roundg k1
       case measure => have := HK1.out; omega
       case rel => exact ⟨(x3_1), (0), (wrap64 (x5_1 + 1)), (by first | rfl | (simp; done) | (simp [*]; done)), (by first | rfl | (simp; done) | (simp [*]; done)), (by first | rfl | (simp; done) | (simp [*]; done)), H', ⟨by have := HK1.out; omega⟩, by repeat (first | exact Drawn0.refl _ | apply Drawn0.step)⟩
     ·rw [if_neg c4] at H
      have c4b0 : decide (0 < (rd l0 x5_1)) = false := decide_eq_false c4
      clear c4
      by_cases c6 : (wrap64 (x4_1 + 1)) > x3_1
      ·rw [if_pos c6] at H
       have c6b0 : decide (x3_1 < (wrap64 (x4_1 + 1))) = true := decide_eq_true c6
       clear c6
       have H' := Aside0.mk H
       clear H
       have p116 : 0 ≤ (x5_1 : Int) := of_decide_eq_true (by first | (with_reducible assumption) | assumption)
       have q116 : x5_1 < (l0.length : Int) := of_decide_eq_true (by first | (with_reducible assumption) | assumption)
       obtain ⟨ad116, e116, hx116_0⟩ := Kd.at_int HR0.out x5_1 p116 q116
       cases e116
       replace p116 := eq_true p116
       replace q116 := eq_true q116
       go_wp2
       go_roundg k1
       case measure => have := HK1.out; omega
       case rel => exact ⟨(wrap64 (x4_1 + 1)), (wrap64 (x4_1 + 1)), (wrap64 (x5_1 + 1)), (by first | rfl | (simp; done) | (simp [*]; done)), (by first | rfl | (simp; done) | (simp [*]; done)), (by first | rfl | (simp; done) | (simp [*]; done)), H', ⟨by have := HK1.out; omega⟩, by repeat (first | exact Drawn0.refl _ | apply Drawn0.step)⟩
      ·rw [if_neg c6] at H
       have c6b0 : decide (x3_1 < (wrap64 (x4_1 + 1))) = false := decide_eq_false c6
       clear c6
       have H' := Aside0.mk H
       clear H
       have p116 : 0 ≤ (x5_1 : Int) := of_decide_eq_true (by first | (with_reducible assumption) | assumption)
       have q116 : x5_1 < (l0.length : Int) := of_decide_eq_true (by first | (with_reducible assumption) | assumption)
       obtain ⟨ad116, e116, hx116_0⟩ := Kd.at_int HR0.out x5_1 p116 q116
       cases e116
       replace p116 := eq_true p116
       replace q116 := eq_true q116
       go_wp2
       go_roundg k1
       case measure => have := HK1.out; omega
       case rel => exact ⟨(x3_1), (wrap64 (x4_1 + 1)), (wrap64 (x5_1 + 1)), (by first | rfl | (simp; done) | (simp [*]; done)), (by first | rfl | (simp; done) | (simp [*]; done)), (by first | rfl | (simp; done) | (simp [*]; done)), H', ⟨by have := HK1.out; omega⟩, by repeat (first | exact Drawn0.refl _ | apply Drawn0.step)⟩
    ·rw [if_neg c3] at H
     exact absurd H (by simp)
   ·rw [if_neg c2] at H
    have c2b0 : decide (x5_1 < (l0.length : Int)) = false := decide_eq_false c2
    clear c2
    obtain rfl := Option.some.inj H
    go_wp2
    go_ret
    exact ⟨by first | rfl | (simp; done) | (simp [*]; done), by repeat (first | exact Drawn0.refl _ | apply Drawn0.step)⟩



/-! ### ecdysisref10_New: function 33 -/
def ecdysisref10_New.f (a0 : Int) : Option (List Int × Bool) := if a0 < 0 then (some (([] : List Int), false)) else (if a0 > 1024 then (some (([] : List Int), false)) else (if 0 ≤ a0 then (if (a0 : Int).toNat ≤ 35184372088832 then (some ((List.replicate (a0 : Int).toNat 0), true)) else (none)) else (none)))
set_option maxHeartbeats 8000000 in
set_option maxRecDepth 100000 in
theorem ecdysisref10_New.calls (a0 : Int) (r1 : List Int) (r2 : Bool) (w : World) (h : ecdysisref10_New.f a0 = some (r1, r2)) :
  Calls Try.prog 33 #[.int .i64 a0] w fun e w' => ∃ v0_ : Value, e = .returned (.tuple #[v0_, .bool r2]) ∧ Kd.R (Kd.int .i64) 3 w' w.heap.size (fun _ => True) v0_ r1 ∧ Below w.heap.size w w' := by
 have HB := Aside0.mk (Below.refl w.heap.size w)
 have H : (if a0 < 0 then (some (([] : List Int), false)) else (if a0 > 1024 then (some (([] : List Int), false)) else (if 0 ≤ a0 then (if (a0 : Int).toNat ≤ 35184372088832 then (some ((List.replicate (a0 : Int).toNat 0), true)) else (none)) else (none)))) = some (r1, r2) := h
 clear h
 by_cases c2 : a0 < 0
 ·rw [if_pos c2] at H
  have c2b0 : decide (a0 < 0) = true := decide_eq_true c2
  clear c2
  simp only [Option.some.injEq, Prod.mk.injEq] at H
  obtain ⟨rfl, rfl⟩ := H
  go_enter Try.func33, Try.ntmps33
  go_wp2
  go_ret2
  exact ⟨_, by first | rfl | (simp [errW_none, errW_some] <;> rfl) | (simp [*, errW_none, errW_some] <;> rfl), by first | exact Kd.R_nil _ _ _ _ _ | exact Kd.N_nil _ _ _ _ _ | exact Kd.V_nil _ _ _ _ _ | exact Kd.Q_nil _ _ _ _ _ | exact Kd.S_nil _ _ _ _ _, by repeat (first | (with_reducible first | exact HB.out | apply below_alloc | apply pw_below_drewN | apply below_drew1) | exact HB.out)⟩
 ·rw [if_neg c2] at H
  have c2b0 : decide (a0 < 0) = false := decide_eq_false c2
  clear c2
  by_cases c3 : a0 > 1024
  ·rw [if_pos c3] at H
   have c3b0 : decide (1024 < a0) = true := decide_eq_true c3
   clear c3
   simp only [Option.some.injEq, Prod.mk.injEq] at H
   obtain ⟨rfl, rfl⟩ := H
   go_enter Try.func33, Try.ntmps33
   go_wp2
   go_ret2
   exact ⟨_, by first | rfl | (simp [errW_none, errW_some] <;> rfl) | (simp [*, errW_none, errW_some] <;> rfl), by first | exact Kd.R_nil _ _ _ _ _ | exact Kd.N_nil _ _ _ _ _ | exact Kd.V_nil _ _ _ _ _ | exact Kd.Q_nil _ _ _ _ _ | exact Kd.S_nil _ _ _ _ _, by repeat (first | (with_reducible first | exact HB.out | apply below_alloc | apply pw_below_drewN | apply below_drew1) | exact HB.out)⟩
  ·rw [if_neg c3] at H
   have c3b0 : decide (1024 < a0) = false := decide_eq_false c3
   clear c3
   by_cases c4 : 0 ≤ a0
   ·rw [if_pos c4] at H
    have c4b0 := eq_true c4
    have c4b1 : decide (0 ≤ a0) = true := decide_eq_true c4
    clear c4
    by_cases c5 : (a0 : Int).toNat ≤ 35184372088832
    ·rw [if_pos c5] at H
     have c5b0 := eq_true c5
     have c5b1 : decide ((a0 : Int).toNat ≤ 35184372088832) = true := decide_eq_true c5
     clear c5
     obtain ⟨y117, hy117⟩ : ∃ y_ : List Int, y_ = (List.replicate (a0 : Int).toNat 0) := ⟨_, rfl⟩
     replace H : (some (y117, true)) = some (r1, r2) := by first | (rw [hy117]; with_reducible exact H) | (have H2_ := (Option.bind_some _ _).symm.trans H; rw [hy117]; with_reducible exact H2_) | (have H2_ := (Option.bind_some _ _).symm.trans H; with_reducible exact H2_) | with_reducible exact H | (rw [hy117]; exact H) | exact H
     have Ny117 := Aside0.mk hy117
     clear hy117
     simp only [Option.some.injEq, Prod.mk.injEq] at H
     obtain ⟨rfl, rfl⟩ := H
     go_enter Try.func33, Try.ntmps33
     go_wp2_with (first | ((with_reducible refine gate_dst (N := 11) rfl ?_); refine Kd.R_make (Kd.int .i64) _ 3 rfl (N := 11) rfl 36 _ _ rfl a0 rfl rfl Try.underlying36 (.int .i64 0) 8 info3 rfl (by decide) (by omega) 0 (ok := fun _ => True) (okp := fun _ => True) rfl (fun _ hk => hk) trivial (of_decide_eq_true (by first | (with_reducible assumption) | assumption)) (Nat.le_trans (Nat.mul_le_mul_right _ (of_decide_eq_true (by first | (with_reducible assumption) | assumption) : a0.toNat ≤ 35184372088832)) (by omega)) (Below.refl _ _) (Nat.le_refl _) ?_; intro v118 w6 ho7 hb hg_ hnew_; clear hg_ hnew_; (first | rw [← Ny117.out] at ho7 | (simp only [Int.reduceToNat] at ho7; rw [← Ny117.out] at ho7)); have n0_ := Aside0.mk (Kd.R_lower ho7 (below_size (by repeat (first | (with_reducible first | exact HB.out | apply below_alloc | apply pw_below_drewN | apply below_drew1) | exact HB.out)))); have n1_ := Aside0.mk (below_step (by repeat (first | (with_reducible first | exact HB.out | apply below_alloc | apply pw_below_drewN | apply below_drew1) | exact HB.out)) hb); clear HB; have HO119 := n0_; have HB := n1_; clear n0_ n1_; clear hb ho7))
     go_ret2
     exact ⟨_, by first | rfl | (simp [errW_none, errW_some] <;> rfl) | (simp [*, errW_none, errW_some] <;> rfl), by (with_reducible repeat (first | apply Kd.R_alloc | apply Kd.R_drewN | apply Kd.R_drew)); exact HO119.out, by repeat (first | (with_reducible first | exact HB.out | apply below_alloc | apply pw_below_drewN | apply below_drew1) | exact HB.out)⟩
    ·rw [if_neg c5] at H
     exact absurd H (by simp)
   ·rw [if_neg c4] at H
    exact absurd H (by simp)


/-! ### ecdysisref10_free: function 50 -/
def ecdysisref10_free.l0 : Nat → List Int → Int → Int → Int → Option (Bool)
 | 0, _, _, _, _ => none
 | k + 1, x0, x1, x2, x7 => if x7 < (wrap64 (x1 + x2)) then (if 0 ≤ x7 then (if x7 < (x0.length : Int) then (if (rd x0 x7) > 0 then (some false) else (ecdysisref10_free.l0 k x0 x1 x2 (wrap64 (x7 + 1)))) else (none)) else (none)) else (some true)
def ecdysisref10_free.f (k : Nat) (l0 : List Int) (a1 : Int) (a2 : Int) : Option (Bool) := ecdysisref10_free.l0 k l0 a1 a2 a1
theorem ecdysisref10_free.mono_l : ∀ k, (∀ y0 y1 y2 y3, LeO (ecdysisref10_free.l0 k y0 y1 y2 y3) (ecdysisref10_free.l0 (k + 1) y0 y1 y2 y3))
 | 0 => fun _ _ _ _ r h => by simp [ecdysisref10_free.l0] at h
 | k + 1 => by
  have ih0 := ecdysisref10_free.mono_l k
  ·intro y0 y1 y2 y3
   unfold ecdysisref10_free.l0
   repeat' first
   | (with_reducible exact ih0 _ _ _ _)
   | (with_reducible exact LeO.refl _)
   | (with_reducible exact LeO.none _)
   | (with_reducible refine LeO.ite ?_ ?_)
   | (with_reducible refine LeO.bind ?_ (fun _ => ?_))
   | exact ih0 _ _ _ _
   | exact LeO.none _
   | refine LeO.ite ?_ ?_
   | refine LeO.bind ?_ (fun _ => ?_)
theorem ecdysisref10_free.mono : ∀ a0 a1 a2 k, LeO (ecdysisref10_free.f k a0 a1 a2) (ecdysisref10_free.f (k + 1) a0 a1 a2) := by
 intro a0 a1 a2 k
 have ih0 := ecdysisref10_free.mono_l k
 unfold ecdysisref10_free.f
 repeat' first
   | (with_reducible exact ih0 _ _ _ _)
   | (with_reducible exact LeO.refl _)
   | (with_reducible exact LeO.none _)
   | (with_reducible refine LeO.ite ?_ ?_)
   | (with_reducible refine LeO.bind ?_ (fun _ => ?_))
   | exact ih0 _ _ _ _
   | exact LeO.none _
   | refine LeO.ite ?_ ?_
   | refine LeO.bind ?_ (fun _ => ?_)
set_option maxHeartbeats 8000000 in
set_option maxRecDepth 100000 in
theorem ecdysisref10_free.calls (k : Nat) (A0 : Option Addr) (c0 : Nat) (l0 : List Int) (a1 : Int) (a2 : Int) (r : Bool) (w : World) (hr0 : Kd.C (Kd.int .i64) w A0 l0.length l0) (hc0 : l0.length ≤ c0) (h : ecdysisref10_free.f k l0 a1 a2 = some r) :
  Calls Try.prog 50 #[.slice A0 l0.length c0, .int .i64 a1, .int .i64 a2] w fun e w' => e = .returned (.bool r) ∧ Drawn0 w w' := by
 have HR0 := Aside0.mk hr0
 have HC0 := Aside0.mk hc0
 clear hr0 hc0
 have H : (ecdysisref10_free.l0 k l0 a1 a2 a1) = some r := h
 clear h
 have H' := Aside0.mk H
 clear H
 go_enter Try.func50, Try.ntmps50
 go_wp2
 go_loopg [7] k (fun kq v7 w' => ∃ (x7_1 : Int), v7 = .int .i64 x7_1 ∧ Aside0 (ecdysisref10_free.l0 kq l0 a1 a2 x7_1 = some r) ∧ Aside0 (kq ≤ k) ∧ Drawn0 w w')
 case atStart => exact ⟨(a1), (by first | rfl | (simp; done) | (simp [*]; done)), H', ⟨Nat.le_refl _⟩, by repeat (first | exact Drawn0.refl _ | apply Drawn0.step)⟩
 case round =>
  clear H'
  try clear p2
  obtain ⟨x7_1, rfl, HA, HK1, ⟨m1, rfl⟩⟩ := hrel
  cases gk with
  | zero => exact absurd HA.out (by simp [ecdysisref10_free.l0])
  | succ k1 =>
   have H := HA.out
   clear HA
   simp only [ecdysisref10_free.l0] at H
   by_cases c4 : x7_1 < (wrap64 (a1 + a2))
   ·rw [if_pos c4] at H
    have c4b0 : decide (x7_1 < (wrap64 (a1 + a2))) = true := decide_eq_true c4
    clear c4
    by_cases c5 : 0 ≤ x7_1
    ·rw [if_pos c5] at H
     have c5b0 : decide (0 ≤ x7_1) = true := decide_eq_true c5
     clear c5
     by_cases c6 : x7_1 < (l0.length : Int)
     ·rw [if_pos c6] at H
      have c6b0 : decide (x7_1 < (l0.length : Int)) = true := decide_eq_true c6
      clear c6
      by_cases c7 : (rd l0 x7_1) > 0
      ·rw [if_pos c7] at H
       have c7b0 : decide (0 < (rd l0 x7_1)) = true := decide_eq_true c7
       clear c7
       obtain rfl := Option.some.inj H
       have p120 : 0 ≤ (x7_1 : Int) := of_decide_eq_true (by first | (with_reducible assumption) | assumption)
       have q120 : x7_1 < (l0.length : Int) := of_decide_eq_true (by first | (with_reducible assumption) | assumption)
       obtain ⟨ad120, e120, hx120_0⟩ := Kd.at_int HR0.out x7_1 p120 q120
       cases e120
       replace p120 := eq_true p120
       replace q120 := eq_true q120
       go_wp2
       go_ret
       exact ⟨by first | rfl | (simp; done) | (simp [*]; done), by repeat (first | exact Drawn0.refl _ | apply Drawn0.step)⟩
      ·rw [if_neg c7] at H
       have c7b0 : decide (0 < (rd l0 x7_1)) = false := decide_eq_false c7
       clear c7
       have H' := Aside0.mk H
       clear H
       have p120 : 0 ≤ (x7_1 : Int) := of_decide_eq_true (by first | (with_reducible assumption) | assumption)
       have q120 : x7_1 < (l0.length : Int) := of_decide_eq_true (by first | (with_reducible assumption) | assumption)
       obtain ⟨ad120, e120, hx120_0⟩ := Kd.at_int HR0.out x7_1 p120 q120
       cases e120
       replace p120 := eq_true p120
       replace q120 := eq_true q120
       go_wp2
       go_roundg k1
       case measure => have := HK1.out; omega
       case rel => exact ⟨(wrap64 (x7_1 + 1)), (by first | rfl | (simp; done) | (simp [*]; done)), H', ⟨by have := HK1.out; omega⟩, by repeat (first | exact Drawn0.refl _ | apply Drawn0.step)⟩
     ·rw [if_neg c6] at H
      exact absurd H (by simp)
    ·rw [if_neg c5] at H
     exact absurd H (by simp)
   ·rw [if_neg c4] at H
    have c4b0 : decide (x7_1 < (wrap64 (a1 + a2))) = false := decide_eq_false c4
    clear c4
    obtain rfl := Option.some.inj H
    go_wp2
    go_ret
    exact ⟨by first | rfl | (simp; done) | (simp [*]; done), by repeat (first | exact Drawn0.refl _ | apply Drawn0.step)⟩


/-! ### ecdysisref10_set: function 51 -/
def ecdysisref10_set.l0 : Nat → Int → Int → Int → List Int → Int → Option (List Int)
 | 0, _, _, _, _, _ => none
 | k + 1, x1, x2, x3, x9, x10 => if x10 < (wrap64 (x1 + x2)) then (if 0 ≤ x10 then (if x10 < (x9.length : Int) then (ecdysisref10_set.l0 k x1 x2 x3 (x9.set (x10 : Int).toNat x3) (wrap64 (x10 + 1))) else (none)) else (none)) else (some x9)
def ecdysisref10_set.f (k : Nat) (l0 : List Int) (a1 : Int) (a2 : Int) (a3 : Int) : Option (List Int) := (some (([] : List Int) : List Int)).bind fun y121 => (if y121.length + l0.length < 17592186044416 then (ecdysisref10_set.l0 k a1 a2 a3 (y121 ++ l0) a1) else (none))
theorem ecdysisref10_set.mono_l : ∀ k, (∀ y0 y1 y2 y3 y4, LeO (ecdysisref10_set.l0 k y0 y1 y2 y3 y4) (ecdysisref10_set.l0 (k + 1) y0 y1 y2 y3 y4))
 | 0 => fun _ _ _ _ _ r h => by simp [ecdysisref10_set.l0] at h
 | k + 1 => by
  have ih0 := ecdysisref10_set.mono_l k
  ·intro y0 y1 y2 y3 y4
   unfold ecdysisref10_set.l0
   repeat' first
   | (with_reducible exact ih0 _ _ _ _ _)
   | (with_reducible exact LeO.refl _)
   | (with_reducible exact LeO.none _)
   | (with_reducible refine LeO.ite ?_ ?_)
   | (with_reducible refine LeO.bind ?_ (fun _ => ?_))
   | exact ih0 _ _ _ _ _
   | exact LeO.none _
   | refine LeO.ite ?_ ?_
   | refine LeO.bind ?_ (fun _ => ?_)
theorem ecdysisref10_set.mono : ∀ a0 a1 a2 a3 k, LeO (ecdysisref10_set.f k a0 a1 a2 a3) (ecdysisref10_set.f (k + 1) a0 a1 a2 a3) := by
 intro a0 a1 a2 a3 k
 have ih0 := ecdysisref10_set.mono_l k
 unfold ecdysisref10_set.f
 repeat' first
   | (with_reducible exact ih0 _ _ _ _ _)
   | (with_reducible exact LeO.refl _)
   | (with_reducible exact LeO.none _)
   | (with_reducible refine LeO.ite ?_ ?_)
   | (with_reducible refine LeO.bind ?_ (fun _ => ?_))
   | exact ih0 _ _ _ _ _
   | exact LeO.none _
   | refine LeO.ite ?_ ?_
   | refine LeO.bind ?_ (fun _ => ?_)
set_option maxHeartbeats 8000000 in
set_option maxRecDepth 100000 in
theorem ecdysisref10_set.calls (k : Nat) (A0 : Option Addr) (c0 : Nat) (l0 : List Int) (a1 : Int) (a2 : Int) (a3 : Int) (r : List Int) (w : World) (hr0 : Kd.C (Kd.int .i64) w A0 l0.length l0) (hc0 : l0.length ≤ c0) (h : ecdysisref10_set.f k l0 a1 a2 a3 = some r) :
  Calls Try.prog 51 #[.slice A0 l0.length c0, .int .i64 a1, .int .i64 a2, .int .i64 a3] w fun e w' => ∃ v0_ : Value, e = .returned (v0_) ∧ Kd.R (Kd.int .i64) 3 w' w.heap.size (fun _ => True) v0_ r ∧ Below w.heap.size w w' := by
 have HR0 := Aside0.mk hr0
 have HC0 := Aside0.mk hc0
 clear hr0 hc0
 have HB := Aside0.mk (Below.refl w.heap.size w)
 have H : ((some (([] : List Int) : List Int)).bind fun y121 => (if y121.length + l0.length < 17592186044416 then (ecdysisref10_set.l0 k a1 a2 a3 (y121 ++ l0) a1) else (none))) = some r := h
 clear h
 obtain ⟨y121, hy121⟩ : ∃ y_ : List Int, y_ = (([] : List Int)) := ⟨_, rfl⟩
 replace H : (if y121.length + l0.length < 17592186044416 then (ecdysisref10_set.l0 k a1 a2 a3 (y121 ++ l0) a1) else (none)) = some r := by first | (rw [hy121]; with_reducible exact H) | (have H2_ := (Option.bind_some _ _).symm.trans H; rw [hy121]; with_reducible exact H2_) | (have H2_ := (Option.bind_some _ _).symm.trans H; with_reducible exact H2_) | with_reducible exact H | (rw [hy121]; exact H) | exact H
 have Ny121 := Aside0.mk hy121
 clear hy121
 by_cases c5 : y121.length + l0.length < 17592186044416
 ·rw [if_pos c5] at H
  have LMc5 := Aside0.mk c5
  clear c5
  obtain ⟨y124, hy124⟩ : ∃ y_ : List Int, y_ = (y121 ++ l0) := ⟨_, rfl⟩
  replace H : (ecdysisref10_set.l0 k a1 a2 a3 y124 a1) = some r := by first | (rw [hy124]; with_reducible exact H) | (have H2_ := (Option.bind_some _ _).symm.trans H; rw [hy124]; with_reducible exact H2_) | (have H2_ := (Option.bind_some _ _).symm.trans H; with_reducible exact H2_) | with_reducible exact H | (rw [hy124]; exact H) | exact H
  have Ny124 := Aside0.mk hy124
  clear hy124
  have H' := Aside0.mk H
  clear H
  go_enter Try.func51, Try.ntmps51
  go_wp2_with (first | ((with_reducible refine gate_dst (N := 11) rfl ?_); refine Kd.R_lit (Kd.int .i64) _ 3 ?hg (N := 11) ?hd (xs := ([] : List Int)) (inner := []) (ok := fun _ => True) (okp := fun _ => True) ?hr ?hp (fun _ hk => hk) trivial (Below.refl _ _) (Nat.le_refl _) (by simp) ?_; (case hd => rfl); (case hg => rfl); (case hr => first | (go_simp; done) | (go_simp; rfl)); (case hp => exact (Reps.none _ _)); intro v122 w6 ho7 hb hg_ hnew_; clear hg_ hnew_; (first | rw [← Ny121.out] at ho7 | (simp only [Int.reduceToNat] at ho7; rw [← Ny121.out] at ho7)); have n0_ := Aside0.mk (Kd.R_lower ho7 (below_size (by repeat (first | (with_reducible first | exact HB.out | apply below_alloc | apply pw_below_drewN | apply below_drew1) | exact HB.out)))); have n1_ := Aside0.mk (below_step (by repeat (first | (with_reducible first | exact HB.out | apply below_alloc | apply pw_below_drewN | apply below_drew1) | exact HB.out)) hb); clear HB; have HO123 := n0_; have HB := n1_; clear n0_ n1_; clear hb ho7) | ((with_reducible refine gate_builtin (b := .append) (xs := #[.tmp 11, .tmp 12]) rfl ?_); at_builtin; refine Kd.R_append_rows (Kd.int .i64) (w0 := w) w.heap.size rfl (.tmp 11) (.tmp 12) 36 3 (.int .i64 0) 8 rfl Try.underlying36 info3 rfl (by decide) (by omega) v122 y121 l0 _ _ _ (fun _ => True) (fun _ => False) rfl rfl ?aO ?aR (fun _ _ h => h) (fun _ h => h.elim) ?aF ?aB ?aS ?aL ?_; (case aR => repeat (first | exact (Kd.C_below HR0.out HB.out) | (with_reducible refine Kd.C_alloc ?_ _) | (with_reducible refine Kd.C_drewN ?_ _) | (with_reducible refine Kd.C_drew ?_))); (case aB => exact (by repeat (first | (with_reducible first | exact HB.out | apply below_alloc | apply pw_below_drewN | apply below_drew1) | exact HB.out))); (case aF => exact (fun _ _ => trivial)); (case aO => exact (by (with_reducible repeat (first | apply Kd.R_alloc | apply Kd.R_drewN | apply Kd.R_drew)); exact HO123.out)); (case aS => exact (below_size (by repeat (first | (with_reducible first | exact HB.out | apply below_alloc | apply pw_below_drewN | apply below_drew1) | exact HB.out)))); (case aL => have := LMc5.out; omega); intro v125 w8 ho hb hg hat; rw [← Ny124.out] at ho; have n0_ := Aside0.mk (hb); have n1_ := Aside0.mk (ho); clear HB; clear HO123; have HB := n0_; have HO126 := n1_; clear n0_ n1_; clear ho hb hg hat))
  go_loopg [10] k (fun kq v10 w' => ∃ (x9_1 : List Int) (x10_1 : Int), v10 = .int .i64 x10_1 ∧ Aside0 (ecdysisref10_set.l0 kq a1 a2 a3 x9_1 x10_1 = some r) ∧ Aside0 (kq ≤ k) ∧ Aside0 (Kd.R (Kd.int .i64) 3 w' w.heap.size (fun _ => True) v125 x9_1) ∧ Aside0 (Below w.heap.size w w'))
  case atStart => exact ⟨(y124), (a1), (by first | rfl | (simp; done) | (simp [*]; done)), H', ⟨Nat.le_refl _⟩, ⟨by (with_reducible repeat (first | apply Kd.R_alloc | apply Kd.R_drewN | apply Kd.R_drew)); exact HO126.out⟩, ⟨by repeat (first | (with_reducible first | exact HB.out | apply below_alloc | apply pw_below_drewN | apply below_drew1) | exact HB.out)⟩⟩
  case round =>
   clear H'
   try clear p2
   try clear c5
   obtain ⟨x9_1, x10_1, rfl, HA, HK1, HO_9, HB⟩ := hrel
   cases gk with
   | zero => exact absurd HA.out (by simp [ecdysisref10_set.l0])
   | succ k1 =>
    have H := HA.out
    clear HA
    simp only [ecdysisref10_set.l0] at H
    by_cases c9 : x10_1 < (wrap64 (a1 + a2))
    ·rw [if_pos c9] at H
     have c9b0 : decide (x10_1 < (wrap64 (a1 + a2))) = true := decide_eq_true c9
     clear c9
     by_cases c10 : 0 ≤ x10_1
     ·rw [if_pos c10] at H
      have c10b0 : decide (0 ≤ x10_1) = true := decide_eq_true c10
      clear c10
      by_cases c11 : x10_1 < (x9_1.length : Int)
      ·rw [if_pos c11] at H
       have c11b0 : decide (x10_1 < (x9_1.length : Int)) = true := decide_eq_true c11
       clear c11
       obtain ⟨y127, hy127⟩ : ∃ y_ : List Int, y_ = (x9_1.set (x10_1 : Int).toNat a3) := ⟨_, rfl⟩
       replace H : (ecdysisref10_set.l0 k1 a1 a2 a3 y127 (wrap64 (x10_1 + 1))) = some r := by first | (rw [hy127]; with_reducible exact H) | (have H2_ := (Option.bind_some _ _).symm.trans H; rw [hy127]; with_reducible exact H2_) | (have H2_ := (Option.bind_some _ _).symm.trans H; with_reducible exact H2_) | with_reducible exact H | (rw [hy127]; exact H) | exact H
       have Ny127 := Aside0.mk hy127
       clear hy127
       have H' := Aside0.mk H
       clear H
       have p12 : 0 ≤ (x10_1 : Int) := of_decide_eq_true (by first | (with_reducible assumption) | assumption)
       have q12 : (x10_1 : Int) < ((x9_1.length : Int) : Int) := of_decide_eq_true (by first | (with_reducible assumption) | assumption)
       obtain ⟨go12, co12, eo12, gb12, gl12, cl12, HG12⟩ := Kd.R_form HO_9.out (by omega)
       (first | cases eo12 | (injection eo12 with ea_ en_ ec_; (first | subst ea_ | (injection ea_ with ea_; subst ea_)); subst ec_; clear en_))
       have GB12 := Aside0.mk gb12
       have GG12 := Aside0.mk HG12
       clear gb12 gl12 HG12
       obtain ⟨hx12_0, hf12_0⟩ := Kd.R_celln 0 HO_9.out (x10_1 : Int) p12 q12
       replace p12 := eq_true p12
       replace q12 := eq_true q12
       have HP13 := Kd.R_putg HO_9.out (x10_1 : Int) a3
       go_wp2_with (first | ((with_reducible refine gate_store (t := 3) (p := 25) rfl ?_); refine store_event (t := 3) (p := 25) (v := ?vo_w14) (w1 := (wr.setCell ⟨go12, (x10_1 : Int).toNat, none⟩ (.int .i64 a3))) ?hg ?ho ?hn ?hr ?_; (case ho => rfl); (case hg => rfl); (case hn => rfl); (case hr => first | (go_simp; done) | (go_simp; rfl)); intro w14 hw; have hg : wr.grownBy w14 (some go12) := (by rw [hw]; exact HP13.2); have hp_ : Kd.R (Kd.int .i64) 3 w14 w.heap.size (fun _ => True) (.slice (some ⟨go12, 0, none⟩) x9_1.length co12) y127 := (by rw [hw, Ny127.out]; exact HP13.1); clear HP13; have n0_ := Aside0.mk (hp_); have n1_ := Aside0.mk ((by rw [hw]; exact below_set (HB.out) GB12.out : Below w.heap.size w w14)); clear HO_9; clear HB; have HO_9 := n0_; have HB := n1_; clear n0_ n1_; clear hg hw hp_))
       go_roundg k1
       case measure => have := HK1.out; omega
       case rel => exact ⟨(y127), (wrap64 (x10_1 + 1)), (by first | rfl | (simp; done) | (simp [*]; done)), H', ⟨by have := HK1.out; omega⟩, ⟨by (with_reducible repeat (first | apply Kd.R_alloc | apply Kd.R_drewN | apply Kd.R_drew)); exact HO_9.out⟩, ⟨by repeat (first | (with_reducible first | exact HB.out | apply below_alloc | apply pw_below_drewN | apply below_drew1) | exact HB.out)⟩⟩
      ·rw [if_neg c11] at H
       exact absurd H (by simp)
     ·rw [if_neg c10] at H
      exact absurd H (by simp)
    ·rw [if_neg c9] at H
     have c9b0 : decide (x10_1 < (wrap64 (a1 + a2))) = false := decide_eq_false c9
     clear c9
     obtain rfl := Option.some.inj H
     go_wp2
     go_ret
     exact ⟨_, by first | rfl | (simp [errW_none, errW_some] <;> rfl) | (simp [*, errW_none, errW_some] <;> rfl), by (with_reducible repeat (first | apply Kd.R_alloc | apply Kd.R_drewN | apply Kd.R_drew)); exact HO_9.out, by repeat (first | (with_reducible first | exact HB.out | apply below_alloc | apply pw_below_drewN | apply below_drew1) | exact HB.out)⟩
 ·rw [if_neg c5] at H
  exact absurd H (by simp)


/-! ### ecdysisref10_Do: function 34 -/
mutual
def ecdysisref10_Do.l0 : Nat → List Int → Int → Int → Int → Int → Option (List Int × Int × Int)
 | 0, _, _, _, _, _ => none
 | k + 1, x0, x7, x129000, x129001, x129002 => if x129002 ≤ (x0.length : Int) then (ecdysisref10_Do.j1 k x0 x7 (decide (x7 ≤ (wrap64 ((x0.length : Int) - x129002)))) x129000 x129001 x129002) else (ecdysisref10_Do.j1 k x0 x7 false x129000 x129001 x129002)
def ecdysisref10_Do.j1 : Nat → List Int → Int → Bool → Int → Int → Int → Option (List Int × Int × Int)
 | 0, _, _, _, _, _, _ => none
 | k + 1, x0, x7, x30, x129000, x129001, x129002 => if x30 = true then ((ecdysisref10_free.f k x0 x7 x129002).bind fun t129 => (if t129 = true then ((ecdysisref10_set.f k x0 x7 x129002 (wrap64 (x7 + 1))).bind fun t130 => (some (t130, x7, 0))) else (ecdysisref10_Do.l0 k x0 (wrap64 (x7 + 1)) x129000 x129001 x129002))) else (some (x0, 0, 100))
def ecdysisref10_Do.j2 : Nat → List Int → Bool → Int → Int → Int → Option (List Int × Int × Int)
 | 0, _, _, _, _, _ => none
 | k + 1, x0, x87, x129000, x129001, x129002 => if x87 = true then (some (x0, 0, 1)) else ((ecdysisref10_free.f k x0 x129001 x129002).bind fun t137 => (if t137 = true then ((ecdysisref10_set.f k x0 x129001 x129002 (wrap64 (x129001 + 1))).bind fun t138 => (some (t138, 0, 0))) else (some (x0, 0, 100))))
end
def ecdysisref10_Do.f (k : Nat) (l0 : List Int) (a1_0 : Int) (a1_1 : Int) (a1_2 : Int) : Option (List Int × Int × Int) := if a1_0 = 0 then (if a1_2 < 1 then (some (l0, 0, 1)) else (ecdysisref10_Do.l0 k l0 0 a1_0 a1_1 a1_2)) else (if a1_0 = 1 then ((ecdysisref10_Long.f k l0 a1_1).bind fun t133 => (if t133 = 0 then (some (l0, 0, 101)) else ((ecdysisref10_set.f k l0 a1_1 t133 0).bind fun t134 => (some (t134, 0, 0))))) else (if a1_0 = 2 then (if a1_2 < 1 then (ecdysisref10_Do.j2 k l0 true a1_0 a1_1 a1_2) else (if a1_1 < 0 then (ecdysisref10_Do.j2 k l0 true a1_0 a1_1 a1_2) else (if a1_1 > (l0.length : Int) then (ecdysisref10_Do.j2 k l0 true a1_0 a1_1 a1_2) else (ecdysisref10_Do.j2 k l0 (decide (a1_2 > (wrap64 ((l0.length : Int) - a1_1)))) a1_0 a1_1 a1_2)))) else (some (l0, 0, 0))))
theorem ecdysisref10_Do.mono_l : ∀ k, (∀ y0 y1 y2 y3 y4, LeO (ecdysisref10_Do.l0 k y0 y1 y2 y3 y4) (ecdysisref10_Do.l0 (k + 1) y0 y1 y2 y3 y4)) ∧ (∀ y0 y1 y2 y3 y4 y5, LeO (ecdysisref10_Do.j1 k y0 y1 y2 y3 y4 y5) (ecdysisref10_Do.j1 (k + 1) y0 y1 y2 y3 y4 y5)) ∧ (∀ y0 y1 y2 y3 y4, LeO (ecdysisref10_Do.j2 k y0 y1 y2 y3 y4) (ecdysisref10_Do.j2 (k + 1) y0 y1 y2 y3 y4))
 | 0 => ⟨fun _ _ _ _ _ r h => by simp [ecdysisref10_Do.l0] at h, fun _ _ _ _ _ _ r h => by simp [ecdysisref10_Do.j1] at h, fun _ _ _ _ _ r h => by simp [ecdysisref10_Do.j2] at h⟩
 | k + 1 => by
  obtain ⟨ih0, ih1, ih2⟩ := ecdysisref10_Do.mono_l k
  refine ⟨?_, ?_, ?_⟩
  ·intro y0 y1 y2 y3 y4
   unfold ecdysisref10_Do.l0
   repeat' first
   | (with_reducible exact ih0 _ _ _ _ _)
   | (with_reducible exact ih1 _ _ _ _ _ _)
   | (with_reducible exact ih2 _ _ _ _ _)
   | (with_reducible exact ecdysisref10_Long.mono _ _ _)
   | (with_reducible exact ecdysisref10_free.mono _ _ _ _)
   | (with_reducible exact ecdysisref10_set.mono _ _ _ _ _)
   | (with_reducible exact LeO.refl _)
   | (with_reducible exact LeO.none _)
   | (with_reducible refine LeO.ite ?_ ?_)
   | (with_reducible refine LeO.bind ?_ (fun _ => ?_))
   | exact ih0 _ _ _ _ _
   | exact ih1 _ _ _ _ _ _
   | exact ih2 _ _ _ _ _
   | exact ecdysisref10_Long.mono _ _ _
   | exact ecdysisref10_free.mono _ _ _ _
   | exact ecdysisref10_set.mono _ _ _ _ _
   | exact LeO.none _
   | refine LeO.ite ?_ ?_
   | refine LeO.bind ?_ (fun _ => ?_)
  ·intro y0 y1 y2 y3 y4 y5
   unfold ecdysisref10_Do.j1
   repeat' first
   | (with_reducible exact ih0 _ _ _ _ _)
   | (with_reducible exact ih1 _ _ _ _ _ _)
   | (with_reducible exact ih2 _ _ _ _ _)
   | (with_reducible exact ecdysisref10_Long.mono _ _ _)
   | (with_reducible exact ecdysisref10_free.mono _ _ _ _)
   | (with_reducible exact ecdysisref10_set.mono _ _ _ _ _)
   | (with_reducible exact LeO.refl _)
   | (with_reducible exact LeO.none _)
   | (with_reducible refine LeO.ite ?_ ?_)
   | (with_reducible refine LeO.bind ?_ (fun _ => ?_))
   | exact ih0 _ _ _ _ _
   | exact ih1 _ _ _ _ _ _
   | exact ih2 _ _ _ _ _
   | exact ecdysisref10_Long.mono _ _ _
   | exact ecdysisref10_free.mono _ _ _ _
   | exact ecdysisref10_set.mono _ _ _ _ _
   | exact LeO.none _
   | refine LeO.ite ?_ ?_
   | refine LeO.bind ?_ (fun _ => ?_)
  ·intro y0 y1 y2 y3 y4
   unfold ecdysisref10_Do.j2
   repeat' first
   | (with_reducible exact ih0 _ _ _ _ _)
   | (with_reducible exact ih1 _ _ _ _ _ _)
   | (with_reducible exact ih2 _ _ _ _ _)
   | (with_reducible exact ecdysisref10_Long.mono _ _ _)
   | (with_reducible exact ecdysisref10_free.mono _ _ _ _)
   | (with_reducible exact ecdysisref10_set.mono _ _ _ _ _)
   | (with_reducible exact LeO.refl _)
   | (with_reducible exact LeO.none _)
   | (with_reducible refine LeO.ite ?_ ?_)
   | (with_reducible refine LeO.bind ?_ (fun _ => ?_))
   | exact ih0 _ _ _ _ _
   | exact ih1 _ _ _ _ _ _
   | exact ih2 _ _ _ _ _
   | exact ecdysisref10_Long.mono _ _ _
   | exact ecdysisref10_free.mono _ _ _ _
   | exact ecdysisref10_set.mono _ _ _ _ _
   | exact LeO.none _
   | refine LeO.ite ?_ ?_
   | refine LeO.bind ?_ (fun _ => ?_)
theorem ecdysisref10_Do.mono : ∀ a0 a1 a2 a3 k, LeO (ecdysisref10_Do.f k a0 a1 a2 a3) (ecdysisref10_Do.f (k + 1) a0 a1 a2 a3) := by
 intro a0 a1 a2 a3 k
 obtain ⟨ih0, ih1, ih2⟩ := ecdysisref10_Do.mono_l k
 unfold ecdysisref10_Do.f
 repeat' first
   | (with_reducible exact ih0 _ _ _ _ _)
   | (with_reducible exact ih1 _ _ _ _ _ _)
   | (with_reducible exact ih2 _ _ _ _ _)
   | (with_reducible exact ecdysisref10_Long.mono _ _ _)
   | (with_reducible exact ecdysisref10_free.mono _ _ _ _)
   | (with_reducible exact ecdysisref10_set.mono _ _ _ _ _)
   | (with_reducible exact LeO.refl _)
   | (with_reducible exact LeO.none _)
   | (with_reducible refine LeO.ite ?_ ?_)
   | (with_reducible refine LeO.bind ?_ (fun _ => ?_))
   | exact ih0 _ _ _ _ _
   | exact ih1 _ _ _ _ _ _
   | exact ih2 _ _ _ _ _
   | exact ecdysisref10_Long.mono _ _ _
   | exact ecdysisref10_free.mono _ _ _ _
   | exact ecdysisref10_set.mono _ _ _ _ _
   | exact LeO.none _
   | refine LeO.ite ?_ ?_
   | refine LeO.bind ?_ (fun _ => ?_)
set_option maxHeartbeats 8000000 in
set_option maxRecDepth 100000 in
theorem ecdysisref10_Do.calls (k : Nat) (P0_ : Nat → Prop) (u9000_ : Value) (l0 : List Int) (a1_0 : Int) (a1_1 : Int) (a1_2 : Int) (r1 : List Int) (r2 : Int) (r3 : Int) (w0 w : World) (hB : Below w0.heap.size w0 w) (ho0 : Kd.R (Kd.int .i64) 3 w w0.heap.size P0_ u9000_ l0) (h : ecdysisref10_Do.f k l0 a1_0 a1_1 a1_2 = some (r1, r2, r3)) :
  Calls Try.prog 34 #[u9000_, .agg #[.int .i64 a1_0, .int .i64 a1_1, .int .i64 a1_2]] w fun e w' => ∃ v0_ : Value, e = .returned (.tuple #[v0_, .int .i64 r2, .int .i64 r3]) ∧ Kd.R (Kd.int .i64) 3 w' w0.heap.size (fun k_ => (P0_ k_ ∨ w.heap.size ≤ k_)) v0_ r1 ∧ Below w0.heap.size w0 w' ∧ Kept w w' (fun k_ => P0_ k_) := by
 have hu29 := Try.underlying29
 have HO0 := Aside0.mk (show Kd.R (Kd.int .i64) 3 w w0.heap.size (fun k_ => (P0_ k_ ∨ w.heap.size ≤ k_)) u9000_ l0 from Kd.R_mono ho0 (fun k_ hk => (.inl hk)))
 have HK := Aside0.mk (Kept.refl w (fun k_ => P0_ k_))
 have HW0 := Aside0.mk hB.size
 have HB := Aside0.mk hB
 clear hB
 have H : (if a1_0 = 0 then (if a1_2 < 1 then (some (l0, 0, 1)) else (ecdysisref10_Do.l0 k l0 0 a1_0 a1_1 a1_2)) else (if a1_0 = 1 then ((ecdysisref10_Long.f k l0 a1_1).bind fun t133 => (if t133 = 0 then (some (l0, 0, 101)) else ((ecdysisref10_set.f k l0 a1_1 t133 0).bind fun t134 => (some (t134, 0, 0))))) else (if a1_0 = 2 then (if a1_2 < 1 then (ecdysisref10_Do.j2 k l0 true a1_0 a1_1 a1_2) else (if a1_1 < 0 then (ecdysisref10_Do.j2 k l0 true a1_0 a1_1 a1_2) else (if a1_1 > (l0.length : Int) then (ecdysisref10_Do.j2 k l0 true a1_0 a1_1 a1_2) else (ecdysisref10_Do.j2 k l0 (decide (a1_2 > (wrap64 ((l0.length : Int) - a1_1)))) a1_0 a1_1 a1_2)))) else (some (l0, 0, 0))))) = some (r1, r2, r3) := h
 clear h
 by_cases c3 : a1_0 = 0
 ·rw [if_pos c3] at H
  have c3b0 : (a1_0 == 0) = true := beq_iff_eq.mpr c3
  have c3b1 : (a1_0 != 0) = false := bne_eq_false_iff_eq.mpr c3
  clear c3
  by_cases c4 : a1_2 < 1
  ·rw [if_pos c4] at H
   have c4b0 : decide (a1_2 < 1) = true := decide_eq_true c4
   clear c4
   simp only [Option.some.injEq, Prod.mk.injEq] at H
   obtain ⟨rfl, rfl, rfl⟩ := H
   go_enter Try.func34, Try.ntmps34
   go_wp2_with (first | ((with_reducible refine gate_dst (N := 3) rfl ?_); (try (refine gate_guard (by rfl) ?_; dsimp only)); refine box_event ?hg (N := 3) ?hd (cs := #[.int .i64 a1_0, .int .i64 a1_1, .int .i64 a1_2]) (t := 29) ?hr ?_; (case hd => rfl); (case hg => rfl); (case hr => first | (go_simp; done) | (go_simp; rfl)); intro gb128 hg w5 hbox hb; have n0_ := Aside0.mk (Kd.R_below (by (with_reducible repeat (first | apply Kd.R_alloc | apply Kd.R_drewN | apply Kd.R_drew)); exact HO0.out) hb); have n1_ := Aside0.mk (Kept.below (S := (fun k_ => P0_ k_)) (by repeat (first | (with_reducible first | exact HK.out | apply Kept.alloc | apply Kept.drewN | apply Kept.drew) | exact HK.out)) hb); have n2_ := Aside0.mk (below_step (by repeat (first | (with_reducible first | exact HB.out | apply below_alloc | apply pw_below_drewN | apply below_drew1) | exact HB.out)) hb); have n3_ := Aside0.mk (hbox); have n4_ := Aside0.mk ((by rw [hg]; exact (by first | exact HK.out.1 | exact (show Kept w _ (fun k_ => P0_ k_) from by repeat (first | (with_reducible first | exact HK.out | apply Kept.alloc | apply Kept.drewN | apply Kept.drew) | exact HK.out)).1) : w.heap.size ≤ gb128)); have n5_ := Aside0.mk ((by rw [hg]; exact (below_size (by repeat (first | (with_reducible first | exact HB.out | apply below_alloc | apply pw_below_drewN | apply below_drew1) | exact HB.out))) : w0.heap.size ≤ gb128)); clear HO0; clear HK; clear HB; have HO0 := n0_; have HK := n1_; have HB := n2_; have BK128 := n3_; have GW128 := n4_; have GE128 := n5_; clear n0_ n1_ n2_ n3_ n4_ n5_; clear hb hbox hg; have hcz6_0 : w5.cell? ⟨gb128, 0, none⟩ = some (.int .i64 a1_0) := (blk_cell BK128.out 0).trans rfl; have hcz6_1 : w5.cell? ⟨gb128, 1, none⟩ = some (.int .i64 a1_1) := (blk_cell BK128.out 1).trans rfl; have hcz6_2 : w5.cell? ⟨gb128, 2, none⟩ = some (.int .i64 a1_2) := (blk_cell BK128.out 2).trans rfl; have hfz6_0 := blk_frozen BK128.out 0; have hfz6_1 := blk_frozen BK128.out 1; have hfz6_2 := blk_frozen BK128.out 2))
   go_ret3
   exact ⟨_, by first | rfl | (simp [errW_none, errW_some] <;> rfl) | (simp [*, errW_none, errW_some] <;> rfl), by (with_reducible repeat (first | apply Kd.R_alloc | apply Kd.R_drewN | apply Kd.R_drew)); exact HO0.out, by repeat (first | (with_reducible first | exact HB.out | apply below_alloc | apply pw_below_drewN | apply below_drew1 | refine below_set ?_ GE128.out) | exact HB.out), by repeat (first | (with_reducible first | exact HK.out | apply Kept.alloc | apply Kept.drewN | apply Kept.drew | refine Kept.setCell ?_ (.inr GW128.out) _) | exact HK.out)⟩
  ·rw [if_neg c4] at H
   have c4b0 : decide (a1_2 < 1) = false := decide_eq_false c4
   clear c4
   have H' := Aside0.mk H
   clear H
   go_enter Try.func34, Try.ntmps34
   go_wp2_with (first | ((with_reducible refine gate_dst (N := 3) rfl ?_); (try (refine gate_guard (by rfl) ?_; dsimp only)); refine box_event ?hg (N := 3) ?hd (cs := #[.int .i64 a1_0, .int .i64 a1_1, .int .i64 a1_2]) (t := 29) ?hr ?_; (case hd => rfl); (case hg => rfl); (case hr => first | (go_simp; done) | (go_simp; rfl)); intro gb128 hg w7 hbox hb; have n0_ := Aside0.mk (Kd.R_below (by (with_reducible repeat (first | apply Kd.R_alloc | apply Kd.R_drewN | apply Kd.R_drew)); exact HO0.out) hb); have n1_ := Aside0.mk (Kept.below (S := (fun k_ => P0_ k_)) (by repeat (first | (with_reducible first | exact HK.out | apply Kept.alloc | apply Kept.drewN | apply Kept.drew) | exact HK.out)) hb); have n2_ := Aside0.mk (below_step (by repeat (first | (with_reducible first | exact HB.out | apply below_alloc | apply pw_below_drewN | apply below_drew1) | exact HB.out)) hb); have n3_ := Aside0.mk (hbox); have n4_ := Aside0.mk ((by rw [hg]; exact (by first | exact HK.out.1 | exact (show Kept w _ (fun k_ => P0_ k_) from by repeat (first | (with_reducible first | exact HK.out | apply Kept.alloc | apply Kept.drewN | apply Kept.drew) | exact HK.out)).1) : w.heap.size ≤ gb128)); have n5_ := Aside0.mk ((by rw [hg]; exact (below_size (by repeat (first | (with_reducible first | exact HB.out | apply below_alloc | apply pw_below_drewN | apply below_drew1) | exact HB.out))) : w0.heap.size ≤ gb128)); clear HO0; clear HK; clear HB; have HO0 := n0_; have HK := n1_; have HB := n2_; have BK128 := n3_; have GW128 := n4_; have GE128 := n5_; clear n0_ n1_ n2_ n3_ n4_ n5_; clear hb hbox hg; have hcz8_0 : w7.cell? ⟨gb128, 0, none⟩ = some (.int .i64 a1_0) := (blk_cell BK128.out 0).trans rfl; have hcz8_1 : w7.cell? ⟨gb128, 1, none⟩ = some (.int .i64 a1_1) := (blk_cell BK128.out 1).trans rfl; have hcz8_2 : w7.cell? ⟨gb128, 2, none⟩ = some (.int .i64 a1_2) := (blk_cell BK128.out 2).trans rfl; have hfz8_0 := blk_frozen BK128.out 0; have hfz8_1 := blk_frozen BK128.out 1; have hfz8_2 := blk_frozen BK128.out 2))
   go_loopg [7] k (fun kq v7 w' => ∃ (x7_1 : Int), v7 = .int .i64 x7_1 ∧ Aside0 (ecdysisref10_Do.l0 kq l0 x7_1 a1_0 a1_1 a1_2 = some (r1, r2, r3)) ∧ Aside0 (kq ≤ k) ∧ Aside0 (Kd.R (Kd.int .i64) 3 w' w0.heap.size (fun k_ => (P0_ k_ ∨ w.heap.size ≤ k_)) u9000_ l0) ∧ Aside0 (w'.heap[gb128]? = some (.cells #[.int .i64 a1_0, .int .i64 a1_1, .int .i64 a1_2] 29 (0, 0))) ∧ Aside0 (Kept w w' (fun k_ => P0_ k_)) ∧ Aside0 (Below w0.heap.size w0 w'))
   case atStart => exact ⟨(0), (by first | rfl | (simp; done) | (simp [*]; done)), H', ⟨Nat.le_refl _⟩, ⟨by (with_reducible repeat (first | apply Kd.R_alloc | apply Kd.R_drewN | apply Kd.R_drew)); exact HO0.out⟩, ⟨by (with_reducible repeat (first | refine blk_drewN ?_ _ | refine blk_drew ?_ | refine blk_alloc ?_ _)); exact BK128.out⟩, ⟨by repeat (first | (with_reducible first | exact HK.out | apply Kept.alloc | apply Kept.drewN | apply Kept.drew | refine Kept.setCell ?_ (.inr GW128.out) _) | exact HK.out)⟩, ⟨by repeat (first | (with_reducible first | exact HB.out | apply below_alloc | apply pw_below_drewN | apply below_drew1 | refine below_set ?_ GE128.out) | exact HB.out)⟩⟩
   case round =>
    clear H'
    try clear p2
    try clear c3
    try clear c3b0
    try clear c3b1
    try clear c4
    try clear c4b0
    try clear p6
    try clear hcz6_0
    try clear hcz6_1
    try clear hcz6_2
    try clear hcz8_0
    try clear hcz8_1
    try clear hcz8_2
    try clear hfz6_0
    try clear hfz6_1
    try clear hfz6_2
    try clear hfz8_0
    try clear hfz8_1
    try clear hfz8_2
    obtain ⟨x7_1, rfl, HA, HK1, HO_0, BK128, HK, HB⟩ := hrel
    cases gk with
    | zero => exact absurd HA.out (by simp [ecdysisref10_Do.l0])
    | succ k1 =>
     have H := HA.out
     clear HA
     simp only [ecdysisref10_Do.l0] at H
     have HC9 := Aside0.mk H
     clear H
     go_upto_region 6 with (fail)
     go_cut [30] (fun v30 wc => ∃ (kq : Nat) (x30_8 : Bool), v30 = .bool x30_8 ∧ Aside0 (ecdysisref10_Do.j1 kq l0 x7_1 x30_8 a1_0 a1_1 a1_2 = some (r1, r2, r3)) ∧ Aside0 (kq ≤ k1) ∧ Aside0 (Kd.R (Kd.int .i64) 3 wc w0.heap.size (fun k_ => (P0_ k_ ∨ w.heap.size ≤ k_)) u9000_ l0) ∧ Aside0 (wc.heap[gb128]? = some (.cells #[.int .i64 a1_0, .int .i64 a1_1, .int .i64 a1_2] 29 (0, 0))) ∧ Aside0 (Kept w wc (fun k_ => P0_ k_)) ∧ Aside0 (Below w0.heap.size w0 wc))
     case first =>
      have H := HC9.out
      clear HC9
      by_cases c10 : a1_2 ≤ (l0.length : Int)
      ·rw [if_pos c10] at H
       have c10b0 : decide (a1_2 ≤ (l0.length : Int)) = true := decide_eq_true c10
       clear c10
       (first | rw [c10b0] | (simp only [i64_w, i32_w]; rw [c10b0]) | skip)
       have H' := Aside0.mk H
       clear H
       have hcz11_0 : wr.cell? ⟨gb128, 0, none⟩ = some (.int .i64 a1_0) := (blk_cell BK128.out 0).trans rfl
       have hcz11_1 : wr.cell? ⟨gb128, 1, none⟩ = some (.int .i64 a1_1) := (blk_cell BK128.out 1).trans rfl
       have hcz11_2 : wr.cell? ⟨gb128, 2, none⟩ = some (.int .i64 a1_2) := (blk_cell BK128.out 2).trans rfl
       have hfz11_0 := blk_frozen BK128.out 0
       have hfz11_1 := blk_frozen BK128.out 1
       have hfz11_2 := blk_frozen BK128.out 2
       obtain ⟨Ao12, co12, eo12⟩ := Kd.R_slice HO_0.out
       subst eo12
       go_wp2
       go_meet
       case rel => exact ⟨_, (decide (x7_1 ≤ (wrap64 ((l0.length : Int) - a1_2)))), (by first | rfl | (simp; done) | (simp [*]; done)), H', ⟨by have := HK1.out; first | omega | exact Nat.le_refl _⟩, ⟨by (with_reducible repeat (first | apply Kd.R_alloc | apply Kd.R_drewN | apply Kd.R_drew)); exact HO_0.out⟩, ⟨by (with_reducible repeat (first | refine blk_drewN ?_ _ | refine blk_drew ?_ | refine blk_alloc ?_ _)); exact BK128.out⟩, ⟨by repeat (first | (with_reducible first | exact HK.out | apply Kept.alloc | apply Kept.drewN | apply Kept.drew | refine Kept.setCell ?_ (.inr GW128.out) _) | exact HK.out)⟩, ⟨by repeat (first | (with_reducible first | exact HB.out | apply below_alloc | apply pw_below_drewN | apply below_drew1 | refine below_set ?_ GE128.out) | exact HB.out)⟩⟩
      ·rw [if_neg c10] at H
       have c10b0 : decide (a1_2 ≤ (l0.length : Int)) = false := decide_eq_false c10
       clear c10
       (first | rw [c10b0] | (simp only [i64_w, i32_w]; rw [c10b0]) | skip)
       have H' := Aside0.mk H
       clear H
       have hcz13_0 : wr.cell? ⟨gb128, 0, none⟩ = some (.int .i64 a1_0) := (blk_cell BK128.out 0).trans rfl
       have hcz13_1 : wr.cell? ⟨gb128, 1, none⟩ = some (.int .i64 a1_1) := (blk_cell BK128.out 1).trans rfl
       have hcz13_2 : wr.cell? ⟨gb128, 2, none⟩ = some (.int .i64 a1_2) := (blk_cell BK128.out 2).trans rfl
       have hfz13_0 := blk_frozen BK128.out 0
       have hfz13_1 := blk_frozen BK128.out 1
       have hfz13_2 := blk_frozen BK128.out 2
       obtain ⟨Ao14, co14, eo14⟩ := Kd.R_slice HO_0.out
       subst eo14
       go_wp2
       go_meet
       case rel => exact ⟨_, (false), (by first | rfl | (simp; done) | (simp [*]; done)), H', ⟨by have := HK1.out; first | omega | exact Nat.le_refl _⟩, ⟨by (with_reducible repeat (first | apply Kd.R_alloc | apply Kd.R_drewN | apply Kd.R_drew)); exact HO_0.out⟩, ⟨by (with_reducible repeat (first | refine blk_drewN ?_ _ | refine blk_drew ?_ | refine blk_alloc ?_ _)); exact BK128.out⟩, ⟨by repeat (first | (with_reducible first | exact HK.out | apply Kept.alloc | apply Kept.drewN | apply Kept.drew | refine Kept.setCell ?_ (.inr GW128.out) _) | exact HK.out)⟩, ⟨by repeat (first | (with_reducible first | exact HB.out | apply below_alloc | apply pw_below_drewN | apply below_drew1 | refine below_set ?_ GE128.out) | exact HB.out)⟩⟩
     case rest =>
      clear HC9
      try clear c1
      try clear p2
      try clear c3
      try clear c3b0
      try clear c3b1
      try clear c4
      try clear c4b0
      try clear p6
      try clear c10
      try clear c10b0
      try clear hcz11_0
      try clear hcz11_1
      try clear hcz11_2
      try clear hcz13_0
      try clear hcz13_1
      try clear hcz13_2
      try clear hcz6_0
      try clear hcz6_1
      try clear hcz6_2
      try clear hcz8_0
      try clear hcz8_1
      try clear hcz8_2
      try clear hfz11_0
      try clear hfz11_1
      try clear hfz11_2
      try clear hfz13_0
      try clear hfz13_1
      try clear hfz13_2
      try clear hfz6_0
      try clear hfz6_1
      try clear hfz6_2
      try clear hfz8_0
      try clear hfz8_1
      try clear hfz8_2
      try clear p2
      try clear p6
      obtain ⟨kq, x30_8, rfl, HA, HJ8, HO_0, BK128, HK, HB⟩ := hcut
      cases kq with
      | zero => exact absurd HA.out (by simp [ecdysisref10_Do.j1])
      | succ kj8 =>
       have H := HA.out
       clear HA
       simp only [ecdysisref10_Do.j1] at H
       by_cases c15 : x30_8 = true
       ·subst c15
        have H1 : ((ecdysisref10_free.f kj8 l0 x7_1 a1_2).bind fun t129 => (if t129 = true then ((ecdysisref10_set.f kj8 l0 x7_1 a1_2 (wrap64 (x7_1 + 1))).bind fun t130 => (some (t130, x7_1, 0))) else (ecdysisref10_Do.l0 kj8 l0 (wrap64 (x7_1 + 1)) a1_0 a1_1 a1_2))) = some (r1, r2, r3) := by rw [if_pos rfl] at H; exact H
        clear H
        have H := H1
        clear H1
        replace H := Option.bind_eq_some_iff.mp H
        obtain ⟨t129, A160, H⟩ := H
        replace H : (if t129 = true then ((ecdysisref10_set.f kj8 l0 x7_1 a1_2 (wrap64 (x7_1 + 1))).bind fun t130 => (some (t130, x7_1, 0))) else (ecdysisref10_Do.l0 kj8 l0 (wrap64 (x7_1 + 1)) a1_0 a1_1 a1_2)) = some (r1, r2, r3) := H
        have A16 := Aside0.mk A160
        clear A160
        by_cases c17 : t129 = true
        ·subst c17
         have H1 : ((ecdysisref10_set.f kj8 l0 x7_1 a1_2 (wrap64 (x7_1 + 1))).bind fun t130 => (some (t130, x7_1, 0))) = some (r1, r2, r3) := by rw [if_pos rfl] at H; exact H
         clear H
         have H := H1
         clear H1
         replace H := Option.bind_eq_some_iff.mp H
         obtain ⟨t130, A180, H⟩ := H
         replace H : (some (t130, x7_1, 0)) = some (r1, r2, r3) := H
         have A18 := Aside0.mk A180
         clear A180
         simp only [Option.some.injEq, Prod.mk.injEq] at H
         obtain ⟨rfl, rfl, rfl⟩ := H
         have hcz19_0 : wc.cell? ⟨gb128, 0, none⟩ = some (.int .i64 a1_0) := (blk_cell BK128.out 0).trans rfl
         have hcz19_1 : wc.cell? ⟨gb128, 1, none⟩ = some (.int .i64 a1_1) := (blk_cell BK128.out 1).trans rfl
         have hcz19_2 : wc.cell? ⟨gb128, 2, none⟩ = some (.int .i64 a1_2) := (blk_cell BK128.out 2).trans rfl
         have hfz19_0 := blk_frozen BK128.out 0
         have hfz19_1 := blk_frozen BK128.out 1
         have hfz19_2 := blk_frozen BK128.out 2
         obtain ⟨Ao20, co20, eo20⟩ := Kd.R_slice HO_0.out
         subst eo20
         go_wp2_with (first | ((with_reducible refine gate_callee (f := 50) rfl ?_); refine goesL_ (some 37) rfl rfl Try.func50 (by kernel_rfl) rfl #[.slice Ao20 l0.length co20, .int .i64 x7_1, .int .i64 a1_2] rfl (by (try simp only [List.map_toArray, List.map_cons, List.map_nil]); first | done | rfl | (simp only [List.length_drop, List.length_take]; rfl)) ?_; (with_reducible refine (ecdysisref10_free.calls kj8 _ _ l0 x7_1 a1_2 true _ ?side1 ?side2 A16.out).mono ?_); (case side1 => repeat (first | exact (Kd.R_reads' HO_0.out).2.2 | (with_reducible refine Kd.C_alloc ?_ _) | (with_reducible refine Kd.C_drewN ?_ _) | (with_reducible refine Kd.C_drew ?_))); (case side2 => exact (Kd.R_reads' HO_0.out).2.1); rintro e w' ⟨rfl, ⟨nd, rfl⟩⟩; refine ⟨_, rfl, ?_⟩) | ((with_reducible refine gate_callee (f := 51) rfl ?_); refine goesL_ (some 44) rfl rfl Try.func51 (by kernel_rfl) rfl #[.slice Ao20 l0.length co20, .int .i64 x7_1, .int .i64 a1_2, .int .i64 (wrap64 (x7_1 + 1))] rfl (by (try simp only [List.map_toArray, List.map_cons, List.map_nil]); first | done | rfl | (simp only [List.length_drop, List.length_take]; rfl)) ?_; (with_reducible refine (ecdysisref10_set.calls kj8 _ _ l0 x7_1 a1_2 (wrap64 (x7_1 + 1)) t130 _ ?side1 ?side2 A18.out).mono ?_); (case side1 => repeat (first | exact (Kd.R_reads' HO_0.out).2.2 | (with_reducible refine Kd.C_alloc ?_ _) | (with_reducible refine Kd.C_drewN ?_ _) | (with_reducible refine Kd.C_drew ?_))); (case side2 => exact (Kd.R_reads' HO_0.out).2.1); rintro e w21 ⟨v131, rfl, ho0, hb⟩; refine ⟨_, rfl, ?_⟩; have n0_ := Aside0.mk (Kd.R_elder' (by (with_reducible repeat (first | apply Kd.R_alloc | apply Kd.R_drewN | apply Kd.R_drew)); exact HO_0.out) (Kd.R_base ho0) hb); have n1_ := Aside0.mk (Kd.R_lower (Kd.R_new' (Kd.R_newM (M := fun k_ => (P0_ k_ ∨ w.heap.size ≤ k_)) ho0 (by first | exact HK.out.1 | exact (show Kept w _ (fun k_ => P0_ k_) from by repeat (first | (with_reducible first | exact HK.out | apply Kept.alloc | apply Kept.drewN | apply Kept.drew | refine Kept.setCell ?_ (.inr GW128.out) _) | exact HK.out)).1) (fun k_ h_ => .inr h_)) (Kd.R_lt (by (with_reducible repeat (first | apply Kd.R_alloc | apply Kd.R_drewN | apply Kd.R_drew)); exact HO_0.out))) (below_size (by repeat (first | (with_reducible first | exact HB.out | apply below_alloc | apply pw_below_drewN | apply below_drew1 | refine below_set ?_ GE128.out) | exact HB.out)))); have n2_ := Aside0.mk (blk_below (g := gb128) (o := .cells #[.int .i64 a1_0, .int .i64 a1_1, .int .i64 a1_2] 29 (0, 0)) (by (with_reducible repeat (first | refine blk_drewN ?_ _ | refine blk_drew ?_ | refine blk_alloc ?_ _)); exact BK128.out) hb); have n3_ := Aside0.mk (Kept.below (S := (fun k_ => P0_ k_)) (by repeat (first | (with_reducible first | exact HK.out | apply Kept.alloc | apply Kept.drewN | apply Kept.drew | refine Kept.setCell ?_ (.inr GW128.out) _) | exact HK.out)) hb); have n4_ := Aside0.mk (below_step (by repeat (first | (with_reducible first | exact HB.out | apply below_alloc | apply pw_below_drewN | apply below_drew1 | refine below_set ?_ GE128.out) | exact HB.out)) hb); clear HO_0; clear BK128; clear HK; clear HB; have HO_0 := n0_; have HO132 := n1_; have BK128 := n2_; have HK := n3_; have HB := n4_; clear n0_ n1_ n2_ n3_ n4_; (try clear hb); (try clear hb2); (try clear hk); (try clear hi); (try clear ho0)))
         go_ret3
         exact ⟨_, by first | rfl | (simp [errW_none, errW_some] <;> rfl) | (simp [*, errW_none, errW_some] <;> rfl), by (with_reducible repeat (first | apply Kd.R_alloc | apply Kd.R_drewN | apply Kd.R_drew)); exact Kd.R_mono HO132.out (fun _ hk => hk.1.1), by repeat (first | (with_reducible first | exact HB.out | apply below_alloc | apply pw_below_drewN | apply below_drew1 | refine below_set ?_ GE128.out) | exact HB.out), by repeat (first | (with_reducible first | exact HK.out | apply Kept.alloc | apply Kept.drewN | apply Kept.drew | refine Kept.setCell ?_ (.inr GW128.out) _) | exact HK.out)⟩
        ·replace c17 := Bool.eq_false_iff.mpr c17
         subst c17
         have H1 : (ecdysisref10_Do.l0 kj8 l0 (wrap64 (x7_1 + 1)) a1_0 a1_1 a1_2) = some (r1, r2, r3) := by rw [if_neg (show ¬ (false = true) by decide)] at H; exact H
         clear H
         have H := H1
         clear H1
         have H' := Aside0.mk H
         clear H
         have hcz22_0 : wc.cell? ⟨gb128, 0, none⟩ = some (.int .i64 a1_0) := (blk_cell BK128.out 0).trans rfl
         have hcz22_1 : wc.cell? ⟨gb128, 1, none⟩ = some (.int .i64 a1_1) := (blk_cell BK128.out 1).trans rfl
         have hcz22_2 : wc.cell? ⟨gb128, 2, none⟩ = some (.int .i64 a1_2) := (blk_cell BK128.out 2).trans rfl
         have hfz22_0 := blk_frozen BK128.out 0
         have hfz22_1 := blk_frozen BK128.out 1
         have hfz22_2 := blk_frozen BK128.out 2
         obtain ⟨Ao23, co23, eo23⟩ := Kd.R_slice HO_0.out
         subst eo23
         go_wp2_with (first | ((with_reducible refine gate_callee (f := 50) rfl ?_); refine goesL_ (some 37) rfl rfl Try.func50 (by kernel_rfl) rfl #[.slice Ao23 l0.length co23, .int .i64 x7_1, .int .i64 a1_2] rfl (by (try simp only [List.map_toArray, List.map_cons, List.map_nil]); first | done | rfl | (simp only [List.length_drop, List.length_take]; rfl)) ?_; (with_reducible refine (ecdysisref10_free.calls kj8 _ _ l0 x7_1 a1_2 false _ ?side1 ?side2 A16.out).mono ?_); (case side1 => repeat (first | exact (Kd.R_reads' HO_0.out).2.2 | (with_reducible refine Kd.C_alloc ?_ _) | (with_reducible refine Kd.C_drewN ?_ _) | (with_reducible refine Kd.C_drew ?_))); (case side2 => exact (Kd.R_reads' HO_0.out).2.1); rintro e w' ⟨rfl, ⟨nd, rfl⟩⟩; refine ⟨_, rfl, ?_⟩))
         go_roundg kj8
         case measure => have := HK1.out; have := HJ8.out; omega
         case rel => exact ⟨(wrap64 (x7_1 + 1)), (by first | rfl | (simp; done) | (simp [*]; done)), H', ⟨by have := HK1.out; have := HJ8.out; omega⟩, ⟨by (with_reducible repeat (first | apply Kd.R_alloc | apply Kd.R_drewN | apply Kd.R_drew)); exact HO_0.out⟩, ⟨by (with_reducible repeat (first | refine blk_drewN ?_ _ | refine blk_drew ?_ | refine blk_alloc ?_ _)); exact BK128.out⟩, ⟨by repeat (first | (with_reducible first | exact HK.out | apply Kept.alloc | apply Kept.drewN | apply Kept.drew | refine Kept.setCell ?_ (.inr GW128.out) _) | exact HK.out)⟩, ⟨by repeat (first | (with_reducible first | exact HB.out | apply below_alloc | apply pw_below_drewN | apply below_drew1 | refine below_set ?_ GE128.out) | exact HB.out)⟩⟩
       ·replace c15 := Bool.eq_false_iff.mpr c15
        subst c15
        have H1 : (some (l0, 0, 100)) = some (r1, r2, r3) := by rw [if_neg (show ¬ (false = true) by decide)] at H; exact H
        clear H
        have H := H1
        clear H1
        simp only [Option.some.injEq, Prod.mk.injEq] at H
        obtain ⟨rfl, rfl, rfl⟩ := H
        go_wp2
        go_ret3
        exact ⟨_, by first | rfl | (simp [errW_none, errW_some] <;> rfl) | (simp [*, errW_none, errW_some] <;> rfl), by (with_reducible repeat (first | apply Kd.R_alloc | apply Kd.R_drewN | apply Kd.R_drew)); exact HO_0.out, by repeat (first | (with_reducible first | exact HB.out | apply below_alloc | apply pw_below_drewN | apply below_drew1 | refine below_set ?_ GE128.out) | exact HB.out), by repeat (first | (with_reducible first | exact HK.out | apply Kept.alloc | apply Kept.drewN | apply Kept.drew | refine Kept.setCell ?_ (.inr GW128.out) _) | exact HK.out)⟩
 ·rw [if_neg c3] at H
  have c3b0 : (a1_0 == 0) = false := beq_eq_false_iff_ne.mpr c3
  have c3b1 : (a1_0 != 0) = true := bne_iff_ne.mpr c3
  by_cases c24 : a1_0 = 1
  ·rw [if_pos c24] at H
   have c24b0 : (a1_0 == 1) = true := beq_iff_eq.mpr c24
   have c24b1 : (a1_0 != 1) = false := bne_eq_false_iff_eq.mpr c24
   clear c24
   replace H := Option.bind_eq_some_iff.mp H
   obtain ⟨t133, A250, H⟩ := H
   replace H : (if t133 = 0 then (some (l0, 0, 101)) else ((ecdysisref10_set.f k l0 a1_1 t133 0).bind fun t134 => (some (t134, 0, 0)))) = some (r1, r2, r3) := H
   have A25 := Aside0.mk A250
   clear A250
   by_cases c26 : t133 = 0
   ·rw [if_pos c26] at H
    have c26b0 : (t133 == 0) = true := beq_iff_eq.mpr c26
    have c26b1 : (t133 != 0) = false := bne_eq_false_iff_eq.mpr c26
    clear c26
    simp only [Option.some.injEq, Prod.mk.injEq] at H
    obtain ⟨rfl, rfl, rfl⟩ := H
    go_enter Try.func34, Try.ntmps34
    go_wp2_with (first | ((with_reducible refine gate_dst (N := 3) rfl ?_); (try (refine gate_guard (by rfl) ?_; dsimp only)); refine box_event ?hg (N := 3) ?hd (cs := #[.int .i64 a1_0, .int .i64 a1_1, .int .i64 a1_2]) (t := 29) ?hr ?_; (case hd => rfl); (case hg => rfl); (case hr => first | (go_simp; done) | (go_simp; rfl)); intro gb128 hg w27 hbox hb; have n0_ := Aside0.mk (Kd.R_below (by (with_reducible repeat (first | apply Kd.R_alloc | apply Kd.R_drewN | apply Kd.R_drew)); exact HO0.out) hb); have n1_ := Aside0.mk (Kept.below (S := (fun k_ => P0_ k_)) (by repeat (first | (with_reducible first | exact HK.out | apply Kept.alloc | apply Kept.drewN | apply Kept.drew) | exact HK.out)) hb); have n2_ := Aside0.mk (below_step (by repeat (first | (with_reducible first | exact HB.out | apply below_alloc | apply pw_below_drewN | apply below_drew1) | exact HB.out)) hb); have n3_ := Aside0.mk (hbox); have n4_ := Aside0.mk ((by rw [hg]; exact (by first | exact HK.out.1 | exact (show Kept w _ (fun k_ => P0_ k_) from by repeat (first | (with_reducible first | exact HK.out | apply Kept.alloc | apply Kept.drewN | apply Kept.drew) | exact HK.out)).1) : w.heap.size ≤ gb128)); have n5_ := Aside0.mk ((by rw [hg]; exact (below_size (by repeat (first | (with_reducible first | exact HB.out | apply below_alloc | apply pw_below_drewN | apply below_drew1) | exact HB.out))) : w0.heap.size ≤ gb128)); clear HO0; clear HK; clear HB; have HO0 := n0_; have HK := n1_; have HB := n2_; have BK128 := n3_; have GW128 := n4_; have GE128 := n5_; clear n0_ n1_ n2_ n3_ n4_ n5_; clear hb hbox hg; have hcz28_0 : w27.cell? ⟨gb128, 0, none⟩ = some (.int .i64 a1_0) := (blk_cell BK128.out 0).trans rfl; have hcz28_1 : w27.cell? ⟨gb128, 1, none⟩ = some (.int .i64 a1_1) := (blk_cell BK128.out 1).trans rfl; have hcz28_2 : w27.cell? ⟨gb128, 2, none⟩ = some (.int .i64 a1_2) := (blk_cell BK128.out 2).trans rfl; have hfz28_0 := blk_frozen BK128.out 0; have hfz28_1 := blk_frozen BK128.out 1; have hfz28_2 := blk_frozen BK128.out 2; obtain ⟨Ao29, co29, eo29⟩ := Kd.R_slice HO0.out; subst eo29) | ((with_reducible refine gate_callee (f := 35) rfl ?_); refine goesL_ (some 52) rfl rfl Try.func35 (by kernel_rfl) rfl #[.slice Ao29 l0.length co29, .int .i64 a1_1] rfl (by (try simp only [List.map_toArray, List.map_cons, List.map_nil]); first | done | rfl | (simp only [List.length_drop, List.length_take]; rfl)) ?_; (with_reducible refine (ecdysisref10_Long.calls k _ _ l0 a1_1 t133 _ ?side1 ?side2 A25.out).mono ?_); (case side1 => repeat (first | exact (Kd.R_reads' HO0.out).2.2 | (with_reducible refine Kd.C_alloc ?_ _) | (with_reducible refine Kd.C_drewN ?_ _) | (with_reducible refine Kd.C_drew ?_))); (case side2 => exact (Kd.R_reads' HO0.out).2.1); rintro e w' ⟨rfl, ⟨nd, rfl⟩⟩; refine ⟨_, rfl, ?_⟩))
    go_ret3
    exact ⟨_, by first | rfl | (simp [errW_none, errW_some] <;> rfl) | (simp [*, errW_none, errW_some] <;> rfl), by (with_reducible repeat (first | apply Kd.R_alloc | apply Kd.R_drewN | apply Kd.R_drew)); exact HO0.out, by repeat (first | (with_reducible first | exact HB.out | apply below_alloc | apply pw_below_drewN | apply below_drew1 | refine below_set ?_ GE128.out) | exact HB.out), by repeat (first | (with_reducible first | exact HK.out | apply Kept.alloc | apply Kept.drewN | apply Kept.drew | refine Kept.setCell ?_ (.inr GW128.out) _) | exact HK.out)⟩
   ·rw [if_neg c26] at H
    have c26b0 : (t133 == 0) = false := beq_eq_false_iff_ne.mpr c26
    have c26b1 : (t133 != 0) = true := bne_iff_ne.mpr c26
    replace H := Option.bind_eq_some_iff.mp H
    obtain ⟨t134, A300, H⟩ := H
    replace H : (some (t134, 0, 0)) = some (r1, r2, r3) := H
    have A30 := Aside0.mk A300
    clear A300
    simp only [Option.some.injEq, Prod.mk.injEq] at H
    obtain ⟨rfl, rfl, rfl⟩ := H
    go_enter Try.func34, Try.ntmps34
    go_wp2_with (first | ((with_reducible refine gate_dst (N := 3) rfl ?_); (try (refine gate_guard (by rfl) ?_; dsimp only)); refine box_event ?hg (N := 3) ?hd (cs := #[.int .i64 a1_0, .int .i64 a1_1, .int .i64 a1_2]) (t := 29) ?hr ?_; (case hd => rfl); (case hg => rfl); (case hr => first | (go_simp; done) | (go_simp; rfl)); intro gb128 hg w31 hbox hb; have n0_ := Aside0.mk (Kd.R_below (by (with_reducible repeat (first | apply Kd.R_alloc | apply Kd.R_drewN | apply Kd.R_drew)); exact HO0.out) hb); have n1_ := Aside0.mk (Kept.below (S := (fun k_ => P0_ k_)) (by repeat (first | (with_reducible first | exact HK.out | apply Kept.alloc | apply Kept.drewN | apply Kept.drew) | exact HK.out)) hb); have n2_ := Aside0.mk (below_step (by repeat (first | (with_reducible first | exact HB.out | apply below_alloc | apply pw_below_drewN | apply below_drew1) | exact HB.out)) hb); have n3_ := Aside0.mk (hbox); have n4_ := Aside0.mk ((by rw [hg]; exact (by first | exact HK.out.1 | exact (show Kept w _ (fun k_ => P0_ k_) from by repeat (first | (with_reducible first | exact HK.out | apply Kept.alloc | apply Kept.drewN | apply Kept.drew) | exact HK.out)).1) : w.heap.size ≤ gb128)); have n5_ := Aside0.mk ((by rw [hg]; exact (below_size (by repeat (first | (with_reducible first | exact HB.out | apply below_alloc | apply pw_below_drewN | apply below_drew1) | exact HB.out))) : w0.heap.size ≤ gb128)); clear HO0; clear HK; clear HB; have HO0 := n0_; have HK := n1_; have HB := n2_; have BK128 := n3_; have GW128 := n4_; have GE128 := n5_; clear n0_ n1_ n2_ n3_ n4_ n5_; clear hb hbox hg; have hcz32_0 : w31.cell? ⟨gb128, 0, none⟩ = some (.int .i64 a1_0) := (blk_cell BK128.out 0).trans rfl; have hcz32_1 : w31.cell? ⟨gb128, 1, none⟩ = some (.int .i64 a1_1) := (blk_cell BK128.out 1).trans rfl; have hcz32_2 : w31.cell? ⟨gb128, 2, none⟩ = some (.int .i64 a1_2) := (blk_cell BK128.out 2).trans rfl; have hfz32_0 := blk_frozen BK128.out 0; have hfz32_1 := blk_frozen BK128.out 1; have hfz32_2 := blk_frozen BK128.out 2; obtain ⟨Ao33, co33, eo33⟩ := Kd.R_slice HO0.out; subst eo33) | ((with_reducible refine gate_callee (f := 35) rfl ?_); refine goesL_ (some 52) rfl rfl Try.func35 (by kernel_rfl) rfl #[.slice Ao33 l0.length co33, .int .i64 a1_1] rfl (by (try simp only [List.map_toArray, List.map_cons, List.map_nil]); first | done | rfl | (simp only [List.length_drop, List.length_take]; rfl)) ?_; (with_reducible refine (ecdysisref10_Long.calls k _ _ l0 a1_1 t133 _ ?side1 ?side2 A25.out).mono ?_); (case side1 => repeat (first | exact (Kd.R_reads' HO0.out).2.2 | (with_reducible refine Kd.C_alloc ?_ _) | (with_reducible refine Kd.C_drewN ?_ _) | (with_reducible refine Kd.C_drew ?_))); (case side2 => exact (Kd.R_reads' HO0.out).2.1); rintro e w' ⟨rfl, ⟨nd, rfl⟩⟩; refine ⟨_, rfl, ?_⟩) | ((with_reducible refine gate_callee (f := 51) rfl ?_); refine goesL_ (some 60) rfl rfl Try.func51 (by kernel_rfl) rfl #[.slice Ao33 l0.length co33, .int .i64 a1_1, .int .i64 t133, .int .i64 0] rfl (by (try simp only [List.map_toArray, List.map_cons, List.map_nil]); first | done | rfl | (simp only [List.length_drop, List.length_take]; rfl)) ?_; (with_reducible refine (ecdysisref10_set.calls k _ _ l0 a1_1 t133 0 t134 _ ?side1 ?side2 A30.out).mono ?_); (case side1 => repeat (first | exact (Kd.R_reads' HO0.out).2.2 | (with_reducible refine Kd.C_alloc ?_ _) | (with_reducible refine Kd.C_drewN ?_ _) | (with_reducible refine Kd.C_drew ?_))); (case side2 => exact (Kd.R_reads' HO0.out).2.1); rintro e w34 ⟨v135, rfl, ho0, hb⟩; refine ⟨_, rfl, ?_⟩; have n0_ := Aside0.mk (Kd.R_elder' (by (with_reducible repeat (first | apply Kd.R_alloc | apply Kd.R_drewN | apply Kd.R_drew)); exact HO0.out) (Kd.R_base ho0) hb); have n1_ := Aside0.mk (Kd.R_lower (Kd.R_new' (Kd.R_newM (M := fun k_ => (P0_ k_ ∨ w.heap.size ≤ k_)) ho0 (by first | exact HK.out.1 | exact (show Kept w _ (fun k_ => P0_ k_) from by repeat (first | (with_reducible first | exact HK.out | apply Kept.alloc | apply Kept.drewN | apply Kept.drew | refine Kept.setCell ?_ (.inr GW128.out) _) | exact HK.out)).1) (fun k_ h_ => .inr h_)) (Kd.R_lt (by (with_reducible repeat (first | apply Kd.R_alloc | apply Kd.R_drewN | apply Kd.R_drew)); exact HO0.out))) (below_size (by repeat (first | (with_reducible first | exact HB.out | apply below_alloc | apply pw_below_drewN | apply below_drew1 | refine below_set ?_ GE128.out) | exact HB.out)))); have n2_ := Aside0.mk (blk_below (g := gb128) (o := .cells #[.int .i64 a1_0, .int .i64 a1_1, .int .i64 a1_2] 29 (0, 0)) (by (with_reducible repeat (first | refine blk_drewN ?_ _ | refine blk_drew ?_ | refine blk_alloc ?_ _)); exact BK128.out) hb); have n3_ := Aside0.mk (Kept.below (S := (fun k_ => P0_ k_)) (by repeat (first | (with_reducible first | exact HK.out | apply Kept.alloc | apply Kept.drewN | apply Kept.drew | refine Kept.setCell ?_ (.inr GW128.out) _) | exact HK.out)) hb); have n4_ := Aside0.mk (below_step (by repeat (first | (with_reducible first | exact HB.out | apply below_alloc | apply pw_below_drewN | apply below_drew1 | refine below_set ?_ GE128.out) | exact HB.out)) hb); clear HO0; clear BK128; clear HK; clear HB; have HO0 := n0_; have HO136 := n1_; have BK128 := n2_; have HK := n3_; have HB := n4_; clear n0_ n1_ n2_ n3_ n4_; (try clear hb); (try clear hb2); (try clear hk); (try clear hi); (try clear ho0)))
    go_ret3
    exact ⟨_, by first | rfl | (simp [errW_none, errW_some] <;> rfl) | (simp [*, errW_none, errW_some] <;> rfl), by (with_reducible repeat (first | apply Kd.R_alloc | apply Kd.R_drewN | apply Kd.R_drew)); exact Kd.R_mono HO136.out (fun _ hk => hk.1.1), by repeat (first | (with_reducible first | exact HB.out | apply below_alloc | apply pw_below_drewN | apply below_drew1 | refine below_set ?_ GE128.out) | exact HB.out), by repeat (first | (with_reducible first | exact HK.out | apply Kept.alloc | apply Kept.drewN | apply Kept.drew | refine Kept.setCell ?_ (.inr GW128.out) _) | exact HK.out)⟩
  ·rw [if_neg c24] at H
   have c24b0 : (a1_0 == 1) = false := beq_eq_false_iff_ne.mpr c24
   have c24b1 : (a1_0 != 1) = true := bne_iff_ne.mpr c24
   by_cases c35 : a1_0 = 2
   ·rw [if_pos c35] at H
    have c35b0 : (a1_0 == 2) = true := beq_iff_eq.mpr c35
    have c35b1 : (a1_0 != 2) = false := bne_eq_false_iff_eq.mpr c35
    clear c35
    have HC36 := Aside0.mk H
    clear H
    go_enter Try.func34, Try.ntmps34
    go_upto_region 17 with (first | ((with_reducible refine gate_dst (N := 3) rfl ?_); (try (refine gate_guard (by rfl) ?_; dsimp only)); refine box_event ?hg (N := 3) ?hd (cs := #[.int .i64 a1_0, .int .i64 a1_1, .int .i64 a1_2]) (t := 29) ?hr ?_; (case hd => rfl); (case hg => rfl); (case hr => first | (go_simp; done) | (go_simp; rfl)); intro gb128 hg w37 hbox hb; have n0_ := Aside0.mk (Kd.R_below (by (with_reducible repeat (first | apply Kd.R_alloc | apply Kd.R_drewN | apply Kd.R_drew)); exact HO0.out) hb); have n1_ := Aside0.mk (Kept.below (S := (fun k_ => P0_ k_)) (by repeat (first | (with_reducible first | exact HK.out | apply Kept.alloc | apply Kept.drewN | apply Kept.drew) | exact HK.out)) hb); have n2_ := Aside0.mk (below_step (by repeat (first | (with_reducible first | exact HB.out | apply below_alloc | apply pw_below_drewN | apply below_drew1) | exact HB.out)) hb); have n3_ := Aside0.mk (hbox); have n4_ := Aside0.mk ((by rw [hg]; exact (by first | exact HK.out.1 | exact (show Kept w _ (fun k_ => P0_ k_) from by repeat (first | (with_reducible first | exact HK.out | apply Kept.alloc | apply Kept.drewN | apply Kept.drew) | exact HK.out)).1) : w.heap.size ≤ gb128)); have n5_ := Aside0.mk ((by rw [hg]; exact (below_size (by repeat (first | (with_reducible first | exact HB.out | apply below_alloc | apply pw_below_drewN | apply below_drew1) | exact HB.out))) : w0.heap.size ≤ gb128)); clear HO0; clear HK; clear HB; have HO0 := n0_; have HK := n1_; have HB := n2_; have BK128 := n3_; have GW128 := n4_; have GE128 := n5_; clear n0_ n1_ n2_ n3_ n4_ n5_; clear hb hbox hg; have hcz38_0 : w37.cell? ⟨gb128, 0, none⟩ = some (.int .i64 a1_0) := (blk_cell BK128.out 0).trans rfl; have hcz38_1 : w37.cell? ⟨gb128, 1, none⟩ = some (.int .i64 a1_1) := (blk_cell BK128.out 1).trans rfl; have hcz38_2 : w37.cell? ⟨gb128, 2, none⟩ = some (.int .i64 a1_2) := (blk_cell BK128.out 2).trans rfl; have hfz38_0 := blk_frozen BK128.out 0; have hfz38_1 := blk_frozen BK128.out 1; have hfz38_2 := blk_frozen BK128.out 2))
    (try simp only [Act.put, List.setIfInBounds_toArray, List.set_cons_zero, List.set_cons_succ])
    go_cut [87] (fun v87 wc => ∃ (kq : Nat) (x87_35 : Bool), v87 = .bool x87_35 ∧ Aside0 (ecdysisref10_Do.j2 kq l0 x87_35 a1_0 a1_1 a1_2 = some (r1, r2, r3)) ∧ Aside0 (kq ≤ k) ∧ Aside0 (Kd.R (Kd.int .i64) 3 wc w0.heap.size (fun k_ => (P0_ k_ ∨ w.heap.size ≤ k_)) u9000_ l0) ∧ Aside0 (wc.heap[gb128]? = some (.cells #[.int .i64 a1_0, .int .i64 a1_1, .int .i64 a1_2] 29 (0, 0))) ∧ Aside0 (Kept w wc (fun k_ => P0_ k_)) ∧ Aside0 (Below w0.heap.size w0 wc))
    case first =>
     have H := HC36.out
     clear HC36
     by_cases c39 : a1_2 < 1
     ·rw [if_pos c39] at H
      have c39b0 : decide (a1_2 < 1) = true := decide_eq_true c39
      clear c39
      (first | rw [c39b0] | (simp only [i64_w, i32_w]; rw [c39b0]) | skip)
      have H' := Aside0.mk H
      clear H
      have hcz40_0 : w37.cell? ⟨gb128, 0, none⟩ = some (.int .i64 a1_0) := (blk_cell BK128.out 0).trans rfl
      have hcz40_1 : w37.cell? ⟨gb128, 1, none⟩ = some (.int .i64 a1_1) := (blk_cell BK128.out 1).trans rfl
      have hcz40_2 : w37.cell? ⟨gb128, 2, none⟩ = some (.int .i64 a1_2) := (blk_cell BK128.out 2).trans rfl
      have hfz40_0 := blk_frozen BK128.out 0
      have hfz40_1 := blk_frozen BK128.out 1
      have hfz40_2 := blk_frozen BK128.out 2
      go_wp2
      go_meet
      case rel => exact ⟨_, (true), (by first | rfl | (simp; done) | (simp [*]; done)), H', ⟨by first | omega | exact Nat.le_refl _⟩, ⟨by (with_reducible repeat (first | apply Kd.R_alloc | apply Kd.R_drewN | apply Kd.R_drew)); exact HO0.out⟩, ⟨by (with_reducible repeat (first | refine blk_drewN ?_ _ | refine blk_drew ?_ | refine blk_alloc ?_ _)); exact BK128.out⟩, ⟨by repeat (first | (with_reducible first | exact HK.out | apply Kept.alloc | apply Kept.drewN | apply Kept.drew | refine Kept.setCell ?_ (.inr GW128.out) _) | exact HK.out)⟩, ⟨by repeat (first | (with_reducible first | exact HB.out | apply below_alloc | apply pw_below_drewN | apply below_drew1 | refine below_set ?_ GE128.out) | exact HB.out)⟩⟩
     ·rw [if_neg c39] at H
      have c39b0 : decide (a1_2 < 1) = false := decide_eq_false c39
      clear c39
      (first | rw [c39b0] | (simp only [i64_w, i32_w]; rw [c39b0]) | skip)
      by_cases c41 : a1_1 < 0
      ·rw [if_pos c41] at H
       have c41b0 : decide (a1_1 < 0) = true := decide_eq_true c41
       clear c41
       have H' := Aside0.mk H
       clear H
       have hcz42_0 : w37.cell? ⟨gb128, 0, none⟩ = some (.int .i64 a1_0) := (blk_cell BK128.out 0).trans rfl
       have hcz42_1 : w37.cell? ⟨gb128, 1, none⟩ = some (.int .i64 a1_1) := (blk_cell BK128.out 1).trans rfl
       have hcz42_2 : w37.cell? ⟨gb128, 2, none⟩ = some (.int .i64 a1_2) := (blk_cell BK128.out 2).trans rfl
       have hfz42_0 := blk_frozen BK128.out 0
       have hfz42_1 := blk_frozen BK128.out 1
       have hfz42_2 := blk_frozen BK128.out 2
       go_wp2
       go_meet
       case rel => exact ⟨_, (true), (by first | rfl | (simp; done) | (simp [*]; done)), H', ⟨by first | omega | exact Nat.le_refl _⟩, ⟨by (with_reducible repeat (first | apply Kd.R_alloc | apply Kd.R_drewN | apply Kd.R_drew)); exact HO0.out⟩, ⟨by (with_reducible repeat (first | refine blk_drewN ?_ _ | refine blk_drew ?_ | refine blk_alloc ?_ _)); exact BK128.out⟩, ⟨by repeat (first | (with_reducible first | exact HK.out | apply Kept.alloc | apply Kept.drewN | apply Kept.drew | refine Kept.setCell ?_ (.inr GW128.out) _) | exact HK.out)⟩, ⟨by repeat (first | (with_reducible first | exact HB.out | apply below_alloc | apply pw_below_drewN | apply below_drew1 | refine below_set ?_ GE128.out) | exact HB.out)⟩⟩
      ·rw [if_neg c41] at H
       have c41b0 : decide (a1_1 < 0) = false := decide_eq_false c41
       clear c41
       by_cases c43 : a1_1 > (l0.length : Int)
       ·rw [if_pos c43] at H
        have c43b0 : decide ((l0.length : Int) < a1_1) = true := decide_eq_true c43
        clear c43
        have H' := Aside0.mk H
        clear H
        have hcz44_0 : w37.cell? ⟨gb128, 0, none⟩ = some (.int .i64 a1_0) := (blk_cell BK128.out 0).trans rfl
        have hcz44_1 : w37.cell? ⟨gb128, 1, none⟩ = some (.int .i64 a1_1) := (blk_cell BK128.out 1).trans rfl
        have hcz44_2 : w37.cell? ⟨gb128, 2, none⟩ = some (.int .i64 a1_2) := (blk_cell BK128.out 2).trans rfl
        have hfz44_0 := blk_frozen BK128.out 0
        have hfz44_1 := blk_frozen BK128.out 1
        have hfz44_2 := blk_frozen BK128.out 2
        obtain ⟨Ao45, co45, eo45⟩ := Kd.R_slice HO0.out
        subst eo45
        go_wp2
        go_meet
        case rel => exact ⟨_, (true), (by first | rfl | (simp; done) | (simp [*]; done)), H', ⟨by first | omega | exact Nat.le_refl _⟩, ⟨by (with_reducible repeat (first | apply Kd.R_alloc | apply Kd.R_drewN | apply Kd.R_drew)); exact HO0.out⟩, ⟨by (with_reducible repeat (first | refine blk_drewN ?_ _ | refine blk_drew ?_ | refine blk_alloc ?_ _)); exact BK128.out⟩, ⟨by repeat (first | (with_reducible first | exact HK.out | apply Kept.alloc | apply Kept.drewN | apply Kept.drew | refine Kept.setCell ?_ (.inr GW128.out) _) | exact HK.out)⟩, ⟨by repeat (first | (with_reducible first | exact HB.out | apply below_alloc | apply pw_below_drewN | apply below_drew1 | refine below_set ?_ GE128.out) | exact HB.out)⟩⟩
       ·rw [if_neg c43] at H
        have c43b0 : decide ((l0.length : Int) < a1_1) = false := decide_eq_false c43
        clear c43
        have H' := Aside0.mk H
        clear H
        have hcz46_0 : w37.cell? ⟨gb128, 0, none⟩ = some (.int .i64 a1_0) := (blk_cell BK128.out 0).trans rfl
        have hcz46_1 : w37.cell? ⟨gb128, 1, none⟩ = some (.int .i64 a1_1) := (blk_cell BK128.out 1).trans rfl
        have hcz46_2 : w37.cell? ⟨gb128, 2, none⟩ = some (.int .i64 a1_2) := (blk_cell BK128.out 2).trans rfl
        have hfz46_0 := blk_frozen BK128.out 0
        have hfz46_1 := blk_frozen BK128.out 1
        have hfz46_2 := blk_frozen BK128.out 2
        obtain ⟨Ao47, co47, eo47⟩ := Kd.R_slice HO0.out
        subst eo47
        go_wp2
        go_meet
        case rel => exact ⟨_, (decide (a1_2 > (wrap64 ((l0.length : Int) - a1_1)))), (by first | rfl | (simp; done) | (simp [*]; done)), H', ⟨by first | omega | exact Nat.le_refl _⟩, ⟨by (with_reducible repeat (first | apply Kd.R_alloc | apply Kd.R_drewN | apply Kd.R_drew)); exact HO0.out⟩, ⟨by (with_reducible repeat (first | refine blk_drewN ?_ _ | refine blk_drew ?_ | refine blk_alloc ?_ _)); exact BK128.out⟩, ⟨by repeat (first | (with_reducible first | exact HK.out | apply Kept.alloc | apply Kept.drewN | apply Kept.drew | refine Kept.setCell ?_ (.inr GW128.out) _) | exact HK.out)⟩, ⟨by repeat (first | (with_reducible first | exact HB.out | apply below_alloc | apply pw_below_drewN | apply below_drew1 | refine below_set ?_ GE128.out) | exact HB.out)⟩⟩
    case rest =>
     clear HC36
     try clear c1
     try clear c2
     try clear p2
     try clear c3
     try clear c3b0
     try clear c3b1
     try clear c4
     try clear c4b0
     try clear c5
     try clear p6
     try clear c10
     try clear c10b0
     try clear c15
     try clear c17
     try clear c24
     try clear c24b0
     try clear c24b1
     try clear c26
     try clear c26b0
     try clear c26b1
     try clear c34
     try clear c35
     try clear c35b0
     try clear c35b1
     try clear c39
     try clear c39b0
     try clear c41
     try clear c41b0
     try clear c43
     try clear c43b0
     try clear hcz11_0
     try clear hcz11_1
     try clear hcz11_2
     try clear hcz13_0
     try clear hcz13_1
     try clear hcz13_2
     try clear hcz19_0
     try clear hcz19_1
     try clear hcz19_2
     try clear hcz22_0
     try clear hcz22_1
     try clear hcz22_2
     try clear hcz28_0
     try clear hcz28_1
     try clear hcz28_2
     try clear hcz32_0
     try clear hcz32_1
     try clear hcz32_2
     try clear hcz38_0
     try clear hcz38_1
     try clear hcz38_2
     try clear hcz40_0
     try clear hcz40_1
     try clear hcz40_2
     try clear hcz42_0
     try clear hcz42_1
     try clear hcz42_2
     try clear hcz44_0
     try clear hcz44_1
     try clear hcz44_2
     try clear hcz46_0
     try clear hcz46_1
     try clear hcz46_2
     try clear hcz6_0
     try clear hcz6_1
     try clear hcz6_2
     try clear hcz8_0
     try clear hcz8_1
     try clear hcz8_2
     try clear hfz11_0
     try clear hfz11_1
     try clear hfz11_2
     try clear hfz13_0
     try clear hfz13_1
     try clear hfz13_2
     try clear hfz19_0
     try clear hfz19_1
     try clear hfz19_2
     try clear hfz22_0
     try clear hfz22_1
     try clear hfz22_2
     try clear hfz28_0
     try clear hfz28_1
     try clear hfz28_2
     try clear hfz32_0
     try clear hfz32_1
     try clear hfz32_2
     try clear hfz38_0
     try clear hfz38_1
     try clear hfz38_2
     try clear hfz40_0
     try clear hfz40_1
     try clear hfz40_2
     try clear hfz42_0
     try clear hfz42_1
     try clear hfz42_2
     try clear hfz44_0
     try clear hfz44_1
     try clear hfz44_2
     try clear hfz46_0
     try clear hfz46_1
     try clear hfz46_2
     try clear hfz6_0
     try clear hfz6_1
     try clear hfz6_2
     try clear hfz8_0
     try clear hfz8_1
     try clear hfz8_2
     try clear p2
     try clear p6
     obtain ⟨kq, x87_35, rfl, HA, HJ35, HO_0, BK128, HK, HB⟩ := hcut
     cases kq with
     | zero => exact absurd HA.out (by simp [ecdysisref10_Do.j2])
     | succ kj35 =>
      have H := HA.out
      clear HA
      simp only [ecdysisref10_Do.j2] at H
      by_cases c48 : x87_35 = true
      ·subst c48
       have H1 : (some (l0, 0, 1)) = some (r1, r2, r3) := by rw [if_pos rfl] at H; exact H
       clear H
       have H := H1
       clear H1
       simp only [Option.some.injEq, Prod.mk.injEq] at H
       obtain ⟨rfl, rfl, rfl⟩ := H
       go_wp2
       go_ret3
       exact ⟨_, by first | rfl | (simp [errW_none, errW_some] <;> rfl) | (simp [*, errW_none, errW_some] <;> rfl), by (with_reducible repeat (first | apply Kd.R_alloc | apply Kd.R_drewN | apply Kd.R_drew)); exact HO_0.out, by repeat (first | (with_reducible first | exact HB.out | apply below_alloc | apply pw_below_drewN | apply below_drew1 | refine below_set ?_ GE128.out) | exact HB.out), by repeat (first | (with_reducible first | exact HK.out | apply Kept.alloc | apply Kept.drewN | apply Kept.drew | refine Kept.setCell ?_ (.inr GW128.out) _) | exact HK.out)⟩
      ·replace c48 := Bool.eq_false_iff.mpr c48
       subst c48
       have H1 : ((ecdysisref10_free.f kj35 l0 a1_1 a1_2).bind fun t137 => (if t137 = true then ((ecdysisref10_set.f kj35 l0 a1_1 a1_2 (wrap64 (a1_1 + 1))).bind fun t138 => (some (t138, 0, 0))) else (some (l0, 0, 100)))) = some (r1, r2, r3) := by rw [if_neg (show ¬ (false = true) by decide)] at H; exact H
       clear H
       have H := H1
       clear H1
       replace H := Option.bind_eq_some_iff.mp H
       obtain ⟨t137, A490, H⟩ := H
       replace H : (if t137 = true then ((ecdysisref10_set.f kj35 l0 a1_1 a1_2 (wrap64 (a1_1 + 1))).bind fun t138 => (some (t138, 0, 0))) else (some (l0, 0, 100))) = some (r1, r2, r3) := H
       have A49 := Aside0.mk A490
       clear A490
       by_cases c50 : t137 = true
       ·subst c50
        have H1 : ((ecdysisref10_set.f kj35 l0 a1_1 a1_2 (wrap64 (a1_1 + 1))).bind fun t138 => (some (t138, 0, 0))) = some (r1, r2, r3) := by rw [if_pos rfl] at H; exact H
        clear H
        have H := H1
        clear H1
        replace H := Option.bind_eq_some_iff.mp H
        obtain ⟨t138, A510, H⟩ := H
        replace H : (some (t138, 0, 0)) = some (r1, r2, r3) := H
        have A51 := Aside0.mk A510
        clear A510
        simp only [Option.some.injEq, Prod.mk.injEq] at H
        obtain ⟨rfl, rfl, rfl⟩ := H
        have hcz52_0 : wc.cell? ⟨gb128, 0, none⟩ = some (.int .i64 a1_0) := (blk_cell BK128.out 0).trans rfl
        have hcz52_1 : wc.cell? ⟨gb128, 1, none⟩ = some (.int .i64 a1_1) := (blk_cell BK128.out 1).trans rfl
        have hcz52_2 : wc.cell? ⟨gb128, 2, none⟩ = some (.int .i64 a1_2) := (blk_cell BK128.out 2).trans rfl
        have hfz52_0 := blk_frozen BK128.out 0
        have hfz52_1 := blk_frozen BK128.out 1
        have hfz52_2 := blk_frozen BK128.out 2
        obtain ⟨Ao53, co53, eo53⟩ := Kd.R_slice HO_0.out
        subst eo53
        go_wp2_with (first | ((with_reducible refine gate_callee (f := 50) rfl ?_); refine goesL_ (some 94) rfl rfl Try.func50 (by kernel_rfl) rfl #[.slice Ao53 l0.length co53, .int .i64 a1_1, .int .i64 a1_2] rfl (by (try simp only [List.map_toArray, List.map_cons, List.map_nil]); first | done | rfl | (simp only [List.length_drop, List.length_take]; rfl)) ?_; (with_reducible refine (ecdysisref10_free.calls kj35 _ _ l0 a1_1 a1_2 true _ ?side1 ?side2 A49.out).mono ?_); (case side1 => repeat (first | exact (Kd.R_reads' HO_0.out).2.2 | (with_reducible refine Kd.C_alloc ?_ _) | (with_reducible refine Kd.C_drewN ?_ _) | (with_reducible refine Kd.C_drew ?_))); (case side2 => exact (Kd.R_reads' HO_0.out).2.1); rintro e w' ⟨rfl, ⟨nd, rfl⟩⟩; refine ⟨_, rfl, ?_⟩) | ((with_reducible refine gate_callee (f := 51) rfl ?_); refine goesL_ (some 105) rfl rfl Try.func51 (by kernel_rfl) rfl #[.slice Ao53 l0.length co53, .int .i64 a1_1, .int .i64 a1_2, .int .i64 (wrap64 (a1_1 + 1))] rfl (by (try simp only [List.map_toArray, List.map_cons, List.map_nil]); first | done | rfl | (simp only [List.length_drop, List.length_take]; rfl)) ?_; (with_reducible refine (ecdysisref10_set.calls kj35 _ _ l0 a1_1 a1_2 (wrap64 (a1_1 + 1)) t138 _ ?side1 ?side2 A51.out).mono ?_); (case side1 => repeat (first | exact (Kd.R_reads' HO_0.out).2.2 | (with_reducible refine Kd.C_alloc ?_ _) | (with_reducible refine Kd.C_drewN ?_ _) | (with_reducible refine Kd.C_drew ?_))); (case side2 => exact (Kd.R_reads' HO_0.out).2.1); rintro e w54 ⟨v139, rfl, ho0, hb⟩; refine ⟨_, rfl, ?_⟩; have n0_ := Aside0.mk (Kd.R_elder' (by (with_reducible repeat (first | apply Kd.R_alloc | apply Kd.R_drewN | apply Kd.R_drew)); exact HO_0.out) (Kd.R_base ho0) hb); have n1_ := Aside0.mk (Kd.R_lower (Kd.R_new' (Kd.R_newM (M := fun k_ => (P0_ k_ ∨ w.heap.size ≤ k_)) ho0 (by first | exact HK.out.1 | exact (show Kept w _ (fun k_ => P0_ k_) from by repeat (first | (with_reducible first | exact HK.out | apply Kept.alloc | apply Kept.drewN | apply Kept.drew | refine Kept.setCell ?_ (.inr GW128.out) _) | exact HK.out)).1) (fun k_ h_ => .inr h_)) (Kd.R_lt (by (with_reducible repeat (first | apply Kd.R_alloc | apply Kd.R_drewN | apply Kd.R_drew)); exact HO_0.out))) (below_size (by repeat (first | (with_reducible first | exact HB.out | apply below_alloc | apply pw_below_drewN | apply below_drew1 | refine below_set ?_ GE128.out) | exact HB.out)))); have n2_ := Aside0.mk (blk_below (g := gb128) (o := .cells #[.int .i64 a1_0, .int .i64 a1_1, .int .i64 a1_2] 29 (0, 0)) (by (with_reducible repeat (first | refine blk_drewN ?_ _ | refine blk_drew ?_ | refine blk_alloc ?_ _)); exact BK128.out) hb); have n3_ := Aside0.mk (Kept.below (S := (fun k_ => P0_ k_)) (by repeat (first | (with_reducible first | exact HK.out | apply Kept.alloc | apply Kept.drewN | apply Kept.drew | refine Kept.setCell ?_ (.inr GW128.out) _) | exact HK.out)) hb); have n4_ := Aside0.mk (below_step (by repeat (first | (with_reducible first | exact HB.out | apply below_alloc | apply pw_below_drewN | apply below_drew1 | refine below_set ?_ GE128.out) | exact HB.out)) hb); clear HO_0; clear BK128; clear HK; clear HB; have HO_0 := n0_; have HO140 := n1_; have BK128 := n2_; have HK := n3_; have HB := n4_; clear n0_ n1_ n2_ n3_ n4_; (try clear hb); (try clear hb2); (try clear hk); (try clear hi); (try clear ho0)))
        go_ret3
        exact ⟨_, by first | rfl | (simp [errW_none, errW_some] <;> rfl) | (simp [*, errW_none, errW_some] <;> rfl), by (with_reducible repeat (first | apply Kd.R_alloc | apply Kd.R_drewN | apply Kd.R_drew)); exact Kd.R_mono HO140.out (fun _ hk => hk.1.1), by repeat (first | (with_reducible first | exact HB.out | apply below_alloc | apply pw_below_drewN | apply below_drew1 | refine below_set ?_ GE128.out) | exact HB.out), by repeat (first | (with_reducible first | exact HK.out | apply Kept.alloc | apply Kept.drewN | apply Kept.drew | refine Kept.setCell ?_ (.inr GW128.out) _) | exact HK.out)⟩
       ·replace c50 := Bool.eq_false_iff.mpr c50
        subst c50
        have H1 : (some (l0, 0, 100)) = some (r1, r2, r3) := by rw [if_neg (show ¬ (false = true) by decide)] at H; exact H
        clear H
        have H := H1
        clear H1
        simp only [Option.some.injEq, Prod.mk.injEq] at H
        obtain ⟨rfl, rfl, rfl⟩ := H
        have hcz55_0 : wc.cell? ⟨gb128, 0, none⟩ = some (.int .i64 a1_0) := (blk_cell BK128.out 0).trans rfl
        have hcz55_1 : wc.cell? ⟨gb128, 1, none⟩ = some (.int .i64 a1_1) := (blk_cell BK128.out 1).trans rfl
        have hcz55_2 : wc.cell? ⟨gb128, 2, none⟩ = some (.int .i64 a1_2) := (blk_cell BK128.out 2).trans rfl
        have hfz55_0 := blk_frozen BK128.out 0
        have hfz55_1 := blk_frozen BK128.out 1
        have hfz55_2 := blk_frozen BK128.out 2
        obtain ⟨Ao56, co56, eo56⟩ := Kd.R_slice HO_0.out
        subst eo56
        go_wp2_with (first | ((with_reducible refine gate_callee (f := 50) rfl ?_); refine goesL_ (some 94) rfl rfl Try.func50 (by kernel_rfl) rfl #[.slice Ao56 l0.length co56, .int .i64 a1_1, .int .i64 a1_2] rfl (by (try simp only [List.map_toArray, List.map_cons, List.map_nil]); first | done | rfl | (simp only [List.length_drop, List.length_take]; rfl)) ?_; (with_reducible refine (ecdysisref10_free.calls kj35 _ _ l0 a1_1 a1_2 false _ ?side1 ?side2 A49.out).mono ?_); (case side1 => repeat (first | exact (Kd.R_reads' HO_0.out).2.2 | (with_reducible refine Kd.C_alloc ?_ _) | (with_reducible refine Kd.C_drewN ?_ _) | (with_reducible refine Kd.C_drew ?_))); (case side2 => exact (Kd.R_reads' HO_0.out).2.1); rintro e w' ⟨rfl, ⟨nd, rfl⟩⟩; refine ⟨_, rfl, ?_⟩))
        go_ret3
        exact ⟨_, by first | rfl | (simp [errW_none, errW_some] <;> rfl) | (simp [*, errW_none, errW_some] <;> rfl), by (with_reducible repeat (first | apply Kd.R_alloc | apply Kd.R_drewN | apply Kd.R_drew)); exact HO_0.out, by repeat (first | (with_reducible first | exact HB.out | apply below_alloc | apply pw_below_drewN | apply below_drew1 | refine below_set ?_ GE128.out) | exact HB.out), by repeat (first | (with_reducible first | exact HK.out | apply Kept.alloc | apply Kept.drewN | apply Kept.drew | refine Kept.setCell ?_ (.inr GW128.out) _) | exact HK.out)⟩
   ·rw [if_neg c35] at H
    have c35b0 : (a1_0 == 2) = false := beq_eq_false_iff_ne.mpr c35
    have c35b1 : (a1_0 != 2) = true := bne_iff_ne.mpr c35
    simp only [Option.some.injEq, Prod.mk.injEq] at H
    obtain ⟨rfl, rfl, rfl⟩ := H
    go_enter Try.func34, Try.ntmps34
    go_wp2_with (first | ((with_reducible refine gate_dst (N := 3) rfl ?_); (try (refine gate_guard (by rfl) ?_; dsimp only)); refine box_event ?hg (N := 3) ?hd (cs := #[.int .i64 a1_0, .int .i64 a1_1, .int .i64 a1_2]) (t := 29) ?hr ?_; (case hd => rfl); (case hg => rfl); (case hr => first | (go_simp; done) | (go_simp; rfl)); intro gb128 hg w57 hbox hb; have n0_ := Aside0.mk (Kd.R_below (by (with_reducible repeat (first | apply Kd.R_alloc | apply Kd.R_drewN | apply Kd.R_drew)); exact HO0.out) hb); have n1_ := Aside0.mk (Kept.below (S := (fun k_ => P0_ k_)) (by repeat (first | (with_reducible first | exact HK.out | apply Kept.alloc | apply Kept.drewN | apply Kept.drew) | exact HK.out)) hb); have n2_ := Aside0.mk (below_step (by repeat (first | (with_reducible first | exact HB.out | apply below_alloc | apply pw_below_drewN | apply below_drew1) | exact HB.out)) hb); have n3_ := Aside0.mk (hbox); have n4_ := Aside0.mk ((by rw [hg]; exact (by first | exact HK.out.1 | exact (show Kept w _ (fun k_ => P0_ k_) from by repeat (first | (with_reducible first | exact HK.out | apply Kept.alloc | apply Kept.drewN | apply Kept.drew) | exact HK.out)).1) : w.heap.size ≤ gb128)); have n5_ := Aside0.mk ((by rw [hg]; exact (below_size (by repeat (first | (with_reducible first | exact HB.out | apply below_alloc | apply pw_below_drewN | apply below_drew1) | exact HB.out))) : w0.heap.size ≤ gb128)); clear HO0; clear HK; clear HB; have HO0 := n0_; have HK := n1_; have HB := n2_; have BK128 := n3_; have GW128 := n4_; have GE128 := n5_; clear n0_ n1_ n2_ n3_ n4_ n5_; clear hb hbox hg; have hcz58_0 : w57.cell? ⟨gb128, 0, none⟩ = some (.int .i64 a1_0) := (blk_cell BK128.out 0).trans rfl; have hcz58_1 : w57.cell? ⟨gb128, 1, none⟩ = some (.int .i64 a1_1) := (blk_cell BK128.out 1).trans rfl; have hcz58_2 : w57.cell? ⟨gb128, 2, none⟩ = some (.int .i64 a1_2) := (blk_cell BK128.out 2).trans rfl; have hfz58_0 := blk_frozen BK128.out 0; have hfz58_1 := blk_frozen BK128.out 1; have hfz58_2 := blk_frozen BK128.out 2))
    go_ret3
    exact ⟨_, by first | rfl | (simp [errW_none, errW_some] <;> rfl) | (simp [*, errW_none, errW_some] <;> rfl), by (with_reducible repeat (first | apply Kd.R_alloc | apply Kd.R_drewN | apply Kd.R_drew)); exact HO0.out, by repeat (first | (with_reducible first | exact HB.out | apply below_alloc | apply pw_below_drewN | apply below_drew1 | refine below_set ?_ GE128.out) | exact HB.out), by repeat (first | (with_reducible first | exact HK.out | apply Kept.alloc | apply Kept.drewN | apply Kept.drew | refine Kept.setCell ?_ (.inr GW128.out) _) | exact HK.out)⟩




end Go.Proofs.Ytgendnoafemgpaa.PHandRB
namespace Go.Proofs.Ytgendnoafemgpaa.Hand
open Go.RowKit Go.Proofs.YtgendnoafemgpaaW.PrintWords Go.Proofs.Ytgendnoafemgpaa.PHandRB
set_option linter.unusedVariables false
set_option linter.unusedSimpArgs false
theorem w64 {x : Int} (h : -9223372036854775808 ≤ x ∧ x ≤ 9223372036854775807) : wrap64 x = x := by rw [← IntWalk.i64_left]; exact IntWalk.i64_in _ h
theorem w64n {j : Nat} (h : j ≤ 100000) : wrap64 ((j : Int) + 1) = ((j + 1 : Nat) : Int) := by rw [w64 (by omega)]; omega
theorem occ_len (U : Nat) (bs : List Pc) : (occ U bs).length = U := by simp [occ]
theorem rd_occ {U j : Nat} (bs : List Pc) (h : j < U) : rd (occ U bs) (j : Int) = (own bs j : Int) := by
  simp [rd, occ, List.getD_eq_getElem?_getD, h]
theorem own_le : ∀ {bs : List Pc} {e U i : Nat}, Chain e bs U → own bs i ≤ U
  | [], _, _, _, _ => Nat.zero_le _
  | q :: l, e, U, i, h => by
    have := chain_le h.2.2
    have := h.2.1
    rw [own]
    split
    · omega
    · exact own_le h.2.2
theorem range_cut {e a U : Nat} (h1 : e ≤ a) (h2 : a ≤ U) : List.range' e (U - e) = List.range' e (a - e) ++ List.range' a (U - a) := by
  have := List.range'_append_1 (s := e) (m := a - e) (n := U - a)
  rw [show e + (a - e) = a by omega, show a - e + (U - a) = U - e by omega] at this
  exact this.symm
theorem range_cut3 {e a n U : Nat} (h1 : e ≤ a) (h2 : a + n ≤ U) : List.range' e (U - e) = List.range' e (a - e) ++ (List.range' a n ++ List.range' (a + n) (U - (a + n))) := by
  rw [range_cut h1 (show a ≤ U by omega), range_cut (e := a) (a := a + n) (by omega) h2, show a + n - a = n by omega]
theorem own_skip {q : Pc} {l : List Pc} {i : Nat} (h : i < q.1 ∨ q.1 + q.2 ≤ i) : own (q :: l) i = own l i := by
  rw [own, if_neg (by omega)]
theorem own_in {q : Pc} {l : List Pc} {i : Nat} (h1 : q.1 ≤ i) (h2 : i < q.1 + q.2) : own (q :: l) i = q.1 + 1 := by
  rw [own, if_pos ⟨h1, h2⟩]
theorem countP_none {α : Type} {P : α → Bool} {l : List α} (h : ∀ x ∈ l, P x = false) : l.countP P = 0 := by
  rw [List.countP_eq_zero]
  intro x hx
  simp [h x hx]
theorem countP_all {α : Type} {P : α → Bool} {l : List α} (h : ∀ x ∈ l, P x = true) : l.countP P = l.length := by
  rw [List.countP_eq_length]
  exact h
theorem countP_same {α : Type} {P Q : α → Bool} {l : List α} (h : ∀ x ∈ l, P x = Q x) : l.countP P = l.countP Q := List.countP_congr (fun x hx => by rw [h x hx])
theorem count_long (a : Nat) : ∀ {bs : List Pc} {e U : Nat}, Chain e bs U → (List.range' e (U - e)).countP (fun i => own bs i == a + 1) = longN bs a
  | [], e, U, h => countP_none (fun x _ => by simp [own])
  | q :: l, e, U, h => by
    have h1 := h.1
    have h2 := h.2.1
    have h3 := chain_le h.2.2
    rw [range_cut3 h1 h3, List.countP_append, List.countP_append, longN]
    have c1 : (List.range' e (q.1 - e)).countP (fun i => own (q :: l) i == a + 1) = 0 := countP_none (fun x hx => by
      rw [List.mem_range'_1] at hx
      rw [own_skip (by omega), chain_own_lt h.2.2 (by omega)]
      simp)
    have c3 : (List.range' (q.1 + q.2) (U - (q.1 + q.2))).countP (fun i => own (q :: l) i == a + 1) = longN l a := by
      rw [← count_long a h.2.2]
      refine countP_same (fun x hx => ?_)
      rw [List.mem_range'_1] at hx
      rw [own_skip (by omega)]
    rw [c1, c3]
    by_cases hq : q.1 = a
    · rw [if_pos hq, countP_all (fun x hx => by rw [List.mem_range'_1] at hx; rw [own_in hx.1 hx.2, hq]; simp), List.length_range', longN_lt h.2.2 (by omega)]
      omega
    · rw [if_neg hq, countP_none (fun x hx => by rw [List.mem_range'_1] at hx; rw [own_in hx.1 hx.2]; simp; omega)]
      omega
theorem count_used : ∀ {bs : List Pc} {e U : Nat}, Chain e bs U → (List.range' e (U - e)).countP (fun i => decide (0 < own bs i)) = (bs.map (·.2)).sum
  | [], e, U, h => countP_none (fun x _ => by simp [own])
  | q :: l, e, U, h => by
    have h1 := h.1
    have h2 := h.2.1
    have h3 := chain_le h.2.2
    rw [range_cut3 h1 h3, List.countP_append, List.countP_append]
    have c1 : (List.range' e (q.1 - e)).countP (fun i => decide (0 < own (q :: l) i)) = 0 := countP_none (fun x hx => by
      rw [List.mem_range'_1] at hx
      rw [own_skip (by omega), chain_own_lt h.2.2 (by omega)]
      simp)
    have c3 : (List.range' (q.1 + q.2) (U - (q.1 + q.2))).countP (fun i => decide (0 < own (q :: l) i)) = (l.map (·.2)).sum := by
      rw [← count_used h.2.2]
      refine countP_same (fun x hx => ?_)
      rw [List.mem_range'_1] at hx
      rw [own_skip (by omega)]
    rw [c1, c3, countP_all (fun x hx => by rw [List.mem_range'_1] at hx; rw [own_in hx.1 hx.2]; simp), List.length_range', List.map_cons, List.sum_cons]
    omega
theorem filter_none {α : Type} {P : α → Bool} {l : List α} (h : ∀ x ∈ l, P x = false) : l.filter P = [] := by
  rw [List.filter_eq_nil_iff]
  intro x hx
  simp [h x hx]
theorem filter_same {α : Type} {P Q : α → Bool} {l : List α} (h : ∀ x ∈ l, P x = Q x) : l.filter P = l.filter Q := List.filter_congr h
theorem filter_starts : ∀ {bs : List Pc} {e U : Nat}, Chain e bs U → (List.range' e (U - e)).filter (fun i => own bs i == i + 1) = bs.map (·.1)
  | [], e, U, h => filter_none (fun x _ => by simp [own])
  | q :: l, e, U, h => by
    have h1 := h.1
    have h2 := h.2.1
    have h3 := chain_le h.2.2
    rw [range_cut3 h1 h3, List.filter_append, List.filter_append]
    have c1 : (List.range' e (q.1 - e)).filter (fun i => own (q :: l) i == i + 1) = [] := filter_none (fun x hx => by
      rw [List.mem_range'_1] at hx
      rw [own_skip (by omega), chain_own_lt h.2.2 (by omega)]
      simp)
    have c3 : (List.range' (q.1 + q.2) (U - (q.1 + q.2))).filter (fun i => own (q :: l) i == i + 1) = l.map (·.1) := by
      rw [← filter_starts h.2.2]
      refine filter_same (fun x hx => ?_)
      rw [List.mem_range'_1] at hx
      rw [own_skip (by omega)]
    obtain ⟨m, hm⟩ : ∃ m, q.2 = m + 1 := ⟨q.2 - 1, by omega⟩
    have c2 : (List.range' q.1 q.2).filter (fun i => own (q :: l) i == i + 1) = [q.1] := by
      rw [hm, List.range'_succ, List.filter_cons, if_pos (by rw [own_in (Nat.le_refl _) (by omega)]; simp), filter_none]
      intro x hx
      rw [List.mem_range'_1] at hx
      rw [own_in (by omega) (by omega)]
      simp
      omega
    rw [c1, c2, c3]
    rfl
/-- One unit more for the largest piece. -/
def lgStep (bs : List Pc) (s : Nat × Nat) (i : Nat) : Nat × Nat := if 0 < own bs i then (s.1, 0) else (max s.1 (s.2 + 1), s.2 + 1)
theorem lg_free {bs : List Pc} : ∀ (n a m r : Nat), (∀ i, a ≤ i → i < a + n → own bs i = 0) → r ≤ m → (List.range' a n).foldl (lgStep bs) (m, r) = (max m (r + n), r + n)
  | 0, a, m, r, _, h => by simp; omega
  | n + 1, a, m, r, hf, h => by
    rw [List.range'_succ, List.foldl_cons, lgStep, if_neg (by rw [hf a (Nat.le_refl _) (by omega)]; omega), lg_free n (a + 1) _ _ (fun i h1 h2 => hf i (by omega) (by omega)) (by omega)]
    simp only [Prod.mk.injEq]
    omega
theorem lg_used {bs : List Pc} : ∀ (n a m r : Nat), (∀ i, a ≤ i → i < a + n → 0 < own bs i) → 1 ≤ n → (List.range' a n).foldl (lgStep bs) (m, r) = (m, 0)
  | 0, a, m, r, _, h => by omega
  | n + 1, a, m, r, hf, h => by
    rw [List.range'_succ, List.foldl_cons, lgStep, if_pos (hf a (Nat.le_refl _) (by omega))]
    rcases Nat.eq_zero_or_pos n with rfl | hn
    · rfl
    · exact lg_used n (a + 1) _ _ (fun i h1 h2 => hf i (by omega) (by omega)) hn
theorem foldl_same {α β : Type} {f g : β → α → β} : ∀ (l : List α) (b : β), (∀ x ∈ l, ∀ b, f b x = g b x) → l.foldl f b = l.foldl g b
  | [], _, _ => rfl
  | x :: l, b, h => by
    rw [List.foldl_cons, List.foldl_cons, h x (List.mem_cons_self ..)]
    exact foldl_same l _ (fun y hy => h y (List.mem_cons_of_mem _ hy))
theorem fold_large : ∀ {bs : List Pc} {e U : Nat} (m : Nat), Chain e bs U → ((List.range' e (U - e)).foldl (lgStep bs) (m, 0)).1 = (gaps e bs U).foldl (fun m g => max m g.2) m
  | [], e, U, m, h => by
    rw [lg_free _ _ _ _ (fun i _ _ => rfl) (Nat.zero_le _), gaps]
    split
    · simp
    · simp; omega
  | q :: l, e, U, m, h => by
    have h1 := h.1
    have h2 := h.2.1
    have h3 := chain_le h.2.2
    rw [range_cut3 h1 h3, List.foldl_append, List.foldl_append, lg_free _ _ _ _ (fun i hi hj => by rw [own_skip (by omega), chain_own_lt h.2.2 (by omega)]) (Nat.zero_le _), lg_used _ _ _ _ (fun i hi hj => by rw [own_in hi hj]; omega) h2,
      foldl_same (g := lgStep l) _ _ (fun x hx b => by rw [List.mem_range'_1] at hx; simp only [lgStep]; rw [own_skip (by omega)]), fold_large _ h.2.2, gaps, List.foldl_append]
    congr 1
    split
    · simp
    · simp; omega
section loops
variable {bs : List Pc} {U : Nat}
theorem long_loop (hU : U ≤ 1024) (x : Int) (P : Nat → Bool) (hP : ∀ j, j < U → (P j = true ↔ ((own bs j : Int) = wrap64 (x + 1) ∧ x ≥ 0))) : ∀ (m j n k : Nat), j + m = U → m < k → n + m ≤ 2000 →
    ecdysisref10_Long.l0 k (occ U bs) x (n : Int) (j : Int) = some ((n + (List.range' j m).countP P : Nat) : Int)
  | 0, j, n, k, hj, hk, hn => by
    obtain ⟨k, rfl⟩ : ∃ k', k = k' + 1 := ⟨k - 1, by omega⟩
    rw [ecdysisref10_Long.l0, occ_len, if_neg (by omega)]
    rfl
  | m + 1, j, n, k, hj, hk, hn => by
    obtain ⟨k, rfl⟩ : ∃ k', k = k' + 1 := ⟨k - 1, by omega⟩
    rw [ecdysisref10_Long.l0, occ_len, if_pos (by omega), if_pos (by omega), rd_occ bs (by omega), w64n (show j ≤ 100000 by omega), List.range'_succ, List.countP_cons]
    have hpj := hP j (by omega)
    have ih := long_loop hU x P hP m (j + 1) n k (by omega) (by omega) (by omega)
    by_cases hp : P j = true
    · obtain ⟨h1, h2⟩ := hpj.1 hp
      rw [if_pos h1, if_pos h2, if_pos hp, w64n (show n ≤ 100000 by omega)]
      rw [long_loop hU x P hP m (j + 1) (n + 1) k (by omega) (by omega) (by omega)]
      congr 2
      omega
    · rw [if_neg hp]
      rw [hpj] at hp
      by_cases h1 : (own bs j : Int) = wrap64 (x + 1)
      · rw [if_pos h1, if_neg (fun h2 => hp ⟨h1, h2⟩), ih]
        rfl
      · rw [if_neg h1, ih]
        rfl
theorem long_f (hU : U ≤ 1024) (h : Chain 0 bs U) (x : Int) (k : Nat) (hk : 2000 ≤ k) (hx : -9223372036854775808 ≤ x ∧ x ≤ 9223372036854775807) : ecdysisref10_Long.f k (occ U bs) x = some (longI bs x) := by
  have hP : ∀ j, j < U → ((fun i => decide (0 ≤ x ∧ own bs i = x.toNat + 1)) j = true ↔ ((own bs j : Int) = wrap64 (x + 1) ∧ x ≥ 0)) := by
    intro j hj
    have ho := own_le (i := j) h
    simp only [decide_eq_true_eq]
    by_cases hx2 : x ≤ 100000 ∧ -100000 ≤ x
    · rw [w64 (by omega)]; omega
    · constructor
      · intro h1; omega
      · rintro ⟨h1, h2⟩
        have : x = 9223372036854775807 ∨ x ≤ 9223372036854775806 := by omega
        rcases this with rfl | h3
        · exfalso
          have : wrap64 (9223372036854775807 + 1) = -9223372036854775808 := by unfold wrap64; omega
          rw [this] at h1
          omega
        · rw [w64 (by omega)] at h1; omega
  have := long_loop hU x _ hP U 0 0 k (by omega) (by omega) (by omega)
  rw [ecdysisref10_Long.f]
  refine this.trans ?_
  congr 1
  rw [longI, Nat.zero_add]
  by_cases h0 : 0 ≤ x
  · rw [if_pos h0, ← count_long x.toNat h, Nat.sub_zero]
    congr 1
    refine countP_same (fun i _ => ?_)
    simp only [h0, true_and]
    rfl
  · rw [if_neg h0, countP_none (fun i _ => by simp [h0])]
    rfl
theorem starts_loop (hU : U ≤ 1024) : ∀ (m j k : Nat) (acc : List Int), j + m = U → m < k → acc.length + m ≤ 2000 →
    ecdysisref10_Starts.l0 k (occ U bs) acc (j : Int) = some (acc ++ ((List.range' j m).filter (fun i => own bs i == i + 1)).map (fun (i : Nat) => (i : Int)))
  | 0, j, k, acc, hj, hk, hn => by
    obtain ⟨k, rfl⟩ : ∃ k', k = k' + 1 := ⟨k - 1, by omega⟩
    rw [ecdysisref10_Starts.l0, occ_len, if_neg (by omega)]
    simp
  | m + 1, j, k, acc, hj, hk, hn => by
    obtain ⟨k, rfl⟩ : ∃ k', k = k' + 1 := ⟨k - 1, by omega⟩
    rw [ecdysisref10_Starts.l0, occ_len, if_pos (by omega), if_pos (by omega), rd_occ bs (by omega), w64n (show j ≤ 100000 by omega), List.range'_succ, List.filter_cons]
    by_cases h1 : own bs j = j + 1
    · rw [if_pos (by omega), if_pos (by omega), starts_loop hU m (j + 1) k (acc ++ [(j : Int)]) (by omega) (by omega) (by simp; omega), if_pos (by simpa using h1)]
      simp
    · rw [if_neg (by omega), starts_loop hU m (j + 1) k acc (by omega) (by omega) (by omega), if_neg (by simpa using h1)]
theorem starts_f (hU : U ≤ 1024) (h : Chain 0 bs U) (k : Nat) (hk : 2000 ≤ k) : ecdysisref10_Starts.f k (occ U bs) = some (bs.map fun q => (q.1 : Int)) := by
  have := starts_loop (bs := bs) hU U 0 k [] (by omega) (by omega) (by simp; omega)
  rw [ecdysisref10_Starts.f]
  refine this.trans ?_
  rw [List.nil_append, show List.range' 0 U = List.range' 0 (U - 0) from rfl, filter_starts h, List.map_map]
  rfl
theorem same_loop (l : List Int) (hl : l.length ≤ 2000) : ∀ (m j k : Nat), j + m = l.length → m < k → ecdysisref03_Same.l0 k l l (j : Int) = some true
  | 0, j, k, hj, hk => by
    obtain ⟨k, rfl⟩ : ∃ k', k = k' + 1 := ⟨k - 1, by omega⟩
    rw [ecdysisref03_Same.l0, if_neg (by omega)]
  | m + 1, j, k, hj, hk => by
    obtain ⟨k, rfl⟩ : ∃ k', k = k' + 1 := ⟨k - 1, by omega⟩
    rw [ecdysisref03_Same.l0, if_pos (by omega), if_pos (by omega), if_pos (by omega), if_pos rfl, w64n (show j ≤ 100000 by omega)]
    exact same_loop l hl m (j + 1) k (by omega) (by omega)
theorem same_f (l : List Int) (hl : l.length ≤ 2000) (k : Nat) (hk : 2001 ≤ k) : ecdysisref03_Same.f k l l = some true := by
  rw [ecdysisref03_Same.f, if_pos rfl]
  exact same_loop l hl l.length 0 k (by omega) (by omega)
theorem used_loop (hU : U ≤ 1024) : ∀ (m j n k : Nat), j + m = U → m < k → n + m ≤ 2000 →
    ecdysisref10_Used.l0 k (occ U bs) (n : Int) (j : Int) = some ((n + (List.range' j m).countP (fun i => decide (0 < own bs i)) : Nat) : Int)
  | 0, j, n, k, hj, hk, hn => by
    obtain ⟨k, rfl⟩ : ∃ k', k = k' + 1 := ⟨k - 1, by omega⟩
    rw [ecdysisref10_Used.l0, occ_len, if_neg (by omega)]
    rfl
  | m + 1, j, n, k, hj, hk, hn => by
    obtain ⟨k, rfl⟩ : ∃ k', k = k' + 1 := ⟨k - 1, by omega⟩
    rw [ecdysisref10_Used.l0, occ_len, if_pos (by omega), if_pos (by omega), rd_occ bs (by omega), w64n (show j ≤ 100000 by omega), List.range'_succ, List.countP_cons]
    by_cases h1 : 0 < own bs j
    · rw [if_pos (by omega), w64n (show n ≤ 100000 by omega), used_loop hU m (j + 1) (n + 1) k (by omega) (by omega) (by omega), if_pos (by simpa using h1)]
      congr 2
      omega
    · rw [if_neg (by omega), used_loop hU m (j + 1) n k (by omega) (by omega) (by omega), if_neg (by simpa using h1)]
      rfl
theorem used_f (hU : U ≤ 1024) (h : Chain 0 bs U) (k : Nat) (hk : 2000 ≤ k) : ecdysisref10_Used.f k (occ U bs) = some (((bs.map (·.2)).sum : Nat) : Int) := by
  have := used_loop (bs := bs) hU U 0 0 k (by omega) (by omega) (by omega)
  rw [ecdysisref10_Used.f]
  refine this.trans ?_
  rw [Nat.zero_add, show List.range' 0 U = List.range' 0 (U - 0) from rfl, count_used h]
theorem large_loop (hU : U ≤ 1024) : ∀ (m j x r k : Nat), j + m = U → m < k → x + m ≤ 2000 → r ≤ x →
    ecdysisref10_Largest.l0 k (occ U bs) (x : Int) (r : Int) (j : Int) = some ((((List.range' j m).foldl (lgStep bs) (x, r)).1 : Nat) : Int)
  | 0, j, x, r, k, hj, hk, hn, hr => by
    obtain ⟨k, rfl⟩ : ∃ k', k = k' + 1 := ⟨k - 1, by omega⟩
    rw [ecdysisref10_Largest.l0, occ_len, if_neg (by omega)]
    rfl
  | m + 1, j, x, r, k, hj, hk, hn, hr => by
    obtain ⟨k, rfl⟩ : ∃ k', k = k' + 1 := ⟨k - 1, by omega⟩
    rw [ecdysisref10_Largest.l0, occ_len, if_pos (by omega), if_pos (by omega), rd_occ bs (by omega), w64n (show j ≤ 100000 by omega), List.range'_succ, List.foldl_cons]
    by_cases h1 : 0 < own bs j
    · rw [if_pos (by omega), if_neg (by omega), lgStep, if_pos h1]
      exact large_loop hU m (j + 1) x 0 k (by omega) (by omega) (by omega) (Nat.zero_le _)
    · rw [if_neg (by omega), lgStep, if_neg h1, w64n (show r ≤ 100000 by omega)]
      simp only
      by_cases h2 : x < r + 1
      · rw [if_pos (by omega), large_loop hU m (j + 1) (r + 1) (r + 1) k (by omega) (by omega) (by omega) (Nat.le_refl _), show max x (r + 1) = r + 1 by omega]
      · rw [if_neg (by omega), large_loop hU m (j + 1) x (r + 1) k (by omega) (by omega) (by omega) (by omega), show max x (r + 1) = x by omega]
theorem large_f (hU : U ≤ 1024) (h : Chain 0 bs U) (k : Nat) (hk : 2000 ≤ k) : ecdysisref10_Largest.f k (occ U bs) = some (((gaps 0 bs U).foldl (fun m g => max m g.2) 0 : Nat) : Int) := by
  have := large_loop (bs := bs) hU U 0 0 0 k (by omega) (by omega) (by omega) (Nat.le_refl _)
  rw [ecdysisref10_Largest.f]
  refine this.trans ?_
  rw [show List.range' 0 U = List.range' 0 (U - 0) from rfl, fold_large 0 h]
theorem free_loop (hU : U ≤ 1024) (a n : Nat) (han : a + n ≤ U) : ∀ (m j k : Nat), j + m = a + n → m < k →
    ecdysisref10_free.l0 k (occ U bs) (a : Int) (n : Int) (j : Int) = some ((List.range' j m).all (fun i => own bs i == 0))
  | 0, j, k, hj, hk => by
    obtain ⟨k, rfl⟩ : ∃ k', k = k' + 1 := ⟨k - 1, by omega⟩
    rw [ecdysisref10_free.l0, w64 (by omega), if_neg (by omega)]
    rfl
  | m + 1, j, k, hj, hk => by
    obtain ⟨k, rfl⟩ : ∃ k', k = k' + 1 := ⟨k - 1, by omega⟩
    rw [ecdysisref10_free.l0, w64 (show _ ∧ _ by omega), occ_len, if_pos (by omega), if_pos (by omega), if_pos (by omega), rd_occ bs (by omega), w64n (show j ≤ 100000 by omega), List.range'_succ, List.all_cons]
    by_cases h1 : 0 < own bs j
    · rw [if_pos (by omega)]
      have : (own bs j == 0) = false := by simp; omega
      rw [this, Bool.false_and]
    · rw [if_neg (by omega), free_loop hU a n han m (j + 1) k (by omega) (by omega)]
      have : (own bs j == 0) = true := by simp; omega
      rw [this, Bool.true_and]
/-- Units of a list, set. -/
def setR (l : List Int) (a n : Nat) (v : Int) : List Int := (List.range l.length).map fun j => if a ≤ j ∧ j < a + n then v else l.getD j 0
theorem setR_zero (l : List Int) (a : Nat) (v : Int) : setR l a 0 v = l := by
  apply List.ext_getElem
  · simp [setR]
  · intro i h1 h2
    simp only [setR, List.getElem_map, List.getElem_range]
    rw [if_neg (by omega), List.getD_eq_getElem?_getD, List.getElem?_eq_getElem h2]
    rfl
theorem setR_succ (l : List Int) (a n : Nat) (v : Int) (ha : a < l.length) : setR (l.set a v) (a + 1) n v = setR l a (n + 1) v := by
  apply List.ext_getElem
  · simp [setR]
  · intro i h1 h2
    simp only [setR, List.getElem_map, List.getElem_range]
    by_cases hi : a + 1 ≤ i ∧ i < a + 1 + n
    · rw [if_pos hi, if_pos (by omega)]
    · rw [if_neg hi]
      by_cases hia : i = a
      · subst hia
        rw [if_pos (by omega), List.getD_eq_getElem?_getD, List.getElem?_set_self ha]
        rfl
      · rw [if_neg (by omega), List.getD_eq_getElem?_getD, List.getD_eq_getElem?_getD, List.getElem?_set_ne (fun e => hia e.symm)]
theorem set_loop (a n : Nat) (v : Int) : ∀ (m j k : Nat) (l : List Int), j + m = a + n → m < k → a + n ≤ l.length → l.length ≤ 2000 →
    ecdysisref10_set.l0 k (a : Int) (n : Int) v l (j : Int) = some (setR l j m v)
  | 0, j, k, l, hj, hk, hn, hl => by
    obtain ⟨k, rfl⟩ : ∃ k', k = k' + 1 := ⟨k - 1, by omega⟩
    rw [ecdysisref10_set.l0, w64 (by omega), if_neg (by omega), setR_zero]
  | m + 1, j, k, l, hj, hk, hn, hl => by
    obtain ⟨k, rfl⟩ : ∃ k', k = k' + 1 := ⟨k - 1, by omega⟩
    rw [ecdysisref10_set.l0, w64 (show _ ∧ _ by omega), if_pos (by omega), if_pos (by omega), if_pos (by omega), w64n (show j ≤ 100000 by omega), Int.toNat_natCast,
      set_loop a n v m (j + 1) k (l.set j v) (by omega) (by omega) (by simpa using hn) (by simpa using hl), setR_succ _ _ _ _ (by omega)]
theorem set_f (a n : Nat) (v : Int) (l : List Int) (k : Nat) (hk : 2001 ≤ k) (hn : a + n ≤ l.length) (hl : l.length ≤ 2000) : ecdysisref10_set.f k l (a : Int) (n : Int) v = some (setR l a n v) := by
  rw [ecdysisref10_set.f]
  simp only [Option.bind_some, List.nil_append, List.length_nil, Nat.zero_add]
  rw [if_pos (by omega)]
  exact set_loop a n v n a k l rfl (by omega) hn hl
end loops
theorem own_ins : ∀ {bs : List Pc} {e U a n i : Nat}, Chain e bs U → (∃ g ∈ gaps e bs U, g.1 ≤ a ∧ a + n ≤ g.1 + g.2) → 1 ≤ n → own (ins a n bs) i = if a ≤ i ∧ i < a + n then a + 1 else own bs i
  | [], e, U, a, n, i, h, _, hn => by
    simp only [ins, own]
  | q :: l, e, U, a, n, i, h, ⟨g, hg, h1, h2⟩, hn => by
    have c1 := h.1
    have c2 := h.2.1
    rw [ins]
    split
    · rename_i ha
      rw [own]
    · rename_i ha
      simp only [gaps, List.mem_append] at hg
      have hg2 : g ∈ gaps (q.1 + q.2) l U := by
        rcases hg with hg | hg
        · split at hg
          · rw [List.mem_singleton] at hg; subst hg; simp only at h1 h2; omega
          · cases hg
        · exact hg
      have hge := gaps_mem h.2.2 g hg2
      rw [own, own, own_ins h.2.2 ⟨g, hg2, h1, h2⟩ hn]
      by_cases hq : q.1 ≤ i ∧ i < q.1 + q.2
      · rw [if_pos hq, if_pos hq, if_neg (by omega)]
      · rw [if_neg hq, if_neg hq]
theorem own_del : ∀ {bs : List Pc} {e U a i : Nat}, Chain e bs U → own (del a bs) i = if a ≤ i ∧ i < a + longN bs a then 0 else own bs i
  | [], e, U, a, i, h => by
    simp only [del, List.filter_nil, own]
    split <;> rfl
  | q :: l, e, U, a, i, h => by
    have c1 := h.1
    have c2 := h.2.1
    have ih := own_del (a := a) (i := i) h.2.2
    rw [del] at ih ⊢
    rw [List.filter_cons, longN]
    by_cases hq : q.1 = a
    · rw [if_neg (by simp [hq]), if_pos hq, ih, longN_lt h.2.2 (by omega), if_neg (by omega)]
      by_cases hi : a ≤ i ∧ i < a + q.2
      · rw [if_pos hi]
        exact chain_own_lt h.2.2 (by omega)
      · rw [if_neg hi, own, if_neg (by omega)]
    · rw [if_pos (by simp [hq]), if_neg hq, own, own, ih]
      by_cases hi : q.1 ≤ i ∧ i < q.1 + q.2
      · rw [if_pos hi, if_pos hi]
        split
        · rename_i hx
          exfalso
          have hpos : 0 < longN l a := by omega
          obtain ⟨q', hq', rfl⟩ := (longN_pos h.2.2).1 hpos
          have := chain_mem h.2.2 q' hq'
          omega
        · rfl
      · rw [if_neg hi, if_neg hi]
theorem occ_ins {bs : List Pc} {U a n : Nat} (h : Chain 0 bs U) (hg : ∃ g ∈ gaps 0 bs U, g.1 ≤ a ∧ a + n ≤ g.1 + g.2) (hn : 1 ≤ n) : setR (occ U bs) a n ((a + 1 : Nat) : Int) = occ U (ins a n bs) := by
  apply List.ext_getElem
  · simp [setR, occ]
  · intro i h1 h2
    have hi : i < U := by simpa [occ] using h2
    simp only [setR, occ, List.getElem_map, List.getElem_range, own_ins h hg hn]
    by_cases hx : a ≤ i ∧ i < a + n
    · rw [if_pos hx, if_pos hx]
    · rw [if_neg hx, if_neg hx, List.getD_eq_getElem?_getD]
      simp [hi]
theorem occ_del {bs : List Pc} {U a : Nat} (h : Chain 0 bs U) : setR (occ U bs) a (longN bs a) 0 = occ U (del a bs) := by
  apply List.ext_getElem
  · simp [setR, occ]
  · intro i h1 h2
    have hi : i < U := by simpa [occ] using h2
    simp only [setR, occ, List.getElem_map, List.getElem_range, own_del h]
    by_cases hx : a ≤ i ∧ i < a + longN bs a
    · rw [if_pos hx, if_pos hx]
      rfl
    · rw [if_neg hx, if_neg hx, List.getD_eq_getElem?_getD]
      simp [hi]
/-- Are n units from a on free? -/
def runB (bs : List Pc) (a n : Nat) : Bool := (List.range' a n).all (fun i => own bs i == 0)
theorem runB_iff {bs : List Pc} {U a n : Nat} (h : Chain 0 bs U) (hn : 1 ≤ n) (hu : a + n ≤ U) : runB bs a n = true ↔ ∃ g ∈ gaps 0 bs U, g.1 ≤ a ∧ a + n ≤ g.1 + g.2 := by
  rw [← run_gap h (Nat.zero_le a) n hn hu, runB, List.all_eq_true]
  constructor
  · intro h1 i h2 h3
    have := h1 i (by rw [List.mem_range'_1]; omega)
    simpa using this
  · intro h1 i hi
    rw [List.mem_range'_1] at hi
    simpa using h1 i hi.1 hi.2
theorem free_f {bs : List Pc} {U a n k : Nat} (hU : U ≤ 1024) (han : a + n ≤ U) (hk : 2000 ≤ k) : ecdysisref10_free.f k (occ U bs) (a : Int) (n : Int) = some (runB bs a n) := by
  rw [ecdysisref10_free.f]
  exact free_loop hU a n han n a k rfl (by omega)
def takeQ (n : Nat) (g : Pc) : Bool := decide (n ≤ g.2)
/-- What taking answers. -/
def takeR (U : Nat) (bs : List Pc) (n : Nat) : List Pc × Int × Int :=
  match (gaps 0 bs U).find? (takeQ n) with
  | none => (bs, 0, 100)
  | some g => (ins g.1 n bs, (g.1 : Int), 0)
theorem find_first {bs : List Pc} {U n j : Nat} (h : Chain 0 bs U) (hn : 1 ≤ n) (hj : ∀ i, i < j → runB bs i n = false) (hr : runB bs j n = true) (hu : j + n ≤ U) : ∃ g, (gaps 0 bs U).find? (takeQ n) = some g ∧ g.1 = j ∧ ∃ g ∈ gaps 0 bs U, g.1 ≤ j ∧ j + n ≤ g.1 + g.2 := by
  have hg0 := (runB_iff h hn hu).1 hr
  obtain ⟨g, hg, h1, h2⟩ := hg0
  have hstart : ∀ g' ∈ gaps 0 bs U, n ≤ g'.2 → j ≤ g'.1 := by
    intro g' hg' hn'
    have hm := gaps_mem h g' hg'
    have : runB bs g'.1 n = true := (runB_iff h hn (by omega)).2 ⟨g', hg', Nat.le_refl _, by omega⟩
    rcases Nat.lt_or_ge g'.1 j with hlt | hge
    · rw [hj _ hlt] at this; cases this
    · exact hge
  have hgj := hstart g hg (by omega)
  cases hf : (gaps 0 bs U).find? (takeQ n) with
  | none =>
    have := List.find?_eq_none.1 hf g hg
    simp [takeQ] at this
    omega
  | some b =>
    obtain ⟨hb, xs, ys, hxy, hno⟩ := List.find?_eq_some_iff_append.1 hf
    refine ⟨b, rfl, ?_, ⟨g, hg, h1, h2⟩⟩
    have hbm : b ∈ gaps 0 bs U := by rw [hxy]; simp
    have hbj := hstart b hbm (by simpa [takeQ] using hb)
    have hp := gaps_rise h
    rw [hxy] at hg hp
    rcases List.mem_append.1 hg with hg | hg
    · have := hno g hg
      simp [takeQ] at this
      omega
    · rcases List.mem_cons.1 hg with rfl | hg
      · omega
      · have := (List.pairwise_cons.1 (List.pairwise_append.1 hp).2.1).1 g hg
        omega
theorem take_loop {bs : List Pc} {U n : Nat} (hU : U ≤ 1024) (h : Chain 0 bs U) (hn : 1 ≤ n) (a0 a1 : Int) : ∀ (m j k : Nat), j + m = U + 1 → 2 * m + 2100 ≤ k → (∀ i, i < j → runB bs i n = false) →
    ecdysisref10_Do.l0 k (occ U bs) (j : Int) a0 a1 (n : Int) = some (occ U (takeR U bs n).1, (takeR U bs n).2.1, (takeR U bs n).2.2) := by
  intro m
  induction m with
  | zero =>
    intro j k hj hk hno
    obtain ⟨k, rfl⟩ : ∃ k', k = k' + 2 := ⟨k - 2, by omega⟩
    have hnone : (gaps 0 bs U).find? (takeQ n) = none := by
      rw [List.find?_eq_none]
      intro g hg hq
      have hm := gaps_mem h g hg
      simp only [takeQ, decide_eq_true_eq] at hq
      have := (runB_iff h hn (by omega)).2 ⟨g, hg, Nat.le_refl _, by omega⟩
      rw [hno g.1 (by omega)] at this
      cases this
    rw [ecdysisref10_Do.l0, occ_len, takeR, hnone]
    by_cases hnu : (n : Int) ≤ (U : Int)
    · rw [if_pos hnu, ecdysisref10_Do.j1, w64 (by omega), if_neg (by simp; omega)]
    · rw [if_neg hnu, ecdysisref10_Do.j1, if_neg (by simp)]
  | succ m ih =>
    intro j k hj hk hno
    obtain ⟨k, rfl⟩ : ∃ k', k = k' + 2 := ⟨k - 2, by omega⟩
    by_cases hju : j + n ≤ U
    · rw [ecdysisref10_Do.l0, occ_len, if_pos (by omega), ecdysisref10_Do.j1, w64 (show _ ∧ _ by omega), if_pos (by simp; omega), free_f hU hju (by omega)]
      simp only [Option.bind_some]
      by_cases hr : runB bs j n = true
      · obtain ⟨g, hg, rfl, hgg⟩ := find_first h hn hno hr hju
        rw [if_pos hr, w64n (show g.1 ≤ 100000 by omega), set_f g.1 n _ _ k (by omega) (by rw [occ_len]; exact hju) (by rw [occ_len]; omega)]
        simp only [Option.bind_some]
        rw [takeR, hg, occ_ins h hgg hn]
      · rw [if_neg hr, w64n (show j ≤ 100000 by omega)]
        refine ih (j + 1) k (by omega) (by omega) (fun i hi => ?_)
        rcases Nat.lt_or_ge i j with hlt | hge
        · exact hno i hlt
        · obtain rfl : i = j := by omega
          simpa using hr
    · have hnone : (gaps 0 bs U).find? (takeQ n) = none := by
        rw [List.find?_eq_none]
        intro g hg hq
        have hm := gaps_mem h g hg
        simp only [takeQ, decide_eq_true_eq] at hq
        have := (runB_iff h hn (by omega)).2 ⟨g, hg, Nat.le_refl _, by omega⟩
        rw [hno g.1 (by omega)] at this
        cases this
      rw [ecdysisref10_Do.l0, occ_len, takeR, hnone]
      by_cases hnu : (n : Int) ≤ (U : Int)
      · rw [if_pos hnu, ecdysisref10_Do.j1, w64 (by omega), if_neg (by simp; omega)]
      · rw [if_neg hnu, ecdysisref10_Do.j1, if_neg (by simp)]
def claimQ (a n : Nat) (g : Pc) : Bool := decide (g.1 ≤ a ∧ a + n ≤ g.1 + g.2)
def claimR (U : Nat) (bs : List Pc) (at_ n : Int) : List Pc × Int × Int :=
  if n < 1 ∨ at_ < 0 ∨ (U : Int) < n ∨ (U : Int) - n < at_ then (bs, 0, 1) else match (gaps 0 bs U).find? (claimQ at_.toNat n.toNat) with
    | none => (bs, 0, 100)
    | some _ => (ins at_.toNat n.toNat bs, 0, 0)
/-- What a call answers: the blocks, a number, the error. -/
def doR (U : Nat) (bs : List Pc) (kind at_ n : Int) : List Pc × Int × Int :=
  if kind = 0 then (if n < 1 then (bs, 0, 1) else takeR U bs n.toNat)
  else if kind = 1 then (if longI bs at_ = 0 then (bs, 0, 101) else (del at_.toNat bs, 0, 0))
  else if kind = 2 then claimR U bs at_ n
  else (bs, 0, 0)
abbrev I64 (x : Int) : Prop := -9223372036854775808 ≤ x ∧ x ≤ 9223372036854775807
theorem do_f {bs : List Pc} {U : Nat} (hU : U ≤ 1024) (h : Chain 0 bs U) (kind at_ n : Int) (ha : I64 at_) (hn : I64 n) (k : Nat) (hk : 6000 ≤ k) :
    ecdysisref10_Do.f k (occ U bs) kind at_ n = some (occ U (doR U bs kind at_ n).1, (doR U bs kind at_ n).2.1, (doR U bs kind at_ n).2.2) := by
  rw [ecdysisref10_Do.f, doR]
  by_cases k0 : kind = 0
  · rw [if_pos k0, if_pos k0]
    by_cases h1 : n < 1
    · rw [if_pos h1, if_pos h1]
    · rw [if_neg h1, if_neg h1]
      obtain ⟨m, rfl⟩ : ∃ m : Nat, n = m := ⟨n.toNat, by omega⟩
      rw [Int.toNat_natCast]
      exact take_loop hU h (by omega) kind at_ (U + 1) 0 k (by omega) (by omega) (fun i hi => absurd hi (Nat.not_lt_zero _))
  rw [if_neg k0, if_neg k0]
  by_cases k1 : kind = 1
  · rw [if_pos k1, if_pos k1, long_f hU h at_ k (by omega) ha]
    simp only [Option.bind_some]
    by_cases h1 : longI bs at_ = 0
    · rw [if_pos h1, if_pos h1]
    · rw [if_neg h1, if_neg h1]
      have hp : 0 ≤ at_ := by
        by_cases hp : 0 ≤ at_
        · exact hp
        · rw [longI, if_neg hp] at h1; exact absurd rfl h1
      obtain ⟨a, rfl⟩ : ∃ a : Nat, at_ = a := ⟨at_.toNat, by omega⟩
      rw [longI, if_pos hp, Int.toNat_natCast] at h1 ⊢
      have hpos : 0 < longN bs a := by omega
      obtain ⟨q, hq, rfl⟩ := (longN_pos h).1 hpos
      have hc := chain_mem h q hq
      rw [longN_of h hq]
      rw [set_f q.1 q.2 0 _ k (by omega) (by rw [occ_len]; exact hc.2.2) (by rw [occ_len]; omega)]
      simp only [Option.bind_some]
      rw [← occ_del h, longN_of h hq]
  rw [if_neg k1, if_neg k1]
  by_cases k2 : kind = 2
  · rw [if_pos k2, if_pos k2, occ_len, claimR]
    obtain ⟨k', hk'⟩ : ∃ k', k = k' + 1 := ⟨k - 1, by omega⟩
    have bad : ecdysisref10_Do.j2 k (occ U bs) true kind at_ n = some (occ U bs, 0, 1) := by rw [hk', ecdysisref10_Do.j2, if_pos rfl]
    by_cases h1 : n < 1
    · rw [if_pos h1, if_pos (.inl h1), bad]
    rw [if_neg h1]
    by_cases h2 : at_ < 0
    · rw [if_pos h2, if_pos (.inr (.inl h2)), bad]
    rw [if_neg h2]
    by_cases h3 : at_ > (U : Int)
    · rw [if_pos h3, if_pos (by omega), bad]
    rw [if_neg h3, w64 (by omega)]
    by_cases h4 : n > (U : Int) - at_
    · rw [if_pos (by omega), show decide (n > (U : Int) - at_) = true from decide_eq_true h4, bad]
    · rw [if_neg (by omega), show decide (n > (U : Int) - at_) = false from decide_eq_false h4]
      obtain ⟨a, rfl⟩ : ∃ a : Nat, at_ = a := ⟨at_.toNat, by omega⟩
      obtain ⟨m, rfl⟩ : ∃ m : Nat, n = m := ⟨n.toNat, by omega⟩
      rw [Int.toNat_natCast, Int.toNat_natCast, hk', ecdysisref10_Do.j2, if_neg (by simp), free_f hU (by omega) (by omega)]
      simp only [Option.bind_some]
      by_cases hr : runB bs a m = true
      · obtain ⟨g, hg, hg1, hg2⟩ := (runB_iff h (by omega) (by omega)).1 hr
        rw [if_pos hr, w64n (show a ≤ 100000 by omega), set_f a m _ _ k' (by omega) (by rw [occ_len]; omega) (by rw [occ_len]; omega)]
        simp only [Option.bind_some]
        rw [occ_ins h ⟨g, hg, hg1, hg2⟩ (by omega)]
        cases hf : (gaps 0 bs U).find? (claimQ a m) with
        | none =>
          have := List.find?_eq_none.1 hf g hg
          simp [claimQ, hg1, hg2] at this
        | some b => rfl
      · rw [if_neg hr]
        cases hf : (gaps 0 bs U).find? (claimQ a m) with
        | none => rfl
        | some b =>
          have hb := List.find?_some hf
          simp only [claimQ, decide_eq_true_eq] at hb
          exact absurd ((runB_iff h (by omega) (by omega)).2 ⟨b, List.mem_of_find?_eq_some hf, hb.1, hb.2⟩) hr
  · rw [if_neg k2, if_neg k2]
theorem takeR_chain {bs : List Pc} {U n : Nat} (h : Chain 0 bs U) (hn : 1 ≤ n) : Chain 0 (takeR U bs n).1 U := by
  rw [takeR]
  split
  · exact h
  · rename_i g hf
    have := List.find?_some hf
    simp only [takeQ, decide_eq_true_eq] at this
    exact chain_ins h hn ⟨g, List.mem_of_find?_eq_some hf, Nat.le_refl _, by omega⟩
theorem doR_chain {bs : List Pc} {U : Nat} (h : Chain 0 bs U) (kind at_ n : Int) : Chain 0 (doR U bs kind at_ n).1 U := by
  rw [doR]
  split
  · split
    · exact h
    · exact takeR_chain h (by omega)
  · split
    · split
      · exact h
      · exact chain_del h
    · split
      · rw [claimR]
        split
        · exact h
        · split
          · exact h
          · rename_i b hf
            have hb := List.find?_some hf
            simp only [claimQ, decide_eq_true_eq] at hb
            exact chain_ins h (by omega) ⟨b, List.mem_of_find?_eq_some hf, hb.1, hb.2⟩
      · exact h
end Go.Proofs.Ytgendnoafemgpaa.Hand
namespace Go.Proofs.Ytgendnoafemgpaa.Hand
attribute [local go_sem] Oper.semAt_some
open Go.RowKit Go.Maps Go.Sort Go.Shelf Go.Proofs.YtgendnoafemgpaaW.PrintWords Go.Proofs.YtgendnoafemgpaaW.PrintLast
set_option linter.unusedVariables false
set_option linter.unusedSimpArgs false
theorem wf_I64 {x : Int} (h : I64 x) : (Lit.int .i64 x).wf = true := by
  have := h.1
  have := h.2
  simp only [Lit.wf, IntKind.min, IntKind.max, IntKind.signed, IntKind.bits, Bool.and_eq_true]
  simp
  omega
/-- What a call has answered, and left. -/
def Ans (w : World) (p s U : Nat) (r : List Pc × Int × Int) (e : Ending) (w' : World) : Prop := e = .returned (.tuple #[.int .i64 r.2.1, .int .i64 r.2.2]) ∧ HasB w' p s U r.1 ∧ Fr (fun b => b = s) w w'
theorem take_all (w : World) (p s U : Nat) (bs : List Pc) (h : HasB w p s U bs) (n : Int) (hn : I64 n) (r : List Pc × Int × Int) (hr : (if n < 1 then (bs, 0, 1) else takeR U bs n.toNat) = r) :
    Calls Try.prog 19 #[.pointer (some ⟨p, 0, none⟩), .int .i64 n] w (Ans w p s U r) := by
  subst hr
  by_cases h1 : n < 1
  · rw [if_pos h1]
    refine (take_bad w p n h1).mono ?_
    rintro e w' ⟨rfl, hb⟩
    exact ⟨rfl, h.below hb, Fr.of_below hb _⟩
  · rw [if_neg h1]
    refine (take_calls w p s U bs h n (by omega) (wf_I64 hn)).mono ?_
    intro e w' ht
    have hq : takeP n = takeQ n.toNat := by
      funext g
      simp only [takeP, takeQ, decide_eq_decide]
      omega
    rw [TakeOut, hq] at ht
    rw [takeR]
    cases hf : (gaps 0 bs U).find? (takeQ n.toNat) with
    | none => rw [hf] at ht; exact ht
    | some g => rw [hf] at ht; exact ht
/-- The same for a call that answers an error alone. -/
def AnsE (w : World) (p s U : Nat) (r : List Pc × Int × Int) (e : Ending) (w' : World) : Prop := e = .returned (.int .i64 r.2.2) ∧ HasB w' p s U r.1 ∧ Fr (fun b => b = s) w w'
theorem free_all (w : World) (p s U : Nat) (bs : List Pc) (h : HasB w p s U bs) (a : Int) (ha : I64 a) (r : List Pc × Int × Int) (hr : (if longI bs a = 0 then (bs, 0, 101) else (del a.toNat bs, 0, 0)) = r) :
    Calls Try.prog 20 #[.pointer (some ⟨p, 0, none⟩), .int .i64 a] w (AnsE w p s U r) := by
  subst hr
  by_cases h1 : longI bs a = 0
  · rw [if_pos h1]
    refine (free_none w p s U bs h a (wf_I64 ha) h1).mono ?_
    rintro e w' ⟨rfl, rfl⟩
    exact ⟨rfl, h, Fr.refl _ _⟩
  · rw [if_neg h1]
    have hp : 0 ≤ a := by
      by_cases hp : 0 ≤ a
      · exact hp
      · rw [longI, if_neg hp] at h1; exact absurd rfl h1
    obtain ⟨x, rfl⟩ : ∃ x : Nat, a = x := ⟨a.toNat, by omega⟩
    rw [longI, if_pos hp, Int.toNat_natCast] at h1
    rw [Int.toNat_natCast]
    exact free_one w p s U bs h x (by omega)
theorem claim_all (w : World) (p s U : Nat) (bs : List Pc) (h : HasB w p s U bs) (a n : Int) (r : List Pc × Int × Int) (hr : claimR U bs a n = r) :
    Calls Try.prog 22 #[.pointer (some ⟨p, 0, none⟩), .int .i64 a, .int .i64 n] w (AnsE w p s U r) := by
  subst hr
  rw [claimR]
  by_cases h1 : n < 1 ∨ a < 0 ∨ (U : Int) < n ∨ (U : Int) - n < a
  · rw [if_pos h1]
    refine (claim_bad w p s U bs h a n h1).mono ?_
    rintro e w' ⟨rfl, hb⟩
    exact ⟨rfl, h.below hb, Fr.of_below hb _⟩
  · rw [if_neg h1]
    obtain ⟨x, rfl⟩ : ∃ x : Nat, a = x := ⟨a.toNat, by omega⟩
    obtain ⟨m, rfl⟩ : ∃ m : Nat, n = m := ⟨n.toNat, by omega⟩
    rw [Int.toNat_natCast, Int.toNat_natCast]
    refine (claim_calls w p s U bs h x m (by omega) (by omega)).mono ?_
    intro e w' ht
    rw [ClaimOut, show claimP x m = claimQ x m from rfl] at ht
    cases hf : (gaps 0 bs U).find? (claimQ x m) with
    | none => rw [hf] at ht; exact ht
    | some g => rw [hf] at ht; exact ht
set_option maxRecDepth 100000 in
set_option maxHeartbeats 4000000 in
theorem does_calls (w : World) (p s U : Nat) (bs : List Pc) (h : HasB w p s U bs) (kind a n : Int) (ha : I64 a) (hn : I64 n) :
    Calls Try.prog 12 #[.pointer (some ⟨p, 0, none⟩), .agg #[.int .i64 kind, .int .i64 a, .int .i64 n]] w (Ans w p s U (doR U bs kind a n)) := by
  have hu29 := Try.underlying29
  obtain ⟨Po, hPo⟩ : ∃ Po, Po = Ans w p s U (doR U bs kind a n) := ⟨_, rfl⟩
  have HPO := Aside0.mk hPo
  rw [← hPo]
  have HH := Aside0.mk h
  clear h hPo
  have HD := Aside0.mk (show doR U bs kind a n = _ from rfl)
  by_cases k0 : kind = 0
  · subst k0
    obtain ⟨r, hr⟩ : ∃ r : List Pc × Int × Int, (if n < 1 then (bs, 0, 1) else takeR U bs n.toNat) = r := ⟨_, rfl⟩
    have HR := Aside0.mk hr
    clear hr HD
    go_enter Try.func12, Try.ntmps12
    go_wp2_with (go_at_call 19; refine (take_all _ p s U bs (HH.out.below (below_alloc (Below.refl _ _) _)) n hn r HR.out).mono ?_; rintro e w2 ⟨rfl, hb2, hf2⟩; have HB2 := Aside0.mk hb2; have HF2 := Aside0.mk hf2; clear hb2 hf2)
    rw [HPO.out, doR, if_pos rfl, HR.out]
    exact ⟨rfl, HB2.out, (Fr.of_below (below_alloc (Below.refl _ _) _) _).trans' HF2.out⟩
  by_cases k1 : kind = 1
  · subst k1
    obtain ⟨r, hr⟩ : ∃ r : List Pc × Int × Int, (if longI bs a = 0 then (bs, 0, 101) else (del a.toNat bs, 0, 0)) = r := ⟨_, rfl⟩
    have HR := Aside0.mk hr
    have HR0 := Aside0.mk (show r.2.1 = 0 by rw [← hr]; split <;> rfl)
    clear hr HD
    go_enter Try.func12, Try.ntmps12
    go_wp2_with (go_at_call 20; refine (free_all _ p s U bs (HH.out.below (below_alloc (Below.refl _ _) _)) a ha r HR.out).mono ?_; rintro e w2 ⟨rfl, hb2, hf2⟩; have HB2 := Aside0.mk hb2; have HF2 := Aside0.mk hf2; clear hb2 hf2)
    rw [HPO.out, doR, if_neg (by decide), if_pos rfl, HR.out]
    exact ⟨by rw [HR0.out]; rfl, HB2.out, (Fr.of_below (below_alloc (Below.refl _ _) _) _).trans' HF2.out⟩
  by_cases k2 : kind = 2
  · subst k2
    obtain ⟨r, hr⟩ : ∃ r, claimR U bs a n = r := ⟨_, rfl⟩
    have HR := Aside0.mk hr
    have HR0 := Aside0.mk (show r.2.1 = 0 by rw [← hr, claimR]; split <;> (try rfl); split <;> rfl)
    clear hr HD
    go_enter Try.func12, Try.ntmps12
    go_wp2_with (go_at_call 22; refine (claim_all _ p s U bs (HH.out.below (below_alloc (Below.refl _ _) _)) a n r HR.out).mono ?_; rintro e w2 ⟨rfl, hb2, hf2⟩; have HB2 := Aside0.mk hb2; have HF2 := Aside0.mk hf2; clear hb2 hf2)
    rw [HPO.out, doR, if_neg (by decide), if_neg (by decide), if_pos rfl, HR.out]
    exact ⟨by rw [HR0.out]; rfl, HB2.out, (Fr.of_below (below_alloc (Below.refl _ _) _) _).trans' HF2.out⟩
  · clear HD
    have b0 : (kind == 0) = false := by simpa using k0
    have b1 : (kind == 1) = false := by simpa using k1
    have b2 : (kind == 2) = false := by simpa using k2
    go_enter Try.func12, Try.ntmps12
    go_wp2
    try go_ret2
    rw [HPO.out, doR, if_neg k0, if_neg k1, if_neg k2]
    exact ⟨rfl, HH.out.below (below_alloc (Below.refl _ _) _), Fr.of_below (below_alloc (Below.refl _ _) _) _⟩
set_option maxRecDepth 100000 in
set_option maxHeartbeats 4000000 in
theorem bk_alive (w : World) : Calls Try.prog 11 #[] w fun e w' => e = .returned (.bool true) ∧ Below w.heap.size w w' := by
  go_enter Try.func11, Try.ntmps11
  go_wp2_with (first | (go_at_call 10; refine (new_good w 5 (by decide)).mono ?_; rintro e w0 ⟨p, s, rfl, hb, hbw, hp, hs⟩; have H0 := Aside0.mk hb; have HF0 := Aside0.mk (Fr.of_below hbw (fun b => w.heap.size ≤ b)); have HS := Aside0.mk hs; clear hb hbw hp hs) | (go_at_call 19; refine (take_all _ p s 5 _ H0.out 2 (by decide) ([(0, 2)], 0, 0) (by decide)).mono ?_; rintro e w1 ⟨rfl, hb, hf⟩; have H1 := Aside0.mk hb; have HF1 := Aside0.mk (HF0.out.trans' (hf.mono (T := fun b => w.heap.size ≤ b) (fun b h => by rw [h]; exact HS.out))); clear hb hf H0 HF0) | (go_at_call 19; refine (take_all _ p s 5 _ H1.out 2 (by decide) ([(0, 2), (2, 2)], 2, 0) (by decide)).mono ?_; rintro e w2 ⟨rfl, hb, hf⟩; have H2 := Aside0.mk hb; have HF2 := Aside0.mk (HF1.out.trans' (hf.mono (T := fun b => w.heap.size ≤ b) (fun b h => by rw [h]; exact HS.out))); clear hb hf H1 HF1) | (go_at_call 20; refine (free_all _ p s 5 _ H2.out 0 (by decide) ([(2, 2)], 0, 0) (by decide)).mono ?_; rintro e w3 ⟨rfl, hb, hf⟩; have H3 := Aside0.mk hb; have HF3 := Aside0.mk (HF2.out.trans' (hf.mono (T := fun b => w.heap.size ≤ b) (fun b h => by rw [h]; exact HS.out))); clear hb hf H2 HF2) | (go_at_call 19; refine (take_all _ p s 5 _ H3.out 3 (by decide) ([(2, 2)], 0, 100) (by decide)).mono ?_; rintro e w4 ⟨rfl, hb, hf⟩; have H4 := Aside0.mk hb; have HF4 := Aside0.mk (HF3.out.trans' (hf.mono (T := fun b => w.heap.size ≤ b) (fun b h => by rw [h]; exact HS.out))); clear hb hf H3 HF3) | (go_at_call 19; refine (take_all _ p s 5 _ H4.out 1 (by decide) ([(0, 1), (2, 2)], 0, 0) (by decide)).mono ?_; rintro e w5 ⟨rfl, hb, hf⟩; have H5 := Aside0.mk hb; have HF5 := Aside0.mk (HF4.out.trans' (hf.mono (T := fun b => w.heap.size ≤ b) (fun b h => by rw [h]; exact HS.out))); clear hb hf H4 HF4) | (go_at_call 14; refine (used_calls _ p s 5 _ H5.out).mono ?_; rintro e w6 ⟨rfl, hb⟩; have H6 := Aside0.mk (H5.out.below hb); have HF6 := Aside0.mk (HF5.out.then_below hb); clear hb) | (go_at_call 15; refine (largest_calls _ p s 5 _ H6.out).mono ?_; rintro e w7 ⟨rfl, hb⟩; have H7 := Aside0.mk (H6.out.below hb); have HF7 := Aside0.mk (HF6.out.then_below hb); clear hb) | (go_at_call 18; refine (long_calls _ p s 5 _ H7.out 2 (by decide)).mono ?_; rintro e w8 ⟨rfl, rfl⟩) | (go_at_call 27; refine (encode_calls _ p s 5 _ H7.out).mono ?_; rintro e w9 ⟨v9, rfl, hr, hb⟩; obtain ⟨A9, c9, rfl, _, _⟩ := Kd.R_reads hr; rw [show (encL 5 [(0, 1), (2, 2)] ++ encG [(0, 1), (2, 2)]).length = 12 by rw [List.length_append, encG_length, encL, List.length_append, leB_length, leB_length]; rfl]; have HF9 := Aside0.mk (HF7.out.then_below hb); clear hb hr))
  go_ret
  exact ⟨rfl, HF9.out.below _ (Nat.le_refl _) (fun b h => h)⟩
end Go.Proofs.Ytgendnoafemgpaa.Hand
