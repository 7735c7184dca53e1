/- What a claim needs of the walks and contracts, part 2. -/
import Derived.Test.YtbfogcckbhkciaaGreatProg
import Derived.Below
import Derived.Deep.Draws
import Derived.Deep.AppendLies
import Derived.Maps.AppendAt
import Derived.OwnWalk
import Derived.Laws.BytesArg
import Derived.Laws.MakeOwn
import Derived.Laws.OwnMore
import Derived.Deep.OwnRows
import Derived.Tactics
import Derived.Lib.ConvBytes
import Derived.Laws.Slices
import Derived.WalkKit
import Derived.KernelRfl
import Derived.RowKit3
import Derived.Deep.LoopGhost
import Derived.Deep.QuietTactic
import Derived.BigQuiet
import Derived.WideLaws
import Derived.Deep.DeepCutAuto
import Derived.Deep.CutBlock
import Derived.Deep.RegionHeld3
import Derived.Laws.Rows
import Derived.Lib.AppendStr
import Derived.ArgAppend
import Derived.Laws.IdiomCopy
import Derived.OrdersHeld
import Derived.Laws.BitsLemmas
import Derived.RowKit
import Derived.Test.YtbfogcckbhkciaaGreatHandG1
namespace Go.Proofs.YtbfogcckbhkciaaGreat.PHandRP
set_option linter.unusedVariables false
set_option linter.unusedSimpArgs false
open Go.RowKit Go.Proofs.YtbfogcckbhkciaaGreatW.PrintWords Go.Proofs.YtbfogcckbhkciaaGreatW.PrintLast Go.Proofs.YtbfogcckbhkciaaGreatW.PrintMore
attribute [local go_sem] max2_int min2_int max_two min_two max_three min_three max_four min_four   -- for this text's walks alone
set_option linter.unusedVariables false
set_option linter.unusedSimpArgs false
def errW : Option Int → Value
 | none => .nilIface
 | some c => .iface 0 (.int .i64 c)
theorem errW_none : errW none = .nilIface := rfl
theorem errW_some (c : Int) : errW (some c) = .iface 0 (.int .i64 c) := rfl
theorem info3 : (Tryz.prog.info? 3).map (fun i => (i.zero, i.size, i.bytes)) = some (some (.int .i64 0), 1, 8) := by kernel_rfl
theorem info94 : (Tryz.prog.info? 94).map (fun i => (i.zero, i.size, i.bytes)) = some (some (.agg #[(.string ⟨#[]⟩), (.string ⟨#[]⟩), (.bool false), (.bool false)]), 4, 40) := by kernel_rfl
structure S94 where
 f0 : ByteArray
 f1 : ByteArray
 f2 : Bool
 f3 : Bool
def z94 : S94 := ⟨(⟨#[]⟩ : ByteArray), (⟨#[]⟩ : ByteArray), false, false⟩
def k94 : Kd S94 := Kd.iso (Kd.pair Kd.string (Kd.pair Kd.string (Kd.pair Kd.bool Kd.bool))) (fun x : S94 => (x.f0, x.f1, x.f2, x.f3))
theorem k94_open {w : World} {x : S94} {cs : List Value} (h : k94.K w x cs) : cs = [.string x.f0, .string x.f1, .bool x.f2, .bool x.f3] := by
 obtain ⟨_, _, rfl, rfl, ⟨_, _, rfl, rfl, ⟨_, _, rfl, rfl, rfl⟩⟩⟩ := h
 exact rfl
theorem k94_openM {w : World} {base : Nat} {ok : Nat → Prop} {x : S94} {cs : List Value} (h : k94.M w base ok x cs) : cs = [.string x.f0, .string x.f1, .bool x.f2, .bool x.f3] := by
 obtain ⟨_, _, rfl, rfl, ⟨_, _, rfl, rfl, ⟨_, _, rfl, rfl, rfl⟩⟩⟩ := h
 exact rfl
theorem k94_mkM (w : World) (base : Nat) (ok : Nat → Prop) (x : S94)  : k94.M w base ok x [.string x.f0, .string x.f1, .bool x.f2, .bool x.f3] := ⟨[.string x.f0], [.string x.f1, .bool x.f2, .bool x.f3], rfl, rfl, ⟨[.string x.f1], [.bool x.f2, .bool x.f3], rfl, rfl, ⟨[.bool x.f2], [.bool x.f3], rfl, rfl, rfl⟩⟩⟩
def rd_T94 (xs : List S94) (i : Int) : S94 := xs.getD i.toNat z94
theorem at_T94 {w : World} {A : Option Addr} {n : Nat} {xs : List S94} (h : Kd.C k94 w A n xs) (i : Int) (h0 : 0 ≤ i) (h1 : i < n) : ∃ ad , A = some ad ∧ w.cell? (ad.add (i.toNat * 4)) = some (.string (rd_T94 xs i).f0) ∧ w.cell? ⟨(ad.add (i.toNat * 4)).block, (ad.add (i.toNat * 4)).off + 1, none⟩ = some (.string (rd_T94 xs i).f1) ∧ w.cell? ⟨(ad.add (i.toNat * 4)).block, (ad.add (i.toNat * 4)).off + 2, none⟩ = some (.bool (rd_T94 xs i).f2) ∧ w.cell? ⟨(ad.add (i.toNat * 4)).block, (ad.add (i.toNat * 4)).off + 3, none⟩ = some (.bool (rd_T94 xs i).f3) := by
 obtain ⟨ad, c, e, _, hK, hc0⟩ := Kd.C_get h z94 i h0 h1
 have hc : ∀ j u, c[j]? = some u → w.cell? (ad.add (i.toNat * 4 + j)) = some u := hc0
 obtain rfl := k94_open hK
 exact ⟨ad, e, hc 0 _ rfl, by rw [← add_field _ _ 1 (by omega)]; exact hc 1 _ rfl, by rw [← add_field _ _ 2 (by omega)]; exact hc 2 _ rfl, by rw [← add_field _ _ 3 (by omega)]; exact hc 3 _ rfl⟩
def ecdysisref03_Bytes.l0 : Nat → List (S94) → ByteArray → Int → Option (ByteArray)
 | 0, _, _, _ => none
 | k + 1, x0, x3, x4 => if x4 < (x0.length : Int) then (if 0 ≤ x4 then (if x3.size + ((rd_T94 x0 x4).f0).size ≤ 9223372036854775807 then (ecdysisref03_Bytes.l0 k x0 (x3 ++ ((rd_T94 x0 x4).f0)) (wrap64 (x4 + 1))) else (none)) else (none)) else (some x3)
def ecdysisref03_Bytes.f (k : Nat) (l0 : List (S94)) : Option (ByteArray) := ecdysisref03_Bytes.l0 k l0 (⟨#[]⟩ : ByteArray) 0
theorem ecdysisref03_Bytes.mono_l : ∀ k, (∀ y0 y1 y2, LeO (ecdysisref03_Bytes.l0 k y0 y1 y2) (ecdysisref03_Bytes.l0 (k + 1) y0 y1 y2))
 | 0 => fun _ _ _ r h => by simp [ecdysisref03_Bytes.l0] at h
 | k + 1 => by
  have ih0 := ecdysisref03_Bytes.mono_l k
  ·intro y0 y1 y2
   unfold ecdysisref03_Bytes.l0
   repeat' first
   | (with_reducible exact ih0 _ _ _)
   | (with_reducible exact LeO.refl _)
   | (with_reducible exact LeO.none _)
   | (with_reducible refine LeO.ite ?_ ?_)
   | (with_reducible refine LeO.bind ?_ (fun _ => ?_))
   | exact ih0 _ _ _
   | exact LeO.none _
   | refine LeO.ite ?_ ?_
   | refine LeO.bind ?_ (fun _ => ?_)
theorem ecdysisref03_Bytes.mono : ∀ a0 k, LeO (ecdysisref03_Bytes.f k a0) (ecdysisref03_Bytes.f (k + 1) a0) := by
 intro a0 k
 have ih0 := ecdysisref03_Bytes.mono_l k
 unfold ecdysisref03_Bytes.f
 repeat' first
   | (with_reducible exact ih0 _ _ _)
   | (with_reducible exact LeO.refl _)
   | (with_reducible exact LeO.none _)
   | (with_reducible refine LeO.ite ?_ ?_)
   | (with_reducible refine LeO.bind ?_ (fun _ => ?_))
   | exact ih0 _ _ _
   | exact LeO.none _
   | refine LeO.ite ?_ ?_
   | refine LeO.bind ?_ (fun _ => ?_)
set_option maxHeartbeats 8000000 in
set_option maxRecDepth 100000 in
theorem ecdysisref03_Bytes.calls (k : Nat) (A0 : Option Addr) (c0 : Nat) (l0 : List (S94)) (r : ByteArray) (w : World) (hr0 : Kd.C k94 w A0 l0.length l0) (hc0 : l0.length ≤ c0) (h : ecdysisref03_Bytes.f k l0 = some r) :
  Calls Tryz.prog 27 #[.slice A0 l0.length c0] w fun e w' => e = .returned (.string r) ∧ Drawn0 w w' := by
 have HR0 := Aside0.mk hr0
 have HC0 := Aside0.mk hc0
 clear hr0 hc0
 have H : (ecdysisref03_Bytes.l0 k l0 (⟨#[]⟩ : ByteArray) 0) = some r := h
 clear h
 have H' := Aside0.mk H
 clear H
 go_enter Tryz.func27, Tryz.ntmps27
 go_wp2
 go_loopg [3, 4] k (fun kq v3 v4 w' => ∃ (x3_1 : ByteArray) (x4_1 : Int), v3 = .string x3_1 ∧ v4 = .int .i64 x4_1 ∧ Aside0 (ecdysisref03_Bytes.l0 kq l0 x3_1 x4_1 = some r) ∧ Aside0 (kq ≤ k) ∧ Drawn0 w w')
 case atStart => exact ⟨((⟨#[]⟩ : ByteArray)), (0), (by first | rfl | (simp; done) | (simp [*]; done)), (by first | rfl | (simp; done) | (simp [*]; done)), H', ⟨Nat.le_refl _⟩, by repeat (first | exact Drawn0.refl _ | apply Drawn0.step)⟩
 case round =>
  clear H'
  obtain ⟨x3_1, x4_1, rfl, rfl, HA, HK1, ⟨m1, rfl⟩⟩ := hrel
  cases gk with
  | zero => exact absurd HA.out (by simp [ecdysisref03_Bytes.l0])
  | succ k1 =>
   have H := HA.out
   clear HA
   simp only [ecdysisref03_Bytes.l0] at H
   by_cases c2 : x4_1 < (l0.length : Int)
   ·rw [if_pos c2] at H
    have c2b0 : decide (x4_1 < (l0.length : Int)) = true := decide_eq_true c2
    clear c2
    by_cases c3 : 0 ≤ x4_1
    ·rw [if_pos c3] at H
     have c3b0 : decide (0 ≤ x4_1) = true := decide_eq_true c3
     clear c3
     by_cases c4 : x3_1.size + ((rd_T94 l0 x4_1).f0).size ≤ 9223372036854775807
     ·rw [if_pos c4] at H
      have c4b0 := eq_true c4
      have c4b1 : decide (x3_1.size + ((rd_T94 l0 x4_1).f0).size ≤ 9223372036854775807) = true := decide_eq_true c4
      try have c4b2 : (9223372036854775807 < x3_1.size + ((rd_T94 l0 x4_1).f0).size) = False := eq_false (Nat.not_lt.2 c4)
      have H' := Aside0.mk H
      clear H
      have p101 : 0 ≤ (x4_1 : Int) := of_decide_eq_true (by first | (with_reducible assumption) | assumption)
      have q101 : x4_1 < (l0.length : Int) := of_decide_eq_true (by first | (with_reducible assumption) | assumption)
      obtain ⟨ad101, e101, hx101_0, hx101_1, hx101_2, hx101_3⟩ := at_T94 HR0.out x4_1 p101 q101
      cases e101
      replace p101 := eq_true p101
      replace q101 := eq_true q101
      go_wp2
      go_roundg k1
      case measure => have := HK1.out; omega
      case rel => exact ⟨(x3_1 ++ ((rd_T94 l0 x4_1).f0)), (wrap64 (x4_1 + 1)), (by first | rfl | (simp; done) | (simp [*]; done)), (by first | rfl | (simp; done) | (simp [*]; done)), H', ⟨by have := HK1.out; omega⟩, by repeat (first | exact Drawn0.refl _ | apply Drawn0.step)⟩
     ·rw [if_neg c4] at H
      exact absurd H (by simp)
    ·rw [if_neg c3] at H
     exact absurd H (by simp)
   ·rw [if_neg c2] at H
    have c2b0 : decide (x4_1 < (l0.length : Int)) = false := decide_eq_false c2
    clear c2
    obtain rfl := Option.some.inj H
    go_wp2
    go_ret
    exact ⟨by first | rfl | (simp; done) | (simp [*]; done), by repeat (first | exact Drawn0.refl _ | apply Drawn0.step)⟩
def ecdysisref03_Inside.f (l0 : List (S94)) (a1 : Int) (a2 : Int) : Option (Int) := if a2 < 0 then (some 1) else (if a1 < 0 then (some 30) else (if a1 > (wrap64 (8 * (l0.length : Int))) then (some 30) else (if a2 > (wrap64 ((wrap64 (8 * (l0.length : Int))) - a1)) then (some 30) else (some 0))))
set_option maxHeartbeats 8000000 in
set_option maxRecDepth 100000 in
theorem ecdysisref03_Inside.calls (A0 : Option Addr) (c0 : Nat) (l0 : List (S94)) (a1 : Int) (a2 : Int) (r : Int) (w : World) (hr0 : Kd.C k94 w A0 l0.length l0) (hc0 : l0.length ≤ c0) (h : ecdysisref03_Inside.f l0 a1 a2 = some r) :
  Calls Tryz.prog 38 #[.slice A0 l0.length c0, .int .i64 a1, .int .i64 a2] w fun e w' => e = .returned (.int .i64 r) ∧ Drawn0 w w' := by
 have HR0 := Aside0.mk hr0
 have HC0 := Aside0.mk hc0
 clear hr0 hc0
 have H : (if a2 < 0 then (some 1) else (if a1 < 0 then (some 30) else (if a1 > (wrap64 (8 * (l0.length : Int))) then (some 30) else (if a2 > (wrap64 ((wrap64 (8 * (l0.length : Int))) - a1)) then (some 30) else (some 0))))) = some r := h
 clear h
 by_cases c4 : a2 < 0
 ·rw [if_pos c4] at H
  have c4b0 : decide (a2 < 0) = true := decide_eq_true c4
  clear c4
  obtain rfl := Option.some.inj H
  go_enter Tryz.func38, Tryz.ntmps38
  go_wp2
  go_ret
  exact ⟨by first | rfl | (simp; done) | (simp [*]; done), by repeat (first | exact Drawn0.refl _ | apply Drawn0.step)⟩
 ·rw [if_neg c4] at H
  have c4b0 : decide (a2 < 0) = false := decide_eq_false c4
  clear c4
  by_cases c5 : a1 < 0
  ·rw [if_pos c5] at H
   have c5b0 : decide (a1 < 0) = true := decide_eq_true c5
   clear c5
   obtain rfl := Option.some.inj H
   go_enter Tryz.func38, Tryz.ntmps38
   go_wp2
   go_ret
   exact ⟨by first | rfl | (simp; done) | (simp [*]; done), by repeat (first | exact Drawn0.refl _ | apply Drawn0.step)⟩
  ·rw [if_neg c5] at H
   have c5b0 : decide (a1 < 0) = false := decide_eq_false c5
   clear c5
   by_cases c6 : a1 > (wrap64 (8 * (l0.length : Int)))
   ·rw [if_pos c6] at H
    have c6b0 : decide ((wrap64 (8 * (l0.length : Int))) < a1) = true := decide_eq_true c6
    clear c6
    obtain rfl := Option.some.inj H
    go_enter Tryz.func38, Tryz.ntmps38
    go_wp2
    go_ret
    exact ⟨by first | rfl | (simp; done) | (simp [*]; done), by repeat (first | exact Drawn0.refl _ | apply Drawn0.step)⟩
   ·rw [if_neg c6] at H
    have c6b0 : decide ((wrap64 (8 * (l0.length : Int))) < a1) = false := decide_eq_false c6
    clear c6
    by_cases c7 : a2 > (wrap64 ((wrap64 (8 * (l0.length : Int))) - a1))
    ·rw [if_pos c7] at H
     have c7b0 : decide ((wrap64 ((wrap64 (8 * (l0.length : Int))) - a1)) < a2) = true := decide_eq_true c7
     clear c7
     obtain rfl := Option.some.inj H
     go_enter Tryz.func38, Tryz.ntmps38
     go_wp2
     go_ret
     exact ⟨by first | rfl | (simp; done) | (simp [*]; done), by repeat (first | exact Drawn0.refl _ | apply Drawn0.step)⟩
    ·rw [if_neg c7] at H
     have c7b0 : decide ((wrap64 ((wrap64 (8 * (l0.length : Int))) - a1)) < a2) = false := decide_eq_false c7
     clear c7
     obtain rfl := Option.some.inj H
     go_enter Tryz.func38, Tryz.ntmps38
     go_wp2
     go_ret
     exact ⟨by first | rfl | (simp; done) | (simp [*]; done), by repeat (first | exact Drawn0.refl _ | apply Drawn0.step)⟩
def ecdysisref03_write.f (l0 : List (S94)) (a1 : Int) (a2 : Int) : Option ((List (S94))) := (some (([] : List (S94)) : List (S94))).bind fun y102 => (if y102.length + l0.length < 3518437208883 then ((some (y102 ++ l0 : List (S94))).bind fun y105 => (if 0 ≤ (wrap64 (Int.tdiv a1 8)) then (if (wrap64 (Int.tdiv a1 8)) < (l0.length : Int) then (if 0 ≤ (Int.tmod a1 8) then (if (Int.tmod a1 8) ≤ (((rd_T94 l0 (wrap64 (Int.tdiv a1 8))).f0).size : Int) then ((some (([a2] : List Int) : List Int)).bind fun y110 => (if (((rd_T94 l0 (wrap64 (Int.tdiv a1 8))).f0).extract 0 ((Int.tmod a1 8) : Int).toNat).size + (strOfNums y110).size ≤ 9223372036854775807 then (if 0 ≤ (wrap64 ((Int.tmod a1 8) + 1)) then (if (wrap64 ((Int.tmod a1 8) + 1)) ≤ (((rd_T94 l0 (wrap64 (Int.tdiv a1 8))).f0).size : Int) then (if ((((rd_T94 l0 (wrap64 (Int.tdiv a1 8))).f0).extract 0 ((Int.tmod a1 8) : Int).toNat) ++ (strOfNums y110)).size + (((rd_T94 l0 (wrap64 (Int.tdiv a1 8))).f0).extract ((wrap64 ((Int.tmod a1 8) + 1)) : Int).toNat ((rd_T94 l0 (wrap64 (Int.tdiv a1 8))).f0).size).size ≤ 9223372036854775807 then (if (wrap64 (Int.tdiv a1 8)) < (y105.length : Int) then (some (y105.set ((wrap64 (Int.tdiv a1 8)) : Int).toNat (⟨((((rd_T94 l0 (wrap64 (Int.tdiv a1 8))).f0).extract 0 ((Int.tmod a1 8) : Int).toNat) ++ (strOfNums y110)) ++ (((rd_T94 l0 (wrap64 (Int.tdiv a1 8))).f0).extract ((wrap64 ((Int.tmod a1 8) + 1)) : Int).toNat ((rd_T94 l0 (wrap64 (Int.tdiv a1 8))).f0).size), (rd_T94 l0 (wrap64 (Int.tdiv a1 8))).f1, true, false⟩ : S94))) else (none)) else (none)) else (none)) else (none)) else (none))) else (none)) else (none)) else (none)) else (none))) else (none))
def ecdysisref03_write.T4 : Bool × List (List Nat × List Nat) := (true, [([], []), ([0], [0]), ([], []), ([1, 2], [1, 2]), ([], []), ([4], [4]), ([5], [5]), ([3, 6], [3, 6]), ([], []), ([8], [8]), ([], []), ([10], [10]), ([9, 11], [9, 11]), ([7, 12], [7, 12]), ([0, 1, 2, 3, 4, 5, 6, 7, 8, 9, 10, 11, 12, 13], []), ([14, 13, 0, 1, 2, 3, 4, 5, 6, 7, 8, 9, 10, 11, 12, 13], [13, 14])])
def ecdysisref03_write.B4 : List Nat := [0, 1, 0, 7, 0, 16, 48, 127, 0, 256, 0, 1024, 3840, 8191, 16383, 32767]
theorem ecdysisref03_write.tab4 : rtab .any (opsOf Tryz.f39 4) = ecdysisref03_write.T4 := by kernel_rfl
theorem ecdysisref03_write.bits4 : waitsOk ecdysisref03_write.T4.2 ecdysisref03_write.B4 = true := by kernel_rfl
set_option maxHeartbeats 8000000 in
set_option maxRecDepth 100000 in
theorem ecdysisref03_write.calls (A0 : Option Addr) (c0 : Nat) (l0 : List (S94)) (a1 : Int) (a2 : Int) (r : List (S94)) (w : World) (hr0 : Kd.C k94 w A0 l0.length l0) (hc0 : l0.length ≤ c0) (h : ecdysisref03_write.f l0 a1 a2 = some r) :
  Calls Tryz.prog 39 #[.slice A0 l0.length c0, .int .i64 a1, .int .u8 a2] w fun e w' => ∃ v0_ : Value, e = .returned (v0_) ∧ Kd.R k94 94 w' w.heap.size (fun _ => True) v0_ r ∧ Below w.heap.size w w' := by
 have hu94 := Tryz.underlying94
 have HR0 := Aside0.mk hr0
 have HC0 := Aside0.mk hc0
 clear hr0 hc0
 have HB := Aside0.mk (Below.refl w.heap.size w)
 have H : ((some (([] : List (S94)) : List (S94))).bind fun y102 => (if y102.length + l0.length < 3518437208883 then ((some (y102 ++ l0 : List (S94))).bind fun y105 => (if 0 ≤ (wrap64 (Int.tdiv a1 8)) then (if (wrap64 (Int.tdiv a1 8)) < (l0.length : Int) then (if 0 ≤ (Int.tmod a1 8) then (if (Int.tmod a1 8) ≤ (((rd_T94 l0 (wrap64 (Int.tdiv a1 8))).f0).size : Int) then ((some (([a2] : List Int) : List Int)).bind fun y110 => (if (((rd_T94 l0 (wrap64 (Int.tdiv a1 8))).f0).extract 0 ((Int.tmod a1 8) : Int).toNat).size + (strOfNums y110).size ≤ 9223372036854775807 then (if 0 ≤ (wrap64 ((Int.tmod a1 8) + 1)) then (if (wrap64 ((Int.tmod a1 8) + 1)) ≤ (((rd_T94 l0 (wrap64 (Int.tdiv a1 8))).f0).size : Int) then (if ((((rd_T94 l0 (wrap64 (Int.tdiv a1 8))).f0).extract 0 ((Int.tmod a1 8) : Int).toNat) ++ (strOfNums y110)).size + (((rd_T94 l0 (wrap64 (Int.tdiv a1 8))).f0).extract ((wrap64 ((Int.tmod a1 8) + 1)) : Int).toNat ((rd_T94 l0 (wrap64 (Int.tdiv a1 8))).f0).size).size ≤ 9223372036854775807 then (if (wrap64 (Int.tdiv a1 8)) < (y105.length : Int) then (some (y105.set ((wrap64 (Int.tdiv a1 8)) : Int).toNat (⟨((((rd_T94 l0 (wrap64 (Int.tdiv a1 8))).f0).extract 0 ((Int.tmod a1 8) : Int).toNat) ++ (strOfNums y110)) ++ (((rd_T94 l0 (wrap64 (Int.tdiv a1 8))).f0).extract ((wrap64 ((Int.tmod a1 8) + 1)) : Int).toNat ((rd_T94 l0 (wrap64 (Int.tdiv a1 8))).f0).size), (rd_T94 l0 (wrap64 (Int.tdiv a1 8))).f1, true, false⟩ : S94))) else (none)) else (none)) else (none)) else (none)) else (none))) else (none)) else (none)) else (none)) else (none))) else (none))) = some r := h
 clear h
 obtain ⟨y102, hy102⟩ : ∃ y_ : List (S94), y_ = (([] : List (S94))) := ⟨_, rfl⟩
 replace H : (if y102.length + l0.length < 3518437208883 then ((some (y102 ++ l0 : List (S94))).bind fun y105 => (if 0 ≤ (wrap64 (Int.tdiv a1 8)) then (if (wrap64 (Int.tdiv a1 8)) < (l0.length : Int) then (if 0 ≤ (Int.tmod a1 8) then (if (Int.tmod a1 8) ≤ (((rd_T94 l0 (wrap64 (Int.tdiv a1 8))).f0).size : Int) then ((some (([a2] : List Int) : List Int)).bind fun y110 => (if (((rd_T94 l0 (wrap64 (Int.tdiv a1 8))).f0).extract 0 ((Int.tmod a1 8) : Int).toNat).size + (strOfNums y110).size ≤ 9223372036854775807 then (if 0 ≤ (wrap64 ((Int.tmod a1 8) + 1)) then (if (wrap64 ((Int.tmod a1 8) + 1)) ≤ (((rd_T94 l0 (wrap64 (Int.tdiv a1 8))).f0).size : Int) then (if ((((rd_T94 l0 (wrap64 (Int.tdiv a1 8))).f0).extract 0 ((Int.tmod a1 8) : Int).toNat) ++ (strOfNums y110)).size + (((rd_T94 l0 (wrap64 (Int.tdiv a1 8))).f0).extract ((wrap64 ((Int.tmod a1 8) + 1)) : Int).toNat ((rd_T94 l0 (wrap64 (Int.tdiv a1 8))).f0).size).size ≤ 9223372036854775807 then (if (wrap64 (Int.tdiv a1 8)) < (y105.length : Int) then (some (y105.set ((wrap64 (Int.tdiv a1 8)) : Int).toNat (⟨((((rd_T94 l0 (wrap64 (Int.tdiv a1 8))).f0).extract 0 ((Int.tmod a1 8) : Int).toNat) ++ (strOfNums y110)) ++ (((rd_T94 l0 (wrap64 (Int.tdiv a1 8))).f0).extract ((wrap64 ((Int.tmod a1 8) + 1)) : Int).toNat ((rd_T94 l0 (wrap64 (Int.tdiv a1 8))).f0).size), (rd_T94 l0 (wrap64 (Int.tdiv a1 8))).f1, true, false⟩ : S94))) else (none)) else (none)) else (none)) else (none)) else (none))) else (none)) else (none)) else (none)) else (none))) else (none)) = some r := by first | (rw [hy102]; with_reducible exact H) | (have H2_ := (Option.bind_some _ _).symm.trans H; rw [hy102]; with_reducible exact H2_) | (have H2_ := (Option.bind_some _ _).symm.trans H; with_reducible exact H2_) | with_reducible exact H | (rw [hy102]; exact H) | exact H
 have Ny102 := Aside0.mk hy102
 clear hy102
 by_cases c4 : y102.length + l0.length < 3518437208883
 ·rw [if_pos c4] at H
  have LMc4 := Aside0.mk c4
  clear c4
  obtain ⟨y105, hy105⟩ : ∃ y_ : List (S94), y_ = (y102 ++ l0) := ⟨_, rfl⟩
  replace H : (if 0 ≤ (wrap64 (Int.tdiv a1 8)) then (if (wrap64 (Int.tdiv a1 8)) < (l0.length : Int) then (if 0 ≤ (Int.tmod a1 8) then (if (Int.tmod a1 8) ≤ (((rd_T94 l0 (wrap64 (Int.tdiv a1 8))).f0).size : Int) then ((some (([a2] : List Int) : List Int)).bind fun y110 => (if (((rd_T94 l0 (wrap64 (Int.tdiv a1 8))).f0).extract 0 ((Int.tmod a1 8) : Int).toNat).size + (strOfNums y110).size ≤ 9223372036854775807 then (if 0 ≤ (wrap64 ((Int.tmod a1 8) + 1)) then (if (wrap64 ((Int.tmod a1 8) + 1)) ≤ (((rd_T94 l0 (wrap64 (Int.tdiv a1 8))).f0).size : Int) then (if ((((rd_T94 l0 (wrap64 (Int.tdiv a1 8))).f0).extract 0 ((Int.tmod a1 8) : Int).toNat) ++ (strOfNums y110)).size + (((rd_T94 l0 (wrap64 (Int.tdiv a1 8))).f0).extract ((wrap64 ((Int.tmod a1 8) + 1)) : Int).toNat ((rd_T94 l0 (wrap64 (Int.tdiv a1 8))).f0).size).size ≤ 9223372036854775807 then (if (wrap64 (Int.tdiv a1 8)) < (y105.length : Int) then (some (y105.set ((wrap64 (Int.tdiv a1 8)) : Int).toNat (⟨((((rd_T94 l0 (wrap64 (Int.tdiv a1 8))).f0).extract 0 ((Int.tmod a1 8) : Int).toNat) ++ (strOfNums y110)) ++ (((rd_T94 l0 (wrap64 (Int.tdiv a1 8))).f0).extract ((wrap64 ((Int.tmod a1 8) + 1)) : Int).toNat ((rd_T94 l0 (wrap64 (Int.tdiv a1 8))).f0).size), (rd_T94 l0 (wrap64 (Int.tdiv a1 8))).f1, true, false⟩ : S94))) else (none)) else (none)) else (none)) else (none)) else (none))) else (none)) else (none)) else (none)) else (none)) = some r := by first | (rw [hy105]; with_reducible exact H) | (have H2_ := (Option.bind_some _ _).symm.trans H; rw [hy105]; with_reducible exact H2_) | (have H2_ := (Option.bind_some _ _).symm.trans H; with_reducible exact H2_) | with_reducible exact H | (rw [hy105]; exact H) | exact H
  have Ny105 := Aside0.mk hy105
  clear hy105
  obtain ⟨ji5, hji5⟩ : ∃ j_ : Int, (wrap64 (Int.tdiv a1 8)) = j_ := ⟨_, rfl⟩
  replace H : (if 0 ≤ (ji5) then (if (ji5) < (l0.length : Int) then (if 0 ≤ (Int.tmod a1 8) then (if (Int.tmod a1 8) ≤ (((rd_T94 l0 (ji5)).f0).size : Int) then ((some (([a2] : List Int) : List Int)).bind fun y110 => (if (((rd_T94 l0 (ji5)).f0).extract 0 ((Int.tmod a1 8) : Int).toNat).size + (strOfNums y110).size ≤ 9223372036854775807 then (if 0 ≤ (wrap64 ((Int.tmod a1 8) + 1)) then (if (wrap64 ((Int.tmod a1 8) + 1)) ≤ (((rd_T94 l0 (ji5)).f0).size : Int) then (if ((((rd_T94 l0 (ji5)).f0).extract 0 ((Int.tmod a1 8) : Int).toNat) ++ (strOfNums y110)).size + (((rd_T94 l0 (ji5)).f0).extract ((wrap64 ((Int.tmod a1 8) + 1)) : Int).toNat ((rd_T94 l0 (ji5)).f0).size).size ≤ 9223372036854775807 then (if (ji5) < (y105.length : Int) then (some (y105.set ((ji5) : Int).toNat (⟨((((rd_T94 l0 (ji5)).f0).extract 0 ((Int.tmod a1 8) : Int).toNat) ++ (strOfNums y110)) ++ (((rd_T94 l0 (ji5)).f0).extract ((wrap64 ((Int.tmod a1 8) + 1)) : Int).toNat ((rd_T94 l0 (ji5)).f0).size), (rd_T94 l0 (ji5)).f1, true, false⟩ : S94))) else (none)) else (none)) else (none)) else (none)) else (none))) else (none)) else (none)) else (none)) else (none)) = some r := by first | (rw [hji5] at H; exact H) | (simp only [hji5] at H ⊢; exact H)
  have hji5w : (IntKind.i64.wrap (Int.tdiv a1 8)) = ji5 := (i64_w _).trans hji5
  by_cases c6 : 0 ≤ (ji5)
  ·rw [if_pos c6] at H
   have c6b0 : decide (0 ≤ (ji5)) = true := decide_eq_true c6
   clear c6
   by_cases c7 : (ji5) < (l0.length : Int)
   ·rw [if_pos c7] at H
    have c7b0 : decide ((ji5) < (l0.length : Int)) = true := decide_eq_true c7
    clear c7
    obtain ⟨ji8, hji8⟩ : ∃ j_ : Int, (Int.tmod a1 8) = j_ := ⟨_, rfl⟩
    replace H : (if 0 ≤ (ji8) then (if (ji8) ≤ (((rd_T94 l0 (ji5)).f0).size : Int) then ((some (([a2] : List Int) : List Int)).bind fun y110 => (if (((rd_T94 l0 (ji5)).f0).extract 0 ((ji8) : Int).toNat).size + (strOfNums y110).size ≤ 9223372036854775807 then (if 0 ≤ (wrap64 ((ji8) + 1)) then (if (wrap64 ((ji8) + 1)) ≤ (((rd_T94 l0 (ji5)).f0).size : Int) then (if ((((rd_T94 l0 (ji5)).f0).extract 0 ((ji8) : Int).toNat) ++ (strOfNums y110)).size + (((rd_T94 l0 (ji5)).f0).extract ((wrap64 ((ji8) + 1)) : Int).toNat ((rd_T94 l0 (ji5)).f0).size).size ≤ 9223372036854775807 then (if (ji5) < (y105.length : Int) then (some (y105.set ((ji5) : Int).toNat (⟨((((rd_T94 l0 (ji5)).f0).extract 0 ((ji8) : Int).toNat) ++ (strOfNums y110)) ++ (((rd_T94 l0 (ji5)).f0).extract ((wrap64 ((ji8) + 1)) : Int).toNat ((rd_T94 l0 (ji5)).f0).size), (rd_T94 l0 (ji5)).f1, true, false⟩ : S94))) else (none)) else (none)) else (none)) else (none)) else (none))) else (none)) else (none)) = some r := by first | (rw [hji8] at H; exact H) | (simp only [hji8] at H ⊢; exact H)
    by_cases c9 : 0 ≤ (ji8)
    ·rw [if_pos c9] at H
     have c9b0 := eq_true c9
     have c9b1 : decide (0 ≤ (ji8)) = true := decide_eq_true c9
     clear c9
     by_cases c10 : (ji8) ≤ (((rd_T94 l0 (ji5)).f0).size : Int)
     ·rw [if_pos c10] at H
      have c10b0 := eq_true c10
      have c10b1 : decide ((ji8) ≤ (((rd_T94 l0 (ji5)).f0).size : Int)) = true := decide_eq_true c10
      clear c10
      obtain ⟨y110, hy110⟩ : ∃ y_ : List Int, y_ = (([a2] : List Int)) := ⟨_, rfl⟩
      replace H : (if (((rd_T94 l0 (ji5)).f0).extract 0 ((ji8) : Int).toNat).size + (strOfNums y110).size ≤ 9223372036854775807 then (if 0 ≤ (wrap64 ((ji8) + 1)) then (if (wrap64 ((ji8) + 1)) ≤ (((rd_T94 l0 (ji5)).f0).size : Int) then (if ((((rd_T94 l0 (ji5)).f0).extract 0 ((ji8) : Int).toNat) ++ (strOfNums y110)).size + (((rd_T94 l0 (ji5)).f0).extract ((wrap64 ((ji8) + 1)) : Int).toNat ((rd_T94 l0 (ji5)).f0).size).size ≤ 9223372036854775807 then (if (ji5) < (y105.length : Int) then (some (y105.set ((ji5) : Int).toNat (⟨((((rd_T94 l0 (ji5)).f0).extract 0 ((ji8) : Int).toNat) ++ (strOfNums y110)) ++ (((rd_T94 l0 (ji5)).f0).extract ((wrap64 ((ji8) + 1)) : Int).toNat ((rd_T94 l0 (ji5)).f0).size), (rd_T94 l0 (ji5)).f1, true, false⟩ : S94))) else (none)) else (none)) else (none)) else (none)) else (none)) = some r := by first | (rw [hy110]; with_reducible exact H) | (have H2_ := (Option.bind_some _ _).symm.trans H; rw [hy110]; with_reducible exact H2_) | (have H2_ := (Option.bind_some _ _).symm.trans H; with_reducible exact H2_) | with_reducible exact H | (rw [hy110]; exact H) | exact H
      have Ny110 := Aside0.mk hy110
      clear hy110
      by_cases c11 : (((rd_T94 l0 (ji5)).f0).extract 0 ((ji8) : Int).toNat).size + (strOfNums y110).size ≤ 9223372036854775807
      ·rw [if_pos c11] at H
       have c11b0 := eq_true c11
       have c11b1 : decide ((((rd_T94 l0 (ji5)).f0).extract 0 ((ji8) : Int).toNat).size + (strOfNums y110).size ≤ 9223372036854775807) = true := decide_eq_true c11
       try have c11b2 : (9223372036854775807 < (((rd_T94 l0 (ji5)).f0).extract 0 ((ji8) : Int).toNat).size + (strOfNums y110).size) = False := eq_false (Nat.not_lt.2 c11)
       obtain ⟨ji12, hji12⟩ : ∃ j_ : Int, (wrap64 ((ji8) + 1)) = j_ := ⟨_, rfl⟩
       replace H : (if 0 ≤ (ji12) then (if (ji12) ≤ (((rd_T94 l0 (ji5)).f0).size : Int) then (if ((((rd_T94 l0 (ji5)).f0).extract 0 ((ji8) : Int).toNat) ++ (strOfNums y110)).size + (((rd_T94 l0 (ji5)).f0).extract ((ji12) : Int).toNat ((rd_T94 l0 (ji5)).f0).size).size ≤ 9223372036854775807 then (if (ji5) < (y105.length : Int) then (some (y105.set ((ji5) : Int).toNat (⟨((((rd_T94 l0 (ji5)).f0).extract 0 ((ji8) : Int).toNat) ++ (strOfNums y110)) ++ (((rd_T94 l0 (ji5)).f0).extract ((ji12) : Int).toNat ((rd_T94 l0 (ji5)).f0).size), (rd_T94 l0 (ji5)).f1, true, false⟩ : S94))) else (none)) else (none)) else (none)) else (none)) = some r := by first | (rw [hji12] at H; exact H) | (simp only [hji12] at H ⊢; exact H)
       have hji12w : (IntKind.i64.wrap ((ji8) + 1)) = ji12 := (i64_w _).trans hji12
       by_cases c13 : 0 ≤ (ji12)
       ·rw [if_pos c13] at H
        have c13b0 := eq_true c13
        have c13b1 : decide (0 ≤ (ji12)) = true := decide_eq_true c13
        clear c13
        by_cases c14 : (ji12) ≤ (((rd_T94 l0 (ji5)).f0).size : Int)
        ·rw [if_pos c14] at H
         have c14b0 := eq_true c14
         have c14b1 : decide ((ji12) ≤ (((rd_T94 l0 (ji5)).f0).size : Int)) = true := decide_eq_true c14
         clear c14
         by_cases c15 : ((((rd_T94 l0 (ji5)).f0).extract 0 ((ji8) : Int).toNat) ++ (strOfNums y110)).size + (((rd_T94 l0 (ji5)).f0).extract ((ji12) : Int).toNat ((rd_T94 l0 (ji5)).f0).size).size ≤ 9223372036854775807
         ·rw [if_pos c15] at H
          have c15b0 := eq_true c15
          have c15b1 : decide (((((rd_T94 l0 (ji5)).f0).extract 0 ((ji8) : Int).toNat) ++ (strOfNums y110)).size + (((rd_T94 l0 (ji5)).f0).extract ((ji12) : Int).toNat ((rd_T94 l0 (ji5)).f0).size).size ≤ 9223372036854775807) = true := decide_eq_true c15
          try have c15b2 : (9223372036854775807 < ((((rd_T94 l0 (ji5)).f0).extract 0 ((ji8) : Int).toNat) ++ (strOfNums y110)).size + (((rd_T94 l0 (ji5)).f0).extract ((ji12) : Int).toNat ((rd_T94 l0 (ji5)).f0).size).size) = False := eq_false (Nat.not_lt.2 c15)
          have fx1_ : (9223372036854775807 < (ji8).toNat + (strOfNums y110).size) = False := eq_false (by have h1_ := c11; have h5_ := c15; have h2_ := of_decide_eq_true c10b1; have h3_ := of_decide_eq_true c9b1; have h4_ := of_decide_eq_true c13b1; simp only [ByteArray.size_append, ByteArray.size_extract] at h1_ h5_; omega)
          have fx2_ : (9223372036854775807 < (ji8).toNat + (strOfNums y110).size + (((rd_T94 l0 (ji5)).f0).size - (ji12).toNat)) = False := eq_false (by have h1_ := c11; have h5_ := c15; have h2_ := of_decide_eq_true c10b1; have h3_ := of_decide_eq_true c9b1; have h4_ := of_decide_eq_true c13b1; simp only [ByteArray.size_append, ByteArray.size_extract] at h1_ h5_; omega)
          by_cases c16 : (ji5) < (y105.length : Int)
          ·rw [if_pos c16] at H
           have c16b0 : decide ((ji5) < (y105.length : Int)) = true := decide_eq_true c16
           clear c16
           obtain ⟨y113, hy113⟩ : ∃ y_ : List (S94), y_ = (y105.set ((ji5) : Int).toNat (⟨((((rd_T94 l0 (ji5)).f0).extract 0 ((ji8) : Int).toNat) ++ (strOfNums y110)) ++ (((rd_T94 l0 (ji5)).f0).extract ((ji12) : Int).toNat ((rd_T94 l0 (ji5)).f0).size), (rd_T94 l0 (ji5)).f1, true, false⟩ : S94)) := ⟨_, rfl⟩
           replace H : (some y113) = some r := by first | (rw [hy113]; with_reducible exact H) | (have H2_ := (Option.bind_some _ _).symm.trans H; rw [hy113]; with_reducible exact H2_) | (have H2_ := (Option.bind_some _ _).symm.trans H; with_reducible exact H2_) | with_reducible exact H | (rw [hy113]; exact H) | exact H
           have Ny113 := Aside0.mk hy113
           clear hy113
           obtain rfl := Option.some.inj H
           go_enter Tryz.func39, Tryz.ntmps39
           try go_wp2_with (first | ((with_reducible refine gate_dst (N := 10) rfl ?_); refine Kd.R_lit k94 _ 94 ?hg (N := 10) ?hd (xs := ([] : List (S94))) (inner := []) (ok := fun _ => True) (okp := fun _ => True) ?hr ?hp (fun _ hk => hk) trivial (Below.refl _ _) (Nat.le_refl _) (by simp) ?_; (case hd => rfl); (case hg => rfl); (case hr => first | (go_simp; done) | (go_simp; rfl)); (case hp => exact (Reps.none _ _)); intro v103 w18 ho19 hb hg_ hnew_; clear hg_ hnew_; (first | rw [← Ny102.out] at ho19 | (simp only [Int.reduceToNat] at ho19; rw [← Ny102.out] at ho19)); have n0_ := Aside0.mk (Kd.R_lower ho19 (below_size (by repeat (first | (with_reducible first | exact HB.out | apply below_alloc | apply pw_below_drewN | apply below_drew1) | exact HB.out)))); have n1_ := Aside0.mk (below_step (by repeat (first | (with_reducible first | exact HB.out | apply below_alloc | apply pw_below_drewN | apply below_drew1) | exact HB.out)) hb); clear HB; have HO104 := n0_; have HB := n1_; clear n0_ n1_; clear hb ho19) | ((with_reducible refine gate_builtin (b := .append) (xs := #[.tmp 10, .tmp 11]) rfl ?_); at_builtin; refine Kd.R_append_rows k94 (w0 := w) w.heap.size rfl (.tmp 10) (.tmp 11) 30 94 (.agg #[(.string ⟨#[]⟩), (.string ⟨#[]⟩), (.bool false), (.bool false)]) 40 rfl Tryz.underlying30 info94 rfl (by decide) (by omega) v103 y102 l0 _ _ _ (fun _ => True) (fun _ => False) rfl rfl ?aO ?aR (fun _ _ h => h) (fun _ h => h.elim) ?aF ?aB ?aS ?aL ?_; (case aR => repeat (first | exact (Kd.C_below HR0.out HB.out) | (with_reducible refine Kd.C_alloc ?_ _) | (with_reducible refine Kd.C_drewN ?_ _) | (with_reducible refine Kd.C_drew ?_))); (case aB => exact (by repeat (first | (with_reducible first | exact HB.out | apply below_alloc | apply pw_below_drewN | apply below_drew1) | exact HB.out))); (case aF => exact (fun _ _ => trivial)); (case aO => exact (by (with_reducible repeat (first | apply Kd.R_alloc | apply Kd.R_drewN | apply Kd.R_drew)); exact HO104.out)); (case aS => exact (below_size (by repeat (first | (with_reducible first | exact HB.out | apply below_alloc | apply pw_below_drewN | apply below_drew1) | exact HB.out)))); (case aL => have := LMc4.out; omega); intro v106 w20 ho hb hg hat; rw [← Ny105.out] at ho; have n0_ := Aside0.mk (hb); have n1_ := Aside0.mk (ho); clear HB; clear HO104; have HB := n0_; have HO107 := n1_; clear n0_ n1_; clear ho hb hg hat; have p108 : 0 ≤ ((ji5) : Int) := of_decide_eq_true (by first | (with_reducible assumption) | assumption); have q108 : (ji5) < (l0.length : Int) := of_decide_eq_true (by first | (with_reducible assumption) | assumption); obtain ⟨ad108, e108, hx108_0, hx108_1, hx108_2, hx108_3⟩ := at_T94 HR0.out (ji5) p108 q108; cases e108; replace hx108_0 := (HB.out.cell (World.block_lt_of_cell? w _ hx108_0)).trans hx108_0; replace hx108_1 := (HB.out.cell (World.block_lt_of_cell? w _ hx108_1)).trans hx108_1; replace hx108_2 := (HB.out.cell (World.block_lt_of_cell? w _ hx108_2)).trans hx108_2; replace hx108_3 := (HB.out.cell (World.block_lt_of_cell? w _ hx108_3)).trans hx108_3; replace p108 := eq_true p108; replace q108 := eq_true q108) | ((with_reducible refine gate_dst (N := 8) rfl ?_); refine box_event ?hg (N := 8) ?hd (cs := #[.string (⟨#[]⟩ : ByteArray), .string (⟨#[]⟩ : ByteArray), .bool false, .bool false]) (t := 94) ?hr ?_; (case hd => rfl); (case hg => rfl); (case hr => first | (go_simp; done) | (go_simp; rfl)); intro gb109 hg w21 hbox hb; have n0_ := Aside0.mk (Kd.R_below (Kd.R_elderB (by (with_reducible repeat (first | apply Kd.R_alloc | apply Kd.R_drewN | apply Kd.R_drew)); exact HO107.out) gb109 (Nat.le_of_eq hg.symm)) hb); have n1_ := Aside0.mk (below_step (by repeat (first | (with_reducible first | exact HB.out | apply below_alloc | apply pw_below_drewN | apply below_drew1) | exact HB.out)) hb); have n2_ := Aside0.mk (hbox); have n3_ := Aside0.mk ((by rw [hg]; exact (below_size (by repeat (first | (with_reducible first | exact HB.out | apply below_alloc | apply pw_below_drewN | apply below_drew1) | exact HB.out))) : w.heap.size ≤ gb109)); have n4_ := Aside0.mk ((by rw [hg]; exact (below_size (by repeat (first | (with_reducible first | exact HB.out | apply below_alloc | apply pw_below_drewN | apply below_drew1) | exact HB.out))) : w.heap.size ≤ gb109)); clear HO107; clear HB; have HO107 := n0_; have HB := n1_; have BK109 := n2_; have GW109 := n3_; have GE109 := n4_; clear n0_ n1_ n2_ n3_ n4_; clear hb hbox hg; have hcz22_0 : w21.cell? ⟨gb109, 0, none⟩ = some (.string (⟨#[]⟩ : ByteArray)) := (blk_cell BK109.out 0).trans rfl; have hcz22_1 : w21.cell? ⟨gb109, 1, none⟩ = some (.string (⟨#[]⟩ : ByteArray)) := (blk_cell BK109.out 1).trans rfl; have hcz22_2 : w21.cell? ⟨gb109, 2, none⟩ = some (.bool false) := (blk_cell BK109.out 2).trans rfl; have hcz22_3 : w21.cell? ⟨gb109, 3, none⟩ = some (.bool false) := (blk_cell BK109.out 3).trans rfl; have hfz22_0 := blk_frozen BK109.out 0; have hfz22_1 := blk_frozen BK109.out 1; have hfz22_2 := blk_frozen BK109.out 2; have hfz22_3 := blk_frozen BK109.out 3))
           have n0_ : Aside0 (Kd.R k94 94 ((((w21.setCell ⟨gb109, 0, none⟩ (.string ((rd_T94 l0 (ji5)).f0))).setCell ⟨gb109, 1, none⟩ (.string ((rd_T94 l0 (ji5)).f1))).setCell ⟨gb109, 2, none⟩ (.bool ((rd_T94 l0 (ji5)).f2))).setCell ⟨gb109, 3, none⟩ (.bool ((rd_T94 l0 (ji5)).f3))) w.heap.size (fun k_ => k_ ≠ gb109) v106 y105) := ⟨by (with_reducible repeat (first | apply Kd.R_alloc | apply Kd.R_drewN | apply Kd.R_drew)); exact Kd.R_mono (Kd.R_far (p := ⟨gb109, 3, none⟩) (Kd.R_far (p := ⟨gb109, 2, none⟩) (Kd.R_far (p := ⟨gb109, 1, none⟩) (Kd.R_far (p := ⟨gb109, 0, none⟩) (Kd.R_mono HO107.out (fun k_ hk => (⟨hk, hk.2⟩ : _ ∧ k_ ≠ gb109))) (fun _ hk => hk.2) (.string ((rd_T94 l0 (ji5)).f0))) (fun _ hk => hk.2) (.string ((rd_T94 l0 (ji5)).f1))) (fun _ hk => hk.2) (.bool ((rd_T94 l0 (ji5)).f2))) (fun _ hk => hk.2) (.bool ((rd_T94 l0 (ji5)).f3))) (fun _ hk => hk.1.2)⟩
           have n1_ : Aside0 (((((w21.setCell ⟨gb109, 0, none⟩ (.string ((rd_T94 l0 (ji5)).f0))).setCell ⟨gb109, 1, none⟩ (.string ((rd_T94 l0 (ji5)).f1))).setCell ⟨gb109, 2, none⟩ (.bool ((rd_T94 l0 (ji5)).f2))).setCell ⟨gb109, 3, none⟩ (.bool ((rd_T94 l0 (ji5)).f3))).heap[gb109]? = some (.cells #[.string ((rd_T94 l0 (ji5)).f0), .string ((rd_T94 l0 (ji5)).f1), .bool ((rd_T94 l0 (ji5)).f2), .bool ((rd_T94 l0 (ji5)).f3)] 94 (0, 0))) := ⟨by (with_reducible repeat (first | refine blk_drewN ?_ _ | refine blk_drew ?_ | refine blk_alloc ?_ _)); refine blk_put (cs := #[.string ((rd_T94 l0 (ji5)).f0), .string ((rd_T94 l0 (ji5)).f1), .bool ((rd_T94 l0 (ji5)).f2), .bool false]) ?_ 3 _ rfl; (with_reducible repeat (first | refine blk_drewN ?_ _ | refine blk_drew ?_ | refine blk_alloc ?_ _)); refine blk_put (cs := #[.string ((rd_T94 l0 (ji5)).f0), .string ((rd_T94 l0 (ji5)).f1), .bool false, .bool false]) ?_ 2 _ rfl; (with_reducible repeat (first | refine blk_drewN ?_ _ | refine blk_drew ?_ | refine blk_alloc ?_ _)); refine blk_put (cs := #[.string ((rd_T94 l0 (ji5)).f0), .string (⟨#[]⟩ : ByteArray), .bool false, .bool false]) ?_ 1 _ rfl; (with_reducible repeat (first | refine blk_drewN ?_ _ | refine blk_drew ?_ | refine blk_alloc ?_ _)); refine blk_put (cs := #[.string (⟨#[]⟩ : ByteArray), .string (⟨#[]⟩ : ByteArray), .bool false, .bool false]) ?_ 0 _ rfl; (with_reducible repeat (first | refine blk_drewN ?_ _ | refine blk_drew ?_ | refine blk_alloc ?_ _)); exact BK109.out⟩
           have n2_ : Aside0 (Below w.heap.size w ((((w21.setCell ⟨gb109, 0, none⟩ (.string ((rd_T94 l0 (ji5)).f0))).setCell ⟨gb109, 1, none⟩ (.string ((rd_T94 l0 (ji5)).f1))).setCell ⟨gb109, 2, none⟩ (.bool ((rd_T94 l0 (ji5)).f2))).setCell ⟨gb109, 3, none⟩ (.bool ((rd_T94 l0 (ji5)).f3)))) := ⟨by repeat (first | (with_reducible first | exact HB.out | apply below_alloc | apply pw_below_drewN | apply below_drew1 | refine below_set ?_ GE109.out) | exact HB.out)⟩
           (try clear HO107)
           (try clear BK109)
           (try clear HB)
           generalize ((((w21.setCell ⟨gb109, 0, none⟩ (.string ((rd_T94 l0 (ji5)).f0))).setCell ⟨gb109, 1, none⟩ (.string ((rd_T94 l0 (ji5)).f1))).setCell ⟨gb109, 2, none⟩ (.bool ((rd_T94 l0 (ji5)).f2))).setCell ⟨gb109, 3, none⟩ (.bool ((rd_T94 l0 (ji5)).f3))) = w23 at n0_ n1_ n2_ ⊢
           have HO107 := n0_
           have BK109 := n1_
           have HB := n2_
           clear n0_ n1_ n2_
           have n0_ := Aside0.mk (Kd.R_drew HO107.out)
           have n1_ := Aside0.mk (blk_drew BK109.out)
           have n2_ := Aside0.mk (below_drew1 HB.out)
           clear HO107
           clear BK109
           clear HB
           have HO107 := n0_
           have BK109 := n1_
           have HB := n2_
           clear n0_ n1_ n2_
           refine start_ (n := 16) (S := fun w' => w'.cell? ⟨gb109, 0, none⟩ = some (.string ((rd_T94 l0 (ji5)).f0)) ∧ w'.cell? ⟨gb109, 1, none⟩ = some (.string ((rd_T94 l0 (ji5)).f1)) ∧ w'.cell? ⟨gb109, 2, none⟩ = some (.bool ((rd_T94 l0 (ji5)).f2)) ∧ w'.cell? ⟨gb109, 3, none⟩ = some (.bool ((rd_T94 l0 (ji5)).f3))) (ds := [15]) #[false, false, false, false, false, false, false, false, false, false, false, false, false, false, false, false] (by kernel_rfl) rfl rfl ⟨(blk_cell BK109.out 0).trans rfl, (blk_cell BK109.out 1).trans rfl, (blk_cell BK109.out 2).trans rfl, (blk_cell BK109.out 3).trans rfl⟩ (fun hHeld => ?_); refine with_tabW ecdysisref03_write.tab4 ecdysisref03_write.bits4 (fun HT_ HW_ => ?_)
           generalize w23.drew = w24 at HO107 BK109 HB hHeld ⊢
           refine pure_ (i := 0) (N := some 20) (v := ?_) (a' := ?_) #[true, false, false, false, false, false, false, false, false, false, false, false, false, false, false, false] rfl rfl (any_of HT_.out (by kernel_rfl)) (fun _ _ _ h => h) (Or.inl ⟨by rfl, ?_⟩) ?_ ?_
           rotate_left
           ·intro w'
            go_simp
            with_reducible rfl
           rotate_left
           ·simp only [Act.put, List.setIfInBounds_toArray, List.set_cons_zero, List.set_cons_succ, i64_w, i32_w]
            rfl
           refine pure_ (i := 2) (N := some 22) (v := ?_) (a' := ?_) #[true, false, true, false, false, false, false, false, false, false, false, false, false, false, false, false] rfl rfl (any_of HT_.out (by kernel_rfl)) (fun _ _ _ h => h) (Or.inl ⟨by rfl, ?_⟩) ?_ ?_
           rotate_left
           ·intro w'
            go_simp
            with_reducible rfl
           rotate_left
           ·simp only [Act.put, List.setIfInBounds_toArray, List.set_cons_zero, List.set_cons_succ, i64_w, i32_w]
            rfl
           refine pure_ (i := 4) (N := some 24) (v := ?_) (a' := ?_) #[true, false, true, false, true, false, false, false, false, false, false, false, false, false, false, false] rfl rfl (any_of HT_.out (by kernel_rfl)) (fun _ _ _ h => h) (Or.inl ⟨by rfl, ?_⟩) ?_ ?_
           rotate_left
           ·intro w'
            go_simp
            with_reducible rfl
           rotate_left
           ·simp only [Act.put, List.setIfInBounds_toArray, List.set_cons_zero, List.set_cons_succ, i64_w, i32_w]
            rfl
           refine pure_ (i := 8) (N := some 28) (v := ?_) (a' := ?_) #[true, false, true, false, true, false, false, false, true, false, false, false, false, false, false, false] rfl rfl (any_of HT_.out (by kernel_rfl)) (fun _ _ _ h => h) (Or.inl ⟨by rfl, ?_⟩) ?_ ?_
           rotate_left
           ·intro w'
            go_simp
            with_reducible rfl
           rotate_left
           ·simp only [Act.put, List.setIfInBounds_toArray, List.set_cons_zero, List.set_cons_succ, i64_w, i32_w]
            rfl
           refine pure_ (i := 10) (N := some 30) (v := ?_) (a' := ?_) #[true, false, true, false, true, false, false, false, true, false, true, false, false, false, false, false] rfl rfl (any_of HT_.out (by kernel_rfl)) (fun _ _ _ h => h) (Or.inl ⟨by rfl, ?_⟩) ?_ ?_
           rotate_left
           ·intro w'
            go_simp
            with_reducible rfl
           rotate_left
           ·simp only [Act.put, List.setIfInBounds_toArray, List.set_cons_zero, List.set_cons_succ, i64_w, i32_w]
            rfl
           refine pure_ (i := 11) (N := some 31) (v := ?_) (a' := ?_) #[true, false, true, false, true, false, false, false, true, false, true, true, false, false, false, false] rfl rfl (any_of HT_.out (by kernel_rfl)) (fun _ _ _ h => h) (Or.inl ⟨by rfl, ?_⟩) ?_ ?_
           rotate_left
           ·intro w'
            go_simp
            with_reducible rfl
           rotate_left
           ·simp only [Act.put, List.setIfInBounds_toArray, List.set_cons_zero, List.set_cons_succ, i64_w, i32_w]
            rfl
           refine take_ (i := 1) (N := some 21) (v := ?_) (a' := ?_) #[true, true, true, false, true, false, false, false, true, false, true, true, false, false, false, false] rfl rfl (take_ofW HT_.out HW_.out (by kernel_rfl)) (fun _ _ _ h => h) (Or.inl ⟨by rfl, ?_⟩) hHeld ?_ ?_
           rotate_left
           ·rintro w' ⟨s0, s1, s2, s3⟩
            go_simp
            with_reducible rfl
           rotate_left
           ·simp only [Act.put, List.setIfInBounds_toArray, List.set_cons_zero, List.set_cons_succ, i64_w, i32_w]
            rfl
           refine pure_ (i := 3) (N := some 23) (v := ?_) (a' := ?_) #[true, true, true, true, true, false, false, false, true, false, true, true, false, false, false, false] rfl rfl (any_of HT_.out (by kernel_rfl)) (fun _ _ _ h => h) (Or.inl ⟨by rfl, ?_⟩) ?_ ?_
           rotate_left
           ·intro w'
            go_simp
            with_reducible rfl
           rotate_left
           ·simp only [Act.put, List.setIfInBounds_toArray, List.set_cons_zero, List.set_cons_succ, i64_w, i32_w]
            rfl
           refine take_ (i := 9) (N := some 29) (v := ?_) (a' := ?_) #[true, true, true, true, true, false, false, false, true, true, true, true, false, false, false, false] rfl rfl (take_ofW HT_.out HW_.out (by kernel_rfl)) (fun _ _ _ h => h) (Or.inl ⟨by rfl, ?_⟩) hHeld ?_ ?_
           rotate_left
           ·rintro w' ⟨s0, s1, s2, s3⟩
            go_simp
            with_reducible rfl
           rotate_left
           ·simp only [Act.put, List.setIfInBounds_toArray, List.set_cons_zero, List.set_cons_succ, i64_w, i32_w]
            rfl
           refine pure_ (i := 12) (N := some 32) (v := ?_) (a' := ?_) #[true, true, true, true, true, false, false, false, true, true, true, true, true, false, false, false] rfl rfl (any_of HT_.out (by kernel_rfl)) (fun _ _ _ h => h) (Or.inl ⟨by rfl, ?_⟩) ?_ ?_
           rotate_left
           ·intro w'
            go_simp
            with_reducible rfl
           rotate_left
           ·simp only [Act.put, List.setIfInBounds_toArray, List.set_cons_zero, List.set_cons_succ, i64_w, i32_w]
            rfl
           refine one_ (i := 5) (N := some 25) #[true, true, true, true, true, true, false, false, true, true, true, true, true, false, false, false] rfl rfl (one_of HT_.out (by kernel_rfl)) (by decide) (fun K hK => ?_)
           refine Kd.R_lit_step (Kd.int .u8) _ 5 ?hg (N := 25) ?hd (xs := ([a2] : List Int)) (inner := [.int .u8 a2]) (ok := fun _ => True) (okp := fun _ => True) ?hr ?hp (fun _ hk => hk) trivial (Below.refl _ _) (Nat.le_refl _) (by simp) ?_; (case hd => rfl); (case hg => rfl); (case hr => first | (go_simp; done) | (go_simp; rfl)); (case hp => exact (Reps.one (show Kd.M (Kd.int .u8) _ _ _ a2 [.int .u8 a2] from rfl) (Reps.none _ _)))
           intro v111 w25 ho26 hb hg_ hnew_
           clear hg_ hnew_
           (first | rw [← Ny110.out] at ho26 | (simp only [Int.reduceToNat] at ho26; rw [← Ny110.out] at ho26))
           have n0_ := Aside0.mk (Kd.R_below (by (with_reducible repeat (first | apply Kd.R_alloc | apply Kd.R_drewN | apply Kd.R_drew)); exact HO107.out) hb)
           have n1_ := Aside0.mk (Kd.R_lower ho26 (below_size (by repeat (first | (with_reducible first | exact HB.out | apply below_alloc | apply pw_below_drewN | apply below_drew1 | refine below_set ?_ GE109.out) | exact HB.out))))
           have n2_ := Aside0.mk (blk_below (g := gb109) (o := .cells #[.string ((rd_T94 l0 (ji5)).f0), .string ((rd_T94 l0 (ji5)).f1), .bool ((rd_T94 l0 (ji5)).f2), .bool ((rd_T94 l0 (ji5)).f3)] 94 (0, 0)) (by (with_reducible repeat (first | refine blk_drewN ?_ _ | refine blk_drew ?_ | refine blk_alloc ?_ _)); exact BK109.out) hb)
           have n3_ := Aside0.mk (below_step (by repeat (first | (with_reducible first | exact HB.out | apply below_alloc | apply pw_below_drewN | apply below_drew1 | refine below_set ?_ GE109.out) | exact HB.out)) hb)
           clear HO107
           clear BK109
           clear HB
           have HO107 := n0_
           have HO112 := n1_
           have BK109 := n2_
           have HB := n3_
           clear n0_ n1_ n2_ n3_
           clear hb ho26
           refine hK.out _ _ ⟨(blk_cell BK109.out 0).trans rfl, (blk_cell BK109.out 1).trans rfl, (blk_cell BK109.out 2).trans rfl, (blk_cell BK109.out 3).trans rfl⟩ (fun hHeld => ?_)
           clear hK K
           refine norm_ (a' := ?_) ?_ ?_
           rotate_left
           ·show Act.put _ (some 25) _ = _
            simp only [Act.put, List.setIfInBounds_toArray, List.set_cons_zero, List.set_cons_succ, i64_w, i32_w]
            rfl
           refine one_ (i := 6) (N := some 26) #[true, true, true, true, true, true, true, false, true, true, true, true, true, false, false, false] rfl rfl (one_of HT_.out (by kernel_rfl)) (by decide) (fun K hK => ?_)
           have hcv27 := own_string (P := Tryz.prog) Tryz.underlying22 Tryz.underlying5 Tryz.underlying9 (Kd.own_of_R HO112.out)
           refine value_ (w1 := ?_) (v := ?_) (by rfl) rfl ?_ ?_
           rotate_left 2
           ·go_simp
            constructor
            ·rfl
            ·rfl
           clear hcv27
           refine hK.out _ _ ⟨(blk_cell BK109.out 0).trans rfl, (blk_cell BK109.out 1).trans rfl, (blk_cell BK109.out 2).trans rfl, (blk_cell BK109.out 3).trans rfl⟩ (fun hHeld => ?_)
           clear hK K
           refine norm_ (a' := ?_) ?_ ?_
           rotate_left
           ·show Act.put _ (some 26) _ = _
            simp only [Act.put, List.setIfInBounds_toArray, List.set_cons_zero, List.set_cons_succ, i64_w, i32_w]
            rfl
           refine pure_ (i := 7) (N := some 27) (v := ?_) (a' := ?_) #[true, true, true, true, true, true, true, true, true, true, true, true, true, false, false, false] rfl rfl (any_of HT_.out (by kernel_rfl)) (fun _ _ _ h => h) (Or.inl ⟨by rfl, ?_⟩) ?_ ?_
           rotate_left
           ·intro w'
            go_simp
            with_reducible rfl
           rotate_left
           ·simp only [Act.put, List.setIfInBounds_toArray, List.set_cons_zero, List.set_cons_succ, i64_w, i32_w]
            rfl
           refine pure_ (i := 13) (N := some 33) (v := ?_) (a' := ?_) #[true, true, true, true, true, true, true, true, true, true, true, true, true, true, false, false] rfl rfl (any_of HT_.out (by kernel_rfl)) (fun _ _ _ h => h) (Or.inl ⟨by rfl, ?_⟩) ?_ ?_
           rotate_left
           ·intro w'
            go_simp
            with_reducible rfl
           rotate_left
           ·simp only [Act.put, List.setIfInBounds_toArray, List.set_cons_zero, List.set_cons_succ, i64_w, i32_w]
            rfl
           refine pure_ (i := 14) (N := some 34) (v := ?_) (a' := ?_) #[true, true, true, true, true, true, true, true, true, true, true, true, true, true, true, false] rfl rfl (any_of HT_.out (by kernel_rfl)) (fun _ _ _ h => h) (Or.inl ⟨by rfl, ?_⟩) ?_ ?_
           rotate_left
           ·intro w'
            go_simp
            with_reducible rfl
           rotate_left
           ·simp only [Act.put, List.setIfInBounds_toArray, List.set_cons_zero, List.set_cons_succ, i64_w, i32_w]
            rfl
           refine last_ (i := 15) (N := none) #[true, true, true, true, true, true, true, true, true, true, true, true, true, true, true, true] rfl rfl (one_of HT_.out (by kernel_rfl)) (by decide) (fun K hK => ?_)
           have hs28 : w25.cell? ⟨gb109, 0, none⟩ = some (.string ((rd_T94 l0 (ji5)).f0)) := (blk_cell BK109.out 0).trans rfl
           have hfs28 := blk_frozen BK109.out 0
           refine skip_ (w1 := ?_) (by rfl) rfl ?_ ?_
           rotate_left
           ·go_simp
            rfl
           refine hK.out _ _ ?_
           clear hK K
           refine done_ (done_of HT_.out (by kernel_rfl)) ?_
           have n0_ : Aside0 (Kd.R k94 94 (w25.setCell ⟨gb109, 0, none⟩ (.string (((((rd_T94 l0 (ji5)).f0).extract 0 ((ji8) : Int).toNat) ++ (strOfNums y110)) ++ (((rd_T94 l0 (ji5)).f0).extract ((ji12) : Int).toNat ((rd_T94 l0 (ji5)).f0).size)))) w.heap.size (fun k_ => k_ ≠ gb109) v106 y105) := ⟨by (with_reducible repeat (first | apply Kd.R_alloc | apply Kd.R_drewN | apply Kd.R_drew)); exact Kd.R_mono (Kd.R_far (p := ⟨gb109, 0, none⟩) (Kd.R_mono HO107.out (fun k_ hk => (⟨hk, hk⟩ : _ ∧ k_ ≠ gb109))) (fun _ hk => hk.2) (.string (((((rd_T94 l0 (ji5)).f0).extract 0 ((ji8) : Int).toNat) ++ (strOfNums y110)) ++ (((rd_T94 l0 (ji5)).f0).extract ((ji12) : Int).toNat ((rd_T94 l0 (ji5)).f0).size)))) (fun _ hk => hk.1)⟩
           have n1_ : Aside0 (Kd.R (Kd.int .u8) 5 (w25.setCell ⟨gb109, 0, none⟩ (.string (((((rd_T94 l0 (ji5)).f0).extract 0 ((ji8) : Int).toNat) ++ (strOfNums y110)) ++ (((rd_T94 l0 (ji5)).f0).extract ((ji12) : Int).toNat ((rd_T94 l0 (ji5)).f0).size)))) w.heap.size (fun _ => True) v111 y110) := ⟨by (with_reducible repeat (first | apply Kd.R_alloc | apply Kd.R_drewN | apply Kd.R_drew)); exact Kd.R_mono (Kd.R_far (p := ⟨gb109, 0, none⟩) (Kd.R_types HO112.out BK109.out (by decide)) (fun _ hk => hk.2) (.string (((((rd_T94 l0 (ji5)).f0).extract 0 ((ji8) : Int).toNat) ++ (strOfNums y110)) ++ (((rd_T94 l0 (ji5)).f0).extract ((ji12) : Int).toNat ((rd_T94 l0 (ji5)).f0).size)))) (fun _ hk => trivial)⟩
           have n2_ : Aside0 ((w25.setCell ⟨gb109, 0, none⟩ (.string (((((rd_T94 l0 (ji5)).f0).extract 0 ((ji8) : Int).toNat) ++ (strOfNums y110)) ++ (((rd_T94 l0 (ji5)).f0).extract ((ji12) : Int).toNat ((rd_T94 l0 (ji5)).f0).size)))).heap[gb109]? = some (.cells #[.string (((((rd_T94 l0 (ji5)).f0).extract 0 ((ji8) : Int).toNat) ++ (strOfNums y110)) ++ (((rd_T94 l0 (ji5)).f0).extract ((ji12) : Int).toNat ((rd_T94 l0 (ji5)).f0).size)), .string ((rd_T94 l0 (ji5)).f1), .bool ((rd_T94 l0 (ji5)).f2), .bool ((rd_T94 l0 (ji5)).f3)] 94 (0, 0))) := ⟨by (with_reducible repeat (first | refine blk_drewN ?_ _ | refine blk_drew ?_ | refine blk_alloc ?_ _)); refine blk_put (cs := #[.string ((rd_T94 l0 (ji5)).f0), .string ((rd_T94 l0 (ji5)).f1), .bool ((rd_T94 l0 (ji5)).f2), .bool ((rd_T94 l0 (ji5)).f3)]) ?_ 0 _ rfl; (with_reducible repeat (first | refine blk_drewN ?_ _ | refine blk_drew ?_ | refine blk_alloc ?_ _)); exact BK109.out⟩
           have n3_ : Aside0 (Below w.heap.size w (w25.setCell ⟨gb109, 0, none⟩ (.string (((((rd_T94 l0 (ji5)).f0).extract 0 ((ji8) : Int).toNat) ++ (strOfNums y110)) ++ (((rd_T94 l0 (ji5)).f0).extract ((ji12) : Int).toNat ((rd_T94 l0 (ji5)).f0).size))))) := ⟨by repeat (first | (with_reducible first | exact HB.out | apply below_alloc | apply pw_below_drewN | apply below_drew1 | refine below_set ?_ GE109.out) | exact HB.out)⟩
           (try clear HO107)
           (try clear HO112)
           (try clear BK109)
           (try clear HB)
           generalize (w25.setCell ⟨gb109, 0, none⟩ (.string (((((rd_T94 l0 (ji5)).f0).extract 0 ((ji8) : Int).toNat) ++ (strOfNums y110)) ++ (((rd_T94 l0 (ji5)).f0).extract ((ji12) : Int).toNat ((rd_T94 l0 (ji5)).f0).size)))) = w29 at n0_ n1_ n2_ n3_ ⊢
           have HO107 := n0_
           have HO112 := n1_
           have BK109 := n2_
           have HB := n3_
           clear n0_ n1_ n2_ n3_
           have hcz30_0 : w29.cell? ⟨gb109, 0, none⟩ = some (.string (((((rd_T94 l0 (ji5)).f0).extract 0 ((ji8) : Int).toNat) ++ (strOfNums y110)) ++ (((rd_T94 l0 (ji5)).f0).extract ((ji12) : Int).toNat ((rd_T94 l0 (ji5)).f0).size))) := (blk_cell BK109.out 0).trans rfl
           have hcz30_1 : w29.cell? ⟨gb109, 1, none⟩ = some (.string ((rd_T94 l0 (ji5)).f1)) := (blk_cell BK109.out 1).trans rfl
           have hcz30_2 : w29.cell? ⟨gb109, 2, none⟩ = some (.bool ((rd_T94 l0 (ji5)).f2)) := (blk_cell BK109.out 2).trans rfl
           have hcz30_3 : w29.cell? ⟨gb109, 3, none⟩ = some (.bool ((rd_T94 l0 (ji5)).f3)) := (blk_cell BK109.out 3).trans rfl
           have hfz30_0 := blk_frozen BK109.out 0
           have hfz30_1 := blk_frozen BK109.out 1
           have hfz30_2 := blk_frozen BK109.out 2
           have hfz30_3 := blk_frozen BK109.out 3
           try go_wp2_with (first | ((with_reducible refine gate_store (t := 4) (p := 35) rfl ?_); refine store_event (t := 4) (p := 35) (v := ?vo_w31) (w1 := (w29.setCell ⟨gb109, 2, none⟩ (.bool true))) ?hg ?ho ?hn ?hr ?_; (case ho => rfl); (case hg => rfl); (case hn => rfl); (case hr => first | (go_simp; done) | (go_simp; rfl)); intro w31 hw; have n0_ : Aside0 (Kd.R k94 94 w31 w.heap.size (fun k_ => k_ ≠ gb109) v106 y105) := ⟨(by rw [hw]; exact (by (with_reducible repeat (first | apply Kd.R_alloc | apply Kd.R_drewN | apply Kd.R_drew)); exact Kd.R_mono (Kd.R_far (p := ⟨gb109, 2, none⟩) (Kd.R_mono HO107.out (fun k_ hk => (⟨hk, hk⟩ : _ ∧ k_ ≠ gb109))) (fun _ hk => hk.2) (.bool true)) (fun _ hk => hk.1)))⟩; have n1_ : Aside0 (Kd.R (Kd.int .u8) 5 w31 w.heap.size (fun _ => True) v111 y110) := ⟨(by rw [hw]; exact (by (with_reducible repeat (first | apply Kd.R_alloc | apply Kd.R_drewN | apply Kd.R_drew)); exact Kd.R_mono (Kd.R_far (p := ⟨gb109, 2, none⟩) (Kd.R_types HO112.out BK109.out (by decide)) (fun _ hk => hk.2) (.bool true)) (fun _ hk => trivial)))⟩; have n2_ : Aside0 (w31.heap[gb109]? = some (.cells #[.string (((((rd_T94 l0 (ji5)).f0).extract 0 ((ji8) : Int).toNat) ++ (strOfNums y110)) ++ (((rd_T94 l0 (ji5)).f0).extract ((ji12) : Int).toNat ((rd_T94 l0 (ji5)).f0).size)), .string ((rd_T94 l0 (ji5)).f1), .bool true, .bool ((rd_T94 l0 (ji5)).f3)] 94 (0, 0))) := ⟨(by rw [hw]; exact (by (with_reducible repeat (first | refine blk_drewN ?_ _ | refine blk_drew ?_ | refine blk_alloc ?_ _)); refine blk_put (cs := #[.string (((((rd_T94 l0 (ji5)).f0).extract 0 ((ji8) : Int).toNat) ++ (strOfNums y110)) ++ (((rd_T94 l0 (ji5)).f0).extract ((ji12) : Int).toNat ((rd_T94 l0 (ji5)).f0).size)), .string ((rd_T94 l0 (ji5)).f1), .bool ((rd_T94 l0 (ji5)).f2), .bool ((rd_T94 l0 (ji5)).f3)]) ?_ 2 _ rfl; (with_reducible repeat (first | refine blk_drewN ?_ _ | refine blk_drew ?_ | refine blk_alloc ?_ _)); exact BK109.out))⟩; have n3_ : Aside0 (Below w.heap.size w w31) := ⟨(by rw [hw]; exact (by repeat (first | (with_reducible first | exact HB.out | apply below_alloc | apply pw_below_drewN | apply below_drew1 | refine below_set ?_ GE109.out) | exact HB.out)))⟩; clear hw; clear HO107; clear HO112; clear BK109; clear HB; have HO107 := n0_; have HO112 := n1_; have BK109 := n2_; have HB := n3_; clear n0_ n1_ n2_ n3_; have hcz32_0 : w31.cell? ⟨gb109, 0, none⟩ = some (.string (((((rd_T94 l0 (ji5)).f0).extract 0 ((ji8) : Int).toNat) ++ (strOfNums y110)) ++ (((rd_T94 l0 (ji5)).f0).extract ((ji12) : Int).toNat ((rd_T94 l0 (ji5)).f0).size))) := (blk_cell BK109.out 0).trans rfl; have hcz32_1 : w31.cell? ⟨gb109, 1, none⟩ = some (.string ((rd_T94 l0 (ji5)).f1)) := (blk_cell BK109.out 1).trans rfl; have hcz32_2 : w31.cell? ⟨gb109, 2, none⟩ = some (.bool true) := (blk_cell BK109.out 2).trans rfl; have hcz32_3 : w31.cell? ⟨gb109, 3, none⟩ = some (.bool ((rd_T94 l0 (ji5)).f3)) := (blk_cell BK109.out 3).trans rfl; have hfz32_0 := blk_frozen BK109.out 0; have hfz32_1 := blk_frozen BK109.out 1; have hfz32_2 := blk_frozen BK109.out 2; have hfz32_3 := blk_frozen BK109.out 3) | ((with_reducible refine gate_store (t := 4) (p := 36) rfl ?_); refine store_event (t := 4) (p := 36) (v := ?vo_w33) (w1 := (w31.setCell ⟨gb109, 3, none⟩ (.bool false))) ?hg ?ho ?hn ?hr ?_; (case ho => rfl); (case hg => rfl); (case hn => rfl); (case hr => first | (go_simp; done) | (go_simp; rfl)); intro w33 hw; have n0_ : Aside0 (Kd.R k94 94 w33 w.heap.size (fun k_ => k_ ≠ gb109) v106 y105) := ⟨(by rw [hw]; exact (by (with_reducible repeat (first | apply Kd.R_alloc | apply Kd.R_drewN | apply Kd.R_drew)); exact Kd.R_mono (Kd.R_far (p := ⟨gb109, 3, none⟩) (Kd.R_mono HO107.out (fun k_ hk => (⟨hk, hk⟩ : _ ∧ k_ ≠ gb109))) (fun _ hk => hk.2) (.bool false)) (fun _ hk => hk.1)))⟩; have n1_ : Aside0 (Kd.R (Kd.int .u8) 5 w33 w.heap.size (fun _ => True) v111 y110) := ⟨(by rw [hw]; exact (by (with_reducible repeat (first | apply Kd.R_alloc | apply Kd.R_drewN | apply Kd.R_drew)); exact Kd.R_mono (Kd.R_far (p := ⟨gb109, 3, none⟩) (Kd.R_types HO112.out BK109.out (by decide)) (fun _ hk => hk.2) (.bool false)) (fun _ hk => trivial)))⟩; have n2_ : Aside0 (w33.heap[gb109]? = some (.cells #[.string (((((rd_T94 l0 (ji5)).f0).extract 0 ((ji8) : Int).toNat) ++ (strOfNums y110)) ++ (((rd_T94 l0 (ji5)).f0).extract ((ji12) : Int).toNat ((rd_T94 l0 (ji5)).f0).size)), .string ((rd_T94 l0 (ji5)).f1), .bool true, .bool false] 94 (0, 0))) := ⟨(by rw [hw]; exact (by (with_reducible repeat (first | refine blk_drewN ?_ _ | refine blk_drew ?_ | refine blk_alloc ?_ _)); refine blk_put (cs := #[.string (((((rd_T94 l0 (ji5)).f0).extract 0 ((ji8) : Int).toNat) ++ (strOfNums y110)) ++ (((rd_T94 l0 (ji5)).f0).extract ((ji12) : Int).toNat ((rd_T94 l0 (ji5)).f0).size)), .string ((rd_T94 l0 (ji5)).f1), .bool true, .bool ((rd_T94 l0 (ji5)).f3)]) ?_ 3 _ rfl; (with_reducible repeat (first | refine blk_drewN ?_ _ | refine blk_drew ?_ | refine blk_alloc ?_ _)); exact BK109.out))⟩; have n3_ : Aside0 (Below w.heap.size w w33) := ⟨(by rw [hw]; exact (by repeat (first | (with_reducible first | exact HB.out | apply below_alloc | apply pw_below_drewN | apply below_drew1 | refine below_set ?_ GE109.out) | exact HB.out)))⟩; clear hw; clear HO107; clear HO112; clear BK109; clear HB; have HO107 := n0_; have HO112 := n1_; have BK109 := n2_; have HB := n3_; clear n0_ n1_ n2_ n3_; have hcz34_0 : w33.cell? ⟨gb109, 0, none⟩ = some (.string (((((rd_T94 l0 (ji5)).f0).extract 0 ((ji8) : Int).toNat) ++ (strOfNums y110)) ++ (((rd_T94 l0 (ji5)).f0).extract ((ji12) : Int).toNat ((rd_T94 l0 (ji5)).f0).size))) := (blk_cell BK109.out 0).trans rfl; have hcz34_1 : w33.cell? ⟨gb109, 1, none⟩ = some (.string ((rd_T94 l0 (ji5)).f1)) := (blk_cell BK109.out 1).trans rfl; have hcz34_2 : w33.cell? ⟨gb109, 2, none⟩ = some (.bool true) := (blk_cell BK109.out 2).trans rfl; have hcz34_3 : w33.cell? ⟨gb109, 3, none⟩ = some (.bool false) := (blk_cell BK109.out 3).trans rfl; have hfz34_0 := blk_frozen BK109.out 0; have hfz34_1 := blk_frozen BK109.out 1; have hfz34_2 := blk_frozen BK109.out 2; have hfz34_3 := blk_frozen BK109.out 3; have p17 : 0 ≤ ((ji5) : Int) := of_decide_eq_true (by first | (with_reducible assumption) | assumption); have q17 : ((ji5) : Int) < ((y105.length : Int) : Int) := of_decide_eq_true (by first | (with_reducible assumption) | assumption); obtain ⟨go17, co17, eo17, gb17, gl17, cl17, HG17⟩ := Kd.R_form HO107.out (by omega); (first | cases eo17 | (injection eo17 with ea_ en_ ec_; (first | subst ea_ | (injection ea_ with ea_; subst ea_)); subst ec_; clear en_)); have GB17 := Aside0.mk gb17; have GG17 := Aside0.mk HG17; clear gb17 gl17 HG17; obtain ⟨ce17, hcl17, hM17, hcc17, hfr17⟩ := Kd.R_elem HO107.out z94 ((ji5) : Int) p17 q17; obtain rfl := k94_openM hM17; have hx17_0 : w33.cell? ⟨go17, ((ji5) : Int).toNat * 4, none⟩ = some (.string ((rd_T94 y105 (ji5)).f0)) := hcc17 0 _ rfl; have hx17_1 : w33.cell? ⟨go17, ((ji5) : Int).toNat * 4 + 1, none⟩ = some (.string ((rd_T94 y105 (ji5)).f1)) := hcc17 1 _ rfl; have hx17_2 : w33.cell? ⟨go17, ((ji5) : Int).toNat * 4 + 2, none⟩ = some (.bool ((rd_T94 y105 (ji5)).f2)) := hcc17 2 _ rfl; have hx17_3 : w33.cell? ⟨go17, ((ji5) : Int).toNat * 4 + 3, none⟩ = some (.bool ((rd_T94 y105 (ji5)).f3)) := hcc17 3 _ rfl; have hf17_0 : w33.frozen? ⟨go17, ((ji5) : Int).toNat * 4, none⟩ = false := hfr17 0; have hf17_1 : w33.frozen? ⟨go17, ((ji5) : Int).toNat * 4 + 1, none⟩ = false := hfr17 1; have hf17_2 : w33.frozen? ⟨go17, ((ji5) : Int).toNat * 4 + 2, none⟩ = false := hfr17 2; have hf17_3 : w33.frozen? ⟨go17, ((ji5) : Int).toNat * 4 + 3, none⟩ = false := hfr17 3; clear hcl17 hcc17 hfr17 hM17; replace p17 := eq_true p17; replace q17 := eq_true q17; have HX35 := Aside0.mk (show Kd.R k94 94 w33 w.heap.size (fun k_ => k_ ≠ gb109) (.slice (some ⟨go17, 0, none⟩) y105.length co17) y105 from (by (with_reducible repeat (first | apply Kd.R_alloc | apply Kd.R_drewN | apply Kd.R_drew)); exact HO107.out)); obtain ⟨ce35, hcl35, hM35, hcc35, hfr35⟩ := Kd.R_elem HX35.out z94 ((ji5) : Int) (of_decide_eq_true (by first | (with_reducible assumption) | assumption)) (by have h_ : ((ji5) : Int) < ((y105.length : Int) : Int) := of_decide_eq_true (by first | (with_reducible assumption) | assumption); first | exact h_ | (have e_ := (Kd.R_reads' HO107.out).1; omega) | simpa using h_); obtain rfl := k94_openM hM35; have HP35 := Kd.R_seg HX35.out ((ji5) : Int) (of_decide_eq_true (by first | (with_reducible assumption) | assumption)) (by have h_ : ((ji5) : Int) < ((y105.length : Int) : Int) := of_decide_eq_true (by first | (with_reducible assumption) | assumption); first | exact h_ | (have e_ := (Kd.R_reads' HO107.out).1; omega) | simpa using h_) (seg := [.string (((((rd_T94 l0 (ji5)).f0).extract 0 ((ji8) : Int).toNat) ++ (strOfNums y110)) ++ (((rd_T94 l0 (ji5)).f0).extract ((ji12) : Int).toNat ((rd_T94 l0 (ji5)).f0).size)), .string ((rd_T94 l0 (ji5)).f1), .bool true, .bool false]) (j := 0) hcl35 hcc35 (show 4 ≤ 4 from by decide) (x' := (⟨((((rd_T94 l0 (ji5)).f0).extract 0 ((ji8) : Int).toNat) ++ (strOfNums y110)) ++ (((rd_T94 l0 (ji5)).f0).extract ((ji12) : Int).toNat ((rd_T94 l0 (ji5)).f0).size), (rd_T94 l0 (ji5)).f1, true, false⟩ : S94)) (k94_mkM _ _ _ (⟨((((rd_T94 l0 (ji5)).f0).extract 0 ((ji8) : Int).toNat) ++ (strOfNums y110)) ++ (((rd_T94 l0 (ji5)).f0).extract ((ji12) : Int).toNat ((rd_T94 l0 (ji5)).f0).size), (rd_T94 l0 (ji5)).f1, true, false⟩ : S94) ) (fun _ hk => hk); have hx35_0 := hcc35 0 _ rfl; (try simp only [show (k94).sz = 4 from rfl, Nat.mul_one, Nat.add_zero] at hx35_0); have hf35_0 := hfr35 0; (try simp only [show (k94).sz = 4 from rfl, Nat.mul_one, Nat.add_zero] at hf35_0); have hx35_1 := hcc35 1 _ rfl; (try simp only [show (k94).sz = 4 from rfl, Nat.mul_one, Nat.add_zero] at hx35_1); have hf35_1 := hfr35 1; (try simp only [show (k94).sz = 4 from rfl, Nat.mul_one, Nat.add_zero] at hf35_1); have hx35_2 := hcc35 2 _ rfl; (try simp only [show (k94).sz = 4 from rfl, Nat.mul_one, Nat.add_zero] at hx35_2); have hf35_2 := hfr35 2; (try simp only [show (k94).sz = 4 from rfl, Nat.mul_one, Nat.add_zero] at hf35_2); have hx35_3 := hcc35 3 _ rfl; (try simp only [show (k94).sz = 4 from rfl, Nat.mul_one, Nat.add_zero] at hx35_3); have hf35_3 := hfr35 3; (try simp only [show (k94).sz = 4 from rfl, Nat.mul_one, Nat.add_zero] at hf35_3); clear hcl35 hcc35 hfr35 hM35) | ((with_reducible refine gate_store (t := 94) (p := 41) rfl ?_); refine store_event (t := 94) (p := 41) (v := ?vo_w36) (w1 := ((((w33.setCell ⟨go17, ((ji5) : Int).toNat * 4, none⟩ (.string (((((rd_T94 l0 (ji5)).f0).extract 0 ((ji8) : Int).toNat) ++ (strOfNums y110)) ++ (((rd_T94 l0 (ji5)).f0).extract ((ji12) : Int).toNat ((rd_T94 l0 (ji5)).f0).size)))).setCell ⟨go17, ((ji5) : Int).toNat * 4 + 1, none⟩ (.string ((rd_T94 l0 (ji5)).f1))).setCell ⟨go17, ((ji5) : Int).toNat * 4 + 2, none⟩ (.bool true)).setCell ⟨go17, ((ji5) : Int).toNat * 4 + 3, none⟩ (.bool false))) ?hg ?ho ?hn ?hr ?_; (case ho => rfl); (case hg => rfl); (case hn => rfl); (case hr => first | (go_simp; done) | (go_simp; rfl)); intro w36 hw; have hg : w33.grownBy w36 (some go17) := (by rw [hw]; exact HP35.2); have hp_ : Kd.R k94 94 w36 w.heap.size (fun k_ => k_ ≠ gb109) (.slice (some ⟨go17, 0, none⟩) y105.length co17) y113 := (by rw [hw, Ny113.out]; exact HP35.1); clear HP35; have n0_ := Aside0.mk (hp_); have n1_ := Aside0.mk (blk_grown (g := gb109) (o := .cells #[.string (((((rd_T94 l0 (ji5)).f0).extract 0 ((ji8) : Int).toNat) ++ (strOfNums y110)) ++ (((rd_T94 l0 (ji5)).f0).extract ((ji12) : Int).toNat ((rd_T94 l0 (ji5)).f0).size)), .string ((rd_T94 l0 (ji5)).f1), .bool true, .bool false] 94 (0, 0)) (by (with_reducible repeat (first | refine blk_drewN ?_ _ | refine blk_drew ?_ | refine blk_alloc ?_ _)); exact BK109.out) hg (Kd.R_away HO107.out (fun _ hk => hk))); have n2_ := Aside0.mk (Kd.R_over' (v := (.slice (some ⟨go17, 0, none⟩) y105.length co17)) (by (with_reducible repeat (first | apply Kd.R_alloc | apply Kd.R_drewN | apply Kd.R_drew)); exact HO112.out) (Kd.R_typed HO107.out) (by decide) hg); have n3_ := Aside0.mk ((by rw [hw]; exact below_set (below_set (below_set (below_set (HB.out) GB17.out) GB17.out) GB17.out) GB17.out : Below w.heap.size w w36)); clear HO107; clear BK109; clear HO112; clear HB; have HO107 := n0_; have BK109 := n1_; have HO112 := n2_; have HB := n3_; clear n0_ n1_ n2_ n3_; clear hg hw hp_))
           go_ret
           exact ⟨_, by first | rfl | (simp [errW_none, errW_some] <;> rfl) | (simp only [← hji5, ← hji8, ← hji12]; first | rfl | (simp [errW_none, errW_some] <;> rfl)) | (simp [*, errW_none, errW_some] <;> rfl), by (with_reducible repeat (first | apply Kd.R_alloc | apply Kd.R_drewN | apply Kd.R_drew)); exact Kd.R_mono HO107.out (fun _ hk => trivial), by repeat (first | (with_reducible first | exact HB.out | apply below_alloc | apply pw_below_drewN | apply below_drew1 | refine below_set ?_ GE109.out) | exact HB.out)⟩
          ·rw [if_neg c16] at H
           exact absurd H (by simp)
         ·rw [if_neg c15] at H
          exact absurd H (by simp)
        ·rw [if_neg c14] at H
         exact absurd H (by simp)
       ·rw [if_neg c13] at H
        exact absurd H (by simp)
      ·rw [if_neg c11] at H
       exact absurd H (by simp)
     ·rw [if_neg c10] at H
      exact absurd H (by simp)
    ·rw [if_neg c9] at H
     exact absurd H (by simp)
   ·rw [if_neg c7] at H
    exact absurd H (by simp)
  ·rw [if_neg c6] at H
   exact absurd H (by simp)
 ·rw [if_neg c4] at H
  exact absurd H (by simp)
def ecdysisref03_has.l0 : Nat → List Int → Int → Int → Option (Bool)
 | 0, _, _, _ => none
 | k + 1, x0, x1, x5 => if x5 < (x0.length : Int) then (if 0 ≤ x5 then (if (rd x0 x5) = x1 then (some true) else (ecdysisref03_has.l0 k x0 x1 (wrap64 (x5 + 1)))) else (none)) else (some false)
def ecdysisref03_has.f (k : Nat) (l0 : List Int) (a1 : Int) : Option (Bool) := ecdysisref03_has.l0 k l0 a1 0
theorem ecdysisref03_has.mono_l : ∀ k, (∀ y0 y1 y2, LeO (ecdysisref03_has.l0 k y0 y1 y2) (ecdysisref03_has.l0 (k + 1) y0 y1 y2))
 | 0 => fun _ _ _ r h => by simp [ecdysisref03_has.l0] at h
 | k + 1 => by
  have ih0 := ecdysisref03_has.mono_l k
  ·intro y0 y1 y2
   unfold ecdysisref03_has.l0
   repeat' first
   | (with_reducible exact ih0 _ _ _)
   | (with_reducible exact LeO.refl _)
   | (with_reducible exact LeO.none _)
   | (with_reducible refine LeO.ite ?_ ?_)
   | (with_reducible refine LeO.bind ?_ (fun _ => ?_))
   | exact ih0 _ _ _
   | exact LeO.none _
   | refine LeO.ite ?_ ?_
   | refine LeO.bind ?_ (fun _ => ?_)
theorem ecdysisref03_has.mono : ∀ a0 a1 k, LeO (ecdysisref03_has.f k a0 a1) (ecdysisref03_has.f (k + 1) a0 a1) := by
 intro a0 a1 k
 have ih0 := ecdysisref03_has.mono_l k
 unfold ecdysisref03_has.f
 repeat' first
   | (with_reducible exact ih0 _ _ _)
   | (with_reducible exact LeO.refl _)
   | (with_reducible exact LeO.none _)
   | (with_reducible refine LeO.ite ?_ ?_)
   | (with_reducible refine LeO.bind ?_ (fun _ => ?_))
   | exact ih0 _ _ _
   | exact LeO.none _
   | refine LeO.ite ?_ ?_
   | refine LeO.bind ?_ (fun _ => ?_)
set_option maxHeartbeats 8000000 in
set_option maxRecDepth 100000 in
theorem ecdysisref03_has.calls (k : Nat) (A0 : Option Addr) (c0 : Nat) (l0 : List Int) (a1 : Int) (r : Bool) (w : World) (hr0 : Kd.C (Kd.int .i64) w A0 l0.length l0) (hc0 : l0.length ≤ c0) (h : ecdysisref03_has.f k l0 a1 = some r) :
  Calls Tryz.prog 40 #[.slice A0 l0.length c0, .int .i64 a1] w fun e w' => e = .returned (.bool r) ∧ Drawn0 w w' := by
 have HR0 := Aside0.mk hr0
 have HC0 := Aside0.mk hc0
 clear hr0 hc0
 have H : (ecdysisref03_has.l0 k l0 a1 0) = some r := h
 clear h
 have H' := Aside0.mk H
 clear H
 go_enter Tryz.func40, Tryz.ntmps40
 go_wp2
 go_loopg [5] k (fun kq v5 w' => ∃ (x5_1 : Int), v5 = .int .i64 x5_1 ∧ Aside0 (ecdysisref03_has.l0 kq l0 a1 x5_1 = some r) ∧ Aside0 (kq ≤ k) ∧ Drawn0 w w')
 case atStart => exact ⟨(0), (by first | rfl | (simp; done) | (simp [*]; done)), H', ⟨Nat.le_refl _⟩, by repeat (first | exact Drawn0.refl _ | apply Drawn0.step)⟩
 case round =>
  clear H'
  try clear p2
  obtain ⟨x5_1, rfl, HA, HK1, ⟨m1, rfl⟩⟩ := hrel
  cases gk with
  | zero => exact absurd HA.out (by simp [ecdysisref03_has.l0])
  | succ k1 =>
   have H := HA.out
   clear HA
   simp only [ecdysisref03_has.l0] at H
   by_cases c3 : x5_1 < (l0.length : Int)
   ·rw [if_pos c3] at H
    have c3b0 : decide (x5_1 < (l0.length : Int)) = true := decide_eq_true c3
    clear c3
    by_cases c4 : 0 ≤ x5_1
    ·rw [if_pos c4] at H
     have c4b0 : decide (0 ≤ x5_1) = true := decide_eq_true c4
     clear c4
     by_cases c5 : (rd l0 x5_1) = a1
     ·rw [if_pos c5] at H
      have c5b0 : ((rd l0 x5_1) == a1) = true := beq_iff_eq.mpr c5
      have c5b1 : ((rd l0 x5_1) != a1) = false := bne_eq_false_iff_eq.mpr c5
      clear c5
      obtain rfl := Option.some.inj H
      have p114 : 0 ≤ (x5_1 : Int) := of_decide_eq_true (by first | (with_reducible assumption) | assumption)
      have q114 : x5_1 < (l0.length : Int) := of_decide_eq_true (by first | (with_reducible assumption) | assumption)
      obtain ⟨ad114, e114, hx114_0⟩ := Kd.at_int HR0.out x5_1 p114 q114
      cases e114
      replace p114 := eq_true p114
      replace q114 := eq_true q114
      go_wp2
      go_ret
      exact ⟨by first | rfl | (simp; done) | (simp [*]; done), by repeat (first | exact Drawn0.refl _ | apply Drawn0.step)⟩
     ·rw [if_neg c5] at H
      have c5b0 : ((rd l0 x5_1) == a1) = false := beq_eq_false_iff_ne.mpr c5
      have c5b1 : ((rd l0 x5_1) != a1) = true := bne_iff_ne.mpr c5
      have H' := Aside0.mk H
      clear H
      have p114 : 0 ≤ (x5_1 : Int) := of_decide_eq_true (by first | (with_reducible assumption) | assumption)
      have q114 : x5_1 < (l0.length : Int) := of_decide_eq_true (by first | (with_reducible assumption) | assumption)
      obtain ⟨ad114, e114, hx114_0⟩ := Kd.at_int HR0.out x5_1 p114 q114
      cases e114
      replace p114 := eq_true p114
      replace q114 := eq_true q114
      go_wp2
      go_roundg k1
      case measure => have := HK1.out; omega
      case rel => exact ⟨(wrap64 (x5_1 + 1)), (by first | rfl | (simp; done) | (simp [*]; done)), H', ⟨by have := HK1.out; omega⟩, by repeat (first | exact Drawn0.refl _ | apply Drawn0.step)⟩
    ·rw [if_neg c4] at H
     exact absurd H (by simp)
   ·rw [if_neg c3] at H
    have c3b0 : decide (x5_1 < (l0.length : Int)) = false := decide_eq_false c3
    clear c3
    obtain rfl := Option.some.inj H
    go_wp2
    go_ret
    exact ⟨by first | rfl | (simp; done) | (simp [*]; done), by repeat (first | exact Drawn0.refl _ | apply Drawn0.step)⟩
mutual
def ecdysisref03_New.j0 : Nat → ByteArray → Bool → Option ((List (S94)) × Bool)
 | 0, _, _ => none
 | k + 1, x0, x14 => if x14 = true then (some (([] : List (S94)), false)) else (ecdysisref03_New.l0 k x0 ([] : List (S94)) 0)
def ecdysisref03_New.l0 : Nat → ByteArray → List (S94) → Int → Option ((List (S94)) × Bool)
 | 0, _, _, _ => none
 | k + 1, x0, x4, x5 => if x5 < (x0.size : Int) then (if 0 ≤ x5 then (if x5 ≤ (wrap64 (x5 + 8)) then (if (wrap64 (x5 + 8)) ≤ (x0.size : Int) then (if x4.length < 3518437208883 then (ecdysisref03_New.l0 k x0 (x4 ++ [(⟨x0.extract (x5 : Int).toNat ((wrap64 (x5 + 8)) : Int).toNat, x0.extract (x5 : Int).toNat ((wrap64 (x5 + 8)) : Int).toNat, false, false⟩ : S94)]) (wrap64 (x5 + 8))) else (none)) else (none)) else (none)) else (none)) else (some (x4, true))
end
def ecdysisref03_New.f (k : Nat) (a0 : ByteArray) : Option ((List (S94)) × Bool) := if ((a0.size : Int) % 8) = 0 then (ecdysisref03_New.j0 k a0 (decide ((a0.size : Int) > 65536))) else (ecdysisref03_New.j0 k a0 true)
theorem ecdysisref03_New.mono_l : ∀ k, (∀ y0 y1, LeO (ecdysisref03_New.j0 k y0 y1) (ecdysisref03_New.j0 (k + 1) y0 y1)) ∧ (∀ y0 y1 y2, LeO (ecdysisref03_New.l0 k y0 y1 y2) (ecdysisref03_New.l0 (k + 1) y0 y1 y2))
 | 0 => ⟨fun _ _ r h => by simp [ecdysisref03_New.j0] at h, fun _ _ _ r h => by simp [ecdysisref03_New.l0] at h⟩
 | k + 1 => by
  obtain ⟨ih0, ih1⟩ := ecdysisref03_New.mono_l k
  refine ⟨?_, ?_⟩
  ·intro y0 y1
   unfold ecdysisref03_New.j0
   repeat' first
   | (with_reducible exact ih0 _ _)
   | (with_reducible exact ih1 _ _ _)
   | (with_reducible exact LeO.refl _)
   | (with_reducible exact LeO.none _)
   | (with_reducible refine LeO.ite ?_ ?_)
   | (with_reducible refine LeO.bind ?_ (fun _ => ?_))
   | exact ih0 _ _
   | exact ih1 _ _ _
   | exact LeO.none _
   | refine LeO.ite ?_ ?_
   | refine LeO.bind ?_ (fun _ => ?_)
  ·intro y0 y1 y2
   unfold ecdysisref03_New.l0
   repeat' first
   | (with_reducible exact ih0 _ _)
   | (with_reducible exact ih1 _ _ _)
   | (with_reducible exact LeO.refl _)
   | (with_reducible exact LeO.none _)
   | (with_reducible refine LeO.ite ?_ ?_)
   | (with_reducible refine LeO.bind ?_ (fun _ => ?_))
   | exact ih0 _ _
   | exact ih1 _ _ _
   | exact LeO.none _
   | refine LeO.ite ?_ ?_
   | refine LeO.bind ?_ (fun _ => ?_)
theorem ecdysisref03_New.mono : ∀ a0 k, LeO (ecdysisref03_New.f k a0) (ecdysisref03_New.f (k + 1) a0) := by
 intro a0 k
 obtain ⟨ih0, ih1⟩ := ecdysisref03_New.mono_l k
 unfold ecdysisref03_New.f
 repeat' first
   | (with_reducible exact ih0 _ _)
   | (with_reducible exact ih1 _ _ _)
   | (with_reducible exact LeO.refl _)
   | (with_reducible exact LeO.none _)
   | (with_reducible refine LeO.ite ?_ ?_)
   | (with_reducible refine LeO.bind ?_ (fun _ => ?_))
   | exact ih0 _ _
   | exact ih1 _ _ _
   | exact LeO.none _
   | refine LeO.ite ?_ ?_
   | refine LeO.bind ?_ (fun _ => ?_)
def ecdysisref03_New.T7 : Bool × List (List Nat × List Nat) := (true, [([], []), ([], []), ([], []), ([], []), ([3], [3]), ([1, 2, 4], [1, 2, 4]), ([], []), ([], []), ([], []), ([8], [8]), ([6, 7, 9], [6, 7, 9]), ([5, 10], [5, 10]), ([11], [11]), ([0, 12], [0, 12]), ([13, 13, 0, 1, 2, 3, 4, 5, 6, 7, 8, 9, 10, 11, 12, 13], [0, 13])])
def ecdysisref03_New.B7 : List Nat := [0, 0, 0, 0, 8, 30, 0, 0, 0, 256, 960, 2046, 4094, 8191, 16383]
theorem ecdysisref03_New.tab7 : rtab .any (opsOf Tryz.f18 7) = ecdysisref03_New.T7 := by kernel_rfl
theorem ecdysisref03_New.bits7 : waitsOk ecdysisref03_New.T7.2 ecdysisref03_New.B7 = true := by kernel_rfl
set_option maxHeartbeats 8000000 in
set_option maxRecDepth 100000 in
theorem ecdysisref03_New.calls (k : Nat) (a0 : ByteArray) (r1 : List (S94)) (r2 : Bool) (w : World) (h : ecdysisref03_New.f k a0 = some (r1, r2)) :
  Calls Tryz.prog 18 #[.string a0] w fun e w' => ∃ v0_ : Value, e = .returned (.tuple #[v0_, .bool r2]) ∧ Kd.R k94 94 w' w.heap.size (fun _ => True) v0_ r1 ∧ Below w.heap.size w w' := by
 have hu94 := Tryz.underlying94
 have HB := Aside0.mk (Below.refl w.heap.size w)
 have H : (if ((a0.size : Int) % 8) = 0 then (ecdysisref03_New.j0 k a0 (decide ((a0.size : Int) > 65536))) else (ecdysisref03_New.j0 k a0 true)) = some (r1, r2) := h
 clear h
 have HC2 := Aside0.mk H
 clear H
 go_enter Tryz.func18, Tryz.ntmps18
 go_upto_region 1 with (fail)
 go_cut [14] (fun v14 wc => ∃ (kq : Nat) (x14_1 : Bool), v14 = .bool x14_1 ∧ Aside0 (ecdysisref03_New.j0 kq a0 x14_1 = some (r1, r2)) ∧ Aside0 (kq ≤ k) ∧ Aside0 (Below w.heap.size w wc))
 case first =>
  have H := HC2.out
  clear HC2
  by_cases c3 : ((a0.size : Int) % 8) = 0
  ·rw [if_pos c3] at H
   have c3b0 : (((a0.size : Int) % 8) == 0) = true := beq_iff_eq.mpr c3
   have c3b1 : (((a0.size : Int) % 8) != 0) = false := bne_eq_false_iff_eq.mpr c3
   clear c3
   (first | rw [c3b0] | (simp only [i64_w, i32_w]; rw [c3b0]) | skip)
   have H' := Aside0.mk H
   clear H
   go_wp2
   go_meet
   case rel => exact ⟨_, (decide ((a0.size : Int) > 65536)), (by first | rfl | (simp; done) | (simp [*]; done)), H', ⟨by first | omega | exact Nat.le_refl _⟩, ⟨by repeat (first | (with_reducible first | exact HB.out | apply below_alloc | apply pw_below_drewN | apply below_drew1) | exact HB.out)⟩⟩
  ·rw [if_neg c3] at H
   have c3b0 : (((a0.size : Int) % 8) == 0) = false := beq_eq_false_iff_ne.mpr c3
   have c3b1 : (((a0.size : Int) % 8) != 0) = true := bne_iff_ne.mpr c3
   (first | rw [c3b0] | (simp only [i64_w, i32_w]; rw [c3b0]) | skip)
   have H' := Aside0.mk H
   clear H
   go_wp2
   go_meet
   case rel => exact ⟨_, (true), (by first | rfl | (simp; done) | (simp [*]; done)), H', ⟨by first | omega | exact Nat.le_refl _⟩, ⟨by repeat (first | (with_reducible first | exact HB.out | apply below_alloc | apply pw_below_drewN | apply below_drew1) | exact HB.out)⟩⟩
 case rest =>
  clear HC2
  try clear c1
  try clear p2
  try clear c3
  try clear c3b0
  try clear c3b1
  obtain ⟨kq, x14_1, rfl, HA, HJ1, HB⟩ := hcut
  cases kq with
  | zero => exact absurd HA.out (by simp [ecdysisref03_New.j0])
  | succ kj1 =>
   have H := HA.out
   clear HA
   simp only [ecdysisref03_New.j0] at H
   by_cases c4 : x14_1 = true
   ·subst c4
    have H1 : (some (([] : List (S94)), false)) = some (r1, r2) := by rw [if_pos rfl] at H; exact H
    clear H
    have H := H1
    clear H1
    simp only [Option.some.injEq, Prod.mk.injEq] at H
    obtain ⟨rfl, rfl⟩ := H
    go_wp2
    go_ret2
    exact ⟨_, by first | rfl | (simp [errW_none, errW_some] <;> rfl) | (simp [*, errW_none, errW_some] <;> rfl), by first | exact Kd.R_nil _ _ _ _ _ | exact Kd.N_nil _ _ _ _ _ | exact Kd.V_nil _ _ _ _ _ | exact Kd.Q_nil _ _ _ _ _ | exact Kd.S_nil _ _ _ _ _, by repeat (first | (with_reducible first | exact HB.out | apply below_alloc | apply pw_below_drewN | apply below_drew1) | exact HB.out)⟩
   ·replace c4 := Bool.eq_false_iff.mpr c4
    subst c4
    have H1 : (ecdysisref03_New.l0 kj1 a0 ([] : List (S94)) 0) = some (r1, r2) := by rw [if_neg (show ¬ (false = true) by decide)] at H; exact H
    clear H
    have H := H1
    clear H1
    have H' := Aside0.mk H
    clear H
    go_wp2
    go_loopg [4, 5] kj1 (fun kq v4 v5 w' => ∃ (x4_2 : List (S94)) (x5_2 : Int), v5 = .int .i64 x5_2 ∧ Aside0 (ecdysisref03_New.l0 kq a0 x4_2 x5_2 = some (r1, r2)) ∧ Aside0 (kq ≤ kj1) ∧ Aside0 (Kd.R k94 94 w' w.heap.size (fun _ => True) v4 x4_2) ∧ Aside0 (Below w.heap.size w w'))
    case atStart => exact ⟨(([] : List (S94))), (0), (by first | rfl | (simp; done) | (simp [*]; done)), H', ⟨Nat.le_refl _⟩, ⟨by first | exact Kd.R_nil _ _ _ _ _ | exact Kd.N_nil _ _ _ _ _ | exact Kd.V_nil _ _ _ _ _ | exact Kd.Q_nil _ _ _ _ _ | exact Kd.S_nil _ _ _ _ _⟩, ⟨by repeat (first | (with_reducible first | exact HB.out | apply below_alloc | apply pw_below_drewN | apply below_drew1) | exact HB.out)⟩⟩
    case round =>
     clear H'
     try clear c1
     try clear p2
     try clear c3
     try clear c3b0
     try clear c3b1
     try clear c4
     try clear p2
     obtain ⟨x4_2, x5_2, rfl, HA, HK2, HO_4, HB⟩ := hrel
     cases gk with
     | zero => exact absurd HA.out (by simp [ecdysisref03_New.l0])
     | succ k2 =>
      have H := HA.out
      clear HA
      simp only [ecdysisref03_New.l0] at H
      by_cases c5 : x5_2 < (a0.size : Int)
      ·rw [if_pos c5] at H
       have c5b0 : decide (x5_2 < (a0.size : Int)) = true := decide_eq_true c5
       clear c5
       by_cases c6 : 0 ≤ x5_2
       ·rw [if_pos c6] at H
        have c6b0 := eq_true c6
        have c6b1 : decide (0 ≤ x5_2) = true := decide_eq_true c6
        clear c6
        by_cases c7 : x5_2 ≤ (wrap64 (x5_2 + 8))
        ·rw [if_pos c7] at H
         have c7b0 := eq_true c7
         have c7b1 : decide (x5_2 ≤ (wrap64 (x5_2 + 8))) = true := decide_eq_true c7
         by_cases c8 : (wrap64 (x5_2 + 8)) ≤ (a0.size : Int)
         ·rw [if_pos c8] at H
          have c8b0 := eq_true c8
          have c8b1 : decide ((wrap64 (x5_2 + 8)) ≤ (a0.size : Int)) = true := decide_eq_true c8
          have c9b0 := eq_true (of_decide_eq_true (by first | (with_reducible assumption) | assumption) : 0 ≤ x5_2)
          have c10b0 := eq_true (of_decide_eq_true (by first | (with_reducible assumption) | assumption) : x5_2 ≤ (wrap64 (x5_2 + 8)))
          have c11b0 := eq_true (of_decide_eq_true (by first | (with_reducible assumption) | assumption) : (wrap64 (x5_2 + 8)) ≤ (a0.size : Int))
          by_cases c12 : x4_2.length < 3518437208883
          ·rw [if_pos c12] at H
           have LMc12 := Aside0.mk c12
           clear c12
           obtain ⟨y135, hy135⟩ : ∃ y_ : List (S94), y_ = (x4_2 ++ [(⟨a0.extract (x5_2 : Int).toNat ((wrap64 (x5_2 + 8)) : Int).toNat, a0.extract (x5_2 : Int).toNat ((wrap64 (x5_2 + 8)) : Int).toNat, false, false⟩ : S94)]) := ⟨_, rfl⟩
           replace H : (ecdysisref03_New.l0 k2 a0 y135 (wrap64 (x5_2 + 8))) = some (r1, r2) := by first | (rw [hy135]; with_reducible exact H) | (have H2_ := (Option.bind_some _ _).symm.trans H; rw [hy135]; with_reducible exact H2_) | (have H2_ := (Option.bind_some _ _).symm.trans H; with_reducible exact H2_) | with_reducible exact H | (rw [hy135]; exact H) | exact H
           have Ny135 := Aside0.mk hy135
           clear hy135
           have H' := Aside0.mk H
           clear H
           try go_wp2
           have n0_ := Aside0.mk (Kd.R_drew HO_4.out)
           have n1_ := Aside0.mk (below_drew1 HB.out)
           clear HO_4
           clear HB
           have HO_4 := n0_
           have HB := n1_
           clear n0_ n1_
           refine start_ (n := 15) (S := fun w' => True) (ds := []) #[false, false, false, false, false, false, false, false, false, false, false, false, false, false, false] (by kernel_rfl) rfl rfl trivial (fun hHeld => ?_); refine with_tabW ecdysisref03_New.tab7 ecdysisref03_New.bits7 (fun HT_ HW_ => ?_)
           generalize wr.drew = w13 at HO_4 HB hHeld ⊢
           refine pure_ (i := 0) (N := some 21) (v := ?_) (a' := ?_) #[true, false, false, false, false, false, false, false, false, false, false, false, false, false, false] rfl rfl (any_of HT_.out (by kernel_rfl)) (fun _ _ _ h => h) (Or.inl ⟨by rfl, ?_⟩) ?_ ?_
           rotate_left
           ·intro w'
            go_simp
            with_reducible rfl
           rotate_left
           ·simp only [Act.put, List.setIfInBounds_toArray, List.set_cons_zero, List.set_cons_succ, i64_w, i32_w]
            rfl
           refine pure_ (i := 1) (N := some 22) (v := ?_) (a' := ?_) #[true, true, false, false, false, false, false, false, false, false, false, false, false, false, false] rfl rfl (any_of HT_.out (by kernel_rfl)) (fun _ _ _ h => h) (Or.inl ⟨by rfl, ?_⟩) ?_ ?_
           rotate_left
           ·intro w'
            go_simp
            with_reducible rfl
           rotate_left
           ·simp only [Act.put, List.setIfInBounds_toArray, List.set_cons_zero, List.set_cons_succ, i64_w, i32_w]
            rfl
           refine pure_ (i := 2) (N := some 23) (v := ?_) (a' := ?_) #[true, true, true, false, false, false, false, false, false, false, false, false, false, false, false] rfl rfl (any_of HT_.out (by kernel_rfl)) (fun _ _ _ h => h) (Or.inl ⟨by rfl, ?_⟩) ?_ ?_
           rotate_left
           ·intro w'
            go_simp
            with_reducible rfl
           rotate_left
           ·simp only [Act.put, List.setIfInBounds_toArray, List.set_cons_zero, List.set_cons_succ, i64_w, i32_w]
            rfl
           refine pure_ (i := 3) (N := some 24) (v := ?_) (a' := ?_) #[true, true, true, true, false, false, false, false, false, false, false, false, false, false, false] rfl rfl (any_of HT_.out (by kernel_rfl)) (fun _ _ _ h => h) (Or.inl ⟨by rfl, ?_⟩) ?_ ?_
           rotate_left
           ·intro w'
            go_simp
            with_reducible rfl
           rotate_left
           ·simp only [Act.put, List.setIfInBounds_toArray, List.set_cons_zero, List.set_cons_succ, i64_w, i32_w]
            rfl
           refine pure_ (i := 4) (N := some 25) (v := ?_) (a' := ?_) #[true, true, true, true, true, false, false, false, false, false, false, false, false, false, false] rfl rfl (any_of HT_.out (by kernel_rfl)) (fun _ _ _ h => h) (Or.inl ⟨by rfl, ?_⟩) ?_ ?_
           rotate_left
           ·intro w'
            go_simp
            with_reducible rfl
           rotate_left
           ·simp only [Act.put, List.setIfInBounds_toArray, List.set_cons_zero, List.set_cons_succ, i64_w, i32_w]
            rfl
           refine pure_ (i := 5) (N := some 26) (v := ?_) (a' := ?_) #[true, true, true, true, true, true, false, false, false, false, false, false, false, false, false] rfl rfl (any_of HT_.out (by kernel_rfl)) (fun _ _ _ h => h) (Or.inl ⟨by rfl, ?_⟩) ?_ ?_
           rotate_left
           ·intro w'
            go_simp
            with_reducible rfl
           rotate_left
           ·simp only [Act.put, List.setIfInBounds_toArray, List.set_cons_zero, List.set_cons_succ, i64_w, i32_w]
            rfl
           refine pure_ (i := 6) (N := some 27) (v := ?_) (a' := ?_) #[true, true, true, true, true, true, true, false, false, false, false, false, false, false, false] rfl rfl (any_of HT_.out (by kernel_rfl)) (fun _ _ _ h => h) (Or.inl ⟨by rfl, ?_⟩) ?_ ?_
           rotate_left
           ·intro w'
            go_simp
            with_reducible rfl
           rotate_left
           ·simp only [Act.put, List.setIfInBounds_toArray, List.set_cons_zero, List.set_cons_succ, i64_w, i32_w]
            rfl
           refine pure_ (i := 7) (N := some 28) (v := ?_) (a' := ?_) #[true, true, true, true, true, true, true, true, false, false, false, false, false, false, false] rfl rfl (any_of HT_.out (by kernel_rfl)) (fun _ _ _ h => h) (Or.inl ⟨by rfl, ?_⟩) ?_ ?_
           rotate_left
           ·intro w'
            go_simp
            with_reducible rfl
           rotate_left
           ·simp only [Act.put, List.setIfInBounds_toArray, List.set_cons_zero, List.set_cons_succ, i64_w, i32_w]
            rfl
           refine pure_ (i := 8) (N := some 29) (v := ?_) (a' := ?_) #[true, true, true, true, true, true, true, true, true, false, false, false, false, false, false] rfl rfl (any_of HT_.out (by kernel_rfl)) (fun _ _ _ h => h) (Or.inl ⟨by rfl, ?_⟩) ?_ ?_
           rotate_left
           ·intro w'
            go_simp
            with_reducible rfl
           rotate_left
           ·simp only [Act.put, List.setIfInBounds_toArray, List.set_cons_zero, List.set_cons_succ, i64_w, i32_w]
            rfl
           refine pure_ (i := 9) (N := some 30) (v := ?_) (a' := ?_) #[true, true, true, true, true, true, true, true, true, true, false, false, false, false, false] rfl rfl (any_of HT_.out (by kernel_rfl)) (fun _ _ _ h => h) (Or.inl ⟨by rfl, ?_⟩) ?_ ?_
           rotate_left
           ·intro w'
            go_simp
            with_reducible rfl
           rotate_left
           ·simp only [Act.put, List.setIfInBounds_toArray, List.set_cons_zero, List.set_cons_succ, i64_w, i32_w]
            rfl
           refine pure_ (i := 10) (N := some 31) (v := ?_) (a' := ?_) #[true, true, true, true, true, true, true, true, true, true, true, false, false, false, false] rfl rfl (any_of HT_.out (by kernel_rfl)) (fun _ _ _ h => h) (Or.inl ⟨by rfl, ?_⟩) ?_ ?_
           rotate_left
           ·intro w'
            go_simp
            with_reducible rfl
           rotate_left
           ·simp only [Act.put, List.setIfInBounds_toArray, List.set_cons_zero, List.set_cons_succ, i64_w, i32_w]
            rfl
           refine pure_ (i := 11) (N := some 32) (v := ?_) (a' := ?_) #[true, true, true, true, true, true, true, true, true, true, true, true, false, false, false] rfl rfl (any_of HT_.out (by kernel_rfl)) (fun _ _ _ h => h) (Or.inl ⟨by rfl, ?_⟩) ?_ ?_
           rotate_left
           ·intro w'
            go_simp
            with_reducible rfl
           rotate_left
           ·simp only [Act.put, List.setIfInBounds_toArray, List.set_cons_zero, List.set_cons_succ, i64_w, i32_w]
            rfl
           refine one_ (i := 12) (N := some 33) #[true, true, true, true, true, true, true, true, true, true, true, true, true, false, false] rfl rfl (one_of HT_.out (by kernel_rfl)) (by decide) (fun K hK => ?_)
           refine value_ (w1 := ?_) (v := ?_) (by rfl) rfl ?_ ?_
           rotate_left 2
           ·go_simp
            constructor
            ·rfl
            ·rfl
           refine hK.out _ _ trivial (fun hHeld => ?_)
           clear hK K
           refine norm_ (a' := ?_) ?_ ?_
           rotate_left
           ·show Act.put _ (some 33) _ = _
            simp only [Act.put, List.setIfInBounds_toArray, List.set_cons_zero, List.set_cons_succ, i64_w, i32_w]
            rfl
           refine one_ (i := 13) (N := some 34) #[true, true, true, true, true, true, true, true, true, true, true, true, true, true, false] rfl rfl (one_of HT_.out (by kernel_rfl)) (by decide) (fun K hK => ?_)
           refine Kd.R_append_step k94 (w0 := w) w.heap.size (by rfl) (.tmp 21) (.tmp 33) 30 94 (.agg #[(.string ⟨#[]⟩), (.string ⟨#[]⟩), (.bool false), (.bool false)]) 40 rfl Tryz.underlying30 info94 rfl (by decide) (by omega) u4 x4_2 (⟨a0.extract (x5_2 : Int).toNat ((wrap64 (x5_2 + 8)) : Int).toNat, a0.extract (x5_2 : Int).toNat ((wrap64 (x5_2 + 8)) : Int).toNat, false, false⟩ : S94) [.string (a0.extract (x5_2 : Int).toNat ((wrap64 (x5_2 + 8)) : Int).toNat), .string (a0.extract (x5_2 : Int).toNat ((wrap64 (x5_2 + 8)) : Int).toNat), .bool false, .bool false] (fun _ => True) (fun _ => False) rfl rfl ?aP (fun _ hk => hk.elim) ?aF ?aO ?aB ?aS ?aL ?_
           (case aP => exact k94_mkM _ _ _ (⟨a0.extract (x5_2 : Int).toNat ((wrap64 (x5_2 + 8)) : Int).toNat, a0.extract (x5_2 : Int).toNat ((wrap64 (x5_2 + 8)) : Int).toNat, false, false⟩ : S94))
           (case aB => exact (by repeat (first | (with_reducible first | exact HB.out | apply below_alloc | apply pw_below_drewN | apply below_drew1) | exact HB.out)))
           (case aF => exact (fun _ _ => trivial))
           (case aO => exact (by (with_reducible repeat (first | apply Kd.R_alloc | apply Kd.R_drewN | apply Kd.R_drew)); exact HO_4.out))
           (case aS => exact (below_size (by repeat (first | (with_reducible first | exact HB.out | apply below_alloc | apply pw_below_drewN | apply below_drew1) | exact HB.out))))
           (case aL => have := LMc12.out; omega)
           intro v136 w14 ho hb hg hat
           rw [← Ny135.out] at ho
           have n0_ := Aside0.mk (hb)
           have n1_ := Aside0.mk (ho)
           clear HB
           clear HO_4
           have HB := n0_
           have HO137 := n1_
           clear n0_ n1_
           clear ho hb hg hat
           refine hK.out _ _ trivial (fun hHeld => ?_)
           clear hK K
           refine norm_ (a' := ?_) ?_ ?_
           rotate_left
           ·show Act.put _ (some 34) _ = _
            simp only [Act.put, List.setIfInBounds_toArray, List.set_cons_zero, List.set_cons_succ, i64_w, i32_w]
            rfl
           refine pure_ (i := 14) (N := some 4) (v := ?_) (a' := ?_) #[true, true, true, true, true, true, true, true, true, true, true, true, true, true, true] rfl rfl (any_of HT_.out (by kernel_rfl)) (fun _ _ _ h => h) (Or.inl ⟨by rfl, ?_⟩) ?_ ?_
           rotate_left
           ·intro w'
            go_simp
            with_reducible rfl
           rotate_left
           ·simp only [Act.put, List.setIfInBounds_toArray, List.set_cons_zero, List.set_cons_succ, i64_w, i32_w]
            rfl
           refine done_ (done_of HT_.out (by kernel_rfl)) ?_
           try go_wp2
           go_roundg k2
           case measure => have := HJ1.out; have := HK2.out; omega
           case rel => exact ⟨(y135), (wrap64 (x5_2 + 8)), (by first | rfl | (simp; done) | (simp [*]; done)), H', ⟨by have := HJ1.out; have := HK2.out; omega⟩, ⟨by (with_reducible repeat (first | apply Kd.R_alloc | apply Kd.R_drewN | apply Kd.R_drew)); exact HO137.out⟩, ⟨by repeat (first | (with_reducible first | exact HB.out | apply below_alloc | apply pw_below_drewN | apply below_drew1) | exact HB.out)⟩⟩
          ·rw [if_neg c12] at H
           exact absurd H (by simp)
         ·rw [if_neg c8] at H
          exact absurd H (by simp)
        ·rw [if_neg c7] at H
         exact absurd H (by simp)
       ·rw [if_neg c6] at H
        exact absurd H (by simp)
      ·rw [if_neg c5] at H
       have c5b0 : decide (x5_2 < (a0.size : Int)) = false := decide_eq_false c5
       clear c5
       simp only [Option.some.injEq, Prod.mk.injEq] at H
       obtain ⟨rfl, rfl⟩ := H
       go_wp2
       go_ret2
       exact ⟨_, by first | rfl | (simp [errW_none, errW_some] <;> rfl) | (simp [*, errW_none, errW_some] <;> rfl), by (with_reducible repeat (first | apply Kd.R_alloc | apply Kd.R_drewN | apply Kd.R_drew)); exact HO_4.out, by repeat (first | (with_reducible first | exact HB.out | apply below_alloc | apply pw_below_drewN | apply below_drew1) | exact HB.out)⟩
def ecdysisref03_Loose.l0 : Nat → List (S94) → List Int → Int → Option (List Int)
 | 0, _, _, _ => none
 | k + 1, x0, x3, x4 => if x4 < (x0.length : Int) then (if 0 ≤ x4 then (if (rd_T94 x0 x4).f2 = true then (if x3.length < 17592186044416 then (ecdysisref03_Loose.l0 k x0 (x3 ++ [x4]) (wrap64 (x4 + 1))) else (none)) else (ecdysisref03_Loose.l0 k x0 x3 (wrap64 (x4 + 1)))) else (none)) else (some x3)
def ecdysisref03_Loose.f (k : Nat) (l0 : List (S94)) : Option (List Int) := ecdysisref03_Loose.l0 k l0 ([] : List Int) 0
theorem ecdysisref03_Loose.mono_l : ∀ k, (∀ y0 y1 y2, LeO (ecdysisref03_Loose.l0 k y0 y1 y2) (ecdysisref03_Loose.l0 (k + 1) y0 y1 y2))
 | 0 => fun _ _ _ r h => by simp [ecdysisref03_Loose.l0] at h
 | k + 1 => by
  have ih0 := ecdysisref03_Loose.mono_l k
  ·intro y0 y1 y2
   unfold ecdysisref03_Loose.l0
   repeat' first
   | (with_reducible exact ih0 _ _ _)
   | (with_reducible exact LeO.refl _)
   | (with_reducible exact LeO.none _)
   | (with_reducible refine LeO.ite ?_ ?_)
   | (with_reducible refine LeO.bind ?_ (fun _ => ?_))
   | exact ih0 _ _ _
   | exact LeO.none _
   | refine LeO.ite ?_ ?_
   | refine LeO.bind ?_ (fun _ => ?_)
theorem ecdysisref03_Loose.mono : ∀ a0 k, LeO (ecdysisref03_Loose.f k a0) (ecdysisref03_Loose.f (k + 1) a0) := by
 intro a0 k
 have ih0 := ecdysisref03_Loose.mono_l k
 unfold ecdysisref03_Loose.f
 repeat' first
   | (with_reducible exact ih0 _ _ _)
   | (with_reducible exact LeO.refl _)
   | (with_reducible exact LeO.none _)
   | (with_reducible refine LeO.ite ?_ ?_)
   | (with_reducible refine LeO.bind ?_ (fun _ => ?_))
   | exact ih0 _ _ _
   | exact LeO.none _
   | refine LeO.ite ?_ ?_
   | refine LeO.bind ?_ (fun _ => ?_)
set_option maxHeartbeats 8000000 in
set_option maxRecDepth 100000 in
theorem ecdysisref03_Loose.calls (k : Nat) (A0 : Option Addr) (c0 : Nat) (l0 : List (S94)) (r : List Int) (w : World) (hr0 : Kd.C k94 w A0 l0.length l0) (hc0 : l0.length ≤ c0) (h : ecdysisref03_Loose.f k l0 = some r) :
  Calls Tryz.prog 44 #[.slice A0 l0.length c0] w fun e w' => ∃ v0_ : Value, e = .returned (v0_) ∧ Kd.R (Kd.int .i64) 3 w' w.heap.size (fun _ => True) v0_ r ∧ Below w.heap.size w w' := by
 have HR0 := Aside0.mk hr0
 have HC0 := Aside0.mk hc0
 clear hr0 hc0
 have HB := Aside0.mk (Below.refl w.heap.size w)
 have H : (ecdysisref03_Loose.l0 k l0 ([] : List Int) 0) = some r := h
 clear h
 have H' := Aside0.mk H
 clear H
 go_enter Tryz.func44, Tryz.ntmps44
 go_wp2
 go_loopg [3, 4] k (fun kq v3 v4 w' => ∃ (x3_1 : List Int) (x4_1 : Int), v4 = .int .i64 x4_1 ∧ Aside0 (ecdysisref03_Loose.l0 kq l0 x3_1 x4_1 = some r) ∧ Aside0 (kq ≤ k) ∧ Aside0 (Kd.R (Kd.int .i64) 3 w' w.heap.size (fun _ => True) v3 x3_1) ∧ Aside0 (Below w.heap.size w w'))
 case atStart => exact ⟨(([] : List Int)), (0), (by first | rfl | (simp; done) | (simp [*]; done)), H', ⟨Nat.le_refl _⟩, ⟨by first | exact Kd.R_nil _ _ _ _ _ | exact Kd.N_nil _ _ _ _ _ | exact Kd.V_nil _ _ _ _ _ | exact Kd.Q_nil _ _ _ _ _ | exact Kd.S_nil _ _ _ _ _⟩, ⟨by repeat (first | (with_reducible first | exact HB.out | apply below_alloc | apply pw_below_drewN | apply below_drew1) | exact HB.out)⟩⟩
 case round =>
  clear H'
  obtain ⟨x3_1, x4_1, rfl, HA, HK1, HO_3, HB⟩ := hrel
  cases gk with
  | zero => exact absurd HA.out (by simp [ecdysisref03_Loose.l0])
  | succ k1 =>
   have H := HA.out
   clear HA
   simp only [ecdysisref03_Loose.l0] at H
   by_cases c2 : x4_1 < (l0.length : Int)
   ·rw [if_pos c2] at H
    have c2b0 : decide (x4_1 < (l0.length : Int)) = true := decide_eq_true c2
    clear c2
    by_cases c3 : 0 ≤ x4_1
    ·rw [if_pos c3] at H
     have c3b0 : decide (0 ≤ x4_1) = true := decide_eq_true c3
     clear c3
     obtain ⟨bq4, hbq4⟩ : ∃ b_ : Bool, b_ = ((rd_T94 l0 x4_1).f2) := ⟨_, rfl⟩
     replace H : (if bq4 = true then (if x3_1.length < 17592186044416 then (ecdysisref03_Loose.l0 k1 l0 (x3_1 ++ [x4_1]) (wrap64 (x4_1 + 1))) else (none)) else (ecdysisref03_Loose.l0 k1 l0 x3_1 (wrap64 (x4_1 + 1)))) = some r := by rw [← hbq4] at H; exact H
     have Nbq4 := Aside0.mk hbq4
     clear hbq4
     by_cases c5 : bq4 = true
     ·subst c5
      have H1 : (if x3_1.length < 17592186044416 then (ecdysisref03_Loose.l0 k1 l0 (x3_1 ++ [x4_1]) (wrap64 (x4_1 + 1))) else (none)) = some r := by rw [if_pos rfl] at H; exact H
      clear H
      have H := H1
      clear H1
      by_cases c6 : x3_1.length < 17592186044416
      ·rw [if_pos c6] at H
       have LMc6 := Aside0.mk c6
       clear c6
       obtain ⟨y353, hy353⟩ : ∃ y_ : List Int, y_ = (x3_1 ++ [x4_1]) := ⟨_, rfl⟩
       replace H : (ecdysisref03_Loose.l0 k1 l0 y353 (wrap64 (x4_1 + 1))) = some r := by first | (rw [hy353]; with_reducible exact H) | (have H2_ := (Option.bind_some _ _).symm.trans H; rw [hy353]; with_reducible exact H2_) | (have H2_ := (Option.bind_some _ _).symm.trans H; with_reducible exact H2_) | with_reducible exact H | (rw [hy353]; exact H) | exact H
       have Ny353 := Aside0.mk hy353
       clear hy353
       have H' := Aside0.mk H
       clear H
       have p352 : 0 ≤ (x4_1 : Int) := of_decide_eq_true (by first | (with_reducible assumption) | assumption)
       have q352 : x4_1 < (l0.length : Int) := of_decide_eq_true (by first | (with_reducible assumption) | assumption)
       obtain ⟨ad352, e352, hx352_0, hx352_1, hx352_2, hx352_3⟩ := at_T94 HR0.out x4_1 p352 q352
       (try rw [← Nbq4.out] at hx352_2)
       (try rw [← Nbq4.out] at hx352_3)
       cases e352
       replace hx352_0 := (HB.out.cell (World.block_lt_of_cell? w _ hx352_0)).trans hx352_0
       replace hx352_1 := (HB.out.cell (World.block_lt_of_cell? w _ hx352_1)).trans hx352_1
       replace hx352_2 := (HB.out.cell (World.block_lt_of_cell? w _ hx352_2)).trans hx352_2
       replace hx352_3 := (HB.out.cell (World.block_lt_of_cell? w _ hx352_3)).trans hx352_3
       replace p352 := eq_true p352
       replace q352 := eq_true q352
       go_wp2_with (first | ((with_reducible refine gate_builtin (b := .append) (xs := #[.tmp 16, .tmp 18]) rfl ?_); at_builtin; refine Kd.R_append (Kd.int .i64) (w0 := w) w.heap.size rfl (.tmp 16) (.tmp 18) 52 3 (.int .i64 0) 8 rfl Tryz.underlying52 info3 rfl (by decide) (by omega) u3 x3_1 x4_1 [.int .i64 x4_1] (fun _ => True) (fun _ => False) rfl rfl ?aP (fun _ hk => hk.elim) ?aF ?aO ?aB ?aS ?aL ?_; (case aP => exact rfl); (case aB => exact (by repeat (first | (with_reducible first | exact HB.out | apply below_alloc | apply pw_below_drewN | apply below_drew1) | exact HB.out))); (case aF => exact (fun _ _ => trivial)); (case aO => exact (by (with_reducible repeat (first | apply Kd.R_alloc | apply Kd.R_drewN | apply Kd.R_drew)); exact HO_3.out)); (case aS => exact (below_size (by repeat (first | (with_reducible first | exact HB.out | apply below_alloc | apply pw_below_drewN | apply below_drew1) | exact HB.out)))); (case aL => have := LMc6.out; omega); intro v354 w7 ho hb hg hat; rw [← Ny353.out] at ho; have n0_ := Aside0.mk (hb); have n1_ := Aside0.mk (ho); clear HB; clear HO_3; have HB := n0_; have HO355 := n1_; clear n0_ n1_; clear ho hb hg hat))
       go_roundg k1
       case measure => have := HK1.out; omega
       case rel => exact ⟨(y353), (wrap64 (x4_1 + 1)), (by first | rfl | (simp; done) | (simp [*]; done)), H', ⟨by have := HK1.out; omega⟩, ⟨by (with_reducible repeat (first | apply Kd.R_alloc | apply Kd.R_drewN | apply Kd.R_drew)); exact HO355.out⟩, ⟨by repeat (first | (with_reducible first | exact HB.out | apply below_alloc | apply pw_below_drewN | apply below_drew1) | exact HB.out)⟩⟩
      ·rw [if_neg c6] at H
       exact absurd H (by simp)
     ·replace c5 := Bool.eq_false_iff.mpr c5
      subst c5
      have H1 : (ecdysisref03_Loose.l0 k1 l0 x3_1 (wrap64 (x4_1 + 1))) = some r := by rw [if_neg (show ¬ (false = true) by decide)] at H; exact H
      clear H
      have H := H1
      clear H1
      have H' := Aside0.mk H
      clear H
      have p352 : 0 ≤ (x4_1 : Int) := of_decide_eq_true (by first | (with_reducible assumption) | assumption)
      have q352 : x4_1 < (l0.length : Int) := of_decide_eq_true (by first | (with_reducible assumption) | assumption)
      obtain ⟨ad352, e352, hx352_0, hx352_1, hx352_2, hx352_3⟩ := at_T94 HR0.out x4_1 p352 q352
      (try rw [← Nbq4.out] at hx352_2)
      (try rw [← Nbq4.out] at hx352_3)
      cases e352
      replace hx352_0 := (HB.out.cell (World.block_lt_of_cell? w _ hx352_0)).trans hx352_0
      replace hx352_1 := (HB.out.cell (World.block_lt_of_cell? w _ hx352_1)).trans hx352_1
      replace hx352_2 := (HB.out.cell (World.block_lt_of_cell? w _ hx352_2)).trans hx352_2
      replace hx352_3 := (HB.out.cell (World.block_lt_of_cell? w _ hx352_3)).trans hx352_3
      replace p352 := eq_true p352
      replace q352 := eq_true q352
      go_wp2
      go_roundg k1
      case measure => have := HK1.out; omega
      case rel => exact ⟨(x3_1), (wrap64 (x4_1 + 1)), (by first | rfl | (simp; done) | (simp [*]; done)), H', ⟨by have := HK1.out; omega⟩, ⟨by (with_reducible repeat (first | apply Kd.R_alloc | apply Kd.R_drewN | apply Kd.R_drew)); exact HO_3.out⟩, ⟨by repeat (first | (with_reducible first | exact HB.out | apply below_alloc | apply pw_below_drewN | apply below_drew1) | exact HB.out)⟩⟩
    ·rw [if_neg c3] at H
     exact absurd H (by simp)
   ·rw [if_neg c2] at H
    have c2b0 : decide (x4_1 < (l0.length : Int)) = false := decide_eq_false c2
    clear c2
    obtain rfl := Option.some.inj H
    go_wp2
    go_ret
    exact ⟨_, by first | rfl | (simp [errW_none, errW_some] <;> rfl) | (simp [*, errW_none, errW_some] <;> rfl), by (with_reducible repeat (first | apply Kd.R_alloc | apply Kd.R_drewN | apply Kd.R_drew)); exact HO_3.out, by repeat (first | (with_reducible first | exact HB.out | apply below_alloc | apply pw_below_drewN | apply below_drew1) | exact HB.out)⟩
end Go.Proofs.YtbfogcckbhkciaaGreat.PHandRP
namespace Go.Proofs.YtbfogcckbhkciaaGreat.PHandRD
set_option linter.unusedVariables false
set_option linter.unusedSimpArgs false
open Go.RowKit Go.Proofs.YtbfogcckbhkciaaGreatW.PrintWords Go.Proofs.YtbfogcckbhkciaaGreatW.PrintLast Go.Proofs.YtbfogcckbhkciaaGreatW.PrintMore
attribute [local go_sem] max2_int min2_int max_two min_two max_three min_three max_four min_four   -- for this text's walks alone
set_option linter.unusedVariables false
set_option linter.unusedSimpArgs false
open Go.Proofs.YtbfogcckbhkciaaGreat.PHandRP
mutual
def ecdysisref03_Do.j0 : Nat → List (S94) → Int → Int → Int → Int → List Int → List Int → Option ((List (S94)) × ByteArray × Int)
 | 0, _, _, _, _, _, _, _ => none
 | k + 1, x0, x7, x116000, x116001, x116002, x116003, x116004 => if x116000 ≥ 0 then (ecdysisref03_Do.j1 k x0 x7 (decide (x116000 ≤ 2)) x116000 x116001 x116002 x116003 x116004) else (ecdysisref03_Do.j1 k x0 x7 false x116000 x116001 x116002 x116003 x116004)
def ecdysisref03_Do.j1 : Nat → List (S94) → Int → Bool → Int → Int → Int → List Int → List Int → Option ((List (S94)) × ByteArray × Int)
 | 0, _, _, _, _, _, _, _, _ => none
 | k + 1, x0, x7, x28, x116000, x116001, x116002, x116003, x116004 => if x28 = true then ((ecdysisref03_Inside.f x0 x116001 x7).bind fun t116 => (if t116 = 0 then (ecdysisref03_Do.j2 k x0 x7 x116000 x116001 x116002 x116003 x116004) else (some (x0, (⟨#[]⟩ : ByteArray), t116)))) else (ecdysisref03_Do.j2 k x0 x7 x116000 x116001 x116002 x116003 x116004)
def ecdysisref03_Do.j2 : Nat → List (S94) → Int → Int → Int → Int → List Int → List Int → Option ((List (S94)) × ByteArray × Int)
 | 0, _, _, _, _, _, _, _ => none
 | k + 1, x0, x7, x116000, x116001, x116002, x116003, x116004 => if x116000 = 0 then (ecdysisref03_Do.l0 k x0 x7 0 x116000 x116001 x116002 x116003 x116004) else (if x116000 = 1 then ((ecdysisref03_Bytes.f k x0).bind fun t121 => (if 0 ≤ x116001 then (if x116001 ≤ (wrap64 (x116001 + x7)) then (if (wrap64 (x116001 + x7)) ≤ (t121.size : Int) then (some (x0, t121.extract (x116001 : Int).toNat ((wrap64 (x116001 + x7)) : Int).toNat, 0)) else (none)) else (none)) else (none))) else (ecdysisref03_Do.j4 k x0 x7 x116000 x116001 x116002 x116003 x116004))
def ecdysisref03_Do.j4 : Nat → List (S94) → Int → Int → Int → Int → List Int → List Int → Option ((List (S94)) × ByteArray × Int)
 | 0, _, _, _, _, _, _, _ => none
 | k + 1, x0, x7, x116000, x116001, x116002, x116003, x116004 => (some (([] : List (S94)) : List (S94))).bind fun y122 => (if y122.length + x0.length < 3518437208883 then (ecdysisref03_Do.l1 k x7 (y122 ++ x0) 0 x116000 x116001 x116002 x116003 x116004) else (none))
def ecdysisref03_Do.l1 : Nat → Int → List (S94) → Int → Int → Int → Int → List Int → List Int → Option ((List (S94)) × ByteArray × Int)
 | 0, _, _, _, _, _, _, _, _ => none
 | k + 1, x7, x10, x11, x116000, x116001, x116002, x116003, x116004 => if x11 < (x10.length : Int) then (if 0 ≤ x11 then (if x116000 = 2 then (if x7 > 0 then (if (wrap64 (8 * x11)) < (wrap64 (x116001 + x7)) then (if (wrap64 ((wrap64 (8 * x11)) + 8)) > x116001 then (ecdysisref03_Do.j6 k x7 x10 x11 ((rd_T94 x10 x11).f2) x116000 x116001 x116002 x116003 x116004 ((rd_T94 x10 x11).f0) ((rd_T94 x10 x11).f1) ((rd_T94 x10 x11).f2) ((rd_T94 x10 x11).f3)) else (ecdysisref03_Do.j6 k x7 x10 x11 false x116000 x116001 x116002 x116003 x116004 ((rd_T94 x10 x11).f0) ((rd_T94 x10 x11).f1) ((rd_T94 x10 x11).f2) ((rd_T94 x10 x11).f3))) else (ecdysisref03_Do.j6 k x7 x10 x11 false x116000 x116001 x116002 x116003 x116004 ((rd_T94 x10 x11).f0) ((rd_T94 x10 x11).f1) ((rd_T94 x10 x11).f2) ((rd_T94 x10 x11).f3))) else (ecdysisref03_Do.j6 k x7 x10 x11 false x116000 x116001 x116002 x116003 x116004 ((rd_T94 x10 x11).f0) ((rd_T94 x10 x11).f1) ((rd_T94 x10 x11).f2) ((rd_T94 x10 x11).f3))) else (ecdysisref03_Do.j6 k x7 x10 x11 false x116000 x116001 x116002 x116003 x116004 ((rd_T94 x10 x11).f0) ((rd_T94 x10 x11).f1) ((rd_T94 x10 x11).f2) ((rd_T94 x10 x11).f3))) else (none)) else (some (x10, (⟨#[]⟩ : ByteArray), 0))
def ecdysisref03_Do.j6 : Nat → Int → List (S94) → Int → Bool → Int → Int → Int → List Int → List Int → ByteArray → ByteArray → Bool → Bool → Option ((List (S94)) × ByteArray × Int)
 | 0, _, _, _, _, _, _, _, _, _, _, _, _, _ => none
 | k + 1, x7, x10, x11, x110, x116000, x116001, x116002, x116003, x116004, x130000, x130001, x130002, x130003 => if x110 = true then (ecdysisref03_Do.j7 k x7 x10 x11 x116000 x116001 x116002 x116003 x116004 x130000 x130001 x130002 true) else (ecdysisref03_Do.j7 k x7 x10 x11 x116000 x116001 x116002 x116003 x116004 x130000 x130001 x130002 x130003)
def ecdysisref03_Do.j7 : Nat → Int → List (S94) → Int → Int → Int → Int → List Int → List Int → ByteArray → ByteArray → Bool → Bool → Option ((List (S94)) × ByteArray × Int)
 | 0, _, _, _, _, _, _, _, _, _, _, _, _ => none
 | k + 1, x7, x10, x11, x116000, x116001, x116002, x116003, x116004, x130000, x130001, x130002, x130003 => if x116000 = 3 then (ecdysisref03_Do.j8 k x7 x10 x11 x130003 x116000 x116001 x116002 x116003 x116004 x130000 x130001 x130002 x130003) else (ecdysisref03_Do.j8 k x7 x10 x11 false x116000 x116001 x116002 x116003 x116004 x130000 x130001 x130002 x130003)
def ecdysisref03_Do.j8 : Nat → Int → List (S94) → Int → Bool → Int → Int → Int → List Int → List Int → ByteArray → ByteArray → Bool → Bool → Option ((List (S94)) × ByteArray × Int)
 | 0, _, _, _, _, _, _, _, _, _, _, _, _, _ => none
 | k + 1, x7, x10, x11, x118, x116000, x116001, x116002, x116003, x116004, x130000, x130001, x130002, x130003 => if x118 = true then (ecdysisref03_Do.j9 k x7 x10 x11 x116000 x116001 x116002 x116003 x116004 x130000 x130000 false false) else (ecdysisref03_Do.j9 k x7 x10 x11 x116000 x116001 x116002 x116003 x116004 x130000 x130001 x130002 x130003)
def ecdysisref03_Do.j9 : Nat → Int → List (S94) → Int → Int → Int → Int → List Int → List Int → ByteArray → ByteArray → Bool → Bool → Option ((List (S94)) × ByteArray × Int)
 | 0, _, _, _, _, _, _, _, _, _, _, _, _ => none
 | k + 1, x7, x10, x11, x116000, x116001, x116002, x116003, x116004, x130000, x130001, x130002, x130003 => if x116000 = 4 then (if x130002 = true then ((ecdysisref03_has.f k x116004 x11).bind fun t130 => (ecdysisref03_Do.j10 k x7 x10 x11 (!t130) x116000 x116001 x116002 x116003 x116004 x130000 x130001 x130002 x130003)) else (ecdysisref03_Do.j10 k x7 x10 x11 false x116000 x116001 x116002 x116003 x116004 x130000 x130001 x130002 x130003)) else (ecdysisref03_Do.j10 k x7 x10 x11 false x116000 x116001 x116002 x116003 x116004 x130000 x130001 x130002 x130003)
def ecdysisref03_Do.j10 : Nat → Int → List (S94) → Int → Bool → Int → Int → Int → List Int → List Int → ByteArray → ByteArray → Bool → Bool → Option ((List (S94)) × ByteArray × Int)
 | 0, _, _, _, _, _, _, _, _, _, _, _, _, _ => none
 | k + 1, x7, x10, x11, x137, x116000, x116001, x116002, x116003, x116004, x130000, x130001, x130002, x130003 => if x137 = true then (if x116000 = 4 then (if 0 ≤ x11 then (if x11 < (x10.length : Int) then (ecdysisref03_Do.l1 k x7 (x10.set (x11 : Int).toNat (⟨x130001, x130001, false, false⟩ : S94)) (wrap64 (x11 + 1)) x116000 x116001 x116002 x116003 x116004) else (none)) else (none)) else (if 0 ≤ x11 then (if x11 < (x10.length : Int) then (ecdysisref03_Do.l1 k x7 (x10.set (x11 : Int).toNat (⟨x130001, x130001, x130002, x130003⟩ : S94)) (wrap64 (x11 + 1)) x116000 x116001 x116002 x116003 x116004) else (none)) else (none))) else (if x116000 = 4 then (if 0 ≤ x11 then (if x11 < (x10.length : Int) then (ecdysisref03_Do.l1 k x7 (x10.set (x11 : Int).toNat (⟨x130000, x130000, false, false⟩ : S94)) (wrap64 (x11 + 1)) x116000 x116001 x116002 x116003 x116004) else (none)) else (none)) else (if 0 ≤ x11 then (if x11 < (x10.length : Int) then (ecdysisref03_Do.l1 k x7 (x10.set (x11 : Int).toNat (⟨x130000, x130001, x130002, x130003⟩ : S94)) (wrap64 (x11 + 1)) x116000 x116001 x116002 x116003 x116004) else (none)) else (none)))
def ecdysisref03_Do.l0 : Nat → List (S94) → Int → Int → Int → Int → Int → List Int → List Int → Option ((List (S94)) × ByteArray × Int)
 | 0, _, _, _, _, _, _, _, _ => none
 | k + 1, x0, x7, x9, x116000, x116001, x116002, x116003, x116004 => if x9 < x7 then (if 0 ≤ x9 then (if x9 < (x116003.length : Int) then ((ecdysisref03_write.f x0 (wrap64 (x116001 + x9)) (rd x116003 x9)).bind fun t118 => (ecdysisref03_Do.l0 k t118 x7 (wrap64 (x9 + 1)) x116000 x116001 x116002 x116003 x116004)) else (none)) else (none)) else (ecdysisref03_Do.j4 k x0 x7 x116000 x116001 x116002 x116003 x116004)
end
def ecdysisref03_Do.f (k : Nat) (l0 : List (S94)) (a1_0 : Int) (a1_1 : Int) (a1_2 : Int) (l1_3 : List Int) (l1_4 : List Int) : Option ((List (S94)) × ByteArray × Int) := if a1_0 = 0 then (ecdysisref03_Do.j0 k l0 (l1_3.length : Int) a1_0 a1_1 a1_2 l1_3 l1_4) else (ecdysisref03_Do.j0 k l0 a1_2 a1_0 a1_1 a1_2 l1_3 l1_4)
theorem ecdysisref03_Do.mono_l : ∀ k, (∀ y0 y1 y2 y3 y4 y5 y6, LeO (ecdysisref03_Do.j0 k y0 y1 y2 y3 y4 y5 y6) (ecdysisref03_Do.j0 (k + 1) y0 y1 y2 y3 y4 y5 y6)) ∧ (∀ y0 y1 y2 y3 y4 y5 y6 y7, LeO (ecdysisref03_Do.j1 k y0 y1 y2 y3 y4 y5 y6 y7) (ecdysisref03_Do.j1 (k + 1) y0 y1 y2 y3 y4 y5 y6 y7)) ∧ (∀ y0 y1 y2 y3 y4 y5 y6, LeO (ecdysisref03_Do.j2 k y0 y1 y2 y3 y4 y5 y6) (ecdysisref03_Do.j2 (k + 1) y0 y1 y2 y3 y4 y5 y6)) ∧ (∀ y0 y1 y2 y3 y4 y5 y6, LeO (ecdysisref03_Do.j4 k y0 y1 y2 y3 y4 y5 y6) (ecdysisref03_Do.j4 (k + 1) y0 y1 y2 y3 y4 y5 y6)) ∧ (∀ y0 y1 y2 y3 y4 y5 y6 y7, LeO (ecdysisref03_Do.l1 k y0 y1 y2 y3 y4 y5 y6 y7) (ecdysisref03_Do.l1 (k + 1) y0 y1 y2 y3 y4 y5 y6 y7)) ∧ (∀ y0 y1 y2 y3 y4 y5 y6 y7 y8 y9 y10 y11 y12, LeO (ecdysisref03_Do.j6 k y0 y1 y2 y3 y4 y5 y6 y7 y8 y9 y10 y11 y12) (ecdysisref03_Do.j6 (k + 1) y0 y1 y2 y3 y4 y5 y6 y7 y8 y9 y10 y11 y12)) ∧ (∀ y0 y1 y2 y3 y4 y5 y6 y7 y8 y9 y10 y11, LeO (ecdysisref03_Do.j7 k y0 y1 y2 y3 y4 y5 y6 y7 y8 y9 y10 y11) (ecdysisref03_Do.j7 (k + 1) y0 y1 y2 y3 y4 y5 y6 y7 y8 y9 y10 y11)) ∧ (∀ y0 y1 y2 y3 y4 y5 y6 y7 y8 y9 y10 y11 y12, LeO (ecdysisref03_Do.j8 k y0 y1 y2 y3 y4 y5 y6 y7 y8 y9 y10 y11 y12) (ecdysisref03_Do.j8 (k + 1) y0 y1 y2 y3 y4 y5 y6 y7 y8 y9 y10 y11 y12)) ∧ (∀ y0 y1 y2 y3 y4 y5 y6 y7 y8 y9 y10 y11, LeO (ecdysisref03_Do.j9 k y0 y1 y2 y3 y4 y5 y6 y7 y8 y9 y10 y11) (ecdysisref03_Do.j9 (k + 1) y0 y1 y2 y3 y4 y5 y6 y7 y8 y9 y10 y11)) ∧ (∀ y0 y1 y2 y3 y4 y5 y6 y7 y8 y9 y10 y11 y12, LeO (ecdysisref03_Do.j10 k y0 y1 y2 y3 y4 y5 y6 y7 y8 y9 y10 y11 y12) (ecdysisref03_Do.j10 (k + 1) y0 y1 y2 y3 y4 y5 y6 y7 y8 y9 y10 y11 y12)) ∧ (∀ y0 y1 y2 y3 y4 y5 y6 y7, LeO (ecdysisref03_Do.l0 k y0 y1 y2 y3 y4 y5 y6 y7) (ecdysisref03_Do.l0 (k + 1) y0 y1 y2 y3 y4 y5 y6 y7))
 | 0 => ⟨fun _ _ _ _ _ _ _ r h => by simp [ecdysisref03_Do.j0] at h, fun _ _ _ _ _ _ _ _ r h => by simp [ecdysisref03_Do.j1] at h, fun _ _ _ _ _ _ _ r h => by simp [ecdysisref03_Do.j2] at h, fun _ _ _ _ _ _ _ r h => by simp [ecdysisref03_Do.j4] at h, fun _ _ _ _ _ _ _ _ r h => by simp [ecdysisref03_Do.l1] at h, fun _ _ _ _ _ _ _ _ _ _ _ _ _ r h => by simp [ecdysisref03_Do.j6] at h, fun _ _ _ _ _ _ _ _ _ _ _ _ r h => by simp [ecdysisref03_Do.j7] at h, fun _ _ _ _ _ _ _ _ _ _ _ _ _ r h => by simp [ecdysisref03_Do.j8] at h, fun _ _ _ _ _ _ _ _ _ _ _ _ r h => by simp [ecdysisref03_Do.j9] at h, fun _ _ _ _ _ _ _ _ _ _ _ _ _ r h => by simp [ecdysisref03_Do.j10] at h, fun _ _ _ _ _ _ _ _ r h => by simp [ecdysisref03_Do.l0] at h⟩
 | k + 1 => by
  obtain ⟨ih0, ih1, ih2, ih3, ih4, ih5, ih6, ih7, ih8, ih9, ih10⟩ := ecdysisref03_Do.mono_l k
  refine ⟨?_, ?_, ?_, ?_, ?_, ?_, ?_, ?_, ?_, ?_, ?_⟩
  ·intro y0 y1 y2 y3 y4 y5 y6
   unfold ecdysisref03_Do.j0
   repeat' first
   | (with_reducible exact ih0 _ _ _ _ _ _ _)
   | (with_reducible exact ih1 _ _ _ _ _ _ _ _)
   | (with_reducible exact ih2 _ _ _ _ _ _ _)
   | (with_reducible exact ih3 _ _ _ _ _ _ _)
   | (with_reducible exact ih4 _ _ _ _ _ _ _ _)
   | (with_reducible exact ih5 _ _ _ _ _ _ _ _ _ _ _ _ _)
   | (with_reducible exact ih6 _ _ _ _ _ _ _ _ _ _ _ _)
   | (with_reducible exact ih7 _ _ _ _ _ _ _ _ _ _ _ _ _)
   | (with_reducible exact ih8 _ _ _ _ _ _ _ _ _ _ _ _)
   | (with_reducible exact ih9 _ _ _ _ _ _ _ _ _ _ _ _ _)
   | (with_reducible exact ih10 _ _ _ _ _ _ _ _)
   | (with_reducible exact ecdysisref03_Bytes.mono _ _)
   | (with_reducible exact ecdysisref03_has.mono _ _ _)
   | (with_reducible exact LeO.refl _)
   | (with_reducible exact LeO.none _)
   | (with_reducible refine LeO.ite ?_ ?_)
   | (with_reducible refine LeO.bind ?_ (fun _ => ?_))
   | exact ih0 _ _ _ _ _ _ _
   | exact ih1 _ _ _ _ _ _ _ _
   | exact ih2 _ _ _ _ _ _ _
   | exact ih3 _ _ _ _ _ _ _
   | exact ih4 _ _ _ _ _ _ _ _
   | exact ih5 _ _ _ _ _ _ _ _ _ _ _ _ _
   | exact ih6 _ _ _ _ _ _ _ _ _ _ _ _
   | exact ih7 _ _ _ _ _ _ _ _ _ _ _ _ _
   | exact ih8 _ _ _ _ _ _ _ _ _ _ _ _
   | exact ih9 _ _ _ _ _ _ _ _ _ _ _ _ _
   | exact ih10 _ _ _ _ _ _ _ _
   | exact ecdysisref03_Bytes.mono _ _
   | exact ecdysisref03_has.mono _ _ _
   | exact LeO.none _
   | refine LeO.ite ?_ ?_
   | refine LeO.bind ?_ (fun _ => ?_)
  ·intro y0 y1 y2 y3 y4 y5 y6 y7
   unfold ecdysisref03_Do.j1
   repeat' first
   | (with_reducible exact ih0 _ _ _ _ _ _ _)
   | (with_reducible exact ih1 _ _ _ _ _ _ _ _)
   | (with_reducible exact ih2 _ _ _ _ _ _ _)
   | (with_reducible exact ih3 _ _ _ _ _ _ _)
   | (with_reducible exact ih4 _ _ _ _ _ _ _ _)
   | (with_reducible exact ih5 _ _ _ _ _ _ _ _ _ _ _ _ _)
   | (with_reducible exact ih6 _ _ _ _ _ _ _ _ _ _ _ _)
   | (with_reducible exact ih7 _ _ _ _ _ _ _ _ _ _ _ _ _)
   | (with_reducible exact ih8 _ _ _ _ _ _ _ _ _ _ _ _)
   | (with_reducible exact ih9 _ _ _ _ _ _ _ _ _ _ _ _ _)
   | (with_reducible exact ih10 _ _ _ _ _ _ _ _)
   | (with_reducible exact ecdysisref03_Bytes.mono _ _)
   | (with_reducible exact ecdysisref03_has.mono _ _ _)
   | (with_reducible exact LeO.refl _)
   | (with_reducible exact LeO.none _)
   | (with_reducible refine LeO.ite ?_ ?_)
   | (with_reducible refine LeO.bind ?_ (fun _ => ?_))
   | exact ih0 _ _ _ _ _ _ _
   | exact ih1 _ _ _ _ _ _ _ _
   | exact ih2 _ _ _ _ _ _ _
   | exact ih3 _ _ _ _ _ _ _
   | exact ih4 _ _ _ _ _ _ _ _
   | exact ih5 _ _ _ _ _ _ _ _ _ _ _ _ _
   | exact ih6 _ _ _ _ _ _ _ _ _ _ _ _
   | exact ih7 _ _ _ _ _ _ _ _ _ _ _ _ _
   | exact ih8 _ _ _ _ _ _ _ _ _ _ _ _
   | exact ih9 _ _ _ _ _ _ _ _ _ _ _ _ _
   | exact ih10 _ _ _ _ _ _ _ _
   | exact ecdysisref03_Bytes.mono _ _
   | exact ecdysisref03_has.mono _ _ _
   | exact LeO.none _
   | refine LeO.ite ?_ ?_
   | refine LeO.bind ?_ (fun _ => ?_)
  ·intro y0 y1 y2 y3 y4 y5 y6
   unfold ecdysisref03_Do.j2
   repeat' first
   | (with_reducible exact ih0 _ _ _ _ _ _ _)
   | (with_reducible exact ih1 _ _ _ _ _ _ _ _)
   | (with_reducible exact ih2 _ _ _ _ _ _ _)
   | (with_reducible exact ih3 _ _ _ _ _ _ _)
   | (with_reducible exact ih4 _ _ _ _ _ _ _ _)
   | (with_reducible exact ih5 _ _ _ _ _ _ _ _ _ _ _ _ _)
   | (with_reducible exact ih6 _ _ _ _ _ _ _ _ _ _ _ _)
   | (with_reducible exact ih7 _ _ _ _ _ _ _ _ _ _ _ _ _)
   | (with_reducible exact ih8 _ _ _ _ _ _ _ _ _ _ _ _)
   | (with_reducible exact ih9 _ _ _ _ _ _ _ _ _ _ _ _ _)
   | (with_reducible exact ih10 _ _ _ _ _ _ _ _)
   | (with_reducible exact ecdysisref03_Bytes.mono _ _)
   | (with_reducible exact ecdysisref03_has.mono _ _ _)
   | (with_reducible exact LeO.refl _)
   | (with_reducible exact LeO.none _)
   | (with_reducible refine LeO.ite ?_ ?_)
   | (with_reducible refine LeO.bind ?_ (fun _ => ?_))
   | exact ih0 _ _ _ _ _ _ _
   | exact ih1 _ _ _ _ _ _ _ _
   | exact ih2 _ _ _ _ _ _ _
   | exact ih3 _ _ _ _ _ _ _
   | exact ih4 _ _ _ _ _ _ _ _
   | exact ih5 _ _ _ _ _ _ _ _ _ _ _ _ _
   | exact ih6 _ _ _ _ _ _ _ _ _ _ _ _
   | exact ih7 _ _ _ _ _ _ _ _ _ _ _ _ _
   | exact ih8 _ _ _ _ _ _ _ _ _ _ _ _
   | exact ih9 _ _ _ _ _ _ _ _ _ _ _ _ _
   | exact ih10 _ _ _ _ _ _ _ _
   | exact ecdysisref03_Bytes.mono _ _
   | exact ecdysisref03_has.mono _ _ _
   | exact LeO.none _
   | refine LeO.ite ?_ ?_
   | refine LeO.bind ?_ (fun _ => ?_)
  ·intro y0 y1 y2 y3 y4 y5 y6
   unfold ecdysisref03_Do.j4
   repeat' first
   | (with_reducible exact ih0 _ _ _ _ _ _ _)
   | (with_reducible exact ih1 _ _ _ _ _ _ _ _)
   | (with_reducible exact ih2 _ _ _ _ _ _ _)
   | (with_reducible exact ih3 _ _ _ _ _ _ _)
   | (with_reducible exact ih4 _ _ _ _ _ _ _ _)
   | (with_reducible exact ih5 _ _ _ _ _ _ _ _ _ _ _ _ _)
   | (with_reducible exact ih6 _ _ _ _ _ _ _ _ _ _ _ _)
   | (with_reducible exact ih7 _ _ _ _ _ _ _ _ _ _ _ _ _)
   | (with_reducible exact ih8 _ _ _ _ _ _ _ _ _ _ _ _)
   | (with_reducible exact ih9 _ _ _ _ _ _ _ _ _ _ _ _ _)
   | (with_reducible exact ih10 _ _ _ _ _ _ _ _)
   | (with_reducible exact ecdysisref03_Bytes.mono _ _)
   | (with_reducible exact ecdysisref03_has.mono _ _ _)
   | (with_reducible exact LeO.refl _)
   | (with_reducible exact LeO.none _)
   | (with_reducible refine LeO.ite ?_ ?_)
   | (with_reducible refine LeO.bind ?_ (fun _ => ?_))
   | exact ih0 _ _ _ _ _ _ _
   | exact ih1 _ _ _ _ _ _ _ _
   | exact ih2 _ _ _ _ _ _ _
   | exact ih3 _ _ _ _ _ _ _
   | exact ih4 _ _ _ _ _ _ _ _
   | exact ih5 _ _ _ _ _ _ _ _ _ _ _ _ _
   | exact ih6 _ _ _ _ _ _ _ _ _ _ _ _
   | exact ih7 _ _ _ _ _ _ _ _ _ _ _ _ _
   | exact ih8 _ _ _ _ _ _ _ _ _ _ _ _
   | exact ih9 _ _ _ _ _ _ _ _ _ _ _ _ _
   | exact ih10 _ _ _ _ _ _ _ _
   | exact ecdysisref03_Bytes.mono _ _
   | exact ecdysisref03_has.mono _ _ _
   | exact LeO.none _
   | refine LeO.ite ?_ ?_
   | refine LeO.bind ?_ (fun _ => ?_)
  ·intro y0 y1 y2 y3 y4 y5 y6 y7
   unfold ecdysisref03_Do.l1
   repeat' first
   | (with_reducible exact ih0 _ _ _ _ _ _ _)
   | (with_reducible exact ih1 _ _ _ _ _ _ _ _)
   | (with_reducible exact ih2 _ _ _ _ _ _ _)
   | (with_reducible exact ih3 _ _ _ _ _ _ _)
   | (with_reducible exact ih4 _ _ _ _ _ _ _ _)
   | (with_reducible exact ih5 _ _ _ _ _ _ _ _ _ _ _ _ _)
   | (with_reducible exact ih6 _ _ _ _ _ _ _ _ _ _ _ _)
   | (with_reducible exact ih7 _ _ _ _ _ _ _ _ _ _ _ _ _)
   | (with_reducible exact ih8 _ _ _ _ _ _ _ _ _ _ _ _)
   | (with_reducible exact ih9 _ _ _ _ _ _ _ _ _ _ _ _ _)
   | (with_reducible exact ih10 _ _ _ _ _ _ _ _)
   | (with_reducible exact ecdysisref03_Bytes.mono _ _)
   | (with_reducible exact ecdysisref03_has.mono _ _ _)
   | (with_reducible exact LeO.refl _)
   | (with_reducible exact LeO.none _)
   | (with_reducible refine LeO.ite ?_ ?_)
   | (with_reducible refine LeO.bind ?_ (fun _ => ?_))
   | exact ih0 _ _ _ _ _ _ _
   | exact ih1 _ _ _ _ _ _ _ _
   | exact ih2 _ _ _ _ _ _ _
   | exact ih3 _ _ _ _ _ _ _
   | exact ih4 _ _ _ _ _ _ _ _
   | exact ih5 _ _ _ _ _ _ _ _ _ _ _ _ _
   | exact ih6 _ _ _ _ _ _ _ _ _ _ _ _
   | exact ih7 _ _ _ _ _ _ _ _ _ _ _ _ _
   | exact ih8 _ _ _ _ _ _ _ _ _ _ _ _
   | exact ih9 _ _ _ _ _ _ _ _ _ _ _ _ _
   | exact ih10 _ _ _ _ _ _ _ _
   | exact ecdysisref03_Bytes.mono _ _
   | exact ecdysisref03_has.mono _ _ _
   | exact LeO.none _
   | refine LeO.ite ?_ ?_
   | refine LeO.bind ?_ (fun _ => ?_)
  ·intro y0 y1 y2 y3 y4 y5 y6 y7 y8 y9 y10 y11 y12
   unfold ecdysisref03_Do.j6
   repeat' first
   | (with_reducible exact ih0 _ _ _ _ _ _ _)
   | (with_reducible exact ih1 _ _ _ _ _ _ _ _)
   | (with_reducible exact ih2 _ _ _ _ _ _ _)
   | (with_reducible exact ih3 _ _ _ _ _ _ _)
   | (with_reducible exact ih4 _ _ _ _ _ _ _ _)
   | (with_reducible exact ih5 _ _ _ _ _ _ _ _ _ _ _ _ _)
   | (with_reducible exact ih6 _ _ _ _ _ _ _ _ _ _ _ _)
   | (with_reducible exact ih7 _ _ _ _ _ _ _ _ _ _ _ _ _)
   | (with_reducible exact ih8 _ _ _ _ _ _ _ _ _ _ _ _)
   | (with_reducible exact ih9 _ _ _ _ _ _ _ _ _ _ _ _ _)
   | (with_reducible exact ih10 _ _ _ _ _ _ _ _)
   | (with_reducible exact ecdysisref03_Bytes.mono _ _)
   | (with_reducible exact ecdysisref03_has.mono _ _ _)
   | (with_reducible exact LeO.refl _)
   | (with_reducible exact LeO.none _)
   | (with_reducible refine LeO.ite ?_ ?_)
   | (with_reducible refine LeO.bind ?_ (fun _ => ?_))
   | exact ih0 _ _ _ _ _ _ _
   | exact ih1 _ _ _ _ _ _ _ _
   | exact ih2 _ _ _ _ _ _ _
   | exact ih3 _ _ _ _ _ _ _
   | exact ih4 _ _ _ _ _ _ _ _
   | exact ih5 _ _ _ _ _ _ _ _ _ _ _ _ _
   | exact ih6 _ _ _ _ _ _ _ _ _ _ _ _
   | exact ih7 _ _ _ _ _ _ _ _ _ _ _ _ _
   | exact ih8 _ _ _ _ _ _ _ _ _ _ _ _
   | exact ih9 _ _ _ _ _ _ _ _ _ _ _ _ _
   | exact ih10 _ _ _ _ _ _ _ _
   | exact ecdysisref03_Bytes.mono _ _
   | exact ecdysisref03_has.mono _ _ _
   | exact LeO.none _
   | refine LeO.ite ?_ ?_
   | refine LeO.bind ?_ (fun _ => ?_)
  ·intro y0 y1 y2 y3 y4 y5 y6 y7 y8 y9 y10 y11
   unfold ecdysisref03_Do.j7
   repeat' first
   | (with_reducible exact ih0 _ _ _ _ _ _ _)
   | (with_reducible exact ih1 _ _ _ _ _ _ _ _)
   | (with_reducible exact ih2 _ _ _ _ _ _ _)
   | (with_reducible exact ih3 _ _ _ _ _ _ _)
   | (with_reducible exact ih4 _ _ _ _ _ _ _ _)
   | (with_reducible exact ih5 _ _ _ _ _ _ _ _ _ _ _ _ _)
   | (with_reducible exact ih6 _ _ _ _ _ _ _ _ _ _ _ _)
   | (with_reducible exact ih7 _ _ _ _ _ _ _ _ _ _ _ _ _)
   | (with_reducible exact ih8 _ _ _ _ _ _ _ _ _ _ _ _)
   | (with_reducible exact ih9 _ _ _ _ _ _ _ _ _ _ _ _ _)
   | (with_reducible exact ih10 _ _ _ _ _ _ _ _)
   | (with_reducible exact ecdysisref03_Bytes.mono _ _)
   | (with_reducible exact ecdysisref03_has.mono _ _ _)
   | (with_reducible exact LeO.refl _)
   | (with_reducible exact LeO.none _)
   | (with_reducible refine LeO.ite ?_ ?_)
   | (with_reducible refine LeO.bind ?_ (fun _ => ?_))
   | exact ih0 _ _ _ _ _ _ _
   | exact ih1 _ _ _ _ _ _ _ _
   | exact ih2 _ _ _ _ _ _ _
   | exact ih3 _ _ _ _ _ _ _
   | exact ih4 _ _ _ _ _ _ _ _
   | exact ih5 _ _ _ _ _ _ _ _ _ _ _ _ _
   | exact ih6 _ _ _ _ _ _ _ _ _ _ _ _
   | exact ih7 _ _ _ _ _ _ _ _ _ _ _ _ _
   | exact ih8 _ _ _ _ _ _ _ _ _ _ _ _
   | exact ih9 _ _ _ _ _ _ _ _ _ _ _ _ _
   | exact ih10 _ _ _ _ _ _ _ _
   | exact ecdysisref03_Bytes.mono _ _
   | exact ecdysisref03_has.mono _ _ _
   | exact LeO.none _
   | refine LeO.ite ?_ ?_
   | refine LeO.bind ?_ (fun _ => ?_)
  ·intro y0 y1 y2 y3 y4 y5 y6 y7 y8 y9 y10 y11 y12
   unfold ecdysisref03_Do.j8
   repeat' first
   | (with_reducible exact ih0 _ _ _ _ _ _ _)
   | (with_reducible exact ih1 _ _ _ _ _ _ _ _)
   | (with_reducible exact ih2 _ _ _ _ _ _ _)
   | (with_reducible exact ih3 _ _ _ _ _ _ _)
   | (with_reducible exact ih4 _ _ _ _ _ _ _ _)
   | (with_reducible exact ih5 _ _ _ _ _ _ _ _ _ _ _ _ _)
   | (with_reducible exact ih6 _ _ _ _ _ _ _ _ _ _ _ _)
   | (with_reducible exact ih7 _ _ _ _ _ _ _ _ _ _ _ _ _)
   | (with_reducible exact ih8 _ _ _ _ _ _ _ _ _ _ _ _)
   | (with_reducible exact ih9 _ _ _ _ _ _ _ _ _ _ _ _ _)
   | (with_reducible exact ih10 _ _ _ _ _ _ _ _)
   | (with_reducible exact ecdysisref03_Bytes.mono _ _)
   | (with_reducible exact ecdysisref03_has.mono _ _ _)
   | (with_reducible exact LeO.refl _)
   | (with_reducible exact LeO.none _)
   | (with_reducible refine LeO.ite ?_ ?_)
   | (with_reducible refine LeO.bind ?_ (fun _ => ?_))
   | exact ih0 _ _ _ _ _ _ _
   | exact ih1 _ _ _ _ _ _ _ _
   | exact ih2 _ _ _ _ _ _ _
   | exact ih3 _ _ _ _ _ _ _
   | exact ih4 _ _ _ _ _ _ _ _
   | exact ih5 _ _ _ _ _ _ _ _ _ _ _ _ _
   | exact ih6 _ _ _ _ _ _ _ _ _ _ _ _
   | exact ih7 _ _ _ _ _ _ _ _ _ _ _ _ _
   | exact ih8 _ _ _ _ _ _ _ _ _ _ _ _
   | exact ih9 _ _ _ _ _ _ _ _ _ _ _ _ _
   | exact ih10 _ _ _ _ _ _ _ _
   | exact ecdysisref03_Bytes.mono _ _
   | exact ecdysisref03_has.mono _ _ _
   | exact LeO.none _
   | refine LeO.ite ?_ ?_
   | refine LeO.bind ?_ (fun _ => ?_)
  ·intro y0 y1 y2 y3 y4 y5 y6 y7 y8 y9 y10 y11
   unfold ecdysisref03_Do.j9
   repeat' first
   | (with_reducible exact ih0 _ _ _ _ _ _ _)
   | (with_reducible exact ih1 _ _ _ _ _ _ _ _)
   | (with_reducible exact ih2 _ _ _ _ _ _ _)
   | (with_reducible exact ih3 _ _ _ _ _ _ _)
   | (with_reducible exact ih4 _ _ _ _ _ _ _ _)
   | (with_reducible exact ih5 _ _ _ _ _ _ _ _ _ _ _ _ _)
   | (with_reducible exact ih6 _ _ _ _ _ _ _ _ _ _ _ _)
   | (with_reducible exact ih7 _ _ _ _ _ _ _ _ _ _ _ _ _)
   | (with_reducible exact ih8 _ _ _ _ _ _ _ _ _ _ _ _)
   | (with_reducible exact ih9 _ _ _ _ _ _ _ _ _ _ _ _ _)
   | (with_reducible exact ih10 _ _ _ _ _ _ _ _)
   | (with_reducible exact ecdysisref03_Bytes.mono _ _)
   | (with_reducible exact ecdysisref03_has.mono _ _ _)
   | (with_reducible exact LeO.refl _)
   | (with_reducible exact LeO.none _)
   | (with_reducible refine LeO.ite ?_ ?_)
   | (with_reducible refine LeO.bind ?_ (fun _ => ?_))
   | exact ih0 _ _ _ _ _ _ _
   | exact ih1 _ _ _ _ _ _ _ _
   | exact ih2 _ _ _ _ _ _ _
   | exact ih3 _ _ _ _ _ _ _
   | exact ih4 _ _ _ _ _ _ _ _
   | exact ih5 _ _ _ _ _ _ _ _ _ _ _ _ _
   | exact ih6 _ _ _ _ _ _ _ _ _ _ _ _
   | exact ih7 _ _ _ _ _ _ _ _ _ _ _ _ _
   | exact ih8 _ _ _ _ _ _ _ _ _ _ _ _
   | exact ih9 _ _ _ _ _ _ _ _ _ _ _ _ _
   | exact ih10 _ _ _ _ _ _ _ _
   | exact ecdysisref03_Bytes.mono _ _
   | exact ecdysisref03_has.mono _ _ _
   | exact LeO.none _
   | refine LeO.ite ?_ ?_
   | refine LeO.bind ?_ (fun _ => ?_)
  ·intro y0 y1 y2 y3 y4 y5 y6 y7 y8 y9 y10 y11 y12
   unfold ecdysisref03_Do.j10
   repeat' first
   | (with_reducible exact ih0 _ _ _ _ _ _ _)
   | (with_reducible exact ih1 _ _ _ _ _ _ _ _)
   | (with_reducible exact ih2 _ _ _ _ _ _ _)
   | (with_reducible exact ih3 _ _ _ _ _ _ _)
   | (with_reducible exact ih4 _ _ _ _ _ _ _ _)
   | (with_reducible exact ih5 _ _ _ _ _ _ _ _ _ _ _ _ _)
   | (with_reducible exact ih6 _ _ _ _ _ _ _ _ _ _ _ _)
   | (with_reducible exact ih7 _ _ _ _ _ _ _ _ _ _ _ _ _)
   | (with_reducible exact ih8 _ _ _ _ _ _ _ _ _ _ _ _)
   | (with_reducible exact ih9 _ _ _ _ _ _ _ _ _ _ _ _ _)
   | (with_reducible exact ih10 _ _ _ _ _ _ _ _)
   | (with_reducible exact ecdysisref03_Bytes.mono _ _)
   | (with_reducible exact ecdysisref03_has.mono _ _ _)
   | (with_reducible exact LeO.refl _)
   | (with_reducible exact LeO.none _)
   | (with_reducible refine LeO.ite ?_ ?_)
   | (with_reducible refine LeO.bind ?_ (fun _ => ?_))
   | exact ih0 _ _ _ _ _ _ _
   | exact ih1 _ _ _ _ _ _ _ _
   | exact ih2 _ _ _ _ _ _ _
   | exact ih3 _ _ _ _ _ _ _
   | exact ih4 _ _ _ _ _ _ _ _
   | exact ih5 _ _ _ _ _ _ _ _ _ _ _ _ _
   | exact ih6 _ _ _ _ _ _ _ _ _ _ _ _
   | exact ih7 _ _ _ _ _ _ _ _ _ _ _ _ _
   | exact ih8 _ _ _ _ _ _ _ _ _ _ _ _
   | exact ih9 _ _ _ _ _ _ _ _ _ _ _ _ _
   | exact ih10 _ _ _ _ _ _ _ _
   | exact ecdysisref03_Bytes.mono _ _
   | exact ecdysisref03_has.mono _ _ _
   | exact LeO.none _
   | refine LeO.ite ?_ ?_
   | refine LeO.bind ?_ (fun _ => ?_)
  ·intro y0 y1 y2 y3 y4 y5 y6 y7
   unfold ecdysisref03_Do.l0
   repeat' first
   | (with_reducible exact ih0 _ _ _ _ _ _ _)
   | (with_reducible exact ih1 _ _ _ _ _ _ _ _)
   | (with_reducible exact ih2 _ _ _ _ _ _ _)
   | (with_reducible exact ih3 _ _ _ _ _ _ _)
   | (with_reducible exact ih4 _ _ _ _ _ _ _ _)
   | (with_reducible exact ih5 _ _ _ _ _ _ _ _ _ _ _ _ _)
   | (with_reducible exact ih6 _ _ _ _ _ _ _ _ _ _ _ _)
   | (with_reducible exact ih7 _ _ _ _ _ _ _ _ _ _ _ _ _)
   | (with_reducible exact ih8 _ _ _ _ _ _ _ _ _ _ _ _)
   | (with_reducible exact ih9 _ _ _ _ _ _ _ _ _ _ _ _ _)
   | (with_reducible exact ih10 _ _ _ _ _ _ _ _)
   | (with_reducible exact ecdysisref03_Bytes.mono _ _)
   | (with_reducible exact ecdysisref03_has.mono _ _ _)
   | (with_reducible exact LeO.refl _)
   | (with_reducible exact LeO.none _)
   | (with_reducible refine LeO.ite ?_ ?_)
   | (with_reducible refine LeO.bind ?_ (fun _ => ?_))
   | exact ih0 _ _ _ _ _ _ _
   | exact ih1 _ _ _ _ _ _ _ _
   | exact ih2 _ _ _ _ _ _ _
   | exact ih3 _ _ _ _ _ _ _
   | exact ih4 _ _ _ _ _ _ _ _
   | exact ih5 _ _ _ _ _ _ _ _ _ _ _ _ _
   | exact ih6 _ _ _ _ _ _ _ _ _ _ _ _
   | exact ih7 _ _ _ _ _ _ _ _ _ _ _ _ _
   | exact ih8 _ _ _ _ _ _ _ _ _ _ _ _
   | exact ih9 _ _ _ _ _ _ _ _ _ _ _ _ _
   | exact ih10 _ _ _ _ _ _ _ _
   | exact ecdysisref03_Bytes.mono _ _
   | exact ecdysisref03_has.mono _ _ _
   | exact LeO.none _
   | refine LeO.ite ?_ ?_
   | refine LeO.bind ?_ (fun _ => ?_)
theorem ecdysisref03_Do.mono : ∀ a0 a1 a2 a3 a4 a5 k, LeO (ecdysisref03_Do.f k a0 a1 a2 a3 a4 a5) (ecdysisref03_Do.f (k + 1) a0 a1 a2 a3 a4 a5) := by
 intro a0 a1 a2 a3 a4 a5 k
 obtain ⟨ih0, ih1, ih2, ih3, ih4, ih5, ih6, ih7, ih8, ih9, ih10⟩ := ecdysisref03_Do.mono_l k
 unfold ecdysisref03_Do.f
 repeat' first
   | (with_reducible exact ih0 _ _ _ _ _ _ _)
   | (with_reducible exact ih1 _ _ _ _ _ _ _ _)
   | (with_reducible exact ih2 _ _ _ _ _ _ _)
   | (with_reducible exact ih3 _ _ _ _ _ _ _)
   | (with_reducible exact ih4 _ _ _ _ _ _ _ _)
   | (with_reducible exact ih5 _ _ _ _ _ _ _ _ _ _ _ _ _)
   | (with_reducible exact ih6 _ _ _ _ _ _ _ _ _ _ _ _)
   | (with_reducible exact ih7 _ _ _ _ _ _ _ _ _ _ _ _ _)
   | (with_reducible exact ih8 _ _ _ _ _ _ _ _ _ _ _ _)
   | (with_reducible exact ih9 _ _ _ _ _ _ _ _ _ _ _ _ _)
   | (with_reducible exact ih10 _ _ _ _ _ _ _ _)
   | (with_reducible exact ecdysisref03_Bytes.mono _ _)
   | (with_reducible exact ecdysisref03_has.mono _ _ _)
   | (with_reducible exact LeO.refl _)
   | (with_reducible exact LeO.none _)
   | (with_reducible refine LeO.ite ?_ ?_)
   | (with_reducible refine LeO.bind ?_ (fun _ => ?_))
   | exact ih0 _ _ _ _ _ _ _
   | exact ih1 _ _ _ _ _ _ _ _
   | exact ih2 _ _ _ _ _ _ _
   | exact ih3 _ _ _ _ _ _ _
   | exact ih4 _ _ _ _ _ _ _ _
   | exact ih5 _ _ _ _ _ _ _ _ _ _ _ _ _
   | exact ih6 _ _ _ _ _ _ _ _ _ _ _ _
   | exact ih7 _ _ _ _ _ _ _ _ _ _ _ _ _
   | exact ih8 _ _ _ _ _ _ _ _ _ _ _ _
   | exact ih9 _ _ _ _ _ _ _ _ _ _ _ _ _
   | exact ih10 _ _ _ _ _ _ _ _
   | exact ecdysisref03_Bytes.mono _ _
   | exact ecdysisref03_has.mono _ _ _
   | exact LeO.none _
   | refine LeO.ite ?_ ?_
   | refine LeO.bind ?_ (fun _ => ?_)
end Go.Proofs.YtbfogcckbhkciaaGreat.PHandRD
