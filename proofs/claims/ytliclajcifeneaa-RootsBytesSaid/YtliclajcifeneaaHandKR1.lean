/- What a claim needs of the walks and contracts, part R1. -/
import Derived.Test.YtliclajcifeneaaProg
import Derived.Below
import Derived.Deep.Draws
import Derived.Deep.AppendLies
import Derived.Maps.AppendAt
import Derived.OwnWalk
import Derived.Laws.BytesArg
import Derived.Laws.MakeOwn
import Derived.Laws.OwnMore
import Derived.Deep.OwnRows
import Derived.Tactics
import Derived.Lib.ConvBytes
import Derived.Laws.Slices
import Derived.WalkKit
import Derived.KernelRfl
import Derived.RowKit3
import Derived.Deep.LoopGhost
import Derived.Deep.QuietTactic
import Derived.BigQuiet
import Derived.WideLaws
import Derived.Deep.DeepCutAuto
import Derived.Deep.CutBlock
import Derived.Deep.RegionHeld3
import Derived.Laws.Rows
import Derived.Lib.AppendStr
import Derived.ArgAppend
import Derived.Laws.IdiomCopy
import Derived.OrdersHeld
import Derived.Laws.BitsLemmas
import Derived.RowKit
import Derived.Test.YtliclajcifeneaaWWords
import Derived.Test.YtliclajcifeneaaWLast
import Derived.Test.YtliclajcifeneaaWTab
import Derived.Test.YtliclajcifeneaaWFour
import Derived.Test.YtliclajcifeneaaWQPut
import Derived.Test.YtliclajcifeneaaWApart
import Derived.Test.YtliclajcifeneaaWArr
import Derived.Test.YtliclajcifeneaaWZeros
import Derived.Test.YtliclajcifeneaaWFoot
import Derived.Test.YtliclajcifeneaaWKept
import Derived.Test.YtliclajcifeneaaWShare
import Derived.Test.YtliclajcifeneaaWN
import Derived.Test.YtliclajcifeneaaWFootNe
import Derived.Test.YtliclajcifeneaaWAt
import Derived.Test.YtliclajcifeneaaWEqStruct
import Derived.Test.YtliclajcifeneaaWRepsOne
import Derived.Test.YtliclajcifeneaaWInv
import Derived.Test.YtliclajcifeneaaWInvWords
import Derived.Test.YtliclajcifeneaaWGuard
import Derived.Test.YtliclajcifeneaaWNEv
import Derived.Test.YtliclajcifeneaaWMore
namespace Go.Proofs.Ytliclajcifeneaa.PHandRR
set_option linter.unusedVariables false
set_option linter.unusedSimpArgs false
open Go.RowKit Go.Proofs.YtliclajcifeneaaW.PrintWords Go.Proofs.YtliclajcifeneaaW.PrintLast Go.Proofs.YtliclajcifeneaaW.PrintMore
attribute [local go_sem] max2_int min2_int max_two min_two max_three min_three max_four min_four   -- for this text's walks alone
set_option linter.unusedVariables false
set_option linter.unusedSimpArgs false



def errW : Option Int → Value
 | none => .nilIface
 | some c => .iface 0 (.int .i64 c)
theorem errW_none : errW none = .nilIface := rfl
theorem errW_some (c : Int) : errW (some c) = .iface 0 (.int .i64 c) := rfl

theorem info29 : (Try.prog.info? 29).map (fun i => (i.zero, i.size, i.bytes)) = some (some (.agg #[(.int .i64 0), (.int .i64 0)]), 2, 16) := by kernel_rfl
theorem info66 : (Try.prog.info? 66).map (fun i => (i.zero, i.size, i.bytes)) = some (some (.agg #[(.string ⟨#[]⟩), (.int .i64 0), (.int .i64 0)]), 3, 32) := by kernel_rfl
-- the values' own types
/-! #### struct type 29 -/
structure S29 where
 f0 : Int
 f1 : Int
def z29 : S29 := ⟨(0 : Int), (0 : Int)⟩
def k29 : Kd S29 := Kd.iso (Kd.pair (Kd.int .i64) (Kd.int .i64)) (fun x : S29 => (x.f0, x.f1))
theorem k29_open {w : World} {x : S29} {cs : List Value} (h : k29.K w x cs) : cs = [.int .i64 x.f0, .int .i64 x.f1] := by
 obtain ⟨_, _, rfl, rfl, rfl⟩ := h
 exact rfl
theorem k29_openM {w : World} {base : Nat} {ok : Nat → Prop} {x : S29} {cs : List Value} (h : k29.M w base ok x cs) : cs = [.int .i64 x.f0, .int .i64 x.f1] := by
 obtain ⟨_, _, rfl, rfl, rfl⟩ := h
 exact rfl
theorem k29_mk (w : World) (x : S29)  : k29.K w x [.int .i64 x.f0, .int .i64 x.f1] := ⟨[.int .i64 x.f0], [.int .i64 x.f1], rfl, rfl, rfl⟩
theorem k29_mkM (w : World) (base : Nat) (ok : Nat → Prop) (x : S29)  : k29.M w base ok x [.int .i64 x.f0, .int .i64 x.f1] := ⟨[.int .i64 x.f0], [.int .i64 x.f1], rfl, rfl, rfl⟩
def rd_T29 (xs : List S29) (i : Int) : S29 := xs.getD i.toNat z29
theorem at_T29 {w : World} {A : Option Addr} {n : Nat} {xs : List S29} (h : Kd.C k29 w A n xs) (i : Int) (h0 : 0 ≤ i) (h1 : i < n) : ∃ ad , A = some ad ∧ w.cell? (ad.add (i.toNat * 2)) = some (.int .i64 (rd_T29 xs i).f0) ∧ w.cell? ⟨(ad.add (i.toNat * 2)).block, (ad.add (i.toNat * 2)).off + 1, none⟩ = some (.int .i64 (rd_T29 xs i).f1) := by
 obtain ⟨ad, c, e, _, hK, hc0⟩ := Kd.C_get h z29 i h0 h1
 have hc : ∀ j u, c[j]? = some u → w.cell? (ad.add (i.toNat * 2 + j)) = some u := hc0
 obtain rfl := k29_open hK
 exact ⟨ad, e, hc 0 _ rfl, by rw [← add_field _ _ 1 (by omega)]; exact hc 1 _ rfl⟩

/-! #### struct type 31 -/
structure S31 where
 f0 : Int
 f1 : ByteArray
 f2 : S29
def z31 : S31 := ⟨(0 : Int), (⟨#[]⟩ : ByteArray), z29⟩
def k31 : Kd S31 := Kd.iso (Kd.pair (Kd.int .i64) (Kd.pair Kd.string k29)) (fun x : S31 => (x.f0, x.f1, x.f2))
theorem k31_open {w : World} {x : S31} {cs : List Value} (h : k31.K w x cs) : cs = [.int .i64 x.f0, .string x.f1, .int .i64 x.f2.f0, .int .i64 x.f2.f1] := by
 obtain ⟨_, _, rfl, rfl, ⟨_, _, rfl, rfl, s2⟩⟩ := h
 obtain rfl := k29_open s2
 exact rfl
theorem k31_mk (w : World) (x : S31)  : k31.K w x [.int .i64 x.f0, .string x.f1, .int .i64 x.f2.f0, .int .i64 x.f2.f1] := ⟨[.int .i64 x.f0], [.string x.f1, .int .i64 x.f2.f0, .int .i64 x.f2.f1], rfl, rfl, ⟨[.string x.f1], [.int .i64 x.f2.f0, .int .i64 x.f2.f1], rfl, rfl, (k29_mk w x.f2 )⟩⟩
def rd_T31 (xs : List S31) (i : Int) : S31 := xs.getD i.toNat z31
theorem at_T31 {w : World} {A : Option Addr} {n : Nat} {xs : List S31} (h : Kd.C k31 w A n xs) (i : Int) (h0 : 0 ≤ i) (h1 : i < n) : ∃ ad , A = some ad ∧ w.cell? (ad.add (i.toNat * 4)) = some (.int .i64 (rd_T31 xs i).f0) ∧ w.cell? ⟨(ad.add (i.toNat * 4)).block, (ad.add (i.toNat * 4)).off + 1, none⟩ = some (.string (rd_T31 xs i).f1) ∧ w.cell? ⟨(ad.add (i.toNat * 4)).block, (ad.add (i.toNat * 4)).off + 2, none⟩ = some (.int .i64 (rd_T31 xs i).f2.f0) ∧ w.cell? ⟨(ad.add (i.toNat * 4)).block, (ad.add (i.toNat * 4)).off + 3, none⟩ = some (.int .i64 (rd_T31 xs i).f2.f1) := by
 obtain ⟨ad, c, e, _, hK, hc0⟩ := Kd.C_get h z31 i h0 h1
 have hc : ∀ j u, c[j]? = some u → w.cell? (ad.add (i.toNat * 4 + j)) = some u := hc0
 obtain rfl := k31_open hK
 exact ⟨ad, e, hc 0 _ rfl, by rw [← add_field _ _ 1 (by omega)]; exact hc 1 _ rfl, by rw [← add_field _ _ 2 (by omega)]; exact hc 2 _ rfl, by rw [← add_field _ _ 3 (by omega)]; exact hc 3 _ rfl⟩

/-! #### struct type 66 -/
structure S66 where
 f0 : ByteArray
 f1 : S29
def z66 : S66 := ⟨(⟨#[]⟩ : ByteArray), z29⟩
def k66 : Kd S66 := Kd.iso (Kd.pair Kd.string k29) (fun x : S66 => (x.f0, x.f1))
theorem k66_open {w : World} {x : S66} {cs : List Value} (h : k66.K w x cs) : cs = [.string x.f0, .int .i64 x.f1.f0, .int .i64 x.f1.f1] := by
 obtain ⟨_, _, rfl, rfl, s1⟩ := h
 obtain rfl := k29_open s1
 exact rfl
theorem k66_openM {w : World} {base : Nat} {ok : Nat → Prop} {x : S66} {cs : List Value} (h : k66.M w base ok x cs) : cs = [.string x.f0, .int .i64 x.f1.f0, .int .i64 x.f1.f1] := by
 obtain ⟨_, _, rfl, rfl, s1⟩ := h
 obtain rfl := k29_openM s1
 exact rfl
theorem k66_mkM (w : World) (base : Nat) (ok : Nat → Prop) (x : S66)  : k66.M w base ok x [.string x.f0, .int .i64 x.f1.f0, .int .i64 x.f1.f1] := ⟨[.string x.f0], [.int .i64 x.f1.f0, .int .i64 x.f1.f1], rfl, rfl, (k29_mkM w base ok x.f1 )⟩
def rd_T66 (xs : List S66) (i : Int) : S66 := xs.getD i.toNat z66
theorem at_T66 {w : World} {A : Option Addr} {n : Nat} {xs : List S66} (h : Kd.C k66 w A n xs) (i : Int) (h0 : 0 ≤ i) (h1 : i < n) : ∃ ad , A = some ad ∧ w.cell? (ad.add (i.toNat * 3)) = some (.string (rd_T66 xs i).f0) ∧ w.cell? ⟨(ad.add (i.toNat * 3)).block, (ad.add (i.toNat * 3)).off + 1, none⟩ = some (.int .i64 (rd_T66 xs i).f1.f0) ∧ w.cell? ⟨(ad.add (i.toNat * 3)).block, (ad.add (i.toNat * 3)).off + 2, none⟩ = some (.int .i64 (rd_T66 xs i).f1.f1) := by
 obtain ⟨ad, c, e, _, hK, hc0⟩ := Kd.C_get h z66 i h0 h1
 have hc : ∀ j u, c[j]? = some u → w.cell? (ad.add (i.toNat * 3 + j)) = some u := hc0
 obtain rfl := k66_open hK
 exact ⟨ad, e, hc 0 _ rfl, by rw [← add_field _ _ 1 (by omega)]; exact hc 1 _ rfl, by rw [← add_field _ _ 2 (by omega)]; exact hc 2 _ rfl⟩


theorem eqA29 (d : Nat) (w : World) (x0 y0 : Int) (x1 y1 : Int) :
  (Op.equalIn (d + 2) 29 (.agg #[.int .i64 x0, .int .i64 x1]) (.agg #[.int .i64 y0, .int .i64 y1])).run Try.prog w = .ok (x0 == y0 && (x1 == y1)) w := by
 refine eqA_of Try.underlying29 (by kernel_rfl) ?_
 refine eqf_cons (by rfl) (by go_simp; rfl) (by go_simp; rfl) (by go_simp) ?_
 exact eqf_last (by rfl) (by go_simp; rfl) (by go_simp; rfl) (by go_simp)

attribute [local go_sem high] eqA29

/-! ### ecdysislaw13_few: function 11 -/
def ecdysislaw13_few.l0 : Nat → List (S31) → Int → List (S31) → Int → Int → Option (Bool)
 | 0, _, _, _, _, _ => none
 | k + 1, x0, x3, x6, x7, x8 => if x8 < x7 then (if 0 ≤ x8 then (if x8 < (x6.length : Int) then (ecdysislaw13_few.l0 k x0 (wrap64 (x3 + (((rd_T31 x6 x8).f1).size : Int))) x6 x7 (wrap64 (x8 + 1))) else (none)) else (none)) else (if (x0.length : Int) ≤ 100 then (some (decide (x3 ≤ 5000))) else (some false))
def ecdysislaw13_few.f (k : Nat) (l0 : List (S31)) : Option (Bool) := ecdysislaw13_few.l0 k l0 0 l0 (l0.length : Int) 0
theorem ecdysislaw13_few.mono_l : ∀ k, (∀ y0 y1 y2 y3 y4, LeO (ecdysislaw13_few.l0 k y0 y1 y2 y3 y4) (ecdysislaw13_few.l0 (k + 1) y0 y1 y2 y3 y4))
 | 0 => fun _ _ _ _ _ r h => by simp [ecdysislaw13_few.l0] at h
 | k + 1 => by
  have ih0 := ecdysislaw13_few.mono_l k
  ·intro y0 y1 y2 y3 y4
   unfold ecdysislaw13_few.l0
   repeat' first
   | (with_reducible exact ih0 _ _ _ _ _)
   | (with_reducible exact LeO.refl _)
   | (with_reducible exact LeO.none _)
   | (with_reducible refine LeO.ite ?_ ?_)
   | (with_reducible refine LeO.bind ?_ (fun _ => ?_))
   | exact ih0 _ _ _ _ _
   | exact LeO.none _
   | refine LeO.ite ?_ ?_
   | refine LeO.bind ?_ (fun _ => ?_)
theorem ecdysislaw13_few.mono : ∀ a0 k, LeO (ecdysislaw13_few.f k a0) (ecdysislaw13_few.f (k + 1) a0) := by
 intro a0 k
 have ih0 := ecdysislaw13_few.mono_l k
 unfold ecdysislaw13_few.f
 repeat' first
   | (with_reducible exact ih0 _ _ _ _ _)
   | (with_reducible exact LeO.refl _)
   | (with_reducible exact LeO.none _)
   | (with_reducible refine LeO.ite ?_ ?_)
   | (with_reducible refine LeO.bind ?_ (fun _ => ?_))
   | exact ih0 _ _ _ _ _
   | exact LeO.none _
   | refine LeO.ite ?_ ?_
   | refine LeO.bind ?_ (fun _ => ?_)
set_option maxHeartbeats 8000000 in
set_option maxRecDepth 100000 in
theorem ecdysislaw13_few.calls (k : Nat) (A0 : Option Addr) (c0 : Nat) (l0 : List (S31)) (r : Bool) (w : World) (hr0 : Kd.C k31 w A0 l0.length l0) (hc0 : l0.length ≤ c0) (h : ecdysislaw13_few.f k l0 = some r) :
  Calls Try.prog 11 #[.slice A0 l0.length c0] w fun e w' => e = .returned (.bool r) ∧ Below w.heap.size w w' := by
 have hu31 := Try.underlying31
 have HR0 := Aside0.mk hr0
 have HC0 := Aside0.mk hc0
 clear hr0 hc0
 have HB := Aside0.mk (Below.refl w.heap.size w)
 have H : (ecdysislaw13_few.l0 k l0 0 l0 (l0.length : Int) 0) = some r := h
 clear h
 have H' := Aside0.mk H
 clear H
 go_enter Try.func11, Try.ntmps11
 go_wp2
 go_loopg [3, 8] k (fun kq v3 v8 w' => ∃ (x3_1 : Int) (x8_1 : Int), v3 = .int .i64 x3_1 ∧ v8 = .int .i64 x8_1 ∧ Aside0 (ecdysislaw13_few.l0 kq l0 x3_1 l0 (l0.length : Int) x8_1 = some r) ∧ Aside0 (kq ≤ k) ∧ Aside0 (Below w.heap.size w w'))
 case atStart => exact ⟨(0), (0), (by first | rfl | (simp; done) | (simp [*]; done)), (by first | rfl | (simp; done) | (simp [*]; done)), H', ⟨Nat.le_refl _⟩, ⟨by repeat (first | (with_reducible first | exact HB.out | apply below_alloc | apply pw_below_drewN | apply below_drew1) | exact HB.out)⟩⟩
 case round =>
  clear H'
  try clear c1
  obtain ⟨x3_1, x8_1, rfl, rfl, HA, HK1, HB⟩ := hrel
  cases gk with
  | zero => exact absurd HA.out (by simp [ecdysislaw13_few.l0])
  | succ k1 =>
   have H := HA.out
   clear HA
   simp only [ecdysislaw13_few.l0] at H
   by_cases c2 : x8_1 < (l0.length : Int)
   ·rw [if_pos c2] at H
    have c2b0 : decide (x8_1 < (l0.length : Int)) = true := decide_eq_true c2
    clear c2
    by_cases c3 : 0 ≤ x8_1
    ·rw [if_pos c3] at H
     have c3b0 : decide (0 ≤ x8_1) = true := decide_eq_true c3
     clear c3
     by_cases c4 : x8_1 < (l0.length : Int)
     ·rw [if_pos c4] at H
      have c4b0 : decide (x8_1 < (l0.length : Int)) = true := decide_eq_true c4
      clear c4
      have H' := Aside0.mk H
      clear H
      have p101 : 0 ≤ (x8_1 : Int) := of_decide_eq_true (by first | (with_reducible assumption) | assumption)
      have q101 : x8_1 < (l0.length : Int) := of_decide_eq_true (by first | (with_reducible assumption) | assumption)
      obtain ⟨ad101, e101, hx101_0, hx101_1, hx101_2, hx101_3⟩ := at_T31 HR0.out x8_1 p101 q101
      cases e101
      replace hx101_0 := (HB.out.cell (World.block_lt_of_cell? w _ hx101_0)).trans hx101_0
      replace hx101_1 := (HB.out.cell (World.block_lt_of_cell? w _ hx101_1)).trans hx101_1
      replace hx101_2 := (HB.out.cell (World.block_lt_of_cell? w _ hx101_2)).trans hx101_2
      replace hx101_3 := (HB.out.cell (World.block_lt_of_cell? w _ hx101_3)).trans hx101_3
      replace p101 := eq_true p101
      replace q101 := eq_true q101
      go_wp2_with (first | ((with_reducible refine gate_dst (N := 5) rfl ?_); refine box_event ?hg (N := 5) ?hd (cs := #[.int .i64 0, .string (⟨#[]⟩ : ByteArray), .int .i64 0, .int .i64 0]) (t := 31) ?hr ?_; (case hd => rfl); (case hg => rfl); (case hr => first | (go_simp; done) | (go_simp; rfl)); intro gb102 hg w5 hbox hb; have n0_ := Aside0.mk (below_step (by repeat (first | (with_reducible first | exact HB.out | apply below_alloc | apply pw_below_drewN | apply below_drew1) | exact HB.out)) hb); have n1_ := Aside0.mk (hbox); have n2_ := Aside0.mk ((by rw [hg]; exact (below_size (by repeat (first | (with_reducible first | exact HB.out | apply below_alloc | apply pw_below_drewN | apply below_drew1) | exact HB.out))) : w.heap.size ≤ gb102)); have n3_ := Aside0.mk ((by rw [hg]; exact (below_size (by repeat (first | (with_reducible first | exact HB.out | apply below_alloc | apply pw_below_drewN | apply below_drew1) | exact HB.out))) : w.heap.size ≤ gb102)); clear HB; have HB := n0_; have BK102 := n1_; have GW102 := n2_; have GE102 := n3_; clear n0_ n1_ n2_ n3_; clear hb hbox hg; have hcz6_0 : w5.cell? ⟨gb102, 0, none⟩ = some (.int .i64 0) := (blk_cell BK102.out 0).trans rfl; have hcz6_1 : w5.cell? ⟨gb102, 1, none⟩ = some (.string (⟨#[]⟩ : ByteArray)) := (blk_cell BK102.out 1).trans rfl; have hcz6_2 : w5.cell? ⟨gb102, 2, none⟩ = some (.int .i64 0) := (blk_cell BK102.out 2).trans rfl; have hcz6_3 : w5.cell? ⟨gb102, 3, none⟩ = some (.int .i64 0) := (blk_cell BK102.out 3).trans rfl; have hfz6_0 := blk_frozen BK102.out 0; have hfz6_1 := blk_frozen BK102.out 1; have hfz6_2 := blk_frozen BK102.out 2; have hfz6_3 := blk_frozen BK102.out 3))
      go_roundg k1
      case measure => have := HK1.out; omega
      case rel => exact ⟨(wrap64 (x3_1 + (((rd_T31 l0 x8_1).f1).size : Int))), (wrap64 (x8_1 + 1)), (by first | rfl | (simp; done) | (simp [*]; done)), (by first | rfl | (simp; done) | (simp [*]; done)), H', ⟨by have := HK1.out; omega⟩, ⟨by repeat (first | (with_reducible first | exact HB.out | apply below_alloc | apply pw_below_drewN | apply below_drew1 | refine below_set ?_ GE102.out) | exact HB.out)⟩⟩
     ·rw [if_neg c4] at H
      exact absurd H (by simp)
    ·rw [if_neg c3] at H
     exact absurd H (by simp)
   ·rw [if_neg c2] at H
    have c2b0 : decide (x8_1 < (l0.length : Int)) = false := decide_eq_false c2
    clear c2
    by_cases c7 : (l0.length : Int) ≤ 100
    ·rw [if_pos c7] at H
     have c7b0 : decide ((l0.length : Int) ≤ 100) = true := decide_eq_true c7
     have c7b1 : decide (l0.length ≤ 100) = true := decide_eq_true (by omega)
     clear c7
     obtain rfl := Option.some.inj H
     go_wp2
     go_ret
     exact ⟨by first | rfl | (simp [errW_none, errW_some] <;> rfl) | (simp [*, errW_none, errW_some] <;> rfl), by repeat (first | (with_reducible first | exact HB.out | apply below_alloc | apply pw_below_drewN | apply below_drew1) | exact HB.out)⟩
    ·rw [if_neg c7] at H
     have c7b0 : decide ((l0.length : Int) ≤ 100) = false := decide_eq_false c7
     have c7b1 : decide (l0.length ≤ 100) = false := decide_eq_false (by omega)
     clear c7
     obtain rfl := Option.some.inj H
     go_wp2
     go_ret
     exact ⟨by first | rfl | (simp [errW_none, errW_some] <;> rfl) | (simp [*, errW_none, errW_some] <;> rfl), by repeat (first | (with_reducible first | exact HB.out | apply below_alloc | apply pw_below_drewN | apply below_drew1) | exact HB.out)⟩



/-! ### ecdysisref13_Same: function 26 -/
def ecdysisref13_Same.l0 : Nat → List (S29) → List (S29) → Int → Option (Bool)
 | 0, _, _, _ => none
 | k + 1, x0, x1, x5 => if x5 < (x0.length : Int) then (if 0 ≤ x5 then (if x5 < (x1.length : Int) then (if (!(((rd_T29 x0 x5).f0) == ((rd_T29 x1 x5).f0)) || (!(((rd_T29 x0 x5).f1) == ((rd_T29 x1 x5).f1)))) = true then (some false) else (ecdysisref13_Same.l0 k x0 x1 (wrap64 (x5 + 1)))) else (none)) else (none)) else (some true)
def ecdysisref13_Same.f (k : Nat) (l0 : List (S29)) (l1 : List (S29)) : Option (Bool) := if (l0.length : Int) = (l1.length : Int) then (ecdysisref13_Same.l0 k l0 l1 0) else (some false)
theorem ecdysisref13_Same.mono_l : ∀ k, (∀ y0 y1 y2, LeO (ecdysisref13_Same.l0 k y0 y1 y2) (ecdysisref13_Same.l0 (k + 1) y0 y1 y2))
 | 0 => fun _ _ _ r h => by simp [ecdysisref13_Same.l0] at h
 | k + 1 => by
  have ih0 := ecdysisref13_Same.mono_l k
  ·intro y0 y1 y2
   unfold ecdysisref13_Same.l0
   repeat' first
   | (with_reducible exact ih0 _ _ _)
   | (with_reducible exact LeO.refl _)
   | (with_reducible exact LeO.none _)
   | (with_reducible refine LeO.ite ?_ ?_)
   | (with_reducible refine LeO.bind ?_ (fun _ => ?_))
   | exact ih0 _ _ _
   | exact LeO.none _
   | refine LeO.ite ?_ ?_
   | refine LeO.bind ?_ (fun _ => ?_)
theorem ecdysisref13_Same.mono : ∀ a0 a1 k, LeO (ecdysisref13_Same.f k a0 a1) (ecdysisref13_Same.f (k + 1) a0 a1) := by
 intro a0 a1 k
 have ih0 := ecdysisref13_Same.mono_l k
 unfold ecdysisref13_Same.f
 repeat' first
   | (with_reducible exact ih0 _ _ _)
   | (with_reducible exact LeO.refl _)
   | (with_reducible exact LeO.none _)
   | (with_reducible refine LeO.ite ?_ ?_)
   | (with_reducible refine LeO.bind ?_ (fun _ => ?_))
   | exact ih0 _ _ _
   | exact LeO.none _
   | refine LeO.ite ?_ ?_
   | refine LeO.bind ?_ (fun _ => ?_)
set_option maxHeartbeats 8000000 in
set_option maxRecDepth 100000 in
theorem ecdysisref13_Same.calls (k : Nat) (A0 : Option Addr) (c0 : Nat) (l0 : List (S29)) (A1 : Option Addr) (c1 : Nat) (l1 : List (S29)) (r : Bool) (w : World) (hr0 : Kd.C k29 w A0 l0.length l0) (hc0 : l0.length ≤ c0) (hr1 : Kd.C k29 w A1 l1.length l1) (hc1 : l1.length ≤ c1) (h : ecdysisref13_Same.f k l0 l1 = some r) :
  Calls Try.prog 26 #[.slice A0 l0.length c0, .slice A1 l1.length c1] w fun e w' => e = .returned (.bool r) ∧ Drawn0 w w' := by
 have hu29 := Try.underlying29
 have HR0 := Aside0.mk hr0
 have HC0 := Aside0.mk hc0
 clear hr0 hc0
 have HR1 := Aside0.mk hr1
 have HC1 := Aside0.mk hc1
 clear hr1 hc1
 have H : (if (l0.length : Int) = (l1.length : Int) then (ecdysisref13_Same.l0 k l0 l1 0) else (some false)) = some r := h
 clear h
 by_cases c3 : (l0.length : Int) = (l1.length : Int)
 ·rw [if_pos c3] at H
  have c3b0 : ((l0.length : Int) == (l1.length : Int)) = true := beq_iff_eq.mpr c3
  have c3b1 : ((l0.length : Int) != (l1.length : Int)) = false := bne_eq_false_iff_eq.mpr c3
  have c3b2 : (l0.length == l1.length) = true := by first | simpa using c3 | (simp at c3 ⊢; omega)
  clear c3
  have H' := Aside0.mk H
  clear H
  go_enter Try.func26, Try.ntmps26
  go_wp2
  repeat (go_quiet (fail); try go_wp2)
  go_loopg [5] k (fun kq v5 w' => ∃ (x5_1 : Int), v5 = .int .i64 x5_1 ∧ Aside0 (ecdysisref13_Same.l0 kq l0 l1 x5_1 = some r) ∧ Aside0 (kq ≤ k) ∧ Drawn0 w w')
  case atStart => exact ⟨(0), (by first | rfl | (simp; done) | (simp [*]; done)), H', ⟨Nat.le_refl _⟩, by repeat (first | exact Drawn0.refl _ | apply Drawn0.step)⟩
  case round =>
   clear H'
   try clear c1
   try clear c2
   try clear p2
   try clear c3
   try clear c3b0
   try clear c3b1
   try clear c3b2
   obtain ⟨x5_1, rfl, HA, HK1, ⟨m1, rfl⟩⟩ := hrel
   cases gk with
   | zero => exact absurd HA.out (by simp [ecdysisref13_Same.l0])
   | succ k1 =>
    have H := HA.out
    clear HA
    simp only [ecdysisref13_Same.l0] at H
    by_cases c4 : x5_1 < (l0.length : Int)
    ·rw [if_pos c4] at H
     have c4b0 : decide (x5_1 < (l0.length : Int)) = true := decide_eq_true c4
     clear c4
     by_cases c5 : 0 ≤ x5_1
     ·rw [if_pos c5] at H
      have c5b0 : decide (0 ≤ x5_1) = true := decide_eq_true c5
      clear c5
      by_cases c6 : x5_1 < (l1.length : Int)
      ·rw [if_pos c6] at H
       have c6b0 : decide (x5_1 < (l1.length : Int)) = true := decide_eq_true c6
       clear c6
       by_cases c7 : (!(((rd_T29 l0 x5_1).f0) == ((rd_T29 l1 x5_1).f0)) || (!(((rd_T29 l0 x5_1).f1) == ((rd_T29 l1 x5_1).f1)))) = true
       ·rw [if_pos c7] at H
        have c7b0 : (!(((rd_T29 l0 x5_1).f0) == ((rd_T29 l1 x5_1).f0)) || (!(((rd_T29 l0 x5_1).f1) == ((rd_T29 l1 x5_1).f1)))) = true := c7
        clear c7
        obtain rfl := Option.some.inj H
        have p364 : 0 ≤ (x5_1 : Int) := of_decide_eq_true (by first | (with_reducible assumption) | assumption)
        have q364 : x5_1 < (l0.length : Int) := of_decide_eq_true (by first | (with_reducible assumption) | assumption)
        obtain ⟨ad364, e364, hx364_0, hx364_1⟩ := at_T29 HR0.out x5_1 p364 q364
        cases e364
        replace p364 := eq_true p364
        replace q364 := eq_true q364
        have p365 : 0 ≤ (x5_1 : Int) := of_decide_eq_true (by first | (with_reducible assumption) | assumption)
        have q365 : x5_1 < (l1.length : Int) := of_decide_eq_true (by first | (with_reducible assumption) | assumption)
        obtain ⟨ad365, e365, hx365_0, hx365_1⟩ := at_T29 HR1.out x5_1 p365 q365
        cases e365
        replace p365 := eq_true p365
        replace q365 := eq_true q365
        go_wp2
        repeat (go_quiet (fail); try go_wp2)
        go_ret
        exact ⟨by first | rfl | (simp; done) | (simp [*]; done), by repeat (first | exact Drawn0.refl _ | apply Drawn0.step)⟩
       ·rw [if_neg c7] at H
        have c7b0 : (!(((rd_T29 l0 x5_1).f0) == ((rd_T29 l1 x5_1).f0)) || (!(((rd_T29 l0 x5_1).f1) == ((rd_T29 l1 x5_1).f1)))) = false := by simpa using c7
        clear c7
        have H' := Aside0.mk H
        clear H
        have p364 : 0 ≤ (x5_1 : Int) := of_decide_eq_true (by first | (with_reducible assumption) | assumption)
        have q364 : x5_1 < (l0.length : Int) := of_decide_eq_true (by first | (with_reducible assumption) | assumption)
        obtain ⟨ad364, e364, hx364_0, hx364_1⟩ := at_T29 HR0.out x5_1 p364 q364
        cases e364
        replace p364 := eq_true p364
        replace q364 := eq_true q364
        have p365 : 0 ≤ (x5_1 : Int) := of_decide_eq_true (by first | (with_reducible assumption) | assumption)
        have q365 : x5_1 < (l1.length : Int) := of_decide_eq_true (by first | (with_reducible assumption) | assumption)
        obtain ⟨ad365, e365, hx365_0, hx365_1⟩ := at_T29 HR1.out x5_1 p365 q365
        cases e365
        replace p365 := eq_true p365
        replace q365 := eq_true q365
        go_wp2
        repeat (go_quiet (fail); try go_wp2)
        go_roundg k1
        case measure => have := HK1.out; omega
        case rel => exact ⟨(wrap64 (x5_1 + 1)), (by first | rfl | (simp; done) | (simp [*]; done)), H', ⟨by have := HK1.out; omega⟩, by repeat (first | exact Drawn0.refl _ | apply Drawn0.step)⟩
      ·rw [if_neg c6] at H
       exact absurd H (by simp)
     ·rw [if_neg c5] at H
      exact absurd H (by simp)
    ·rw [if_neg c4] at H
     have c4b0 : decide (x5_1 < (l0.length : Int)) = false := decide_eq_false c4
     clear c4
     obtain rfl := Option.some.inj H
     go_wp2
     repeat (go_quiet (fail); try go_wp2)
     go_ret
     exact ⟨by first | rfl | (simp; done) | (simp [*]; done), by repeat (first | exact Drawn0.refl _ | apply Drawn0.step)⟩
 ·rw [if_neg c3] at H
  have c3b0 : ((l0.length : Int) == (l1.length : Int)) = false := beq_eq_false_iff_ne.mpr c3
  have c3b1 : ((l0.length : Int) != (l1.length : Int)) = true := bne_iff_ne.mpr c3
  have c3b2 : (l0.length == l1.length) = false := by first | simpa using c3 | (simp at c3 ⊢; omega)
  obtain rfl := Option.some.inj H
  go_enter Try.func26, Try.ntmps26
  go_wp2
  repeat (go_quiet (fail); try go_wp2)
  go_ret
  exact ⟨by first | rfl | (simp; done) | (simp [*]; done), by repeat (first | exact Drawn0.refl _ | apply Drawn0.step)⟩



/-! ### ecdysisref13_Find: function 29 -/
def ecdysisref13_Find.l0 : Nat → List (S66) → ByteArray → Int → Option (Int)
 | 0, _, _, _ => none
 | k + 1, x0, x1, x5 => if x5 < (x0.length : Int) then (if 0 ≤ x5 then (if ((rd_T66 x0 x5).f0).toList = x1.toList then (some x5) else (ecdysisref13_Find.l0 k x0 x1 (wrap64 (x5 + 1)))) else (none)) else (some (-1))
def ecdysisref13_Find.f (k : Nat) (l0 : List (S66)) (a1 : ByteArray) : Option (Int) := ecdysisref13_Find.l0 k l0 a1 0
theorem ecdysisref13_Find.mono_l : ∀ k, (∀ y0 y1 y2, LeO (ecdysisref13_Find.l0 k y0 y1 y2) (ecdysisref13_Find.l0 (k + 1) y0 y1 y2))
 | 0 => fun _ _ _ r h => by simp [ecdysisref13_Find.l0] at h
 | k + 1 => by
  have ih0 := ecdysisref13_Find.mono_l k
  ·intro y0 y1 y2
   unfold ecdysisref13_Find.l0
   repeat' first
   | (with_reducible exact ih0 _ _ _)
   | (with_reducible exact LeO.refl _)
   | (with_reducible exact LeO.none _)
   | (with_reducible refine LeO.ite ?_ ?_)
   | (with_reducible refine LeO.bind ?_ (fun _ => ?_))
   | exact ih0 _ _ _
   | exact LeO.none _
   | refine LeO.ite ?_ ?_
   | refine LeO.bind ?_ (fun _ => ?_)
theorem ecdysisref13_Find.mono : ∀ a0 a1 k, LeO (ecdysisref13_Find.f k a0 a1) (ecdysisref13_Find.f (k + 1) a0 a1) := by
 intro a0 a1 k
 have ih0 := ecdysisref13_Find.mono_l k
 unfold ecdysisref13_Find.f
 repeat' first
   | (with_reducible exact ih0 _ _ _)
   | (with_reducible exact LeO.refl _)
   | (with_reducible exact LeO.none _)
   | (with_reducible refine LeO.ite ?_ ?_)
   | (with_reducible refine LeO.bind ?_ (fun _ => ?_))
   | exact ih0 _ _ _
   | exact LeO.none _
   | refine LeO.ite ?_ ?_
   | refine LeO.bind ?_ (fun _ => ?_)
set_option maxHeartbeats 8000000 in
set_option maxRecDepth 100000 in
theorem ecdysisref13_Find.calls (k : Nat) (A0 : Option Addr) (c0 : Nat) (l0 : List (S66)) (a1 : ByteArray) (r : Int) (w : World) (hr0 : Kd.C k66 w A0 l0.length l0) (hc0 : l0.length ≤ c0) (h : ecdysisref13_Find.f k l0 a1 = some r) :
  Calls Try.prog 29 #[.slice A0 l0.length c0, .string a1] w fun e w' => e = .returned (.int .i64 r) ∧ Drawn0 w w' := by
 have HR0 := Aside0.mk hr0
 have HC0 := Aside0.mk hc0
 clear hr0 hc0
 have H : (ecdysisref13_Find.l0 k l0 a1 0) = some r := h
 clear h
 have H' := Aside0.mk H
 clear H
 go_enter Try.func29, Try.ntmps29
 go_wp2
 go_loopg [5] k (fun kq v5 w' => ∃ (x5_1 : Int), v5 = .int .i64 x5_1 ∧ Aside0 (ecdysisref13_Find.l0 kq l0 a1 x5_1 = some r) ∧ Aside0 (kq ≤ k) ∧ Drawn0 w w')
 case atStart => exact ⟨(0), (by first | rfl | (simp; done) | (simp [*]; done)), H', ⟨Nat.le_refl _⟩, by repeat (first | exact Drawn0.refl _ | apply Drawn0.step)⟩
 case round =>
  clear H'
  try clear c2
  try clear p2
  obtain ⟨x5_1, rfl, HA, HK1, ⟨m1, rfl⟩⟩ := hrel
  cases gk with
  | zero => exact absurd HA.out (by simp [ecdysisref13_Find.l0])
  | succ k1 =>
   have H := HA.out
   clear HA
   simp only [ecdysisref13_Find.l0] at H
   by_cases c3 : x5_1 < (l0.length : Int)
   ·rw [if_pos c3] at H
    have c3b0 : decide (x5_1 < (l0.length : Int)) = true := decide_eq_true c3
    clear c3
    by_cases c4 : 0 ≤ x5_1
    ·rw [if_pos c4] at H
     have c4b0 : decide (0 ≤ x5_1) = true := decide_eq_true c4
     clear c4
     by_cases c5 : ((rd_T66 l0 x5_1).f0).toList = a1.toList
     ·rw [if_pos c5] at H
      have c5b0 : (((rd_T66 l0 x5_1).f0).toList == a1.toList) = true := beq_iff_eq.mpr c5
      have c5b1 : (((rd_T66 l0 x5_1).f0).toList != a1.toList) = false := bne_eq_false_iff_eq.mpr c5
      clear c5
      obtain rfl := Option.some.inj H
      have p366 : 0 ≤ (x5_1 : Int) := of_decide_eq_true (by first | (with_reducible assumption) | assumption)
      have q366 : x5_1 < (l0.length : Int) := of_decide_eq_true (by first | (with_reducible assumption) | assumption)
      obtain ⟨ad366, e366, hx366_0, hx366_1, hx366_2⟩ := at_T66 HR0.out x5_1 p366 q366
      cases e366
      replace p366 := eq_true p366
      replace q366 := eq_true q366
      go_wp2
      go_ret
      exact ⟨by first | rfl | (simp; done) | (simp [*]; done), by repeat (first | exact Drawn0.refl _ | apply Drawn0.step)⟩
     ·rw [if_neg c5] at H
      have c5b0 : (((rd_T66 l0 x5_1).f0).toList == a1.toList) = false := beq_eq_false_iff_ne.mpr c5
      have c5b1 : (((rd_T66 l0 x5_1).f0).toList != a1.toList) = true := bne_iff_ne.mpr c5
      have H' := Aside0.mk H
      clear H
      have p366 : 0 ≤ (x5_1 : Int) := of_decide_eq_true (by first | (with_reducible assumption) | assumption)
      have q366 : x5_1 < (l0.length : Int) := of_decide_eq_true (by first | (with_reducible assumption) | assumption)
      obtain ⟨ad366, e366, hx366_0, hx366_1, hx366_2⟩ := at_T66 HR0.out x5_1 p366 q366
      cases e366
      replace p366 := eq_true p366
      replace q366 := eq_true q366
      go_wp2
      go_roundg k1
      case measure => have := HK1.out; omega
      case rel => exact ⟨(wrap64 (x5_1 + 1)), (by first | rfl | (simp; done) | (simp [*]; done)), H', ⟨by have := HK1.out; omega⟩, by repeat (first | exact Drawn0.refl _ | apply Drawn0.step)⟩
    ·rw [if_neg c4] at H
     exact absurd H (by simp)
   ·rw [if_neg c3] at H
    have c3b0 : decide (x5_1 < (l0.length : Int)) = false := decide_eq_false c3
    clear c3
    obtain rfl := Option.some.inj H
    go_wp2
    go_ret
    exact ⟨by first | rfl | (simp; done) | (simp [*]; done), by repeat (first | exact Drawn0.refl _ | apply Drawn0.step)⟩


/-! ### ecdysisref11_Pack: function 45 -/
def ecdysisref11_Pack.f (a0_0 : Int) (a0_1 : Int) : Option (Int) := if a0_0 < 0 then (some 0) else (if a0_0 > 65535 then (some 0) else (if a0_1 < 1 then (some 0) else (if a0_1 > 65535 then (some 0) else (some (IntKind.u64.wrap (wrap64 ((wrap64 (65536 * a0_0)) + a0_1)))))))
set_option maxHeartbeats 8000000 in
set_option maxRecDepth 100000 in
theorem ecdysisref11_Pack.calls (a0_0 : Int) (a0_1 : Int) (r : Int) (w : World) (h : ecdysisref11_Pack.f a0_0 a0_1 = some r) :
  Calls Try.prog 45 #[.agg #[.int .i64 a0_0, .int .i64 a0_1]] w fun e w' => e = .returned (.int .u64 r) ∧ Below w.heap.size w w' := by
 have hu29 := Try.underlying29
 have HB := Aside0.mk (Below.refl w.heap.size w)
 have H : (if a0_0 < 0 then (some 0) else (if a0_0 > 65535 then (some 0) else (if a0_1 < 1 then (some 0) else (if a0_1 > 65535 then (some 0) else (some (IntKind.u64.wrap (wrap64 ((wrap64 (65536 * a0_0)) + a0_1)))))))) = some r := h
 clear h
 by_cases c2 : a0_0 < 0
 ·rw [if_pos c2] at H
  have c2b0 : decide (a0_0 < 0) = true := decide_eq_true c2
  clear c2
  obtain rfl := Option.some.inj H
  go_enter Try.func45, Try.ntmps45
  go_wp2_with (first | ((with_reducible refine gate_dst (N := 1) rfl ?_); refine box_event ?hg (N := 1) ?hd (cs := #[.int .i64 a0_0, .int .i64 a0_1]) (t := 29) ?hr ?_; (case hd => rfl); (case hg => rfl); (case hr => first | (go_simp; done) | (go_simp; rfl)); intro gb367 hg w3 hbox hb; have n0_ := Aside0.mk (below_step (by repeat (first | (with_reducible first | exact HB.out | apply below_alloc | apply pw_below_drewN | apply below_drew1) | exact HB.out)) hb); have n1_ := Aside0.mk (hbox); have n2_ := Aside0.mk ((by rw [hg]; exact (below_size (by repeat (first | (with_reducible first | exact HB.out | apply below_alloc | apply pw_below_drewN | apply below_drew1) | exact HB.out))) : w.heap.size ≤ gb367)); have n3_ := Aside0.mk ((by rw [hg]; exact (below_size (by repeat (first | (with_reducible first | exact HB.out | apply below_alloc | apply pw_below_drewN | apply below_drew1) | exact HB.out))) : w.heap.size ≤ gb367)); clear HB; have HB := n0_; have BK367 := n1_; have GW367 := n2_; have GE367 := n3_; clear n0_ n1_ n2_ n3_; clear hb hbox hg; have hcz4_0 : w3.cell? ⟨gb367, 0, none⟩ = some (.int .i64 a0_0) := (blk_cell BK367.out 0).trans rfl; have hcz4_1 : w3.cell? ⟨gb367, 1, none⟩ = some (.int .i64 a0_1) := (blk_cell BK367.out 1).trans rfl; have hfz4_0 := blk_frozen BK367.out 0; have hfz4_1 := blk_frozen BK367.out 1))
  go_ret
  exact ⟨by first | rfl | (simp [errW_none, errW_some] <;> rfl) | (simp [*, errW_none, errW_some] <;> rfl), by repeat (first | (with_reducible first | exact HB.out | apply below_alloc | apply pw_below_drewN | apply below_drew1 | refine below_set ?_ GE367.out) | exact HB.out)⟩
 ·rw [if_neg c2] at H
  have c2b0 : decide (a0_0 < 0) = false := decide_eq_false c2
  clear c2
  by_cases c5 : a0_0 > 65535
  ·rw [if_pos c5] at H
   have c5b0 : decide (65535 < a0_0) = true := decide_eq_true c5
   clear c5
   obtain rfl := Option.some.inj H
   go_enter Try.func45, Try.ntmps45
   go_wp2_with (first | ((with_reducible refine gate_dst (N := 1) rfl ?_); refine box_event ?hg (N := 1) ?hd (cs := #[.int .i64 a0_0, .int .i64 a0_1]) (t := 29) ?hr ?_; (case hd => rfl); (case hg => rfl); (case hr => first | (go_simp; done) | (go_simp; rfl)); intro gb367 hg w6 hbox hb; have n0_ := Aside0.mk (below_step (by repeat (first | (with_reducible first | exact HB.out | apply below_alloc | apply pw_below_drewN | apply below_drew1) | exact HB.out)) hb); have n1_ := Aside0.mk (hbox); have n2_ := Aside0.mk ((by rw [hg]; exact (below_size (by repeat (first | (with_reducible first | exact HB.out | apply below_alloc | apply pw_below_drewN | apply below_drew1) | exact HB.out))) : w.heap.size ≤ gb367)); have n3_ := Aside0.mk ((by rw [hg]; exact (below_size (by repeat (first | (with_reducible first | exact HB.out | apply below_alloc | apply pw_below_drewN | apply below_drew1) | exact HB.out))) : w.heap.size ≤ gb367)); clear HB; have HB := n0_; have BK367 := n1_; have GW367 := n2_; have GE367 := n3_; clear n0_ n1_ n2_ n3_; clear hb hbox hg; have hcz7_0 : w6.cell? ⟨gb367, 0, none⟩ = some (.int .i64 a0_0) := (blk_cell BK367.out 0).trans rfl; have hcz7_1 : w6.cell? ⟨gb367, 1, none⟩ = some (.int .i64 a0_1) := (blk_cell BK367.out 1).trans rfl; have hfz7_0 := blk_frozen BK367.out 0; have hfz7_1 := blk_frozen BK367.out 1))
   go_ret
   exact ⟨by first | rfl | (simp [errW_none, errW_some] <;> rfl) | (simp [*, errW_none, errW_some] <;> rfl), by repeat (first | (with_reducible first | exact HB.out | apply below_alloc | apply pw_below_drewN | apply below_drew1 | refine below_set ?_ GE367.out) | exact HB.out)⟩
  ·rw [if_neg c5] at H
   have c5b0 : decide (65535 < a0_0) = false := decide_eq_false c5
   clear c5
   by_cases c8 : a0_1 < 1
   ·rw [if_pos c8] at H
    have c8b0 : decide (a0_1 < 1) = true := decide_eq_true c8
    clear c8
    obtain rfl := Option.some.inj H
    go_enter Try.func45, Try.ntmps45
    go_wp2_with (first | ((with_reducible refine gate_dst (N := 1) rfl ?_); refine box_event ?hg (N := 1) ?hd (cs := #[.int .i64 a0_0, .int .i64 a0_1]) (t := 29) ?hr ?_; (case hd => rfl); (case hg => rfl); (case hr => first | (go_simp; done) | (go_simp; rfl)); intro gb367 hg w9 hbox hb; have n0_ := Aside0.mk (below_step (by repeat (first | (with_reducible first | exact HB.out | apply below_alloc | apply pw_below_drewN | apply below_drew1) | exact HB.out)) hb); have n1_ := Aside0.mk (hbox); have n2_ := Aside0.mk ((by rw [hg]; exact (below_size (by repeat (first | (with_reducible first | exact HB.out | apply below_alloc | apply pw_below_drewN | apply below_drew1) | exact HB.out))) : w.heap.size ≤ gb367)); have n3_ := Aside0.mk ((by rw [hg]; exact (below_size (by repeat (first | (with_reducible first | exact HB.out | apply below_alloc | apply pw_below_drewN | apply below_drew1) | exact HB.out))) : w.heap.size ≤ gb367)); clear HB; have HB := n0_; have BK367 := n1_; have GW367 := n2_; have GE367 := n3_; clear n0_ n1_ n2_ n3_; clear hb hbox hg; have hcz10_0 : w9.cell? ⟨gb367, 0, none⟩ = some (.int .i64 a0_0) := (blk_cell BK367.out 0).trans rfl; have hcz10_1 : w9.cell? ⟨gb367, 1, none⟩ = some (.int .i64 a0_1) := (blk_cell BK367.out 1).trans rfl; have hfz10_0 := blk_frozen BK367.out 0; have hfz10_1 := blk_frozen BK367.out 1))
    go_ret
    exact ⟨by first | rfl | (simp [errW_none, errW_some] <;> rfl) | (simp [*, errW_none, errW_some] <;> rfl), by repeat (first | (with_reducible first | exact HB.out | apply below_alloc | apply pw_below_drewN | apply below_drew1 | refine below_set ?_ GE367.out) | exact HB.out)⟩
   ·rw [if_neg c8] at H
    have c8b0 : decide (a0_1 < 1) = false := decide_eq_false c8
    clear c8
    by_cases c11 : a0_1 > 65535
    ·rw [if_pos c11] at H
     have c11b0 : decide (65535 < a0_1) = true := decide_eq_true c11
     clear c11
     obtain rfl := Option.some.inj H
     go_enter Try.func45, Try.ntmps45
     go_wp2_with (first | ((with_reducible refine gate_dst (N := 1) rfl ?_); refine box_event ?hg (N := 1) ?hd (cs := #[.int .i64 a0_0, .int .i64 a0_1]) (t := 29) ?hr ?_; (case hd => rfl); (case hg => rfl); (case hr => first | (go_simp; done) | (go_simp; rfl)); intro gb367 hg w12 hbox hb; have n0_ := Aside0.mk (below_step (by repeat (first | (with_reducible first | exact HB.out | apply below_alloc | apply pw_below_drewN | apply below_drew1) | exact HB.out)) hb); have n1_ := Aside0.mk (hbox); have n2_ := Aside0.mk ((by rw [hg]; exact (below_size (by repeat (first | (with_reducible first | exact HB.out | apply below_alloc | apply pw_below_drewN | apply below_drew1) | exact HB.out))) : w.heap.size ≤ gb367)); have n3_ := Aside0.mk ((by rw [hg]; exact (below_size (by repeat (first | (with_reducible first | exact HB.out | apply below_alloc | apply pw_below_drewN | apply below_drew1) | exact HB.out))) : w.heap.size ≤ gb367)); clear HB; have HB := n0_; have BK367 := n1_; have GW367 := n2_; have GE367 := n3_; clear n0_ n1_ n2_ n3_; clear hb hbox hg; have hcz13_0 : w12.cell? ⟨gb367, 0, none⟩ = some (.int .i64 a0_0) := (blk_cell BK367.out 0).trans rfl; have hcz13_1 : w12.cell? ⟨gb367, 1, none⟩ = some (.int .i64 a0_1) := (blk_cell BK367.out 1).trans rfl; have hfz13_0 := blk_frozen BK367.out 0; have hfz13_1 := blk_frozen BK367.out 1))
     go_ret
     exact ⟨by first | rfl | (simp [errW_none, errW_some] <;> rfl) | (simp [*, errW_none, errW_some] <;> rfl), by repeat (first | (with_reducible first | exact HB.out | apply below_alloc | apply pw_below_drewN | apply below_drew1 | refine below_set ?_ GE367.out) | exact HB.out)⟩
    ·rw [if_neg c11] at H
     have c11b0 : decide (65535 < a0_1) = false := decide_eq_false c11
     clear c11
     obtain rfl := Option.some.inj H
     go_enter Try.func45, Try.ntmps45
     go_wp2_with (first | ((with_reducible refine gate_dst (N := 1) rfl ?_); refine box_event ?hg (N := 1) ?hd (cs := #[.int .i64 a0_0, .int .i64 a0_1]) (t := 29) ?hr ?_; (case hd => rfl); (case hg => rfl); (case hr => first | (go_simp; done) | (go_simp; rfl)); intro gb367 hg w14 hbox hb; have n0_ := Aside0.mk (below_step (by repeat (first | (with_reducible first | exact HB.out | apply below_alloc | apply pw_below_drewN | apply below_drew1) | exact HB.out)) hb); have n1_ := Aside0.mk (hbox); have n2_ := Aside0.mk ((by rw [hg]; exact (below_size (by repeat (first | (with_reducible first | exact HB.out | apply below_alloc | apply pw_below_drewN | apply below_drew1) | exact HB.out))) : w.heap.size ≤ gb367)); have n3_ := Aside0.mk ((by rw [hg]; exact (below_size (by repeat (first | (with_reducible first | exact HB.out | apply below_alloc | apply pw_below_drewN | apply below_drew1) | exact HB.out))) : w.heap.size ≤ gb367)); clear HB; have HB := n0_; have BK367 := n1_; have GW367 := n2_; have GE367 := n3_; clear n0_ n1_ n2_ n3_; clear hb hbox hg; have hcz15_0 : w14.cell? ⟨gb367, 0, none⟩ = some (.int .i64 a0_0) := (blk_cell BK367.out 0).trans rfl; have hcz15_1 : w14.cell? ⟨gb367, 1, none⟩ = some (.int .i64 a0_1) := (blk_cell BK367.out 1).trans rfl; have hfz15_0 := blk_frozen BK367.out 0; have hfz15_1 := blk_frozen BK367.out 1))
     go_ret
     exact ⟨by first | rfl | (simp [errW_none, errW_some] <;> rfl) | (simp [*, errW_none, errW_some] <;> rfl), by repeat (first | (with_reducible first | exact HB.out | apply below_alloc | apply pw_below_drewN | apply below_drew1 | refine below_set ?_ GE367.out) | exact HB.out)⟩


/-! ### ecdysisref06_Name: function 46 -/
mutual
def ecdysisref06_Name.l0 : Nat → ByteArray → ByteArray → Int → Option (Bool)
 | 0, _, _, _ => none
 | k + 1, x0, x3, x4 => if x4 < (x0.size : Int) then (ecdysisref06_Name.l1 k x0 x3 x4 (-1) 0) else (if (x0.size : Int) > 0 then (some (decide ((x0.size : Int) < 16))) else (some false))
def ecdysisref06_Name.l1 : Nat → ByteArray → ByteArray → Int → Int → Int → Option (Bool)
 | 0, _, _, _, _, _ => none
 | k + 1, x0, x3, x4, x5, x6 => if x6 < (x3.size : Int) then (if 0 ≤ x6 then (if 0 ≤ x4 then (if x4 < (x0.size : Int) then (if (bt x3 x6) = (bt x0 x4) then (ecdysisref06_Name.l1 k x0 x3 x4 x6 (wrap64 (x6 + 1))) else (ecdysisref06_Name.l1 k x0 x3 x4 x5 (wrap64 (x6 + 1)))) else (none)) else (none)) else (none)) else (if x5 < 0 then (some false) else (if x4 = 0 then (if x5 > 25 then (some false) else (ecdysisref06_Name.l0 k x0 x3 (wrap64 (x4 + 1)))) else (ecdysisref06_Name.l0 k x0 x3 (wrap64 (x4 + 1)))))
end
def ecdysisref06_Name.f (k : Nat) (a0 : ByteArray) : Option (Bool) := ecdysisref06_Name.l0 k a0 (⟨#[97, 98, 99, 100, 101, 102, 103, 104, 105, 106, 107, 108, 109, 110, 111, 112, 113, 114, 115, 116, 117, 118, 119, 120, 121, 122, 48, 49, 50, 51, 52, 53, 54, 55, 56, 57, 95]⟩ : ByteArray) 0
theorem ecdysisref06_Name.mono_l : ∀ k, (∀ y0 y1 y2, LeO (ecdysisref06_Name.l0 k y0 y1 y2) (ecdysisref06_Name.l0 (k + 1) y0 y1 y2)) ∧ (∀ y0 y1 y2 y3 y4, LeO (ecdysisref06_Name.l1 k y0 y1 y2 y3 y4) (ecdysisref06_Name.l1 (k + 1) y0 y1 y2 y3 y4))
 | 0 => ⟨fun _ _ _ r h => by simp [ecdysisref06_Name.l0] at h, fun _ _ _ _ _ r h => by simp [ecdysisref06_Name.l1] at h⟩
 | k + 1 => by
  obtain ⟨ih0, ih1⟩ := ecdysisref06_Name.mono_l k
  refine ⟨?_, ?_⟩
  ·intro y0 y1 y2
   unfold ecdysisref06_Name.l0
   repeat' first
   | (with_reducible exact ih0 _ _ _)
   | (with_reducible exact ih1 _ _ _ _ _)
   | (with_reducible exact LeO.refl _)
   | (with_reducible exact LeO.none _)
   | (with_reducible refine LeO.ite ?_ ?_)
   | (with_reducible refine LeO.bind ?_ (fun _ => ?_))
   | exact ih0 _ _ _
   | exact ih1 _ _ _ _ _
   | exact LeO.none _
   | refine LeO.ite ?_ ?_
   | refine LeO.bind ?_ (fun _ => ?_)
  ·intro y0 y1 y2 y3 y4
   unfold ecdysisref06_Name.l1
   repeat' first
   | (with_reducible exact ih0 _ _ _)
   | (with_reducible exact ih1 _ _ _ _ _)
   | (with_reducible exact LeO.refl _)
   | (with_reducible exact LeO.none _)
   | (with_reducible refine LeO.ite ?_ ?_)
   | (with_reducible refine LeO.bind ?_ (fun _ => ?_))
   | exact ih0 _ _ _
   | exact ih1 _ _ _ _ _
   | exact LeO.none _
   | refine LeO.ite ?_ ?_
   | refine LeO.bind ?_ (fun _ => ?_)
theorem ecdysisref06_Name.mono : ∀ a0 k, LeO (ecdysisref06_Name.f k a0) (ecdysisref06_Name.f (k + 1) a0) := by
 intro a0 k
 obtain ⟨ih0, ih1⟩ := ecdysisref06_Name.mono_l k
 unfold ecdysisref06_Name.f
 repeat' first
   | (with_reducible exact ih0 _ _ _)
   | (with_reducible exact ih1 _ _ _ _ _)
   | (with_reducible exact LeO.refl _)
   | (with_reducible exact LeO.none _)
   | (with_reducible refine LeO.ite ?_ ?_)
   | (with_reducible refine LeO.bind ?_ (fun _ => ?_))
   | exact ih0 _ _ _
   | exact ih1 _ _ _ _ _
   | exact LeO.none _
   | refine LeO.ite ?_ ?_
   | refine LeO.bind ?_ (fun _ => ?_)
set_option maxHeartbeats 8000000 in
set_option maxRecDepth 100000 in
theorem ecdysisref06_Name.calls (k : Nat) (a0 : ByteArray) (r : Bool) (w : World) (h : ecdysisref06_Name.f k a0 = some r) :
  Calls Try.prog 46 #[.string a0] w fun e w' => e = .returned (.bool r) ∧ Drawn0 w w' := by
 have H : (ecdysisref06_Name.l0 k a0 (⟨#[97, 98, 99, 100, 101, 102, 103, 104, 105, 106, 107, 108, 109, 110, 111, 112, 113, 114, 115, 116, 117, 118, 119, 120, 121, 122, 48, 49, 50, 51, 52, 53, 54, 55, 56, 57, 95]⟩ : ByteArray) 0) = some r := h
 clear h
 have H' := Aside0.mk H
 clear H
 go_enter Try.func46, Try.ntmps46
 go_wp2
 repeat (go_quiet (fail); try go_wp2)
 go_loopg [4] k (fun kq v4 w' => ∃ (x4_1 : Int), v4 = .int .i64 x4_1 ∧ Aside0 (ecdysisref06_Name.l0 kq a0 (⟨#[97, 98, 99, 100, 101, 102, 103, 104, 105, 106, 107, 108, 109, 110, 111, 112, 113, 114, 115, 116, 117, 118, 119, 120, 121, 122, 48, 49, 50, 51, 52, 53, 54, 55, 56, 57, 95]⟩ : ByteArray) x4_1 = some r) ∧ Aside0 (kq ≤ k) ∧ Drawn0 w w')
 case atStart => exact ⟨(0), (by first | rfl | (simp; done) | (simp [*]; done)), H', ⟨Nat.le_refl _⟩, by repeat (first | exact Drawn0.refl _ | apply Drawn0.step)⟩
 case round =>
  clear H'
  obtain ⟨x4_1, rfl, HA, HK1, ⟨m1, rfl⟩⟩ := hrel
  cases gk with
  | zero => exact absurd HA.out (by simp [ecdysisref06_Name.l0])
  | succ k1 =>
   have H := HA.out
   clear HA
   simp only [ecdysisref06_Name.l0] at H
   by_cases c2 : x4_1 < (a0.size : Int)
   ·rw [if_pos c2] at H
    have c2b0 : decide (x4_1 < (a0.size : Int)) = true := decide_eq_true c2
    clear c2
    have H' := Aside0.mk H
    clear H
    go_wp2
    repeat (go_quiet (fail); try go_wp2)
    go_loopg [5, 6] k1 (fun kq v5 v6 w' => ∃ (x5_2 : Int) (x6_2 : Int), v5 = .int .i64 x5_2 ∧ v6 = .int .i64 x6_2 ∧ Aside0 (ecdysisref06_Name.l1 kq a0 (⟨#[97, 98, 99, 100, 101, 102, 103, 104, 105, 106, 107, 108, 109, 110, 111, 112, 113, 114, 115, 116, 117, 118, 119, 120, 121, 122, 48, 49, 50, 51, 52, 53, 54, 55, 56, 57, 95]⟩ : ByteArray) x4_1 x5_2 x6_2 = some r) ∧ Aside0 (kq ≤ k1) ∧ Drawn0 w w')
    case atStart => exact ⟨((-1)), (0), (by first | rfl | (simp; done) | (simp [*]; done)), (by first | rfl | (simp; done) | (simp [*]; done)), H', ⟨Nat.le_refl _⟩, by repeat (first | exact Drawn0.refl _ | apply Drawn0.step)⟩
    case round =>
     clear H'
     try clear c2
     try clear c2b0
     try clear p2
     obtain ⟨x5_2, x6_2, rfl, rfl, HA, HK2, ⟨m2, rfl⟩⟩ := hrel
     cases gk with
     | zero => exact absurd HA.out (by simp [ecdysisref06_Name.l1])
     | succ k2 =>
      have H := HA.out
      clear HA
      simp only [ecdysisref06_Name.l1] at H
      by_cases c3 : x6_2 < ((⟨#[97, 98, 99, 100, 101, 102, 103, 104, 105, 106, 107, 108, 109, 110, 111, 112, 113, 114, 115, 116, 117, 118, 119, 120, 121, 122, 48, 49, 50, 51, 52, 53, 54, 55, 56, 57, 95]⟩ : ByteArray).size : Int)
      ·rw [if_pos c3] at H
       have c3b0 : decide (x6_2 < ((⟨#[97, 98, 99, 100, 101, 102, 103, 104, 105, 106, 107, 108, 109, 110, 111, 112, 113, 114, 115, 116, 117, 118, 119, 120, 121, 122, 48, 49, 50, 51, 52, 53, 54, 55, 56, 57, 95]⟩ : ByteArray).size : Int)) = true := decide_eq_true c3
       have c3b9 : decide (x6_2 < 37) = true := decide_eq_true c3
       clear c3
       by_cases c4 : 0 ≤ x6_2
       ·rw [if_pos c4] at H
        have c4b0 : decide (0 ≤ x6_2) = true := decide_eq_true c4
        clear c4
        by_cases c6 : 0 ≤ x4_1
        ·rw [if_pos c6] at H
         have c6b0 : decide (0 ≤ x4_1) = true := decide_eq_true c6
         clear c6
         by_cases c7 : x4_1 < (a0.size : Int)
         ·rw [if_pos c7] at H
          have c7b0 : decide (x4_1 < (a0.size : Int)) = true := decide_eq_true c7
          clear c7
          by_cases c9 : (bt (⟨#[97, 98, 99, 100, 101, 102, 103, 104, 105, 106, 107, 108, 109, 110, 111, 112, 113, 114, 115, 116, 117, 118, 119, 120, 121, 122, 48, 49, 50, 51, 52, 53, 54, 55, 56, 57, 95]⟩ : ByteArray) x6_2) = (bt a0 x4_1)
          ·rw [if_pos c9] at H
           have c9b0 : ((bt (⟨#[97, 98, 99, 100, 101, 102, 103, 104, 105, 106, 107, 108, 109, 110, 111, 112, 113, 114, 115, 116, 117, 118, 119, 120, 121, 122, 48, 49, 50, 51, 52, 53, 54, 55, 56, 57, 95]⟩ : ByteArray) x6_2) == (bt a0 x4_1)) = true := beq_iff_eq.mpr c9
           have c9b1 : ((bt (⟨#[97, 98, 99, 100, 101, 102, 103, 104, 105, 106, 107, 108, 109, 110, 111, 112, 113, 114, 115, 116, 117, 118, 119, 120, 121, 122, 48, 49, 50, 51, 52, 53, 54, 55, 56, 57, 95]⟩ : ByteArray) x6_2) != (bt a0 x4_1)) = false := bne_eq_false_iff_eq.mpr c9
           clear c9
           have H' := Aside0.mk H
           clear H
           have p5 : 0 ≤ (x6_2 : Int) := of_decide_eq_true (by first | (with_reducible assumption) | assumption)
           have q5 : x6_2 < (37 : Int) := of_decide_eq_true (by first | (with_reducible assumption) | assumption)
           have hx5 := bt_at (⟨#[97, 98, 99, 100, 101, 102, 103, 104, 105, 106, 107, 108, 109, 110, 111, 112, 113, 114, 115, 116, 117, 118, 119, 120, 121, 122, 48, 49, 50, 51, 52, 53, 54, 55, 56, 57, 95]⟩ : ByteArray) x6_2
           replace p5 := eq_true p5
           replace q5 := eq_true q5
           have p8 : 0 ≤ (x4_1 : Int) := of_decide_eq_true (by first | (with_reducible assumption) | assumption)
           have q8 : x4_1 < (a0.size : Int) := of_decide_eq_true (by first | (with_reducible assumption) | assumption)
           have hx8 := bt_at a0 x4_1
           replace p8 := eq_true p8
           replace q8 := eq_true q8
           go_wp2
           repeat (go_quiet (fail); try go_wp2)
           go_roundg k2
           case measure => have := HK1.out; have := HK2.out; omega
           case rel => exact ⟨(x6_2), (wrap64 (x6_2 + 1)), (by first | rfl | (simp; done) | (simp [*]; done)), (by first | rfl | (simp; done) | (simp [*]; done)), H', ⟨by have := HK1.out; have := HK2.out; omega⟩, by repeat (first | exact Drawn0.refl _ | apply Drawn0.step)⟩
          ·rw [if_neg c9] at H
           have c9b0 : ((bt (⟨#[97, 98, 99, 100, 101, 102, 103, 104, 105, 106, 107, 108, 109, 110, 111, 112, 113, 114, 115, 116, 117, 118, 119, 120, 121, 122, 48, 49, 50, 51, 52, 53, 54, 55, 56, 57, 95]⟩ : ByteArray) x6_2) == (bt a0 x4_1)) = false := beq_eq_false_iff_ne.mpr c9
           have c9b1 : ((bt (⟨#[97, 98, 99, 100, 101, 102, 103, 104, 105, 106, 107, 108, 109, 110, 111, 112, 113, 114, 115, 116, 117, 118, 119, 120, 121, 122, 48, 49, 50, 51, 52, 53, 54, 55, 56, 57, 95]⟩ : ByteArray) x6_2) != (bt a0 x4_1)) = true := bne_iff_ne.mpr c9
           have H' := Aside0.mk H
           clear H
           have p5 : 0 ≤ (x6_2 : Int) := of_decide_eq_true (by first | (with_reducible assumption) | assumption)
           have q5 : x6_2 < (37 : Int) := of_decide_eq_true (by first | (with_reducible assumption) | assumption)
           have hx5 := bt_at (⟨#[97, 98, 99, 100, 101, 102, 103, 104, 105, 106, 107, 108, 109, 110, 111, 112, 113, 114, 115, 116, 117, 118, 119, 120, 121, 122, 48, 49, 50, 51, 52, 53, 54, 55, 56, 57, 95]⟩ : ByteArray) x6_2
           replace p5 := eq_true p5
           replace q5 := eq_true q5
           have p8 : 0 ≤ (x4_1 : Int) := of_decide_eq_true (by first | (with_reducible assumption) | assumption)
           have q8 : x4_1 < (a0.size : Int) := of_decide_eq_true (by first | (with_reducible assumption) | assumption)
           have hx8 := bt_at a0 x4_1
           replace p8 := eq_true p8
           replace q8 := eq_true q8
           go_wp2
           repeat (go_quiet (fail); try go_wp2)
           go_roundg k2
           case measure => have := HK1.out; have := HK2.out; omega
           case rel => exact ⟨(x5_2), (wrap64 (x6_2 + 1)), (by first | rfl | (simp; done) | (simp [*]; done)), (by first | rfl | (simp; done) | (simp [*]; done)), H', ⟨by have := HK1.out; have := HK2.out; omega⟩, by repeat (first | exact Drawn0.refl _ | apply Drawn0.step)⟩
         ·rw [if_neg c7] at H
          exact absurd H (by simp)
        ·rw [if_neg c6] at H
         exact absurd H (by simp)
       ·rw [if_neg c4] at H
        exact absurd H (by simp)
      ·rw [if_neg c3] at H
       have c3b0 : decide (x6_2 < ((⟨#[97, 98, 99, 100, 101, 102, 103, 104, 105, 106, 107, 108, 109, 110, 111, 112, 113, 114, 115, 116, 117, 118, 119, 120, 121, 122, 48, 49, 50, 51, 52, 53, 54, 55, 56, 57, 95]⟩ : ByteArray).size : Int)) = false := decide_eq_false c3
       have c3b9 : decide (x6_2 < 37) = false := decide_eq_false c3
       clear c3
       by_cases c10 : x5_2 < 0
       ·rw [if_pos c10] at H
        have c10b0 : decide (x5_2 < 0) = true := decide_eq_true c10
        clear c10
        obtain rfl := Option.some.inj H
        go_wp2
        repeat (go_quiet (fail); try go_wp2)
        go_ret
        exact ⟨by first | rfl | (simp; done) | (simp [*]; done), by repeat (first | exact Drawn0.refl _ | apply Drawn0.step)⟩
       ·rw [if_neg c10] at H
        have c10b0 : decide (x5_2 < 0) = false := decide_eq_false c10
        clear c10
        by_cases c11 : x4_1 = 0
        ·rw [if_pos c11] at H
         have c11b0 : (x4_1 == 0) = true := beq_iff_eq.mpr c11
         have c11b1 : (x4_1 != 0) = false := bne_eq_false_iff_eq.mpr c11
         clear c11
         by_cases c12 : x5_2 > 25
         ·rw [if_pos c12] at H
          have c12b0 : decide (25 < x5_2) = true := decide_eq_true c12
          clear c12
          obtain rfl := Option.some.inj H
          go_wp2
          repeat (go_quiet (fail); try go_wp2)
          go_ret
          exact ⟨by first | rfl | (simp; done) | (simp [*]; done), by repeat (first | exact Drawn0.refl _ | apply Drawn0.step)⟩
         ·rw [if_neg c12] at H
          have c12b0 : decide (25 < x5_2) = false := decide_eq_false c12
          clear c12
          have H' := Aside0.mk H
          clear H
          go_wp2
          repeat (go_quiet (fail); try go_wp2)
          go_roundg k2
          case measure => have := HK1.out; have := HK2.out; omega
          case rel => exact ⟨(wrap64 (x4_1 + 1)), (by first | rfl | (simp; done) | (simp [*]; done)), H', ⟨by have := HK1.out; have := HK2.out; omega⟩, by repeat (first | exact Drawn0.refl _ | apply Drawn0.step)⟩
        ·rw [if_neg c11] at H
         have c11b0 : (x4_1 == 0) = false := beq_eq_false_iff_ne.mpr c11
         have c11b1 : (x4_1 != 0) = true := bne_iff_ne.mpr c11
         have H' := Aside0.mk H
         clear H
         go_wp2
         repeat (go_quiet (fail); try go_wp2)
         go_roundg k2
         case measure => have := HK1.out; have := HK2.out; omega
         case rel => exact ⟨(wrap64 (x4_1 + 1)), (by first | rfl | (simp; done) | (simp [*]; done)), H', ⟨by have := HK1.out; have := HK2.out; omega⟩, by repeat (first | exact Drawn0.refl _ | apply Drawn0.step)⟩
   ·rw [if_neg c2] at H
    have c2b0 : decide (x4_1 < (a0.size : Int)) = false := decide_eq_false c2
    clear c2
    by_cases c13 : (a0.size : Int) > 0
    ·rw [if_pos c13] at H
     have c13b0 : decide (0 < (a0.size : Int)) = true := decide_eq_true c13
     have c13b1 : decide (0 < a0.size) = true := decide_eq_true (by omega)
     clear c13
     obtain rfl := Option.some.inj H
     go_wp2
     repeat (go_quiet (fail); try go_wp2)
     go_ret
     exact ⟨by first | rfl | (simp; done) | (simp [*]; done), by repeat (first | exact Drawn0.refl _ | apply Drawn0.step)⟩
    ·rw [if_neg c13] at H
     have c13b0 : decide (0 < (a0.size : Int)) = false := decide_eq_false c13
     have c13b1 : decide (0 < a0.size) = false := decide_eq_false (by omega)
     clear c13
     obtain rfl := Option.some.inj H
     go_wp2
     repeat (go_quiet (fail); try go_wp2)
     go_ret
     exact ⟨by first | rfl | (simp; done) | (simp [*]; done), by repeat (first | exact Drawn0.refl _ | apply Drawn0.step)⟩


/-! ### ecdysisref13_Set: function 27 -/
mutual
def ecdysisref13_Set.j0 : Nat → List (S66) → ByteArray → Bool → Int → Int → Option ((List (S66)) × Int)
 | 0, _, _, _, _, _ => none
 | k + 1, x0, x1, x20, x369000, x369001 => if x20 = true then (some (x0, 1)) else ((ecdysisref13_Find.f k x0 x1).bind fun t371 => (if t371 ≥ 0 then ((some (([] : List (S66)) : List (S66))).bind fun y372 => (if y372.length + x0.length < 4398046511104 then ((some (y372 ++ x0 : List (S66))).bind fun y375 => (if 0 ≤ t371 then (if t371 < (y375.length : Int) then (some ((y375.set (t371 : Int).toNat (⟨x1, (⟨x369000, x369001⟩ : S29)⟩ : S66)), 0)) else (none)) else (none))) else (none))) else (if (x0.length : Int) ≥ 16 then (some (x0, 131)) else (ecdysisref13_Set.l0 k x0 x1 ([] : List (S66)) false 0 x369000 x369001))))
def ecdysisref13_Set.l0 : Nat → List (S66) → ByteArray → List (S66) → Bool → Int → Int → Int → Option ((List (S66)) × Int)
 | 0, _, _, _, _, _, _, _ => none
 | k + 1, x0, x1, x10, x11, x12, x369000, x369001 => if x12 < (x0.length : Int) then (if x11 = true then (if 0 ≤ x12 then (if x10.length < 4398046511104 then (ecdysisref13_Set.l0 k x0 x1 (x10 ++ [(⟨(rd_T66 x0 x12).f0, (⟨(rd_T66 x0 x12).f1.f0, (rd_T66 x0 x12).f1.f1⟩ : S29)⟩ : S66)]) x11 (wrap64 (x12 + 1)) x369000 x369001) else (none)) else (none)) else (if 0 ≤ x12 then (if (Op.bytesLess x1.toList (((rd_T66 x0 x12).f0).toList)) = true then (if x10.length < 4398046511104 then ((some (x10 ++ [(⟨x1, (⟨x369000, x369001⟩ : S29)⟩ : S66)] : List (S66))).bind fun y384 => (if y384.length < 4398046511104 then (ecdysisref13_Set.l0 k x0 x1 (y384 ++ [(⟨(rd_T66 x0 x12).f0, (⟨(rd_T66 x0 x12).f1.f0, (rd_T66 x0 x12).f1.f1⟩ : S29)⟩ : S66)]) true (wrap64 (x12 + 1)) x369000 x369001) else (none))) else (none)) else (if x10.length < 4398046511104 then (ecdysisref13_Set.l0 k x0 x1 (x10 ++ [(⟨(rd_T66 x0 x12).f0, (⟨(rd_T66 x0 x12).f1.f0, (rd_T66 x0 x12).f1.f1⟩ : S29)⟩ : S66)]) x11 (wrap64 (x12 + 1)) x369000 x369001) else (none))) else (none))) else (if x11 = true then (some (x10, 0)) else (if x10.length < 4398046511104 then (some ((x10 ++ [(⟨x1, (⟨x369000, x369001⟩ : S29)⟩ : S66)]), 0)) else (none)))
end
def ecdysisref13_Set.f (k : Nat) (l0 : List (S66)) (a1 : ByteArray) (a2_0 : Int) (a2_1 : Int) : Option ((List (S66)) × Int) := (ecdysisref06_Name.f k a1).bind fun t369 => (if t369 = true then ((ecdysisref11_Pack.f a2_0 a2_1).bind fun t370 => (ecdysisref13_Set.j0 k l0 a1 (t370 == 0) a2_0 a2_1)) else (ecdysisref13_Set.j0 k l0 a1 true a2_0 a2_1))
theorem ecdysisref13_Set.mono_l : ∀ k, (∀ y0 y1 y2 y3 y4, LeO (ecdysisref13_Set.j0 k y0 y1 y2 y3 y4) (ecdysisref13_Set.j0 (k + 1) y0 y1 y2 y3 y4)) ∧ (∀ y0 y1 y2 y3 y4 y5 y6, LeO (ecdysisref13_Set.l0 k y0 y1 y2 y3 y4 y5 y6) (ecdysisref13_Set.l0 (k + 1) y0 y1 y2 y3 y4 y5 y6))
 | 0 => ⟨fun _ _ _ _ _ r h => by simp [ecdysisref13_Set.j0] at h, fun _ _ _ _ _ _ _ r h => by simp [ecdysisref13_Set.l0] at h⟩
 | k + 1 => by
  obtain ⟨ih0, ih1⟩ := ecdysisref13_Set.mono_l k
  refine ⟨?_, ?_⟩
  ·intro y0 y1 y2 y3 y4
   unfold ecdysisref13_Set.j0
   repeat' first
   | (with_reducible exact ih0 _ _ _ _ _)
   | (with_reducible exact ih1 _ _ _ _ _ _ _)
   | (with_reducible exact ecdysisref06_Name.mono _ _)
   | (with_reducible exact ecdysisref13_Find.mono _ _ _)
   | (with_reducible exact LeO.refl _)
   | (with_reducible exact LeO.none _)
   | (with_reducible refine LeO.ite ?_ ?_)
   | (with_reducible refine LeO.bind ?_ (fun _ => ?_))
   | exact ih0 _ _ _ _ _
   | exact ih1 _ _ _ _ _ _ _
   | exact ecdysisref06_Name.mono _ _
   | exact ecdysisref13_Find.mono _ _ _
   | exact LeO.none _
   | refine LeO.ite ?_ ?_
   | refine LeO.bind ?_ (fun _ => ?_)
  ·intro y0 y1 y2 y3 y4 y5 y6
   unfold ecdysisref13_Set.l0
   repeat' first
   | (with_reducible exact ih0 _ _ _ _ _)
   | (with_reducible exact ih1 _ _ _ _ _ _ _)
   | (with_reducible exact ecdysisref06_Name.mono _ _)
   | (with_reducible exact ecdysisref13_Find.mono _ _ _)
   | (with_reducible exact LeO.refl _)
   | (with_reducible exact LeO.none _)
   | (with_reducible refine LeO.ite ?_ ?_)
   | (with_reducible refine LeO.bind ?_ (fun _ => ?_))
   | exact ih0 _ _ _ _ _
   | exact ih1 _ _ _ _ _ _ _
   | exact ecdysisref06_Name.mono _ _
   | exact ecdysisref13_Find.mono _ _ _
   | exact LeO.none _
   | refine LeO.ite ?_ ?_
   | refine LeO.bind ?_ (fun _ => ?_)
theorem ecdysisref13_Set.mono : ∀ a0 a1 a2 a3 k, LeO (ecdysisref13_Set.f k a0 a1 a2 a3) (ecdysisref13_Set.f (k + 1) a0 a1 a2 a3) := by
 intro a0 a1 a2 a3 k
 obtain ⟨ih0, ih1⟩ := ecdysisref13_Set.mono_l k
 unfold ecdysisref13_Set.f
 repeat' first
   | (with_reducible exact ih0 _ _ _ _ _)
   | (with_reducible exact ih1 _ _ _ _ _ _ _)
   | (with_reducible exact ecdysisref06_Name.mono _ _)
   | (with_reducible exact ecdysisref13_Find.mono _ _ _)
   | (with_reducible exact LeO.refl _)
   | (with_reducible exact LeO.none _)
   | (with_reducible refine LeO.ite ?_ ?_)
   | (with_reducible refine LeO.bind ?_ (fun _ => ?_))
   | exact ih0 _ _ _ _ _
   | exact ih1 _ _ _ _ _ _ _
   | exact ecdysisref06_Name.mono _ _
   | exact ecdysisref13_Find.mono _ _ _
   | exact LeO.none _
   | refine LeO.ite ?_ ?_
   | refine LeO.bind ?_ (fun _ => ?_)
set_option maxHeartbeats 8000000 in
set_option maxRecDepth 100000 in
theorem ecdysisref13_Set.calls (k : Nat) (P0_ : Nat → Prop) (u9000_ : Value) (l0 : List (S66)) (a1 : ByteArray) (a2_0 : Int) (a2_1 : Int) (r1 : List (S66)) (r2 : Int) (w0 w : World) (hB : Below w0.heap.size w0 w) (ho0 : Kd.R k66 66 w w0.heap.size P0_ u9000_ l0) (h : ecdysisref13_Set.f k l0 a1 a2_0 a2_1 = some (r1, r2)) :
  Calls Try.prog 27 #[u9000_, .string a1, .agg #[.int .i64 a2_0, .int .i64 a2_1]] w fun e w' => ∃ v0_ : Value, e = .returned (.tuple #[v0_, .int .i64 r2]) ∧ Kd.R k66 66 w' w0.heap.size (fun k_ => (P0_ k_ ∨ w.heap.size ≤ k_)) v0_ r1 ∧ Below w0.heap.size w0 w' ∧ Kept w w' (fun k_ => P0_ k_) := by
 have hu29 := Try.underlying29
 have hu66 := Try.underlying66
 have HO0 := Aside0.mk (show Kd.R k66 66 w w0.heap.size (fun k_ => (P0_ k_ ∨ w.heap.size ≤ k_)) u9000_ l0 from Kd.R_mono ho0 (fun k_ hk => (.inl hk)))
 have HK := Aside0.mk (Kept.refl w (fun k_ => P0_ k_))
 have HW0 := Aside0.mk hB.size
 have HB := Aside0.mk hB
 clear hB
 have H : ((ecdysisref06_Name.f k a1).bind fun t369 => (if t369 = true then ((ecdysisref11_Pack.f a2_0 a2_1).bind fun t370 => (ecdysisref13_Set.j0 k l0 a1 (t370 == 0) a2_0 a2_1)) else (ecdysisref13_Set.j0 k l0 a1 true a2_0 a2_1))) = some (r1, r2) := h
 clear h
 have HC4 := Aside0.mk H
 clear H
 go_enter Try.func27, Try.ntmps27
 go_upto_region 1 with (first | ((with_reducible refine gate_dst (N := 5) rfl ?_); refine box_event ?hg (N := 5) ?hd (cs := #[.int .i64 a2_0, .int .i64 a2_1]) (t := 29) ?hr ?_; (case hd => rfl); (case hg => rfl); (case hr => first | (go_simp; done) | (go_simp; rfl)); intro gb368 hg w5 hbox hb; have n0_ := Aside0.mk (Kd.R_below (by (with_reducible repeat (first | apply Kd.R_alloc | apply Kd.R_drewN | apply Kd.R_drew)); exact HO0.out) hb); have n1_ := Aside0.mk (Kept.below (S := (fun k_ => P0_ k_)) (by repeat (first | (with_reducible first | exact HK.out | apply Kept.alloc | apply Kept.drewN | apply Kept.drew) | exact HK.out)) hb); have n2_ := Aside0.mk (below_step (by repeat (first | (with_reducible first | exact HB.out | apply below_alloc | apply pw_below_drewN | apply below_drew1) | exact HB.out)) hb); have n3_ := Aside0.mk (hbox); have n4_ := Aside0.mk ((by rw [hg]; exact (by first | exact HK.out.1 | exact (show Kept w _ (fun k_ => P0_ k_) from by repeat (first | (with_reducible first | exact HK.out | apply Kept.alloc | apply Kept.drewN | apply Kept.drew) | exact HK.out)).1) : w.heap.size ≤ gb368)); have n5_ := Aside0.mk ((by rw [hg]; exact (below_size (by repeat (first | (with_reducible first | exact HB.out | apply below_alloc | apply pw_below_drewN | apply below_drew1) | exact HB.out))) : w0.heap.size ≤ gb368)); clear HO0; clear HK; clear HB; have HO0 := n0_; have HK := n1_; have HB := n2_; have BK368 := n3_; have GW368 := n4_; have GE368 := n5_; clear n0_ n1_ n2_ n3_ n4_ n5_; clear hb hbox hg))
 (try simp only [Act.put, List.setIfInBounds_toArray, List.set_cons_zero, List.set_cons_succ])
 go_cut [20] (fun v20 wc => ∃ (kq : Nat) (x20_3 : Bool), v20 = .bool x20_3 ∧ Aside0 (ecdysisref13_Set.j0 kq l0 a1 x20_3 a2_0 a2_1 = some (r1, r2)) ∧ Aside0 (kq ≤ k) ∧ Aside0 (Kd.R k66 66 wc w0.heap.size (fun k_ => (P0_ k_ ∨ w.heap.size ≤ k_)) u9000_ l0) ∧ Aside0 (wc.heap[gb368]? = some (.cells #[.int .i64 a2_0, .int .i64 a2_1] 29 (0, 0))) ∧ Aside0 (Kept w wc (fun k_ => P0_ k_)) ∧ Aside0 (Below w0.heap.size w0 wc))
 case first =>
  have H := HC4.out
  clear HC4
  replace H := Option.bind_eq_some_iff.mp H
  obtain ⟨t369, A60, H⟩ := H
  replace H : (if t369 = true then ((ecdysisref11_Pack.f a2_0 a2_1).bind fun t370 => (ecdysisref13_Set.j0 k l0 a1 (t370 == 0) a2_0 a2_1)) else (ecdysisref13_Set.j0 k l0 a1 true a2_0 a2_1)) = some (r1, r2) := H
  have A6 := Aside0.mk A60
  clear A60
  by_cases c7 : t369 = true
  ·subst c7
   have H1 : ((ecdysisref11_Pack.f a2_0 a2_1).bind fun t370 => (ecdysisref13_Set.j0 k l0 a1 (t370 == 0) a2_0 a2_1)) = some (r1, r2) := by rw [if_pos rfl] at H; exact H
   clear H
   have H := H1
   clear H1
   replace H := Option.bind_eq_some_iff.mp H
   obtain ⟨t370, A80, H⟩ := H
   replace H : (ecdysisref13_Set.j0 k l0 a1 (t370 == 0) a2_0 a2_1) = some (r1, r2) := H
   have A8 := Aside0.mk A80
   clear A80
   have H' := Aside0.mk H
   clear H
   go_wp2_with (first | ((with_reducible refine gate_callee (f := 46) rfl ?_); refine goesL_ (some 14) rfl rfl Try.func46 (by kernel_rfl) rfl #[.string a1] rfl (by (try simp only [List.map_toArray, List.map_cons, List.map_nil]); first | done | rfl | (simp only [List.length_drop, List.length_take]; rfl)) ?_; (with_reducible refine (ecdysisref06_Name.calls k a1 true _ A6.out).mono ?_); rintro e w' ⟨rfl, ⟨nd, rfl⟩⟩; refine ⟨_, rfl, ?_⟩; have hcz9_0 : w5.cell? ⟨gb368, 0, none⟩ = some (.int .i64 a2_0) := (blk_cell BK368.out 0).trans rfl; have hcz9_1 : w5.cell? ⟨gb368, 1, none⟩ = some (.int .i64 a2_1) := (blk_cell BK368.out 1).trans rfl; have hfz9_0 := blk_frozen BK368.out 0; have hfz9_1 := blk_frozen BK368.out 1) | (go_at_call 45; (with_reducible refine (ecdysisref11_Pack.calls a2_0 a2_1 t370 _ A8.out).mono ?_); rintro e w10 ⟨rfl, hb⟩; have n0_ := Aside0.mk (Kd.R_below (by (with_reducible repeat (first | apply Kd.R_alloc | apply Kd.R_drewN | apply Kd.R_drew)); exact HO0.out) hb); have n1_ := Aside0.mk (blk_below (g := gb368) (o := .cells #[.int .i64 a2_0, .int .i64 a2_1] 29 (0, 0)) (by (with_reducible repeat (first | refine blk_drewN ?_ _ | refine blk_drew ?_ | refine blk_alloc ?_ _)); exact BK368.out) hb); have n2_ := Aside0.mk (Kept.below (S := (fun k_ => P0_ k_)) (by repeat (first | (with_reducible first | exact HK.out | apply Kept.alloc | apply Kept.drewN | apply Kept.drew | refine Kept.setCell ?_ (.inr GW368.out) _) | exact HK.out)) hb); have n3_ := Aside0.mk (below_step (by repeat (first | (with_reducible first | exact HB.out | apply below_alloc | apply pw_below_drewN | apply below_drew1 | refine below_set ?_ GE368.out) | exact HB.out)) hb); clear HO0; clear BK368; clear HK; clear HB; have HO0 := n0_; have BK368 := n1_; have HK := n2_; have HB := n3_; clear n0_ n1_ n2_ n3_; (try clear hb); (try clear hb2); (try clear hk); (try clear hi)))
   go_meet
   case rel => exact ⟨_, ((t370 == 0)), (by first | rfl | (simp; done) | (simp [*]; done)), H', ⟨by first | omega | exact Nat.le_refl _⟩, ⟨by (with_reducible repeat (first | apply Kd.R_alloc | apply Kd.R_drewN | apply Kd.R_drew)); exact HO0.out⟩, ⟨by (with_reducible repeat (first | refine blk_drewN ?_ _ | refine blk_drew ?_ | refine blk_alloc ?_ _)); exact BK368.out⟩, ⟨by repeat (first | (with_reducible first | exact HK.out | apply Kept.alloc | apply Kept.drewN | apply Kept.drew | refine Kept.setCell ?_ (.inr GW368.out) _) | exact HK.out)⟩, ⟨by repeat (first | (with_reducible first | exact HB.out | apply below_alloc | apply pw_below_drewN | apply below_drew1 | refine below_set ?_ GE368.out) | exact HB.out)⟩⟩
  ·replace c7 := Bool.eq_false_iff.mpr c7
   subst c7
   have H1 : (ecdysisref13_Set.j0 k l0 a1 true a2_0 a2_1) = some (r1, r2) := by rw [if_neg (show ¬ (false = true) by decide)] at H; exact H
   clear H
   have H := H1
   clear H1
   have H' := Aside0.mk H
   clear H
   go_wp2_with (first | ((with_reducible refine gate_callee (f := 46) rfl ?_); refine goesL_ (some 14) rfl rfl Try.func46 (by kernel_rfl) rfl #[.string a1] rfl (by (try simp only [List.map_toArray, List.map_cons, List.map_nil]); first | done | rfl | (simp only [List.length_drop, List.length_take]; rfl)) ?_; (with_reducible refine (ecdysisref06_Name.calls k a1 false _ A6.out).mono ?_); rintro e w' ⟨rfl, ⟨nd, rfl⟩⟩; refine ⟨_, rfl, ?_⟩))
   go_meet
   case rel => exact ⟨_, (true), (by first | rfl | (simp; done) | (simp [*]; done)), H', ⟨by first | omega | exact Nat.le_refl _⟩, ⟨by (with_reducible repeat (first | apply Kd.R_alloc | apply Kd.R_drewN | apply Kd.R_drew)); exact HO0.out⟩, ⟨by (with_reducible repeat (first | refine blk_drewN ?_ _ | refine blk_drew ?_ | refine blk_alloc ?_ _)); exact BK368.out⟩, ⟨by repeat (first | (with_reducible first | exact HK.out | apply Kept.alloc | apply Kept.drewN | apply Kept.drew | refine Kept.setCell ?_ (.inr GW368.out) _) | exact HK.out)⟩, ⟨by repeat (first | (with_reducible first | exact HB.out | apply below_alloc | apply pw_below_drewN | apply below_drew1 | refine below_set ?_ GE368.out) | exact HB.out)⟩⟩
 case rest =>
  clear HC4
  try clear c2
  try clear p2
  try clear c4
  try clear c7
  try clear hcz9_0
  try clear hcz9_1
  try clear hfz9_0
  try clear hfz9_1
  obtain ⟨kq, x20_3, rfl, HA, HJ3, HO_0, BK368, HK, HB⟩ := hcut
  cases kq with
  | zero => exact absurd HA.out (by simp [ecdysisref13_Set.j0])
  | succ kj3 =>
   have H := HA.out
   clear HA
   simp only [ecdysisref13_Set.j0] at H
   by_cases c11 : x20_3 = true
   ·subst c11
    have H1 : (some (l0, 1)) = some (r1, r2) := by rw [if_pos rfl] at H; exact H
    clear H
    have H := H1
    clear H1
    simp only [Option.some.injEq, Prod.mk.injEq] at H
    obtain ⟨rfl, rfl⟩ := H
    go_wp2
    go_ret2
    exact ⟨_, by first | rfl | (simp [errW_none, errW_some] <;> rfl) | (simp [*, errW_none, errW_some] <;> rfl), by (with_reducible repeat (first | apply Kd.R_alloc | apply Kd.R_drewN | apply Kd.R_drew)); exact HO_0.out, by repeat (first | (with_reducible first | exact HB.out | apply below_alloc | apply pw_below_drewN | apply below_drew1 | refine below_set ?_ GE368.out) | exact HB.out), by repeat (first | (with_reducible first | exact HK.out | apply Kept.alloc | apply Kept.drewN | apply Kept.drew | refine Kept.setCell ?_ (.inr GW368.out) _) | exact HK.out)⟩
   ·replace c11 := Bool.eq_false_iff.mpr c11
    subst c11
    have H1 : ((ecdysisref13_Find.f kj3 l0 a1).bind fun t371 => (if t371 ≥ 0 then ((some (([] : List (S66)) : List (S66))).bind fun y372 => (if y372.length + l0.length < 4398046511104 then ((some (y372 ++ l0 : List (S66))).bind fun y375 => (if 0 ≤ t371 then (if t371 < (y375.length : Int) then (some ((y375.set (t371 : Int).toNat (⟨a1, (⟨a2_0, a2_1⟩ : S29)⟩ : S66)), 0)) else (none)) else (none))) else (none))) else (if (l0.length : Int) ≥ 16 then (some (l0, 131)) else (ecdysisref13_Set.l0 kj3 l0 a1 ([] : List (S66)) false 0 a2_0 a2_1)))) = some (r1, r2) := by rw [if_neg (show ¬ (false = true) by decide)] at H; exact H
    clear H
    have H := H1
    clear H1
    replace H := Option.bind_eq_some_iff.mp H
    obtain ⟨t371, A120, H⟩ := H
    replace H : (if t371 ≥ 0 then ((some (([] : List (S66)) : List (S66))).bind fun y372 => (if y372.length + l0.length < 4398046511104 then ((some (y372 ++ l0 : List (S66))).bind fun y375 => (if 0 ≤ t371 then (if t371 < (y375.length : Int) then (some ((y375.set (t371 : Int).toNat (⟨a1, (⟨a2_0, a2_1⟩ : S29)⟩ : S66)), 0)) else (none)) else (none))) else (none))) else (if (l0.length : Int) ≥ 16 then (some (l0, 131)) else (ecdysisref13_Set.l0 kj3 l0 a1 ([] : List (S66)) false 0 a2_0 a2_1))) = some (r1, r2) := H
    have A12 := Aside0.mk A120
    clear A120
    by_cases c13 : t371 ≥ 0
    ·rw [if_pos c13] at H
     have c13b0 : decide (0 ≤ t371) = true := decide_eq_true c13
     clear c13
     obtain ⟨y372, hy372⟩ : ∃ y_ : List (S66), y_ = (([] : List (S66))) := ⟨_, rfl⟩
     replace H : (if y372.length + l0.length < 4398046511104 then ((some (y372 ++ l0 : List (S66))).bind fun y375 => (if 0 ≤ t371 then (if t371 < (y375.length : Int) then (some ((y375.set (t371 : Int).toNat (⟨a1, (⟨a2_0, a2_1⟩ : S29)⟩ : S66)), 0)) else (none)) else (none))) else (none)) = some (r1, r2) := by first | (rw [hy372]; with_reducible exact H) | (have H2_ := (Option.bind_some _ _).symm.trans H; rw [hy372]; with_reducible exact H2_) | (have H2_ := (Option.bind_some _ _).symm.trans H; with_reducible exact H2_) | with_reducible exact H | (rw [hy372]; exact H) | exact H
     have Ny372 := Aside0.mk hy372
     clear hy372
     by_cases c14 : y372.length + l0.length < 4398046511104
     ·rw [if_pos c14] at H
      have LMc14 := Aside0.mk c14
      clear c14
      obtain ⟨y375, hy375⟩ : ∃ y_ : List (S66), y_ = (y372 ++ l0) := ⟨_, rfl⟩
      replace H : (if 0 ≤ t371 then (if t371 < (y375.length : Int) then (some ((y375.set (t371 : Int).toNat (⟨a1, (⟨a2_0, a2_1⟩ : S29)⟩ : S66)), 0)) else (none)) else (none)) = some (r1, r2) := by first | (rw [hy375]; with_reducible exact H) | (have H2_ := (Option.bind_some _ _).symm.trans H; rw [hy375]; with_reducible exact H2_) | (have H2_ := (Option.bind_some _ _).symm.trans H; with_reducible exact H2_) | with_reducible exact H | (rw [hy375]; exact H) | exact H
      have Ny375 := Aside0.mk hy375
      clear hy375
      by_cases c15 : 0 ≤ t371
      ·rw [if_pos c15] at H
       have c15b0 : decide (0 ≤ t371) = true := decide_eq_true c15
       clear c15
       by_cases c16 : t371 < (y375.length : Int)
       ·rw [if_pos c16] at H
        have c16b0 : decide (t371 < (y375.length : Int)) = true := decide_eq_true c16
        clear c16
        obtain ⟨y378, hy378⟩ : ∃ y_ : List (S66), y_ = (y375.set (t371 : Int).toNat (⟨a1, (⟨a2_0, a2_1⟩ : S29)⟩ : S66)) := ⟨_, rfl⟩
        replace H : (some (y378, 0)) = some (r1, r2) := by first | (rw [hy378]; with_reducible exact H) | (have H2_ := (Option.bind_some _ _).symm.trans H; rw [hy378]; with_reducible exact H2_) | (have H2_ := (Option.bind_some _ _).symm.trans H; with_reducible exact H2_) | with_reducible exact H | (rw [hy378]; exact H) | exact H
        have Ny378 := Aside0.mk hy378
        clear hy378
        simp only [Option.some.injEq, Prod.mk.injEq] at H
        obtain ⟨rfl, rfl⟩ := H
        obtain ⟨Ao18, co18, eo18⟩ := Kd.R_slice HO_0.out
        subst eo18
        go_wp2_with (first | ((with_reducible refine gate_callee (f := 29) rfl ?_); refine goesL_ (some 24) rfl rfl Try.func29 (by kernel_rfl) rfl #[.slice Ao18 l0.length co18, .string a1] rfl (by (try simp only [List.map_toArray, List.map_cons, List.map_nil]); first | done | rfl | (simp only [List.length_drop, List.length_take]; rfl)) ?_; (with_reducible refine (ecdysisref13_Find.calls kj3 _ _ l0 a1 t371 _ ?side1 ?side2 A12.out).mono ?_); (case side1 => repeat (first | exact (Kd.R_reads' HO_0.out).2.2 | (with_reducible refine Kd.C_alloc ?_ _) | (with_reducible refine Kd.C_drewN ?_ _) | (with_reducible refine Kd.C_drew ?_))); (case side2 => exact (Kd.R_reads' HO_0.out).2.1); rintro e w' ⟨rfl, ⟨nd, rfl⟩⟩; refine ⟨_, rfl, ?_⟩; (try (rw [drewN_self wc]; generalize hq_ : World.drewN wc _ = wc; have n0_ : Aside0 (Kd.R k66 66 wc w0.heap.size (fun k_ => (P0_ k_ ∨ w.heap.size ≤ k_)) (.slice Ao18 l0.length co18) l0) := ⟨by rw [← hq_]; exact (by (with_reducible repeat (first | apply Kd.R_alloc | apply Kd.R_drewN | apply Kd.R_drew)); exact HO_0.out)⟩; have n1_ : Aside0 (wc.heap[gb368]? = some (.cells #[.int .i64 a2_0, .int .i64 a2_1] 29 (0, 0))) := ⟨by rw [← hq_]; exact (by (with_reducible repeat (first | refine blk_drewN ?_ _ | refine blk_drew ?_ | refine blk_alloc ?_ _)); exact BK368.out)⟩; have n2_ : Aside0 (Kept w wc (fun k_ => P0_ k_)) := ⟨by rw [← hq_]; exact (by repeat (first | (with_reducible first | exact HK.out | apply Kept.alloc | apply Kept.drewN | apply Kept.drew | refine Kept.setCell ?_ (.inr GW368.out) _) | exact HK.out))⟩; have n3_ : Aside0 (Below w0.heap.size w0 wc) := ⟨by rw [← hq_]; exact (by repeat (first | (with_reducible first | exact HB.out | apply below_alloc | apply pw_below_drewN | apply below_drew1 | refine below_set ?_ GE368.out) | exact HB.out))⟩; clear HO_0 BK368 HK HB hq_; have HO_0 := n0_; have BK368 := n1_; have HK := n2_; have HB := n3_; clear n0_ n1_ n2_ n3_))) | ((with_reducible refine gate_dst (N := 27) rfl ?_); refine Kd.R_lit k66 _ 66 ?hg (N := 27) ?hd (xs := ([] : List (S66))) (inner := []) (ok := fun _ => True) (okp := fun _ => True) ?hr ?hp (fun _ hk => hk) trivial (Below.refl _ _) (Nat.le_refl _) (by simp) ?_; (case hd => rfl); (case hg => rfl); (case hr => first | (go_simp; done) | (go_simp; rfl)); (case hp => exact (Reps.none _ _)); intro v373 w19 ho20 hb hg_ hnew_; clear hg_ hnew_; (first | rw [← Ny372.out] at ho20 | (simp only [Int.reduceToNat] at ho20; rw [← Ny372.out] at ho20)); have n0_ := Aside0.mk (Kd.R_elder' (by (with_reducible repeat (first | apply Kd.R_alloc | apply Kd.R_drewN | apply Kd.R_drew)); exact HO_0.out) (Kd.R_base ho20) hb); have n1_ := Aside0.mk (Kd.R_lower (Kd.R_new' (Kd.R_newM (M := fun k_ => (P0_ k_ ∨ w.heap.size ≤ k_)) ho20 (by first | exact HK.out.1 | exact (show Kept w _ (fun k_ => P0_ k_) from by repeat (first | (with_reducible first | exact HK.out | apply Kept.alloc | apply Kept.drewN | apply Kept.drew | refine Kept.setCell ?_ (.inr GW368.out) _) | exact HK.out)).1) (fun k_ h_ => .inr h_)) (Kd.R_lt (by (with_reducible repeat (first | apply Kd.R_alloc | apply Kd.R_drewN | apply Kd.R_drew)); exact HO_0.out))) (below_size (by repeat (first | (with_reducible first | exact HB.out | apply below_alloc | apply pw_below_drewN | apply below_drew1 | refine below_set ?_ GE368.out) | exact HB.out)))); have n2_ := Aside0.mk (blk_below (g := gb368) (o := .cells #[.int .i64 a2_0, .int .i64 a2_1] 29 (0, 0)) (by (with_reducible repeat (first | refine blk_drewN ?_ _ | refine blk_drew ?_ | refine blk_alloc ?_ _)); exact BK368.out) hb); have n3_ := Aside0.mk (Kept.below (S := (fun k_ => P0_ k_)) (by repeat (first | (with_reducible first | exact HK.out | apply Kept.alloc | apply Kept.drewN | apply Kept.drew | refine Kept.setCell ?_ (.inr GW368.out) _) | exact HK.out)) hb); have n4_ := Aside0.mk (below_step (by repeat (first | (with_reducible first | exact HB.out | apply below_alloc | apply pw_below_drewN | apply below_drew1 | refine below_set ?_ GE368.out) | exact HB.out)) hb); clear HO_0; clear BK368; clear HK; clear HB; have HO_0 := n0_; have HO374 := n1_; have BK368 := n2_; have HK := n3_; have HB := n4_; clear n0_ n1_ n2_ n3_ n4_; clear hb ho20) | ((with_reducible refine gate_builtin (b := .append) (xs := #[.tmp 27, .tmp 28]) rfl ?_); at_builtin; refine Kd.R_append_rows k66 (w0 := w0) w0.heap.size rfl (.tmp 27) (.tmp 28) 27 66 (.agg #[(.string ⟨#[]⟩), (.int .i64 0), (.int .i64 0)]) 32 rfl Try.underlying27 info66 rfl (by decide) (by omega) v373 y372 l0 _ _ _ (fun k_ => (P0_ k_ ∨ w.heap.size ≤ k_) ∧ some k_ ≠ (.slice Ao18 l0.length co18 : Value).ownBlock) (fun _ => False) rfl rfl ?aO ?aR (fun _ _ h => h) (fun _ h => h.elim) ?aF ?aB ?aS ?aL ?_; (case aR => repeat (first | exact (Kd.R_reads' HO_0.out).2.2 | (with_reducible refine Kd.C_alloc ?_ _) | (with_reducible refine Kd.C_drewN ?_ _) | (with_reducible refine Kd.C_drew ?_))); (case aB => exact (by repeat (first | (with_reducible first | exact HB.out | apply below_alloc | apply pw_below_drewN | apply below_drew1 | refine below_set ?_ GE368.out) | exact HB.out))); (case aF => exact (fun k_ hk => ⟨(.inr (Nat.le_trans (by first | exact HK.out.1 | exact (show Kept w _ (fun k_ => P0_ k_) from by repeat (first | (with_reducible first | exact HK.out | apply Kept.alloc | apply Kept.drewN | apply Kept.drew | refine Kept.setCell ?_ (.inr GW368.out) _) | exact HK.out)).1) hk)), Kd.fresh' (Kd.R_lt (by (with_reducible repeat (first | apply Kd.R_alloc | apply Kd.R_drewN | apply Kd.R_drew)); exact HO_0.out)) k_ hk⟩)); (case aO => exact (by (with_reducible repeat (first | apply Kd.R_alloc | apply Kd.R_drewN | apply Kd.R_drew)); exact Kd.R_mono HO374.out (fun _ hk => ⟨hk.1.1, hk.2⟩))); (case aS => exact (below_size (by repeat (first | (with_reducible first | exact HB.out | apply below_alloc | apply pw_below_drewN | apply below_drew1 | refine below_set ?_ GE368.out) | exact HB.out)))); (case aL => have := LMc14.out; omega); intro v376 w21 ho hb hg hat; rw [← Ny375.out] at ho; have n0_ := Aside0.mk (Kd.R_after (ok := (fun k_ => (P0_ k_ ∨ w.heap.size ≤ k_))) (by (with_reducible repeat (first | apply Kd.R_alloc | apply Kd.R_drewN | apply Kd.R_drew)); exact HO_0.out) hg hat); have n1_ := Aside0.mk (blk_grown (g := gb368) (o := .cells #[.int .i64 a2_0, .int .i64 a2_1] 29 (0, 0)) (by (with_reducible repeat (first | refine blk_drewN ?_ _ | refine blk_drew ?_ | refine blk_alloc ?_ _)); exact BK368.out) hg (Kd.R_ne HO374.out BK368.out (by decide))); have n2_ := Aside0.mk (hb); have n3_ := Aside0.mk (Kept.of_grown (S := (fun k_ => P0_ k_)) hg (by repeat (first | (with_reducible first | exact HK.out | apply Kept.alloc | apply Kept.drewN | apply Kept.drew | refine Kept.setCell ?_ (.inr GW368.out) _) | exact HK.out)) (fun k_ e_ => (HO374.out.1 k_ e_).1.1)); have n4_ := Aside0.mk (ho); clear HO_0; clear BK368; clear HB; clear HK; clear HO374; have HO_0 := n0_; have BK368 := n1_; have HB := n2_; have HK := n3_; have HO377 := n4_; clear n0_ n1_ n2_ n3_ n4_; clear ho hb hg hat; have hcz22_0 : w21.cell? ⟨gb368, 0, none⟩ = some (.int .i64 a2_0) := (blk_cell BK368.out 0).trans rfl; have hcz22_1 : w21.cell? ⟨gb368, 1, none⟩ = some (.int .i64 a2_1) := (blk_cell BK368.out 1).trans rfl; have hfz22_0 := blk_frozen BK368.out 0; have hfz22_1 := blk_frozen BK368.out 1; have p17 : 0 ≤ (t371 : Int) := of_decide_eq_true (by first | (with_reducible assumption) | assumption); have q17 : (t371 : Int) < ((y375.length : Int) : Int) := of_decide_eq_true (by first | (with_reducible assumption) | assumption); obtain ⟨go17, co17, eo17, gb17, gl17, cl17, HG17⟩ := Kd.R_form HO377.out (by omega); (first | cases eo17 | (injection eo17 with ea_ en_ ec_; (first | subst ea_ | (injection ea_ with ea_; subst ea_)); subst ec_; clear en_)); have GB17 := Aside0.mk gb17; have GG17 := Aside0.mk HG17; clear gb17 gl17 HG17; have HMgo17 := Aside0.mk (show (P0_ go17 ∨ w.heap.size ≤ go17) from (HO377.out.1 _ rfl).1); obtain ⟨ce17, hcl17, hM17, hcc17, hfr17⟩ := Kd.R_elem HO377.out z66 (t371 : Int) p17 q17; obtain rfl := k66_openM hM17; have hx17_0 : w21.cell? ⟨go17, (t371 : Int).toNat * 3, none⟩ = some (.string ((rd_T66 y375 t371).f0)) := hcc17 0 _ rfl; have hx17_1 : w21.cell? ⟨go17, (t371 : Int).toNat * 3 + 1, none⟩ = some (.int .i64 ((rd_T66 y375 t371).f1.f0)) := hcc17 1 _ rfl; have hx17_2 : w21.cell? ⟨go17, (t371 : Int).toNat * 3 + 2, none⟩ = some (.int .i64 ((rd_T66 y375 t371).f1.f1)) := hcc17 2 _ rfl; have hf17_0 : w21.frozen? ⟨go17, (t371 : Int).toNat * 3, none⟩ = false := hfr17 0; have hf17_1 : w21.frozen? ⟨go17, (t371 : Int).toNat * 3 + 1, none⟩ = false := hfr17 1; have hf17_2 : w21.frozen? ⟨go17, (t371 : Int).toNat * 3 + 2, none⟩ = false := hfr17 2; clear hcl17 hcc17 hfr17 hM17; replace p17 := eq_true p17; replace q17 := eq_true q17; have HX23 := Aside0.mk (show Kd.R k66 66 w21 w0.heap.size (fun k_ => (P0_ k_ ∨ w.heap.size ≤ k_) ∧ some k_ ≠ (.slice Ao18 l0.length co18 : Value).ownBlock) (.slice (some ⟨go17, 0, none⟩) y375.length co17) y375 from (by (with_reducible repeat (first | apply Kd.R_alloc | apply Kd.R_drewN | apply Kd.R_drew)); exact HO377.out)); obtain ⟨ce23, hcl23, hM23, hcc23, hfr23⟩ := Kd.R_elem HX23.out z66 (t371 : Int) (of_decide_eq_true (by first | (with_reducible assumption) | assumption)) (by have h_ : (t371 : Int) < ((y375.length : Int) : Int) := of_decide_eq_true (by first | (with_reducible assumption) | assumption); first | exact h_ | (have e_ := (Kd.R_reads' HO377.out).1; omega) | simpa using h_); obtain rfl := k66_openM hM23; have HP23 := Kd.R_seg HX23.out (t371 : Int) (of_decide_eq_true (by first | (with_reducible assumption) | assumption)) (by have h_ : (t371 : Int) < ((y375.length : Int) : Int) := of_decide_eq_true (by first | (with_reducible assumption) | assumption); first | exact h_ | (have e_ := (Kd.R_reads' HO377.out).1; omega) | simpa using h_) (seg := [.string a1, .int .i64 a2_0, .int .i64 a2_1]) (j := 0) hcl23 hcc23 (show 3 ≤ 3 from by decide) (x' := (⟨a1, (⟨a2_0, a2_1⟩ : S29)⟩ : S66)) (k66_mkM _ _ _ (⟨a1, (⟨a2_0, a2_1⟩ : S29)⟩ : S66) ) (fun _ hk => hk); have hx23_0 := hcc23 0 _ rfl; (try simp only [show (k66).sz = 3 from rfl, Nat.mul_one, Nat.add_zero] at hx23_0); have hf23_0 := hfr23 0; (try simp only [show (k66).sz = 3 from rfl, Nat.mul_one, Nat.add_zero] at hf23_0); have hx23_1 := hcc23 1 _ rfl; (try simp only [show (k66).sz = 3 from rfl, Nat.mul_one, Nat.add_zero] at hx23_1); have hf23_1 := hfr23 1; (try simp only [show (k66).sz = 3 from rfl, Nat.mul_one, Nat.add_zero] at hf23_1); have hx23_2 := hcc23 2 _ rfl; (try simp only [show (k66).sz = 3 from rfl, Nat.mul_one, Nat.add_zero] at hx23_2); have hf23_2 := hfr23 2; (try simp only [show (k66).sz = 3 from rfl, Nat.mul_one, Nat.add_zero] at hf23_2); clear hcl23 hcc23 hfr23 hM23) | ((with_reducible refine gate_store (t := 66) (p := 35) rfl ?_); refine store_event (t := 66) (p := 35) (v := ?vo_w24) (w1 := (((w21.setCell ⟨go17, (t371 : Int).toNat * 3, none⟩ (.string a1)).setCell ⟨go17, (t371 : Int).toNat * 3 + 1, none⟩ (.int .i64 a2_0)).setCell ⟨go17, (t371 : Int).toNat * 3 + 2, none⟩ (.int .i64 a2_1))) ?hg ?ho ?hn ?hr ?_; (case ho => rfl); (case hg => rfl); (case hn => rfl); (case hr => first | (go_simp; done) | (go_simp; rfl)); intro w24 hw; have hg : w21.grownBy w24 (some go17) := (by rw [hw]; exact HP23.2); have hp_ : Kd.R k66 66 w24 w0.heap.size (fun k_ => (P0_ k_ ∨ w.heap.size ≤ k_) ∧ some k_ ≠ (.slice Ao18 l0.length co18 : Value).ownBlock) (.slice (some ⟨go17, 0, none⟩) y375.length co17) y378 := (by rw [hw, Ny378.out]; exact HP23.1); clear HP23; have n0_ := Aside0.mk (Kd.R_after (v := (.slice (some ⟨go17, 0, none⟩) y375.length co17)) (v1 := (.slice (some ⟨go17, 0, none⟩) y375.length co17)) (ok := (fun k_ => (P0_ k_ ∨ w.heap.size ≤ k_))) (by (with_reducible repeat (first | apply Kd.R_alloc | apply Kd.R_drewN | apply Kd.R_drew)); exact HO_0.out) hg (.inl rfl)); have n1_ := Aside0.mk (blk_grown (g := gb368) (o := .cells #[.int .i64 a2_0, .int .i64 a2_1] 29 (0, 0)) (by (with_reducible repeat (first | refine blk_drewN ?_ _ | refine blk_drew ?_ | refine blk_alloc ?_ _)); exact BK368.out) hg (Kd.R_ne HO377.out BK368.out (by decide))); have n2_ := Aside0.mk (hp_); have n3_ := Aside0.mk ((by rw [hw]; exact below_set (below_set (below_set (HB.out) GB17.out) GB17.out) GB17.out : Below w0.heap.size w0 w24)); have n4_ := Aside0.mk (Kept.of_grown (S := (fun k_ => P0_ k_)) hg (by repeat (first | (with_reducible first | exact HK.out | apply Kept.alloc | apply Kept.drewN | apply Kept.drew | refine Kept.setCell ?_ (.inr GW368.out) _) | exact HK.out)) (fun k_ e_ => (HO377.out.1 k_ e_).1)); clear HO_0; clear BK368; clear HO377; clear HB; clear HK; have HO_0 := n0_; have BK368 := n1_; have HO377 := n2_; have HB := n3_; have HK := n4_; clear n0_ n1_ n2_ n3_ n4_; clear hg hw hp_))
        go_ret2
        exact ⟨_, by first | rfl | (simp [errW_none, errW_some] <;> rfl) | (simp [*, errW_none, errW_some] <;> rfl), by (with_reducible repeat (first | apply Kd.R_alloc | apply Kd.R_drewN | apply Kd.R_drew)); exact Kd.R_mono HO377.out (fun _ hk => hk.1), by repeat (first | (with_reducible first | exact HB.out | apply below_alloc | apply pw_below_drewN | apply below_drew1 | refine below_set ?_ GE368.out) | exact HB.out), by repeat (first | (with_reducible first | exact HK.out | apply Kept.alloc | apply Kept.drewN | apply Kept.drew | refine Kept.setCell ?_ (.inr GW368.out) _) | exact HK.out)⟩
       ·rw [if_neg c16] at H
        exact absurd H (by simp)
      ·rw [if_neg c15] at H
       exact absurd H (by simp)
     ·rw [if_neg c14] at H
      exact absurd H (by simp)
    ·rw [if_neg c13] at H
     have c13b0 : decide (0 ≤ t371) = false := decide_eq_false c13
     clear c13
     by_cases c25 : (l0.length : Int) ≥ 16
     ·rw [if_pos c25] at H
      have c25b0 : decide (16 ≤ (l0.length : Int)) = true := decide_eq_true c25
      have c25b1 : decide (16 ≤ l0.length) = true := decide_eq_true (by omega)
      clear c25
      simp only [Option.some.injEq, Prod.mk.injEq] at H
      obtain ⟨rfl, rfl⟩ := H
      obtain ⟨Ao26, co26, eo26⟩ := Kd.R_slice HO_0.out
      subst eo26
      go_wp2_with (first | ((with_reducible refine gate_callee (f := 29) rfl ?_); refine goesL_ (some 24) rfl rfl Try.func29 (by kernel_rfl) rfl #[.slice Ao26 l0.length co26, .string a1] rfl (by (try simp only [List.map_toArray, List.map_cons, List.map_nil]); first | done | rfl | (simp only [List.length_drop, List.length_take]; rfl)) ?_; (with_reducible refine (ecdysisref13_Find.calls kj3 _ _ l0 a1 t371 _ ?side1 ?side2 A12.out).mono ?_); (case side1 => repeat (first | exact (Kd.R_reads' HO_0.out).2.2 | (with_reducible refine Kd.C_alloc ?_ _) | (with_reducible refine Kd.C_drewN ?_ _) | (with_reducible refine Kd.C_drew ?_))); (case side2 => exact (Kd.R_reads' HO_0.out).2.1); rintro e w' ⟨rfl, ⟨nd, rfl⟩⟩; refine ⟨_, rfl, ?_⟩))
      go_ret2
      exact ⟨_, by first | rfl | (simp [errW_none, errW_some] <;> rfl) | (simp [*, errW_none, errW_some] <;> rfl), by (with_reducible repeat (first | apply Kd.R_alloc | apply Kd.R_drewN | apply Kd.R_drew)); exact HO_0.out, by repeat (first | (with_reducible first | exact HB.out | apply below_alloc | apply pw_below_drewN | apply below_drew1 | refine below_set ?_ GE368.out) | exact HB.out), by repeat (first | (with_reducible first | exact HK.out | apply Kept.alloc | apply Kept.drewN | apply Kept.drew | refine Kept.setCell ?_ (.inr GW368.out) _) | exact HK.out)⟩
     ·rw [if_neg c25] at H
      have c25b0 : decide (16 ≤ (l0.length : Int)) = false := decide_eq_false c25
      have c25b1 : decide (16 ≤ l0.length) = false := decide_eq_false (by omega)
      clear c25
      have H' := Aside0.mk H
      clear H
      obtain ⟨Ao27, co27, eo27⟩ := Kd.R_slice HO_0.out
      subst eo27
      go_wp2_with (first | ((with_reducible refine gate_callee (f := 29) rfl ?_); refine goesL_ (some 24) rfl rfl Try.func29 (by kernel_rfl) rfl #[.slice Ao27 l0.length co27, .string a1] rfl (by (try simp only [List.map_toArray, List.map_cons, List.map_nil]); first | done | rfl | (simp only [List.length_drop, List.length_take]; rfl)) ?_; (with_reducible refine (ecdysisref13_Find.calls kj3 _ _ l0 a1 t371 _ ?side1 ?side2 A12.out).mono ?_); (case side1 => repeat (first | exact (Kd.R_reads' HO_0.out).2.2 | (with_reducible refine Kd.C_alloc ?_ _) | (with_reducible refine Kd.C_drewN ?_ _) | (with_reducible refine Kd.C_drew ?_))); (case side2 => exact (Kd.R_reads' HO_0.out).2.1); rintro e w' ⟨rfl, ⟨nd, rfl⟩⟩; refine ⟨_, rfl, ?_⟩))
      go_loopg [10, 11, 12] kj3 (fun kq v10 v11 v12 w' => ∃ (x10_2 : List (S66)) (x11_2 : Bool) (x12_2 : Int), v11 = .bool x11_2 ∧ v12 = .int .i64 x12_2 ∧ Aside0 (ecdysisref13_Set.l0 kq l0 a1 x10_2 x11_2 x12_2 a2_0 a2_1 = some (r1, r2)) ∧ Aside0 (kq ≤ kj3) ∧ Aside0 (Kd.R k66 66 w' w0.heap.size (fun k_ => (P0_ k_ ∨ w.heap.size ≤ k_) ∧ some k_ ≠ (v10 : Value).ownBlock) (.slice Ao27 l0.length co27) l0) ∧ Aside0 (Kd.R k66 66 w' w0.heap.size (fun k_ => (P0_ k_ ∨ w.heap.size ≤ k_) ∧ some k_ ≠ ((.slice Ao27 l0.length co27) : Value).ownBlock) v10 x10_2) ∧ Aside0 (w'.heap[gb368]? = some (.cells #[.int .i64 a2_0, .int .i64 a2_1] 29 (0, 0))) ∧ Aside0 (Kept w w' (fun k_ => P0_ k_)) ∧ Aside0 (Below w0.heap.size w0 w'))
      case atStart => exact ⟨(([] : List (S66))), (false), (0), (by first | rfl | (simp; done) | (simp [*]; done)), (by first | rfl | (simp; done) | (simp [*]; done)), H', ⟨Nat.le_refl _⟩, ⟨by (with_reducible repeat (first | apply Kd.R_alloc | apply Kd.R_drewN | apply Kd.R_drew)); exact Kd.R_mono HO_0.out (fun _ hk => ⟨hk, (by simp [Value.ownBlock])⟩)⟩, ⟨by first | exact Kd.R_nil _ _ _ _ _ | exact Kd.N_nil _ _ _ _ _ | exact Kd.V_nil _ _ _ _ _ | exact Kd.Q_nil _ _ _ _ _ | exact Kd.S_nil _ _ _ _ _⟩, ⟨by (with_reducible repeat (first | refine blk_drewN ?_ _ | refine blk_drew ?_ | refine blk_alloc ?_ _)); exact BK368.out⟩, ⟨by repeat (first | (with_reducible first | exact HK.out | apply Kept.alloc | apply Kept.drewN | apply Kept.drew | refine Kept.setCell ?_ (.inr GW368.out) _) | exact HK.out)⟩, ⟨by repeat (first | (with_reducible first | exact HB.out | apply below_alloc | apply pw_below_drewN | apply below_drew1 | refine below_set ?_ GE368.out) | exact HB.out)⟩⟩
      case round =>
       clear H'
       try clear c1
       try clear p1
       try clear q1
       try clear hx1
       try clear c2
       try clear p2
       try clear hx2
       try clear c4
       try clear c7
       try clear c11
       try clear c13
       try clear c13b0
       try clear c14
       try clear c15
       try clear c15b0
       try clear c16
       try clear c16b0
       try clear c17
       try clear p17
       try clear q17
       try clear hx17
       try clear hf17
       try clear c23
       try clear hx23
       try clear hf23
       try clear c25
       try clear c25b0
       try clear c25b1
       try clear c27
       try clear hcz22_0
       try clear hcz22_1
       try clear hcz9_0
       try clear hcz9_1
       try clear hfz22_0
       try clear hfz22_1
       try clear hfz9_0
       try clear hfz9_1
       try clear hx17_0
       try clear hx17_1
       try clear hx17_2
       try clear hx23_0
       try clear hx23_1
       try clear hx23_2
       try clear p17
       try clear p2
       try clear q17
       obtain ⟨x10_2, x11_2, x12_2, rfl, rfl, HA, HK2, HO_0, HO_10, BK368, HK, HB⟩ := hrel
       cases gk with
       | zero => exact absurd HA.out (by simp [ecdysisref13_Set.l0])
       | succ k2 =>
        have H := HA.out
        clear HA
        simp only [ecdysisref13_Set.l0] at H
        by_cases c28 : x12_2 < (l0.length : Int)
        ·rw [if_pos c28] at H
         have c28b0 : decide (x12_2 < (l0.length : Int)) = true := decide_eq_true c28
         clear c28
         by_cases c29 : x11_2 = true
         ·subst c29
          have H1 : (if 0 ≤ x12_2 then (if x10_2.length < 4398046511104 then (ecdysisref13_Set.l0 k2 l0 a1 (x10_2 ++ [(⟨(rd_T66 l0 x12_2).f0, (⟨(rd_T66 l0 x12_2).f1.f0, (rd_T66 l0 x12_2).f1.f1⟩ : S29)⟩ : S66)]) true (wrap64 (x12_2 + 1)) a2_0 a2_1) else (none)) else (none)) = some (r1, r2) := by rw [if_pos rfl] at H; exact H
          clear H
          have H := H1
          clear H1
          by_cases c30 : 0 ≤ x12_2
          ·rw [if_pos c30] at H
           have c30b0 : decide (0 ≤ x12_2) = true := decide_eq_true c30
           clear c30
           by_cases c31 : x10_2.length < 4398046511104
           ·rw [if_pos c31] at H
            have LMc31 := Aside0.mk c31
            clear c31
            obtain ⟨y380, hy380⟩ : ∃ y_ : List (S66), y_ = (x10_2 ++ [(⟨(rd_T66 l0 x12_2).f0, (⟨(rd_T66 l0 x12_2).f1.f0, (rd_T66 l0 x12_2).f1.f1⟩ : S29)⟩ : S66)]) := ⟨_, rfl⟩
            replace H : (ecdysisref13_Set.l0 k2 l0 a1 y380 true (wrap64 (x12_2 + 1)) a2_0 a2_1) = some (r1, r2) := by first | (rw [hy380]; with_reducible exact H) | (have H2_ := (Option.bind_some _ _).symm.trans H; rw [hy380]; with_reducible exact H2_) | (have H2_ := (Option.bind_some _ _).symm.trans H; with_reducible exact H2_) | with_reducible exact H | (rw [hy380]; exact H) | exact H
            have Ny380 := Aside0.mk hy380
            clear hy380
            have H' := Aside0.mk H
            clear H
            have p379 : 0 ≤ (x12_2 : Int) := of_decide_eq_true (by first | (with_reducible assumption) | assumption)
            have q379 : x12_2 < (l0.length : Int) := of_decide_eq_true (by first | (with_reducible assumption) | assumption)
            obtain ⟨ad379, e379, hx379_0, hx379_1, hx379_2⟩ := at_T66 (Kd.R_reads' HO_0.out).2.2 x12_2 p379 q379
            cases e379
            replace p379 := eq_true p379
            replace q379 := eq_true q379
            go_wp2_with (first | ((with_reducible refine gate_builtin (b := .append) (xs := #[.tmp 64, .tmp 69]) rfl ?_); at_builtin; refine Kd.R_append k66 (w0 := w0) w0.heap.size rfl (.tmp 64) (.tmp 69) 27 66 (.agg #[(.string ⟨#[]⟩), (.int .i64 0), (.int .i64 0)]) 32 rfl Try.underlying27 info66 rfl (by decide) (by omega) u10 x10_2 (⟨(rd_T66 l0 x12_2).f0, (⟨(rd_T66 l0 x12_2).f1.f0, (rd_T66 l0 x12_2).f1.f1⟩ : S29)⟩ : S66) [.string ((rd_T66 l0 x12_2).f0), .int .i64 ((rd_T66 l0 x12_2).f1.f0), .int .i64 ((rd_T66 l0 x12_2).f1.f1)] (fun k_ => (P0_ k_ ∨ w.heap.size ≤ k_) ∧ some k_ ≠ (.slice (some ad379) l0.length co27 : Value).ownBlock) (fun _ => False) rfl rfl ?aP (fun _ hk => hk.elim) ?aF ?aO ?aB ?aS ?aL ?_; (case aP => exact k66_mkM _ _ _ (⟨(rd_T66 l0 x12_2).f0, (⟨(rd_T66 l0 x12_2).f1.f0, (rd_T66 l0 x12_2).f1.f1⟩ : S29)⟩ : S66)); (case aB => exact (by repeat (first | (with_reducible first | exact HB.out | apply below_alloc | apply pw_below_drewN | apply below_drew1 | refine below_set ?_ GE368.out) | exact HB.out))); (case aF => exact (fun k_ hk => ⟨(.inr (Nat.le_trans (by first | exact HK.out.1 | exact (show Kept w _ (fun k_ => P0_ k_) from by repeat (first | (with_reducible first | exact HK.out | apply Kept.alloc | apply Kept.drewN | apply Kept.drew | refine Kept.setCell ?_ (.inr GW368.out) _) | exact HK.out)).1) hk)), Kd.fresh' (Kd.R_lt (by (with_reducible repeat (first | apply Kd.R_alloc | apply Kd.R_drewN | apply Kd.R_drew)); exact HO_0.out)) k_ hk⟩)); (case aO => exact (by (with_reducible repeat (first | apply Kd.R_alloc | apply Kd.R_drewN | apply Kd.R_drew)); exact HO_10.out)); (case aS => exact (below_size (by repeat (first | (with_reducible first | exact HB.out | apply below_alloc | apply pw_below_drewN | apply below_drew1 | refine below_set ?_ GE368.out) | exact HB.out)))); (case aL => have := LMc31.out; omega); intro v381 w32 ho hb hg hat; rw [← Ny380.out] at ho; have n0_ := Aside0.mk (Kd.R_after (ok := (fun k_ => (P0_ k_ ∨ w.heap.size ≤ k_))) (by (with_reducible repeat (first | apply Kd.R_alloc | apply Kd.R_drewN | apply Kd.R_drew)); exact HO_0.out) hg hat); have n1_ := Aside0.mk (blk_grown (g := gb368) (o := .cells #[.int .i64 a2_0, .int .i64 a2_1] 29 (0, 0)) (by (with_reducible repeat (first | refine blk_drewN ?_ _ | refine blk_drew ?_ | refine blk_alloc ?_ _)); exact BK368.out) hg (Kd.R_ne HO_10.out BK368.out (by decide))); have n2_ := Aside0.mk (hb); have n3_ := Aside0.mk (Kept.of_grown (S := (fun k_ => P0_ k_)) hg (by repeat (first | (with_reducible first | exact HK.out | apply Kept.alloc | apply Kept.drewN | apply Kept.drew | refine Kept.setCell ?_ (.inr GW368.out) _) | exact HK.out)) (fun k_ e_ => (HO_10.out.1 k_ e_).1)); have n4_ := Aside0.mk (ho); clear HO_0; clear BK368; clear HB; clear HK; clear HO_10; have HO_0 := n0_; have BK368 := n1_; have HB := n2_; have HK := n3_; have HO382 := n4_; clear n0_ n1_ n2_ n3_ n4_; clear ho hb hg hat))
            go_roundg k2
            case measure => have := HJ3.out; have := HK2.out; omega
            case rel => exact ⟨(y380), (true), (wrap64 (x12_2 + 1)), (by first | rfl | (simp; done) | (simp [*]; done)), (by first | rfl | (simp; done) | (simp [*]; done)), H', ⟨by have := HJ3.out; have := HK2.out; omega⟩, ⟨by (with_reducible repeat (first | apply Kd.R_alloc | apply Kd.R_drewN | apply Kd.R_drew)); exact HO_0.out⟩, ⟨by (with_reducible repeat (first | apply Kd.R_alloc | apply Kd.R_drewN | apply Kd.R_drew)); exact HO382.out⟩, ⟨by (with_reducible repeat (first | refine blk_drewN ?_ _ | refine blk_drew ?_ | refine blk_alloc ?_ _)); exact BK368.out⟩, ⟨by repeat (first | (with_reducible first | exact HK.out | apply Kept.alloc | apply Kept.drewN | apply Kept.drew | refine Kept.setCell ?_ (.inr GW368.out) _) | exact HK.out)⟩, ⟨by repeat (first | (with_reducible first | exact HB.out | apply below_alloc | apply pw_below_drewN | apply below_drew1 | refine below_set ?_ GE368.out) | exact HB.out)⟩⟩
           ·rw [if_neg c31] at H
            exact absurd H (by simp)
          ·rw [if_neg c30] at H
           exact absurd H (by simp)
         ·replace c29 := Bool.eq_false_iff.mpr c29
          subst c29
          have H1 : (if 0 ≤ x12_2 then (if (Op.bytesLess a1.toList (((rd_T66 l0 x12_2).f0).toList)) = true then (if x10_2.length < 4398046511104 then ((some (x10_2 ++ [(⟨a1, (⟨a2_0, a2_1⟩ : S29)⟩ : S66)] : List (S66))).bind fun y384 => (if y384.length < 4398046511104 then (ecdysisref13_Set.l0 k2 l0 a1 (y384 ++ [(⟨(rd_T66 l0 x12_2).f0, (⟨(rd_T66 l0 x12_2).f1.f0, (rd_T66 l0 x12_2).f1.f1⟩ : S29)⟩ : S66)]) true (wrap64 (x12_2 + 1)) a2_0 a2_1) else (none))) else (none)) else (if x10_2.length < 4398046511104 then (ecdysisref13_Set.l0 k2 l0 a1 (x10_2 ++ [(⟨(rd_T66 l0 x12_2).f0, (⟨(rd_T66 l0 x12_2).f1.f0, (rd_T66 l0 x12_2).f1.f1⟩ : S29)⟩ : S66)]) false (wrap64 (x12_2 + 1)) a2_0 a2_1) else (none))) else (none)) = some (r1, r2) := by rw [if_neg (show ¬ (false = true) by decide)] at H; exact H
          clear H
          have H := H1
          clear H1
          by_cases c33 : 0 ≤ x12_2
          ·rw [if_pos c33] at H
           have c33b0 : decide (0 ≤ x12_2) = true := decide_eq_true c33
           clear c33
           by_cases c34 : (Op.bytesLess a1.toList (((rd_T66 l0 x12_2).f0).toList)) = true
           ·rw [if_pos c34] at H
            have c34b0 : (Op.bytesLess a1.toList (((rd_T66 l0 x12_2).f0).toList)) = true := c34
            clear c34
            by_cases c35 : x10_2.length < 4398046511104
            ·rw [if_pos c35] at H
             have LMc35 := Aside0.mk c35
             clear c35
             obtain ⟨y384, hy384⟩ : ∃ y_ : List (S66), y_ = (x10_2 ++ [(⟨a1, (⟨a2_0, a2_1⟩ : S29)⟩ : S66)]) := ⟨_, rfl⟩
             replace H : (if y384.length < 4398046511104 then (ecdysisref13_Set.l0 k2 l0 a1 (y384 ++ [(⟨(rd_T66 l0 x12_2).f0, (⟨(rd_T66 l0 x12_2).f1.f0, (rd_T66 l0 x12_2).f1.f1⟩ : S29)⟩ : S66)]) true (wrap64 (x12_2 + 1)) a2_0 a2_1) else (none)) = some (r1, r2) := by first | (rw [hy384]; with_reducible exact H) | (have H2_ := (Option.bind_some _ _).symm.trans H; rw [hy384]; with_reducible exact H2_) | (have H2_ := (Option.bind_some _ _).symm.trans H; with_reducible exact H2_) | with_reducible exact H | (rw [hy384]; exact H) | exact H
             have Ny384 := Aside0.mk hy384
             clear hy384
             by_cases c36 : y384.length < 4398046511104
             ·rw [if_pos c36] at H
              have LMc36 := Aside0.mk c36
              clear c36
              obtain ⟨y388, hy388⟩ : ∃ y_ : List (S66), y_ = (y384 ++ [(⟨(rd_T66 l0 x12_2).f0, (⟨(rd_T66 l0 x12_2).f1.f0, (rd_T66 l0 x12_2).f1.f1⟩ : S29)⟩ : S66)]) := ⟨_, rfl⟩
              replace H : (ecdysisref13_Set.l0 k2 l0 a1 y388 true (wrap64 (x12_2 + 1)) a2_0 a2_1) = some (r1, r2) := by first | (rw [hy388]; with_reducible exact H) | (have H2_ := (Option.bind_some _ _).symm.trans H; rw [hy388]; with_reducible exact H2_) | (have H2_ := (Option.bind_some _ _).symm.trans H; with_reducible exact H2_) | with_reducible exact H | (rw [hy388]; exact H) | exact H
              have Ny388 := Aside0.mk hy388
              clear hy388
              have H' := Aside0.mk H
              clear H
              have p383 : 0 ≤ (x12_2 : Int) := of_decide_eq_true (by first | (with_reducible assumption) | assumption)
              have q383 : x12_2 < (l0.length : Int) := of_decide_eq_true (by first | (with_reducible assumption) | assumption)
              obtain ⟨ad383, e383, hx383_0, hx383_1, hx383_2⟩ := at_T66 (Kd.R_reads' HO_0.out).2.2 x12_2 p383 q383
              cases e383
              replace p383 := eq_true p383
              replace q383 := eq_true q383
              have hcz37_0 : wr.cell? ⟨gb368, 0, none⟩ = some (.int .i64 a2_0) := (blk_cell BK368.out 0).trans rfl
              have hcz37_1 : wr.cell? ⟨gb368, 1, none⟩ = some (.int .i64 a2_1) := (blk_cell BK368.out 1).trans rfl
              have hfz37_0 := blk_frozen BK368.out 0
              have hfz37_1 := blk_frozen BK368.out 1
              go_wp2_with (first | ((with_reducible refine gate_builtin (b := .append) (xs := #[.tmp 58, .tmp 62]) rfl ?_); at_builtin; refine Kd.R_append k66 (w0 := w0) w0.heap.size rfl (.tmp 58) (.tmp 62) 27 66 (.agg #[(.string ⟨#[]⟩), (.int .i64 0), (.int .i64 0)]) 32 rfl Try.underlying27 info66 rfl (by decide) (by omega) u10 x10_2 (⟨a1, (⟨a2_0, a2_1⟩ : S29)⟩ : S66) [.string a1, .int .i64 a2_0, .int .i64 a2_1] (fun k_ => (P0_ k_ ∨ w.heap.size ≤ k_) ∧ some k_ ≠ (.slice (some ad383) l0.length co27 : Value).ownBlock) (fun _ => False) rfl rfl ?aP (fun _ hk => hk.elim) ?aF ?aO ?aB ?aS ?aL ?_; (case aP => exact k66_mkM _ _ _ (⟨a1, (⟨a2_0, a2_1⟩ : S29)⟩ : S66)); (case aB => exact (by repeat (first | (with_reducible first | exact HB.out | apply below_alloc | apply pw_below_drewN | apply below_drew1 | refine below_set ?_ GE368.out) | exact HB.out))); (case aF => exact (fun k_ hk => ⟨(.inr (Nat.le_trans (by first | exact HK.out.1 | exact (show Kept w _ (fun k_ => P0_ k_) from by repeat (first | (with_reducible first | exact HK.out | apply Kept.alloc | apply Kept.drewN | apply Kept.drew | refine Kept.setCell ?_ (.inr GW368.out) _) | exact HK.out)).1) hk)), Kd.fresh' (Kd.R_lt (by (with_reducible repeat (first | apply Kd.R_alloc | apply Kd.R_drewN | apply Kd.R_drew)); exact HO_0.out)) k_ hk⟩)); (case aO => exact (by (with_reducible repeat (first | apply Kd.R_alloc | apply Kd.R_drewN | apply Kd.R_drew)); exact HO_10.out)); (case aS => exact (below_size (by repeat (first | (with_reducible first | exact HB.out | apply below_alloc | apply pw_below_drewN | apply below_drew1 | refine below_set ?_ GE368.out) | exact HB.out)))); (case aL => have := LMc35.out; omega); intro v385 w38 ho hb hg hat; rw [← Ny384.out] at ho; have n0_ := Aside0.mk (Kd.R_after (ok := (fun k_ => (P0_ k_ ∨ w.heap.size ≤ k_))) (by (with_reducible repeat (first | apply Kd.R_alloc | apply Kd.R_drewN | apply Kd.R_drew)); exact HO_0.out) hg hat); have n1_ := Aside0.mk (blk_grown (g := gb368) (o := .cells #[.int .i64 a2_0, .int .i64 a2_1] 29 (0, 0)) (by (with_reducible repeat (first | refine blk_drewN ?_ _ | refine blk_drew ?_ | refine blk_alloc ?_ _)); exact BK368.out) hg (Kd.R_ne HO_10.out BK368.out (by decide))); have n2_ := Aside0.mk (hb); have n3_ := Aside0.mk (Kept.of_grown (S := (fun k_ => P0_ k_)) hg (by repeat (first | (with_reducible first | exact HK.out | apply Kept.alloc | apply Kept.drewN | apply Kept.drew | refine Kept.setCell ?_ (.inr GW368.out) _) | exact HK.out)) (fun k_ e_ => (HO_10.out.1 k_ e_).1)); have n4_ := Aside0.mk (ho); clear HO_0; clear BK368; clear HB; clear HK; clear HO_10; have HO_0 := n0_; have BK368 := n1_; have HB := n2_; have HK := n3_; have HO386 := n4_; clear n0_ n1_ n2_ n3_ n4_; clear ho hb hg hat; have p387 : 0 ≤ (x12_2 : Int) := of_decide_eq_true (by first | (with_reducible assumption) | assumption); have q387 : x12_2 < (l0.length : Int) := of_decide_eq_true (by first | (with_reducible assumption) | assumption); obtain ⟨ad387, e387, hx387_0, hx387_1, hx387_2⟩ := at_T66 (Kd.R_reads' HO_0.out).2.2 x12_2 p387 q387; obtain rfl : ad383 = ad387 := (by injection e387); replace p387 := eq_true p387; replace q387 := eq_true q387) | ((with_reducible refine gate_builtin (b := .append) (xs := #[.tmp 64, .tmp 69]) rfl ?_); at_builtin; refine Kd.R_append k66 (w0 := w0) w0.heap.size rfl (.tmp 64) (.tmp 69) 27 66 (.agg #[(.string ⟨#[]⟩), (.int .i64 0), (.int .i64 0)]) 32 rfl Try.underlying27 info66 rfl (by decide) (by omega) v385 y384 (⟨(rd_T66 l0 x12_2).f0, (⟨(rd_T66 l0 x12_2).f1.f0, (rd_T66 l0 x12_2).f1.f1⟩ : S29)⟩ : S66) [.string ((rd_T66 l0 x12_2).f0), .int .i64 ((rd_T66 l0 x12_2).f1.f0), .int .i64 ((rd_T66 l0 x12_2).f1.f1)] (fun k_ => (P0_ k_ ∨ w.heap.size ≤ k_) ∧ some k_ ≠ (.slice (some ad383) l0.length co27 : Value).ownBlock) (fun _ => False) rfl rfl ?aP (fun _ hk => hk.elim) ?aF ?aO ?aB ?aS ?aL ?_; (case aP => exact k66_mkM _ _ _ (⟨(rd_T66 l0 x12_2).f0, (⟨(rd_T66 l0 x12_2).f1.f0, (rd_T66 l0 x12_2).f1.f1⟩ : S29)⟩ : S66)); (case aB => exact (by repeat (first | (with_reducible first | exact HB.out | apply below_alloc | apply pw_below_drewN | apply below_drew1 | refine below_set ?_ GE368.out) | exact HB.out))); (case aF => exact (fun k_ hk => ⟨(.inr (Nat.le_trans (by first | exact HK.out.1 | exact (show Kept w _ (fun k_ => P0_ k_) from by repeat (first | (with_reducible first | exact HK.out | apply Kept.alloc | apply Kept.drewN | apply Kept.drew | refine Kept.setCell ?_ (.inr GW368.out) _) | exact HK.out)).1) hk)), Kd.fresh' (Kd.R_lt (by (with_reducible repeat (first | apply Kd.R_alloc | apply Kd.R_drewN | apply Kd.R_drew)); exact HO_0.out)) k_ hk⟩)); (case aO => exact (by (with_reducible repeat (first | apply Kd.R_alloc | apply Kd.R_drewN | apply Kd.R_drew)); exact HO386.out)); (case aS => exact (below_size (by repeat (first | (with_reducible first | exact HB.out | apply below_alloc | apply pw_below_drewN | apply below_drew1 | refine below_set ?_ GE368.out) | exact HB.out)))); (case aL => have := LMc36.out; omega); intro v389 w39 ho hb hg hat; rw [← Ny388.out] at ho; have n0_ := Aside0.mk (Kd.R_after (ok := (fun k_ => (P0_ k_ ∨ w.heap.size ≤ k_))) (by (with_reducible repeat (first | apply Kd.R_alloc | apply Kd.R_drewN | apply Kd.R_drew)); exact HO_0.out) hg hat); have n1_ := Aside0.mk (blk_grown (g := gb368) (o := .cells #[.int .i64 a2_0, .int .i64 a2_1] 29 (0, 0)) (by (with_reducible repeat (first | refine blk_drewN ?_ _ | refine blk_drew ?_ | refine blk_alloc ?_ _)); exact BK368.out) hg (Kd.R_ne HO386.out BK368.out (by decide))); have n2_ := Aside0.mk (hb); have n3_ := Aside0.mk (Kept.of_grown (S := (fun k_ => P0_ k_)) hg (by repeat (first | (with_reducible first | exact HK.out | apply Kept.alloc | apply Kept.drewN | apply Kept.drew | refine Kept.setCell ?_ (.inr GW368.out) _) | exact HK.out)) (fun k_ e_ => (HO386.out.1 k_ e_).1)); have n4_ := Aside0.mk (ho); clear HO_0; clear BK368; clear HB; clear HK; clear HO386; have HO_0 := n0_; have BK368 := n1_; have HB := n2_; have HK := n3_; have HO390 := n4_; clear n0_ n1_ n2_ n3_ n4_; clear ho hb hg hat))
              go_roundg k2
              case measure => have := HJ3.out; have := HK2.out; omega
              case rel => exact ⟨(y388), (true), (wrap64 (x12_2 + 1)), (by first | rfl | (simp; done) | (simp [*]; done)), (by first | rfl | (simp; done) | (simp [*]; done)), H', ⟨by have := HJ3.out; have := HK2.out; omega⟩, ⟨by (with_reducible repeat (first | apply Kd.R_alloc | apply Kd.R_drewN | apply Kd.R_drew)); exact HO_0.out⟩, ⟨by (with_reducible repeat (first | apply Kd.R_alloc | apply Kd.R_drewN | apply Kd.R_drew)); exact HO390.out⟩, ⟨by (with_reducible repeat (first | refine blk_drewN ?_ _ | refine blk_drew ?_ | refine blk_alloc ?_ _)); exact BK368.out⟩, ⟨by repeat (first | (with_reducible first | exact HK.out | apply Kept.alloc | apply Kept.drewN | apply Kept.drew | refine Kept.setCell ?_ (.inr GW368.out) _) | exact HK.out)⟩, ⟨by repeat (first | (with_reducible first | exact HB.out | apply below_alloc | apply pw_below_drewN | apply below_drew1 | refine below_set ?_ GE368.out) | exact HB.out)⟩⟩
             ·rw [if_neg c36] at H
              exact absurd H (by simp)
            ·rw [if_neg c35] at H
             exact absurd H (by simp)
           ·rw [if_neg c34] at H
            have c34b0 : (Op.bytesLess a1.toList (((rd_T66 l0 x12_2).f0).toList)) = false := by simpa using c34
            clear c34
            by_cases c40 : x10_2.length < 4398046511104
            ·rw [if_pos c40] at H
             have LMc40 := Aside0.mk c40
             clear c40
             obtain ⟨y392, hy392⟩ : ∃ y_ : List (S66), y_ = (x10_2 ++ [(⟨(rd_T66 l0 x12_2).f0, (⟨(rd_T66 l0 x12_2).f1.f0, (rd_T66 l0 x12_2).f1.f1⟩ : S29)⟩ : S66)]) := ⟨_, rfl⟩
             replace H : (ecdysisref13_Set.l0 k2 l0 a1 y392 false (wrap64 (x12_2 + 1)) a2_0 a2_1) = some (r1, r2) := by first | (rw [hy392]; with_reducible exact H) | (have H2_ := (Option.bind_some _ _).symm.trans H; rw [hy392]; with_reducible exact H2_) | (have H2_ := (Option.bind_some _ _).symm.trans H; with_reducible exact H2_) | with_reducible exact H | (rw [hy392]; exact H) | exact H
             have Ny392 := Aside0.mk hy392
             clear hy392
             have H' := Aside0.mk H
             clear H
             have p383 : 0 ≤ (x12_2 : Int) := of_decide_eq_true (by first | (with_reducible assumption) | assumption)
             have q383 : x12_2 < (l0.length : Int) := of_decide_eq_true (by first | (with_reducible assumption) | assumption)
             obtain ⟨ad383, e383, hx383_0, hx383_1, hx383_2⟩ := at_T66 (Kd.R_reads' HO_0.out).2.2 x12_2 p383 q383
             cases e383
             replace p383 := eq_true p383
             replace q383 := eq_true q383
             have p391 : 0 ≤ (x12_2 : Int) := of_decide_eq_true (by first | (with_reducible assumption) | assumption)
             have q391 : x12_2 < (l0.length : Int) := of_decide_eq_true (by first | (with_reducible assumption) | assumption)
             obtain ⟨ad391, e391, hx391_0, hx391_1, hx391_2⟩ := at_T66 (Kd.R_reads' HO_0.out).2.2 x12_2 p391 q391
             obtain rfl : ad383 = ad391 := (by injection e391)
             replace p391 := eq_true p391
             replace q391 := eq_true q391
             go_wp2_with (first | ((with_reducible refine gate_builtin (b := .append) (xs := #[.tmp 64, .tmp 69]) rfl ?_); at_builtin; refine Kd.R_append k66 (w0 := w0) w0.heap.size rfl (.tmp 64) (.tmp 69) 27 66 (.agg #[(.string ⟨#[]⟩), (.int .i64 0), (.int .i64 0)]) 32 rfl Try.underlying27 info66 rfl (by decide) (by omega) u10 x10_2 (⟨(rd_T66 l0 x12_2).f0, (⟨(rd_T66 l0 x12_2).f1.f0, (rd_T66 l0 x12_2).f1.f1⟩ : S29)⟩ : S66) [.string ((rd_T66 l0 x12_2).f0), .int .i64 ((rd_T66 l0 x12_2).f1.f0), .int .i64 ((rd_T66 l0 x12_2).f1.f1)] (fun k_ => (P0_ k_ ∨ w.heap.size ≤ k_) ∧ some k_ ≠ (.slice (some ad383) l0.length co27 : Value).ownBlock) (fun _ => False) rfl rfl ?aP (fun _ hk => hk.elim) ?aF ?aO ?aB ?aS ?aL ?_; (case aP => exact k66_mkM _ _ _ (⟨(rd_T66 l0 x12_2).f0, (⟨(rd_T66 l0 x12_2).f1.f0, (rd_T66 l0 x12_2).f1.f1⟩ : S29)⟩ : S66)); (case aB => exact (by repeat (first | (with_reducible first | exact HB.out | apply below_alloc | apply pw_below_drewN | apply below_drew1 | refine below_set ?_ GE368.out) | exact HB.out))); (case aF => exact (fun k_ hk => ⟨(.inr (Nat.le_trans (by first | exact HK.out.1 | exact (show Kept w _ (fun k_ => P0_ k_) from by repeat (first | (with_reducible first | exact HK.out | apply Kept.alloc | apply Kept.drewN | apply Kept.drew | refine Kept.setCell ?_ (.inr GW368.out) _) | exact HK.out)).1) hk)), Kd.fresh' (Kd.R_lt (by (with_reducible repeat (first | apply Kd.R_alloc | apply Kd.R_drewN | apply Kd.R_drew)); exact HO_0.out)) k_ hk⟩)); (case aO => exact (by (with_reducible repeat (first | apply Kd.R_alloc | apply Kd.R_drewN | apply Kd.R_drew)); exact HO_10.out)); (case aS => exact (below_size (by repeat (first | (with_reducible first | exact HB.out | apply below_alloc | apply pw_below_drewN | apply below_drew1 | refine below_set ?_ GE368.out) | exact HB.out)))); (case aL => have := LMc40.out; omega); intro v393 w41 ho hb hg hat; rw [← Ny392.out] at ho; have n0_ := Aside0.mk (Kd.R_after (ok := (fun k_ => (P0_ k_ ∨ w.heap.size ≤ k_))) (by (with_reducible repeat (first | apply Kd.R_alloc | apply Kd.R_drewN | apply Kd.R_drew)); exact HO_0.out) hg hat); have n1_ := Aside0.mk (blk_grown (g := gb368) (o := .cells #[.int .i64 a2_0, .int .i64 a2_1] 29 (0, 0)) (by (with_reducible repeat (first | refine blk_drewN ?_ _ | refine blk_drew ?_ | refine blk_alloc ?_ _)); exact BK368.out) hg (Kd.R_ne HO_10.out BK368.out (by decide))); have n2_ := Aside0.mk (hb); have n3_ := Aside0.mk (Kept.of_grown (S := (fun k_ => P0_ k_)) hg (by repeat (first | (with_reducible first | exact HK.out | apply Kept.alloc | apply Kept.drewN | apply Kept.drew | refine Kept.setCell ?_ (.inr GW368.out) _) | exact HK.out)) (fun k_ e_ => (HO_10.out.1 k_ e_).1)); have n4_ := Aside0.mk (ho); clear HO_0; clear BK368; clear HB; clear HK; clear HO_10; have HO_0 := n0_; have BK368 := n1_; have HB := n2_; have HK := n3_; have HO394 := n4_; clear n0_ n1_ n2_ n3_ n4_; clear ho hb hg hat))
             go_roundg k2
             case measure => have := HJ3.out; have := HK2.out; omega
             case rel => exact ⟨(y392), (false), (wrap64 (x12_2 + 1)), (by first | rfl | (simp; done) | (simp [*]; done)), (by first | rfl | (simp; done) | (simp [*]; done)), H', ⟨by have := HJ3.out; have := HK2.out; omega⟩, ⟨by (with_reducible repeat (first | apply Kd.R_alloc | apply Kd.R_drewN | apply Kd.R_drew)); exact HO_0.out⟩, ⟨by (with_reducible repeat (first | apply Kd.R_alloc | apply Kd.R_drewN | apply Kd.R_drew)); exact HO394.out⟩, ⟨by (with_reducible repeat (first | refine blk_drewN ?_ _ | refine blk_drew ?_ | refine blk_alloc ?_ _)); exact BK368.out⟩, ⟨by repeat (first | (with_reducible first | exact HK.out | apply Kept.alloc | apply Kept.drewN | apply Kept.drew | refine Kept.setCell ?_ (.inr GW368.out) _) | exact HK.out)⟩, ⟨by repeat (first | (with_reducible first | exact HB.out | apply below_alloc | apply pw_below_drewN | apply below_drew1 | refine below_set ?_ GE368.out) | exact HB.out)⟩⟩
            ·rw [if_neg c40] at H
             exact absurd H (by simp)
          ·rw [if_neg c33] at H
           exact absurd H (by simp)
        ·rw [if_neg c28] at H
         have c28b0 : decide (x12_2 < (l0.length : Int)) = false := decide_eq_false c28
         clear c28
         by_cases c42 : x11_2 = true
         ·subst c42
          have H1 : (some (x10_2, 0)) = some (r1, r2) := by rw [if_pos rfl] at H; exact H
          clear H
          have H := H1
          clear H1
          simp only [Option.some.injEq, Prod.mk.injEq] at H
          obtain ⟨rfl, rfl⟩ := H
          go_wp2
          go_ret2
          exact ⟨_, by first | rfl | (simp [errW_none, errW_some] <;> rfl) | (simp [*, errW_none, errW_some] <;> rfl), by (with_reducible repeat (first | apply Kd.R_alloc | apply Kd.R_drewN | apply Kd.R_drew)); exact Kd.R_mono HO_10.out (fun _ hk => hk.1), by repeat (first | (with_reducible first | exact HB.out | apply below_alloc | apply pw_below_drewN | apply below_drew1 | refine below_set ?_ GE368.out) | exact HB.out), by repeat (first | (with_reducible first | exact HK.out | apply Kept.alloc | apply Kept.drewN | apply Kept.drew | refine Kept.setCell ?_ (.inr GW368.out) _) | exact HK.out)⟩
         ·replace c42 := Bool.eq_false_iff.mpr c42
          subst c42
          have H1 : (if x10_2.length < 4398046511104 then (some ((x10_2 ++ [(⟨a1, (⟨a2_0, a2_1⟩ : S29)⟩ : S66)]), 0)) else (none)) = some (r1, r2) := by rw [if_neg (show ¬ (false = true) by decide)] at H; exact H
          clear H
          have H := H1
          clear H1
          by_cases c43 : x10_2.length < 4398046511104
          ·rw [if_pos c43] at H
           have LMc43 := Aside0.mk c43
           clear c43
           obtain ⟨y395, hy395⟩ : ∃ y_ : List (S66), y_ = (x10_2 ++ [(⟨a1, (⟨a2_0, a2_1⟩ : S29)⟩ : S66)]) := ⟨_, rfl⟩
           replace H : (some (y395, 0)) = some (r1, r2) := by first | (rw [hy395]; with_reducible exact H) | (have H2_ := (Option.bind_some _ _).symm.trans H; rw [hy395]; with_reducible exact H2_) | (have H2_ := (Option.bind_some _ _).symm.trans H; with_reducible exact H2_) | with_reducible exact H | (rw [hy395]; exact H) | exact H
           have Ny395 := Aside0.mk hy395
           clear hy395
           simp only [Option.some.injEq, Prod.mk.injEq] at H
           obtain ⟨rfl, rfl⟩ := H
           have hcz44_0 : wr.cell? ⟨gb368, 0, none⟩ = some (.int .i64 a2_0) := (blk_cell BK368.out 0).trans rfl
           have hcz44_1 : wr.cell? ⟨gb368, 1, none⟩ = some (.int .i64 a2_1) := (blk_cell BK368.out 1).trans rfl
           have hfz44_0 := blk_frozen BK368.out 0
           have hfz44_1 := blk_frozen BK368.out 1
           go_wp2_with (first | ((with_reducible refine gate_builtin (b := .append) (xs := #[.tmp 73, .tmp 77]) rfl ?_); at_builtin; refine Kd.R_append k66 (w0 := w0) w0.heap.size rfl (.tmp 73) (.tmp 77) 27 66 (.agg #[(.string ⟨#[]⟩), (.int .i64 0), (.int .i64 0)]) 32 rfl Try.underlying27 info66 rfl (by decide) (by omega) u10 x10_2 (⟨a1, (⟨a2_0, a2_1⟩ : S29)⟩ : S66) [.string a1, .int .i64 a2_0, .int .i64 a2_1] (fun k_ => (P0_ k_ ∨ w.heap.size ≤ k_) ∧ some k_ ≠ (.slice Ao27 l0.length co27 : Value).ownBlock) (fun _ => False) rfl rfl ?aP (fun _ hk => hk.elim) ?aF ?aO ?aB ?aS ?aL ?_; (case aP => exact k66_mkM _ _ _ (⟨a1, (⟨a2_0, a2_1⟩ : S29)⟩ : S66)); (case aB => exact (by repeat (first | (with_reducible first | exact HB.out | apply below_alloc | apply pw_below_drewN | apply below_drew1 | refine below_set ?_ GE368.out) | exact HB.out))); (case aF => exact (fun k_ hk => ⟨(.inr (Nat.le_trans (by first | exact HK.out.1 | exact (show Kept w _ (fun k_ => P0_ k_) from by repeat (first | (with_reducible first | exact HK.out | apply Kept.alloc | apply Kept.drewN | apply Kept.drew | refine Kept.setCell ?_ (.inr GW368.out) _) | exact HK.out)).1) hk)), Kd.fresh' (Kd.R_lt (by (with_reducible repeat (first | apply Kd.R_alloc | apply Kd.R_drewN | apply Kd.R_drew)); exact HO_0.out)) k_ hk⟩)); (case aO => exact (by (with_reducible repeat (first | apply Kd.R_alloc | apply Kd.R_drewN | apply Kd.R_drew)); exact HO_10.out)); (case aS => exact (below_size (by repeat (first | (with_reducible first | exact HB.out | apply below_alloc | apply pw_below_drewN | apply below_drew1 | refine below_set ?_ GE368.out) | exact HB.out)))); (case aL => have := LMc43.out; omega); intro v396 w45 ho hb hg hat; rw [← Ny395.out] at ho; have n0_ := Aside0.mk (Kd.R_after (ok := (fun k_ => (P0_ k_ ∨ w.heap.size ≤ k_))) (by (with_reducible repeat (first | apply Kd.R_alloc | apply Kd.R_drewN | apply Kd.R_drew)); exact HO_0.out) hg hat); have n1_ := Aside0.mk (blk_grown (g := gb368) (o := .cells #[.int .i64 a2_0, .int .i64 a2_1] 29 (0, 0)) (by (with_reducible repeat (first | refine blk_drewN ?_ _ | refine blk_drew ?_ | refine blk_alloc ?_ _)); exact BK368.out) hg (Kd.R_ne HO_10.out BK368.out (by decide))); have n2_ := Aside0.mk (hb); have n3_ := Aside0.mk (Kept.of_grown (S := (fun k_ => P0_ k_)) hg (by repeat (first | (with_reducible first | exact HK.out | apply Kept.alloc | apply Kept.drewN | apply Kept.drew | refine Kept.setCell ?_ (.inr GW368.out) _) | exact HK.out)) (fun k_ e_ => (HO_10.out.1 k_ e_).1)); have n4_ := Aside0.mk (ho); clear HO_0; clear BK368; clear HB; clear HK; clear HO_10; have HO_0 := n0_; have BK368 := n1_; have HB := n2_; have HK := n3_; have HO397 := n4_; clear n0_ n1_ n2_ n3_ n4_; clear ho hb hg hat))
           go_ret2
           exact ⟨_, by first | rfl | (simp [errW_none, errW_some] <;> rfl) | (simp [*, errW_none, errW_some] <;> rfl), by (with_reducible repeat (first | apply Kd.R_alloc | apply Kd.R_drewN | apply Kd.R_drew)); exact Kd.R_mono HO397.out (fun _ hk => hk.1), by repeat (first | (with_reducible first | exact HB.out | apply below_alloc | apply pw_below_drewN | apply below_drew1 | refine below_set ?_ GE368.out) | exact HB.out), by repeat (first | (with_reducible first | exact HK.out | apply Kept.alloc | apply Kept.drewN | apply Kept.drew | refine Kept.setCell ?_ (.inr GW368.out) _) | exact HK.out)⟩
          ·rw [if_neg c43] at H
           exact absurd H (by simp)


/-! ### ecdysisref13_Clear: function 28 -/
def ecdysisref13_Clear.f (k : Nat) (l0 : List (S66)) (a1 : ByteArray) : Option ((List (S66)) × Int) := (ecdysisref13_Find.f k l0 a1).bind fun t398 => (if t398 < 0 then (some (l0, 130)) else ((some (([] : List (S66)) : List (S66))).bind fun y399 => (if 0 ≤ t398 then (if t398 ≤ (l0.length : Int) then ((some (l0.take (t398 : Int).toNat : List (S66))).bind fun y402 => (if y399.length + y402.length < 4398046511104 then ((some (y399 ++ y402 : List (S66))).bind fun y406 => (if 0 ≤ (wrap64 (t398 + 1)) then (if (wrap64 (t398 + 1)) ≤ (l0.length : Int) then ((some (l0.drop ((wrap64 (t398 + 1)) : Int).toNat : List (S66))).bind fun y409 => (if y406.length + y409.length < 4398046511104 then (some ((y406 ++ y409), 0)) else (none))) else (none)) else (none))) else (none))) else (none)) else (none))))
theorem ecdysisref13_Clear.mono : ∀ a0 a1 k, LeO (ecdysisref13_Clear.f k a0 a1) (ecdysisref13_Clear.f (k + 1) a0 a1) := by
 intro a0 a1 k
 unfold ecdysisref13_Clear.f
 repeat' first
   | (with_reducible exact ecdysisref13_Find.mono _ _ _)
   | (with_reducible exact LeO.refl _)
   | (with_reducible exact LeO.none _)
   | (with_reducible refine LeO.ite ?_ ?_)
   | (with_reducible refine LeO.bind ?_ (fun _ => ?_))
   | exact ecdysisref13_Find.mono _ _ _
   | exact LeO.none _
   | refine LeO.ite ?_ ?_
   | refine LeO.bind ?_ (fun _ => ?_)
def ecdysisref13_Clear.T4 : Bool × List (List Nat × List Nat) := (true, [([], []), ([], []), ([], []), ([1, 2], [1, 2]), ([0, 3], [0, 3]), ([], []), ([], []), ([6], [6]), ([5, 7], [5, 7]), ([4, 8, 4], [4, 8]), ([9, 9, 0, 1, 2, 3, 4, 5, 6, 7, 8, 9], [9]), ([10, 0, 1, 2, 3, 4, 5, 6, 7, 8, 9, 10], [])])
def ecdysisref13_Clear.B4 : List Nat := [0, 0, 0, 6, 15, 0, 0, 64, 224, 511, 1023, 2047]
theorem ecdysisref13_Clear.tab4 : rtab .any (opsOf Try.f28 4) = ecdysisref13_Clear.T4 := by kernel_rfl
theorem ecdysisref13_Clear.bits4 : waitsOk ecdysisref13_Clear.T4.2 ecdysisref13_Clear.B4 = true := by kernel_rfl
set_option maxHeartbeats 8000000 in
set_option maxRecDepth 100000 in
theorem ecdysisref13_Clear.calls (k : Nat) (P0_ : Nat → Prop) (u9000_ : Value) (l0 : List (S66)) (a1 : ByteArray) (r1 : List (S66)) (r2 : Int) (w0 w : World) (hB : Below w0.heap.size w0 w) (ho0 : Kd.R k66 66 w w0.heap.size P0_ u9000_ l0) (h : ecdysisref13_Clear.f k l0 a1 = some (r1, r2)) :
  Calls Try.prog 28 #[u9000_, .string a1] w fun e w' => ∃ v0_ : Value, e = .returned (.tuple #[v0_, .int .i64 r2]) ∧ Kd.R k66 66 w' w0.heap.size (fun k_ => (P0_ k_ ∨ w.heap.size ≤ k_)) v0_ r1 ∧ Below w0.heap.size w0 w' ∧ Kept w w' (fun k_ => P0_ k_) := by
 have HO0 := Aside0.mk (show Kd.R k66 66 w w0.heap.size (fun k_ => (P0_ k_ ∨ w.heap.size ≤ k_)) u9000_ l0 from Kd.R_mono ho0 (fun k_ hk => (.inl hk)))
 have HK := Aside0.mk (Kept.refl w (fun k_ => P0_ k_))
 have HW0 := Aside0.mk hB.size
 have HB := Aside0.mk hB
 clear hB
 have H : ((ecdysisref13_Find.f k l0 a1).bind fun t398 => (if t398 < 0 then (some (l0, 130)) else ((some (([] : List (S66)) : List (S66))).bind fun y399 => (if 0 ≤ t398 then (if t398 ≤ (l0.length : Int) then ((some (l0.take (t398 : Int).toNat : List (S66))).bind fun y402 => (if y399.length + y402.length < 4398046511104 then ((some (y399 ++ y402 : List (S66))).bind fun y406 => (if 0 ≤ (wrap64 (t398 + 1)) then (if (wrap64 (t398 + 1)) ≤ (l0.length : Int) then ((some (l0.drop ((wrap64 (t398 + 1)) : Int).toNat : List (S66))).bind fun y409 => (if y406.length + y409.length < 4398046511104 then (some ((y406 ++ y409), 0)) else (none))) else (none)) else (none))) else (none))) else (none)) else (none))))) = some (r1, r2) := h
 clear h
 replace H := Option.bind_eq_some_iff.mp H
 obtain ⟨t398, A30, H⟩ := H
 replace H : (if t398 < 0 then (some (l0, 130)) else ((some (([] : List (S66)) : List (S66))).bind fun y399 => (if 0 ≤ t398 then (if t398 ≤ (l0.length : Int) then ((some (l0.take (t398 : Int).toNat : List (S66))).bind fun y402 => (if y399.length + y402.length < 4398046511104 then ((some (y399 ++ y402 : List (S66))).bind fun y406 => (if 0 ≤ (wrap64 (t398 + 1)) then (if (wrap64 (t398 + 1)) ≤ (l0.length : Int) then ((some (l0.drop ((wrap64 (t398 + 1)) : Int).toNat : List (S66))).bind fun y409 => (if y406.length + y409.length < 4398046511104 then (some ((y406 ++ y409), 0)) else (none))) else (none)) else (none))) else (none))) else (none)) else (none)))) = some (r1, r2) := H
 have A3 := Aside0.mk A30
 clear A30
 by_cases c4 : t398 < 0
 ·rw [if_pos c4] at H
  have c4b0 : decide (t398 < 0) = true := decide_eq_true c4
  clear c4
  simp only [Option.some.injEq, Prod.mk.injEq] at H
  obtain ⟨rfl, rfl⟩ := H
  obtain ⟨Ao5, co5, eo5⟩ := Kd.R_slice HO0.out
  subst eo5
  go_enter Try.func28, Try.ntmps28
  go_wp2_with (first | ((with_reducible refine gate_callee (f := 29) rfl ?_); refine goesL_ (some 9) rfl rfl Try.func29 (by kernel_rfl) rfl #[.slice Ao5 l0.length co5, .string a1] rfl (by (try simp only [List.map_toArray, List.map_cons, List.map_nil]); first | done | rfl | (simp only [List.length_drop, List.length_take]; rfl)) ?_; (with_reducible refine (ecdysisref13_Find.calls k _ _ l0 a1 t398 _ ?side1 ?side2 A3.out).mono ?_); (case side1 => repeat (first | exact (Kd.R_reads' HO0.out).2.2 | (with_reducible refine Kd.C_alloc ?_ _) | (with_reducible refine Kd.C_drewN ?_ _) | (with_reducible refine Kd.C_drew ?_))); (case side2 => exact (Kd.R_reads' HO0.out).2.1); rintro e w' ⟨rfl, ⟨nd, rfl⟩⟩; refine ⟨_, rfl, ?_⟩))
  go_ret2
  exact ⟨_, by first | rfl | (simp [errW_none, errW_some] <;> rfl) | (simp [*, errW_none, errW_some] <;> rfl), by (with_reducible repeat (first | apply Kd.R_alloc | apply Kd.R_drewN | apply Kd.R_drew)); exact HO0.out, by repeat (first | (with_reducible first | exact HB.out | apply below_alloc | apply pw_below_drewN | apply below_drew1) | exact HB.out), by repeat (first | (with_reducible first | exact HK.out | apply Kept.alloc | apply Kept.drewN | apply Kept.drew) | exact HK.out)⟩
 ·rw [if_neg c4] at H
  have c4b0 : decide (t398 < 0) = false := decide_eq_false c4
  clear c4
  obtain ⟨y399, hy399⟩ : ∃ y_ : List (S66), y_ = (([] : List (S66))) := ⟨_, rfl⟩
  replace H : (if 0 ≤ t398 then (if t398 ≤ (l0.length : Int) then ((some (l0.take (t398 : Int).toNat : List (S66))).bind fun y402 => (if y399.length + y402.length < 4398046511104 then ((some (y399 ++ y402 : List (S66))).bind fun y406 => (if 0 ≤ (wrap64 (t398 + 1)) then (if (wrap64 (t398 + 1)) ≤ (l0.length : Int) then ((some (l0.drop ((wrap64 (t398 + 1)) : Int).toNat : List (S66))).bind fun y409 => (if y406.length + y409.length < 4398046511104 then (some ((y406 ++ y409), 0)) else (none))) else (none)) else (none))) else (none))) else (none)) else (none)) = some (r1, r2) := by first | (rw [hy399]; with_reducible exact H) | (have H2_ := (Option.bind_some _ _).symm.trans H; rw [hy399]; with_reducible exact H2_) | (have H2_ := (Option.bind_some _ _).symm.trans H; with_reducible exact H2_) | with_reducible exact H | (rw [hy399]; exact H) | exact H
  have Ny399 := Aside0.mk hy399
  clear hy399
  by_cases c6 : 0 ≤ t398
  ·rw [if_pos c6] at H
   have c6b0 := eq_true c6
   have c6b1 : decide (0 ≤ t398) = true := decide_eq_true c6
   clear c6
   by_cases c7 : t398 ≤ (l0.length : Int)
   ·rw [if_pos c7] at H
    have c7b0 := eq_true c7
    have c7b1 : decide (t398 ≤ (l0.length : Int)) = true := decide_eq_true c7
    clear c7
    obtain ⟨y402, hy402⟩ : ∃ y_ : List (S66), y_ = (l0.take (t398 : Int).toNat) := ⟨_, rfl⟩
    replace H : (if y399.length + y402.length < 4398046511104 then ((some (y399 ++ y402 : List (S66))).bind fun y406 => (if 0 ≤ (wrap64 (t398 + 1)) then (if (wrap64 (t398 + 1)) ≤ (l0.length : Int) then ((some (l0.drop ((wrap64 (t398 + 1)) : Int).toNat : List (S66))).bind fun y409 => (if y406.length + y409.length < 4398046511104 then (some ((y406 ++ y409), 0)) else (none))) else (none)) else (none))) else (none)) = some (r1, r2) := by first | (rw [hy402]; with_reducible exact H) | (have H2_ := (Option.bind_some _ _).symm.trans H; rw [hy402]; with_reducible exact H2_) | (have H2_ := (Option.bind_some _ _).symm.trans H; with_reducible exact H2_) | with_reducible exact H | (rw [hy402]; exact H) | exact H
    have Ny402 := Aside0.mk hy402
    clear hy402
    by_cases c8 : y399.length + y402.length < 4398046511104
    ·rw [if_pos c8] at H
     have LMc8 := Aside0.mk c8
     clear c8
     obtain ⟨y406, hy406⟩ : ∃ y_ : List (S66), y_ = (y399 ++ y402) := ⟨_, rfl⟩
     replace H : (if 0 ≤ (wrap64 (t398 + 1)) then (if (wrap64 (t398 + 1)) ≤ (l0.length : Int) then ((some (l0.drop ((wrap64 (t398 + 1)) : Int).toNat : List (S66))).bind fun y409 => (if y406.length + y409.length < 4398046511104 then (some ((y406 ++ y409), 0)) else (none))) else (none)) else (none)) = some (r1, r2) := by first | (rw [hy406]; with_reducible exact H) | (have H2_ := (Option.bind_some _ _).symm.trans H; rw [hy406]; with_reducible exact H2_) | (have H2_ := (Option.bind_some _ _).symm.trans H; with_reducible exact H2_) | with_reducible exact H | (rw [hy406]; exact H) | exact H
     have Ny406 := Aside0.mk hy406
     clear hy406
     obtain ⟨ji9, hji9⟩ : ∃ j_ : Int, (wrap64 (t398 + 1)) = j_ := ⟨_, rfl⟩
     replace H : (if 0 ≤ (ji9) then (if (ji9) ≤ (l0.length : Int) then ((some (l0.drop ((ji9) : Int).toNat : List (S66))).bind fun y409 => (if y406.length + y409.length < 4398046511104 then (some ((y406 ++ y409), 0)) else (none))) else (none)) else (none)) = some (r1, r2) := by first | (rw [hji9] at H; exact H) | (simp only [hji9] at H ⊢; exact H)
     (try rw [hji9] at A3)
     have hji9w : (IntKind.i64.wrap (t398 + 1)) = ji9 := (i64_w _).trans hji9
     by_cases c10 : 0 ≤ (ji9)
     ·rw [if_pos c10] at H
      have c10b0 := eq_true c10
      have c10b1 : decide (0 ≤ (ji9)) = true := decide_eq_true c10
      clear c10
      by_cases c11 : (ji9) ≤ (l0.length : Int)
      ·rw [if_pos c11] at H
       have c11b0 := eq_true c11
       have c11b1 : decide ((ji9) ≤ (l0.length : Int)) = true := decide_eq_true c11
       clear c11
       obtain ⟨y409, hy409⟩ : ∃ y_ : List (S66), y_ = (l0.drop ((ji9) : Int).toNat) := ⟨_, rfl⟩
       replace H : (if y406.length + y409.length < 4398046511104 then (some ((y406 ++ y409), 0)) else (none)) = some (r1, r2) := by first | (rw [hy409]; with_reducible exact H) | (have H2_ := (Option.bind_some _ _).symm.trans H; rw [hy409]; with_reducible exact H2_) | (have H2_ := (Option.bind_some _ _).symm.trans H; with_reducible exact H2_) | with_reducible exact H | (rw [hy409]; exact H) | exact H
       have Ny409 := Aside0.mk hy409
       clear hy409
       by_cases c12 : y406.length + y409.length < 4398046511104
       ·rw [if_pos c12] at H
        have LMc12 := Aside0.mk c12
        clear c12
        obtain ⟨y413, hy413⟩ : ∃ y_ : List (S66), y_ = (y406 ++ y409) := ⟨_, rfl⟩
        replace H : (some (y413, 0)) = some (r1, r2) := by first | (rw [hy413]; with_reducible exact H) | (have H2_ := (Option.bind_some _ _).symm.trans H; rw [hy413]; with_reducible exact H2_) | (have H2_ := (Option.bind_some _ _).symm.trans H; with_reducible exact H2_) | with_reducible exact H | (rw [hy413]; exact H) | exact H
        have Ny413 := Aside0.mk hy413
        clear hy413
        simp only [Option.some.injEq, Prod.mk.injEq] at H
        obtain ⟨rfl, rfl⟩ := H
        obtain ⟨Ao13, co13, eo13⟩ := Kd.R_slice HO0.out
        subst eo13
        go_enter Try.func28, Try.ntmps28
        try go_wp2_with (first | ((with_reducible refine gate_callee (f := 29) rfl ?_); refine goesL_ (some 9) rfl rfl Try.func29 (by kernel_rfl) rfl #[.slice Ao13 l0.length co13, .string a1] rfl (by (try simp only [List.map_toArray, List.map_cons, List.map_nil]); first | done | rfl | (simp only [List.length_drop, List.length_take]; rfl)) ?_; (with_reducible refine (ecdysisref13_Find.calls k _ _ l0 a1 t398 _ ?side1 ?side2 A3.out).mono ?_); (case side1 => repeat (first | exact (Kd.R_reads' HO0.out).2.2 | (with_reducible refine Kd.C_alloc ?_ _) | (with_reducible refine Kd.C_drewN ?_ _) | (with_reducible refine Kd.C_drew ?_))); (case side2 => exact (Kd.R_reads' HO0.out).2.1); rintro e w' ⟨rfl, ⟨nd, rfl⟩⟩; refine ⟨_, rfl, ?_⟩))
        (try (rw [drewN_self w]; generalize hq_ : World.drewN w _ = wq_; have n0_ : Aside0 (Kd.R k66 66 wq_ w0.heap.size (fun k_ => (P0_ k_ ∨ w.heap.size ≤ k_)) (.slice Ao13 l0.length co13) l0) := ⟨by rw [← hq_]; exact (by (with_reducible repeat (first | apply Kd.R_alloc | apply Kd.R_drewN | apply Kd.R_drew)); exact HO0.out)⟩; have n1_ : Aside0 (Kept w wq_ (fun k_ => P0_ k_)) := ⟨by rw [← hq_]; exact (by repeat (first | (with_reducible first | exact HK.out | apply Kept.alloc | apply Kept.drewN | apply Kept.drew) | exact HK.out))⟩; have n2_ : Aside0 (Below w0.heap.size w0 wq_) := ⟨by rw [← hq_]; exact (by repeat (first | (with_reducible first | exact HB.out | apply below_alloc | apply pw_below_drewN | apply below_drew1) | exact HB.out))⟩; clear HO0 HK HB hq_; have HO0 := n0_; have HK := n1_; have HB := n2_; clear n0_ n1_ n2_))
        have n0_ := Aside0.mk (Kd.R_drew HO0.out)
        have n1_ := Aside0.mk (Kept.drew HK.out)
        have n2_ := Aside0.mk (below_drew1 HB.out)
        clear HO0
        clear HK
        clear HB
        have HO0 := n0_
        have HK := n1_
        have HB := n2_
        clear n0_ n1_ n2_
        have q15 : (t398 : Int) ≤ ((l0.length : Int) : Int) := of_decide_eq_true (by first | (with_reducible assumption) | assumption)
        obtain ⟨i015, hi015, _, hsz15, _⟩ := info_parts info66
        have hroom15 : l0.length ≤ co13 := (Kd.R_reads' HO0.out).2.1
        have hC15 : Kd.C k66 _ Ao13 l0.length l0 := (Kd.R_reads' HO0.out).2.2
        have hcut15 := cut_to (P := Try.prog) 27 66 .i64 Try.underlying27 hi015 Ao13 l0.length co13 t398 (of_decide_eq_true (by first | (with_reducible assumption) | assumption)) q15 hroom15
        have hr15 := Kd.C_take (m := (t398 : Int).toNat) hC15 (by omega)
        have hy15 : y402.length = (t398 : Int).toNat := (by rw [Ny402.out, List.length_take]; omega)
        rw [← Ny402.out] at hr15
        rw [← hy15] at hcut15
        have HR405 := Aside0.mk hr15
        have HC405 := Aside0.mk (show y402.length ≤ co13 from by omega)
        clear hr15 hC15 hroom15 hi015 hsz15
        have KY15 := Aside0.mk hy15
        clear hy15
        have KL15 := Aside0.mk (show (t398 : Int).toNat ≤ l0.length from by omega)
        replace q15 := eq_true q15
        have q16 : ((ji9) : Int) ≤ ((l0.length : Int) : Int) := of_decide_eq_true (by first | (with_reducible assumption) | assumption)
        obtain ⟨i016, hi016, _, hsz16, _⟩ := info_parts info66
        have hroom16 : l0.length ≤ co13 := (Kd.R_reads' HO0.out).2.1
        have hC16 : Kd.C k66 _ Ao13 l0.length l0 := (Kd.R_reads' HO0.out).2.2
        have q016 : (0 : Int) ≤ ((ji9) : Int) := of_decide_eq_true (by first | (with_reducible assumption) | assumption)
        have hcut16 := cut_from (P := Try.prog) 27 66 .i64 Try.underlying27 hi016 3 hsz16 Ao13 l0.length co13 (ji9) q016 q16
        have hr16 := Kd.C_drop (m := ((ji9) : Int).toNat) (c := co13) hC16 (by omega) hroom16
        obtain ⟨A16, hA16⟩ : ∃ A1, A1 = (if co13 = ((ji9) : Int).toNat then Ao13 else (Ao13 : Option Addr).map (·.add (((ji9) : Int).toNat * 3))) := ⟨_, rfl⟩
        obtain ⟨c16, hc16⟩ : ∃ c1, c1 = co13 - ((ji9) : Int).toNat := ⟨_, rfl⟩
        have hy16 : y409.length = l0.length - ((ji9) : Int).toNat := (by rw [Ny409.out, List.length_drop] <;> omega)
        rw [show (l0).drop ((ji9) : Int).toNat = y409 from Ny409.out.symm] at hr16
        replace hr16 : Kd.C k66 _ A16 y409.length y409 := (by rw [hA16]; exact hr16)
        rw [← hy16, ← hA16, ← hc16] at hcut16
        have HR412 := Aside0.mk hr16
        have HC412 := Aside0.mk (show y409.length ≤ c16 from by rw [hy16, hc16]; exact Nat.sub_le_sub_right hroom16 _)
        clear hr16 hC16 hroom16 hi016 hsz16 hc16
        have KY16 := Aside0.mk hy16
        have KA16 := Aside0.mk hA16
        clear hy16 hA16
        have KL16 := Aside0.mk (show ((ji9) : Int).toNat ≤ l0.length from by omega)
        replace q16 := eq_true q16
        refine start_ (n := 12) (S := fun w' => True) (ds := []) #[false, false, false, false, false, false, false, false, false, false, false, false] (by kernel_rfl) rfl rfl trivial (fun hHeld => ?_); refine with_tabW ecdysisref13_Clear.tab4 ecdysisref13_Clear.bits4 (fun HT_ HW_ => ?_)
        generalize wq_.drew = w14 at HO0 HK HB HR405 HR412 hHeld ⊢
        refine pure_ (i := 1) (N := some 14) (v := ?_) (a' := ?_) #[false, true, false, false, false, false, false, false, false, false, false, false] rfl rfl (any_of HT_.out (by kernel_rfl)) (fun _ _ _ h => h) (Or.inl ⟨by rfl, ?_⟩) ?_ ?_
        rotate_left
        ·intro w'
         go_simp
         with_reducible rfl
        rotate_left
        ·simp only [Act.put, List.setIfInBounds_toArray, List.set_cons_zero, List.set_cons_succ, i64_w, i32_w]
         rfl
        refine pure_ (i := 2) (N := some 15) (v := ?_) (a' := ?_) #[false, true, true, false, false, false, false, false, false, false, false, false] rfl rfl (any_of HT_.out (by kernel_rfl)) (fun _ _ _ h => h) (Or.inl ⟨by rfl, ?_⟩) ?_ ?_
        rotate_left
        ·intro w'
         go_simp
         with_reducible rfl
        rotate_left
        ·simp only [Act.put, List.setIfInBounds_toArray, List.set_cons_zero, List.set_cons_succ, i64_w, i32_w]
         rfl
        refine pure_ (i := 3) (N := some 16) (v := ?_) (a' := ?_) #[false, true, true, true, false, false, false, false, false, false, false, false] rfl rfl (any_of HT_.out (by kernel_rfl)) (fun _ _ _ h => h) (Or.inl ⟨by rfl, ?_⟩) ?_ ?_
        rotate_left
        ·intro w'
         go_simp
         with_reducible rfl
        rotate_left
        ·simp only [Act.put, List.setIfInBounds_toArray, List.set_cons_zero, List.set_cons_succ, i64_w, i32_w]
         rfl
        refine pure_ (i := 5) (N := some 18) (v := ?_) (a' := ?_) #[false, true, true, true, false, true, false, false, false, false, false, false] rfl rfl (any_of HT_.out (by kernel_rfl)) (fun _ _ _ h => h) (Or.inl ⟨by rfl, ?_⟩) ?_ ?_
        rotate_left
        ·intro w'
         go_simp
         with_reducible rfl
        rotate_left
        ·simp only [Act.put, List.setIfInBounds_toArray, List.set_cons_zero, List.set_cons_succ, i64_w, i32_w]
         rfl
        refine pure_ (i := 6) (N := some 19) (v := ?_) (a' := ?_) #[false, true, true, true, false, true, true, false, false, false, false, false] rfl rfl (any_of HT_.out (by kernel_rfl)) (fun _ _ _ h => h) (Or.inl ⟨by rfl, ?_⟩) ?_ ?_
        rotate_left
        ·intro w'
         go_simp
         with_reducible rfl
        rotate_left
        ·simp only [Act.put, List.setIfInBounds_toArray, List.set_cons_zero, List.set_cons_succ, i64_w, i32_w]
         rfl
        refine pure_ (i := 7) (N := some 20) (v := ?_) (a' := ?_) #[false, true, true, true, false, true, true, true, false, false, false, false] rfl rfl (any_of HT_.out (by kernel_rfl)) (fun _ _ _ h => h) (Or.inl ⟨by rfl, ?_⟩) ?_ ?_
        rotate_left
        ·intro w'
         go_simp
         with_reducible rfl
        rotate_left
        ·simp only [Act.put, List.setIfInBounds_toArray, List.set_cons_zero, List.set_cons_succ, i64_w, i32_w]
         rfl
        refine pure_ (i := 8) (N := some 21) (v := ?_) (a' := ?_) #[false, true, true, true, false, true, true, true, true, false, false, false] rfl rfl (any_of HT_.out (by kernel_rfl)) (fun _ _ _ h => h) (Or.inl ⟨by rfl, ?_⟩) ?_ ?_
        rotate_left
        ·intro w'
         go_simp
         with_reducible rfl
        rotate_left
        ·simp only [Act.put, List.setIfInBounds_toArray, List.set_cons_zero, List.set_cons_succ, i64_w, i32_w]
         rfl
        refine one_ (i := 0) (N := some 13) #[true, true, true, true, false, true, true, true, true, false, false, false] rfl rfl (one_of HT_.out (by kernel_rfl)) (by decide) (fun K hK => ?_)
        refine Kd.R_lit_step k66 _ 66 ?hg (N := 13) ?hd (xs := ([] : List (S66))) (inner := []) (ok := fun _ => True) (okp := fun _ => True) ?hr ?hp (fun _ hk => hk) trivial (Below.refl _ _) (Nat.le_refl _) (by simp) ?_; (case hd => rfl); (case hg => rfl); (case hr => first | (go_simp; done) | (go_simp; rfl)); (case hp => exact (Reps.none _ _))
        intro v400 w17 ho18 hb hg_ hnew_
        clear hg_ hnew_
        (first | rw [← Ny399.out] at ho18 | (simp only [Int.reduceToNat] at ho18; rw [← Ny399.out] at ho18))
        have n0_ := Aside0.mk (Kd.R_elder' (by (with_reducible repeat (first | apply Kd.R_alloc | apply Kd.R_drewN | apply Kd.R_drew)); exact HO0.out) (Kd.R_base ho18) hb)
        have n1_ := Aside0.mk (Kd.R_lower (Kd.R_new' (Kd.R_newM (M := fun k_ => (P0_ k_ ∨ w.heap.size ≤ k_)) ho18 (by first | exact HK.out.1 | exact (show Kept w _ (fun k_ => P0_ k_) from by repeat (first | (with_reducible first | exact HK.out | apply Kept.alloc | apply Kept.drewN | apply Kept.drew) | exact HK.out)).1) (fun k_ h_ => .inr h_)) (Kd.R_lt (by (with_reducible repeat (first | apply Kd.R_alloc | apply Kd.R_drewN | apply Kd.R_drew)); exact HO0.out))) (below_size (by repeat (first | (with_reducible first | exact HB.out | apply below_alloc | apply pw_below_drewN | apply below_drew1) | exact HB.out))))
        have n2_ := Aside0.mk (Kd.C_below (by repeat (first | (with_reducible exact HR405.out) | (with_reducible refine Kd.C_alloc ?_ _) | (with_reducible refine Kd.C_drewN ?_ _) | (with_reducible refine Kd.C_drew ?_) | exact HR405.out)) hb)
        have n3_ := Aside0.mk (Kd.C_below (by repeat (first | (with_reducible exact HR412.out) | (with_reducible refine Kd.C_alloc ?_ _) | (with_reducible refine Kd.C_drewN ?_ _) | (with_reducible refine Kd.C_drew ?_) | exact HR412.out)) hb)
        have n4_ := Aside0.mk (Kept.below (S := (fun k_ => P0_ k_)) (by repeat (first | (with_reducible first | exact HK.out | apply Kept.alloc | apply Kept.drewN | apply Kept.drew) | exact HK.out)) hb)
        have n5_ := Aside0.mk (below_step (by repeat (first | (with_reducible first | exact HB.out | apply below_alloc | apply pw_below_drewN | apply below_drew1) | exact HB.out)) hb)
        clear HO0
        clear HR405
        clear HR412
        clear HK
        clear HB
        have HO0 := n0_
        have HO401 := n1_
        have HR405 := n2_
        have HR412 := n3_
        have HK := n4_
        have HB := n5_
        clear n0_ n1_ n2_ n3_ n4_ n5_
        clear hb ho18
        refine hK.out _ _ trivial (fun hHeld => ?_)
        clear hK K
        refine norm_ (a' := ?_) ?_ ?_
        rotate_left
        ·show Act.put _ (some 13) _ = _
         simp only [Act.put, List.setIfInBounds_toArray, List.set_cons_zero, List.set_cons_succ, i64_w, i32_w]
         rfl
        refine one_ (i := 4) (N := some 17) #[true, true, true, true, true, true, true, true, true, false, false, false] rfl rfl (one_of HT_.out (by kernel_rfl)) (by decide) (fun K hK => ?_)
        refine Kd.R_append_rows_step k66 (w0 := w0) w0.heap.size (by rfl) (.tmp 13) (.tmp 16) 27 66 (.agg #[(.string ⟨#[]⟩), (.int .i64 0), (.int .i64 0)]) 32 rfl Try.underlying27 info66 rfl (by decide) (by omega) v400 y399 y402 _ _ _ (fun k_ => (P0_ k_ ∨ w.heap.size ≤ k_) ∧ some k_ ≠ (.slice Ao13 l0.length co13 : Value).ownBlock) (fun _ => False) rfl rfl ?aO ?aR (fun _ _ h => h) (fun _ h => h.elim) ?aF ?aB ?aS ?aL ?_
        (case aR => repeat (first | exact (by repeat (first | (with_reducible exact HR405.out) | (with_reducible refine Kd.C_alloc ?_ _) | (with_reducible refine Kd.C_drewN ?_ _) | (with_reducible refine Kd.C_drew ?_) | exact HR405.out)) | (with_reducible refine Kd.C_alloc ?_ _) | (with_reducible refine Kd.C_drewN ?_ _) | (with_reducible refine Kd.C_drew ?_)))
        (case aB => exact (by repeat (first | (with_reducible first | exact HB.out | apply below_alloc | apply pw_below_drewN | apply below_drew1) | exact HB.out)))
        (case aF => exact (fun k_ hk => ⟨(.inr (Nat.le_trans (by first | exact HK.out.1 | exact (show Kept w _ (fun k_ => P0_ k_) from by repeat (first | (with_reducible first | exact HK.out | apply Kept.alloc | apply Kept.drewN | apply Kept.drew) | exact HK.out)).1) hk)), Kd.fresh' (Kd.R_lt (by (with_reducible repeat (first | apply Kd.R_alloc | apply Kd.R_drewN | apply Kd.R_drew)); exact HO0.out)) k_ hk⟩))
        (case aO => exact (by (with_reducible repeat (first | apply Kd.R_alloc | apply Kd.R_drewN | apply Kd.R_drew)); exact Kd.R_mono HO401.out (fun _ hk => ⟨hk.1.1, hk.2⟩)))
        (case aS => exact (below_size (by repeat (first | (with_reducible first | exact HB.out | apply below_alloc | apply pw_below_drewN | apply below_drew1) | exact HB.out))))
        (case aL => have := LMc8.out; omega)
        intro v407 w19 ho hb hg hat
        rw [← Ny406.out] at ho
        have n0_ := Aside0.mk (Kd.R_after (ok := (fun k_ => (P0_ k_ ∨ w.heap.size ≤ k_))) (by (with_reducible repeat (first | apply Kd.R_alloc | apply Kd.R_drewN | apply Kd.R_drew)); exact HO0.out) hg hat)
        have n1_ := Aside0.mk (hb)
        have n2_ := Aside0.mk (Kept.of_grown (S := (fun k_ => P0_ k_)) hg (by repeat (first | (with_reducible first | exact HK.out | apply Kept.alloc | apply Kept.drewN | apply Kept.drew) | exact HK.out)) (fun k_ e_ => (HO401.out.1 k_ e_).1.1))
        have n3_ := Aside0.mk ((show Kd.C k66 w19 Ao13 y402.length y402 from by rw [Ny402.out]; exact Kd.C_take (m := (t398 : Int).toNat) ((Kd.R_reads' (Kd.R_after (ok := (fun k_ => (P0_ k_ ∨ w.heap.size ≤ k_))) (by (with_reducible repeat (first | apply Kd.R_alloc | apply Kd.R_drewN | apply Kd.R_drew)); exact HO0.out) hg hat)).2.2) KL15.out))
        have n4_ := Aside0.mk ((show Kd.C k66 w19 A16 y409.length y409 from by rw [Ny409.out, KA16.out]; exact Kd.C_drop (m := ((ji9) : Int).toNat) (c := co13) ((Kd.R_reads' (Kd.R_after (ok := (fun k_ => (P0_ k_ ∨ w.heap.size ≤ k_))) (by (with_reducible repeat (first | apply Kd.R_alloc | apply Kd.R_drewN | apply Kd.R_drew)); exact HO0.out) hg hat)).2.2) KL16.out ((Kd.R_reads' (Kd.R_after (ok := (fun k_ => (P0_ k_ ∨ w.heap.size ≤ k_))) (by (with_reducible repeat (first | apply Kd.R_alloc | apply Kd.R_drewN | apply Kd.R_drew)); exact HO0.out) hg hat)).2.1)))
        have n5_ := Aside0.mk (ho)
        clear HO0
        clear HB
        clear HK
        clear HR405
        clear HR412
        clear HO401
        have HO0 := n0_
        have HB := n1_
        have HK := n2_
        have HR405 := n3_
        have HR412 := n4_
        have HO408 := n5_
        clear n0_ n1_ n2_ n3_ n4_ n5_
        clear ho hb hg hat
        refine hK.out _ _ trivial (fun hHeld => ?_)
        clear hK K
        refine norm_ (a' := ?_) ?_ ?_
        rotate_left
        ·show Act.put _ (some 17) _ = _
         simp only [Act.put, List.setIfInBounds_toArray, List.set_cons_zero, List.set_cons_succ, i64_w, i32_w]
         rfl
        refine one_ (i := 9) (N := some 22) #[true, true, true, true, true, true, true, true, true, true, false, false] rfl rfl (one_of HT_.out (by kernel_rfl)) (by decide) (fun K hK => ?_)
        refine Kd.R_append_rows_step k66 (w0 := w0) w0.heap.size (by rfl) (.tmp 17) (.tmp 21) 27 66 (.agg #[(.string ⟨#[]⟩), (.int .i64 0), (.int .i64 0)]) 32 rfl Try.underlying27 info66 rfl (by decide) (by omega) v407 y406 y409 _ _ _ (fun k_ => (P0_ k_ ∨ w.heap.size ≤ k_) ∧ some k_ ≠ (.slice Ao13 l0.length co13 : Value).ownBlock) (fun _ => False) rfl rfl ?aO ?aR (fun _ _ h => h) (fun _ h => h.elim) ?aF ?aB ?aS ?aL ?_
        (case aR => repeat (first | exact (by repeat (first | (with_reducible exact HR412.out) | (with_reducible refine Kd.C_alloc ?_ _) | (with_reducible refine Kd.C_drewN ?_ _) | (with_reducible refine Kd.C_drew ?_) | exact HR412.out)) | (with_reducible refine Kd.C_alloc ?_ _) | (with_reducible refine Kd.C_drewN ?_ _) | (with_reducible refine Kd.C_drew ?_)))
        (case aB => exact (by repeat (first | (with_reducible first | exact HB.out | apply below_alloc | apply pw_below_drewN | apply below_drew1) | exact HB.out)))
        (case aF => exact (fun k_ hk => ⟨(.inr (Nat.le_trans (by first | exact HK.out.1 | exact (show Kept w _ (fun k_ => P0_ k_) from by repeat (first | (with_reducible first | exact HK.out | apply Kept.alloc | apply Kept.drewN | apply Kept.drew) | exact HK.out)).1) hk)), Kd.fresh' (Kd.R_lt (by (with_reducible repeat (first | apply Kd.R_alloc | apply Kd.R_drewN | apply Kd.R_drew)); exact HO0.out)) k_ hk⟩))
        (case aO => exact (by (with_reducible repeat (first | apply Kd.R_alloc | apply Kd.R_drewN | apply Kd.R_drew)); exact HO408.out))
        (case aS => exact (below_size (by repeat (first | (with_reducible first | exact HB.out | apply below_alloc | apply pw_below_drewN | apply below_drew1) | exact HB.out))))
        (case aL => have := LMc12.out; omega)
        intro v414 w20 ho hb hg hat
        rw [← Ny413.out] at ho
        have n0_ := Aside0.mk (Kd.R_after (ok := (fun k_ => (P0_ k_ ∨ w.heap.size ≤ k_))) (by (with_reducible repeat (first | apply Kd.R_alloc | apply Kd.R_drewN | apply Kd.R_drew)); exact HO0.out) hg hat)
        have n1_ := Aside0.mk (hb)
        have n2_ := Aside0.mk (Kept.of_grown (S := (fun k_ => P0_ k_)) hg (by repeat (first | (with_reducible first | exact HK.out | apply Kept.alloc | apply Kept.drewN | apply Kept.drew) | exact HK.out)) (fun k_ e_ => (HO408.out.1 k_ e_).1))
        have n3_ := Aside0.mk ((show Kd.C k66 w20 Ao13 y402.length y402 from by rw [Ny402.out]; exact Kd.C_take (m := (t398 : Int).toNat) ((Kd.R_reads' (Kd.R_after (ok := (fun k_ => (P0_ k_ ∨ w.heap.size ≤ k_))) (by (with_reducible repeat (first | apply Kd.R_alloc | apply Kd.R_drewN | apply Kd.R_drew)); exact HO0.out) hg hat)).2.2) KL15.out))
        have n4_ := Aside0.mk ((show Kd.C k66 w20 A16 y409.length y409 from by rw [Ny409.out, KA16.out]; exact Kd.C_drop (m := ((ji9) : Int).toNat) (c := co13) ((Kd.R_reads' (Kd.R_after (ok := (fun k_ => (P0_ k_ ∨ w.heap.size ≤ k_))) (by (with_reducible repeat (first | apply Kd.R_alloc | apply Kd.R_drewN | apply Kd.R_drew)); exact HO0.out) hg hat)).2.2) KL16.out ((Kd.R_reads' (Kd.R_after (ok := (fun k_ => (P0_ k_ ∨ w.heap.size ≤ k_))) (by (with_reducible repeat (first | apply Kd.R_alloc | apply Kd.R_drewN | apply Kd.R_drew)); exact HO0.out) hg hat)).2.1)))
        have n5_ := Aside0.mk (ho)
        clear HO0
        clear HB
        clear HK
        clear HR405
        clear HR412
        clear HO408
        have HO0 := n0_
        have HB := n1_
        have HK := n2_
        have HR405 := n3_
        have HR412 := n4_
        have HO415 := n5_
        clear n0_ n1_ n2_ n3_ n4_ n5_
        clear ho hb hg hat
        refine hK.out _ _ trivial (fun hHeld => ?_)
        clear hK K
        refine norm_ (a' := ?_) ?_ ?_
        rotate_left
        ·show Act.put _ (some 22) _ = _
         simp only [Act.put, List.setIfInBounds_toArray, List.set_cons_zero, List.set_cons_succ, i64_w, i32_w]
         rfl
        refine pure_ (i := 10) (N := some 4) (v := ?_) (a' := ?_) #[true, true, true, true, true, true, true, true, true, true, true, false] rfl rfl (any_of HT_.out (by kernel_rfl)) (fun _ _ _ h => h) (Or.inl ⟨by rfl, ?_⟩) ?_ ?_
        rotate_left
        ·intro w'
         go_simp
         with_reducible rfl
        rotate_left
        ·simp only [Act.put, List.setIfInBounds_toArray, List.set_cons_zero, List.set_cons_succ, i64_w, i32_w]
         rfl
        refine pure_ (i := 11) (N := some 5) (v := ?_) (a' := ?_) #[true, true, true, true, true, true, true, true, true, true, true, true] rfl rfl (any_of HT_.out (by kernel_rfl)) (fun _ _ _ h => h) (Or.inl ⟨by rfl, ?_⟩) ?_ ?_
        rotate_left
        ·intro w'
         go_simp
         with_reducible rfl
        rotate_left
        ·simp only [Act.put, List.setIfInBounds_toArray, List.set_cons_zero, List.set_cons_succ, i64_w, i32_w]
         rfl
        refine done_ (done_of HT_.out (by kernel_rfl)) ?_
        try go_wp2
        go_ret2
        exact ⟨_, by first | rfl | (simp [errW_none, errW_some] <;> rfl) | (simp only [← hji9]; first | rfl | (simp [errW_none, errW_some] <;> rfl)) | (simp [*, errW_none, errW_some] <;> rfl), by (with_reducible repeat (first | apply Kd.R_alloc | apply Kd.R_drewN | apply Kd.R_drew)); exact Kd.R_mono HO415.out (fun _ hk => hk.1), by repeat (first | (with_reducible first | exact HB.out | apply below_alloc | apply pw_below_drewN | apply below_drew1) | exact HB.out), by repeat (first | (with_reducible first | exact HK.out | apply Kept.alloc | apply Kept.drewN | apply Kept.drew) | exact HK.out)⟩
       ·rw [if_neg c12] at H
        exact absurd H (by simp)
      ·rw [if_neg c11] at H
       exact absurd H (by simp)
     ·rw [if_neg c10] at H
      exact absurd H (by simp)
    ·rw [if_neg c8] at H
     exact absurd H (by simp)
   ·rw [if_neg c7] at H
    exact absurd H (by simp)
  ·rw [if_neg c6] at H
   exact absurd H (by simp)


/-! ### ecdysisref13_Do: function 13 -/
def ecdysisref13_Do.f (k : Nat) (l0 : List (S66)) (a1_0 : Int) (a1_1 : ByteArray) (a1_2 : Int) (a1_3 : Int) : Option ((List (S66)) × Int × Int × Int) := if a1_0 = 0 then ((ecdysisref13_Set.f k l0 a1_1 a1_2 a1_3).bind fun bt418 => (some (bt418.1, 0, 0, bt418.2))) else (if a1_0 = 1 then ((ecdysisref13_Clear.f k l0 a1_1).bind fun bt422 => (some (bt422.1, 0, 0, bt422.2))) else (if a1_0 = 2 then ((ecdysisref13_Find.f k l0 a1_1).bind fun t426 => (if t426 < 0 then (some (l0, 0, 0, 130)) else (if 0 ≤ t426 then (if t426 < (l0.length : Int) then (some (l0, (rd_T66 l0 t426).f1.f0, (rd_T66 l0 t426).f1.f1, 0)) else (none)) else (none)))) else (some (l0, 0, 0, 0))))
theorem ecdysisref13_Do.mono : ∀ a0 a1 a2 a3 a4 k, LeO (ecdysisref13_Do.f k a0 a1 a2 a3 a4) (ecdysisref13_Do.f (k + 1) a0 a1 a2 a3 a4) := by
 intro a0 a1 a2 a3 a4 k
 unfold ecdysisref13_Do.f
 repeat' first
   | (with_reducible exact ecdysisref13_Clear.mono _ _ _)
   | (with_reducible exact ecdysisref13_Find.mono _ _ _)
   | (with_reducible exact ecdysisref13_Set.mono _ _ _ _ _)
   | (with_reducible exact LeO.refl _)
   | (with_reducible exact LeO.none _)
   | (with_reducible refine LeO.ite ?_ ?_)
   | (with_reducible refine LeO.bind ?_ (fun _ => ?_))
   | exact ecdysisref13_Clear.mono _ _ _
   | exact ecdysisref13_Find.mono _ _ _
   | exact ecdysisref13_Set.mono _ _ _ _ _
   | exact LeO.none _
   | refine LeO.ite ?_ ?_
   | refine LeO.bind ?_ (fun _ => ?_)
def ecdysisref13_Do.T12 : Bool × List (List Nat × List Nat) := (true, [([], []), ([], []), ([], []), ([1, 2], [1, 2]), ([3], [3]), ([4], [4]), ([0, 0], [0]), ([5, 6, 0, 1, 2, 3, 4, 5, 6], [5]), ([7, 0, 1, 2, 3, 4, 5, 6, 7], [])])
def ecdysisref13_Do.B12 : List Nat := [0, 0, 0, 6, 14, 30, 1, 127, 255]
theorem ecdysisref13_Do.tab12 : rtab .any (opsOf Try.f13 12) = ecdysisref13_Do.T12 := by kernel_rfl
theorem ecdysisref13_Do.bits12 : waitsOk ecdysisref13_Do.T12.2 ecdysisref13_Do.B12 = true := by kernel_rfl
set_option maxHeartbeats 8000000 in
set_option maxRecDepth 100000 in
theorem ecdysisref13_Do.calls (k : Nat) (P0_ : Nat → Prop) (u9000_ : Value) (l0 : List (S66)) (a1_0 : Int) (a1_1 : ByteArray) (a1_2 : Int) (a1_3 : Int) (r1 : List (S66)) (r2 : Int) (r3 : Int) (r4 : Int) (w0 w : World) (hB : Below w0.heap.size w0 w) (ho0 : Kd.R k66 66 w w0.heap.size P0_ u9000_ l0) (h : ecdysisref13_Do.f k l0 a1_0 a1_1 a1_2 a1_3 = some (r1, r2, r3, r4)) :
  Calls Try.prog 13 #[u9000_, .agg #[.int .i64 a1_0, .string a1_1, .int .i64 a1_2, .int .i64 a1_3]] w fun e w' => ∃ v0_ : Value, e = .returned (.tuple #[v0_, .agg #[.int .i64 r2, .int .i64 r3], .int .i64 r4]) ∧ Kd.R k66 66 w' w0.heap.size (fun k_ => (P0_ k_ ∨ w.heap.size ≤ k_)) v0_ r1 ∧ Below w0.heap.size w0 w' ∧ Kept w w' (fun k_ => P0_ k_) := by
 have hu31 := Try.underlying31
 have hu29 := Try.underlying29
 have HO0 := Aside0.mk (show Kd.R k66 66 w w0.heap.size (fun k_ => (P0_ k_ ∨ w.heap.size ≤ k_)) u9000_ l0 from Kd.R_mono ho0 (fun k_ hk => (.inl hk)))
 have HK := Aside0.mk (Kept.refl w (fun k_ => P0_ k_))
 have HW0 := Aside0.mk hB.size
 have HB := Aside0.mk hB
 clear hB
 have H : (if a1_0 = 0 then ((ecdysisref13_Set.f k l0 a1_1 a1_2 a1_3).bind fun bt418 => (some (bt418.1, 0, 0, bt418.2))) else (if a1_0 = 1 then ((ecdysisref13_Clear.f k l0 a1_1).bind fun bt422 => (some (bt422.1, 0, 0, bt422.2))) else (if a1_0 = 2 then ((ecdysisref13_Find.f k l0 a1_1).bind fun t426 => (if t426 < 0 then (some (l0, 0, 0, 130)) else (if 0 ≤ t426 then (if t426 < (l0.length : Int) then (some (l0, (rd_T66 l0 t426).f1.f0, (rd_T66 l0 t426).f1.f1, 0)) else (none)) else (none)))) else (some (l0, 0, 0, 0))))) = some (r1, r2, r3, r4) := h
 clear h
 by_cases c3 : a1_0 = 0
 ·rw [if_pos c3] at H
  have c3b0 : (a1_0 == 0) = true := beq_iff_eq.mpr c3
  have c3b1 : (a1_0 != 0) = false := bne_eq_false_iff_eq.mpr c3
  clear c3
  replace H := Option.bind_eq_some_iff.mp H
  obtain ⟨⟨t418, t421⟩, A40, H⟩ := H
  replace H : (some (t418, 0, 0, t421)) = some (r1, r2, r3, r4) := H
  have A4 := Aside0.mk A40
  clear A40
  simp only [Option.some.injEq, Prod.mk.injEq] at H
  obtain ⟨rfl, rfl, rfl, rfl⟩ := H
  go_enter Try.func13, Try.ntmps13
  go_wp2_with (first | ((with_reducible refine gate_dst (N := 3) rfl ?_); refine box_event ?hg (N := 3) ?hd (cs := #[.int .i64 a1_0, .string a1_1, .int .i64 a1_2, .int .i64 a1_3]) (t := 31) ?hr ?_; (case hd => rfl); (case hg => rfl); (case hr => first | (go_simp; done) | (go_simp; rfl)); intro gb416 hg w5 hbox hb; have n0_ := Aside0.mk (Kd.R_below (by (with_reducible repeat (first | apply Kd.R_alloc | apply Kd.R_drewN | apply Kd.R_drew)); exact HO0.out) hb); have n1_ := Aside0.mk (Kept.below (S := (fun k_ => P0_ k_)) (by repeat (first | (with_reducible first | exact HK.out | apply Kept.alloc | apply Kept.drewN | apply Kept.drew) | exact HK.out)) hb); have n2_ := Aside0.mk (below_step (by repeat (first | (with_reducible first | exact HB.out | apply below_alloc | apply pw_below_drewN | apply below_drew1) | exact HB.out)) hb); have n3_ := Aside0.mk (hbox); have n4_ := Aside0.mk ((by rw [hg]; exact (by first | exact HK.out.1 | exact (show Kept w _ (fun k_ => P0_ k_) from by repeat (first | (with_reducible first | exact HK.out | apply Kept.alloc | apply Kept.drewN | apply Kept.drew) | exact HK.out)).1) : w.heap.size ≤ gb416)); have n5_ := Aside0.mk ((by rw [hg]; exact (below_size (by repeat (first | (with_reducible first | exact HB.out | apply below_alloc | apply pw_below_drewN | apply below_drew1) | exact HB.out))) : w0.heap.size ≤ gb416)); clear HO0; clear HK; clear HB; have HO0 := n0_; have HK := n1_; have HB := n2_; have BK416 := n3_; have GW416 := n4_; have GE416 := n5_; clear n0_ n1_ n2_ n3_ n4_ n5_; clear hb hbox hg) | ((with_reducible refine gate_dst (N := 5) rfl ?_); refine box_event ?hg (N := 5) ?hd (cs := #[.int .i64 0, .int .i64 0]) (t := 29) ?hr ?_; (case hd => rfl); (case hg => rfl); (case hr => first | (go_simp; done) | (go_simp; rfl)); intro gb417 hg w6 hbox hb; have n0_ := Aside0.mk (Kd.R_below (by (with_reducible repeat (first | apply Kd.R_alloc | apply Kd.R_drewN | apply Kd.R_drew)); exact HO0.out) hb); have n1_ := Aside0.mk (blk_below (g := gb416) (o := .cells #[.int .i64 a1_0, .string a1_1, .int .i64 a1_2, .int .i64 a1_3] 31 (0, 0)) (by (with_reducible repeat (first | refine blk_drewN ?_ _ | refine blk_drew ?_ | refine blk_alloc ?_ _)); exact BK416.out) hb); have n2_ := Aside0.mk (Kept.below (S := (fun k_ => P0_ k_)) (by repeat (first | (with_reducible first | exact HK.out | apply Kept.alloc | apply Kept.drewN | apply Kept.drew | refine Kept.setCell ?_ (.inr GW416.out) _) | exact HK.out)) hb); have n3_ := Aside0.mk (below_step (by repeat (first | (with_reducible first | exact HB.out | apply below_alloc | apply pw_below_drewN | apply below_drew1 | refine below_set ?_ GE416.out) | exact HB.out)) hb); have n4_ := Aside0.mk (hbox); have n5_ := Aside0.mk ((by rw [hg]; exact (by first | exact HK.out.1 | exact (show Kept w _ (fun k_ => P0_ k_) from by repeat (first | (with_reducible first | exact HK.out | apply Kept.alloc | apply Kept.drewN | apply Kept.drew | refine Kept.setCell ?_ (.inr GW416.out) _) | exact HK.out)).1) : w.heap.size ≤ gb417)); have n6_ := Aside0.mk ((by rw [hg]; exact (below_size (by repeat (first | (with_reducible first | exact HB.out | apply below_alloc | apply pw_below_drewN | apply below_drew1 | refine below_set ?_ GE416.out) | exact HB.out))) : w0.heap.size ≤ gb417)); have n7_ := Aside0.mk ((by rw [hg]; exact Nat.ne_of_lt (blk_lt (g := gb416) (o := .cells #[.int .i64 a1_0, .string a1_1, .int .i64 a1_2, .int .i64 a1_3] 31 (0, 0)) (by (with_reducible repeat (first | refine blk_drewN ?_ _ | refine blk_drew ?_ | refine blk_alloc ?_ _)); exact BK416.out)) : gb416 ≠ gb417)); have n8_ := Aside0.mk ((by rw [hg]; exact Nat.ne_of_gt (blk_lt (g := gb416) (o := .cells #[.int .i64 a1_0, .string a1_1, .int .i64 a1_2, .int .i64 a1_3] 31 (0, 0)) (by (with_reducible repeat (first | refine blk_drewN ?_ _ | refine blk_drew ?_ | refine blk_alloc ?_ _)); exact BK416.out)) : gb417 ≠ gb416)); clear HO0; clear BK416; clear HK; clear HB; have HO0 := n0_; have BK416 := n1_; have HK := n2_; have HB := n3_; have BK417 := n4_; have GW417 := n5_; have GE417 := n6_; have NB416_417 := n7_; have NB417_416 := n8_; clear n0_ n1_ n2_ n3_ n4_ n5_ n6_ n7_ n8_; clear hb hbox hg; have hnb7 := NB416_417.out; have hnc7 := NB417_416.out; have hcz8_0 : w6.cell? ⟨gb416, 0, none⟩ = some (.int .i64 a1_0) := (blk_cell BK416.out 0).trans rfl; have hcz8_1 : w6.cell? ⟨gb416, 1, none⟩ = some (.string a1_1) := (blk_cell BK416.out 1).trans rfl; have hcz8_2 : w6.cell? ⟨gb416, 2, none⟩ = some (.int .i64 a1_2) := (blk_cell BK416.out 2).trans rfl; have hcz8_3 : w6.cell? ⟨gb416, 3, none⟩ = some (.int .i64 a1_3) := (blk_cell BK416.out 3).trans rfl; have hfz8_0 := blk_frozen BK416.out 0; have hfz8_1 := blk_frozen BK416.out 1; have hfz8_2 := blk_frozen BK416.out 2; have hfz8_3 := blk_frozen BK416.out 3; obtain ⟨Ao9, co9, eo9⟩ := Kd.R_slice HO0.out; subst eo9) | ((with_reducible refine gate_callee (f := 27) rfl ?_); refine goesL_ (some 22) rfl rfl Try.func27 (by kernel_rfl) rfl #[.slice Ao9 l0.length co9, .string a1_1, .agg #[.int .i64 a1_2, .int .i64 a1_3]] rfl (by (try simp only [List.map_toArray, List.map_cons, List.map_nil]); first | done | rfl | (simp only [List.length_drop, List.length_take]; rfl)) ?_; (with_reducible refine (ecdysisref13_Set.calls k (fun k_ => some k_ = (.slice Ao9 l0.length co9 : Value).ownBlock) (.slice Ao9 l0.length co9) l0 a1_1 a1_2 a1_3 t418 t421 w0 _ ?side1 ?side2 A4.out).mono ?_); (case side1 => repeat (first | (with_reducible first | exact HB.out | apply below_alloc | apply pw_below_drewN | apply below_drew1 | refine below_set ?_ GE416.out | refine below_set ?_ GE417.out) | exact HB.out)); (case side2 => exact Kd.R_tight rfl HO0.out); rintro e w10 ⟨v419, rfl, ho0, hb, hkp⟩; refine ⟨_, rfl, ?_⟩; have n0_ := Aside0.mk (blk_kept (by (with_reducible repeat (first | refine blk_drewN ?_ _ | refine blk_drew ?_ | refine blk_alloc ?_ _)); exact BK416.out) hkp (fun hs_ => (fun e_ => (Kd.R_ne HO0.out BK416.out (by decide)) e_) hs_)); have n1_ := Aside0.mk (blk_kept (by (with_reducible repeat (first | refine blk_drewN ?_ _ | refine blk_drew ?_ | refine blk_alloc ?_ _)); exact BK417.out) hkp (fun hs_ => (fun e_ => (Kd.R_ne HO0.out BK417.out (by decide)) e_) hs_)); have n2_ := Aside0.mk (Kd.R_mono (ok' := fun k_ => (P0_ k_ ∨ w.heap.size ≤ k_)) ho0 (fun k_ hk_ => Or.elim hk_ (fun hs_ => (HO0.out.1 k_ (hs_).symm)) (fun hn_ => (.inr (Nat.le_trans (by first | exact HK.out.1 | exact (show Kept w _ (fun k_ => P0_ k_) from by repeat (first | (with_reducible first | exact HK.out | apply Kept.alloc | apply Kept.drewN | apply Kept.drew | refine Kept.setCell ?_ (.inr GW416.out) _ | refine Kept.setCell ?_ (.inr GW417.out) _) | exact HK.out)).1) hn_))))); have n3_ := Aside0.mk (Kept.then_ (S := (fun k_ => P0_ k_)) (by repeat (first | (with_reducible first | exact HK.out | apply Kept.alloc | apply Kept.drewN | apply Kept.drew | refine Kept.setCell ?_ (.inr GW416.out) _ | refine Kept.setCell ?_ (.inr GW417.out) _) | exact HK.out)) hkp (fun k_ hs_ => (fun e_ => (HO0.out.1 k_ e_.symm)) hs_)); have n4_ := Aside0.mk (hb); clear BK416; clear BK417; clear HK; clear HB; clear HO0; have BK416 := n0_; have BK417 := n1_; have HO420 := n2_; have HK := n3_; have HB := n4_; clear n0_ n1_ n2_ n3_ n4_; (try clear hb); (try clear hkp); (try clear ho0); have hcz11_0 : w10.cell? ⟨gb417, 0, none⟩ = some (.int .i64 0) := (blk_cell BK417.out 0).trans rfl; have hcz11_1 : w10.cell? ⟨gb417, 1, none⟩ = some (.int .i64 0) := (blk_cell BK417.out 1).trans rfl; have hfz11_0 := blk_frozen BK417.out 0; have hfz11_1 := blk_frozen BK417.out 1))
  refine bodyPost_ret (results_list (rs := [.tmp 4, .cell 5 29, .tmp 6]) rfl (by simp) (.tmp (.cell gb417 29 #[.int .i64 0, .int .i64 0] (0, 0) _ rfl (by (with_reducible repeat (first | refine blk_drewN ?_ _ | refine blk_drew ?_ | refine blk_alloc ?_ _)); refine blk_put (cs := #[.int .i64 0, .int .i64 0]) ?_ 1 _ rfl; (with_reducible repeat (first | refine blk_drewN ?_ _ | refine blk_drew ?_ | refine blk_alloc ?_ _)); refine blk_put (cs := #[.int .i64 0, .int .i64 0]) ?_ 0 _ rfl; (with_reducible repeat (first | refine blk_drewN ?_ _ | refine blk_drew ?_ | refine blk_alloc ?_ _)); exact BK417.out) Try.underlying29 rfl (by kernel_rfl) (.tmp .nil)))) rfl ?_
  exact ⟨_, by first | rfl | (simp [errW_none, errW_some] <;> rfl) | (simp [*, errW_none, errW_some] <;> rfl), by (with_reducible repeat (first | apply Kd.R_alloc | apply Kd.R_drewN | apply Kd.R_drew)); exact Kd.R_mono (Kd.R_far (p := ⟨gb417, 1, none⟩) (Kd.R_far (p := ⟨gb417, 0, none⟩) (Kd.R_types HO420.out BK417.out (by decide)) (fun _ hk => hk.2) (.int .i64 0)) (fun _ hk => hk.2) (.int .i64 0)) (fun _ hk => hk.1), by repeat (first | (with_reducible first | exact HB.out | apply below_alloc | apply pw_below_drewN | apply below_drew1 | refine below_set ?_ GE416.out | refine below_set ?_ GE417.out) | exact HB.out), by repeat (first | (with_reducible first | exact HK.out | apply Kept.alloc | apply Kept.drewN | apply Kept.drew | refine Kept.setCell ?_ (.inr GW416.out) _ | refine Kept.setCell ?_ (.inr GW417.out) _) | exact HK.out)⟩
 ·rw [if_neg c3] at H
  have c3b0 : (a1_0 == 0) = false := beq_eq_false_iff_ne.mpr c3
  have c3b1 : (a1_0 != 0) = true := bne_iff_ne.mpr c3
  by_cases c12 : a1_0 = 1
  ·rw [if_pos c12] at H
   have c12b0 : (a1_0 == 1) = true := beq_iff_eq.mpr c12
   have c12b1 : (a1_0 != 1) = false := bne_eq_false_iff_eq.mpr c12
   clear c12
   replace H := Option.bind_eq_some_iff.mp H
   obtain ⟨⟨t422, t425⟩, A130, H⟩ := H
   replace H : (some (t422, 0, 0, t425)) = some (r1, r2, r3, r4) := H
   have A13 := Aside0.mk A130
   clear A130
   simp only [Option.some.injEq, Prod.mk.injEq] at H
   obtain ⟨rfl, rfl, rfl, rfl⟩ := H
   go_enter Try.func13, Try.ntmps13
   go_wp2_with (first | ((with_reducible refine gate_dst (N := 3) rfl ?_); refine box_event ?hg (N := 3) ?hd (cs := #[.int .i64 a1_0, .string a1_1, .int .i64 a1_2, .int .i64 a1_3]) (t := 31) ?hr ?_; (case hd => rfl); (case hg => rfl); (case hr => first | (go_simp; done) | (go_simp; rfl)); intro gb416 hg w14 hbox hb; have n0_ := Aside0.mk (Kd.R_below (by (with_reducible repeat (first | apply Kd.R_alloc | apply Kd.R_drewN | apply Kd.R_drew)); exact HO0.out) hb); have n1_ := Aside0.mk (Kept.below (S := (fun k_ => P0_ k_)) (by repeat (first | (with_reducible first | exact HK.out | apply Kept.alloc | apply Kept.drewN | apply Kept.drew) | exact HK.out)) hb); have n2_ := Aside0.mk (below_step (by repeat (first | (with_reducible first | exact HB.out | apply below_alloc | apply pw_below_drewN | apply below_drew1) | exact HB.out)) hb); have n3_ := Aside0.mk (hbox); have n4_ := Aside0.mk ((by rw [hg]; exact (by first | exact HK.out.1 | exact (show Kept w _ (fun k_ => P0_ k_) from by repeat (first | (with_reducible first | exact HK.out | apply Kept.alloc | apply Kept.drewN | apply Kept.drew) | exact HK.out)).1) : w.heap.size ≤ gb416)); have n5_ := Aside0.mk ((by rw [hg]; exact (below_size (by repeat (first | (with_reducible first | exact HB.out | apply below_alloc | apply pw_below_drewN | apply below_drew1) | exact HB.out))) : w0.heap.size ≤ gb416)); clear HO0; clear HK; clear HB; have HO0 := n0_; have HK := n1_; have HB := n2_; have BK416 := n3_; have GW416 := n4_; have GE416 := n5_; clear n0_ n1_ n2_ n3_ n4_ n5_; clear hb hbox hg) | ((with_reducible refine gate_dst (N := 5) rfl ?_); refine box_event ?hg (N := 5) ?hd (cs := #[.int .i64 0, .int .i64 0]) (t := 29) ?hr ?_; (case hd => rfl); (case hg => rfl); (case hr => first | (go_simp; done) | (go_simp; rfl)); intro gb417 hg w15 hbox hb; have n0_ := Aside0.mk (Kd.R_below (by (with_reducible repeat (first | apply Kd.R_alloc | apply Kd.R_drewN | apply Kd.R_drew)); exact HO0.out) hb); have n1_ := Aside0.mk (blk_below (g := gb416) (o := .cells #[.int .i64 a1_0, .string a1_1, .int .i64 a1_2, .int .i64 a1_3] 31 (0, 0)) (by (with_reducible repeat (first | refine blk_drewN ?_ _ | refine blk_drew ?_ | refine blk_alloc ?_ _)); exact BK416.out) hb); have n2_ := Aside0.mk (Kept.below (S := (fun k_ => P0_ k_)) (by repeat (first | (with_reducible first | exact HK.out | apply Kept.alloc | apply Kept.drewN | apply Kept.drew | refine Kept.setCell ?_ (.inr GW416.out) _) | exact HK.out)) hb); have n3_ := Aside0.mk (below_step (by repeat (first | (with_reducible first | exact HB.out | apply below_alloc | apply pw_below_drewN | apply below_drew1 | refine below_set ?_ GE416.out) | exact HB.out)) hb); have n4_ := Aside0.mk (hbox); have n5_ := Aside0.mk ((by rw [hg]; exact (by first | exact HK.out.1 | exact (show Kept w _ (fun k_ => P0_ k_) from by repeat (first | (with_reducible first | exact HK.out | apply Kept.alloc | apply Kept.drewN | apply Kept.drew | refine Kept.setCell ?_ (.inr GW416.out) _) | exact HK.out)).1) : w.heap.size ≤ gb417)); have n6_ := Aside0.mk ((by rw [hg]; exact (below_size (by repeat (first | (with_reducible first | exact HB.out | apply below_alloc | apply pw_below_drewN | apply below_drew1 | refine below_set ?_ GE416.out) | exact HB.out))) : w0.heap.size ≤ gb417)); have n7_ := Aside0.mk ((by rw [hg]; exact Nat.ne_of_lt (blk_lt (g := gb416) (o := .cells #[.int .i64 a1_0, .string a1_1, .int .i64 a1_2, .int .i64 a1_3] 31 (0, 0)) (by (with_reducible repeat (first | refine blk_drewN ?_ _ | refine blk_drew ?_ | refine blk_alloc ?_ _)); exact BK416.out)) : gb416 ≠ gb417)); have n8_ := Aside0.mk ((by rw [hg]; exact Nat.ne_of_gt (blk_lt (g := gb416) (o := .cells #[.int .i64 a1_0, .string a1_1, .int .i64 a1_2, .int .i64 a1_3] 31 (0, 0)) (by (with_reducible repeat (first | refine blk_drewN ?_ _ | refine blk_drew ?_ | refine blk_alloc ?_ _)); exact BK416.out)) : gb417 ≠ gb416)); clear HO0; clear BK416; clear HK; clear HB; have HO0 := n0_; have BK416 := n1_; have HK := n2_; have HB := n3_; have BK417 := n4_; have GW417 := n5_; have GE417 := n6_; have NB416_417 := n7_; have NB417_416 := n8_; clear n0_ n1_ n2_ n3_ n4_ n5_ n6_ n7_ n8_; clear hb hbox hg; have hnb16 := NB416_417.out; have hnc16 := NB417_416.out; have hcz17_0 : w15.cell? ⟨gb416, 0, none⟩ = some (.int .i64 a1_0) := (blk_cell BK416.out 0).trans rfl; have hcz17_1 : w15.cell? ⟨gb416, 1, none⟩ = some (.string a1_1) := (blk_cell BK416.out 1).trans rfl; have hcz17_2 : w15.cell? ⟨gb416, 2, none⟩ = some (.int .i64 a1_2) := (blk_cell BK416.out 2).trans rfl; have hcz17_3 : w15.cell? ⟨gb416, 3, none⟩ = some (.int .i64 a1_3) := (blk_cell BK416.out 3).trans rfl; have hfz17_0 := blk_frozen BK416.out 0; have hfz17_1 := blk_frozen BK416.out 1; have hfz17_2 := blk_frozen BK416.out 2; have hfz17_3 := blk_frozen BK416.out 3; obtain ⟨Ao18, co18, eo18⟩ := Kd.R_slice HO0.out; subst eo18) | ((with_reducible refine gate_callee (f := 28) rfl ?_); refine goesL_ (some 34) rfl rfl Try.func28 (by kernel_rfl) rfl #[.slice Ao18 l0.length co18, .string a1_1] rfl (by (try simp only [List.map_toArray, List.map_cons, List.map_nil]); first | done | rfl | (simp only [List.length_drop, List.length_take]; rfl)) ?_; (with_reducible refine (ecdysisref13_Clear.calls k (fun k_ => some k_ = (.slice Ao18 l0.length co18 : Value).ownBlock) (.slice Ao18 l0.length co18) l0 a1_1 t422 t425 w0 _ ?side1 ?side2 A13.out).mono ?_); (case side1 => repeat (first | (with_reducible first | exact HB.out | apply below_alloc | apply pw_below_drewN | apply below_drew1 | refine below_set ?_ GE416.out | refine below_set ?_ GE417.out) | exact HB.out)); (case side2 => exact Kd.R_tight rfl HO0.out); rintro e w19 ⟨v423, rfl, ho0, hb, hkp⟩; refine ⟨_, rfl, ?_⟩; have n0_ := Aside0.mk (blk_kept (by (with_reducible repeat (first | refine blk_drewN ?_ _ | refine blk_drew ?_ | refine blk_alloc ?_ _)); exact BK416.out) hkp (fun hs_ => (fun e_ => (Kd.R_ne HO0.out BK416.out (by decide)) e_) hs_)); have n1_ := Aside0.mk (blk_kept (by (with_reducible repeat (first | refine blk_drewN ?_ _ | refine blk_drew ?_ | refine blk_alloc ?_ _)); exact BK417.out) hkp (fun hs_ => (fun e_ => (Kd.R_ne HO0.out BK417.out (by decide)) e_) hs_)); have n2_ := Aside0.mk (Kd.R_mono (ok' := fun k_ => (P0_ k_ ∨ w.heap.size ≤ k_)) ho0 (fun k_ hk_ => Or.elim hk_ (fun hs_ => (HO0.out.1 k_ (hs_).symm)) (fun hn_ => (.inr (Nat.le_trans (by first | exact HK.out.1 | exact (show Kept w _ (fun k_ => P0_ k_) from by repeat (first | (with_reducible first | exact HK.out | apply Kept.alloc | apply Kept.drewN | apply Kept.drew | refine Kept.setCell ?_ (.inr GW416.out) _ | refine Kept.setCell ?_ (.inr GW417.out) _) | exact HK.out)).1) hn_))))); have n3_ := Aside0.mk (Kept.then_ (S := (fun k_ => P0_ k_)) (by repeat (first | (with_reducible first | exact HK.out | apply Kept.alloc | apply Kept.drewN | apply Kept.drew | refine Kept.setCell ?_ (.inr GW416.out) _ | refine Kept.setCell ?_ (.inr GW417.out) _) | exact HK.out)) hkp (fun k_ hs_ => (fun e_ => (HO0.out.1 k_ e_.symm)) hs_)); have n4_ := Aside0.mk (hb); clear BK416; clear BK417; clear HK; clear HB; clear HO0; have BK416 := n0_; have BK417 := n1_; have HO424 := n2_; have HK := n3_; have HB := n4_; clear n0_ n1_ n2_ n3_ n4_; (try clear hb); (try clear hkp); (try clear ho0); have hcz20_0 : w19.cell? ⟨gb417, 0, none⟩ = some (.int .i64 0) := (blk_cell BK417.out 0).trans rfl; have hcz20_1 : w19.cell? ⟨gb417, 1, none⟩ = some (.int .i64 0) := (blk_cell BK417.out 1).trans rfl; have hfz20_0 := blk_frozen BK417.out 0; have hfz20_1 := blk_frozen BK417.out 1))
   refine bodyPost_ret (results_list (rs := [.tmp 4, .cell 5 29, .tmp 6]) rfl (by simp) (.tmp (.cell gb417 29 #[.int .i64 0, .int .i64 0] (0, 0) _ rfl (by (with_reducible repeat (first | refine blk_drewN ?_ _ | refine blk_drew ?_ | refine blk_alloc ?_ _)); refine blk_put (cs := #[.int .i64 0, .int .i64 0]) ?_ 1 _ rfl; (with_reducible repeat (first | refine blk_drewN ?_ _ | refine blk_drew ?_ | refine blk_alloc ?_ _)); refine blk_put (cs := #[.int .i64 0, .int .i64 0]) ?_ 0 _ rfl; (with_reducible repeat (first | refine blk_drewN ?_ _ | refine blk_drew ?_ | refine blk_alloc ?_ _)); exact BK417.out) Try.underlying29 rfl (by kernel_rfl) (.tmp .nil)))) rfl ?_
   exact ⟨_, by first | rfl | (simp [errW_none, errW_some] <;> rfl) | (simp [*, errW_none, errW_some] <;> rfl), by (with_reducible repeat (first | apply Kd.R_alloc | apply Kd.R_drewN | apply Kd.R_drew)); exact Kd.R_mono (Kd.R_far (p := ⟨gb417, 1, none⟩) (Kd.R_far (p := ⟨gb417, 0, none⟩) (Kd.R_types HO424.out BK417.out (by decide)) (fun _ hk => hk.2) (.int .i64 0)) (fun _ hk => hk.2) (.int .i64 0)) (fun _ hk => hk.1), by repeat (first | (with_reducible first | exact HB.out | apply below_alloc | apply pw_below_drewN | apply below_drew1 | refine below_set ?_ GE416.out | refine below_set ?_ GE417.out) | exact HB.out), by repeat (first | (with_reducible first | exact HK.out | apply Kept.alloc | apply Kept.drewN | apply Kept.drew | refine Kept.setCell ?_ (.inr GW416.out) _ | refine Kept.setCell ?_ (.inr GW417.out) _) | exact HK.out)⟩
  ·rw [if_neg c12] at H
   have c12b0 : (a1_0 == 1) = false := beq_eq_false_iff_ne.mpr c12
   have c12b1 : (a1_0 != 1) = true := bne_iff_ne.mpr c12
   by_cases c21 : a1_0 = 2
   ·rw [if_pos c21] at H
    have c21b0 : (a1_0 == 2) = true := beq_iff_eq.mpr c21
    have c21b1 : (a1_0 != 2) = false := bne_eq_false_iff_eq.mpr c21
    clear c21
    replace H := Option.bind_eq_some_iff.mp H
    obtain ⟨t426, A220, H⟩ := H
    replace H : (if t426 < 0 then (some (l0, 0, 0, 130)) else (if 0 ≤ t426 then (if t426 < (l0.length : Int) then (some (l0, (rd_T66 l0 t426).f1.f0, (rd_T66 l0 t426).f1.f1, 0)) else (none)) else (none))) = some (r1, r2, r3, r4) := H
    have A22 := Aside0.mk A220
    clear A220
    by_cases c23 : t426 < 0
    ·rw [if_pos c23] at H
     have c23b0 : decide (t426 < 0) = true := decide_eq_true c23
     clear c23
     simp only [Option.some.injEq, Prod.mk.injEq] at H
     obtain ⟨rfl, rfl, rfl, rfl⟩ := H
     go_enter Try.func13, Try.ntmps13
     go_wp2_with (first | ((with_reducible refine gate_dst (N := 3) rfl ?_); refine box_event ?hg (N := 3) ?hd (cs := #[.int .i64 a1_0, .string a1_1, .int .i64 a1_2, .int .i64 a1_3]) (t := 31) ?hr ?_; (case hd => rfl); (case hg => rfl); (case hr => first | (go_simp; done) | (go_simp; rfl)); intro gb416 hg w24 hbox hb; have n0_ := Aside0.mk (Kd.R_below (by (with_reducible repeat (first | apply Kd.R_alloc | apply Kd.R_drewN | apply Kd.R_drew)); exact HO0.out) hb); have n1_ := Aside0.mk (Kept.below (S := (fun k_ => P0_ k_)) (by repeat (first | (with_reducible first | exact HK.out | apply Kept.alloc | apply Kept.drewN | apply Kept.drew) | exact HK.out)) hb); have n2_ := Aside0.mk (below_step (by repeat (first | (with_reducible first | exact HB.out | apply below_alloc | apply pw_below_drewN | apply below_drew1) | exact HB.out)) hb); have n3_ := Aside0.mk (hbox); have n4_ := Aside0.mk ((by rw [hg]; exact (by first | exact HK.out.1 | exact (show Kept w _ (fun k_ => P0_ k_) from by repeat (first | (with_reducible first | exact HK.out | apply Kept.alloc | apply Kept.drewN | apply Kept.drew) | exact HK.out)).1) : w.heap.size ≤ gb416)); have n5_ := Aside0.mk ((by rw [hg]; exact (below_size (by repeat (first | (with_reducible first | exact HB.out | apply below_alloc | apply pw_below_drewN | apply below_drew1) | exact HB.out))) : w0.heap.size ≤ gb416)); clear HO0; clear HK; clear HB; have HO0 := n0_; have HK := n1_; have HB := n2_; have BK416 := n3_; have GW416 := n4_; have GE416 := n5_; clear n0_ n1_ n2_ n3_ n4_ n5_; clear hb hbox hg) | ((with_reducible refine gate_dst (N := 5) rfl ?_); refine box_event ?hg (N := 5) ?hd (cs := #[.int .i64 0, .int .i64 0]) (t := 29) ?hr ?_; (case hd => rfl); (case hg => rfl); (case hr => first | (go_simp; done) | (go_simp; rfl)); intro gb417 hg w25 hbox hb; have n0_ := Aside0.mk (Kd.R_below (by (with_reducible repeat (first | apply Kd.R_alloc | apply Kd.R_drewN | apply Kd.R_drew)); exact HO0.out) hb); have n1_ := Aside0.mk (blk_below (g := gb416) (o := .cells #[.int .i64 a1_0, .string a1_1, .int .i64 a1_2, .int .i64 a1_3] 31 (0, 0)) (by (with_reducible repeat (first | refine blk_drewN ?_ _ | refine blk_drew ?_ | refine blk_alloc ?_ _)); exact BK416.out) hb); have n2_ := Aside0.mk (Kept.below (S := (fun k_ => P0_ k_)) (by repeat (first | (with_reducible first | exact HK.out | apply Kept.alloc | apply Kept.drewN | apply Kept.drew | refine Kept.setCell ?_ (.inr GW416.out) _) | exact HK.out)) hb); have n3_ := Aside0.mk (below_step (by repeat (first | (with_reducible first | exact HB.out | apply below_alloc | apply pw_below_drewN | apply below_drew1 | refine below_set ?_ GE416.out) | exact HB.out)) hb); have n4_ := Aside0.mk (hbox); have n5_ := Aside0.mk ((by rw [hg]; exact (by first | exact HK.out.1 | exact (show Kept w _ (fun k_ => P0_ k_) from by repeat (first | (with_reducible first | exact HK.out | apply Kept.alloc | apply Kept.drewN | apply Kept.drew | refine Kept.setCell ?_ (.inr GW416.out) _) | exact HK.out)).1) : w.heap.size ≤ gb417)); have n6_ := Aside0.mk ((by rw [hg]; exact (below_size (by repeat (first | (with_reducible first | exact HB.out | apply below_alloc | apply pw_below_drewN | apply below_drew1 | refine below_set ?_ GE416.out) | exact HB.out))) : w0.heap.size ≤ gb417)); have n7_ := Aside0.mk ((by rw [hg]; exact Nat.ne_of_lt (blk_lt (g := gb416) (o := .cells #[.int .i64 a1_0, .string a1_1, .int .i64 a1_2, .int .i64 a1_3] 31 (0, 0)) (by (with_reducible repeat (first | refine blk_drewN ?_ _ | refine blk_drew ?_ | refine blk_alloc ?_ _)); exact BK416.out)) : gb416 ≠ gb417)); have n8_ := Aside0.mk ((by rw [hg]; exact Nat.ne_of_gt (blk_lt (g := gb416) (o := .cells #[.int .i64 a1_0, .string a1_1, .int .i64 a1_2, .int .i64 a1_3] 31 (0, 0)) (by (with_reducible repeat (first | refine blk_drewN ?_ _ | refine blk_drew ?_ | refine blk_alloc ?_ _)); exact BK416.out)) : gb417 ≠ gb416)); clear HO0; clear BK416; clear HK; clear HB; have HO0 := n0_; have BK416 := n1_; have HK := n2_; have HB := n3_; have BK417 := n4_; have GW417 := n5_; have GE417 := n6_; have NB416_417 := n7_; have NB417_416 := n8_; clear n0_ n1_ n2_ n3_ n4_ n5_ n6_ n7_ n8_; clear hb hbox hg; have hnb26 := NB416_417.out; have hnc26 := NB417_416.out; have hcz27_0 : w25.cell? ⟨gb416, 0, none⟩ = some (.int .i64 a1_0) := (blk_cell BK416.out 0).trans rfl; have hcz27_1 : w25.cell? ⟨gb416, 1, none⟩ = some (.string a1_1) := (blk_cell BK416.out 1).trans rfl; have hcz27_2 : w25.cell? ⟨gb416, 2, none⟩ = some (.int .i64 a1_2) := (blk_cell BK416.out 2).trans rfl; have hcz27_3 : w25.cell? ⟨gb416, 3, none⟩ = some (.int .i64 a1_3) := (blk_cell BK416.out 3).trans rfl; have hfz27_0 := blk_frozen BK416.out 0; have hfz27_1 := blk_frozen BK416.out 1; have hfz27_2 := blk_frozen BK416.out 2; have hfz27_3 := blk_frozen BK416.out 3; obtain ⟨Ao28, co28, eo28⟩ := Kd.R_slice HO0.out; subst eo28) | ((with_reducible refine gate_callee (f := 29) rfl ?_); refine goesL_ (some 45) rfl rfl Try.func29 (by kernel_rfl) rfl #[.slice Ao28 l0.length co28, .string a1_1] rfl (by (try simp only [List.map_toArray, List.map_cons, List.map_nil]); first | done | rfl | (simp only [List.length_drop, List.length_take]; rfl)) ?_; (with_reducible refine (ecdysisref13_Find.calls k _ _ l0 a1_1 t426 _ ?side1 ?side2 A22.out).mono ?_); (case side1 => repeat (first | exact (Kd.R_reads' HO0.out).2.2 | (with_reducible refine Kd.C_alloc ?_ _) | (with_reducible refine Kd.C_drewN ?_ _) | (with_reducible refine Kd.C_drew ?_))); (case side2 => exact (Kd.R_reads' HO0.out).2.1); rintro e w' ⟨rfl, ⟨nd, rfl⟩⟩; refine ⟨_, rfl, ?_⟩; (try (rw [drewN_self w25]; generalize hq_ : World.drewN w25 _ = w25; have n0_ : Aside0 (Kd.R k66 66 w25 w0.heap.size (fun k_ => (P0_ k_ ∨ w.heap.size ≤ k_)) (.slice Ao28 l0.length co28) l0) := ⟨by rw [← hq_]; exact (by (with_reducible repeat (first | apply Kd.R_alloc | apply Kd.R_drewN | apply Kd.R_drew)); exact HO0.out)⟩; have n1_ : Aside0 (w25.heap[gb416]? = some (.cells #[.int .i64 a1_0, .string a1_1, .int .i64 a1_2, .int .i64 a1_3] 31 (0, 0))) := ⟨by rw [← hq_]; exact (by (with_reducible repeat (first | refine blk_drewN ?_ _ | refine blk_drew ?_ | refine blk_alloc ?_ _)); exact BK416.out)⟩; have n2_ : Aside0 (w25.heap[gb417]? = some (.cells #[.int .i64 0, .int .i64 0] 29 (0, 0))) := ⟨by rw [← hq_]; exact (by (with_reducible repeat (first | refine blk_drewN ?_ _ | refine blk_drew ?_ | refine blk_alloc ?_ _)); exact BK417.out)⟩; have n3_ : Aside0 (Kept w w25 (fun k_ => P0_ k_)) := ⟨by rw [← hq_]; exact (by repeat (first | (with_reducible first | exact HK.out | apply Kept.alloc | apply Kept.drewN | apply Kept.drew | refine Kept.setCell ?_ (.inr GW416.out) _ | refine Kept.setCell ?_ (.inr GW417.out) _) | exact HK.out))⟩; have n4_ : Aside0 (Below w0.heap.size w0 w25) := ⟨by rw [← hq_]; exact (by repeat (first | (with_reducible first | exact HB.out | apply below_alloc | apply pw_below_drewN | apply below_drew1 | refine below_set ?_ GE416.out | refine below_set ?_ GE417.out) | exact HB.out))⟩; clear HO0 BK416 BK417 HK HB hq_; have HO0 := n0_; have BK416 := n1_; have BK417 := n2_; have HK := n3_; have HB := n4_; clear n0_ n1_ n2_ n3_ n4_)); have hcz29_0 : w25.cell? ⟨gb417, 0, none⟩ = some (.int .i64 0) := (blk_cell BK417.out 0).trans rfl; have hcz29_1 : w25.cell? ⟨gb417, 1, none⟩ = some (.int .i64 0) := (blk_cell BK417.out 1).trans rfl; have hfz29_0 := blk_frozen BK417.out 0; have hfz29_1 := blk_frozen BK417.out 1))
     refine bodyPost_ret (results_list (rs := [.tmp 4, .cell 5 29, .tmp 6]) rfl (by simp) (.tmp (.cell gb417 29 #[.int .i64 0, .int .i64 0] (0, 0) _ rfl (by (with_reducible repeat (first | refine blk_drewN ?_ _ | refine blk_drew ?_ | refine blk_alloc ?_ _)); refine blk_put (cs := #[.int .i64 0, .int .i64 0]) ?_ 1 _ rfl; (with_reducible repeat (first | refine blk_drewN ?_ _ | refine blk_drew ?_ | refine blk_alloc ?_ _)); refine blk_put (cs := #[.int .i64 0, .int .i64 0]) ?_ 0 _ rfl; (with_reducible repeat (first | refine blk_drewN ?_ _ | refine blk_drew ?_ | refine blk_alloc ?_ _)); exact BK417.out) Try.underlying29 rfl (by kernel_rfl) (.tmp .nil)))) rfl ?_
     exact ⟨_, by first | rfl | (simp [errW_none, errW_some] <;> rfl) | (simp [*, errW_none, errW_some] <;> rfl), by (with_reducible repeat (first | apply Kd.R_alloc | apply Kd.R_drewN | apply Kd.R_drew)); exact Kd.R_mono (Kd.R_far (p := ⟨gb417, 1, none⟩) (Kd.R_far (p := ⟨gb417, 0, none⟩) (Kd.R_types HO0.out BK417.out (by decide)) (fun _ hk => hk.2) (.int .i64 0)) (fun _ hk => hk.2) (.int .i64 0)) (fun _ hk => hk.1), by repeat (first | (with_reducible first | exact HB.out | apply below_alloc | apply pw_below_drewN | apply below_drew1 | refine below_set ?_ GE416.out | refine below_set ?_ GE417.out) | exact HB.out), by repeat (first | (with_reducible first | exact HK.out | apply Kept.alloc | apply Kept.drewN | apply Kept.drew | refine Kept.setCell ?_ (.inr GW416.out) _ | refine Kept.setCell ?_ (.inr GW417.out) _) | exact HK.out)⟩
    ·rw [if_neg c23] at H
     have c23b0 : decide (t426 < 0) = false := decide_eq_false c23
     clear c23
     by_cases c30 : 0 ≤ t426
     ·rw [if_pos c30] at H
      have c30b0 : decide (0 ≤ t426) = true := decide_eq_true c30
      clear c30
      by_cases c31 : t426 < (l0.length : Int)
      ·rw [if_pos c31] at H
       have c31b0 : decide (t426 < (l0.length : Int)) = true := decide_eq_true c31
       clear c31
       simp only [Option.some.injEq, Prod.mk.injEq] at H
       obtain ⟨rfl, rfl, rfl, rfl⟩ := H
       go_enter Try.func13, Try.ntmps13
       try go_wp2_with (first | ((with_reducible refine gate_dst (N := 3) rfl ?_); refine box_event ?hg (N := 3) ?hd (cs := #[.int .i64 a1_0, .string a1_1, .int .i64 a1_2, .int .i64 a1_3]) (t := 31) ?hr ?_; (case hd => rfl); (case hg => rfl); (case hr => first | (go_simp; done) | (go_simp; rfl)); intro gb416 hg w32 hbox hb; have n0_ := Aside0.mk (Kd.R_below (by (with_reducible repeat (first | apply Kd.R_alloc | apply Kd.R_drewN | apply Kd.R_drew)); exact HO0.out) hb); have n1_ := Aside0.mk (Kept.below (S := (fun k_ => P0_ k_)) (by repeat (first | (with_reducible first | exact HK.out | apply Kept.alloc | apply Kept.drewN | apply Kept.drew) | exact HK.out)) hb); have n2_ := Aside0.mk (below_step (by repeat (first | (with_reducible first | exact HB.out | apply below_alloc | apply pw_below_drewN | apply below_drew1) | exact HB.out)) hb); have n3_ := Aside0.mk (hbox); have n4_ := Aside0.mk ((by rw [hg]; exact (by first | exact HK.out.1 | exact (show Kept w _ (fun k_ => P0_ k_) from by repeat (first | (with_reducible first | exact HK.out | apply Kept.alloc | apply Kept.drewN | apply Kept.drew) | exact HK.out)).1) : w.heap.size ≤ gb416)); have n5_ := Aside0.mk ((by rw [hg]; exact (below_size (by repeat (first | (with_reducible first | exact HB.out | apply below_alloc | apply pw_below_drewN | apply below_drew1) | exact HB.out))) : w0.heap.size ≤ gb416)); clear HO0; clear HK; clear HB; have HO0 := n0_; have HK := n1_; have HB := n2_; have BK416 := n3_; have GW416 := n4_; have GE416 := n5_; clear n0_ n1_ n2_ n3_ n4_ n5_; clear hb hbox hg) | ((with_reducible refine gate_dst (N := 5) rfl ?_); refine box_event ?hg (N := 5) ?hd (cs := #[.int .i64 0, .int .i64 0]) (t := 29) ?hr ?_; (case hd => rfl); (case hg => rfl); (case hr => first | (go_simp; done) | (go_simp; rfl)); intro gb417 hg w33 hbox hb; have n0_ := Aside0.mk (Kd.R_below (by (with_reducible repeat (first | apply Kd.R_alloc | apply Kd.R_drewN | apply Kd.R_drew)); exact HO0.out) hb); have n1_ := Aside0.mk (blk_below (g := gb416) (o := .cells #[.int .i64 a1_0, .string a1_1, .int .i64 a1_2, .int .i64 a1_3] 31 (0, 0)) (by (with_reducible repeat (first | refine blk_drewN ?_ _ | refine blk_drew ?_ | refine blk_alloc ?_ _)); exact BK416.out) hb); have n2_ := Aside0.mk (Kept.below (S := (fun k_ => P0_ k_)) (by repeat (first | (with_reducible first | exact HK.out | apply Kept.alloc | apply Kept.drewN | apply Kept.drew | refine Kept.setCell ?_ (.inr GW416.out) _) | exact HK.out)) hb); have n3_ := Aside0.mk (below_step (by repeat (first | (with_reducible first | exact HB.out | apply below_alloc | apply pw_below_drewN | apply below_drew1 | refine below_set ?_ GE416.out) | exact HB.out)) hb); have n4_ := Aside0.mk (hbox); have n5_ := Aside0.mk ((by rw [hg]; exact (by first | exact HK.out.1 | exact (show Kept w _ (fun k_ => P0_ k_) from by repeat (first | (with_reducible first | exact HK.out | apply Kept.alloc | apply Kept.drewN | apply Kept.drew | refine Kept.setCell ?_ (.inr GW416.out) _) | exact HK.out)).1) : w.heap.size ≤ gb417)); have n6_ := Aside0.mk ((by rw [hg]; exact (below_size (by repeat (first | (with_reducible first | exact HB.out | apply below_alloc | apply pw_below_drewN | apply below_drew1 | refine below_set ?_ GE416.out) | exact HB.out))) : w0.heap.size ≤ gb417)); have n7_ := Aside0.mk ((by rw [hg]; exact Nat.ne_of_lt (blk_lt (g := gb416) (o := .cells #[.int .i64 a1_0, .string a1_1, .int .i64 a1_2, .int .i64 a1_3] 31 (0, 0)) (by (with_reducible repeat (first | refine blk_drewN ?_ _ | refine blk_drew ?_ | refine blk_alloc ?_ _)); exact BK416.out)) : gb416 ≠ gb417)); have n8_ := Aside0.mk ((by rw [hg]; exact Nat.ne_of_gt (blk_lt (g := gb416) (o := .cells #[.int .i64 a1_0, .string a1_1, .int .i64 a1_2, .int .i64 a1_3] 31 (0, 0)) (by (with_reducible repeat (first | refine blk_drewN ?_ _ | refine blk_drew ?_ | refine blk_alloc ?_ _)); exact BK416.out)) : gb417 ≠ gb416)); clear HO0; clear BK416; clear HK; clear HB; have HO0 := n0_; have BK416 := n1_; have HK := n2_; have HB := n3_; have BK417 := n4_; have GW417 := n5_; have GE417 := n6_; have NB416_417 := n7_; have NB417_416 := n8_; clear n0_ n1_ n2_ n3_ n4_ n5_ n6_ n7_ n8_; clear hb hbox hg; have hnb34 := NB416_417.out; have hnc34 := NB417_416.out; have hcz35_0 : w33.cell? ⟨gb416, 0, none⟩ = some (.int .i64 a1_0) := (blk_cell BK416.out 0).trans rfl; have hcz35_1 : w33.cell? ⟨gb416, 1, none⟩ = some (.string a1_1) := (blk_cell BK416.out 1).trans rfl; have hcz35_2 : w33.cell? ⟨gb416, 2, none⟩ = some (.int .i64 a1_2) := (blk_cell BK416.out 2).trans rfl; have hcz35_3 : w33.cell? ⟨gb416, 3, none⟩ = some (.int .i64 a1_3) := (blk_cell BK416.out 3).trans rfl; have hfz35_0 := blk_frozen BK416.out 0; have hfz35_1 := blk_frozen BK416.out 1; have hfz35_2 := blk_frozen BK416.out 2; have hfz35_3 := blk_frozen BK416.out 3; obtain ⟨Ao36, co36, eo36⟩ := Kd.R_slice HO0.out; subst eo36) | ((with_reducible refine gate_callee (f := 29) rfl ?_); refine goesL_ (some 45) rfl rfl Try.func29 (by kernel_rfl) rfl #[.slice Ao36 l0.length co36, .string a1_1] rfl (by (try simp only [List.map_toArray, List.map_cons, List.map_nil]); first | done | rfl | (simp only [List.length_drop, List.length_take]; rfl)) ?_; (with_reducible refine (ecdysisref13_Find.calls k _ _ l0 a1_1 t426 _ ?side1 ?side2 A22.out).mono ?_); (case side1 => repeat (first | exact (Kd.R_reads' HO0.out).2.2 | (with_reducible refine Kd.C_alloc ?_ _) | (with_reducible refine Kd.C_drewN ?_ _) | (with_reducible refine Kd.C_drew ?_))); (case side2 => exact (Kd.R_reads' HO0.out).2.1); rintro e w' ⟨rfl, ⟨nd, rfl⟩⟩; refine ⟨_, rfl, ?_⟩; (try (rw [drewN_self w33]; generalize hq_ : World.drewN w33 _ = w33; have n0_ : Aside0 (Kd.R k66 66 w33 w0.heap.size (fun k_ => (P0_ k_ ∨ w.heap.size ≤ k_)) (.slice Ao36 l0.length co36) l0) := ⟨by rw [← hq_]; exact (by (with_reducible repeat (first | apply Kd.R_alloc | apply Kd.R_drewN | apply Kd.R_drew)); exact HO0.out)⟩; have n1_ : Aside0 (w33.heap[gb416]? = some (.cells #[.int .i64 a1_0, .string a1_1, .int .i64 a1_2, .int .i64 a1_3] 31 (0, 0))) := ⟨by rw [← hq_]; exact (by (with_reducible repeat (first | refine blk_drewN ?_ _ | refine blk_drew ?_ | refine blk_alloc ?_ _)); exact BK416.out)⟩; have n2_ : Aside0 (w33.heap[gb417]? = some (.cells #[.int .i64 0, .int .i64 0] 29 (0, 0))) := ⟨by rw [← hq_]; exact (by (with_reducible repeat (first | refine blk_drewN ?_ _ | refine blk_drew ?_ | refine blk_alloc ?_ _)); exact BK417.out)⟩; have n3_ : Aside0 (Kept w w33 (fun k_ => P0_ k_)) := ⟨by rw [← hq_]; exact (by repeat (first | (with_reducible first | exact HK.out | apply Kept.alloc | apply Kept.drewN | apply Kept.drew | refine Kept.setCell ?_ (.inr GW416.out) _ | refine Kept.setCell ?_ (.inr GW417.out) _) | exact HK.out))⟩; have n4_ : Aside0 (Below w0.heap.size w0 w33) := ⟨by rw [← hq_]; exact (by repeat (first | (with_reducible first | exact HB.out | apply below_alloc | apply pw_below_drewN | apply below_drew1 | refine below_set ?_ GE416.out | refine below_set ?_ GE417.out) | exact HB.out))⟩; clear HO0 BK416 BK417 HK HB hq_; have HO0 := n0_; have BK416 := n1_; have BK417 := n2_; have HK := n3_; have HB := n4_; clear n0_ n1_ n2_ n3_ n4_))))
       have n0_ := Aside0.mk (Kd.R_drew HO0.out)
       have n1_ := Aside0.mk (blk_drew BK416.out)
       have n2_ := Aside0.mk (blk_drew BK417.out)
       have n3_ := Aside0.mk (Kept.drew HK.out)
       have n4_ := Aside0.mk (below_drew1 HB.out)
       clear HO0
       clear BK416
       clear BK417
       clear HK
       clear HB
       have HO0 := n0_
       have BK416 := n1_
       have BK417 := n2_
       have HK := n3_
       have HB := n4_
       clear n0_ n1_ n2_ n3_ n4_
       have p427 : 0 ≤ (t426 : Int) := of_decide_eq_true (by first | (with_reducible assumption) | assumption)
       have q427 : t426 < (l0.length : Int) := of_decide_eq_true (by first | (with_reducible assumption) | assumption)
       obtain ⟨ad427, e427, hx427_0, hx427_1, hx427_2⟩ := at_T66 (Kd.R_reads' HO0.out).2.2 t426 p427 q427
       cases e427
       replace p427 := eq_true p427
       replace q427 := eq_true q427
       refine start_ (n := 9) (S := fun w' => w'.cell? (ad427.add ((t426).toNat * 3)) = some (.string ((rd_T66 l0 t426).f0)) ∧ w'.cell? ⟨(ad427.add ((t426).toNat * 3)).block, (ad427.add ((t426).toNat * 3)).off + 1, none⟩ = some (.int .i64 ((rd_T66 l0 t426).f1.f0)) ∧ w'.cell? ⟨(ad427.add ((t426).toNat * 3)).block, (ad427.add ((t426).toNat * 3)).off + 2, none⟩ = some (.int .i64 ((rd_T66 l0 t426).f1.f1))) (ds := []) #[false, false, false, false, false, false, false, false, false] (by kernel_rfl) rfl rfl ⟨hx427_0, hx427_1, hx427_2⟩ (fun hHeld => ?_); refine with_tabW ecdysisref13_Do.tab12 ecdysisref13_Do.bits12 (fun HT_ HW_ => ?_)
       generalize w33.drew = w37 at HO0 BK416 BK417 HK HB hx427_0 hx427_1 hx427_2 hHeld ⊢
       refine pure_ (i := 0) (N := some 50) (v := ?_) (a' := ?_) #[true, false, false, false, false, false, false, false, false] rfl rfl (any_of HT_.out (by kernel_rfl)) (fun _ _ _ h => h) (Or.inl ⟨by rfl, ?_⟩) ?_ ?_
       rotate_left
       ·intro w'
        go_simp
        with_reducible rfl
       rotate_left
       ·simp only [Act.put, List.setIfInBounds_toArray, List.set_cons_zero, List.set_cons_succ, i64_w, i32_w]
        rfl
       refine pure_ (i := 1) (N := some 51) (v := ?_) (a' := ?_) #[true, true, false, false, false, false, false, false, false] rfl rfl (any_of HT_.out (by kernel_rfl)) (fun _ _ _ h => h) (Or.inl ⟨by rfl, ?_⟩) ?_ ?_
       rotate_left
       ·intro w'
        go_simp
        with_reducible rfl
       rotate_left
       ·simp only [Act.put, List.setIfInBounds_toArray, List.set_cons_zero, List.set_cons_succ, i64_w, i32_w]
        rfl
       refine pure_ (i := 2) (N := some 52) (v := ?_) (a' := ?_) #[true, true, true, false, false, false, false, false, false] rfl rfl (any_of HT_.out (by kernel_rfl)) (fun _ _ _ h => h) (Or.inl ⟨by rfl, ?_⟩) ?_ ?_
       rotate_left
       ·intro w'
        go_simp
        with_reducible rfl
       rotate_left
       ·simp only [Act.put, List.setIfInBounds_toArray, List.set_cons_zero, List.set_cons_succ, i64_w, i32_w]
        rfl
       refine pure_ (i := 3) (N := some 53) (v := ?_) (a' := ?_) #[true, true, true, true, false, false, false, false, false] rfl rfl (any_of HT_.out (by kernel_rfl)) (fun _ _ _ h => h) (Or.inl ⟨by rfl, ?_⟩) ?_ ?_
       rotate_left
       ·intro w'
        go_simp
        with_reducible rfl
       rotate_left
       ·simp only [Act.put, List.setIfInBounds_toArray, List.set_cons_zero, List.set_cons_succ, i64_w, i32_w]
        rfl
       refine pure_ (i := 4) (N := some 54) (v := ?_) (a' := ?_) #[true, true, true, true, true, false, false, false, false] rfl rfl (any_of HT_.out (by kernel_rfl)) (fun _ _ _ h => h) (Or.inl ⟨by rfl, ?_⟩) ?_ ?_
       rotate_left
       ·intro w'
        go_simp
        with_reducible rfl
       rotate_left
       ·simp only [Act.put, List.setIfInBounds_toArray, List.set_cons_zero, List.set_cons_succ, i64_w, i32_w]
        rfl
       refine pure_ (i := 6) (N := some 4) (v := ?_) (a' := ?_) #[true, true, true, true, true, false, true, false, false] rfl rfl (any_of HT_.out (by kernel_rfl)) (fun _ _ _ h => h) (Or.inl ⟨by rfl, ?_⟩) ?_ ?_
       rotate_left
       ·intro w'
        go_simp
        with_reducible rfl
       rotate_left
       ·simp only [Act.put, List.setIfInBounds_toArray, List.set_cons_zero, List.set_cons_succ, i64_w, i32_w]
        rfl
       refine take_ (i := 5) (N := some 55) (v := ?_) (a' := ?_) #[true, true, true, true, true, true, true, false, false] rfl rfl (take_ofW HT_.out HW_.out (by kernel_rfl)) (fun _ _ _ h => h) (Or.inl ⟨by rfl, ?_⟩) hHeld ?_ ?_
       rotate_left
       ·rintro w' ⟨s0, s1, s2⟩
        go_simp
        with_reducible rfl
       rotate_left
       ·simp only [Act.put, List.setIfInBounds_toArray, List.set_cons_zero, List.set_cons_succ, i64_w, i32_w]
        rfl
       refine one_ (i := 7) (N := none) #[true, true, true, true, true, true, true, true, false] rfl rfl (one_of HT_.out (by kernel_rfl)) (by decide) (fun K hK => ?_)
       have hs38 : w37.cell? ⟨gb417, 0, none⟩ = some (.int .i64 0) := (blk_cell BK417.out 0).trans rfl
       have hfs38 := blk_frozen BK417.out 0
       have hns38_0 := NB416_417.out
       have hms38_0 := NB417_416.out
       have hs39 : w37.cell? ⟨gb417, 1, none⟩ = some (.int .i64 0) := (blk_cell BK417.out 1).trans rfl
       have hfs39 := blk_frozen BK417.out 1
       have hns39_0 := NB416_417.out
       have hms39_0 := NB417_416.out
       refine skip_ (w1 := ?_) (by rfl) rfl ?_ ?_
       rotate_left
       ·go_simp
        rfl
       refine hK.out _ _ ⟨((cell_far (p := ⟨gb417, _, none⟩) (by first | exact Kd.own_blk (Kd.R_ne HO0.out BK417.out (by decide)) | (rw [add_block]; exact Kd.own_blk (Kd.R_ne HO0.out BK417.out (by decide))) | (show (Addr.add _ _).block ≠ _; rw [add_block]; exact Kd.own_blk (Kd.R_ne HO0.out BK417.out (by decide))) | (dsimp only; exact Kd.own_blk (Kd.R_ne HO0.out BK417.out (by decide)))) _).trans (((cell_far (p := ⟨gb417, _, none⟩) (by first | exact Kd.own_blk (Kd.R_ne HO0.out BK417.out (by decide)) | (rw [add_block]; exact Kd.own_blk (Kd.R_ne HO0.out BK417.out (by decide))) | (show (Addr.add _ _).block ≠ _; rw [add_block]; exact Kd.own_blk (Kd.R_ne HO0.out BK417.out (by decide))) | (dsimp only; exact Kd.own_blk (Kd.R_ne HO0.out BK417.out (by decide)))) _).trans (hHeld.1)))), ((cell_far (p := ⟨gb417, _, none⟩) (by first | exact Kd.own_blk (Kd.R_ne HO0.out BK417.out (by decide)) | (rw [add_block]; exact Kd.own_blk (Kd.R_ne HO0.out BK417.out (by decide))) | (show (Addr.add _ _).block ≠ _; rw [add_block]; exact Kd.own_blk (Kd.R_ne HO0.out BK417.out (by decide))) | (dsimp only; exact Kd.own_blk (Kd.R_ne HO0.out BK417.out (by decide)))) _).trans (((cell_far (p := ⟨gb417, _, none⟩) (by first | exact Kd.own_blk (Kd.R_ne HO0.out BK417.out (by decide)) | (rw [add_block]; exact Kd.own_blk (Kd.R_ne HO0.out BK417.out (by decide))) | (show (Addr.add _ _).block ≠ _; rw [add_block]; exact Kd.own_blk (Kd.R_ne HO0.out BK417.out (by decide))) | (dsimp only; exact Kd.own_blk (Kd.R_ne HO0.out BK417.out (by decide)))) _).trans (hHeld.2.1)))), ((cell_far (p := ⟨gb417, _, none⟩) (by first | exact Kd.own_blk (Kd.R_ne HO0.out BK417.out (by decide)) | (rw [add_block]; exact Kd.own_blk (Kd.R_ne HO0.out BK417.out (by decide))) | (show (Addr.add _ _).block ≠ _; rw [add_block]; exact Kd.own_blk (Kd.R_ne HO0.out BK417.out (by decide))) | (dsimp only; exact Kd.own_blk (Kd.R_ne HO0.out BK417.out (by decide)))) _).trans (((cell_far (p := ⟨gb417, _, none⟩) (by first | exact Kd.own_blk (Kd.R_ne HO0.out BK417.out (by decide)) | (rw [add_block]; exact Kd.own_blk (Kd.R_ne HO0.out BK417.out (by decide))) | (show (Addr.add _ _).block ≠ _; rw [add_block]; exact Kd.own_blk (Kd.R_ne HO0.out BK417.out (by decide))) | (dsimp only; exact Kd.own_blk (Kd.R_ne HO0.out BK417.out (by decide)))) _).trans (hHeld.2.2))))⟩ (fun hHeld => ?_)
       clear hK K
       refine pure_ (i := 8) (N := some 6) (v := ?_) (a' := ?_) #[true, true, true, true, true, true, true, true, true] rfl rfl (any_of HT_.out (by kernel_rfl)) (fun _ _ _ h => h) (Or.inl ⟨by rfl, ?_⟩) ?_ ?_
       rotate_left
       ·intro w'
        go_simp
        with_reducible rfl
       rotate_left
       ·simp only [Act.put, List.setIfInBounds_toArray, List.set_cons_zero, List.set_cons_succ, i64_w, i32_w]
        rfl
       refine done_ (done_of HT_.out (by kernel_rfl)) ?_
       try go_wp2
       refine bodyPost_ret (results_list (rs := [.tmp 4, .cell 5 29, .tmp 6]) rfl (by simp) (.tmp (.cell gb417 29 #[.int .i64 ((rd_T66 l0 t426).f1.f0), .int .i64 ((rd_T66 l0 t426).f1.f1)] (0, 0) _ rfl (by (with_reducible repeat (first | refine blk_drewN ?_ _ | refine blk_drew ?_ | refine blk_alloc ?_ _)); refine blk_put (cs := #[.int .i64 ((rd_T66 l0 t426).f1.f0), .int .i64 0]) ?_ 1 _ rfl; (with_reducible repeat (first | refine blk_drewN ?_ _ | refine blk_drew ?_ | refine blk_alloc ?_ _)); refine blk_put (cs := #[.int .i64 0, .int .i64 0]) ?_ 0 _ rfl; (with_reducible repeat (first | refine blk_drewN ?_ _ | refine blk_drew ?_ | refine blk_alloc ?_ _)); exact BK417.out) Try.underlying29 rfl (by kernel_rfl) (.tmp .nil)))) rfl ?_
       exact ⟨_, by first | rfl | (simp [errW_none, errW_some] <;> rfl) | (simp [*, errW_none, errW_some] <;> rfl), by (with_reducible repeat (first | apply Kd.R_alloc | apply Kd.R_drewN | apply Kd.R_drew)); exact Kd.R_mono (Kd.R_far (p := ⟨gb417, 1, none⟩) (Kd.R_far (p := ⟨gb417, 0, none⟩) (Kd.R_types HO0.out BK417.out (by decide)) (fun _ hk => hk.2) (.int .i64 ((rd_T66 l0 t426).f1.f0))) (fun _ hk => hk.2) (.int .i64 ((rd_T66 l0 t426).f1.f1))) (fun _ hk => hk.1), by repeat (first | (with_reducible first | exact HB.out | apply below_alloc | apply pw_below_drewN | apply below_drew1 | refine below_set ?_ GE416.out | refine below_set ?_ GE417.out) | exact HB.out), by repeat (first | (with_reducible first | exact HK.out | apply Kept.alloc | apply Kept.drewN | apply Kept.drew | refine Kept.setCell ?_ (.inr GW416.out) _ | refine Kept.setCell ?_ (.inr GW417.out) _) | exact HK.out)⟩
      ·rw [if_neg c31] at H
       exact absurd H (by simp)
     ·rw [if_neg c30] at H
      exact absurd H (by simp)
   ·rw [if_neg c21] at H
    have c21b0 : (a1_0 == 2) = false := beq_eq_false_iff_ne.mpr c21
    have c21b1 : (a1_0 != 2) = true := bne_iff_ne.mpr c21
    simp only [Option.some.injEq, Prod.mk.injEq] at H
    obtain ⟨rfl, rfl, rfl, rfl⟩ := H
    go_enter Try.func13, Try.ntmps13
    go_wp2_with (first | ((with_reducible refine gate_dst (N := 3) rfl ?_); refine box_event ?hg (N := 3) ?hd (cs := #[.int .i64 a1_0, .string a1_1, .int .i64 a1_2, .int .i64 a1_3]) (t := 31) ?hr ?_; (case hd => rfl); (case hg => rfl); (case hr => first | (go_simp; done) | (go_simp; rfl)); intro gb416 hg w40 hbox hb; have n0_ := Aside0.mk (Kd.R_below (by (with_reducible repeat (first | apply Kd.R_alloc | apply Kd.R_drewN | apply Kd.R_drew)); exact HO0.out) hb); have n1_ := Aside0.mk (Kept.below (S := (fun k_ => P0_ k_)) (by repeat (first | (with_reducible first | exact HK.out | apply Kept.alloc | apply Kept.drewN | apply Kept.drew) | exact HK.out)) hb); have n2_ := Aside0.mk (below_step (by repeat (first | (with_reducible first | exact HB.out | apply below_alloc | apply pw_below_drewN | apply below_drew1) | exact HB.out)) hb); have n3_ := Aside0.mk (hbox); have n4_ := Aside0.mk ((by rw [hg]; exact (by first | exact HK.out.1 | exact (show Kept w _ (fun k_ => P0_ k_) from by repeat (first | (with_reducible first | exact HK.out | apply Kept.alloc | apply Kept.drewN | apply Kept.drew) | exact HK.out)).1) : w.heap.size ≤ gb416)); have n5_ := Aside0.mk ((by rw [hg]; exact (below_size (by repeat (first | (with_reducible first | exact HB.out | apply below_alloc | apply pw_below_drewN | apply below_drew1) | exact HB.out))) : w0.heap.size ≤ gb416)); clear HO0; clear HK; clear HB; have HO0 := n0_; have HK := n1_; have HB := n2_; have BK416 := n3_; have GW416 := n4_; have GE416 := n5_; clear n0_ n1_ n2_ n3_ n4_ n5_; clear hb hbox hg) | ((with_reducible refine gate_dst (N := 5) rfl ?_); refine box_event ?hg (N := 5) ?hd (cs := #[.int .i64 0, .int .i64 0]) (t := 29) ?hr ?_; (case hd => rfl); (case hg => rfl); (case hr => first | (go_simp; done) | (go_simp; rfl)); intro gb417 hg w41 hbox hb; have n0_ := Aside0.mk (Kd.R_below (by (with_reducible repeat (first | apply Kd.R_alloc | apply Kd.R_drewN | apply Kd.R_drew)); exact HO0.out) hb); have n1_ := Aside0.mk (blk_below (g := gb416) (o := .cells #[.int .i64 a1_0, .string a1_1, .int .i64 a1_2, .int .i64 a1_3] 31 (0, 0)) (by (with_reducible repeat (first | refine blk_drewN ?_ _ | refine blk_drew ?_ | refine blk_alloc ?_ _)); exact BK416.out) hb); have n2_ := Aside0.mk (Kept.below (S := (fun k_ => P0_ k_)) (by repeat (first | (with_reducible first | exact HK.out | apply Kept.alloc | apply Kept.drewN | apply Kept.drew | refine Kept.setCell ?_ (.inr GW416.out) _) | exact HK.out)) hb); have n3_ := Aside0.mk (below_step (by repeat (first | (with_reducible first | exact HB.out | apply below_alloc | apply pw_below_drewN | apply below_drew1 | refine below_set ?_ GE416.out) | exact HB.out)) hb); have n4_ := Aside0.mk (hbox); have n5_ := Aside0.mk ((by rw [hg]; exact (by first | exact HK.out.1 | exact (show Kept w _ (fun k_ => P0_ k_) from by repeat (first | (with_reducible first | exact HK.out | apply Kept.alloc | apply Kept.drewN | apply Kept.drew | refine Kept.setCell ?_ (.inr GW416.out) _) | exact HK.out)).1) : w.heap.size ≤ gb417)); have n6_ := Aside0.mk ((by rw [hg]; exact (below_size (by repeat (first | (with_reducible first | exact HB.out | apply below_alloc | apply pw_below_drewN | apply below_drew1 | refine below_set ?_ GE416.out) | exact HB.out))) : w0.heap.size ≤ gb417)); have n7_ := Aside0.mk ((by rw [hg]; exact Nat.ne_of_lt (blk_lt (g := gb416) (o := .cells #[.int .i64 a1_0, .string a1_1, .int .i64 a1_2, .int .i64 a1_3] 31 (0, 0)) (by (with_reducible repeat (first | refine blk_drewN ?_ _ | refine blk_drew ?_ | refine blk_alloc ?_ _)); exact BK416.out)) : gb416 ≠ gb417)); have n8_ := Aside0.mk ((by rw [hg]; exact Nat.ne_of_gt (blk_lt (g := gb416) (o := .cells #[.int .i64 a1_0, .string a1_1, .int .i64 a1_2, .int .i64 a1_3] 31 (0, 0)) (by (with_reducible repeat (first | refine blk_drewN ?_ _ | refine blk_drew ?_ | refine blk_alloc ?_ _)); exact BK416.out)) : gb417 ≠ gb416)); clear HO0; clear BK416; clear HK; clear HB; have HO0 := n0_; have BK416 := n1_; have HK := n2_; have HB := n3_; have BK417 := n4_; have GW417 := n5_; have GE417 := n6_; have NB416_417 := n7_; have NB417_416 := n8_; clear n0_ n1_ n2_ n3_ n4_ n5_ n6_ n7_ n8_; clear hb hbox hg; have hnb42 := NB416_417.out; have hnc42 := NB417_416.out; have hcz43_0 : w41.cell? ⟨gb416, 0, none⟩ = some (.int .i64 a1_0) := (blk_cell BK416.out 0).trans rfl; have hcz43_1 : w41.cell? ⟨gb416, 1, none⟩ = some (.string a1_1) := (blk_cell BK416.out 1).trans rfl; have hcz43_2 : w41.cell? ⟨gb416, 2, none⟩ = some (.int .i64 a1_2) := (blk_cell BK416.out 2).trans rfl; have hcz43_3 : w41.cell? ⟨gb416, 3, none⟩ = some (.int .i64 a1_3) := (blk_cell BK416.out 3).trans rfl; have hfz43_0 := blk_frozen BK416.out 0; have hfz43_1 := blk_frozen BK416.out 1; have hfz43_2 := blk_frozen BK416.out 2; have hfz43_3 := blk_frozen BK416.out 3; have hcz44_0 : w41.cell? ⟨gb417, 0, none⟩ = some (.int .i64 0) := (blk_cell BK417.out 0).trans rfl; have hcz44_1 : w41.cell? ⟨gb417, 1, none⟩ = some (.int .i64 0) := (blk_cell BK417.out 1).trans rfl; have hfz44_0 := blk_frozen BK417.out 0; have hfz44_1 := blk_frozen BK417.out 1))
    refine bodyPost_ret (results_list (rs := [.tmp 4, .cell 5 29, .tmp 6]) rfl (by simp) (.tmp (.cell gb417 29 #[.int .i64 0, .int .i64 0] (0, 0) _ rfl (by (with_reducible repeat (first | refine blk_drewN ?_ _ | refine blk_drew ?_ | refine blk_alloc ?_ _)); refine blk_put (cs := #[.int .i64 0, .int .i64 0]) ?_ 1 _ rfl; (with_reducible repeat (first | refine blk_drewN ?_ _ | refine blk_drew ?_ | refine blk_alloc ?_ _)); refine blk_put (cs := #[.int .i64 0, .int .i64 0]) ?_ 0 _ rfl; (with_reducible repeat (first | refine blk_drewN ?_ _ | refine blk_drew ?_ | refine blk_alloc ?_ _)); exact BK417.out) Try.underlying29 rfl (by kernel_rfl) (.tmp .nil)))) rfl ?_
    exact ⟨_, by first | rfl | (simp [errW_none, errW_some] <;> rfl) | (simp [*, errW_none, errW_some] <;> rfl), by (with_reducible repeat (first | apply Kd.R_alloc | apply Kd.R_drewN | apply Kd.R_drew)); exact Kd.R_mono (Kd.R_far (p := ⟨gb417, 1, none⟩) (Kd.R_far (p := ⟨gb417, 0, none⟩) (Kd.R_types HO0.out BK417.out (by decide)) (fun _ hk => hk.2) (.int .i64 0)) (fun _ hk => hk.2) (.int .i64 0)) (fun _ hk => hk.1), by repeat (first | (with_reducible first | exact HB.out | apply below_alloc | apply pw_below_drewN | apply below_drew1 | refine below_set ?_ GE416.out | refine below_set ?_ GE417.out) | exact HB.out), by repeat (first | (with_reducible first | exact HK.out | apply Kept.alloc | apply Kept.drewN | apply Kept.drew | refine Kept.setCell ?_ (.inr GW416.out) _ | refine Kept.setCell ?_ (.inr GW417.out) _) | exact HK.out)⟩




/-! ### ecdysisref11_Unpack: function 43 -/
def ecdysisref11_Unpack.f (a0 : Int) : Option (Int × Int) := if a0 = 0 then (some (0, 0)) else ((ecdysisref11_Pack.f (wrap64 (Int.tmod (IntKind.u64.wrap (Int.tdiv a0 65536)) 65536)) (wrap64 (Int.tmod a0 65536))).bind fun t430 => (if t430 = a0 then (some (wrap64 (Int.tmod (IntKind.u64.wrap (Int.tdiv a0 65536)) 65536), wrap64 (Int.tmod a0 65536))) else (some (0, 0))))
set_option maxHeartbeats 8000000 in
set_option maxRecDepth 100000 in
theorem ecdysisref11_Unpack.calls (a0 : Int) (r1 : Int) (r2 : Int) (w : World) (h : ecdysisref11_Unpack.f a0 = some (r1, r2)) :
  Calls Try.prog 43 #[.int .u64 a0] w fun e w' => e = .returned (.agg #[.int .i64 r1, .int .i64 r2]) ∧ Below w.heap.size w w' := by
 have hu29 := Try.underlying29
 have HB := Aside0.mk (Below.refl w.heap.size w)
 have H : (if a0 = 0 then (some (0, 0)) else ((ecdysisref11_Pack.f (wrap64 (Int.tmod (IntKind.u64.wrap (Int.tdiv a0 65536)) 65536)) (wrap64 (Int.tmod a0 65536))).bind fun t430 => (if t430 = a0 then (some (wrap64 (Int.tmod (IntKind.u64.wrap (Int.tdiv a0 65536)) 65536), wrap64 (Int.tmod a0 65536))) else (some (0, 0))))) = some (r1, r2) := h
 clear h
 by_cases c2 : a0 = 0
 ·rw [if_pos c2] at H
  have c2b0 : (a0 == 0) = true := beq_iff_eq.mpr c2
  have c2b1 : (a0 != 0) = false := bne_eq_false_iff_eq.mpr c2
  clear c2
  simp only [Option.some.injEq, Prod.mk.injEq] at H
  obtain ⟨rfl, rfl⟩ := H
  go_enter Try.func43, Try.ntmps43
  go_wp2_with (first | ((with_reducible refine gate_dst (N := 2) rfl ?_); refine box_event ?hg (N := 2) ?hd (cs := #[.int .i64 0, .int .i64 0]) (t := 29) ?hr ?_; (case hd => rfl); (case hg => rfl); (case hr => first | (go_simp; done) | (go_simp; rfl)); intro gb428 hg w3 hbox hb; have n0_ := Aside0.mk (below_step (by repeat (first | (with_reducible first | exact HB.out | apply below_alloc | apply pw_below_drewN | apply below_drew1) | exact HB.out)) hb); have n1_ := Aside0.mk (hbox); have n2_ := Aside0.mk ((by rw [hg]; exact (below_size (by repeat (first | (with_reducible first | exact HB.out | apply below_alloc | apply pw_below_drewN | apply below_drew1) | exact HB.out))) : w.heap.size ≤ gb428)); have n3_ := Aside0.mk ((by rw [hg]; exact (below_size (by repeat (first | (with_reducible first | exact HB.out | apply below_alloc | apply pw_below_drewN | apply below_drew1) | exact HB.out))) : w.heap.size ≤ gb428)); clear HB; have HB := n0_; have BK428 := n1_; have GW428 := n2_; have GE428 := n3_; clear n0_ n1_ n2_ n3_; clear hb hbox hg) | ((with_reducible refine gate_dst (N := 3) rfl ?_); refine box_event ?hg (N := 3) ?hd (cs := #[.int .i64 0, .int .i64 0]) (t := 29) ?hr ?_; (case hd => rfl); (case hg => rfl); (case hr => first | (go_simp; done) | (go_simp; rfl)); intro gb429 hg w4 hbox hb; have n0_ := Aside0.mk (blk_below (g := gb428) (o := .cells #[.int .i64 0, .int .i64 0] 29 (0, 0)) (by (with_reducible repeat (first | refine blk_drewN ?_ _ | refine blk_drew ?_ | refine blk_alloc ?_ _)); exact BK428.out) hb); have n1_ := Aside0.mk (below_step (by repeat (first | (with_reducible first | exact HB.out | apply below_alloc | apply pw_below_drewN | apply below_drew1 | refine below_set ?_ GE428.out) | exact HB.out)) hb); have n2_ := Aside0.mk (hbox); have n3_ := Aside0.mk ((by rw [hg]; exact (below_size (by repeat (first | (with_reducible first | exact HB.out | apply below_alloc | apply pw_below_drewN | apply below_drew1 | refine below_set ?_ GE428.out) | exact HB.out))) : w.heap.size ≤ gb429)); have n4_ := Aside0.mk ((by rw [hg]; exact (below_size (by repeat (first | (with_reducible first | exact HB.out | apply below_alloc | apply pw_below_drewN | apply below_drew1 | refine below_set ?_ GE428.out) | exact HB.out))) : w.heap.size ≤ gb429)); have n5_ := Aside0.mk ((by rw [hg]; exact Nat.ne_of_lt (blk_lt (g := gb428) (o := .cells #[.int .i64 0, .int .i64 0] 29 (0, 0)) (by (with_reducible repeat (first | refine blk_drewN ?_ _ | refine blk_drew ?_ | refine blk_alloc ?_ _)); exact BK428.out)) : gb428 ≠ gb429)); have n6_ := Aside0.mk ((by rw [hg]; exact Nat.ne_of_gt (blk_lt (g := gb428) (o := .cells #[.int .i64 0, .int .i64 0] 29 (0, 0)) (by (with_reducible repeat (first | refine blk_drewN ?_ _ | refine blk_drew ?_ | refine blk_alloc ?_ _)); exact BK428.out)) : gb429 ≠ gb428)); clear BK428; clear HB; have BK428 := n0_; have HB := n1_; have BK429 := n2_; have GW429 := n3_; have GE429 := n4_; have NB428_429 := n5_; have NB429_428 := n6_; clear n0_ n1_ n2_ n3_ n4_ n5_ n6_; clear hb hbox hg; have hnb5 := NB429_428.out; have hnc5 := NB428_429.out; have hcz6_0 : w4.cell? ⟨gb429, 0, none⟩ = some (.int .i64 0) := (blk_cell BK429.out 0).trans rfl; have hcz6_1 : w4.cell? ⟨gb429, 1, none⟩ = some (.int .i64 0) := (blk_cell BK429.out 1).trans rfl; have hfz6_0 := blk_frozen BK429.out 0; have hfz6_1 := blk_frozen BK429.out 1; have hcz7_0 : w4.cell? ⟨gb428, 0, none⟩ = some (.int .i64 0) := (blk_cell BK428.out 0).trans rfl; have hcz7_1 : w4.cell? ⟨gb428, 1, none⟩ = some (.int .i64 0) := (blk_cell BK428.out 1).trans rfl; have hfz7_0 := blk_frozen BK428.out 0; have hfz7_1 := blk_frozen BK428.out 1))
  refine bodyPost_ret (results_cell_row rfl _ _ gb428 29 #[.int .i64 0, .int .i64 0] (0, 0) _ rfl (by (with_reducible repeat (first | refine blk_drewN ?_ _ | refine blk_drew ?_ | refine blk_alloc ?_ _)); refine blk_put (cs := #[.int .i64 0, .int .i64 0]) ?_ 1 _ rfl; (with_reducible repeat (first | refine blk_drewN ?_ _ | refine blk_drew ?_ | refine blk_alloc ?_ _)); refine blk_put (cs := #[.int .i64 0, .int .i64 0]) ?_ 0 _ rfl; (with_reducible repeat (first | refine blk_drewN ?_ _ | refine blk_drew ?_ | refine blk_alloc ?_ _)); refine blk_far ?_ NB428_429.out _; (with_reducible repeat (first | refine blk_drewN ?_ _ | refine blk_drew ?_ | refine blk_alloc ?_ _)); refine blk_far ?_ NB428_429.out _; (with_reducible repeat (first | refine blk_drewN ?_ _ | refine blk_drew ?_ | refine blk_alloc ?_ _)); exact BK428.out) Try.underlying29 rfl (by kernel_rfl)) rfl ?_
  exact ⟨by first | rfl | (simp [errW_none, errW_some] <;> rfl) | (simp [*, errW_none, errW_some] <;> rfl), by repeat (first | (with_reducible first | exact HB.out | apply below_alloc | apply pw_below_drewN | apply below_drew1 | refine below_set ?_ GE428.out | refine below_set ?_ GE429.out) | exact HB.out)⟩
 ·rw [if_neg c2] at H
  have c2b0 : (a0 == 0) = false := beq_eq_false_iff_ne.mpr c2
  have c2b1 : (a0 != 0) = true := bne_iff_ne.mpr c2
  replace H := Option.bind_eq_some_iff.mp H
  obtain ⟨t430, A80, H⟩ := H
  replace H : (if t430 = a0 then (some (wrap64 (Int.tmod (IntKind.u64.wrap (Int.tdiv a0 65536)) 65536), wrap64 (Int.tmod a0 65536))) else (some (0, 0))) = some (r1, r2) := H
  have A8 := Aside0.mk A80
  clear A80
  by_cases c9 : t430 = a0
  ·rw [if_pos c9] at H
   have c9b0 : (t430 == a0) = true := beq_iff_eq.mpr c9
   have c9b1 : (t430 != a0) = false := bne_eq_false_iff_eq.mpr c9
   clear c9
   simp only [Option.some.injEq, Prod.mk.injEq] at H
   obtain ⟨rfl, rfl⟩ := H
   go_enter Try.func43, Try.ntmps43
   go_wp2_with (first | ((with_reducible refine gate_dst (N := 2) rfl ?_); refine box_event ?hg (N := 2) ?hd (cs := #[.int .i64 0, .int .i64 0]) (t := 29) ?hr ?_; (case hd => rfl); (case hg => rfl); (case hr => first | (go_simp; done) | (go_simp; rfl)); intro gb428 hg w10 hbox hb; have n0_ := Aside0.mk (below_step (by repeat (first | (with_reducible first | exact HB.out | apply below_alloc | apply pw_below_drewN | apply below_drew1) | exact HB.out)) hb); have n1_ := Aside0.mk (hbox); have n2_ := Aside0.mk ((by rw [hg]; exact (below_size (by repeat (first | (with_reducible first | exact HB.out | apply below_alloc | apply pw_below_drewN | apply below_drew1) | exact HB.out))) : w.heap.size ≤ gb428)); have n3_ := Aside0.mk ((by rw [hg]; exact (below_size (by repeat (first | (with_reducible first | exact HB.out | apply below_alloc | apply pw_below_drewN | apply below_drew1) | exact HB.out))) : w.heap.size ≤ gb428)); clear HB; have HB := n0_; have BK428 := n1_; have GW428 := n2_; have GE428 := n3_; clear n0_ n1_ n2_ n3_; clear hb hbox hg) | ((with_reducible refine gate_dst (N := 3) rfl ?_); refine box_event ?hg (N := 3) ?hd (cs := #[.int .i64 0, .int .i64 0]) (t := 29) ?hr ?_; (case hd => rfl); (case hg => rfl); (case hr => first | (go_simp; done) | (go_simp; rfl)); intro gb429 hg w11 hbox hb; have n0_ := Aside0.mk (blk_below (g := gb428) (o := .cells #[.int .i64 0, .int .i64 0] 29 (0, 0)) (by (with_reducible repeat (first | refine blk_drewN ?_ _ | refine blk_drew ?_ | refine blk_alloc ?_ _)); exact BK428.out) hb); have n1_ := Aside0.mk (below_step (by repeat (first | (with_reducible first | exact HB.out | apply below_alloc | apply pw_below_drewN | apply below_drew1 | refine below_set ?_ GE428.out) | exact HB.out)) hb); have n2_ := Aside0.mk (hbox); have n3_ := Aside0.mk ((by rw [hg]; exact (below_size (by repeat (first | (with_reducible first | exact HB.out | apply below_alloc | apply pw_below_drewN | apply below_drew1 | refine below_set ?_ GE428.out) | exact HB.out))) : w.heap.size ≤ gb429)); have n4_ := Aside0.mk ((by rw [hg]; exact (below_size (by repeat (first | (with_reducible first | exact HB.out | apply below_alloc | apply pw_below_drewN | apply below_drew1 | refine below_set ?_ GE428.out) | exact HB.out))) : w.heap.size ≤ gb429)); have n5_ := Aside0.mk ((by rw [hg]; exact Nat.ne_of_lt (blk_lt (g := gb428) (o := .cells #[.int .i64 0, .int .i64 0] 29 (0, 0)) (by (with_reducible repeat (first | refine blk_drewN ?_ _ | refine blk_drew ?_ | refine blk_alloc ?_ _)); exact BK428.out)) : gb428 ≠ gb429)); have n6_ := Aside0.mk ((by rw [hg]; exact Nat.ne_of_gt (blk_lt (g := gb428) (o := .cells #[.int .i64 0, .int .i64 0] 29 (0, 0)) (by (with_reducible repeat (first | refine blk_drewN ?_ _ | refine blk_drew ?_ | refine blk_alloc ?_ _)); exact BK428.out)) : gb429 ≠ gb428)); clear BK428; clear HB; have BK428 := n0_; have HB := n1_; have BK429 := n2_; have GW429 := n3_; have GE429 := n4_; have NB428_429 := n5_; have NB429_428 := n6_; clear n0_ n1_ n2_ n3_ n4_ n5_ n6_; clear hb hbox hg; have hnb12 := NB429_428.out; have hnc12 := NB428_429.out; have hcz13_0 : w11.cell? ⟨gb429, 0, none⟩ = some (.int .i64 0) := (blk_cell BK429.out 0).trans rfl; have hcz13_1 : w11.cell? ⟨gb429, 1, none⟩ = some (.int .i64 0) := (blk_cell BK429.out 1).trans rfl; have hfz13_0 := blk_frozen BK429.out 0; have hfz13_1 := blk_frozen BK429.out 1) | (go_at_call 45; (with_reducible refine (ecdysisref11_Pack.calls (wrap64 (Int.tmod (IntKind.u64.wrap (Int.tdiv a0 65536)) 65536)) (wrap64 (Int.tmod a0 65536)) t430 _ A8.out).mono ?_); rintro e w14 ⟨rfl, hb⟩; have n0_ := Aside0.mk (blk_below (g := gb428) (o := .cells #[.int .i64 0, .int .i64 0] 29 (0, 0)) (by (with_reducible repeat (first | refine blk_drewN ?_ _ | refine blk_drew ?_ | refine blk_alloc ?_ _)); refine blk_far ?_ NB428_429.out _; (with_reducible repeat (first | refine blk_drewN ?_ _ | refine blk_drew ?_ | refine blk_alloc ?_ _)); refine blk_far ?_ NB428_429.out _; (with_reducible repeat (first | refine blk_drewN ?_ _ | refine blk_drew ?_ | refine blk_alloc ?_ _)); exact BK428.out) hb); have n1_ := Aside0.mk (blk_below (g := gb429) (o := .cells #[.int .i64 (wrap64 (Int.tmod (IntKind.u64.wrap (Int.tdiv a0 65536)) 65536)), .int .i64 (wrap64 (Int.tmod a0 65536))] 29 (0, 0)) (by (with_reducible repeat (first | refine blk_drewN ?_ _ | refine blk_drew ?_ | refine blk_alloc ?_ _)); refine blk_put (cs := #[.int .i64 (wrap64 (Int.tmod (IntKind.u64.wrap (Int.tdiv a0 65536)) 65536)), .int .i64 0]) ?_ 1 _ rfl; (with_reducible repeat (first | refine blk_drewN ?_ _ | refine blk_drew ?_ | refine blk_alloc ?_ _)); refine blk_put (cs := #[.int .i64 0, .int .i64 0]) ?_ 0 _ rfl; (with_reducible repeat (first | refine blk_drewN ?_ _ | refine blk_drew ?_ | refine blk_alloc ?_ _)); exact BK429.out) hb); have n2_ := Aside0.mk (below_step (by repeat (first | (with_reducible first | exact HB.out | apply below_alloc | apply pw_below_drewN | apply below_drew1 | refine below_set ?_ GE428.out | refine below_set ?_ GE429.out) | exact HB.out)) hb); clear BK428; clear BK429; clear HB; have BK428 := n0_; have BK429 := n1_; have HB := n2_; clear n0_ n1_ n2_; (try clear hb); (try clear hb2); (try clear hk); (try clear hi); have hcz15_0 : w14.cell? ⟨gb429, 0, none⟩ = some (.int .i64 (wrap64 (Int.tmod (IntKind.u64.wrap (Int.tdiv a0 65536)) 65536))) := (blk_cell BK429.out 0).trans rfl; have hcz15_1 : w14.cell? ⟨gb429, 1, none⟩ = some (.int .i64 (wrap64 (Int.tmod a0 65536))) := (blk_cell BK429.out 1).trans rfl; have hfz15_0 := blk_frozen BK429.out 0; have hfz15_1 := blk_frozen BK429.out 1; have hcz16_0 : w14.cell? ⟨gb428, 0, none⟩ = some (.int .i64 0) := (blk_cell BK428.out 0).trans rfl; have hcz16_1 : w14.cell? ⟨gb428, 1, none⟩ = some (.int .i64 0) := (blk_cell BK428.out 1).trans rfl; have hfz16_0 := blk_frozen BK428.out 0; have hfz16_1 := blk_frozen BK428.out 1))
   refine bodyPost_ret (results_cell_row rfl _ _ gb428 29 #[.int .i64 (wrap64 (Int.tmod (IntKind.u64.wrap (Int.tdiv a0 65536)) 65536)), .int .i64 (wrap64 (Int.tmod a0 65536))] (0, 0) _ rfl (by (with_reducible repeat (first | refine blk_drewN ?_ _ | refine blk_drew ?_ | refine blk_alloc ?_ _)); refine blk_put (cs := #[.int .i64 (wrap64 (Int.tmod (IntKind.u64.wrap (Int.tdiv a0 65536)) 65536)), .int .i64 0]) ?_ 1 _ rfl; (with_reducible repeat (first | refine blk_drewN ?_ _ | refine blk_drew ?_ | refine blk_alloc ?_ _)); refine blk_put (cs := #[.int .i64 0, .int .i64 0]) ?_ 0 _ rfl; (with_reducible repeat (first | refine blk_drewN ?_ _ | refine blk_drew ?_ | refine blk_alloc ?_ _)); exact BK428.out) Try.underlying29 rfl (by kernel_rfl)) rfl ?_
   exact ⟨by first | rfl | (simp [errW_none, errW_some] <;> rfl) | (simp [*, errW_none, errW_some] <;> rfl), by repeat (first | (with_reducible first | exact HB.out | apply below_alloc | apply pw_below_drewN | apply below_drew1 | refine below_set ?_ GE428.out | refine below_set ?_ GE429.out) | exact HB.out)⟩
  ·rw [if_neg c9] at H
   have c9b0 : (t430 == a0) = false := beq_eq_false_iff_ne.mpr c9
   have c9b1 : (t430 != a0) = true := bne_iff_ne.mpr c9
   simp only [Option.some.injEq, Prod.mk.injEq] at H
   obtain ⟨rfl, rfl⟩ := H
   go_enter Try.func43, Try.ntmps43
   go_wp2_with (first | ((with_reducible refine gate_dst (N := 2) rfl ?_); refine box_event ?hg (N := 2) ?hd (cs := #[.int .i64 0, .int .i64 0]) (t := 29) ?hr ?_; (case hd => rfl); (case hg => rfl); (case hr => first | (go_simp; done) | (go_simp; rfl)); intro gb428 hg w17 hbox hb; have n0_ := Aside0.mk (below_step (by repeat (first | (with_reducible first | exact HB.out | apply below_alloc | apply pw_below_drewN | apply below_drew1) | exact HB.out)) hb); have n1_ := Aside0.mk (hbox); have n2_ := Aside0.mk ((by rw [hg]; exact (below_size (by repeat (first | (with_reducible first | exact HB.out | apply below_alloc | apply pw_below_drewN | apply below_drew1) | exact HB.out))) : w.heap.size ≤ gb428)); have n3_ := Aside0.mk ((by rw [hg]; exact (below_size (by repeat (first | (with_reducible first | exact HB.out | apply below_alloc | apply pw_below_drewN | apply below_drew1) | exact HB.out))) : w.heap.size ≤ gb428)); clear HB; have HB := n0_; have BK428 := n1_; have GW428 := n2_; have GE428 := n3_; clear n0_ n1_ n2_ n3_; clear hb hbox hg) | ((with_reducible refine gate_dst (N := 3) rfl ?_); refine box_event ?hg (N := 3) ?hd (cs := #[.int .i64 0, .int .i64 0]) (t := 29) ?hr ?_; (case hd => rfl); (case hg => rfl); (case hr => first | (go_simp; done) | (go_simp; rfl)); intro gb429 hg w18 hbox hb; have n0_ := Aside0.mk (blk_below (g := gb428) (o := .cells #[.int .i64 0, .int .i64 0] 29 (0, 0)) (by (with_reducible repeat (first | refine blk_drewN ?_ _ | refine blk_drew ?_ | refine blk_alloc ?_ _)); exact BK428.out) hb); have n1_ := Aside0.mk (below_step (by repeat (first | (with_reducible first | exact HB.out | apply below_alloc | apply pw_below_drewN | apply below_drew1 | refine below_set ?_ GE428.out) | exact HB.out)) hb); have n2_ := Aside0.mk (hbox); have n3_ := Aside0.mk ((by rw [hg]; exact (below_size (by repeat (first | (with_reducible first | exact HB.out | apply below_alloc | apply pw_below_drewN | apply below_drew1 | refine below_set ?_ GE428.out) | exact HB.out))) : w.heap.size ≤ gb429)); have n4_ := Aside0.mk ((by rw [hg]; exact (below_size (by repeat (first | (with_reducible first | exact HB.out | apply below_alloc | apply pw_below_drewN | apply below_drew1 | refine below_set ?_ GE428.out) | exact HB.out))) : w.heap.size ≤ gb429)); have n5_ := Aside0.mk ((by rw [hg]; exact Nat.ne_of_lt (blk_lt (g := gb428) (o := .cells #[.int .i64 0, .int .i64 0] 29 (0, 0)) (by (with_reducible repeat (first | refine blk_drewN ?_ _ | refine blk_drew ?_ | refine blk_alloc ?_ _)); exact BK428.out)) : gb428 ≠ gb429)); have n6_ := Aside0.mk ((by rw [hg]; exact Nat.ne_of_gt (blk_lt (g := gb428) (o := .cells #[.int .i64 0, .int .i64 0] 29 (0, 0)) (by (with_reducible repeat (first | refine blk_drewN ?_ _ | refine blk_drew ?_ | refine blk_alloc ?_ _)); exact BK428.out)) : gb429 ≠ gb428)); clear BK428; clear HB; have BK428 := n0_; have HB := n1_; have BK429 := n2_; have GW429 := n3_; have GE429 := n4_; have NB428_429 := n5_; have NB429_428 := n6_; clear n0_ n1_ n2_ n3_ n4_ n5_ n6_; clear hb hbox hg; have hnb19 := NB429_428.out; have hnc19 := NB428_429.out; have hcz20_0 : w18.cell? ⟨gb429, 0, none⟩ = some (.int .i64 0) := (blk_cell BK429.out 0).trans rfl; have hcz20_1 : w18.cell? ⟨gb429, 1, none⟩ = some (.int .i64 0) := (blk_cell BK429.out 1).trans rfl; have hfz20_0 := blk_frozen BK429.out 0; have hfz20_1 := blk_frozen BK429.out 1) | (go_at_call 45; (with_reducible refine (ecdysisref11_Pack.calls (wrap64 (Int.tmod (IntKind.u64.wrap (Int.tdiv a0 65536)) 65536)) (wrap64 (Int.tmod a0 65536)) t430 _ A8.out).mono ?_); rintro e w21 ⟨rfl, hb⟩; have n0_ := Aside0.mk (blk_below (g := gb428) (o := .cells #[.int .i64 0, .int .i64 0] 29 (0, 0)) (by (with_reducible repeat (first | refine blk_drewN ?_ _ | refine blk_drew ?_ | refine blk_alloc ?_ _)); refine blk_far ?_ NB428_429.out _; (with_reducible repeat (first | refine blk_drewN ?_ _ | refine blk_drew ?_ | refine blk_alloc ?_ _)); refine blk_far ?_ NB428_429.out _; (with_reducible repeat (first | refine blk_drewN ?_ _ | refine blk_drew ?_ | refine blk_alloc ?_ _)); exact BK428.out) hb); have n1_ := Aside0.mk (blk_below (g := gb429) (o := .cells #[.int .i64 (wrap64 (Int.tmod (IntKind.u64.wrap (Int.tdiv a0 65536)) 65536)), .int .i64 (wrap64 (Int.tmod a0 65536))] 29 (0, 0)) (by (with_reducible repeat (first | refine blk_drewN ?_ _ | refine blk_drew ?_ | refine blk_alloc ?_ _)); refine blk_put (cs := #[.int .i64 (wrap64 (Int.tmod (IntKind.u64.wrap (Int.tdiv a0 65536)) 65536)), .int .i64 0]) ?_ 1 _ rfl; (with_reducible repeat (first | refine blk_drewN ?_ _ | refine blk_drew ?_ | refine blk_alloc ?_ _)); refine blk_put (cs := #[.int .i64 0, .int .i64 0]) ?_ 0 _ rfl; (with_reducible repeat (first | refine blk_drewN ?_ _ | refine blk_drew ?_ | refine blk_alloc ?_ _)); exact BK429.out) hb); have n2_ := Aside0.mk (below_step (by repeat (first | (with_reducible first | exact HB.out | apply below_alloc | apply pw_below_drewN | apply below_drew1 | refine below_set ?_ GE428.out | refine below_set ?_ GE429.out) | exact HB.out)) hb); clear BK428; clear BK429; clear HB; have BK428 := n0_; have BK429 := n1_; have HB := n2_; clear n0_ n1_ n2_; (try clear hb); (try clear hb2); (try clear hk); (try clear hi); have hcz22_0 : w21.cell? ⟨gb428, 0, none⟩ = some (.int .i64 0) := (blk_cell BK428.out 0).trans rfl; have hcz22_1 : w21.cell? ⟨gb428, 1, none⟩ = some (.int .i64 0) := (blk_cell BK428.out 1).trans rfl; have hfz22_0 := blk_frozen BK428.out 0; have hfz22_1 := blk_frozen BK428.out 1))
   refine bodyPost_ret (results_cell_row rfl _ _ gb428 29 #[.int .i64 0, .int .i64 0] (0, 0) _ rfl (by (with_reducible repeat (first | refine blk_drewN ?_ _ | refine blk_drew ?_ | refine blk_alloc ?_ _)); refine blk_put (cs := #[.int .i64 0, .int .i64 0]) ?_ 1 _ rfl; (with_reducible repeat (first | refine blk_drewN ?_ _ | refine blk_drew ?_ | refine blk_alloc ?_ _)); refine blk_put (cs := #[.int .i64 0, .int .i64 0]) ?_ 0 _ rfl; (with_reducible repeat (first | refine blk_drewN ?_ _ | refine blk_drew ?_ | refine blk_alloc ?_ _)); exact BK428.out) Try.underlying29 rfl (by kernel_rfl)) rfl ?_
   exact ⟨by first | rfl | (simp [errW_none, errW_some] <;> rfl) | (simp [*, errW_none, errW_some] <;> rfl), by repeat (first | (with_reducible first | exact HB.out | apply below_alloc | apply pw_below_drewN | apply below_drew1 | refine below_set ?_ GE428.out | refine below_set ?_ GE429.out) | exact HB.out)⟩


/-! ### ecdysisref13_Handles: function 30 -/
mutual
def ecdysisref13_Handles.l0 : Nat → List (S66) → List (S29) → Int → Option ((List (S29)))
 | 0, _, _, _ => none
 | k + 1, x0, x3, x4 => ecdysisref13_Handles.l1 k x0 x3 x4 0 0
def ecdysisref13_Handles.l1 : Nat → List (S66) → List (S29) → Int → Int → Int → Option ((List (S29)))
 | 0, _, _, _, _, _ => none
 | k + 1, x0, x3, x4, x5, x6 => if x6 < (x0.length : Int) then (if 0 ≤ x6 then ((ecdysisref11_Pack.f ((rd_T66 x0 x6).f1.f0) ((rd_T66 x0 x6).f1.f1)).bind fun t432 => (if t432 > x4 then (if x5 = 0 then (ecdysisref13_Handles.l1 k x0 x3 x4 t432 (wrap64 (x6 + 1))) else (if t432 < x5 then (ecdysisref13_Handles.l1 k x0 x3 x4 t432 (wrap64 (x6 + 1))) else (ecdysisref13_Handles.l1 k x0 x3 x4 x5 (wrap64 (x6 + 1))))) else (ecdysisref13_Handles.l1 k x0 x3 x4 x5 (wrap64 (x6 + 1))))) else (none)) else (if x5 = 0 then (some x3) else ((ecdysisref11_Unpack.f x5).bind fun bt433 => (if x3.length < 8796093022208 then (ecdysisref13_Handles.l0 k x0 (x3 ++ [(⟨bt433.1, bt433.2⟩ : S29)]) x5) else (none))))
end
def ecdysisref13_Handles.f (k : Nat) (l0 : List (S66)) : Option ((List (S29))) := ecdysisref13_Handles.l0 k l0 ([] : List (S29)) 0
theorem ecdysisref13_Handles.mono_l : ∀ k, (∀ y0 y1 y2, LeO (ecdysisref13_Handles.l0 k y0 y1 y2) (ecdysisref13_Handles.l0 (k + 1) y0 y1 y2)) ∧ (∀ y0 y1 y2 y3 y4, LeO (ecdysisref13_Handles.l1 k y0 y1 y2 y3 y4) (ecdysisref13_Handles.l1 (k + 1) y0 y1 y2 y3 y4))
 | 0 => ⟨fun _ _ _ r h => by simp [ecdysisref13_Handles.l0] at h, fun _ _ _ _ _ r h => by simp [ecdysisref13_Handles.l1] at h⟩
 | k + 1 => by
  obtain ⟨ih0, ih1⟩ := ecdysisref13_Handles.mono_l k
  refine ⟨?_, ?_⟩
  ·intro y0 y1 y2
   unfold ecdysisref13_Handles.l0
   repeat' first
   | (with_reducible exact ih0 _ _ _)
   | (with_reducible exact ih1 _ _ _ _ _)
   | (with_reducible exact LeO.refl _)
   | (with_reducible exact LeO.none _)
   | (with_reducible refine LeO.ite ?_ ?_)
   | (with_reducible refine LeO.bind ?_ (fun _ => ?_))
   | exact ih0 _ _ _
   | exact ih1 _ _ _ _ _
   | exact LeO.none _
   | refine LeO.ite ?_ ?_
   | refine LeO.bind ?_ (fun _ => ?_)
  ·intro y0 y1 y2 y3 y4
   unfold ecdysisref13_Handles.l1
   repeat' first
   | (with_reducible exact ih0 _ _ _)
   | (with_reducible exact ih1 _ _ _ _ _)
   | (with_reducible exact LeO.refl _)
   | (with_reducible exact LeO.none _)
   | (with_reducible refine LeO.ite ?_ ?_)
   | (with_reducible refine LeO.bind ?_ (fun _ => ?_))
   | exact ih0 _ _ _
   | exact ih1 _ _ _ _ _
   | exact LeO.none _
   | refine LeO.ite ?_ ?_
   | refine LeO.bind ?_ (fun _ => ?_)
theorem ecdysisref13_Handles.mono : ∀ a0 k, LeO (ecdysisref13_Handles.f k a0) (ecdysisref13_Handles.f (k + 1) a0) := by
 intro a0 k
 obtain ⟨ih0, ih1⟩ := ecdysisref13_Handles.mono_l k
 unfold ecdysisref13_Handles.f
 repeat' first
   | (with_reducible exact ih0 _ _ _)
   | (with_reducible exact ih1 _ _ _ _ _)
   | (with_reducible exact LeO.refl _)
   | (with_reducible exact LeO.none _)
   | (with_reducible refine LeO.ite ?_ ?_)
   | (with_reducible refine LeO.bind ?_ (fun _ => ?_))
   | exact ih0 _ _ _
   | exact ih1 _ _ _ _ _
   | exact LeO.none _
   | refine LeO.ite ?_ ?_
   | refine LeO.bind ?_ (fun _ => ?_)
set_option maxHeartbeats 8000000 in
set_option maxRecDepth 100000 in
theorem ecdysisref13_Handles.calls (k : Nat) (A0 : Option Addr) (c0 : Nat) (l0 : List (S66)) (r : List (S29)) (w : World) (hr0 : Kd.C k66 w A0 l0.length l0) (hc0 : l0.length ≤ c0) (h : ecdysisref13_Handles.f k l0 = some r) :
  Calls Try.prog 30 #[.slice A0 l0.length c0] w fun e w' => ∃ v0_ : Value, e = .returned (v0_) ∧ Kd.R k29 29 w' w.heap.size (fun _ => True) v0_ r ∧ Below w.heap.size w w' := by
 have hu29 := Try.underlying29
 have HR0 := Aside0.mk hr0
 have HC0 := Aside0.mk hc0
 clear hr0 hc0
 have HB := Aside0.mk (Below.refl w.heap.size w)
 have H : (ecdysisref13_Handles.l0 k l0 ([] : List (S29)) 0) = some r := h
 clear h
 have H' := Aside0.mk H
 clear H
 go_enter Try.func30, Try.ntmps30
 go_wp2
 go_loopg [3, 4] k (fun kq v3 v4 w' => ∃ (x3_1 : List (S29)) (x4_1 : Int), v4 = .int .u64 x4_1 ∧ Aside0 (ecdysisref13_Handles.l0 kq l0 x3_1 x4_1 = some r) ∧ Aside0 (kq ≤ k) ∧ Aside0 (Kd.R k29 29 w' w.heap.size (fun _ => True) v3 x3_1) ∧ Aside0 (Below w.heap.size w w'))
 case atStart => exact ⟨(([] : List (S29))), (0), (by first | rfl | (simp; done) | (simp [*]; done)), H', ⟨Nat.le_refl _⟩, ⟨by first | exact Kd.R_nil _ _ _ _ _ | exact Kd.N_nil _ _ _ _ _ | exact Kd.V_nil _ _ _ _ _ | exact Kd.Q_nil _ _ _ _ _ | exact Kd.S_nil _ _ _ _ _⟩, ⟨by repeat (first | (with_reducible first | exact HB.out | apply below_alloc | apply pw_below_drewN | apply below_drew1) | exact HB.out)⟩⟩
 case round =>
  clear H'
  obtain ⟨x3_1, x4_1, rfl, HA, HK1, HO_3, HB⟩ := hrel
  cases gk with
  | zero => exact absurd HA.out (by simp [ecdysisref13_Handles.l0])
  | succ k1 =>
   have H := HA.out
   clear HA
   simp only [ecdysisref13_Handles.l0] at H
   have H' := Aside0.mk H
   clear H
   go_wp2
   go_loopg [5, 6] k1 (fun kq v5 v6 w' => ∃ (x5_2 : Int) (x6_2 : Int), v5 = .int .u64 x5_2 ∧ v6 = .int .i64 x6_2 ∧ Aside0 (ecdysisref13_Handles.l1 kq l0 x3_1 x4_1 x5_2 x6_2 = some r) ∧ Aside0 (kq ≤ k1) ∧ Aside0 (Kd.R k29 29 w' w.heap.size (fun _ => True) u3 x3_1) ∧ Aside0 (Below w.heap.size w w'))
   case atStart => exact ⟨(0), (0), (by first | rfl | (simp; done) | (simp [*]; done)), (by first | rfl | (simp; done) | (simp [*]; done)), H', ⟨Nat.le_refl _⟩, ⟨by (with_reducible repeat (first | apply Kd.R_alloc | apply Kd.R_drewN | apply Kd.R_drew)); exact HO_3.out⟩, ⟨by repeat (first | (with_reducible first | exact HB.out | apply below_alloc | apply pw_below_drewN | apply below_drew1) | exact HB.out)⟩⟩
   case round =>
    clear H'
    obtain ⟨x5_2, x6_2, rfl, rfl, HA, HK2, HO_3, HB⟩ := hrel
    cases gk with
    | zero => exact absurd HA.out (by simp [ecdysisref13_Handles.l1])
    | succ k2 =>
     have H := HA.out
     clear HA
     simp only [ecdysisref13_Handles.l1] at H
     by_cases c2 : x6_2 < (l0.length : Int)
     ·rw [if_pos c2] at H
      have c2b0 : decide (x6_2 < (l0.length : Int)) = true := decide_eq_true c2
      clear c2
      by_cases c3 : 0 ≤ x6_2
      ·rw [if_pos c3] at H
       have c3b0 : decide (0 ≤ x6_2) = true := decide_eq_true c3
       clear c3
       replace H := Option.bind_eq_some_iff.mp H
       obtain ⟨t432, A40, H⟩ := H
       replace H : (if t432 > x4_1 then (if x5_2 = 0 then (ecdysisref13_Handles.l1 k2 l0 x3_1 x4_1 t432 (wrap64 (x6_2 + 1))) else (if t432 < x5_2 then (ecdysisref13_Handles.l1 k2 l0 x3_1 x4_1 t432 (wrap64 (x6_2 + 1))) else (ecdysisref13_Handles.l1 k2 l0 x3_1 x4_1 x5_2 (wrap64 (x6_2 + 1))))) else (ecdysisref13_Handles.l1 k2 l0 x3_1 x4_1 x5_2 (wrap64 (x6_2 + 1)))) = some r := H
       have A4 := Aside0.mk A40
       clear A40
       by_cases c5 : t432 > x4_1
       ·rw [if_pos c5] at H
        have c5b0 : decide (x4_1 < t432) = true := decide_eq_true c5
        clear c5
        by_cases c6 : x5_2 = 0
        ·rw [if_pos c6] at H
         have c6b0 : (x5_2 == 0) = true := beq_iff_eq.mpr c6
         have c6b1 : (x5_2 != 0) = false := bne_eq_false_iff_eq.mpr c6
         clear c6
         have H' := Aside0.mk H
         clear H
         have p431 : 0 ≤ (x6_2 : Int) := of_decide_eq_true (by first | (with_reducible assumption) | assumption)
         have q431 : x6_2 < (l0.length : Int) := of_decide_eq_true (by first | (with_reducible assumption) | assumption)
         obtain ⟨ad431, e431, hx431_0, hx431_1, hx431_2⟩ := at_T66 HR0.out x6_2 p431 q431
         cases e431
         replace hx431_0 := (HB.out.cell (World.block_lt_of_cell? w _ hx431_0)).trans hx431_0
         replace hx431_1 := (HB.out.cell (World.block_lt_of_cell? w _ hx431_1)).trans hx431_1
         replace hx431_2 := (HB.out.cell (World.block_lt_of_cell? w _ hx431_2)).trans hx431_2
         replace p431 := eq_true p431
         replace q431 := eq_true q431
         go_wp2_with (first | ((with_reducible refine gate_callee (f := 45) rfl ?_); refine goesL_ (some 19) rfl rfl Try.func45 (by kernel_rfl) rfl #[.agg #[.int .i64 ((rd_T66 l0 x6_2).f1.f0), .int .i64 ((rd_T66 l0 x6_2).f1.f1)]] rfl (by (try simp only [List.map_toArray, List.map_cons, List.map_nil]); first | done | rfl | (simp only [List.length_drop, List.length_take]; rfl)) ?_; (with_reducible refine (ecdysisref11_Pack.calls ((rd_T66 l0 x6_2).f1.f0) ((rd_T66 l0 x6_2).f1.f1) t432 _ A4.out).mono ?_); rintro e w7 ⟨rfl, hb⟩; refine ⟨_, rfl, ?_⟩; have n0_ := Aside0.mk (Kd.R_below (by (with_reducible repeat (first | apply Kd.R_alloc | apply Kd.R_drewN | apply Kd.R_drew)); exact HO_3.out) hb); have n1_ := Aside0.mk (below_step (by repeat (first | (with_reducible first | exact HB.out | apply below_alloc | apply pw_below_drewN | apply below_drew1) | exact HB.out)) hb); clear HO_3; clear HB; have HO_3 := n0_; have HB := n1_; clear n0_ n1_; (try clear hb); (try clear hb2); (try clear hk); (try clear hi)))
         go_roundg k2
         case measure => have := HK1.out; have := HK2.out; omega
         case rel => exact ⟨(t432), (wrap64 (x6_2 + 1)), (by first | rfl | (simp; done) | (simp [*]; done)), (by first | rfl | (simp; done) | (simp [*]; done)), H', ⟨by have := HK1.out; have := HK2.out; omega⟩, ⟨by (with_reducible repeat (first | apply Kd.R_alloc | apply Kd.R_drewN | apply Kd.R_drew)); exact HO_3.out⟩, ⟨by repeat (first | (with_reducible first | exact HB.out | apply below_alloc | apply pw_below_drewN | apply below_drew1) | exact HB.out)⟩⟩
        ·rw [if_neg c6] at H
         have c6b0 : (x5_2 == 0) = false := beq_eq_false_iff_ne.mpr c6
         have c6b1 : (x5_2 != 0) = true := bne_iff_ne.mpr c6
         by_cases c8 : t432 < x5_2
         ·rw [if_pos c8] at H
          have c8b0 : decide (t432 < x5_2) = true := decide_eq_true c8
          clear c8
          have H' := Aside0.mk H
          clear H
          have p431 : 0 ≤ (x6_2 : Int) := of_decide_eq_true (by first | (with_reducible assumption) | assumption)
          have q431 : x6_2 < (l0.length : Int) := of_decide_eq_true (by first | (with_reducible assumption) | assumption)
          obtain ⟨ad431, e431, hx431_0, hx431_1, hx431_2⟩ := at_T66 HR0.out x6_2 p431 q431
          cases e431
          replace hx431_0 := (HB.out.cell (World.block_lt_of_cell? w _ hx431_0)).trans hx431_0
          replace hx431_1 := (HB.out.cell (World.block_lt_of_cell? w _ hx431_1)).trans hx431_1
          replace hx431_2 := (HB.out.cell (World.block_lt_of_cell? w _ hx431_2)).trans hx431_2
          replace p431 := eq_true p431
          replace q431 := eq_true q431
          go_wp2_with (first | ((with_reducible refine gate_callee (f := 45) rfl ?_); refine goesL_ (some 19) rfl rfl Try.func45 (by kernel_rfl) rfl #[.agg #[.int .i64 ((rd_T66 l0 x6_2).f1.f0), .int .i64 ((rd_T66 l0 x6_2).f1.f1)]] rfl (by (try simp only [List.map_toArray, List.map_cons, List.map_nil]); first | done | rfl | (simp only [List.length_drop, List.length_take]; rfl)) ?_; (with_reducible refine (ecdysisref11_Pack.calls ((rd_T66 l0 x6_2).f1.f0) ((rd_T66 l0 x6_2).f1.f1) t432 _ A4.out).mono ?_); rintro e w9 ⟨rfl, hb⟩; refine ⟨_, rfl, ?_⟩; have n0_ := Aside0.mk (Kd.R_below (by (with_reducible repeat (first | apply Kd.R_alloc | apply Kd.R_drewN | apply Kd.R_drew)); exact HO_3.out) hb); have n1_ := Aside0.mk (below_step (by repeat (first | (with_reducible first | exact HB.out | apply below_alloc | apply pw_below_drewN | apply below_drew1) | exact HB.out)) hb); clear HO_3; clear HB; have HO_3 := n0_; have HB := n1_; clear n0_ n1_; (try clear hb); (try clear hb2); (try clear hk); (try clear hi)))
          go_roundg k2
          case measure => have := HK1.out; have := HK2.out; omega
          case rel => exact ⟨(t432), (wrap64 (x6_2 + 1)), (by first | rfl | (simp; done) | (simp [*]; done)), (by first | rfl | (simp; done) | (simp [*]; done)), H', ⟨by have := HK1.out; have := HK2.out; omega⟩, ⟨by (with_reducible repeat (first | apply Kd.R_alloc | apply Kd.R_drewN | apply Kd.R_drew)); exact HO_3.out⟩, ⟨by repeat (first | (with_reducible first | exact HB.out | apply below_alloc | apply pw_below_drewN | apply below_drew1) | exact HB.out)⟩⟩
         ·rw [if_neg c8] at H
          have c8b0 : decide (t432 < x5_2) = false := decide_eq_false c8
          clear c8
          have H' := Aside0.mk H
          clear H
          have p431 : 0 ≤ (x6_2 : Int) := of_decide_eq_true (by first | (with_reducible assumption) | assumption)
          have q431 : x6_2 < (l0.length : Int) := of_decide_eq_true (by first | (with_reducible assumption) | assumption)
          obtain ⟨ad431, e431, hx431_0, hx431_1, hx431_2⟩ := at_T66 HR0.out x6_2 p431 q431
          cases e431
          replace hx431_0 := (HB.out.cell (World.block_lt_of_cell? w _ hx431_0)).trans hx431_0
          replace hx431_1 := (HB.out.cell (World.block_lt_of_cell? w _ hx431_1)).trans hx431_1
          replace hx431_2 := (HB.out.cell (World.block_lt_of_cell? w _ hx431_2)).trans hx431_2
          replace p431 := eq_true p431
          replace q431 := eq_true q431
          go_wp2_with (first | ((with_reducible refine gate_callee (f := 45) rfl ?_); refine goesL_ (some 19) rfl rfl Try.func45 (by kernel_rfl) rfl #[.agg #[.int .i64 ((rd_T66 l0 x6_2).f1.f0), .int .i64 ((rd_T66 l0 x6_2).f1.f1)]] rfl (by (try simp only [List.map_toArray, List.map_cons, List.map_nil]); first | done | rfl | (simp only [List.length_drop, List.length_take]; rfl)) ?_; (with_reducible refine (ecdysisref11_Pack.calls ((rd_T66 l0 x6_2).f1.f0) ((rd_T66 l0 x6_2).f1.f1) t432 _ A4.out).mono ?_); rintro e w10 ⟨rfl, hb⟩; refine ⟨_, rfl, ?_⟩; have n0_ := Aside0.mk (Kd.R_below (by (with_reducible repeat (first | apply Kd.R_alloc | apply Kd.R_drewN | apply Kd.R_drew)); exact HO_3.out) hb); have n1_ := Aside0.mk (below_step (by repeat (first | (with_reducible first | exact HB.out | apply below_alloc | apply pw_below_drewN | apply below_drew1) | exact HB.out)) hb); clear HO_3; clear HB; have HO_3 := n0_; have HB := n1_; clear n0_ n1_; (try clear hb); (try clear hb2); (try clear hk); (try clear hi)))
          go_roundg k2
          case measure => have := HK1.out; have := HK2.out; omega
          case rel => exact ⟨(x5_2), (wrap64 (x6_2 + 1)), (by first | rfl | (simp; done) | (simp [*]; done)), (by first | rfl | (simp; done) | (simp [*]; done)), H', ⟨by have := HK1.out; have := HK2.out; omega⟩, ⟨by (with_reducible repeat (first | apply Kd.R_alloc | apply Kd.R_drewN | apply Kd.R_drew)); exact HO_3.out⟩, ⟨by repeat (first | (with_reducible first | exact HB.out | apply below_alloc | apply pw_below_drewN | apply below_drew1) | exact HB.out)⟩⟩
       ·rw [if_neg c5] at H
        have c5b0 : decide (x4_1 < t432) = false := decide_eq_false c5
        clear c5
        have H' := Aside0.mk H
        clear H
        have p431 : 0 ≤ (x6_2 : Int) := of_decide_eq_true (by first | (with_reducible assumption) | assumption)
        have q431 : x6_2 < (l0.length : Int) := of_decide_eq_true (by first | (with_reducible assumption) | assumption)
        obtain ⟨ad431, e431, hx431_0, hx431_1, hx431_2⟩ := at_T66 HR0.out x6_2 p431 q431
        cases e431
        replace hx431_0 := (HB.out.cell (World.block_lt_of_cell? w _ hx431_0)).trans hx431_0
        replace hx431_1 := (HB.out.cell (World.block_lt_of_cell? w _ hx431_1)).trans hx431_1
        replace hx431_2 := (HB.out.cell (World.block_lt_of_cell? w _ hx431_2)).trans hx431_2
        replace p431 := eq_true p431
        replace q431 := eq_true q431
        go_wp2_with (first | ((with_reducible refine gate_callee (f := 45) rfl ?_); refine goesL_ (some 19) rfl rfl Try.func45 (by kernel_rfl) rfl #[.agg #[.int .i64 ((rd_T66 l0 x6_2).f1.f0), .int .i64 ((rd_T66 l0 x6_2).f1.f1)]] rfl (by (try simp only [List.map_toArray, List.map_cons, List.map_nil]); first | done | rfl | (simp only [List.length_drop, List.length_take]; rfl)) ?_; (with_reducible refine (ecdysisref11_Pack.calls ((rd_T66 l0 x6_2).f1.f0) ((rd_T66 l0 x6_2).f1.f1) t432 _ A4.out).mono ?_); rintro e w11 ⟨rfl, hb⟩; refine ⟨_, rfl, ?_⟩; have n0_ := Aside0.mk (Kd.R_below (by (with_reducible repeat (first | apply Kd.R_alloc | apply Kd.R_drewN | apply Kd.R_drew)); exact HO_3.out) hb); have n1_ := Aside0.mk (below_step (by repeat (first | (with_reducible first | exact HB.out | apply below_alloc | apply pw_below_drewN | apply below_drew1) | exact HB.out)) hb); clear HO_3; clear HB; have HO_3 := n0_; have HB := n1_; clear n0_ n1_; (try clear hb); (try clear hb2); (try clear hk); (try clear hi)))
        go_roundg k2
        case measure => have := HK1.out; have := HK2.out; omega
        case rel => exact ⟨(x5_2), (wrap64 (x6_2 + 1)), (by first | rfl | (simp; done) | (simp [*]; done)), (by first | rfl | (simp; done) | (simp [*]; done)), H', ⟨by have := HK1.out; have := HK2.out; omega⟩, ⟨by (with_reducible repeat (first | apply Kd.R_alloc | apply Kd.R_drewN | apply Kd.R_drew)); exact HO_3.out⟩, ⟨by repeat (first | (with_reducible first | exact HB.out | apply below_alloc | apply pw_below_drewN | apply below_drew1) | exact HB.out)⟩⟩
      ·rw [if_neg c3] at H
       exact absurd H (by simp)
     ·rw [if_neg c2] at H
      have c2b0 : decide (x6_2 < (l0.length : Int)) = false := decide_eq_false c2
      clear c2
      by_cases c12 : x5_2 = 0
      ·rw [if_pos c12] at H
       have c12b0 : (x5_2 == 0) = true := beq_iff_eq.mpr c12
       have c12b1 : (x5_2 != 0) = false := bne_eq_false_iff_eq.mpr c12
       clear c12
       obtain rfl := Option.some.inj H
       go_wp2
       go_ret
       exact ⟨_, by first | rfl | (simp [errW_none, errW_some] <;> rfl) | (simp [*, errW_none, errW_some] <;> rfl), by (with_reducible repeat (first | apply Kd.R_alloc | apply Kd.R_drewN | apply Kd.R_drew)); exact HO_3.out, by repeat (first | (with_reducible first | exact HB.out | apply below_alloc | apply pw_below_drewN | apply below_drew1) | exact HB.out)⟩
      ·rw [if_neg c12] at H
       have c12b0 : (x5_2 == 0) = false := beq_eq_false_iff_ne.mpr c12
       have c12b1 : (x5_2 != 0) = true := bne_iff_ne.mpr c12
       replace H := Option.bind_eq_some_iff.mp H
       obtain ⟨⟨t433, t434⟩, A130, H⟩ := H
       replace H : (if x3_1.length < 8796093022208 then (ecdysisref13_Handles.l0 k2 l0 (x3_1 ++ [(⟨t433, t434⟩ : S29)]) x5_2) else (none)) = some r := H
       have A13 := Aside0.mk A130
       clear A130
       by_cases c14 : x3_1.length < 8796093022208
       ·rw [if_pos c14] at H
        have LMc14 := Aside0.mk c14
        clear c14
        obtain ⟨y435, hy435⟩ : ∃ y_ : List (S29), y_ = (x3_1 ++ [(⟨t433, t434⟩ : S29)]) := ⟨_, rfl⟩
        replace H : (ecdysisref13_Handles.l0 k2 l0 y435 x5_2) = some r := by first | (rw [hy435]; with_reducible exact H) | (have H2_ := (Option.bind_some _ _).symm.trans H; rw [hy435]; with_reducible exact H2_) | (have H2_ := (Option.bind_some _ _).symm.trans H; with_reducible exact H2_) | with_reducible exact H | (rw [hy435]; exact H) | exact H
        have Ny435 := Aside0.mk hy435
        clear hy435
        have H' := Aside0.mk H
        clear H
        go_wp2_with (first | ((with_reducible refine gate_callee (f := 43) rfl ?_); refine goesL_ (some 38) rfl rfl Try.func43 (by kernel_rfl) rfl #[.int .u64 x5_2] rfl (by (try simp only [List.map_toArray, List.map_cons, List.map_nil]); first | done | rfl | (simp only [List.length_drop, List.length_take]; rfl)) ?_; (with_reducible refine (ecdysisref11_Unpack.calls x5_2 t433 t434 _ A13.out).mono ?_); rintro e w15 ⟨rfl, hb⟩; refine ⟨_, rfl, ?_⟩; have n0_ := Aside0.mk (Kd.R_below (by (with_reducible repeat (first | apply Kd.R_alloc | apply Kd.R_drewN | apply Kd.R_drew)); exact HO_3.out) hb); have n1_ := Aside0.mk (below_step (by repeat (first | (with_reducible first | exact HB.out | apply below_alloc | apply pw_below_drewN | apply below_drew1) | exact HB.out)) hb); clear HO_3; clear HB; have HO_3 := n0_; have HB := n1_; clear n0_ n1_; (try clear hb); (try clear hb2); (try clear hk); (try clear hi)) | ((with_reducible refine gate_builtin (b := .append) (xs := #[.tmp 36, .tmp 39]) rfl ?_); at_builtin; refine Kd.R_append k29 (w0 := w) w.heap.size rfl (.tmp 36) (.tmp 39) 44 29 (.agg #[(.int .i64 0), (.int .i64 0)]) 16 rfl Try.underlying44 info29 rfl (by decide) (by omega) u3 x3_1 (⟨t433, t434⟩ : S29) [.int .i64 t433, .int .i64 t434] (fun _ => True) (fun _ => False) rfl rfl ?aP (fun _ hk => hk.elim) ?aF ?aO ?aB ?aS ?aL ?_; (case aP => exact k29_mkM _ _ _ (⟨t433, t434⟩ : S29)); (case aB => exact (by repeat (first | (with_reducible first | exact HB.out | apply below_alloc | apply pw_below_drewN | apply below_drew1) | exact HB.out))); (case aF => exact (fun _ _ => trivial)); (case aO => exact (by (with_reducible repeat (first | apply Kd.R_alloc | apply Kd.R_drewN | apply Kd.R_drew)); exact HO_3.out)); (case aS => exact (below_size (by repeat (first | (with_reducible first | exact HB.out | apply below_alloc | apply pw_below_drewN | apply below_drew1) | exact HB.out)))); (case aL => have := LMc14.out; omega); intro v436 w16 ho hb hg hat; rw [← Ny435.out] at ho; have n0_ := Aside0.mk (hb); have n1_ := Aside0.mk (ho); clear HB; clear HO_3; have HB := n0_; have HO437 := n1_; clear n0_ n1_; clear ho hb hg hat))
        go_roundg k2
        case measure => have := HK1.out; have := HK2.out; omega
        case rel => exact ⟨(y435), (x5_2), (by first | rfl | (simp; done) | (simp [*]; done)), H', ⟨by have := HK1.out; have := HK2.out; omega⟩, ⟨by (with_reducible repeat (first | apply Kd.R_alloc | apply Kd.R_drewN | apply Kd.R_drew)); exact HO437.out⟩, ⟨by repeat (first | (with_reducible first | exact HB.out | apply below_alloc | apply pw_below_drewN | apply below_drew1) | exact HB.out)⟩⟩
       ·rw [if_neg c14] at H
        exact absurd H (by simp)




end Go.Proofs.Ytliclajcifeneaa.PHandRR
