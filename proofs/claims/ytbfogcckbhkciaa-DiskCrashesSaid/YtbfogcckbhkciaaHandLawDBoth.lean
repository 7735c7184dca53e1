/- DiskBoth: the walk. -/
import Derived.Test.YtbfogcckbhkciaaHandDkAlive
import Derived.Test.YtbfogcckbhkciaaHandDkW
import Derived.Test.YtbfogcckbhkciaaHandTake
import Derived.Deep.RegionHeld
namespace Go.Proofs.Ytbfogcckbhkciaa.Hand
open Go.RowKit Go.Maps Go.Proofs.YtbfogcckbhkciaaW.PrintWords
set_option linter.unusedVariables false
set_option linter.unusedSimpArgs false
theorem zeros_word (n k : Nat) (hk : k < n) : word (List.replicate (8 * n) 0) k = List.replicate 8 0 := by
  rw [word, cut, List.drop_replicate, List.take_replicate]
  congr 1
  omega
theorem zeros_cln (n : Nat) : Cln (Dev.of (List.replicate (8 * n) 0)) n (fun _ => List.replicate 8 0) :=
  ⟨by simp [Dev.of], fun k hk => zeros_word n k hk, fun _ => rfl, fun _ => rfl⟩
theorem mkW_zero : mkW (List.replicate 8 0) = (0, 0) := by decide +kernel
theorem full_is {d : Dev} {n : Nat} {W : Nat → List Int} (h : Cln d n W) (hn : 0 < n) {l : List Int} (h1 : l.length ≤ 8 * ((n - 1) / 2)) (h2 : (mkW (W 0)).1 < 4294967295) : ¬ FullD d l := by
  rw [FullD, Is.room h hn, Is.mark h hn]
  omega
theorem read_dev80 {S : Nat → Prop} {w w1 : World} {A : Option Addr} {l : List Int} {base : Nat} (hr : ReadsInt w .u8 A 80 l) (hb : ∀ ad, A = some ad → base ≤ ad.block) (hf : Fr S w w1) (hs : ∀ b, S b → b < base) : ReadsInt w1 .u8 A 80 l :=
  reads_frA hr hf (fun _ ad e h1 => absurd (hs _ h1) (Nat.not_lt.2 (hb ad e)))
set_option maxRecDepth 100000 in
theorem dboth_long (A : Option Addr) (c : Nat) (l : List Int) (B : Option Addr) (e : Nat) (m : List Int) (w : World) (hr : ReadsInt w .u8 A l.length l) (hb : Bys l) (hs : ReadsInt w .u8 B m.length m) (hbm : Bys m) (h : 80 < l.length ∨ 80 < m.length) : Calls Try.prog 16 #[.slice A l.length c, .slice B m.length e] w fun e w' => e = .returned (.bool true) ∧ Below w.heap.size w w' := by
  have HN := Aside0.mk (show Calls Try.prog 27 #[.int .i64 21] w (NewDev w (List.replicate 168 0)) from new_calls w 21 (by omega))
  have hl := hr.2.1
  have hm := hs.2.1
  clear hr hb hs hbm
  rcases (show 80 < l.length ∨ (¬ 80 < l.length ∧ 80 < m.length) by omega) with h1 | ⟨h1, h2⟩
  all_goals
    clear h
    go_enter Try.func16, Try.ntmps16
    go_wp2_with (first | (go_at_call 27; ((with_reducible refine HN.out.mono ?_); rintro e w1 ⟨p, v, s, f, rfl, hd1, hp1, hv1, hb1⟩; have HB1 := Aside0.mk hb1; clear hd1 hp1 hv1 hb1)) | (go_at_call 48; ((with_reducible refine (dk_alive _).mono ?_); rintro e w3 ⟨rfl, hb⟩; have HB3 := Aside0.mk (bel_step HB1.out hb); clear hb)))
    all_goals
      go_ret
      exact ⟨rfl, HB3.out⟩
theorem dboth_plain {l m : List Int} (hl : l.length ≤ 80) (hm : m.length ≤ 80) : ∃ X1 Y : List Int, ¬ FullD (Dev.of (List.replicate 168 0)) l ∧ ¬ FullD ((Dev.of (List.replicate 168 0)).save l) m ∧
    (dmark ((Dev.of (List.replicate 168 0)).save l)).1 = 1 ∧ loadL ((Dev.of (List.replicate 168 0)).save l) = X1 ∧ X1.length = 80 ∧
    (dmark (((Dev.of (List.replicate 168 0)).save l).save m)).1 = 2 ∧ loadL (((Dev.of (List.replicate 168 0)).save l).save m) = Y ∧ Y.length = 80 ∧ Y.take m.length = m ∧ cut (((Dev.of (List.replicate 168 0)).save l).save m).B 8 80 = X1 ∧ (((Dev.of (List.replicate 168 0)).save l).save m).B.length = 168 := by
  have h0 : Cln (Dev.of (List.replicate 168 0)) 21 (fun _ => List.replicate 8 0) := zeros_cln 21
  generalize Dev.of (List.replicate 168 0) = d at *
  have f0 : ¬ FullD d l := full_is h0 (by omega) (by omega) (by simp only [mkW_zero]; decide)
  have h1 := save_cln h0 (by omega) f0
  have k1 := saved_mark h0 (by omega) f0
  simp only [mkW_zero] at k1
  rw [if_pos trivial] at k1
  have f1 : ¬ FullD (d.save l) m := full_is h1 (by omega) (by omega) (by rw [k1]; decide)
  obtain ⟨r1, e1, z1⟩ := saved_load h0 (by omega) f0
  generalize hW : savedW 21 l (fun _ => List.replicate 8 0) = W1 at *
  have h2 := save_cln h1 (by omega) f1
  have k2 := saved_mark h1 (by omega) f1
  obtain ⟨r2, e2, z2⟩ := saved_load h1 (by omega) f1
  have hi : i0W 21 W1 = 11 := by rw [i0W, k1]; rfl
  rw [k1, if_neg (by decide)] at k2
  refine ⟨l ++ r1, m ++ r2, f0, f1, ?_, e1, by omega, ?_, e2, by omega, by simp, ?_, h2.len⟩
  · rw [Is.mark h1 (by omega), k1]; rfl
  · rw [Is.mark h2 (by omega), k2]; rfl
  · have ec := Is.cut h2 (a := 1) (m := 10) (by omega)
    have el := Is.load h1 (by omega) (by rw [k1]; decide)
    rw [k1] at el
    rw [← e1, el, show (cut ((d.save l).save m).B 8 80) = cut ((d.save l).save m).B (8 * 1) (8 * 10) from rfl, ec]
    refine mapW_congr (fun j hj1 hj2 => ?_)
    rw [savedW, allW, if_neg (by omega), newW, hi, if_neg (by omega)]
set_option maxRecDepth 100000 in
set_option maxHeartbeats 2000000 in
theorem dboth_good (A : Option Addr) (c : Nat) (l : List Int) (B : Option Addr) (e : Nat) (m : List Int) (w : World) (hr : ReadsInt w .u8 A l.length l) (hb : Bys l) (hs : ReadsInt w .u8 B m.length m) (hbm : Bys m) (h1 : l.length ≤ 80) (h2 : m.length ≤ 80) : Calls Try.prog 16 #[.slice A l.length c, .slice B m.length e] w fun e w' => e = .returned (.bool true) ∧ Below w.heap.size w w' := by
  have HN := Aside0.mk (show Calls Try.prog 27 #[.int .i64 21] w fun e w' => ∃ (q : Nat) (u : Value) (s f : Nat), e = .returned (.tuple #[.pointer (some ⟨q, 0, none⟩), .int .i64 0]) ∧ HasD w' q u s f (Dev.of (List.replicate 168 0)) ∧ w.heap.size ≤ q ∧ (∀ b, OwnD u s f b → w.heap.size ≤ b) ∧ Below w.heap.size w w' from new_calls w 21 (by omega))
  obtain ⟨X1, Y, f0, f1, k1, e1, z1, k2, e2, z2, ht, hc, hlen⟩ := dboth_plain h1 h2
  generalize Dev.of (List.replicate 168 0) = d0 at *
  obtain ⟨d1, hd1⟩ : ∃ d1, d1 = d0.save l := ⟨_, rfl⟩
  rw [← hd1] at f1 k1 e1 k2 e2 hc hlen
  obtain ⟨d2, hd2⟩ : ∃ d2, d2 = d1.save m := ⟨_, rfl⟩
  rw [← hd2] at k2 e2 hc hlen
  have HRA := Aside0.mk hr
  have HRB := Aside0.mk hs
  have HSA := Aside0.mk (fun (w : World) (p : Nat) (v : Value) (s f : Nat) (hh : HasD w p v s f d0) (hr : ReadsInt w .u8 A l.length l) => show Calls Try.prog 49 #[.pointer (some ⟨p, 0, none⟩), .slice A l.length c] w (fun e w' => e = .returned (.int .i64 0) ∧ HasD w' p v s f d1 ∧ Fr (OwnD v s f) w w') from by rw [hd1]; exact save_good w p v s f d0 A c l hh hr hb f0)
  have HSB := Aside0.mk (fun (w : World) (p : Nat) (v : Value) (s f : Nat) (hh : HasD w p v s f d1) (hr : ReadsInt w .u8 B m.length m) => show Calls Try.prog 49 #[.pointer (some ⟨p, 0, none⟩), .slice B m.length e] w (fun e w' => e = .returned (.int .i64 0) ∧ HasD w' p v s f d2 ∧ Fr (OwnD v s f) w w') from by rw [hd2]; exact save_good w p v s f d1 B e m hh hr hbm f1)
  have HL1 := Aside0.mk (fun (w : World) (p : Nat) (v : Value) (s f : Nat) (hh : HasD w p v s f d1) => show Calls Try.prog 51 #[.pointer (some ⟨p, 0, none⟩)] w (fun e w' => ∃ A c, e = .returned (.tuple #[.slice A 80 c, .int .i64 1, .int .i64 0]) ∧ ReadsInt w' .u8 A 80 X1 ∧ 80 ≤ c ∧ (0 < 80 → ∀ ad, A = some ad → w.heap.size ≤ ad.block) ∧ Below w.heap.size w w') from by have := load_more w p v s f d1 hh (by rw [k1]; decide); rw [e1, z1, k1] at this; exact this)
  have HL2 := Aside0.mk (fun (w : World) (p : Nat) (v : Value) (s f : Nat) (hh : HasD w p v s f d2) => show Calls Try.prog 51 #[.pointer (some ⟨p, 0, none⟩)] w (fun e w' => ∃ A c, e = .returned (.tuple #[.slice A 80 c, .int .i64 2, .int .i64 0]) ∧ ReadsInt w' .u8 A 80 Y ∧ 80 ≤ c ∧ (0 < 80 → ∀ ad, A = some ad → w.heap.size ≤ ad.block) ∧ Below w.heap.size w w') from by have := load_more w p v s f d2 hh (by rw [k2]; decide); rw [e2, z2, k2] at this; exact this)
  have HRD := Aside0.mk (fun (w : World) (p : Nat) (v : Value) (s f : Nat) (hh : HasD w p v s f d2) => show Calls Try.prog 31 #[.pointer (some ⟨p, 0, none⟩), .int .i64 8, .int .i64 80] w (fun e w' => ∃ A c, e = .returned (.tuple #[.slice A 80 c, .int .i64 0]) ∧ ReadsInt w' .u8 A 80 X1 ∧ Below w.heap.size w w') from by
    refine (show Calls Try.prog _ #[.pointer (some ⟨p, 0, none⟩), .int .i64 8, .int .i64 80] _ _ from read_good w p v s f d2 8 80 hh (by rw [insE_nat, if_pos (by omega)])).mono ?_
    rintro e w' ⟨u, rfl, hu, hb⟩
    rw [hc] at hu
    obtain ⟨A', c', rfl, _, hr'⟩ := reads_own2 hu
    rw [z1] at hr' ⊢
    exact ⟨A', c', rfl, hr', hb⟩)
  have HT := Aside0.mk ht
  have HZ2 := Aside0.mk z2
  have l1 : decide (80 < (l.length : Int)) = false := decide_eq_false (by omega)
  have l2 : decide (80 < (m.length : Int)) = false := decide_eq_false (by omega)
  clear hr hb hs hbm f0 f1 k1 e1 z1 k2 e2 z2 ht hc hlen hd1 hd2
  go_enter Try.func16, Try.ntmps16
  go_wp2_with (first | (go_at_call 27; ((with_reducible refine HN.out.mono ?_); rintro e w1 ⟨p, v, s, f, rfl, hd1, hp1, hv1, hb1⟩; have HD1 := Aside0.mk hd1; have HV := Aside0.mk hv1; have HB1 := Aside0.mk hb1; clear hd1 hp1 hv1 hb1)) | (go_at_call 49; (first | ((with_reducible refine (HSB.out _ p v s f HD3.out (HRB.out.below HB3.out)).mono ?_); rintro e w4 ⟨rfl, hd, hf⟩; have HD4 := Aside0.mk hd; have HB4 := Aside0.mk (HB3.out.trans (hf.below _ HB3.out.size (fun b hb => HV.out b hb))); have HX4 := Aside0.mk (read_dev80 HX3.out HG3.out hf (fun b hb => HD2.out.own_lt hb)); clear hd hf) | ((with_reducible refine (HSA.out _ p v s f HD1.out (HRA.out.below HB1.out)).mono ?_); rintro e w2 ⟨rfl, hd, hf⟩; have HD2 := Aside0.mk hd; have HB2 := Aside0.mk (HB1.out.trans (hf.below _ HB1.out.size (fun b hb => HV.out b hb))); clear hd hf))) | (go_at_call 51; (first | ((with_reducible refine (HL2.out _ p v s f HD4.out).mono ?_); rintro e w5 ⟨A5, c5, rfl, hr5, hc5, _, hb5⟩; have HC5 := Aside0.mk hc5; have HD5 := Aside0.mk (HD4.out.move hb5); have HB5 := Aside0.mk (bel_step HB4.out hb5); have HY5 := Aside0.mk hr5; have HX5 := Aside0.mk (HX4.out.below hb5); clear hr5 hb5 hc5) | ((with_reducible refine (HL1.out _ p v s f HD2.out).mono ?_); rintro e w3 ⟨A3, c3, rfl, hr3, _, hg3, hb3⟩; have HG3 := Aside0.mk (hg3 (by decide)); have HD3 := Aside0.mk (HD2.out.move hb3); have HB3 := Aside0.mk (bel_step HB2.out hb3); have HX3 := Aside0.mk hr3; clear hr3 hb3 hg3))) | (go_at_call 31; ((with_reducible refine (HRD.out _ p v s f HD5.out).mono ?_); rintro e w6 ⟨A6, c6, rfl, hr6, hb6⟩; have HB6 := Aside0.mk (bel_step HB5.out hb6); have HF6 := Aside0.mk hr6; have HY6 := Aside0.mk (HY5.out.below hb6); have HX6 := Aside0.mk (HX5.out.below hb6); clear hr6 hb6)))
  have HK6 := Aside0.mk (Below.refl w6.heap.size w6).drew
  have HQ := Aside0.mk (show ∀ W, Below w6.heap.size w6 W → (convert 23 9 (.slice A6 80 c6)).run Try.prog W = .ok (.string (strOfNums X1)) W ∧ (convert 23 9 (.slice A3 80 c3)).run Try.prog W = .ok (.string (strOfNums X1)) W ∧ (convert 23 9 (.slice A5 m.length c5)).run Try.prog W = .ok (.string (strOfNums m)) W ∧ (convert 23 9 (.slice B m.length e)).run Try.prog W = .ok (.string (strOfNums m)) W from fun W hW =>
    ⟨conv_n (HF6.out.below hW), conv_n (HX6.out.below hW), by
      have hy : ReadsInt W .u8 A5 Y.length Y := by rw [HZ2.out]; exact HY6.out.below hW
      have := conv_take (c := c5) m.length (by rw [HZ2.out]; exact h2) hy
      rw [HT.out] at this
      exact this, conv_n (HRB.out.below (bel_step HB6.out hW))⟩)
  have htk := take_run A5 c5 80 m.length h2 HC5.out (by decide)
  go_region_held (fun w' => (convert 23 9 (.slice A6 80 c6)).run Try.prog w' = .ok (.string (strOfNums X1)) w' ∧ (convert 23 9 (.slice A3 80 c3)).run Try.prog w' = .ok (.string (strOfNums X1)) w' ∧ (convert 23 9 (.slice A5 m.length c5)).run Try.prog w' = .ok (.string (strOfNums m)) w' ∧ (convert 23 9 (.slice B m.length e)).run Try.prog w' = .ok (.string (strOfNums m)) w') (first | exact HQ.out _ HK7.out | exact HQ.out _ HK6.out) (first | (go_at_call 48; ((with_reducible refine (dk_alive _).mono ?_); rintro e w7 ⟨rfl, hb⟩; have HB7 := Aside0.mk (bel_step HB6.out.drew hb); have HK7 := Aside0.mk (bel_step HK6.out hb); clear hb)))
  all_goals
    go_wp2
    go_ret
    exact ⟨rfl, HB7.out⟩
theorem diskBoth_walk (A : Option Addr) (c : Nat) (l : List Int) (B : Option Addr) (e : Nat) (m : List Int) (w : World) (hr : ReadsInt w .u8 A l.length l) (hb : Bys l) (_y : l.length ≤ 140737488351232) (hs : ReadsInt w .u8 B m.length m) (hbm : Bys m) (_z : m.length ≤ 140737488351232) : Calls Try.prog 16 #[.slice A l.length c, .slice B m.length e] w fun e w' => e = .returned (.bool true) ∧ Below w.heap.size w w' := by
  by_cases h : 80 < l.length ∨ 80 < m.length
  · exact dboth_long A c l B e m w hr hb hs hbm h
  · exact dboth_good A c l B e m w hr hb hs hbm (by omega) (by omega)
end Go.Proofs.Ytbfogcckbhkciaa.Hand
