/- The walk of a law of layer 4 (awWRooms), over the contracts of the log. -/
import Derived.Test.YtbfogcckbhkciaaHandZ7
namespace Go.Proofs.Ytbfogcckbhkciaa.Hand
open Go.RowKit Go.Maps Go.Proofs.YtbfogcckbhkciaaW.PrintWords Go.Proofs.YtbfogcckbhkciaaW.PrintLast
set_option linter.unusedVariables false
set_option linter.unusedSimpArgs false
theorem new4_any (w : World) (z : Int) : Calls Try.prog 27 #[.int .i64 z] w fun e w' => (e = .returned (.tuple #[.pointer none, .int .i64 1]) ∨ ∃ q : Nat, e = .returned (.tuple #[.pointer (some ⟨q, 0, none⟩), .int .i64 0])) ∧ Below w.heap.size w w' := by
  by_cases h1 : z < 0 ∨ 8192 < z
  · refine (new_bad w z h1).mono ?_
    rintro e w' ⟨rfl, hb⟩
    exact ⟨.inl rfl, hb⟩
  · obtain ⟨m, rfl⟩ : ∃ m : Nat, z = m := ⟨z.toNat, by omega⟩
    refine (new_calls w m (by omega)).mono ?_
    rintro e w' ⟨q, u, s, f, rfl, _, _, _, hb⟩
    exact ⟨.inr ⟨q, rfl⟩, hb⟩
set_option maxRecDepth 100000 in
theorem wrooms_out (n : Int) (w : World) (h : ¬ (1 ≤ n ∧ n ≤ 200)) : Calls Try.prog 10 #[.int .i64 n] w fun e w' => e = .returned (.bool true) ∧ Below w.heap.size w w' := by
  have HN := Aside0.mk (new4_any w)
  rcases (show n < 1 ∨ (1 ≤ n ∧ 200 < n) by omega) with z1 | ⟨z1, z2⟩
  all_goals
    clear h
    go_enter Try.func10, Try.ntmps10
    go_wp2_with (first | (go_at_call 27; ((with_reducible refine (HN.out _).mono ?_); intro e w1 hM; rcases hM with ⟨rfl | ⟨q, rfl⟩, hb⟩ <;> (have HB1 := Aside0.mk hb; clear hb))) | (go_at_call 36; ((with_reducible refine (wal_alive _).mono ?_); rintro e w3 ⟨rfl, hb⟩; have HB3 := Aside0.mk (bel_step HB1.out hb); clear hb)))
    all_goals
      go_ret
      exact ⟨rfl, HB3.out⟩
def roomS (n k : Nat) : List SetT := (List.range k).map fun i => (((n + i % 2 : Nat) : Int), (i : Int))
theorem roomS_length (n k : Nat) : (roomS n k).length = k := by simp [roomS]
theorem roomS_succ (n k : Nat) : roomS n (k + 1) = roomS n k ++ [(((n + k % 2 : Nat) : Int), (k : Int))] := by simp [roomS, List.range_succ]
theorem roomS_wf {n k : Nat} (h : n ≤ 200) (hk : k ≤ 200) : ∀ s ∈ roomS n k, WfSt s := by
  intro s hs
  obtain ⟨i, hi, rfl⟩ := List.mem_map.1 hs
  have := List.mem_range.1 hi
  exact ⟨by simp only; omega, by simp only; omega, by simp only; omega, by simp only; omega⟩
theorem roomS_may {n k : Nat} : ∀ s ∈ roomS n k, mayB (n + 2) 0 n s.1 = true := by
  intro s hs
  obtain ⟨i, hi, rfl⟩ := List.mem_map.1 hs
  simp only [mayB, decide_eq_true_eq]
  omega
theorem roomS_err {n k nx : Nat} (hk : 0 < k) (hr : k ≤ (n - 1) / 2) (hx : nx ≤ 4294967295) : errW (n + 2) 0 n nx (roomS n k) = 0 := by
  rw [errW, if_neg, if_neg, if_neg]
  · rw [roomS_length]; omega
  · intro e
    have := congrArg List.length e
    rw [roomS_length] at this
    simp at this
    omega
  · rw [Bool.not_eq_false, List.all_eq_true]
    exact roomS_may
theorem roomS_full {n nx : Nat} : errW (n + 2) 0 n nx (roomS n ((n - 1) / 2) ++ [((n : Int), 0)]) = 40 := by
  rw [errW, if_neg, if_neg, if_pos]
  · left
    rw [List.length_append, roomS_length, List.length_singleton]
    omega
  · simp
  · rw [Bool.not_eq_false, List.all_eq_true]
    intro s hs
    rcases List.mem_append.1 hs with hs | hs
    · exact roomS_may s hs
    · obtain rfl := List.mem_singleton.1 hs
      simp only [mayB, decide_eq_true_eq]
      omega
theorem roomS_none {n nx : Nat} : errW (n + 2) 0 n nx (roomS n 0) = 1 := by
  rw [errW, if_neg (by simp [roomS]), if_pos (by simp [roomS])]
/-- The first commit. -/
theorem wr_first {n : Nat} (h0 : 1 ≤ n) (h1 : n ≤ 200) (d : Dev) (hl : d.B.length / 8 = n + 2) : ∃ (r : Int) (D2 : Dev) (n2 : Nat), D2.B.length / 8 = n + 2 ∧ n2 ≤ 2 ∧ ((r = 0 ∧ 0 < (n - 1) / 2) ∨ (r = 1 ∧ (n - 1) / 2 = 0)) ∧
    ∀ (W : World) (p : Nat) (v : Value) (s f q : Nat) (A : Option Addr) (c : Nat), HasD W p v s f d → HasL W q p 0 n 1 → ¬ OwnD v s f q → SetK.C W A ((n - 1) / 2) (roomS n ((n - 1) / 2)) →
      Calls Try.prog 42 #[.pointer (some ⟨q, 0, none⟩), .slice A ((n - 1) / 2) c] W (fun e w' => e = .returned (.int .i64 r) ∧ HasD w' p v s f D2 ∧ HasL w' q p 0 n n2 ∧ Fr (fun b => OwnD v s f b ∨ b = q) W w') := by
  obtain ⟨k, hk⟩ : ∃ k, k = (n - 1) / 2 := ⟨_, rfl⟩
  rw [← hk]
  have hlen := roomS_length n k
  by_cases hk0 : 0 < k
  · have he : errW (d.B.length / 8) 0 n 1 (roomS n k) = 0 := by rw [hl]; exact roomS_err hk0 (by omega) (by decide)
    by_cases hok : ∃ (W : World) (p : Nat) (v : Value) (s f : Nat), HasD W p v s f d
    · obtain ⟨W0, p0, v0, s0, f0, h0d⟩ := hok
      refine ⟨0, d.steps (walM 0 1 (roomS n k)), 2, ?_, by decide, .inl ⟨rfl, hk0⟩, fun W p v s f q A c hd hq hqo hs => ?_⟩
      rotate_left
      · have := commit_good W q p v s f d 0 n 1 A c (roomS n k) hd hq hqo h0 (by omega) (by rw [hlen]; exact hs) (roomS_wf h1 (by omega)) he
        rw [hlen] at this
        exact this
      · have hs := (Dev.steps_ok h0d.ok (ms := walM 0 1 (roomS n k)) (walS_okm (headL_bys _ _ _) (bodyL_bys _))).2
        rw [hs]
        exact hl
    · exact ⟨0, d, 2, hl, by decide, .inl ⟨rfl, hk0⟩, fun W p v s f q A c hd _ _ _ => absurd ⟨W, p, v, s, f, hd⟩ hok⟩
  · obtain rfl : k = 0 := by omega
    refine ⟨1, d, 1, hl, by decide, .inr ⟨rfl, rfl⟩, fun W p v s f q A c hd hq hqo hs => ?_⟩
    have he : errW (d.B.length / 8) 0 n 1 (roomS n 0) = 1 := by rw [hl]; exact roomS_none
    have := commit_bad W q p v s f d 0 n 1 A c (roomS n 0) hd hq h0 (by omega) (by rw [hlen]; exact hs) (by rw [he]; decide)
    rw [he, hlen] at this
    exact this.mono (fun e w' h => ⟨h.1, hd.move h.2, hq.below h.2, Fr.of_below h.2 _⟩)
theorem wr_open {w : World} {p : Nat} {v : Value} {s f : Nat} {n : Nat} (h1 : 1 ≤ n) (h : HasD w p v s f (Dev.of (List.replicate (8 * (n + 2)) 0))) : Calls Try.prog 41 #[.pointer (some ⟨p, 0, none⟩), .int .i64 0, .int .i64 (n : Int)] w fun e w' => ∃ (q : Nat), e = .returned (.tuple #[.pointer (some ⟨q, 0, none⟩), .int .i64 0]) ∧ HasL w' q p 0 n 1 ∧ w.heap.size ≤ q ∧ Below w.heap.size w w' := by
  have hl : (Dev.of (List.replicate (8 * (n + 2)) 0)).B.length / 8 = n + 2 := by rw [(zerosW_cln (n + 2)).len]; omega
  have := open4_good w p v s f _ 0 n h h1 (by rw [hl]; omega)
  rw [zerosW_rec (n := n + 2) h1 (by omega)] at this
  exact this
theorem rowSt_at {w w1 : World} {base : Nat} {v : Value} {xs : List SetT} (h : RowSt w base v xs) (hb : ∀ b, some b = v.ownBlock → w1.heap[b]? = w.heap[b]?) : RowSt w1 base v xs := by
  obtain ⟨h0, ho⟩ := R_flat.1 h
  refine R_flat.2 ⟨h0, ho.1, ?_⟩
  rcases ho.2 with h2 | ⟨g, cap, cur, e, hg, h3, r⟩
  · exact .inl h2
  · exact .inr ⟨g, cap, cur, e, hg, (hb g (by rw [e]; rfl)).trans h3, r⟩
theorem rowSt_fr {S : Nat → Prop} {w w1 : World} {base : Nat} {v : Value} {xs : List SetT} (h : RowSt w base v xs) (hf : Fr S w w1) (hs : ∀ b, base ≤ b → ¬ S b) : RowSt w1 base v xs := by
  refine rowSt_at h (fun b hb => ?_)
  obtain ⟨h0, ho⟩ := R_flat.1 h
  rcases ho.2 with ⟨e, _⟩ | ⟨g, cap, cur, e, hg, h3, r⟩
  · rw [e] at hb; simp [Value.ownBlock] at hb
  · rw [e] at hb
    obtain rfl : b = g := by simpa [Value.ownBlock] using hb
    exact hf.block b (blk_lt h3) (hs b hg)
set_option maxRecDepth 100000 in
set_option maxHeartbeats 4000000 in
theorem wrooms_good (n : Nat) (w : World) (h0 : 1 ≤ n) (h1 : n ≤ 200) : Calls Try.prog 10 #[.int .i64 (n : Int)] w fun e w' => e = .returned (.bool true) ∧ Below w.heap.size w w' := by
  obtain ⟨d0, hd0⟩ : ∃ d0, d0 = Dev.of (List.replicate (8 * (n + 2)) 0) := ⟨_, rfl⟩
  have hl0 : d0.B.length / 8 = n + 2 := by rw [hd0, (zerosW_cln (n + 2)).len]; omega
  have HN := Aside0.mk (show Calls Try.prog 27 #[.int .i64 ((n : Int) + 2)] w fun e w' => ∃ (q : Nat) (u : Value) (s f : Nat), e = .returned (.tuple #[.pointer (some ⟨q, 0, none⟩), .int .i64 0]) ∧ HasD w' q u s f d0 ∧ w.heap.size ≤ q ∧ (∀ b, OwnD u s f b → w.heap.size ≤ b) ∧ Below w.heap.size w w' from by rw [hd0]; exact new_calls w (n + 2) (by omega))
  have HOP := Aside0.mk (fun (W : World) (p : Nat) (v : Value) (s f : Nat) (hh : HasD W p v s f d0) => wr_open (w := W) (p := p) (v := v) (s := s) (f := f) h0 (by rw [← hd0]; exact hh))
  obtain ⟨r1, D2, n2, hD2, hn2, hr1, hcm⟩ := wr_first h0 h1 d0 hl0
  have HCM := Aside0.mk hcm
  have HC2 := Aside0.mk (fun (W : World) (p : Nat) (v : Value) (s f q : Nat) (A : Option Addr) (c : Nat) (hd : HasD W p v s f D2) (hl : HasL W q p 0 n n2) (hs : SetK.C W A ((n - 1) / 2 + 1) (roomS n ((n - 1) / 2) ++ [((n : Int), 0)])) => show Calls Try.prog 42 #[.pointer (some ⟨q, 0, none⟩), .slice A ((n - 1) / 2 + 1) c] W (fun e w' => e = .returned (.int .i64 40) ∧ Below W.heap.size W w') from by
    have hlen : (roomS n ((n - 1) / 2) ++ [((n : Int), (0 : Int))]).length = (n - 1) / 2 + 1 := by rw [List.length_append, roomS_length]; rfl
    have he : errW (D2.B.length / 8) 0 n n2 (roomS n ((n - 1) / 2) ++ [((n : Int), 0)]) = 40 := by rw [hD2]; exact roomS_full
    have := commit_bad W q p v s f D2 0 n n2 A c (roomS n ((n - 1) / 2) ++ [((n : Int), 0)]) hd hl h0 (by omega) (by rw [hlen]; exact hs) (by rw [he]; decide)
    rw [he, hlen] at this
    exact this)
  have HRM := Aside0.mk (fun (W : World) (q p nx : Nat) (hl : HasL W q p 0 n nx) => room4_calls W q p 0 n nx hl h0 (by omega))
  obtain ⟨r, hr⟩ : ∃ r : Nat, r = (n - 1) / 2 := ⟨_, rfl⟩
  have e1 : ((n : Int) - 1) / 2 = r := by omega
  rw [← hr] at HCM HC2 HRM hr1
  have hr9 : r ≤ 200 := by omega
  have HSL := Aside0.mk (roomS_length n)
  have HSS := Aside0.mk (roomS_succ n)
  have HR1 := Aside0.mk hr1
  have hr1b : 0 ≤ r1 ∧ r1 ≤ 1 := by omega
  have zn1 : decide ((n : Int) < 1) = false := decide_eq_false (by omega)
  have zn2 : decide (200 < (n : Int)) = false := decide_eq_false (by omega)
  clear hd0 hl0 hcm hD2 hn2 hr hr1
  go_enter Try.func10, Try.ntmps10
  go_wp2_with (first | (go_at_call 27; ((with_reducible refine HN.out.mono ?_); rintro e w1 ⟨p, v, s, f, rfl, hd1, hp1, hv1, hb1⟩; have HD1 := Aside0.mk hd1; have HV := Aside0.mk hv1; have HB1 := Aside0.mk hb1; clear hd1 hp1 hv1 hb1)) | (go_at_call 41; ((with_reducible refine (HOP.out _ p v s f HD1.out).mono ?_); rintro e w2 ⟨q, rfl, hl, hq, hb⟩; have HL2 := Aside0.mk hl; have HQ2 := Aside0.mk (not_own_ge HD1.out hq); have HQW := Aside0.mk (Nat.le_trans HB1.out.size hq); have HD2 := Aside0.mk (HD1.out.move hb); have HB2 := Aside0.mk (bel_step HB1.out hb); clear hl hq hb)) | (go_at_call 45; ((with_reducible refine (HRM.out w2 q p 1 HL2.out).mono ?_); rintro e wR ⟨rfl, rfl⟩)))
  go_loopw [7, 54] (fun u i wr => ∃ t : Nat, t ≤ r ∧ i = .int .i64 (t : Int) ∧ Aside0 (RowSt wr w2.heap.size u (roomS n t)) ∧ Aside0 (Below w2.heap.size w2 wr)) (fun _ i _ => (r - intOf i).toNat)
  case atStart => exact ⟨0, Nat.zero_le _, rfl, ⟨Kd.R_nil _ _ _ _ _⟩, ⟨Below.refl _ _⟩⟩
  case round =>
    obtain ⟨t, ht, rfl, HR, HB⟩ := hrel
    by_cases hlt : t < r
    · have e2 : IntKind.i64.wrap ((t : Int) % 2) = (t : Int) % 2 := IntWalk.i64_in _ (by omega)
      have e3 : IntKind.i64.wrap ((n : Int) + (t : Int) % 2) = (n : Int) + (t : Int) % 2 := IntWalk.i64_in _ (by omega)
      have e4 : IntKind.u64.wrap (t : Int) = t := u64_wrap_of (by omega) (by omega)
      have HTK := Aside0.mk (show roomS n (t + 1) = roomS n t ++ [((n : Int) + (t : Int) % 2, (t : Int))] by rw [HSS.out, show ((n + t % 2 : Nat) : Int) = (n : Int) + (t : Int) % 2 by omega])
      have HLK := Aside0.mk (HSL.out t)
      obtain ⟨L, hL⟩ : ∃ L, L = roomS n t := ⟨_, rfl⟩
      rw [← hL] at HR HTK HLK
      clear hL
      go_wp2_with ((with_reducible refine gate_bi (b := .append) (xs := #[.tmp 57, .tmp 65]) rfl ?_); go_must (refine Kd.R_append SetK (w0 := w2) w2.heap.size rfl (.tmp 57) (.tmp 65) 72 78 (.agg #[.int .i64 0, .int .u64 0]) 16 rfl Try.underlying72 info_set rfl (by decide) (by omega) _ L ((n : Int) + (t : Int) % 2, (t : Int)) [.int .i64 ((n : Int) + (t : Int) % 2), .int .u64 (t : Int)] (fun _ => True) (fun _ => False) rfl rfl rfl (fun _ hk => hk.elim) (fun _ _ => trivial) HR.out HB.out HB.out.size (by have := HLK.out; omega) ?_); intro v8 w8 hr8 hb8 hg8 hat8; have HV8 := Aside0.mk hr8; have HB8 := Aside0.mk hb8; clear hr8 hb8 hg8 hat8)
      go_roundw
      case rel => exact ⟨t + 1, by omega, by go_num, ⟨by rw [HTK.out]; exact HV8.out⟩, HB8⟩
      case measure => simp [intOf]; omega
    · obtain rfl : t = r := by omega
      have HLK := Aside0.mk (HSL.out t)
      obtain ⟨L, hL⟩ : ∃ L, L = roomS n t := ⟨_, rfl⟩
      rw [← hL] at HR HCM HC2 HLK
      obtain ⟨A5, c5, rfl, _, hC5⟩ := flat_reads HR.out
      have HC5 := Aside0.mk (show SetK.C wr A5 L.length L from hC5)
      have hll : L.length = t := HLK.out
      rw [hll] at HC5 HR ⊢
      have HBE := Aside0.mk (bel_step HB2.out HB.out)
      have HDE := Aside0.mk (HD2.out.move HB.out)
      have HLE := Aside0.mk (HL2.out.below HB.out)
      have HQL := Aside0.mk (show q < w2.heap.size from blk_lt HL2.out.ptr)
      clear hC5 hL hll
      rcases HR1.out with ⟨rfl, hk⟩ | ⟨rfl, hk⟩
      · have hk1 : ((t : Int) == 0) = false := by simp; omega
        have hk2 : decide (0 < (t : Int)) = true := by simp; omega
        have hk3 : decide (0 < t) = true := by simp; omega
        clear hk
        go_wp2_with (first | (go_at_call 42; (first | ((with_reducible refine (HC2.out _ p v s f q _ _ HD8.out HL8.out HC8.out).mono ?_); rintro e w9 ⟨rfl, hb⟩; have HB9 := Aside0.mk (bel_step HB8.out hb); clear hb) | ((with_reducible refine (HCM.out wr p v s f q A5 c5 HDE.out HLE.out HQ2.out HC5.out).mono ?_); rintro e w7 ⟨rfl, hd, hl, hf⟩; have HD7 := Aside0.mk hd; have HL7 := Aside0.mk hl; have HB7 := Aside0.mk (HBE.out.trans (hf.below _ HBE.out.size (fun b hb => hb.elim (fun h => HV.out b h) (fun h => h ▸ HQW.out)))); have HR7 := Aside0.mk (rowSt_fr HR.out hf (fun b hb h => h.elim (fun h => absurd (HD2.out.own_lt h) (Nat.not_lt.2 hb)) (fun h => by have := HQL.out; omega))); have HZ7 := Aside0.mk (Nat.le_trans HB.out.size hf.size); clear hd hl hf))) | ((with_reducible refine gate_bi (b := .append) (xs := #[.tmp 72, .tmp 75]) rfl ?_); go_must (refine Kd.R_append SetK (w0 := w7) w2.heap.size rfl (.tmp 72) (.tmp 75) 72 78 (.agg #[.int .i64 0, .int .u64 0]) 16 rfl Try.underlying72 info_set rfl (by decide) (by omega) _ L ((n : Int), 0) [.int .i64 (n : Int), .int .u64 0] (fun _ => True) (fun _ => False) rfl rfl rfl (fun _ hk => hk.elim) (fun _ _ => trivial) HR7.out (Below.refl _ _) HZ7.out (by have := HLK.out; omega) ?_); intro v8 w8 hr8 hb8 hg8 hat8; obtain ⟨A8, c8, hv8, _, hC8⟩ := flat_reads hr8; rw [List.length_append, HLK.out, List.length_singleton] at hv8 hC8; subst hv8; have HC8 := Aside0.mk (show SetK.C w8 A8 (t + 1) (L ++ [((n : Int), 0)]) from hC8); have HD8 := Aside0.mk (HD7.out.same (hb8.block p HD2.out.p_lt) (fun b hb => hb8.block b (HD2.out.own_lt hb))); have HL8 := Aside0.mk (show HasL w8 q p 0 n n2 from ⟨(hb8.block q HQL.out).trans HL7.out.ptr⟩); have HB8 := Aside0.mk (HB7.out.trans (hb8.mono HB2.out.size)); clear hr8 hb8 hg8 hat8 hC8) | (go_at_call 36; ((with_reducible refine (wal_alive _).mono ?_); rintro e wA ⟨rfl, hb⟩; have HBA := Aside0.mk (bel_step HB9.out hb); clear hb)))
        all_goals
          go_ret
          refine ⟨?_, HBA.out⟩
          first | rfl | (simp; done) | (simp; omega)
      · have hk1 : ((t : Int) == 0) = true := by simp; omega
        have hk2 : decide (0 < (t : Int)) = false := by simp; omega
        have hk3 : decide (0 < t) = false := by simp; omega
        clear hk
        go_wp2_with (first | (go_at_call 42; (first | ((with_reducible refine (HC2.out _ p v s f q _ _ HD8.out HL8.out HC8.out).mono ?_); rintro e w9 ⟨rfl, hb⟩; have HB9 := Aside0.mk (bel_step HB8.out hb); clear hb) | ((with_reducible refine (HCM.out wr p v s f q A5 c5 HDE.out HLE.out HQ2.out HC5.out).mono ?_); rintro e w7 ⟨rfl, hd, hl, hf⟩; have HD7 := Aside0.mk hd; have HL7 := Aside0.mk hl; have HB7 := Aside0.mk (HBE.out.trans (hf.below _ HBE.out.size (fun b hb => hb.elim (fun h => HV.out b h) (fun h => h ▸ HQW.out)))); have HR7 := Aside0.mk (rowSt_fr HR.out hf (fun b hb h => h.elim (fun h => absurd (HD2.out.own_lt h) (Nat.not_lt.2 hb)) (fun h => by have := HQL.out; omega))); have HZ7 := Aside0.mk (Nat.le_trans HB.out.size hf.size); clear hd hl hf))) | ((with_reducible refine gate_bi (b := .append) (xs := #[.tmp 72, .tmp 75]) rfl ?_); go_must (refine Kd.R_append SetK (w0 := w7) w2.heap.size rfl (.tmp 72) (.tmp 75) 72 78 (.agg #[.int .i64 0, .int .u64 0]) 16 rfl Try.underlying72 info_set rfl (by decide) (by omega) _ L ((n : Int), 0) [.int .i64 (n : Int), .int .u64 0] (fun _ => True) (fun _ => False) rfl rfl rfl (fun _ hk => hk.elim) (fun _ _ => trivial) HR7.out (Below.refl _ _) HZ7.out (by have := HLK.out; omega) ?_); intro v8 w8 hr8 hb8 hg8 hat8; obtain ⟨A8, c8, hv8, _, hC8⟩ := flat_reads hr8; rw [List.length_append, HLK.out, List.length_singleton] at hv8 hC8; subst hv8; have HC8 := Aside0.mk (show SetK.C w8 A8 (t + 1) (L ++ [((n : Int), 0)]) from hC8); have HD8 := Aside0.mk (HD7.out.same (hb8.block p HD2.out.p_lt) (fun b hb => hb8.block b (HD2.out.own_lt hb))); have HL8 := Aside0.mk (show HasL w8 q p 0 n n2 from ⟨(hb8.block q HQL.out).trans HL7.out.ptr⟩); have HB8 := Aside0.mk (HB7.out.trans (hb8.mono HB2.out.size)); clear hr8 hb8 hg8 hat8 hC8) | (go_at_call 36; ((with_reducible refine (wal_alive _).mono ?_); rintro e wA ⟨rfl, hb⟩; have HBA := Aside0.mk (bel_step HB9.out hb); clear hb)))
        all_goals
          go_ret
          refine ⟨?_, HBA.out⟩
          first | rfl | (simp; done) | (simp; omega)
theorem walRooms_walk (n : Int) (w : World) (hn : (Lit.int .i64 n).wf = true) : Calls Try.prog 10 #[.int .i64 n] w fun e w' => e = .returned (.bool true) ∧ Below w.heap.size w w' := by
  by_cases h : 1 ≤ n ∧ n ≤ 200
  · obtain ⟨m, rfl⟩ : ∃ m : Nat, n = m := ⟨n.toNat, by omega⟩
    exact wrooms_good m w (by omega) (by omega)
  · exact wrooms_out n w h
end Go.Proofs.Ytbfogcckbhkciaa.Hand
