/- Write, Flush and Read of a device. -/
import Derived.Test.YtbfogcckbhkciaaHandPm2
namespace Go.Proofs.Ytbfogcckbhkciaa.Hand
open Go.RowKit Go.Maps Go.Proofs.YtbfogcckbhkciaaW.PrintWords
set_option linter.unusedVariables false

/-- The words from one up to another are loose, and not flushed. -/
def Dev.touchTo (d : Dev) (a K : Nat) : Dev := { B := d.B, S := fun j => if a ≤ j ∧ j < K then some ((d.S j).getD (word d.B j)) else d.S j, F := fun j => d.F j && !decide (a ≤ j ∧ j < K) }
theorem Dev.touchTo_start (d : Dev) (a : Nat) : d.touchTo a a = d := by
  obtain ⟨B, S, F⟩ := d
  simp only [Dev.touchTo]
  congr 1
  · funext j; rw [if_neg (by omega)]
  · funext j; rw [decide_eq_false (by omega)]; simp
theorem Dev.touchTo_step (d : Dev) {a K : Nat} (h : a ≤ K) : (d.touchTo a K).touch K = d.touchTo a (K + 1) := by
  obtain ⟨B, S, F⟩ := d
  simp only [Dev.touchTo, Dev.touch]
  congr 1
  · funext j
    by_cases hj : j = K
    · subst hj
      rw [if_pos rfl, if_neg (by omega), if_pos (by omega)]
    · rw [if_neg hj]
      by_cases hjk : a ≤ j ∧ j < K
      · rw [if_pos hjk, if_pos (by omega)]
      · rw [if_neg hjk, if_neg (by omega)]
  · funext j
    by_cases hj : j = K
    · subst hj
      rw [decide_eq_true (show a ≤ j ∧ j < j + 1 by omega)]
      simp
    · have : (j == K) = false := by simp [hj]
      rw [this]
      by_cases hjk : a ≤ j ∧ j < K
      · rw [decide_eq_true hjk, decide_eq_true (show a ≤ j ∧ j < K + 1 by omega)]; simp
      · rw [decide_eq_false hjk, decide_eq_false (show ¬ (a ≤ j ∧ j < K + 1) by omega)]; simp
def Dev.markTo (d : Dev) (a K : Nat) : Dev := { d with F := fun j => d.F j || (decide (a ≤ j ∧ j < K) && (d.S j).isSome) }
theorem Dev.markTo_start (d : Dev) (a : Nat) : d.markTo a a = d := by
  obtain ⟨B, S, F⟩ := d
  simp only [Dev.markTo]
  congr 1
  funext j; rw [decide_eq_false (by omega)]; simp
theorem Dev.markTo_step (d : Dev) {a K : Nat} (h : a ≤ K) : (d.markTo a K).mark K = d.markTo a (K + 1) := by
  obtain ⟨B, S, F⟩ := d
  simp only [Dev.markTo, Dev.mark]
  congr 1
  funext j
  by_cases hj : j = K
  · subst hj
    rw [decide_eq_false (show ¬ (a ≤ j ∧ j < j) by omega), decide_eq_true (show a ≤ j ∧ j < j + 1 by omega)]
    simp
  · have : (j == K) = false := by simp [hj]
    rw [this]
    by_cases hjk : a ≤ j ∧ j < K
    · rw [decide_eq_true hjk, decide_eq_true (show a ≤ j ∧ j < K + 1 by omega)]; simp
    · rw [decide_eq_false hjk, decide_eq_false (show ¬ (a ≤ j ∧ j < K + 1) by omega)]; simp
/-- Is some byte of a word among bytes? -/
def hitB (a long j : Nat) : Bool := decide (a / 8 ≤ j ∧ 8 * j < a + long ∧ 0 < long)
def Dev.write (d : Dev) (a : Nat) (l : List Int) : Dev :=
  { B := d.B.take a ++ (l ++ d.B.drop (a + l.length)), S := fun j => if hitB a l.length j then some ((d.S j).getD (word d.B j)) else d.S j, F := fun j => d.F j && !hitB a l.length j }
def Dev.flush (d : Dev) (a long : Nat) : Dev := { d with F := fun j => d.F j || (hitB a long j && (d.S j).isSome) }
theorem hit_each {a long k : Nat} (h1 : 0 < long → a + long ≤ 8 * k) (h2 : ∀ j, a / 8 ≤ j → j < k → 8 * j < a + long ∧ 0 < long) (j : Nat) : decide (a / 8 ≤ j ∧ j < k) = hitB a long j := by
  rw [hitB]
  refine decide_eq_decide.2 ⟨fun h => ⟨h.1, h2 j h.1 h.2⟩, fun h => ⟨h.1, ?_⟩⟩
  have := h1 h.2.2
  omega
theorem touchTo_hit (d : Dev) {a long k : Nat} (h1 : 0 < long → a + long ≤ 8 * k) (h2 : ∀ j, a / 8 ≤ j → j < k → 8 * j < a + long ∧ 0 < long) :
    d.touchTo (a / 8) k = { B := d.B, S := fun j => if hitB a long j then some ((d.S j).getD (word d.B j)) else d.S j, F := fun j => d.F j && !hitB a long j } := by
  simp only [Dev.touchTo]
  congr 1
  · funext j
    rw [← hit_each h1 h2 j]
    by_cases h : a / 8 ≤ j ∧ j < k
    · rw [if_pos h, if_pos (by simp [h])]
    · rw [if_neg h, if_neg (by simp only [decide_eq_true_eq]; exact h)]
  · funext j
    rw [hit_each h1 h2 j]
theorem markTo_hit (d : Dev) {a long k : Nat} (h1 : 0 < long → a + long ≤ 8 * k) (h2 : ∀ j, a / 8 ≤ j → j < k → 8 * j < a + long ∧ 0 < long) : d.markTo (a / 8) k = d.flush a long := by
  simp only [Dev.markTo, Dev.flush]
  congr 1
  funext j
  rw [hit_each h1 h2 j]
theorem splice_length {B l : List Int} {a : Nat} (h : a + l.length ≤ B.length) : (B.take a ++ (l ++ B.drop (a + l.length))).length = B.length := by
  simp only [List.length_append, List.length_take, List.length_drop]
  omega
theorem splice_bys {B l : List Int} {a : Nat} (hB : Bys B) (hl : Bys l) : Bys (B.take a ++ (l ++ B.drop (a + l.length))) := by
  intro x hx
  rcases List.mem_append.1 hx with hx | hx
  · exact hB x (List.mem_of_mem_take hx)
  · rcases List.mem_append.1 hx with hx | hx
    · exact hl x hx
    · exact hB x (List.mem_of_mem_drop hx)
theorem Dev.Ok.setB {d : Dev} (h : d.Ok) {B : List Int} (hl : B.length = d.B.length) (hb : Bys B) : Dev.Ok { d with B := B } :=
  ⟨by rw [show ({ d with B := B } : Dev).B = B from rfl, hl]; exact h.len, by rw [show ({ d with B := B } : Dev).B = B from rfl, hl]; exact h.max, hb, fun k hk => by rw [show ({ d with B := B } : Dev).B = B from rfl, hl]; exact h.dom k hk, h.safe, h.sub⟩
theorem MapsD.own {s f b : Nat} {v : Value} (h : MapsD s f b) : OwnD v s f b := .inr h
theorem ins_ok {n : Nat} {a long : Int} (h : insE n a long = 0) : 0 ≤ long ∧ 0 ≤ a ∧ a + long ≤ n := by
  unfold insE at h
  split at h
  · cases h
  · split at h
    · cases h
    · omega
/-- A cell lies in no map's block. -/
theorem HasD.cell_off {w : World} {p : Nat} {v : Value} {s f : Nat} {d : Dev} (h : HasD w p v s f d) {a : Addr} {u : Value} (hc : w.cell? a = some u) : ¬ MapsD s f a.block := by
  obtain ⟨e1, c1, h1⟩ := h.safe.blk
  obtain ⟨e2, c2, h2⟩ := h.fl.blk
  rintro (e | e)
  · simp [World.cell?, e, h1] at hc
  · simp [World.cell?, e, h2] at hc
theorem reads_fr {S : Nat → Prop} {w w1 : World} {A : Option Addr} {n : Nat} {l : List Int} (hr : ReadsInt w .u8 A n l) (hf : Fr S w w1) (hs : ∀ a u, w.cell? a = some u → ¬ S a.block) : ReadsInt w1 .u8 A n l :=
  ⟨hr.1, hr.2.1, fun h0 => by
    obtain ⟨ad, e, hx⟩ := hr.2.2 h0
    exact ⟨ad, e, fun j hj => hf.cell (hx j hj) (hs _ _ (hx j hj))⟩⟩
theorem write_bad (w : World) (p : Nat) (v : Value) (s f : Nat) (d : Dev) (a : Int) (A : Option Addr) (n c : Nat) (h : HasD w p v s f d) (hn : n ≤ 9223372036854775807) (he : insE d.B.length a n ≠ 0) :
    Calls Try.prog 23 #[.pointer (some ⟨p, 0, none⟩), .int .i64 a, .slice A n c] w fun e w' => e = .returned (.int .i64 (insE d.B.length a n)) ∧ Below w.heap.size w w' := by
  have HH := Aside0.mk h
  obtain ⟨er, her⟩ : ∃ er, er = insE d.B.length a n := ⟨_, rfl⟩
  have HE := Aside0.mk her.symm
  have hne : (er != 0) = true := by rw [her]; simpa using he
  clear h he her
  go_enter Try.func23, Try.ntmps23
  go_wp2_with (go_at_call 62; (with_reducible refine (ins_calls _ p v s f d a n (HH.out.move (below_alloc (Below.refl _ _) _))).mono ?_); rw [HE.out]; rintro e w2 ⟨rfl, rfl⟩)
  go_ret
  rw [HE.out]
  exact ⟨rfl, below_alloc (Below.refl _ _) _⟩
/-- The words of which some byte is written. -/
def Dev.hitW (d : Dev) (a n : Nat) : Dev := { B := d.B, S := fun j => if hitB a n j then some ((d.S j).getD (word d.B j)) else d.S j, F := fun j => d.F j && !hitB a n j }
theorem each_touch (w : World) (p q : Nat) (v : Value) (s f : Nat) (d : Dev) (a n : Nat) (h : HasD w p v s f d) (hq : w.cell? ⟨q, 0, none⟩ = some (.pointer (some ⟨p, 0, none⟩))) (hqo : ¬ OwnD v s f q) (hin : a + n ≤ d.B.length) :
    Calls Try.prog 63 #[.int .i64 a, .int .i64 n, .func (.func 64) #[] #[.pointer (some ⟨q, 0, none⟩)]] w fun e w' => e = .returned (.tuple #[]) ∧ HasD w' p v s f (d.hitW a n) ∧ Fr (MapsD s f) w w' := by
  have hm := h.ok.max
  have hl8 := h.ok.len
  refine (each_write q a n (fun K W => HasD W p v s f (d.touchTo (a / 8) K) ∧ W.cell? ⟨q, 0, none⟩ = some (.pointer (some ⟨p, 0, none⟩)) ∧ Fr (MapsD s f) w W) w (by omega) ⟨by rw [Dev.touchTo_start]; exact h, hq, Fr.refl _ _⟩ ?_).mono ?_
  · intro k W h1 h2 h3 hI
    refine (w1_calls p q v s f (d.touchTo (a / 8) k) k W hI.1 hI.2.1 hqo (show 8 * k + 8 ≤ d.B.length by omega)).mono fun e W' hW => ⟨hW.1, by rw [← Dev.touchTo_step d h1]; exact hW.2.1, hW.2.2.cell hI.2.1 (fun e => hqo (.inr e)), hI.2.2.trans' hW.2.2⟩
  · rintro e w2 ⟨rfl, K, hK1, hK2, hK3, hS2, hq2, hf2⟩
    rw [touchTo_hit d hK2 hK3] at hS2
    exact ⟨rfl, hS2, hf2⟩
theorem each_mark (w : World) (p q : Nat) (v : Value) (s f : Nat) (d : Dev) (a n : Nat) (h : HasD w p v s f d) (hq : w.cell? ⟨q, 0, none⟩ = some (.pointer (some ⟨p, 0, none⟩))) (hqo : ¬ OwnD v s f q) (hin : a + n ≤ d.B.length) :
    Calls Try.prog 63 #[.int .i64 a, .int .i64 n, .func (.func 66) #[] #[.pointer (some ⟨q, 0, none⟩)]] w fun e w' => e = .returned (.tuple #[]) ∧ HasD w' p v s f (d.flush a n) ∧ Fr (MapsD s f) w w' := by
  have hm := h.ok.max
  have hl8 := h.ok.len
  refine (each_flush q a n (fun K W => HasD W p v s f (d.markTo (a / 8) K) ∧ W.cell? ⟨q, 0, none⟩ = some (.pointer (some ⟨p, 0, none⟩)) ∧ Fr (MapsD s f) w W) w (by omega) ⟨by rw [Dev.markTo_start]; exact h, hq, Fr.refl _ _⟩ ?_).mono ?_
  · intro k W h1 h2 h3 hI
    refine (f1_calls p q v s f (d.markTo (a / 8) k) k W hI.1 hI.2.1 (show 8 * k + 8 ≤ d.B.length by omega)).mono fun e W' hW => ⟨hW.1, by rw [← Dev.markTo_step d h1]; exact hW.2.1, hW.2.2.cell hI.2.1 (fun e => hqo (.inr e)), hI.2.2.trans' hW.2.2⟩
  · rintro e w2 ⟨rfl, K, hK1, hK2, hK3, hS2, hq2, hf2⟩
    rw [markTo_hit d hK2 hK3] at hS2
    exact ⟨rfl, hS2, hf2⟩
theorem not_own {w : World} {p : Nat} {v : Value} {s f : Nat} {d : Dev} (h : HasD w p v s f d) {b : Nat} (hb : w.heap.size ≤ b) : ¬ OwnD v s f b := fun e => absurd (h.own_lt e) (Nat.not_lt.2 hb)
set_option maxRecDepth 100000 in
theorem write_good (w : World) (p : Nat) (v : Value) (s f : Nat) (d : Dev) (a : Nat) (A : Option Addr) (n c : Nat) (l : List Int) (hn : l.length = n) (h : HasD w p v s f d) (hr : ReadsInt w .u8 A n l) (hb : Bys l) (he : insE d.B.length a n = 0) :
    Calls Try.prog 23 #[.pointer (some ⟨p, 0, none⟩), .int .i64 a, .slice A n c] w fun e w' => e = .returned (.int .i64 0) ∧ HasD w' p v s f (d.write a l) ∧ Fr (OwnD v s f) w w' := by
  have HH := Aside0.mk h
  have HE := Aside0.mk he
  have HN := Aside0.mk hn
  obtain ⟨_, _, hin⟩ := ins_ok he
  have hm := h.ok.max
  obtain ⟨B0, c0, hv, hc0, hr0⟩ := h.reads
  subst hv
  have HSw := Aside0.mk (h.move (below_alloc (Below.refl _ _) (.cells #[.pointer (some ⟨p, 0, none⟩)] 27)))
  have HQ := Aside0.mk (show (w.alloc (.cells #[.pointer (some ⟨p, 0, none⟩)] 27)).cell? ⟨w.heap.size, 0, none⟩ = some (.pointer (some ⟨p, 0, none⟩)) from blk_cell (heap_alloc_new _ _) (i := 0) rfl)
  have HR := Aside0.mk hr
  have HBY := Aside0.mk hb
  by_cases h0 : 0 < n
  · obtain ⟨g, cap, hvg, hg1, hg2, hcap, hcap2⟩ := own_slice_form h.row (by omega)
    simp only [Value.slice.injEq] at hvg
    obtain ⟨rfl, _, rfl⟩ := hvg
    clear h he hr hb hn hr0
    go_enter Try.func23, Try.ntmps23
    go_wp2_with (first | (go_at_call 62; (with_reducible refine (ins_calls _ p _ s f d a n (HH.out.move (below_alloc (Below.refl _ _) _))).mono ?_); rw [HE.out]; rintro e w1 ⟨rfl, rfl⟩) | (go_at_call 63; (with_reducible refine (each_touch _ p w.heap.size _ s f d a n HSw.out HQ.out (not_own HH.out (Nat.le_refl _)) (by omega)).mono ?_); rintro e w2 ⟨rfl, hS2, hf2⟩; have HS2 := Aside0.mk hS2; have HF2 := Aside0.mk hf2; have p0 := blk_cell hS2.ptr (i := 0) rfl; have q2 := hf2.cell HQ.out (fun e => not_own HH.out (Nat.le_refl _) (.inr e)); clear hS2 hf2) | ((with_reducible refine gate_bi (b := .copy) (xs := #[.tmp 26, .tmp 27]) rfl ?_); go_must (refine wpList_copy_at (enc := Value.int .u8) (h1 := fun _ => rfl) (0 : Int) rfl (.tmp 26) (.tmp 27) 23 23 5 rfl Try.underlying23 (by kernel_rfl) g c0 a (some ⟨g, a, none⟩) (d.B.length - a) (c0 - a) d.B l A n c 0 (fun k => k ≠ p) rfl rfl (show Kd.R (Kd.int .u8) 5 w2 0 (fun k => k ≠ p) (.slice (some ⟨g, 0, none⟩) d.B.length c0) d.B from HS2.out.row) (Kd.C_of_reads (d := (0 : Int)) (h1 := fun _ => rfl) (reads_fr (HR.out.below (below_alloc (Below.refl _ _) _)) HF2.out (fun x u hx => HSw.out.cell_off hx))) (by omega) (by omega) (fun _ => rfl) ?_); intro w3 hr3 hg3))
    go_ret
    have hfr : Fr (OwnD (.slice (some ⟨g, 0, none⟩) d.B.length c0) s f) w2 w3 := (Fr.refl _ _).grown hg3 (fun k hk => .inl (.inl hk.symm))
    refine ⟨rfl, ?_, (((Fr.refl _ _).alloc _).trans' (HF2.out.mono (fun b hb => hb.own))).trans' hfr⟩
    have hS := HS2.out
    have hne : ∀ b, b ≠ g → b < w2.heap.size → w3.heap[b]? = w2.heap[b]? := fun b hb hl => hg3.block b hl (fun e => hb (Option.some.inj e))
    have hgs := hS.v_ne (b := g) rfl
    have hln : (d.B.take a ++ (l ++ d.B.drop (a + n))).length = d.B.length := by rw [← HN.out]; exact splice_length (by rw [HN.out]; omega)
    have e : d.write a l = { d.hitW a n with B := d.B.take a ++ (l ++ d.B.drop (a + n)) } := by rw [Dev.write, Dev.hitW, HN.out]
    rw [e]
    exact ⟨(hne p (fun e => hg2 e.symm) hS.p_lt).trans hS.ptr, hr3, hS.safe.same (hne s hgs.1.symm hS.safe.lt), hS.fl.same (hne f hgs.2.symm hS.fl.lt), hS.ne, hS.ok.setB hln (by rw [← HN.out]; exact splice_bys HH.out.ok.bys HBY.out)⟩
  · obtain ⟨D, hdr, hdq⟩ := drop_run B0 c0 d.B a (by omega) hc0
    have HN0 := Aside0.mk (show n = 0 by omega)
    clear h he hr0 hr hb hn h0 hdq
    go_enter Try.func23, Try.ntmps23
    go_wp2_with (first | (go_at_call 62; (with_reducible refine (ins_calls _ p _ s f d a n (HH.out.move (below_alloc (Below.refl _ _) _))).mono ?_); rw [HE.out]; rintro e w1 ⟨rfl, rfl⟩) | (go_at_call 63; (with_reducible refine (each_touch _ p w.heap.size _ s f d a n HSw.out HQ.out (not_own HH.out (Nat.le_refl _)) (by omega)).mono ?_); rintro e w2 ⟨rfl, hS2, hf2⟩; have HS2 := Aside0.mk hS2; have HF2 := Aside0.mk hf2; have p0 := blk_cell hS2.ptr (i := 0) rfl; have q2 := hf2.cell HQ.out (fun e => not_own HH.out (Nat.le_refl _) (.inr e)); clear hS2 hf2) | ((with_reducible refine gate_bi (b := .copy) (xs := #[.tmp 26, .tmp 27]) rfl ?_); refine wpList_copy_nothing rfl (.tmp 26) (.tmp 27) 23 23 rfl 5 Try.underlying23 (by kernel_rfl) D A (d.B.length - a) (c0 - a) n c rfl rfl (by rw [HN0.out]; exact Nat.zero_min _) ?_))
    go_ret
    obtain rfl : n = 0 := HN0.out
    obtain rfl : l = [] := List.eq_nil_of_length_eq_zero HN.out
    refine ⟨rfl, ?_, ((Fr.refl _ _).alloc _).trans' (HF2.out.mono (fun b hb => hb.own))⟩
    have e : d.write a [] = d.hitW a 0 := by
      simp only [Dev.write, Dev.hitW, List.length_nil, List.nil_append, Nat.add_zero, List.take_append_drop]
    rw [e]
    exact HS2.out
theorem flush_calls (w : World) (p : Nat) (v : Value) (s f : Nat) (d : Dev) (a n : Nat) (h : HasD w p v s f d) (he : insE d.B.length a n = 0) :
    Calls Try.prog 25 #[.pointer (some ⟨p, 0, none⟩), .int .i64 a, .int .i64 n] w fun e w' => e = .returned (.int .i64 0) ∧ HasD w' p v s f (d.flush a n) ∧ Fr (OwnD v s f) w w' := by
  have HH := Aside0.mk h
  have HE := Aside0.mk he
  obtain ⟨_, _, hin⟩ := ins_ok he
  have hm := h.ok.max
  have HSw := Aside0.mk (h.move (below_alloc (Below.refl _ _) (.cells #[.pointer (some ⟨p, 0, none⟩)] 27)))
  have HQ := Aside0.mk (show (w.alloc (.cells #[.pointer (some ⟨p, 0, none⟩)] 27)).cell? ⟨w.heap.size, 0, none⟩ = some (.pointer (some ⟨p, 0, none⟩)) from blk_cell (heap_alloc_new _ _) (i := 0) rfl)
  clear h he
  go_enter Try.func25, Try.ntmps25
  go_wp2_with (first | (go_at_call 62; (with_reducible refine (ins_calls _ p _ s f d a n (HH.out.move (below_alloc (Below.refl _ _) _))).mono ?_); rw [HE.out]; rintro e w1 ⟨rfl, rfl⟩) | (go_at_call 63; (with_reducible refine (each_mark _ p w.heap.size _ s f d a n HSw.out HQ.out (not_own HH.out (Nat.le_refl _)) (by omega)).mono ?_); rintro e w2 ⟨rfl, hS2, hf2⟩; have HS2 := Aside0.mk hS2; have HF2 := Aside0.mk hf2; clear hS2 hf2))
  go_ret
  exact ⟨rfl, HS2.out, ((Fr.refl _ _).alloc _).trans' (HF2.out.mono (fun b hb => hb.own))⟩
theorem flush_bad (w : World) (p : Nat) (v : Value) (s f : Nat) (d : Dev) (a n : Int) (h : HasD w p v s f d) (he : insE d.B.length a n ≠ 0) :
    Calls Try.prog 25 #[.pointer (some ⟨p, 0, none⟩), .int .i64 a, .int .i64 n] w fun e w' => e = .returned (.int .i64 (insE d.B.length a n)) ∧ Below w.heap.size w w' := by
  have HH := Aside0.mk h
  obtain ⟨er, her⟩ : ∃ er, er = insE d.B.length a n := ⟨_, rfl⟩
  have HE := Aside0.mk her.symm
  have hne : (er != 0) = true := by rw [her]; simpa using he
  clear h he her
  go_enter Try.func25, Try.ntmps25
  go_wp2_with (go_at_call 62; (with_reducible refine (ins_calls _ p _ s f d a n (HH.out.move (below_alloc (Below.refl _ _) _))).mono ?_); rw [HE.out]; rintro e w1 ⟨rfl, rfl⟩)
  go_ret
  rw [HE.out]
  exact ⟨rfl, below_alloc (Below.refl _ _) _⟩
theorem mid_run (A : Option Addr) (c : Nat) (xs : List Int) (a n : Nat) (hj : a + n ≤ xs.length) (hc : xs.length ≤ c) : ∃ A' : Option Addr, (∀ W : World, (Instr.slice 23 (.slice A xs.length c) (some (.int .i64 (a : Int))) (some (.int .i64 ((a : Int) + n))) none).run Try.prog W = .ok (.slice A' n (c - a)) W) ∧
    (∀ w : World, ReadsInt w .u8 A xs.length xs → ReadsInt w .u8 A' n (cut xs a n)) ∧ n ≤ c - a := by
  obtain ⟨i, hi, hz⟩ := info_of
  obtain ⟨A', h1, h2, h3⟩ := print_mid_int (P := Try.prog) (k := .u8) 23 5 Try.underlying23 hi hz A c xs (a : Int) ((a : Int) + n) (by omega) (by omega) (by omega) hc
  have e1 : ((xs.take ((a : Int) + n).toNat).drop (a : Int).toNat) = cut xs a n := by
    rw [show ((a : Int) + n).toNat = a + n by omega, Int.toNat_natCast, cut, ← List.take_drop]
  have e2 : (cut xs a n).length = n := cut_length hj
  rw [e1, e2] at h1 h2 h3
  exact ⟨A', h1, h2, by omega⟩
theorem read_bad (w : World) (p : Nat) (v : Value) (s f : Nat) (d : Dev) (a n : Int) (h : HasD w p v s f d) (he : insE d.B.length a n ≠ 0) :
    Calls Try.prog 31 #[.pointer (some ⟨p, 0, none⟩), .int .i64 a, .int .i64 n] w fun e w' => e = .returned (.tuple #[.slice none 0 0, .int .i64 (insE d.B.length a n)]) ∧ Below w.heap.size w w' := by
  have HH := Aside0.mk h
  obtain ⟨er, her⟩ : ∃ er, er = insE d.B.length a n := ⟨_, rfl⟩
  have HE := Aside0.mk her.symm
  have hne : (er != 0) = true := by rw [her]; simpa using he
  clear h he her
  go_enter Try.func31, Try.ntmps31
  go_wp2_with (go_at_call 62; (with_reducible refine (ins_calls _ p v s f d a n HH.out).mono ?_); rw [HE.out]; rintro e w2 ⟨rfl, rfl⟩)
  go_ret2
  rw [HE.out]
  exact ⟨rfl, Below.refl _ _⟩
theorem read_good (w : World) (p : Nat) (v : Value) (s f : Nat) (d : Dev) (a n : Nat) (h : HasD w p v s f d) (he : insE d.B.length a n = 0) :
    Calls Try.prog 31 #[.pointer (some ⟨p, 0, none⟩), .int .i64 a, .int .i64 n] w fun e w' => ∃ u : Value, e = .returned (.tuple #[u, .int .i64 0]) ∧ Kd.R (Kd.int .u8) 5 w' w.heap.size (fun _ => True) u (cut d.B a n) ∧ Below w.heap.size w w' := by
  have HH := Aside0.mk h
  have HE := Aside0.mk he
  obtain ⟨_, _, hin⟩ := ins_ok he
  have hm := h.ok.max
  obtain ⟨B0, c0, hv, hc0, hr0⟩ := h.reads
  subst hv
  have p0 := blk_cell h.ptr (i := 0) rfl
  have HR := Aside0.mk hr0
  obtain ⟨D, hdr, hdq, hdc⟩ := mid_run B0 c0 d.B a n (by omega) hc0
  have HC := Aside0.mk (show ReadsInt w .u8 D (cut d.B a n).length (cut d.B a n) by rw [cut_length (by omega)]; exact hdq w hr0)
  have HL := Aside0.mk (show (cut d.B a n).length = n from cut_length (by omega))
  clear h he hr0 hdq
  go_enter Try.func31, Try.ntmps31
  go_wp2_with (first | (go_at_call 62; (with_reducible refine (ins_calls _ p _ s f d a n HH.out).mono ?_); rw [HE.out]; rintro e w2 ⟨rfl, rfl⟩) | (go_at_call 61; have hcl := clone_bytes D (c0 - a) (cut d.B a n) w HC.out (by rw [HL.out]; omega); rw [HL.out] at hcl; (with_reducible refine hcl.mono ?_); rintro e w3 ⟨u, rfl, hu3, hb3⟩; clear hcl))
  go_ret2
  exact ⟨u, rfl, hu3, hb3⟩
end Go.Proofs.Ytbfogcckbhkciaa.Hand
