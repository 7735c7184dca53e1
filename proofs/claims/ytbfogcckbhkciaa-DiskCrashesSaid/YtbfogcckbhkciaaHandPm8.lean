/- A call of a script on a device. -/
import Derived.Test.YtbfogcckbhkciaaHandPm7
import Derived.Test.YtbfogcckbhkciaaHandOpenF
namespace Go.Proofs.Ytbfogcckbhkciaa.Hand
open Go.RowKit Go.Maps Go.Proofs.YtbfogcckbhkciaaW.PrintWords
set_option linter.unusedVariables false

/-- A call, as it stands in an argument. -/
structure OpP where
  z : Int
  at_ : Int
  long : Int
  A1 : Option Addr
  c1 : Nat
  bs : List Int
  A2 : Option Addr
  c2 : Nat
  ks : List Int
def encPo (x : OpP) : List Value := [.int .i64 x.z, .int .i64 x.at_, .int .i64 x.long, .slice x.A1 x.bs.length x.c1, .slice x.A2 x.ks.length x.c2]
theorem encPo_len (x : OpP) : (encPo x).length = 5 := rfl
theorem encPo_one (x : OpP) : ∀ u ∈ encPo x, u.oneCell' = true := by
  intro u hu
  simp only [encPo, List.mem_cons, List.not_mem_nil, or_false] at hu
  rcases hu with rfl | rfl | rfl | rfl | rfl <;> rfl
def PoK : Kd OpP := flat encPo 5 encPo_len encPo_one
structure WfPo (w : World) (x : OpP) : Prop where
  rb : ReadsInt w .u8 x.A1 x.bs.length x.bs
  by_ : Bys x.bs
  cb : x.bs.length ≤ x.c1
  rk : ReadsInt w .i64 x.A2 x.ks.length x.ks
  hz : -9223372036854775808 ≤ x.z ∧ x.z ≤ 9223372036854775807
  ha : -9223372036854775808 ≤ x.at_ ∧ x.at_ ≤ 9223372036854775807
  hl : -9223372036854775808 ≤ x.long ∧ x.long ≤ 9223372036854775807
/-- What a call makes of a device. -/
def stepD (d : Dev) (x : OpP) : Dev :=
  if x.z = 0 then (if insE d.B.length x.at_ x.bs.length = 0 then d.write x.at_.toNat x.bs else d)
  else if x.z = 2 then (if insE d.B.length x.at_ x.long = 0 then d.flush x.at_.toNat x.long.toNat else d)
  else if x.z = 3 then d.fence
  else if x.z = 4 then d.crash x.ks
  else d
def runD (d : Dev) (os : List OpP) : Dev := os.foldl stepD d
theorem Dev.Ok.write {d : Dev} (h : d.Ok) {a : Nat} {l : List Int} (hl : Bys l) (hin : a + l.length ≤ d.B.length) : (d.write a l).Ok := by
  have hw : (d.hitW a l.length).Ok := by
    refine ⟨h.len, h.max, h.bys, fun j hj => ?_, fun j c hj => ?_, fun j hj => ?_⟩
    · simp only [Dev.hitW] at hj
      split at hj
      · rename_i hh
        have := h.len
        simp only [hitB, decide_eq_true_eq] at hh
        show 8 * j + 8 ≤ d.B.length
        omega
      · exact h.dom j hj
    · simp only [Dev.hitW] at hj
      split at hj
      · rename_i hh
        simp only [hitB, decide_eq_true_eq] at hh
        have hl8 := h.len
        simp only [Option.some.injEq] at hj
        cases hs : d.S j with
        | some c' =>
          rw [hs] at hj
          obtain rfl : c' = c := hj
          exact h.safe j c' hs
        | none =>
          rw [hs] at hj
          obtain rfl : word d.B j = c := hj
          exact ⟨word_length (by omega), word_bys h.bys j⟩
      · exact h.safe j c hj
    · simp only [Dev.hitW, Bool.and_eq_true, Bool.not_eq_true'] at hj ⊢
      rw [if_neg (by rw [hj.2]; simp)]
      exact h.sub j hj.1
  exact hw.setB (B := d.B.take a ++ (l ++ d.B.drop (a + l.length))) (splice_length hin) (splice_bys h.bys hl)
theorem Dev.Ok.flush {d : Dev} (h : d.Ok) (a n : Nat) : (d.flush a n).Ok := by
  refine ⟨h.len, h.max, h.bys, h.dom, h.safe, fun j hj => ?_⟩
  simp only [Dev.flush, Bool.or_eq_true, Bool.and_eq_true] at hj ⊢
  rcases hj with hj | hj
  · exact h.sub j hj
  · exact hj.2
theorem stepD_len {d : Dev} (h : d.Ok) (x : OpP) : (stepD d x).B.length = d.B.length := by
  unfold stepD
  split
  · split
    · rename_i hi
      obtain ⟨h1, h2, h3⟩ := ins_ok hi
      exact splice_length (by omega)
    · rfl
  · split
    · split <;> rfl
    · split
      · rfl
      · split
        · exact crash_length h _
        · rfl
theorem stepD_ok {d : Dev} (h : d.Ok) {w : World} {x : OpP} (hx : WfPo w x) : (stepD d x).Ok := by
  unfold stepD
  split
  · split
    · rename_i hi
      obtain ⟨h1, h2, h3⟩ := ins_ok hi
      exact h.write hx.by_ (by omega)
    · exact h
  · split
    · split
      · exact h.flush _ _
      · exact h
    · split
      · exact h.fence
      · split
        · exact h.crash _
        · exact h
theorem conv_nil (w : World) : (convert 23 9 (.slice none 0 0)).run Try.prog w = .ok (.string (strOfNums [])) w :=
  conv_reads (w := w) (A := none) (c := 0) (xs := []) ⟨rfl, by simp, fun h => absurd h (by simp)⟩
/-- What a call on a device leaves. -/
def DoesD (w : World) (p : Nat) (v : Value) (s f : Nat) (d : Dev) (e : Ending) (w' : World) : Prop :=
  ∃ (t : ByteArray) (n : Int), e = .returned (.tuple #[.string t, .int .i64 n]) ∧ HasD w' p v s f d ∧ Fr (OwnD v s f) w w'
set_option maxRecDepth 100000 in
theorem does3_write (w : World) (p : Nat) (v : Value) (s f : Nat) (d : Dev) (z a long : Int) (A1 : Option Addr) (c1 : Nat) (bs : List Int) (A2 : Option Addr) (c2 : Nat) (ks : List Int) (h : HasD w p v s f d) (hw : WfPo w ⟨z, a, long, A1, c1, bs, A2, c2, ks⟩) (hz : z = 0) :
    Calls Try.prog 33 #[.pointer (some ⟨p, 0, none⟩), .agg #[.int .i64 z, .int .i64 a, .int .i64 long, .slice A1 bs.length c1, .slice A2 ks.length c2]] w (DoesD w p v s f (stepD d ⟨z, a, long, A1, c1, bs, A2, c2, ks⟩)) := by
  have HH := Aside0.mk h
  have HW := Aside0.mk hw
  subst hz
  by_cases he : insE d.B.length a bs.length = 0
  · obtain ⟨_, h2, h3⟩ := ins_ok he
    obtain ⟨a, rfl⟩ := Int.eq_ofNat_of_zero_le h2
    have HE := Aside0.mk he
    have HST := Aside0.mk (show stepD d ⟨0, (a : Int), long, A1, c1, bs, A2, c2, ks⟩ = d.write a bs by simp only [stepD]; rw [if_pos trivial, if_pos he, Int.toNat_natCast])
    rw [HST.out]
    clear h hw he
    go_enter Try.func33, Try.ntmps33
    go_wp2_with (go_at_call 23; (with_reducible refine (write_good _ p v s f d a A1 bs.length c1 bs rfl (HH.out.move (below_alloc (Below.refl _ _) _)) (HW.out.rb.below (below_alloc (Below.refl _ _) _)) HW.out.by_ HE.out).mono ?_); rintro e w2 ⟨rfl, hs2, hf2⟩; have HS2 := Aside0.mk hs2; have HF2 := Aside0.mk hf2; clear hs2 hf2)
    go_ret2
    exact ⟨_, _, rfl, HS2.out, ((Fr.refl _ _).alloc _).trans' HF2.out⟩
  · have HE := Aside0.mk he
    have HST := Aside0.mk (show stepD d ⟨0, a, long, A1, c1, bs, A2, c2, ks⟩ = d by simp only [stepD]; rw [if_pos trivial, if_neg he])
    rw [HST.out]
    have hln := hw.rb.2.1
    simp only at hln
    clear h hw he
    go_enter Try.func33, Try.ntmps33
    go_wp2_with (go_at_call 23; (with_reducible refine (write_bad _ p v s f d a A1 bs.length c1 (HH.out.move (below_alloc (Below.refl _ _) _)) hln HE.out).mono ?_); rintro e w2 ⟨rfl, hb2⟩; have HB2 := Aside0.mk hb2; clear hb2)
    go_ret2
    exact ⟨_, _, rfl, (HH.out.move (below_alloc (Below.refl _ _) _)).move HB2.out, (Fr.of_below ((below_alloc (Below.refl w.heap.size w) _).trans (HB2.out.mono (by simp))) _)⟩
set_option maxRecDepth 100000 in
theorem does3_read (w : World) (p : Nat) (v : Value) (s f : Nat) (d : Dev) (z a long : Int) (A1 : Option Addr) (c1 : Nat) (bs : List Int) (A2 : Option Addr) (c2 : Nat) (ks : List Int) (h : HasD w p v s f d) (hw : WfPo w ⟨z, a, long, A1, c1, bs, A2, c2, ks⟩) (hz : z = 1) :
    Calls Try.prog 33 #[.pointer (some ⟨p, 0, none⟩), .agg #[.int .i64 z, .int .i64 a, .int .i64 long, .slice A1 bs.length c1, .slice A2 ks.length c2]] w (DoesD w p v s f (stepD d ⟨z, a, long, A1, c1, bs, A2, c2, ks⟩)) := by
  have HH := Aside0.mk h
  subst hz
  have HST := Aside0.mk (show stepD d ⟨1, a, long, A1, c1, bs, A2, c2, ks⟩ = d by simp [stepD])
  rw [HST.out]
  have hm := h.ok.max
  by_cases he : insE d.B.length a long = 0
  · obtain ⟨h1, h2, h3⟩ := ins_ok he
    obtain ⟨a, rfl⟩ := Int.eq_ofNat_of_zero_le h2
    obtain ⟨long, rfl⟩ := Int.eq_ofNat_of_zero_le h1
    have HE := Aside0.mk he
    clear h hw he
    go_enter Try.func33, Try.ntmps33
    go_wp2_with (go_at_call 31; (with_reducible refine (read_good _ p v s f d a long (HH.out.move (below_alloc (Below.refl _ _) _)) HE.out).mono ?_); rintro e w2 ⟨u, rfl, hu, hb2⟩; have HB2 := Aside0.mk hb2; have hcv := conv_own hu; clear hb2)
    go_ret2
    exact ⟨_, _, rfl, (HH.out.move (below_alloc (Below.refl _ _) _)).move HB2.out, (Fr.of_below ((below_alloc (Below.refl w.heap.size w) _).trans (HB2.out.mono (by simp))) _)⟩
  · have HE := Aside0.mk he
    clear h hw he
    go_enter Try.func33, Try.ntmps33
    go_wp2_with (go_at_call 31; (with_reducible refine (read_bad _ p v s f d a long (HH.out.move (below_alloc (Below.refl _ _) _)) HE.out).mono ?_); rintro e w2 ⟨rfl, hb2⟩; have HB2 := Aside0.mk hb2; have hcv := conv_nil w2; clear hb2)
    go_ret2
    exact ⟨_, _, rfl, (HH.out.move (below_alloc (Below.refl _ _) _)).move HB2.out, (Fr.of_below ((below_alloc (Below.refl w.heap.size w) _).trans (HB2.out.mono (by simp))) _)⟩
set_option maxRecDepth 100000 in
theorem does3_flush (w : World) (p : Nat) (v : Value) (s f : Nat) (d : Dev) (z a long : Int) (A1 : Option Addr) (c1 : Nat) (bs : List Int) (A2 : Option Addr) (c2 : Nat) (ks : List Int) (h : HasD w p v s f d) (hw : WfPo w ⟨z, a, long, A1, c1, bs, A2, c2, ks⟩) (hz : z = 2) :
    Calls Try.prog 33 #[.pointer (some ⟨p, 0, none⟩), .agg #[.int .i64 z, .int .i64 a, .int .i64 long, .slice A1 bs.length c1, .slice A2 ks.length c2]] w (DoesD w p v s f (stepD d ⟨z, a, long, A1, c1, bs, A2, c2, ks⟩)) := by
  have HH := Aside0.mk h
  subst hz
  by_cases he : insE d.B.length a long = 0
  · obtain ⟨h1, h2, h3⟩ := ins_ok he
    obtain ⟨a, rfl⟩ := Int.eq_ofNat_of_zero_le h2
    obtain ⟨long, rfl⟩ := Int.eq_ofNat_of_zero_le h1
    have HE := Aside0.mk he
    have HST := Aside0.mk (show stepD d ⟨2, (a : Int), (long : Int), A1, c1, bs, A2, c2, ks⟩ = d.flush a long by simp only [stepD]; rw [if_neg (by decide), if_pos trivial, if_pos he, Int.toNat_natCast, Int.toNat_natCast])
    rw [HST.out]
    clear h hw he
    go_enter Try.func33, Try.ntmps33
    go_wp2_with (go_at_call 25; (with_reducible refine (flush_calls _ p v s f d a long (HH.out.move (below_alloc (Below.refl _ _) _)) HE.out).mono ?_); rintro e w2 ⟨rfl, hs2, hf2⟩; have HS2 := Aside0.mk hs2; have HF2 := Aside0.mk hf2; clear hs2 hf2)
    go_ret2
    exact ⟨_, _, rfl, HS2.out, ((Fr.refl _ _).alloc _).trans' HF2.out⟩
  · have HE := Aside0.mk he
    have HST := Aside0.mk (show stepD d ⟨2, a, long, A1, c1, bs, A2, c2, ks⟩ = d by simp only [stepD]; rw [if_neg (by decide), if_pos trivial, if_neg he])
    rw [HST.out]
    clear h hw he
    go_enter Try.func33, Try.ntmps33
    go_wp2_with (go_at_call 25; (with_reducible refine (flush_bad _ p v s f d a long (HH.out.move (below_alloc (Below.refl _ _) _)) HE.out).mono ?_); rintro e w2 ⟨rfl, hb2⟩; have HB2 := Aside0.mk hb2; clear hb2)
    go_ret2
    exact ⟨_, _, rfl, (HH.out.move (below_alloc (Below.refl _ _) _)).move HB2.out, (Fr.of_below ((below_alloc (Below.refl w.heap.size w) _).trans (HB2.out.mono (by simp))) _)⟩
set_option maxRecDepth 100000 in
theorem does3_fence (w : World) (p : Nat) (v : Value) (s f : Nat) (d : Dev) (z a long : Int) (A1 : Option Addr) (c1 : Nat) (bs : List Int) (A2 : Option Addr) (c2 : Nat) (ks : List Int) (h : HasD w p v s f d) (hw : WfPo w ⟨z, a, long, A1, c1, bs, A2, c2, ks⟩) (hz : z = 3) :
    Calls Try.prog 33 #[.pointer (some ⟨p, 0, none⟩), .agg #[.int .i64 z, .int .i64 a, .int .i64 long, .slice A1 bs.length c1, .slice A2 ks.length c2]] w (DoesD w p v s f (stepD d ⟨z, a, long, A1, c1, bs, A2, c2, ks⟩)) := by
  have HH := Aside0.mk h
  subst hz
  have HST := Aside0.mk (show stepD d ⟨3, a, long, A1, c1, bs, A2, c2, ks⟩ = d.fence by simp [stepD])
  rw [HST.out]
  clear h hw
  go_enter Try.func33, Try.ntmps33
  go_wp2_with (go_at_call 24; (with_reducible refine (fence_calls _ p v s f d (HH.out.move (below_alloc (Below.refl _ _) _))).mono ?_); rintro e w2 ⟨rfl, hs2, hf2⟩; have HS2 := Aside0.mk hs2; have HF2 := Aside0.mk hf2; clear hs2 hf2)
  go_ret2
  exact ⟨_, _, rfl, HS2.out, ((Fr.refl _ _).alloc _).trans' HF2.out⟩
set_option maxRecDepth 100000 in
theorem does3_crash (w : World) (p : Nat) (v : Value) (s f : Nat) (d : Dev) (z a long : Int) (A1 : Option Addr) (c1 : Nat) (bs : List Int) (A2 : Option Addr) (c2 : Nat) (ks : List Int) (h : HasD w p v s f d) (hw : WfPo w ⟨z, a, long, A1, c1, bs, A2, c2, ks⟩) (hk : 0 < ks.length → ∀ ad, A2 = some ad → ¬ some ad.block = v.ownBlock) (hz : z = 4) :
    Calls Try.prog 33 #[.pointer (some ⟨p, 0, none⟩), .agg #[.int .i64 z, .int .i64 a, .int .i64 long, .slice A1 bs.length c1, .slice A2 ks.length c2]] w (DoesD w p v s f (stepD d ⟨z, a, long, A1, c1, bs, A2, c2, ks⟩)) := by
  have HH := Aside0.mk h
  have HW := Aside0.mk hw
  subst hz
  have HST := Aside0.mk (show stepD d ⟨4, a, long, A1, c1, bs, A2, c2, ks⟩ = d.crash ks by simp [stepD])
  rw [HST.out]
  clear h hw
  go_enter Try.func33, Try.ntmps33
  go_wp2_with (go_at_call 30; (with_reducible refine (crash_calls _ p v s f d A2 c2 ks (HH.out.move (below_alloc (Below.refl _ _) _)) (HW.out.rk.below (below_alloc (Below.refl _ _) _)) hk).mono ?_); rintro e w2 ⟨rfl, hs2, hf2⟩; have HS2 := Aside0.mk hs2; have HF2 := Aside0.mk hf2; clear hs2 hf2)
  go_ret2
  exact ⟨_, _, rfl, HS2.out, ((Fr.refl _ _).alloc _).trans' HF2.out⟩
set_option maxRecDepth 100000 in
theorem does3_low (w : World) (p : Nat) (v : Value) (s f : Nat) (d : Dev) (z a long : Int) (A1 : Option Addr) (c1 : Nat) (bs : List Int) (A2 : Option Addr) (c2 : Nat) (ks : List Int) (h : HasD w p v s f d) (hw : WfPo w ⟨z, a, long, A1, c1, bs, A2, c2, ks⟩) (hz : z < 0) :
    Calls Try.prog 33 #[.pointer (some ⟨p, 0, none⟩), .agg #[.int .i64 z, .int .i64 a, .int .i64 long, .slice A1 bs.length c1, .slice A2 ks.length c2]] w (DoesD w p v s f (stepD d ⟨z, a, long, A1, c1, bs, A2, c2, ks⟩)) := by
  have HH := Aside0.mk h
  have HST := Aside0.mk (show stepD d ⟨z, a, long, A1, c1, bs, A2, c2, ks⟩ = d by simp only [stepD]; rw [if_neg (by omega), if_neg (by omega), if_neg (by omega), if_neg (by omega)])
  rw [HST.out]
  have e0 : (z == 0) = false := by simp; omega
  have e1 : (z == 1) = false := by simp; omega
  have e2 : (z == 2) = false := by simp; omega
  have e3 : (z == 3) = false := by simp; omega
  have e4 : (z == 4) = false := by simp; omega
  clear h hw
  go_enter Try.func33, Try.ntmps33
  go_wp2
  go_ret2
  exact ⟨_, _, rfl, (HH.out.move (below_alloc (Below.refl _ _) _)), (Fr.refl _ _).alloc _⟩
set_option maxRecDepth 100000 in
theorem does3_high (w : World) (p : Nat) (v : Value) (s f : Nat) (d : Dev) (z a long : Int) (A1 : Option Addr) (c1 : Nat) (bs : List Int) (A2 : Option Addr) (c2 : Nat) (ks : List Int) (h : HasD w p v s f d) (hw : WfPo w ⟨z, a, long, A1, c1, bs, A2, c2, ks⟩) (hz : 4 < z) :
    Calls Try.prog 33 #[.pointer (some ⟨p, 0, none⟩), .agg #[.int .i64 z, .int .i64 a, .int .i64 long, .slice A1 bs.length c1, .slice A2 ks.length c2]] w (DoesD w p v s f (stepD d ⟨z, a, long, A1, c1, bs, A2, c2, ks⟩)) := by
  have HH := Aside0.mk h
  have HST := Aside0.mk (show stepD d ⟨z, a, long, A1, c1, bs, A2, c2, ks⟩ = d by simp only [stepD]; rw [if_neg (by omega), if_neg (by omega), if_neg (by omega), if_neg (by omega)])
  rw [HST.out]
  have e0 : (z == 0) = false := by simp; omega
  have e1 : (z == 1) = false := by simp; omega
  have e2 : (z == 2) = false := by simp; omega
  have e3 : (z == 3) = false := by simp; omega
  have e4 : (z == 4) = false := by simp; omega
  clear h hw
  go_enter Try.func33, Try.ntmps33
  go_wp2
  go_ret2
  exact ⟨_, _, rfl, (HH.out.move (below_alloc (Below.refl _ _) _)), (Fr.refl _ _).alloc _⟩
theorem does3_calls (w : World) (p : Nat) (v : Value) (s f : Nat) (d : Dev) (z a long : Int) (A1 : Option Addr) (c1 : Nat) (bs : List Int) (A2 : Option Addr) (c2 : Nat) (ks : List Int) (h : HasD w p v s f d) (hw : WfPo w ⟨z, a, long, A1, c1, bs, A2, c2, ks⟩) (hk : 0 < ks.length → ∀ ad, A2 = some ad → ¬ some ad.block = v.ownBlock) :
    Calls Try.prog 33 #[.pointer (some ⟨p, 0, none⟩), .agg #[.int .i64 z, .int .i64 a, .int .i64 long, .slice A1 bs.length c1, .slice A2 ks.length c2]] w (DoesD w p v s f (stepD d ⟨z, a, long, A1, c1, bs, A2, c2, ks⟩)) := by
  rcases (show z < 0 ∨ z = 0 ∨ z = 1 ∨ z = 2 ∨ z = 3 ∨ z = 4 ∨ 4 < z by omega) with hz | hz | hz | hz | hz | hz | hz
  · exact does3_low w p v s f d z a long A1 c1 bs A2 c2 ks h hw hz
  · exact does3_write w p v s f d z a long A1 c1 bs A2 c2 ks h hw hz
  · exact does3_read w p v s f d z a long A1 c1 bs A2 c2 ks h hw hz
  · exact does3_flush w p v s f d z a long A1 c1 bs A2 c2 ks h hw hz
  · exact does3_fence w p v s f d z a long A1 c1 bs A2 c2 ks h hw hz
  · exact does3_crash w p v s f d z a long A1 c1 bs A2 c2 ks h hw hk hz
  · exact does3_high w p v s f d z a long A1 c1 bs A2 c2 ks h hw hz
end Go.Proofs.Ytbfogcckbhkciaa.Hand
