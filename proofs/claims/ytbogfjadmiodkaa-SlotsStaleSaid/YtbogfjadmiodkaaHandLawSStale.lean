/- SlotsStale, walked. -/
import Derived.Test.YtbogfjadmiodkaaHandSlPlain
import Derived.Test.YtbogfjadmiodkaaHandLawSMade
import Derived.Test.YtbogfjadmiodkaaWLast
namespace Go.Proofs.Ytbogfjadmiodkaa.Hand
open Go.RowKit Go.Proofs.YtbogfjadmiodkaaW.PrintWords Go.Proofs.YtbogfjadmiodkaaW.PrintLast
set_option linter.unusedVariables false
set_option linter.unusedSimpArgs false
def encHd (h : Int × Int) : List Value := [.int .i64 h.1, .int .i64 h.2]
theorem encHd_len (h : Int × Int) : (encHd h).length = 2 := rfl
theorem encHd_one (h : Int × Int) : ∀ u ∈ encHd h, u.oneCell' = true := by
  intro u hu
  simp only [encHd, List.mem_cons, List.not_mem_nil, or_false] at hu
  rcases hu with rfl | rfl <;> rfl
def HdK : Kd (Int × Int) := flat encHd 2 encHd_len encHd_one
theorem row_frh {e : Nat} {S ok : Nat → Prop} {w w1 : World} {v : Value} {L : List (Int × Int)} (h : HdK.R e w 0 ok v L) (hf : Fr S w w1) (hn : ∀ k, ok k → ¬ S k) : HdK.R e w1 0 ok v L := by
  obtain ⟨h0, ho⟩ := R_flat.1 h
  have hlt : ∀ k, v.ownBlock = some k → k < w.heap.size := fun k hk => by
    obtain ⟨cs, hc⟩ := own_typed ho k hk
    exact blk_lt hc
  exact R_flat.2 ⟨h0, own_move ho (fun k hk => hf.block k (hlt k hk) (hn k (h0 k hk)))⟩
theorem HasSl.frS {S : Nat → Prop} {w w1 : World} {p : Nat} {v : Value} {L : List Sl} (h : HasSl w p v L) (hf : Fr S w w1) (hp : ¬ S p) (hv : ∀ k, some k = v.ownBlock → ¬ S k) : HasSl w1 p v L := by
  refine h.same (hf.block p (blk_lt h.ptr) hp) (fun k hk => hf.block k ?_ (hv k hk.symm))
  by_cases hl : k < w.heap.size
  · exact hl
  · exact absurd hk.symm (h.own_lt (Nat.le_of_not_lt hl))
theorem C_of_slice {e : Nat} {w : World} {ok : Nat → Prop} {A : Option Addr} {n c : Nat} {L : List (Int × Int)} (h : HdK.R e w 0 ok (.slice A n c) L) : HdK.C w A L.length L := by
  obtain ⟨A', c', e1, _, hc⟩ := flat_reads h
  simp only [Value.slice.injEq] at e1
  rw [e1.1]
  exact hc
theorem info_hd : (Try.prog.info? 23).map (fun i => (i.zero, i.size, i.bytes)) = some (some (.agg #[.int .i64 0, .int .i64 0]), 2, 16) := by kernel_rfl
/-- A handle that is good no more, whatever is made. -/
def Dead (L : List Sl) (h : Int × Int) : Prop := ∃ (k : Nat) (x : Sl), h.1 = k ∧ L[k]? = some x ∧ h.2 ≤ x.1 ∧ (x.2.1 = true → h.2 < x.1)
theorem Dead.stale {L : List Sl} {h : Int × Int} (hd : Dead L h) : goodM L h = false := by
  obtain ⟨k, x, hk, hx, h1, h2⟩ := hd
  rw [goodM, hk, atM_nat, hx]
  cases hu : x.2.1 with
  | true =>
    have := h2 hu
    simp [hu]
    omega
  | false => simp [hu]
theorem Dead.set {L : List Sl} {h : Int × Int} (hd : Dead L h) (j : Nat) (y : Sl) (hy : ∀ x, L[j]? = some x → (x.1 < y.1 ∨ (x.1 = y.1 ∧ (y.2.1 = true → x.2.1 = true)))) : Dead (L.set j y) h := by
  obtain ⟨k, x, hk, hx, h1, h2⟩ := hd
  by_cases hjk : j = k
  · subst hjk
    have hl := (List.getElem?_eq_some_iff.1 hx).1
    refine ⟨j, y, hk, List.getElem?_set_self hl, ?_, fun hu => ?_⟩
    · rcases hy x hx with h3 | h3 <;> omega
    · rcases hy x hx with h3 | h3
      · omega
      · have := h2 (h3.2 hu)
        omega
  · exact ⟨k, x, hk, by rw [List.getElem?_set_ne hjk]; exact hx, h1, h2⟩
theorem Dead.step {L : List Sl} {h : Int × Int} (hd : Dead L h) (o : OpT) : Dead (doM L o).1 h := by
  unfold doM
  split
  · split
    · split
      · rename_i x hx
        exact hd.set _ _ (fun x' hx' => by rw [hx] at hx'; injection hx' with hx'; subst hx'; exact .inl (by simp only; omega))
      · exact hd
    · exact hd
  · split
    · split
      · rename_i hg
        obtain ⟨k, x, hk, hx, hu, hxg, _⟩ := good_slot hg
        rw [hk, Int.toNat_natCast, hx]
        simp only
        split
        · exact hd
        · split
          · exact hd.set _ _ (fun x' hx' => by rw [hx] at hx'; injection hx' with hx'; subst hx'; exact .inr ⟨hxg, fun _ => hu⟩)
          · exact hd.set _ _ (fun x' hx' => by rw [hx] at hx'; injection hx' with hx'; subst hx'; exact .inr ⟨hxg, fun h => absurd h (by simp)⟩)
      · exact hd
    · exact hd
/-- What was freed is dead. -/
theorem freed_dead {L : List Sl} {s g n : Int} (h : (doM L (3, (s, g), n)).2.2.2 = 0) : Dead (doM L (3, (s, g), n)).1 (s, g) := by
  unfold doM at h ⊢
  rw [if_neg (by simp), if_pos (by simp)] at h ⊢
  split at h
  · rename_i hg
    rw [if_pos hg]
    obtain ⟨k, x, hk, hx, hu, hxg, _⟩ := good_slot hg
    simp only at hk hxg
    subst hk hxg
    simp only [Int.toNat_natCast, hx]
    have hl := (List.getElem?_eq_some_iff.1 hx).1
    exact ⟨k, (x.1, false, 0), rfl, by simpa using List.getElem?_set_self hl, Int.le_refl _, fun h => absurd h (by simp)⟩
  · exact absurd h (by simp)
set_option maxRecDepth 100000 in
set_option maxHeartbeats 1000000 in
theorem slotsStale_walk (A : Option Addr) (c : Nat) (l : List Int) (B : Option Addr) (d : Nat) (os : List OpT) (w : World) (hr : ReadsInt w .u8 A l.length l) (hb : Bys l) (_y : l.length ≤ 140737488351232) (ho : OpK.C w B os.length os) (hwo : ∀ o ∈ os, WfOp o) :
    Calls Try.prog 7 #[.slice A l.length c, .slice B os.length d] w fun e w' => e = .returned (.bool true) ∧ Below w.heap.size w w' := by
  have hln : l.length ≤ 9223372036854775807 := by omega
  have hlm : os.length ≤ 9223372036854775807 := ho.2.1
  cases hf : fewB l.length os.length with
  | false =>
    have HF := Aside0.mk hf
    go_enter Try.func7, Try.ntmps7
    go_wp2_with (first | (go_at_call 21; (with_reducible refine (few_calls _ A B _ c _ d hln hlm).mono ?_); rw [HF.out]; rintro e wF ⟨rfl, rfl⟩) | (go_at_call 13; (with_reducible refine (sl_alive _).mono ?_); rintro e wA ⟨rfl, hbA⟩; have HBA := Aside0.mk hbA; clear hbA))
    go_ret
    exact ⟨rfl, HBA.out⟩
  | true =>
    have HF := Aside0.mk hf
    obtain ⟨h1, h2⟩ := fewB_le hf
    cases hd : decM l with
    | none =>
      have HM := Aside0.mk (made_nil_none w A c l hr hb (by omega) hd)
      clear hr hb ho hwo hf hd
      go_enter Try.func7, Try.ntmps7
      go_wp2_with (first | (go_at_call 21; (with_reducible refine (few_calls _ A B _ c _ d hln hlm).mono ?_); rw [HF.out]; rintro e wF ⟨rfl, rfl⟩) | (go_at_call 22; (with_reducible refine HM.out.mono ?_); rintro e w1 ⟨rfl, hb1⟩; have HB1 := Aside0.mk hb1; clear hb1) | (go_at_call 13; (with_reducible refine (sl_alive _).mono ?_); rintro e wA ⟨rfl, hbA⟩; have HBA := Aside0.mk hbA; clear hbA))
      go_ret
      exact ⟨rfl, bel_step HB1.out HBA.out⟩
    | some L =>
      have HM := Aside0.mk (made_nil w A c l L hr hb (by omega) hd)
      have HO := Aside0.mk ho
      have HWO := Aside0.mk hwo
      clear hr hb ho hwo hf hd
      go_enter Try.func7, Try.ntmps7
      go_wp2_with (first | (go_at_call 21; (with_reducible refine (few_calls _ A B _ c _ d hln hlm).mono ?_); rw [HF.out]; rintro e wF ⟨rfl, rfl⟩) | (go_at_call 22; (with_reducible refine HM.out.mono ?_); rintro e w1 ⟨p, v, u, rfl, hs1, hr1, hp1, hv1, hw1, hn1, hb1⟩; have HB1 := Aside0.mk hb1; have HS1 := Aside0.mk hs1; have HR1 := Aside0.mk hr1; have HW1 := Aside0.mk hw1; have HV1 := Aside0.mk hv1; have HP1 := Aside0.mk hp1; obtain ⟨A1, c1, hu1, _, _⟩ := flat_reads hr1; subst hu1; clear hb1 hs1 hr1 hp1 hv1 hw1))
      have HPL := Aside0.mk (blk_lt HS1.out.ptr)
      have HVL := Aside0.mk (fun k (hk : w1.heap.size ≤ k) => HS1.out.own_lt hk)
      go_loopw [8, 41] (fun fv i wr => ∃ (k : Nat) (Lk : List Sl) (fz : List (Int × Int)), k ≤ os.length ∧ i = .int .i64 k ∧ fz.length ≤ k ∧ Aside0 (HdK.R 23 wr 0 (fun j => w1.heap.size ≤ j) fv fz) ∧ Aside0 (∀ h ∈ fz, Dead Lk h) ∧ Aside0 (HasSl wr p v Lk) ∧ Aside0 (∀ x ∈ Lk, WfSl x) ∧ Lk.length ≤ 256 ∧ Aside0 (Below w.heap.size w wr) ∧ Aside0 (w1.heap.size ≤ wr.heap.size)) (fun _ i _ => (os.length - intOf i).toNat)
      case atStart => exact ⟨0, L, [], Nat.zero_le _, rfl, Nat.le_refl _, ⟨Kd.R_nil _ _ _ _ _⟩, ⟨fun h hh => by cases hh⟩, HS1, HW1, hn1, HB1, ⟨Nat.le_refl _⟩⟩
      case round =>
        obtain ⟨k, Lk, fz, hk, rfl, hfl, HFZ, HDD, HS, HW, hlk, HB, HZ⟩ := hrel
        by_cases hlt : k < os.length
        · obtain ⟨o, hx⟩ : ∃ o, os[k]? = some o := ⟨_, List.getElem?_eq_getElem hlt⟩
          obtain ⟨bb, ob, hB, hcb⟩ := C_at (Kd.C_below HO.out HB.out) (by decide) hx
          subst hB
          have HWO1 := Aside0.mk (HWO.out o (List.mem_of_getElem? hx))
          have HST := Aside0.mk (fun h (hh : h ∈ fz) => (HDD.out h hh).step o)
          have HWF := Aside0.mk (doM_wf HW.out HWO1.out)
          have HFD := Aside0.mk (show o.1 = 3 → (doM Lk o).2.2.2 = 0 → Dead (doM Lk o).1 o.2.1 from fun h1 h2 => by obtain ⟨z, ⟨s, g⟩, n⟩ := o; obtain rfl : z = 3 := h1; exact freed_dead h2)
          have HLn := doM_len Lk o
          obtain ⟨z, ⟨s, g⟩, n⟩ := o
          have b0 : wr.cell? ⟨bb, ob + k * 4, none⟩ = some (.int .i64 z) := hcb 0 (by decide)
          have b1 : wr.cell? ⟨bb, ob + k * 4 + 1, none⟩ = some (.int .i64 s) := hcb 1 (by decide)
          have b2 : wr.cell? ⟨bb, ob + k * 4 + 2, none⟩ = some (.int .i64 g) := hcb 2 (by decide)
          have b3 : wr.cell? ⟨bb, ob + k * 4 + 3, none⟩ = some (.int .u64 n) := hcb 3 (by decide)
          clear hcb hx
          obtain ⟨⟨Ln, ⟨hs, hg⟩, vv, ee⟩, hr⟩ : ∃ r, r = doM Lk (z, (s, g), n) := ⟨_, rfl⟩
          rw [← hr] at HST HWF HFD HLn
          have HDO := Aside0.mk hr
          have hLl : Ln.length ≤ 256 := by have : Ln.length = Lk.length := HLn; omega
          clear hr HLn
          obtain ⟨A3, c3, rfl, hc3, _⟩ := flat_reads HFZ.out
          by_cases hz : z = 3
          rotate_left
          have hz3 : (z == 3) = false := by simp [hz]
          clear hz
          go_wp2_with (go_at_call 26; (with_reducible refine (does_calls _ p v Lk z s g n (HS.out.move (below_alloc (Below.refl _ _) _)) HW.out (by omega)).mono ?_); rw [← HDO.out]; rintro e w5 ⟨rfl, hs5, hf5⟩; have HS5 := Aside0.mk hs5; have hob := hf5.get (heap_alloc_new wr _) (fun e => HVL.out _ HZ.out e); have o0 := cell_alloc (blk_cell hob (i := 0) rfl); have o1 := cell_alloc (blk_cell hob (i := 1) rfl); have o2 := cell_alloc (blk_cell hob (i := 2) rfl); have o3 := cell_alloc (blk_cell hob (i := 3) rfl); have HF5 := Aside0.mk hf5; have HZ5 := Aside0.mk (show w1.heap.size ≤ w5.heap.size from Nat.le_trans HZ.out (Nat.le_trans (by simp) hf5.size)); have HFZ5 := Aside0.mk (row_frh (Kd.R_below HFZ.out (below_alloc (Below.refl _ _) _)) hf5 (fun k hk => HVL.out k hk)); have HB5 := Aside0.mk ((below_alloc HB.out _).trans (hf5.below _ (below_alloc HB.out _).size (fun b hb => HV1.out b hb))); clear hs5 hf5 hob)
          obtain ⟨A6, c6, fz6, w6, hA, hC, hF, hW⟩ : ∃ A6 c6 fz6 w6, A6 = A3 ∧ c6 = c3 ∧ fz6 = fz ∧ w6 = w5.alloc (Obj.cells #[Value.int IntKind.i64 hs, Value.int IntKind.i64 hg] 23) := ⟨_, _, _, _, rfl, rfl, rfl, rfl⟩
          have HFZ6 := Aside0.mk (show HdK.R 23 w6 0 (fun j => w1.heap.size ≤ j) (.slice A6 fz6.length c6) fz6 by rw [hA, hC, hF, hW]; exact Kd.R_below HFZ5.out (below_alloc (Below.refl _ _) _))
          have HDD6 := Aside0.mk (show ∀ h ∈ fz6, Dead Ln h by rw [hF]; exact HST.out)
          have HS6 := Aside0.mk (show HasSl w6 p v Ln by rw [hW]; exact HS5.out.move (below_alloc (Below.refl _ _) _))
          have HB6 := Aside0.mk (show Below w.heap.size w w6 by rw [hW]; exact below_alloc HB5.out _)
          have HZ6 := Aside0.mk (show w1.heap.size ≤ w6.heap.size by rw [hW]; exact Nat.le_trans HZ5.out (by simp))
          have hfl6 : fz6.length ≤ k + 1 := by rw [hF]; omega
          rw [← hA, ← hC, ← hF, ← hW]
          clear hA hC hF hW o0 o1 o2 o3
          rotate_left
          subst hz
          by_cases he : ee = 0
          have he0 : (ee == 0) = true := by simp [he]
          have HFD1 := Aside0.mk (HFD.out rfl he)
          clear he HFD
          go_wp2_with (first | (go_at_call 26; (with_reducible refine (does_calls _ p v Lk 3 s g n (HS.out.move (below_alloc (Below.refl _ _) _)) HW.out (by omega)).mono ?_); rw [← HDO.out]; rintro e w5 ⟨rfl, hs5, hf5⟩; have HS5 := Aside0.mk hs5; have hob := hf5.get (heap_alloc_new wr _) (fun e => HVL.out _ HZ.out e); have o0 := cell_alloc (blk_cell hob (i := 0) rfl); have o1 := cell_alloc (blk_cell hob (i := 1) rfl); have o2 := cell_alloc (blk_cell hob (i := 2) rfl); have o3 := cell_alloc (blk_cell hob (i := 3) rfl); have HF5 := Aside0.mk hf5; have HZ5 := Aside0.mk (show w1.heap.size ≤ w5.heap.size from Nat.le_trans HZ.out (Nat.le_trans (by simp) hf5.size)); have HFZ5 := Aside0.mk (row_frh (Kd.R_below HFZ.out (below_alloc (Below.refl _ _) _)) hf5 (fun k hk => HVL.out k hk)); have HB5 := Aside0.mk ((below_alloc HB.out _).trans (hf5.below _ (below_alloc HB.out _).size (fun b hb => HV1.out b hb))); clear hs5 hf5 hob) | ((with_reducible refine gate_bi (b := .append) (xs := #[.tmp 59, .tmp 62]) rfl ?_); at_builtin; refine Kd.R_append HdK (w0 := w5) 0 rfl (.tmp 59) (.tmp 62) 45 23 (.agg #[.int .i64 0, .int .i64 0]) 16 rfl Try.underlying45 info_hd rfl (by decide) (by omega) (.slice A3 fz.length c3) fz (s, g) [.int .i64 s, .int .i64 g] (fun j => w1.heap.size ≤ j) (fun _ => False) rfl (by rw [World.size_alloc]; rfl) ?aP (fun _ hk => hk.elim) ?aF ?aO ?aB ?aS ?aL ?_))
          case aP => exact rfl
          case aF => exact fun k hk => Nat.le_trans HZ5.out (Nat.le_trans (by simp) hk)
          case aO => exact Kd.R_below HFZ5.out (below_alloc (Below.refl _ _) _)
          case aB => exact (below_alloc (Below.refl _ _) _).mono (Nat.zero_le _)
          case aS => exact Nat.zero_le _
          case aL => omega
          intro v1 w6 hr6 hb6 hg6 hat6
          have hF6 : Fr (fun b => w1.heap.size ≤ b) w5 w6 := ((Fr.refl _ _).alloc _).grown hg6 (fun k hk => .inl (by
            rcases flat_slice HFZ5.out with ⟨e1, _⟩ | ⟨g0, cap0, e1, _, h2, _⟩
            · rw [e1] at hk; simp [Value.ownBlock] at hk
            · rw [e1] at hk; simp [Value.ownBlock] at hk; omega))
          have HDDb := Aside0.mk (show ∀ h ∈ fz ++ [(s, g)], Dead Ln h from fun h hh => by
            rcases List.mem_append.1 hh with hh | hh
            · exact HST.out h hh
            · obtain rfl : h = (s, g) := by simpa using hh
              exact HFD1.out)
          obtain ⟨fz6, hF⟩ : ∃ fz6, fz6 = fz ++ [(s, g)] := ⟨_, rfl⟩
          have hfl6 : fz6.length ≤ k + 1 := by rw [hF, List.length_append, List.length_singleton]; omega
          rw [← hF] at hr6 HDDb
          have HFZ6' := Aside0.mk hr6
          obtain ⟨A6, c6, rfl, _, _⟩ := flat_reads hr6
          have HFZ6 := Aside0.mk HFZ6'.out
          have HDD6 := Aside0.mk HDDb.out
          have HS6 := Aside0.mk (HS5.out.frS hF6 (by have := HPL.out; omega) (fun k hk h => HVL.out k h hk))
          have HB6 := Aside0.mk (HB5.out.trans (hF6.below _ HB5.out.size (fun b hb => Nat.le_trans HB1.out.size hb)))
          have HZ6 := Aside0.mk (Nat.le_trans HZ5.out hF6.size)
          clear hF hr6 hb6 hg6 hat6 hF6 HFZ6' HDDb o0 o1 o2 o3
          go_wp2
          rotate_left
          have he0 : (ee == 0) = false := by simp [he]
          clear he HFD
          go_wp2_with (go_at_call 26; (with_reducible refine (does_calls _ p v Lk 3 s g n (HS.out.move (below_alloc (Below.refl _ _) _)) HW.out (by omega)).mono ?_); rw [← HDO.out]; rintro e w5 ⟨rfl, hs5, hf5⟩; have HS5 := Aside0.mk hs5; have hob := hf5.get (heap_alloc_new wr _) (fun e => HVL.out _ HZ.out e); have o0 := cell_alloc (blk_cell hob (i := 0) rfl); have o1 := cell_alloc (blk_cell hob (i := 1) rfl); have o2 := cell_alloc (blk_cell hob (i := 2) rfl); have o3 := cell_alloc (blk_cell hob (i := 3) rfl); have HF5 := Aside0.mk hf5; have HZ5 := Aside0.mk (show w1.heap.size ≤ w5.heap.size from Nat.le_trans HZ.out (Nat.le_trans (by simp) hf5.size)); have HFZ5 := Aside0.mk (row_frh (Kd.R_below HFZ.out (below_alloc (Below.refl _ _) _)) hf5 (fun k hk => HVL.out k hk)); have HB5 := Aside0.mk ((below_alloc HB.out _).trans (hf5.below _ (below_alloc HB.out _).size (fun b hb => HV1.out b hb))); clear hs5 hf5 hob)
          obtain ⟨A6, c6, fz6, w6, hA, hC, hF, hW⟩ : ∃ A6 c6 fz6 w6, A6 = A3 ∧ c6 = c3 ∧ fz6 = fz ∧ w6 = w5.alloc (Obj.cells #[Value.int IntKind.i64 hs, Value.int IntKind.i64 hg] 23) := ⟨_, _, _, _, rfl, rfl, rfl, rfl⟩
          have HFZ6 := Aside0.mk (show HdK.R 23 w6 0 (fun j => w1.heap.size ≤ j) (.slice A6 fz6.length c6) fz6 by rw [hA, hC, hF, hW]; exact Kd.R_below HFZ5.out (below_alloc (Below.refl _ _) _))
          have HDD6 := Aside0.mk (show ∀ h ∈ fz6, Dead Ln h by rw [hF]; exact HST.out)
          have HS6 := Aside0.mk (show HasSl w6 p v Ln by rw [hW]; exact HS5.out.move (below_alloc (Below.refl _ _) _))
          have HB6 := Aside0.mk (show Below w.heap.size w w6 by rw [hW]; exact below_alloc HB5.out _)
          have HZ6 := Aside0.mk (show w1.heap.size ≤ w6.heap.size by rw [hW]; exact Nat.le_trans HZ5.out (by simp))
          have hfl6 : fz6.length ≤ k + 1 := by rw [hF]; omega
          rw [← hA, ← hC, ← hF, ← hW]
          simp only [he0]
          clear hA hC hF hW o0 o1 o2 o3 he0
          all_goals
            have HK := Aside0.mk (C_of_slice HFZ6.out)
            go_loopw [66] (fun i wi => ∃ j : Nat, j ≤ fz6.length ∧ i = .int .i64 j ∧ Aside0 (Below w6.heap.size w6 wi)) (fun i _ => (fz6.length - intOf i).toNat)
            case atStart => exact ⟨0, Nat.zero_le _, rfl, ⟨Below.refl _ _⟩⟩
            case round =>
              obtain ⟨j, hj, rfl, HBi⟩ := hrel
              by_cases hlt2 : j < fz6.length
              · obtain ⟨⟨x1, x2⟩, hx⟩ : ∃ x, fz6[j]? = some x := ⟨_, List.getElem?_eq_getElem hlt2⟩
                obtain ⟨b6, o6, hB6, hcb⟩ := C_at (Kd.C_below HK.out HBi.out) (by decide) hx
                subst hB6
                have d0 : wr.cell? ⟨b6, o6 + j * 2, none⟩ = some (.int .i64 x1) := hcb 0 (by decide)
                have d1 : wr.cell? ⟨b6, o6 + j * 2 + 1, none⟩ = some (.int .i64 x2) := hcb 1 (by decide)
                have HG := Aside0.mk (HDD6.out _ (List.mem_of_getElem? hx)).stale
                have HSi := Aside0.mk (HS6.out.move HBi.out)
                clear hx hcb
                go_wp2_with (first | (go_at_call 27; (with_reducible refine (get_stale _ p v Ln x1 x2 (HSi.out.move (below_alloc (Below.refl _ _) _)) HG.out).mono ?_); rintro e w7 ⟨rfl, hb7⟩; have HX7 := Aside0.mk ((hb7.block wr.heap.size (by simp)).trans (heap_alloc_new wr _)); have e0 := blk_cell HX7.out (i := 0) rfl; have e1 := blk_cell HX7.out (i := 1) rfl; have HS7 := Aside0.mk ((HSi.out.move (below_alloc (Below.refl _ _) _)).move hb7); have HB7 := Aside0.mk (bel_step (below_alloc HBi.out _) hb7); clear hb7) | (go_at_call 28; (with_reducible refine (swing_stale _ p v Ln x1 x2 1 HS7.out HG.out).mono ?_); rintro e w8 ⟨rfl, hb8⟩; have HX8 := Aside0.mk ((hb8.block wr.heap.size (blk_lt HX7.out)).trans HX7.out); have q0 := blk_cell HX8.out (i := 0) rfl; have q1 := blk_cell HX8.out (i := 1) rfl; have HS8 := Aside0.mk (HS7.out.move hb8); have HB8 := Aside0.mk (bel_step HB7.out hb8); clear hb8) | (go_at_call 29; (with_reducible refine (free_stale _ p v Ln x1 x2 HS8.out HG.out).mono ?_); rintro e w9 ⟨rfl, hb9⟩; have HB9 := Aside0.mk (bel_step HB8.out hb9); clear hb9))
                exact ⟨⟨j + 1, by omega, by go_num, HB9⟩, by simp [intOf]; omega⟩
              · obtain rfl : j = fz6.length := by omega
                go_wp2
                exact ⟨⟨k + 1, Ln, fz6, by omega, by go_num, hfl6, ⟨Kd.R_below HFZ6.out HBi.out⟩, HDD6, ⟨HS6.out.move HBi.out⟩, HWF, hLl, ⟨bel_step HB6.out HBi.out⟩, ⟨Nat.le_trans HZ6.out HBi.out.size⟩⟩, by simp [intOf]; omega⟩
        · obtain rfl : k = os.length := by omega
          go_wp2_with (go_at_call 13; (with_reducible refine (sl_alive _).mono ?_); rintro e wA ⟨rfl, hbA⟩; have HBA := Aside0.mk (bel_step HB.out hbA); clear hbA)
          go_ret
          exact ⟨rfl, HBA.out⟩
end Go.Proofs.Ytbogfjadmiodkaa.Hand
