/- What a claim needs of the walks and contracts, part 7. -/
import Derived.Maps.OwnIn
import Derived.Test.YtbfogcckbhkciaaHandY6
namespace Go.Proofs.Ytbfogcckbhkciaa.Hand
attribute [local go_sem] Oper.semAt_some
open Go.RowKit Go.Maps Go.Proofs.YtbfogcckbhkciaaW.PrintWords Go.Proofs.YtbfogcckbhkciaaW.PrintLast
set_option linter.unusedVariables false
set_option linter.unusedSimpArgs false
theorem steps4_calls (w : World) (q : Nat) (gh ch gb nb cb : Nat) (As : Option Addr) (ns cs : Nat) :
    Calls Try.prog 87 #[.pointer (some ⟨q, 0, none⟩), .slice (some ⟨gh, 0, none⟩) 8 ch, .slice (some ⟨gb, 0, none⟩) nb cb, .slice As ns cs] w fun e w' => e = .returned (.func (.func 122) #[] #[.pointer (some ⟨w.heap.size, 0, none⟩), .pointer (some ⟨w.heap.size + 1 + 1, 0, none⟩), .pointer (some ⟨w.heap.size + 1, 0, none⟩), .pointer (some ⟨w.heap.size + 1 + 1 + 1, 0, none⟩)]) ∧
      w' = (((w.alloc (.cells #[.pointer (some ⟨q, 0, none⟩)] 66)).alloc (.cells #[.slice (some ⟨gh, 0, none⟩) 8 ch] 23)).alloc (.cells #[.slice (some ⟨gb, 0, none⟩) nb cb] 23)).alloc (.cells #[.slice As ns cs] 72) := by
  go_enter Try.func87, Try.ntmps87
  go_wp2
  go_ret
  exact ⟨rfl, rfl⟩
theorem steps4_cap (w : World) (q p a : Nat) (gh ch gb cb : Nat) (As : Option Addr) (cs : Nat) (b h : List Int) (sets : List SetT) (hq : w.cell? ⟨q, 0, none⟩ = some (.pointer (some ⟨p, 0, none⟩))) (hq1 : w.cell? ⟨q, 1, none⟩ = some (.int .i64 a)) (hc : b.length ≤ cb)
    (hrb : ReadsInt w .u8 (some ⟨gb, 0, none⟩) b.length b) (hrh : ReadsInt w .u8 (some ⟨gh, 0, none⟩) 8 h) (hs : SetK.C w As sets.length sets) :
    Calls Try.prog 87 #[.pointer (some ⟨q, 0, none⟩), .slice (some ⟨gh, 0, none⟩) 8 ch, .slice (some ⟨gb, 0, none⟩) b.length cb, .slice As sets.length cs] w fun e w' => ∃ bl bb bh bs, e = .returned (.func (.func 122) #[] #[.pointer (some ⟨bl, 0, none⟩), .pointer (some ⟨bb, 0, none⟩), .pointer (some ⟨bh, 0, none⟩), .pointer (some ⟨bs, 0, none⟩)]) ∧
      w.heap.size ≤ bl ∧ CapW w' bl bb bh bs q p a gb cb gh ch As cs b h sets ∧ Below w.heap.size w w' := by
  refine (steps4_calls w q gh ch gb b.length cb As sets.length cs).mono ?_
  rintro e w' ⟨rfl, rfl⟩
  have hb : Below w.heap.size w ((((w.alloc (.cells #[.pointer (some ⟨q, 0, none⟩)] 66)).alloc (.cells #[.slice (some ⟨gh, 0, none⟩) 8 ch] 23)).alloc (.cells #[.slice (some ⟨gb, 0, none⟩) b.length cb] 23)).alloc (.cells #[.slice As sets.length cs] 72)) :=
    ((((Below.refl _ w).alloc (Nat.le_refl _) _).alloc (by simp) _).alloc (by simp; omega) _).alloc (by simp; omega) _
  refine ⟨_, _, _, _, rfl, Nat.le_refl _, ⟨?_, ?_, ?_, ?_, bel_cell hb hq, bel_cell hb hq1, hc, hrb.below hb, hrh.below hb, Kd.C_below hs hb⟩, hb⟩
  · exact cell_alloc (cell_alloc (cell_alloc (blk_cell (heap_alloc_new w _) rfl) _) _) _
  · exact cell_alloc (blk_cell (alloc_three _ _ _ _) rfl) _
  · exact cell_alloc (cell_alloc (blk_cell (alloc_two _ _ _) rfl) _) _
  · have := heap_alloc_new ((((w.alloc (.cells #[.pointer (some ⟨q, 0, none⟩)] 66)).alloc (.cells #[.slice (some ⟨gh, 0, none⟩) 8 ch] 23)).alloc (.cells #[.slice (some ⟨gb, 0, none⟩) b.length cb] 23))) (.cells #[.slice As sets.length cs] 72)
    simp only [World.size_alloc] at this
    exact blk_cell this rfl
theorem rowW_at {w w1 : World} {base : Nat} {v : Value} {xs : List StepW} (h : RowW w base v xs) (hb : ∀ b, some b = v.ownBlock → w1.heap[b]? = w.heap[b]?) : RowW w1 base v xs := by
  refine Kd.R_of_own ?_ h.1
  have ho := Kd.own_of_R h
  refine ⟨ho.1, ?_⟩
  rcases ho.2 with h2 | ⟨g, cap, cur, e, hg, h3, r⟩
  · exact .inl h2
  · exact .inr ⟨g, cap, cur, e, hg, (hb g (by rw [e]; rfl)).trans h3, r⟩
theorem rowW_blk {w : World} {base : Nat} {v : Value} {xs : List StepW} (h : RowW w base v xs) {b : Nat} (hb : some b = v.ownBlock) : ∃ o, w.heap[b]? = some o ∧ o.isCells = true := by
  obtain ⟨cs, t, fr, hc⟩ := own_blk h hb
  exact ⟨_, hc, rfl⟩
/-- What the collecting loop holds. -/
def CollW (w : World) (B q p : Nat) (pre : List (StepW × StepM)) (W : World) : Prop := ∃ v, Boxed W B 82 v ∧ RowW W w.heap.size v (pre.map Prod.fst) ∧ AllW W (TZ w.heap.size B v) q p (pre.map Prod.fst) (pre.map Prod.snd) ∧ Below w.heap.size w W
theorem CollW.own (w : World) (B q p : Nat) (C : Nat) (hC : w.heap.size ≤ C) : OwnFrom C (CollW w B q p) := by
  rintro pre W W' row ⟨v, hv, hr, ha, hb⟩ hg hrow
  have hf : Fr (fun b => row = some b) W W' := (Fr.refl _ _).grown hg (fun k hk => .inl hk)
  have hcells : ∀ b o, W.heap[b]? = some o → o.isCells = true → ¬ row = some b := by
    intro b o ho hc e
    obtain ⟨_, o2, ho2, hc2⟩ := hrow b e
    rw [ho] at ho2
    obtain rfl := Option.some.inj ho2
    rw [hc] at hc2
    cases hc2
  refine ⟨v, (hf.block B hv.lt (hcells B _ hv rfl)).trans hv, rowW_at hr (fun b hbo => ?_), ha.moveC hf (fun b o u hc _ e => ?_), hb.grown hg hb.size (fun k hk => Nat.le_trans hC (hrow k hk).1)⟩
  · obtain ⟨o, ho, hc⟩ := rowW_blk hr hbo
    exact hf.block b (blk_lt ho) (hcells b o ho hc)
  · have h1 : ∃ ob, W.heap[b]? = some ob := ⟨_, Array.getElem?_eq_getElem (World.block_lt_of_cell? _ _ hc)⟩
    obtain ⟨ob, h1⟩ := h1
    exact hcells b ob h1 (cell_cells hc h1) e
theorem walS_pos (a : Nat) (h b : List Int) (sets : List SetT) : 0 < (walS a h b sets).length := by
  rw [walS, List.length_append, List.length_singleton]
  omega
theorem coll_step {w W w1 : World} {B q p : Nat} {pre : List (StepW × StepM)} {y : StepW} {mm : StepM} {v0 v' : Value} {tmp : Obj} {news : List Value} (hn : news = [encW y]) (hv : Boxed W B 82 v0) (hr : RowW W w.heap.size v0 (pre.map Prod.fst)) (ha : AllW W (TZ w.heap.size B v0) q p (pre.map Prod.fst) (pre.map Prod.snd)) (hz : IsW W (TZ w.heap.size B v0) q p y mm) (hb : Below w.heap.size w W)
    (hg : (W.alloc tmp).grownBy w1 v0.ownBlock) (hat : v'.ownBlock = v0.ownBlock ∨ v'.ownBlock = some (W.alloc tmp).heap.size) (hv2 : Boxed (w1.setCell ⟨B, 0, none⟩ v') B 82 v')
    (hr2 : (w1.setCell ⟨B, 0, none⟩ v').ownsRow w.heap.size 1 1 v' ((pre.map Prod.fst).length + 1) (encs encW (pre.map Prod.fst) ++ news)) (hb2 : Below w.heap.size W (w1.setCell ⟨B, 0, none⟩ v')) :
    KW B W (w1.setCell ⟨B, 0, none⟩ v') ∧ CollW w B q p (pre ++ [(y, mm)]) (w1.setCell ⟨B, 0, none⟩ v') := by
  subst hn
  have hf : Fr (SK B v0 W) W (w1.setCell ⟨B, 0, none⟩ v') := (((Fr.refl _ W).alloc tmp).grown hg (fun k hk => .inl (.inr (.inl hk.symm)))).setCell (p := ⟨B, 0, none⟩) (.inl (.inl rfl)) v'
  have ho : ∀ b, some b = v'.ownBlock → some b = v0.ownBlock ∨ W.heap.size ≤ b := by
    intro b hb
    rcases hat with h | h
    · exact .inl (hb.trans h)
    · rw [h] at hb
      have := Option.some.inj hb
      simp at this
      exact .inr (by omega)
  have hs : ∀ b o u, W.cell? ⟨b, o, none⟩ = some u → b ≠ B → some b ≠ v0.ownBlock → ¬ SK B v0 W b := by
    rintro b o u hc h1 h2 (h3 | h3 | ⟨ob, h3, h4⟩)
    · exact h1 h3
    · exact h2 h3
    · have := cell_cells hc h3
      rw [h4] at this
      cases this
  refine ⟨fun v hvv => ?_, v', hv2, ?_, ?_, hb.trans hb2⟩
  · have : v = v0 := by
      have h1 : W.heap[B]? = some (.cells #[v0] 82 (0, 0)) := hv
      have h2 : W.heap[B]? = some (.cells #[v] 82 (0, 0)) := hvv
      rw [h1] at h2
      simpa using h2.symm
    subst this
    exact ⟨v', hv2, hf, ho⟩
  · refine Kd.R_of_own ?_ (fun _ _ => trivial)
    simpa [encs] using hr2
  · have hall : AllW W (TZ w.heap.size B v0) q p ((pre ++ [(y, mm)]).map Prod.fst) ((pre ++ [(y, mm)]).map Prod.snd) := by
      rw [List.map_append, List.map_append]
      exact AllW.app (ys := [y]) (ns := [mm]) ⟨hz, trivial⟩ ha
    refine ((hall.monoC (T' := fun b => TZ w.heap.size B v0 b ∧ b < W.heap.size) (fun b o u hc ht => ⟨ht, World.block_lt_of_cell? _ _ hc⟩)).moveC hf (fun b o u hc ht => hs b o u hc ht.1.2.1 ht.1.2.2)).mono (fun b _ ht => ⟨ht.1.1, ht.1.2.1, fun e => ?_⟩)
    rcases ho b e with h1 | h1
    · exact ht.1.2.2 h1
    · omega
def BegunW (w : World) (q p a k nx : Nat) (sets : List SetT) (e : Ending) (w' : World) : Prop :=
  ∃ (g c : Nat) (xs : List StepW), e = .returned (.tuple #[.slice (some ⟨g, 0, none⟩) xs.length c, .int .i64 0]) ∧ w.heap.size ≤ g ∧ (∀ t x, xs[t]? = some x → w'.cell? ⟨g, t, none⟩ = some (encW x)) ∧
    AllW w' (fun b => w.heap.size ≤ b) q p xs (walS a (headL sets.length nx (bodyL sets)) (bodyL sets) sets) ∧ HasL w' q p a k (nx + 1) ∧ Fr (fun b => b = q) w w'
set_option maxRecDepth 100000 in
set_option maxHeartbeats 8000000 in
theorem begin4_good (w : World) (q p : Nat) (v : Value) (s f : Nat) (d : Dev) (a k nx : Nat) (A : Option Addr) (c : Nat) (sets : List SetT) (hd : HasD w p v s f d) (h : HasL w q p a k nx) (h1 : 1 ≤ k) (hak : a + k ≤ d.B.length / 8) (hs : SetK.C w A sets.length sets) (he : errW (d.B.length / 8) a k nx sets = 0) (hps : ∀ s ∈ sets, PosSt s) : Calls Try.prog 47 #[.pointer (some ⟨q, 0, none⟩), .slice A sets.length c] w (BegunW w q p a k nx sets) := by
  obtain ⟨hall, hs0, hs1, hnx⟩ := errW_ok he
  (have hm := hd.ok.max; obtain ⟨n, hn⟩ : ∃ n : Nat, n = d.B.length / 8 := ⟨_, rfl⟩; have HMY := Aside0.mk (fun (W : World) (x : SetT) (hh : HasD W p v s f d) (hl : HasL W q p a k nx) => may_calls W q p v s f d a k nx x hh hl (by omega)); rw [← hn] at HMY; have HD := Aside0.mk hd; have HL := Aside0.mk h; have HC := Aside0.mk hs; have HRM := Aside0.mk (fun (W : World) (hl : HasL W q p a k nx) => room4_calls W q p a k nx hl h1 (by omega)); have hsl := hs.2.1)
  rw [← hn] at hall
  have HALL := Aside0.mk hall
  have HPS := Aside0.mk hps
  obtain ⟨r, hr⟩ : ∃ r : Nat, r = (k - 1) / 2 := ⟨_, rfl⟩
  rw [← hr] at hs1 HRM
  have hrk : 2 * r + 1 ≤ k := by omega
  have hak8 : a + k ≤ 8192 := by omega
  have hn8 : n ≤ 8192 := by omega
  clear hd h hs hn hall hr he hps
  refine callsIn_wide.1 (callsIn_of_wp_marks (F := Fence.wide) (n := 3) Try.func47 rfl trivial ?_ rfl)
  refine (wpIn_wide).2 ?_
  simp only [Try.ntmps47, List.size_toArray, List.length_cons, List.length_nil, Nat.reduceAdd, Nat.reduceSub, Array.replicate_succ, Array.replicate_zero, List.push_toArray, List.append_toArray, List.nil_append, List.cons_append]
  go_wp2
  (go_loopw [14] (fun i wr => ∃ t : Nat, t ≤ sets.length ∧ i = .int .i64 (t : Int) ∧ Aside0 (Below w.heap.size w wr)) (fun i _ => (sets.length - intOf i).toNat))
  case atStart => exact ⟨0, Nat.zero_le _, rfl, ⟨Below.refl _ _⟩⟩
  case round =>
    obtain ⟨t, ht, rfl, HB⟩ := hrel
    by_cases hlt : t < sets.length
    · (obtain ⟨x, hx⟩ : ∃ x, sets[t]? = some x := ⟨_, List.getElem?_eq_getElem hlt⟩; obtain ⟨bb, ob, hA, hcb⟩ := C_at (Kd.C_below HC.out HB.out) (by decide) hx; obtain ⟨x, y⟩ := x; have b0 : wr.cell? ⟨bb, ob + t * 2, none⟩ = some (.int .i64 x) := hcb 0 (by decide); have b1 : wr.cell? ⟨bb, ob + t * 2 + 1, none⟩ = some (.int .u64 y) := hcb 1 (by decide); subst hA; clear hcb)
      have hmy : mayB n a k x = true := HALL.out _ (List.mem_of_getElem? hx)
      clear hx
      go_wp2_with (go_at_call 85; ((with_reducible refine (HMY.out _ (x, y) (HD.out.move (below_alloc HB.out _)) (HL.out.below (below_alloc HB.out _))).mono ?_); rintro e w7 ⟨rfl, hb7⟩; have HB7 := Aside0.mk (bel_step (below_alloc HB.out _) hb7); clear hb7))
      go_roundw
      case rel => exact ⟨t + 1, by omega, by go_num, HB7⟩
      case measure => simp [intOf]; omega
    · obtain rfl : t = sets.length := by omega
      have c3 := (HL.out.below HB.out).cells.2.2.2
      have HP8 := Aside0.mk (show ∀ x ∈ sets, x.1 ≤ 8192 ∧ PosSt x from fun x hx => ⟨by have := may_range (HALL.out x hx); omega, HPS.out x hx⟩)
      obtain ⟨bd, hbd⟩ : ∃ bd, bd = bodyL sets := ⟨_, rfl⟩
      obtain ⟨hh, hhh⟩ : ∃ hh, hh = headL sets.length nx bd := ⟨_, rfl⟩
      have HBO := Aside0.mk (fun (W : World) (A : Option Addr) (c : Nat) (hr : SetK.C W A sets.length sets) => show Calls Try.prog 86 #[.slice A sets.length c] W (fun e w' => ∃ g c, e = .returned (.slice (some ⟨g, 0, none⟩) bd.length c) ∧ bd.length ≤ c ∧ ReadsInt w' .u8 (some ⟨g, 0, none⟩) bd.length bd ∧ W.heap.size ≤ g ∧ Below W.heap.size W w') from by
        rw [hbd]
        refine (body_calls W A c sets hr HPS.out (by omega)).mono ?_
        rintro e w' ⟨v2, rfl, hr2, hb2⟩
        obtain ⟨gb, cb, rfl, hcb2, hrd2, hgb2⟩ := row_form hr2 (by rw [bodyL_length]; omega)
        exact ⟨gb, cb, rfl, hcb2, hrd2, hgb2, hb2⟩)
      have HHD := Aside0.mk (fun (W : World) (A : Option Addr) (c : Nat) (hr : ReadsInt W .u8 A bd.length bd) => show Calls Try.prog 88 #[.int .i64 (sets.length : Int), .int .i64 (nx : Int), .slice A bd.length c] W (fun e w' => ∃ g c, e = .returned (.slice (some ⟨g, 0, none⟩) 8 c) ∧ ReadsInt w' .u8 (some ⟨g, 0, none⟩) 8 hh ∧ W.heap.size ≤ g ∧ Below W.heap.size W w') from by
        rw [hhh]
        refine (head_calls W sets.length nx A c bd hr (by omega) (by omega) (by omega) (by omega) (by rw [hbd, bodyL_length]; omega)).mono ?_
        rintro e w' ⟨v3, rfl, hr3, hb3⟩
        obtain ⟨gh, ch, rfl, _, hrd3, hgh3⟩ := row_form hr3 (by rw [headL_length]; decide)
        have hl8 := headL_length (sets.length : Int) nx bd
        rw [hl8] at hrd3
        exact ⟨gh, ch, by rw [hl8], hrd3, hgh3, hb3⟩)
      have HBN := Aside0.mk (show bd.length = 8 * (2 * sets.length) by rw [hbd, bodyL_length]; omega)
      have HBY := Aside0.mk (show Bys bd by rw [hbd]; exact bodyL_bys sets)
      have HHY := Aside0.mk (show Bys hh by rw [hhh]; exact headL_bys _ _ _)
      have HH8 := Aside0.mk (show hh.length = 8 by rw [hhh]; exact headL_length _ _ _)
      have HWA := Aside0.mk (show walS a (headL sets.length nx (bodyL sets)) (bodyL sets) sets = walS a hh bd sets by rw [hhh, hbd])
      clear hbd hhh
      have HN16 := Aside0.mk (show (sets.length : Int) < 65536 by omega)
      go_wp2_with (first | (go_at_call 45; ((with_reducible refine (HRM.out _ (HL.out.below HB.out)).mono ?_); rintro e w4 ⟨rfl, rfl⟩)) | ((with_reducible refine gate_bi (b := .append) (xs := #[.tmp 40, .tmp 41]) rfl ?_); go_must (refine Kd.R_append_rows SetK (w0 := wr) wr.heap.size rfl (.tmp 40) (.tmp 41) 72 78 (.agg #[.int .i64 0, .int .u64 0]) 16 rfl Try.underlying72 info_set rfl (by decide) (by decide) (.slice (some ⟨wr.heap.size, 0, none⟩) 0 0) [] sets A sets.length c (fun _ => True) (fun _ => False) rfl rfl ?c1 ?c2 (fun _ _ h => h) (fun _ h => h.elim) (fun _ _ => trivial) (below_alloc (Below.refl _ _) _) (by simp) (by simp; omega) ?_)))
      case c1 => exact R_flat.2 ⟨fun _ _ => trivial, by have h := World.ownsRow_made (e := 78) (size := 2) wr #[] 0 (show wr.heap.size ≤ _ by simp) (Nat.zero_le _) (rfl : (#[] : Array Value).size = 0 * 2); simpa using h⟩
      case c2 => exact Kd.C_below HC.out (below_alloc HB.out _)
      intro v1 w1 ho hb1 hg hat
      have HO1 := Aside0.mk (show RowSt w1 wr.heap.size v1 sets from ho)
      have HB1 := Aside0.mk hb1
      obtain ⟨A5, c5, rfl, _, hC5⟩ := flat_reads ho
      have HC5 := Aside0.mk (show SetK.C w1 A5 sets.length sets from hC5)
      clear ho hb1 hg hat hC5
      have HBL1 := Aside0.mk (bel_step HB.out HB1.out (by exact Nat.le_refl _))
      go_wp2_with (first | (go_at_call 86; ((with_reducible refine (HBO.out w1 A5 c5 HC5.out).mono ?_); rintro e w2 ⟨gb, cb, rfl, hcb2, hrd2, hgb2, hb2⟩; have HRB := Aside0.mk hrd2; have HGB := Aside0.mk hgb2; have HCB := Aside0.mk hcb2; have HB2 := Aside0.mk hb2; have c3b := cell_alloc (HL.out.below (bel_step HBL1.out hb2)).cells.2.2.2 (.cells #[.slice none 0 0] 82); clear hcb2 hrd2 hgb2 hb2)) | (go_at_call 88; ((with_reducible refine (HHD.out _ (some ⟨gb, 0, none⟩) cb (HRB.out.below (below_alloc (Below.refl _ _) _))).mono ?_); rintro e w3 ⟨gh, ch, rfl, hrd3, hgh3, hb3⟩; have HRH := Aside0.mk hrd3; have HGH := Aside0.mk hgh3; have HB3 := Aside0.mk hb3; clear hrd3 hgh3 hb3; have HLW3 := Aside0.mk (bel_step (below_alloc (bel_step HBL1.out HB2.out) _) HB3.out))) | (go_at_call 87; ((with_reducible refine (steps4_cap w3 q p a gh ch gb cb A5 c5 bd hh sets (HL.out.below HLW3.out).cells.1 (HL.out.below HLW3.out).cells.2.1 HCB.out (HRB.out.below (bel_step (below_alloc (Below.refl _ _) _) HB3.out)) HRH.out (Kd.C_below HC5.out (bel_step (below_alloc HB2.out _) HB3.out))).mono ?_); rintro e w4 ⟨bl, bb, bh, bs, rfl, hbl4, hcap4, hb4⟩; have HCAP := Aside0.mk hcap4; have HBL4 := Aside0.mk hbl4; have HB4 := Aside0.mk hb4; clear hbl4 hcap4 hb4)))
      have HLW4 := Aside0.mk (bel_step HLW3.out HB4.out)
      have HBX3 := Aside0.mk (show Boxed w3 w2.heap.size 82 (.slice none 0 0) from (HB3.out.block w2.heap.size (by simp)).trans (heap_alloc_new w2 _))
      have HBX4 := Aside0.mk (show Boxed w4 w2.heap.size 82 (.slice none 0 0) from (HB4.out.block w2.heap.size HBX3.out.lt).trans HBX3.out)
      have z2 : w.heap.size ≤ w2.heap.size := (bel_step HBL1.out HB2.out).size
      have z3 : w2.heap.size < w3.heap.size := HBX3.out.lt
      have z4 : w3.heap.size ≤ w4.heap.size := HB4.out.size
      obtain ⟨i0, hi, hz0, hz1, hz2⟩ := info_parts info_fnW
      refine (wpIn_wide (n := 3)).1 ?_
      refine range_told (n := 3) (by decide) (gf := 122) (lb := #[.pointer (some ⟨bl, 0, none⟩), .pointer (some ⟨bb, 0, none⟩), .pointer (some ⟨bh, 0, none⟩), .pointer (some ⟨bs, 0, none⟩)]) rfl (enters_of Try.func122 (by kernel_rfl) rfl)
        (steps1_goes 2 (by decide) w4 w.heap.size w2.heap.size bl bb bh bs q p a gb cb gh ch A5 c5 bd hh sets HCAP.out HBX4.out (2 * sets.length) HBN.out (by omega) (by omega) ⟨?n1, ?n2, ?n3⟩ HH8.out HBY.out HHY.out (by omega) HP8.out (by omega)) (Below.refl _ _) (CollW w w2.heap.size q p) (CollW.own w w2.heap.size q p _ (by omega)) (fun h k => h.trans k) (fun W l o o' hl h hc => KW.put (by omega) h hc) (fun x W l o o' hl h hc hz => hz.put (by omega) h hc)
        ⟨.slice none 0 0, HBX4.out, Kd.R_nil _ _ _ _ _, trivial, HLW4.out⟩ ?_ ?assign ?body ?done
      case n1 => have := HGB.out; have := HBL1.out.size; omega
      case n2 => have := HGH.out; simp at this; omega
      case n3 => have := HBL4.out; omega
      case assign =>
        intro l x W K hK
        gi_wp2
        exact hK
      case body =>
        rintro l pre x W ⟨v0, hv, hrow, hall, hb⟩ hz hlen
        have hc := hv.cell
        have hrow1 := Kd.own_of_R hrow
        have hpl : (pre.map Prod.fst).length = pre.length := by simp
        have HZ := Aside0.mk (hz v0 hv)
        have HR := Aside0.mk hrow
        have HA := Aside0.mk hall
        clear hz hrow hall
        obtain ⟨y, mm⟩ := x
        cases y
        all_goals
          simp only [encW]
          gi_wp2_with (gi_at_builtin; go_loud (refine wpListIn_append_own_at _ rfl _ _ 82 rfl w.heap.size 1 i0 .nilFunc 1 8 Try.underlying82 hi hz0 hz1 hz2 rfl (by decide) _ _ _ rfl (hrow1.alloc _) ⟨W.heap.size, 0, none⟩ 1 1 [_] rfl rfl (cell_one_new _ _ _) (by simp [Value.oneCell']) (by simp only [maxLen]; omega) (by omega) (by have := hb.size; simp; omega) ?_; intro v' w1 hown' hgrow _ hat; obtain ⟨g', cap', rfl⟩ := ownsRow_succ hown'; obtain ⟨hv1, hv2, hr2, hk2, hb2⟩ := hv.appended (by decide) hrow1 hb.size (by omega) hown' hgrow; have hc1 := hv1.cell; have hf1 := hv1.frozen))
          obtain ⟨hk3, hc3⟩ := coll_step rfl hv HR.out HA.out HZ.out hb hgrow hat hv2 hr2 hb2
          rw [hpl] at hk2 hk3 hc3
          exact ⟨hk2.from _, hk3, hc3⟩
      case done =>
        rintro D ys W hD hS ⟨v0, hv, hrow, hall, hb⟩ hK
        have hyl : 0 < (ys.map Prod.fst).length := by
          have h1 : (ys.map Prod.snd).length = (walS a hh bd sets).length := by rw [hS]
          have h2 := walS_pos a hh bd sets
          rw [List.length_map] at h1 ⊢
          omega
        obtain ⟨g, cg, rfl, hg, hce⟩ := rowW_cell hrow hyl
        have HC := Aside0.mk hce
        have HA := Aside0.mk hall
        have HGE := Aside0.mk hg
        have HBW := Aside0.mk hb
        have HKD := Aside0.mk hK
        have HLQ := Aside0.mk (HL.out.below hb)
        have hc := hv.cell
        have hq3 := (HL.out.below hb).cells.2.2.2
        have hfz := blk_free (HL.out.below hb).ptr 3
        have e1 : IntKind.i64.wrap ((nx : Int) + 1) = (nx : Int) + 1 := IntWalk.i64_in _ (by omega)
        have hne : q ≠ w2.heap.size := by have := blk_lt HL.out.ptr; omega
        clear hrow hall hce hb hK hg
        go_wp2
        have hKD2 : (W.setCell ⟨q, 3, none⟩ (.int .i64 ((nx : Int) + 1))).heap[D]? = some (.deferred (some [])) := (KeepsOthers.setCell _ _ _).same D _ HKD.out rfl
        have hqD : q < D := by have := blk_lt HL.out.ptr; omega
        refine ⟨by simp, .inl ⟨_, _, rfl, run_takeDeferred hKD2, ?_⟩⟩
        refine ⟨_, results_tmp2 rfl _ _ _, ?_⟩
        have hF : Fr (fun b => b = q) w ((W.setCell ⟨q, 3, none⟩ (.int .i64 ((nx : Int) + 1))).putObj D (.deferred none)) := by
          refine ((Fr.of_below HBW.out (fun b => b = q)).setCell (p := ⟨q, 3, none⟩) (.inl rfl) _).trans (fr_put _ (fun b => b = D) rfl) (fun b hb hlt => ?_)
          subst hb
          omega
        have hF2 : Fr (fun b => b = q ∨ b = D) W ((W.setCell ⟨q, 3, none⟩ (.int .i64 ((nx : Int) + 1))).putObj D (.deferred none)) :=
          ((Fr.refl (fun b => b = q ∨ b = D) W).setCell (p := ⟨q, 3, none⟩) (.inl (.inl rfl)) _).trans (fr_put _ (fun b => b = D) rfl) (fun b hb _ => .inr hb)
        have hqw : q < w.heap.size := blk_lt HL.out.ptr
        have hcD : ∀ b o u, W.cell? ⟨b, o, none⟩ = some u → b ≠ D := by
          intro b o u hc e
          subst e
          have := cell_cells hc HKD.out
          cases this
        refine ⟨g, cg, ys.map Prod.fst, ?_, HGE.out, fun t x hx => hF2.cell (HC.out t x hx) ?_, ?_, ⟨?_⟩, hF⟩
        · simp
        · rintro (h | h)
          · have := HGE.out; simp only at h; omega
          · exact hcD _ _ _ (HC.out t x hx) h
        · rw [HWA.out, ← hS]
          refine (HA.out.moveC hF2 (fun b o u hc ht => ?_)).mono (fun b _ ht => ht.1)
          rintro (h | h)
          · have := ht.1; omega
          · exact hcD _ _ _ hc h
        · have h1 := blk_set HLQ.out.ptr 3 (.int .i64 ((nx : Int) + 1))
          exact (World.putObj_heap_other (by omega)).trans h1
end Go.Proofs.Ytbfogcckbhkciaa.Hand
namespace Go.Proofs.Ytbfogcckbhkciaa.Hand
open Go.RowKit Go.Maps Go.Proofs.YtbfogcckbhkciaaW.PrintWords Go.Proofs.YtbfogcckbhkciaaW.PrintLast
set_option linter.unusedVariables false
set_option linter.unusedSimpArgs false
theorem HasL.ne_dev {w : World} {q p a k nx : Nat} (h : HasL w q p a k nx) {p2 : Nat} {v : Value} {s f : Nat} {d : Dev} (hd : HasD w p2 v s f d) : p2 ≠ q := by
  intro e
  subst e
  have h1 := hd.ptr
  rw [h.ptr] at h1
  have := congrArg (fun o => match o with | some (Obj.cells cs _ _) => cs.size | _ => 0) h1
  simp at this
theorem walS_okm {a : Nat} {h b : List Int} {sets : List SetT} (hh : Bys h) (hb : Bys b) : ∀ m ∈ walS a h b sets, OkM m := by
  intro m hm
  rw [walS] at hm
  simp only [List.mem_append] at hm
  rcases hm with (((hm | hm) | hm) | hm) | hm
  · simp only [stepA, List.mem_cons, List.not_mem_nil, or_false] at hm
    rcases hm with rfl | rfl | rfl
    · intro x hx
      rw [List.eq_of_mem_replicate hx]
      decide
    · trivial
    · trivial
  · obtain ⟨i, _, rfl⟩ := List.mem_map.1 hm
    exact cut_bys hb _ _
  · simp only [stepC, List.mem_cons, List.not_mem_nil, or_false] at hm
    rcases hm with rfl | rfl | rfl | rfl | rfl
    · trivial
    · trivial
    · exact hh
    · trivial
    · trivial
  · obtain ⟨x, _, hm⟩ := List.mem_flatMap.1 hm
    simp only [stepS, List.mem_cons, List.not_mem_nil, or_false] at hm
    rcases hm with rfl | rfl
    · exact leB_bysq _ _
    · trivial
  · obtain rfl := List.mem_singleton.1 hm
    trivial
theorem walS_length (a : Nat) (h : List Int) (sets : List SetT) : (walS a h (bodyL sets) sets).length = 9 + 4 * sets.length := by
  rw [walS, List.length_append, List.length_append, List.length_append, List.length_append, stepB_length, stepE_length, bodyL_length]
  simp [stepA, stepC]
  omega
/-- The steps of bringing sets. -/
def walM (a nx : Nat) (sets : List SetT) : List StepM := walS a (headL sets.length nx (bodyL sets)) (bodyL sets) sets
theorem errW_pos {n a k nx : Nat} {sets : List SetT} (he : errW n a k nx sets = 0) (hw : ∀ s ∈ sets, WfSt s) : ∀ s ∈ sets, PosSt s := by
  intro s hs
  have h1 := may_range ((errW_ok he).1 s hs)
  obtain ⟨_, h2, h3, h4⟩ := hw s hs
  exact ⟨h1.1, h2, h3, h4⟩
def CommitE (w : World) (q p : Nat) (v : Value) (s f : Nat) (d : Dev) (a k nx : Nat) (sets : List SetT) (e : Ending) (w' : World) : Prop :=
  e = .returned (.int .i64 0) ∧ HasD w' p v s f (d.steps (walM a nx sets)) ∧ HasL w' q p a k (nx + 1) ∧ Fr (fun b => OwnD v s f b ∨ b = q) w w'
set_option maxRecDepth 100000 in
set_option maxHeartbeats 4000000 in
theorem commit_good (w : World) (q p : Nat) (v : Value) (s f : Nat) (d : Dev) (a k nx : Nat) (A : Option Addr) (c : Nat) (sets : List SetT) (hd : HasD w p v s f d) (h : HasL w q p a k nx) (hqo : ¬ OwnD v s f q) (h1 : 1 ≤ k) (hak : a + k ≤ d.B.length / 8) (hs : SetK.C w A sets.length sets) (hw : ∀ s ∈ sets, WfSt s) (he : errW (d.B.length / 8) a k nx sets = 0) :
    Calls Try.prog 42 #[.pointer (some ⟨q, 0, none⟩), .slice A sets.length c] w (CommitE w q p v s f d a k nx sets) := by
  have HB := Aside0.mk (show Calls Try.prog 47 #[.pointer (some ⟨q, 0, none⟩), .slice A sets.length c] w (fun e w' => ∃ (g c : Nat) (xs : List StepW), e = .returned (.tuple #[.slice (some ⟨g, 0, none⟩) xs.length c, .int .i64 0]) ∧ w.heap.size ≤ g ∧ (∀ t x, xs[t]? = some x → w'.cell? ⟨g, t, none⟩ = some (encW x)) ∧
    AllW w' (fun b => w.heap.size ≤ b) q p xs (walM a nx sets) ∧ HasL w' q p a k (nx + 1) ∧ Fr (fun b => b = q) w w') from begin4_good w q p v s f d a k nx A c sets hd h h1 hak hs he (errW_pos he hw))
  have HOK := Aside0.mk (show ∀ m ∈ walM a nx sets, OkM m from walS_okm (headL_bys _ _ _) (bodyL_bys _))
  have hml : (walM a nx sets).length ≤ 40000 := by
    have := (errW_ok he).2.2.1
    have hm := hd.ok.max
    rw [walM, walS_length]
    omega
  have HH := Aside0.mk hd
  have HNE := Aside0.mk (h.ne_dev hd)
  have HQO := Aside0.mk hqo
  obtain ⟨ms, hms⟩ : ∃ ms, ms = walM a nx sets := ⟨_, rfl⟩
  have HSV := Aside0.mk (show CommitE w q p v s f d a k nx sets = fun e w' => e = .returned (.int .i64 0) ∧ HasD w' p v s f (d.steps ms) ∧ HasL w' q p a k (nx + 1) ∧ Fr (fun b => OwnD v s f b ∨ b = q) w w' by rw [hms]; rfl)
  rw [HSV.out]
  rw [← hms] at HB HOK hml
  clear hd h hs hw he hms HSV hqo
  go_enter Try.func42, Try.ntmps42
  go_wp2_with (go_at_call 47; ((with_reducible refine HB.out.mono ?_); rintro e w1 ⟨g, cu, xs, rfl, hg, hcell, hall, hl1, hf1⟩; have HAL := Aside0.mk hall; have HF1 := Aside0.mk hf1; have HL1 := Aside0.mk hl1; have HXL := Aside0.mk hall.len; have HCE := Aside0.mk hcell; have HG := Aside0.mk hg; clear hall hf1 hl1 hcell hg))
  have hxl2 : xs.length ≤ 40000 := by have := HXL.out; omega
  have HD1 := Aside0.mk (HH.out.fr HF1.out HNE.out (fun b hb e => HQO.out (e ▸ hb)))
  have HTO := Aside0.mk (show ∀ b, w.heap.size ≤ b → ¬ OwnD v s f b from fun b hb => not_own_ge HH.out hb)
  go_loopw [17] (fun i wr => ∃ k : Nat, k ≤ xs.length ∧ i = .int .i64 (k : Int) ∧ Aside0 (HasD wr p v s f (d.steps (ms.take k))) ∧ Aside0 (Fr (OwnD v s f) w1 wr)) (fun i _ => (xs.length - intOf i).toNat)
  case atStart => exact ⟨0, Nat.zero_le _, rfl, HD1, ⟨Fr.refl _ _⟩⟩
  case round =>
    obtain ⟨t, ht, rfl, HD, HF⟩ := hrel
    by_cases hlt : t < xs.length
    · obtain ⟨x, hx⟩ : ∃ x, xs[t]? = some x := ⟨_, List.getElem?_eq_getElem hlt⟩
      obtain ⟨m, hm, hst1⟩ := HAL.out.get hx
      have hst := hst1.move HF.out HTO.out
      have hcx := HF.out.cell (HCE.out t x hx) (HTO.out _ HG.out)
      have HTK := Aside0.mk (take_steps (d := d) hm)
      have hok := HOK.out m (List.mem_of_getElem? hm)
      have hlq := (HL1.out.fr HF.out HQO.out).cells.1
      clear hst1 hm hx
      cases x with
      | wr bd ba bx =>
        cases m with
        | wr a y =>
          have HDO := Aside0.mk (stepW_wr wr q p v s f _ _ bd ba bx a y HD.out hlq hst hok)
          simp only [encW] at hcx
          clear hst hok hlq
          go_wp2_with (go_at_call 114; ((with_reducible refine HDO.out.mono ?_); rintro e w3 ⟨rfl, hd, hf⟩; have HD3 := Aside0.mk hd; have HF3 := Aside0.mk (HF.out.trans' hf); clear hd hf))
          refine ⟨⟨t + 1, by omega, by go_num, ⟨?_⟩, HF3⟩, by simp [intOf]; omega⟩
          rw [HTK.out]
          exact HD3.out
        | fl a n => exact hst.elim
        | fe => exact hst.elim
      | fl bd ba bn =>
        cases m with
        | fl a n =>
          have HDO := Aside0.mk (stepW_fl wr q p v s f _ _ bd ba bn a n HD.out hlq hst)
          simp only [encW] at hcx
          clear hst hok hlq
          go_wp2_with (go_at_call 115; ((with_reducible refine HDO.out.mono ?_); rintro e w3 ⟨rfl, hd, hf⟩; have HD3 := Aside0.mk hd; have HF3 := Aside0.mk (HF.out.trans' hf); clear hd hf))
          refine ⟨⟨t + 1, by omega, by go_num, ⟨?_⟩, HF3⟩, by simp [intOf]; omega⟩
          rw [HTK.out]
          exact HD3.out
        | wr a n => exact hst.elim
        | fe => exact hst.elim
      | fe r =>
        cases m with
        | fe =>
          obtain rfl : r = p := hst
          have HDO := Aside0.mk (stepW_fe wr r v s f _ HD.out)
          simp only [encW] at hcx
          clear hok hlq
          go_wp2_with (go_at_call 24; ((with_reducible refine HDO.out.mono ?_); rintro e w3 ⟨rfl, hd, hf⟩; have HD3 := Aside0.mk hd; have HF3 := Aside0.mk (HF.out.trans' hf); clear hd hf))
          refine ⟨⟨t + 1, by omega, by go_num, ⟨?_⟩, HF3⟩, by simp [intOf]; omega⟩
          rw [HTK.out]
          exact HD3.out
        | wr a n => exact hst.elim
        | fl a n => exact hst.elim
    · obtain rfl : t = xs.length := by omega
      go_wp2
      go_ret
      have h := HD.out
      rw [List.take_of_length_le (by have := HXL.out; omega)] at h
      exact ⟨rfl, h, HL1.out.fr HF.out HQO.out, (HF1.out.mono (fun b hb => .inr hb)).trans' (HF.out.mono (fun b hb => .inl hb))⟩
end Go.Proofs.Ytbfogcckbhkciaa.Hand
namespace Go.Proofs.Ytbfogcckbhkciaa.Hand
open Go.RowKit Go.Maps Go.Proofs.YtbfogcckbhkciaaW.PrintWords
set_option linter.unusedVariables false
set_option linter.unusedSimpArgs false
/-- A device of n words: what is seen, what was safe, what is flushed. -/
structure Is (d : Dev) (n : Nat) (W : Nat → List Int) (S : Nat → Option (List Int)) (F : Nat → Bool) : Prop where
  len : d.B.length = 8 * n
  w : ∀ k, k < n → word d.B k = W k
  s : ∀ k, d.S k = S k
  f : ∀ k, d.F k = F k
theorem Is.congr {d : Dev} {n : Nat} {W W' : Nat → List Int} {S S' : Nat → Option (List Int)} {F F' : Nat → Bool} (h : Is d n W S F) (hw : ∀ k, k < n → W k = W' k) (hs : ∀ k, S k = S' k) (hf : ∀ k, F k = F' k) : Is d n W' S' F' :=
  ⟨h.len, fun k hk => (h.w k hk).trans (hw k hk), fun k => (h.s k).trans (hs k), fun k => (h.f k).trans (hf k)⟩
theorem hit_word (i k : Nat) : hitB (8 * i) 8 k = decide (k = i) := by
  rw [hitB]
  exact decide_eq_decide.2 (by omega)
theorem hit_words (i m k : Nat) : hitB (8 * i) (8 * m) k = decide (i ≤ k ∧ k < i + m) := by
  rw [hitB]
  exact decide_eq_decide.2 (by omega)
theorem word_splice {B x : List Int} {i k : Nat} (hx : x.length = 8) (hi : 8 * i + 8 ≤ B.length) : word (B.take (8 * i) ++ (x ++ B.drop (8 * i + 8))) k = if k = i then x else word B k := by
  rw [word, cut]
  by_cases h1 : k = i
  · subst h1
    rw [if_pos rfl, List.drop_append_of_le_length (by rw [List.length_take]; omega), List.drop_eq_nil_of_le (by rw [List.length_take]; omega), List.nil_append, List.take_append_of_le_length (by omega), List.take_of_length_le (by omega)]
  · rw [if_neg h1]
    apply List.ext_getElem?
    intro t
    rw [word, cut]
    by_cases ht : t < 8
    · rw [List.getElem?_take_of_lt ht, List.getElem?_take_of_lt ht, List.getElem?_drop, List.getElem?_drop]
      by_cases h2 : k < i
      · rw [List.getElem?_append_left (by rw [List.length_take]; omega), List.getElem?_take_of_lt (by omega)]
      · rw [List.getElem?_append_right (by rw [List.length_take]; omega), List.length_take, Nat.min_eq_left (by omega), List.getElem?_append_right (by omega), List.getElem?_drop]
        congr 1
        omega
    · rw [List.getElem?_take_eq_none (by omega), List.getElem?_take_eq_none (by omega)]
theorem Is.wr {d : Dev} {n : Nat} {W : Nat → List Int} {S : Nat → Option (List Int)} {F : Nat → Bool} (h : Is d n W S F) {i : Nat} {x : List Int} (hi : i < n) (hx : x.length = 8) :
    Is (d.step (.wr (8 * i) x)) n (fun k => if k = i then x else W k) (fun k => if k = i then some ((S k).getD (W k)) else S k) (fun k => F k && !decide (k = i)) := by
  have hl := h.len
  have e : d.step (.wr (8 * i) x) = d.write (8 * i) x := if_pos (by omega)
  rw [e]
  refine ⟨?_, fun k hk => ?_, fun k => ?_, fun k => ?_⟩
  · rw [Dev.write]
    exact (splice_length (by omega)).trans hl
  · simp only [Dev.write, hx]
    rw [word_splice hx (by omega), h.w k hk]
  · simp only [Dev.write, hx, hit_word, decide_eq_true_eq]
    by_cases hk : k = i
    · subst hk
      rw [if_pos rfl, if_pos rfl, h.s, h.w _ hi]
    · rw [if_neg hk, if_neg hk, h.s]
  · simp only [Dev.write, hx, hit_word, h.f]
theorem Is.fl {d : Dev} {n : Nat} {W : Nat → List Int} {S : Nat → Option (List Int)} {F : Nat → Bool} (h : Is d n W S F) {i m : Nat} (hi : i + m ≤ n) :
    Is (d.step (.fl (8 * i) (8 * m))) n W S (fun k => F k || (decide (i ≤ k ∧ k < i + m) && (S k).isSome)) := by
  have hl := h.len
  have e : d.step (.fl (8 * i) (8 * m)) = d.flush (8 * i) (8 * m) := if_pos (by omega)
  rw [e]
  refine ⟨hl, h.w, h.s, fun k => ?_⟩
  simp only [Dev.flush, hit_words, h.s, h.f]
theorem Is.fe {d : Dev} {n : Nat} {W : Nat → List Int} {S : Nat → Option (List Int)} {F : Nat → Bool} (h : Is d n W S F) : Is (d.step .fe) n W (fun k => if F k then none else S k) (fun _ => false) :=
  ⟨h.len, h.w, fun k => by simp only [Dev.step, Dev.fence, h.f, h.s], fun k => rfl⟩
theorem Is.crash {d : Dev} {n : Nat} {W : Nat → List Int} {S : Nat → Option (List Int)} {F : Nat → Bool} (h : Is d n W S F) (hok : d.Ok) (keep : List Int) :
    Is (d.crash keep) n (fun k => match S k with | some c => if (k : Int) ∈ keep then W k else c | none => W k) (fun _ => none) (fun _ => false) := by
  have hl := h.len
  refine ⟨(crash_length hok keep).trans hl, fun k hk => ?_, fun k => rfl, fun k => rfl⟩
  have : word (d.crash keep).B k = d.lossW keep k := word_mapW (fun j hj => hok.lossW keep hj) (by omega)
  rw [this, Dev.lossW, h.s, h.w k hk]
  cases S k <;> rfl
/-- Nothing is loose. -/
def Cln (d : Dev) (n : Nat) (W : Nat → List Int) : Prop := Is d n W (fun _ => none) (fun _ => false)
def newW (i0 : Nat) (X : List Int) (j : Nat) (W : Nat → List Int) (k : Nat) : List Int := if i0 ≤ k ∧ k < i0 + j then cut X (8 * (k - i0)) 8 else W k
def newS (i0 j : Nat) (W : Nat → List Int) (k : Nat) : Option (List Int) := if i0 ≤ k ∧ k < i0 + j then some (W k) else none
theorem Is.wrs {d : Dev} {n i0 j : Nat} {W : Nat → List Int} {X : List Int} (h : Cln d n W) (hi : i0 + j ≤ n) (hX : 8 * j ≤ X.length) :
    Is (d.steps (wrsN (8 * i0) X j)) n (newW i0 X j W) (newS i0 j W) (fun _ => false) := by
  induction j with
  | zero =>
    refine (show Is d n W (fun _ => none) (fun _ => false) from h).congr (fun k _ => ?_) (fun k => ?_) (fun _ => rfl)
    · rw [newW, if_neg (by omega)]
    · rw [newS, if_neg (by omega)]
  | succ j ih =>
    rw [wrsN_succ, Dev.steps_snoc, show 8 * i0 + 8 * j = 8 * (i0 + j) by omega]
    refine ((ih (by omega) (by omega)).wr (i := i0 + j) (by omega) (cut_length (by omega))).congr (fun k _ => ?_) (fun k => ?_) (fun k => ?_)
    · by_cases hk : k = i0 + j
      · rw [if_pos hk, newW, if_pos (by omega)]
        congr 1
        omega
      · rw [if_neg hk, newW, newW]
        by_cases h2 : i0 ≤ k ∧ k < i0 + j
        · rw [if_pos h2, if_pos (by omega)]
        · rw [if_neg h2, if_neg (by omega)]
    · by_cases hk : k = i0 + j
      · rw [if_pos hk, newS, newS, if_neg (by omega), if_pos (by omega), newW, if_neg (by omega)]
        rfl
      · rw [if_neg hk, newS, newS]
        by_cases h2 : i0 ≤ k ∧ k < i0 + j
        · rw [if_pos h2, if_pos (by omega)]
        · rw [if_neg h2, if_neg (by omega)]
    · rfl
theorem Is.cut {d : Dev} {n : Nat} {W : Nat → List Int} {S : Nat → Option (List Int)} {F : Nat → Bool} (h : Is d n W S F) {a m : Nat} (ha : a + m ≤ n) : Hand.cut d.B (8 * a) (8 * m) = mapW W a m := by
  have hl := h.len
  rw [← mapW_word (by omega)]
  exact mapW_congr (fun j _ hj => h.w j (by omega))
end Go.Proofs.Ytbfogcckbhkciaa.Hand
namespace Go.Proofs.Ytbfogcckbhkciaa.Hand
open Go.RowKit Go.Maps Go.Proofs.YtbfogcckbhkciaaW.PrintWords
set_option linter.unusedVariables false
set_option linter.unusedSimpArgs false
/-- A word that is set. -/
def putW (W : Nat → List Int) (i : Nat) (x : List Int) (k : Nat) : List Int := if k = i then x else W k
/-- Words behind sets, one behind the other. -/
def setW (W : Nat → List Int) (l : List SetT) : Nat → List Int := l.foldl (fun W s => putW W s.1.toNat (leB s.2 8)) W
theorem setW_snoc (W : Nat → List Int) (l : List SetT) (s : SetT) : setW W (l ++ [s]) = putW (setW W l) s.1.toNat (leB s.2 8) := by simp [setW, List.foldl_append]
def hitS (l : List SetT) (k : Nat) : Bool := l.any fun s => decide (s.1.toNat = k)
theorem hitS_snoc (l : List SetT) (s : SetT) (k : Nat) : hitS (l ++ [s]) k = (hitS l k || decide (s.1.toNat = k)) := by simp [hitS, List.any_append]
theorem setW_miss {W : Nat → List Int} {l : List SetT} {k : Nat} (h : hitS l k = false) : setW W l k = W k := by
  induction l generalizing W with
  | nil => rfl
  | cons s l ih =>
    simp only [hitS, List.any_cons, Bool.or_eq_false_iff, decide_eq_false_iff_not] at h
    have h2 : hitS l k = false := h.2
    rw [setW, List.foldl_cons]
    have := ih (W := putW W s.1.toNat (leB s.2 8)) h2
    rw [setW] at this
    rw [this, putW, if_neg (fun e => h.1 e.symm)]
/-- A word that is hit does not depend on what was. -/
theorem setW_hit {W W' : Nat → List Int} {l : List SetT} {k : Nat} (h : hitS l k = true) : setW W l k = setW W' l k := by
  induction l generalizing W W' with
  | nil => cases h
  | cons s l ih =>
    rw [setW, setW, List.foldl_cons, List.foldl_cons]
    by_cases h2 : hitS l k = true
    · have := ih (W := putW W s.1.toNat (leB s.2 8)) (W' := putW W' s.1.toNat (leB s.2 8)) h2
      rw [setW, setW] at this
      exact this
    · have h3 : hitS l k = false := by simpa using h2
      have e1 := setW_miss (W := putW W s.1.toNat (leB s.2 8)) h3
      have e2 := setW_miss (W := putW W' s.1.toNat (leB s.2 8)) h3
      rw [setW] at e1 e2
      rw [e1, e2]
      have : s.1.toNat = k := by
        simp only [hitS, List.any_cons, Bool.or_eq_true, decide_eq_true_eq] at h
        rcases h with h | h
        · exact h
        · exact absurd h h2
      rw [putW, putW, if_pos this.symm, if_pos this.symm]
theorem steps_app (d : Dev) (a b : List StepM) : d.steps (a ++ b) = (d.steps a).steps b := by simp [Dev.steps, List.foldl_append]
section
variable {d : Dev} {n : Nat} {W : Nat → List Int}
/-- One word written, flushed, fenced. -/
theorem Cln.one (h : Cln d n W) {i : Nat} {x : List Int} (hi : i < n) (hx : x.length = 8) : Cln (d.steps [.wr (8 * i) x, .fl (8 * i) (8 * 1), .fe]) n (putW W i x) := by
  have h1 := (show Is d n W (fun _ => none) (fun _ => false) from h).wr hi hx
  have h2 := Is.fl h1 (i := i) (m := 1) (by omega)
  have h3 := Is.fe h2
  refine Is.congr h3 (fun k _ => rfl) (fun k => ?_) (fun _ => rfl)
  by_cases hk : k = i
  · subst hk; simp
  · have : ¬ (i ≤ k ∧ k < i + 1) := by omega
    simp [hk, this]
theorem stepB_eq (a : Nat) (b : List Int) (j : Nat) : stepB a b j = wrsN (8 * (a + 1)) b j := by
  rw [stepB, wrsN]
  refine List.map_congr_left (fun i _ => ?_)
  rw [Nat.mul_add 8 (a + 1) i]
/-- The body written, flushed, fenced. -/
theorem Cln.body (h : Cln d n W) {a m : Nat} {b : List Int} (hm : b.length = 8 * m) (hi : a + 1 + m ≤ n) : Cln (d.steps (stepB a b m ++ [.fl (8 * (a + 1)) (8 * m), .fe])) n (newW (a + 1) b m W) := by
  rw [steps_app, stepB_eq]
  have h1 := Is.wrs h (i0 := a + 1) (j := m) (X := b) (by omega) (by omega)
  have h2 := Is.fl h1 (i := a + 1) (m := m) (by omega)
  have h3 := Is.fe h2
  refine Is.congr (d := ((d.steps (wrsN (8 * (a + 1)) b m)).step (.fl (8 * (a + 1)) (8 * m))).step .fe) h3 (fun k _ => rfl) (fun k => ?_) (fun _ => rfl)
  rw [newS]
  by_cases hk : a + 1 ≤ k ∧ k < a + 1 + m
  · simp [hk]
  · rw [if_neg hk]; simp
/-- Words of which some are set, and flushed, not fenced. -/
theorem Is.sets (h : Cln d n W) {l : List SetT} (hl : ∀ s ∈ l, s.1.toNat < n) : Is (d.steps (stepE l)) n (setW W l) (fun k => if hitS l k = true then some (W k) else none) (hitS l) := by
  suffices H : ∀ j, j ≤ l.length → Is (d.steps (stepE (l.take j))) n (setW W (l.take j)) (fun k => if hitS (l.take j) k = true then some (W k) else none) (hitS (l.take j)) by
    have := H l.length (Nat.le_refl _)
    rwa [List.take_of_length_le (Nat.le_refl _)] at this
  intro j
  induction j with
  | zero => intro _; exact (show Is d n W (fun _ => none) (fun _ => false) from h).congr (fun _ _ => rfl) (fun k => by simp [hitS]) (fun k => by simp [hitS])
  | succ j ih =>
    intro hj
    obtain ⟨s, hs⟩ : ∃ s, l[j]? = some s := ⟨_, List.getElem?_eq_getElem (by omega)⟩
    have hsn := hl s (List.mem_of_getElem? hs)
    have e : l.take (j + 1) = l.take j ++ [s] := by rw [List.take_add_one, hs]; rfl
    rw [stepE_take hs, steps_app, e]
    have h0 := ih (by omega)
    have h1 := h0.wr (i := s.1.toNat) (x := leB s.2 8) hsn (leB_length _ _)
    have h2 := Is.fl h1 (i := s.1.toNat) (m := 1) (by omega)
    have e2 : ∀ D : Dev, D.steps (stepS s) = (D.step (.wr (8 * s.1.toNat) (leB s.2 8))).step (.fl (8 * s.1.toNat) (8 * 1)) := fun D => by simp only [Dev.steps, stepS, List.foldl_cons, List.foldl_nil]
    rw [e2]
    refine Is.congr h2 (fun k _ => ?_) (fun k => ?_) (fun k => ?_)
    · rw [setW_snoc]; rfl
    · rw [hitS_snoc]
      by_cases hk : k = s.1.toNat
      · subst hk
        simp only [if_true]
        by_cases ht : hitS (l.take j) s.1.toNat = true
        · simp [ht]
        · have ht' : hitS (l.take j) s.1.toNat = false := by simpa using ht
          simp [ht', setW_miss ht']
      · have hk2 : ¬ s.1.toNat = k := fun e => hk e.symm
        simp [hk, hk2]
    · rw [hitS_snoc]
      by_cases hk : k = s.1.toNat
      · subst hk
        simp
      · have hk2 : ¬ s.1.toNat = k := fun e => hk e.symm
        have : ¬ (s.1.toNat ≤ k ∧ k < s.1.toNat + 1) := by omega
        simp [hk, hk2, this]
theorem Cln.sets (h : Cln d n W) {l : List SetT} (hl : ∀ s ∈ l, s.1.toNat < n) : Cln (d.steps (stepE l ++ [.fe])) n (setW W l) := by
  rw [steps_app]
  refine Is.congr (d := (d.steps (stepE l)).step .fe) (Is.fe (Is.sets h hl)) (fun _ _ => rfl) (fun k => ?_) (fun _ => rfl)
  cases hitS l k <;> rfl
/-- The record's words. -/
def recW (a nx : Nat) (sets : List SetT) (W : Nat → List Int) : Nat → List Int := putW (newW (a + 1) (bodyL sets) (2 * sets.length) (putW W a zeros8)) a (headL sets.length nx (bodyL sets))
theorem walM_eq (a nx : Nat) (sets : List SetT) : walM a nx sets = [.wr (8 * a) zeros8, .fl (8 * a) (8 * 1), .fe] ++ (stepB a (bodyL sets) (2 * sets.length) ++ [.fl (8 * (a + 1)) (8 * (2 * sets.length)), .fe]) ++ [.wr (8 * a) (headL sets.length nx (bodyL sets)), .fl (8 * a) (8 * 1), .fe] ++ (stepE sets ++ [.fe]) := by
  have hl : (bodyL sets).length / 8 = 2 * sets.length := by rw [bodyL_length]; omega
  rw [walM, walS, hl, stepA, stepC]
  simp only [List.append_assoc, List.cons_append, List.nil_append]
/-- What a device is behind all steps. -/
theorem Cln.wal (h : Cln d n W) {a nx : Nat} {sets : List SetT} (hi : a + 1 + 2 * sets.length ≤ n) (hl : ∀ s ∈ sets, s.1.toNat < n) : Cln (d.steps (walM a nx sets)) n (setW (recW a nx sets W) sets) := by
  have e4 : ∀ (x y z u : List StepM), d.steps (x ++ y ++ z ++ u) = (((d.steps x).steps y).steps z).steps u := fun x y z u => by rw [steps_app d (x ++ y ++ z) u, steps_app d (x ++ y) z, steps_app d x y]
  rw [walM_eq, e4, recW]
  have h1 := h.one (i := a) (x := zeros8) (by omega) rfl
  have h2 := h1.body (a := a) (m := 2 * sets.length) (b := bodyL sets) (by rw [bodyL_length]; omega) (by omega)
  have h3 := h2.one (i := a) (x := headL sets.length nx (bodyL sets)) (by omega) (headL_length _ _ _)
  exact h3.sets hl
end
end Go.Proofs.Ytbfogcckbhkciaa.Hand
namespace Go.Proofs.Ytbfogcckbhkciaa.Hand
open Go.RowKit Go.Maps Go.Proofs.YtbfogcckbhkciaaW.PrintWords
set_option linter.unusedVariables false
set_option linter.unusedSimpArgs false
theorem cut_left {x y : List Int} {a m : Nat} (h : a + m ≤ x.length) : cut (x ++ y) a m = cut x a m := by
  rw [cut, cut, List.drop_append_of_le_length (by omega), List.take_append_of_le_length (by rw [List.length_drop]; omega)]
theorem cut_right {x y : List Int} {a m : Nat} (h : x.length ≤ a) : cut (x ++ y) a m = cut y (a - x.length) m := by
  rw [cut, cut, List.drop_append, List.drop_of_length_le h, List.nil_append]
theorem cut_mapW {g : Nat → List Int} : ∀ {k a i : Nat}, (∀ j, a ≤ j → j < a + k → (g j).length = 8) → i < k → cut (mapW g a k) (8 * i) 8 = g (a + i)
  | k + 1, a, 0, h, _ => by
    have h8 := h a (by omega) (by omega)
    rw [mapW, cut_left (by omega), cut]
    simp [List.take_of_length_le (Nat.le_of_eq h8)]
  | k + 1, a, i + 1, h, hi => by
    have h8 := h a (by omega) (by omega)
    rw [mapW, cut_right (by omega), h8, show 8 * (i + 1) - 8 = 8 * i by omega, cut_mapW (fun j h1 h2 => h j (by omega) (by omega)) (by omega)]
    congr 1
    omega
theorem mapW_head {g : Nat → List Int} {a k : Nat} (hk : 1 ≤ k) (h8 : (g a).length = 8) : ∃ y, mapW g a k = g a ++ y := by
  obtain ⟨k, rfl⟩ : ∃ j, k = j + 1 := ⟨k - 1, by omega⟩
  exact ⟨_, rfl⟩
theorem body_cut : ∀ {sets : List SetT} {j : Nat} {s : SetT}, sets[j]? = some s → cut (bodyL sets) (16 * j) 8 = leB s.1 8 ∧ cut (bodyL sets) (16 * j + 8) 8 = leB s.2 8
  | x :: l, 0, s, h => by
    obtain rfl : x = s := by simpa using h
    have e : bodyL (x :: l) = leB x.1 8 ++ (leB x.2 8 ++ bodyL l) := by simp [bodyL]
    have h1 := leB_length x.1 8
    have h2 := leB_length x.2 8
    refine ⟨?_, ?_⟩
    · rw [e, cut_left (by omega), cut]
      simp [List.take_of_length_le (Nat.le_of_eq h1)]
    · rw [e, cut_right (by omega), h1, cut_left (by omega), cut]
      simp [List.take_of_length_le (Nat.le_of_eq h2)]
  | x :: l, j + 1, s, h => by
    have hj : l[j]? = some s := by simpa using h
    obtain ⟨i1, i2⟩ := body_cut hj
    have e : bodyL (x :: l) = (leB x.1 8 ++ leB x.2 8) ++ bodyL l := by simp [bodyL]
    have h1 : (leB x.1 8 ++ leB x.2 8).length = 16 := by rw [List.length_append, leB_length, leB_length]
    refine ⟨?_, ?_⟩
    · rw [e, cut_right (by omega), h1, show 16 * (j + 1) - 16 = 16 * j by omega, i1]
    · rw [e, cut_right (by omega), h1, show 16 * (j + 1) + 8 - 16 = 16 * j + 8 by omega, i2]
theorem numL_of {n : Int} {k : Nat} (h0 : 0 ≤ n) (h1 : n < 2 ^ (8 * k)) : numL (leB n k) = n := by rw [numL_leBq]; exact Int.emod_eq_of_lt h0 h1
theorem head_cut (m q : Int) (l : List Int) : cut (headL m q l) 0 2 = leB m 2 ∧ cut (headL m q l) 2 4 = leB q 4 := by
  have h1 := leB_length m 2
  have h2 := leB_length q 4
  rw [headL, hd6]
  refine ⟨?_, ?_⟩
  · rw [List.append_assoc, cut_left (by omega), cut]
    simp [List.take_of_length_le (Nat.le_of_eq h1)]
  · rw [List.append_assoc, cut_right (by omega), h1, cut_left (by omega), cut]
    simp [List.take_of_length_le (Nat.le_of_eq h2)]
section
variable {n a k : Nat} {W : Nat → List Int}
theorem rec_none (hk : 1 ≤ k) (h : W a = zeros8) : recB n a k (mapW W a k) = (0, []) := by
  obtain ⟨y, hy⟩ := mapW_head (g := W) (a := a) hk (by rw [h]; rfl)
  rw [recB, if_pos]
  refine .inl ?_
  rw [hy, h, manyB, cut_left (by decide)]
  decide
theorem rec_is (hk : 1 ≤ k) (hn : n ≤ 8192) (hW : ∀ j, a ≤ j → j < a + k → (W j).length = 8) {sets : List SetT} {seq : Int} (h0 : 0 < sets.length) (h1 : sets.length ≤ (k - 1) / 2) (hk2 : k ≤ 8192) (s0 : 1 ≤ seq) (s1 : seq < 4294967296)
    (hs : ∀ s ∈ sets, OkSt n a k s) (hh : W a = headL sets.length seq (bodyL sets)) (hb : ∀ i, i < 2 * sets.length → W (a + 1 + i) = cut (bodyL sets) (8 * i) 8) : recB n a k (mapW W a k) = (seq, sets) := by
  have h8 : (W a).length = 8 := hW a (by omega) (by omega)
  obtain ⟨y, hy⟩ := mapW_head (g := W) (a := a) hk h8
  obtain ⟨c1, c2⟩ := head_cut sets.length seq (bodyL sets)
  have em : manyB (mapW W a k) = (sets.length : Int) := by
    rw [manyB, hy, cut_left (by omega), hh, c1, numL_of (by omega) (by omega)]
  have es : seqB (mapW W a k) = seq := by
    rw [seqB, hy, cut_left (by omega), hh, c2, numL_of (by omega) (by omega)]
  have et : setsB (mapW W a k) sets.length = sets := by
    apply List.ext_getElem?
    intro j
    by_cases hj : j < sets.length
    · obtain ⟨s, hsj⟩ : ∃ s, sets[j]? = some s := ⟨_, List.getElem?_eq_getElem hj⟩
      have ho := hs s (List.mem_of_getElem? hsj)
      have hr := may_range ho.may
      obtain ⟨b1, b2⟩ := body_cut hsj
      rw [hsj, setsB, List.getElem?_map, List.getElem?_range hj, Option.map_some, Option.some.injEq]
      have e1 : atB (mapW W a k) j = s.1 := by
        rw [atB, show 8 + 16 * j = 8 * (1 + 2 * j) by omega, cut_mapW hW (by omega), show a + (1 + 2 * j) = a + 1 + 2 * j by omega, hb _ (by omega), show 8 * (2 * j) = 16 * j by omega, b1, numL_of hr.1 (by omega)]
      have e2 : nB (mapW W a k) j = s.2 := by
        rw [nB, show 16 + 16 * j = 8 * (2 + 2 * j) by omega, cut_mapW hW (by omega), show a + (2 + 2 * j) = a + 1 + (2 * j + 1) by omega, hb _ (by omega), show 8 * (2 * j + 1) = 16 * j + 8 by omega, b2, numL_of ho.n0 ho.n1]
      rw [e1, e2]
    · rw [List.getElem?_eq_none (by rw [setsB_length]; omega), List.getElem?_eq_none (by omega)]
  have hB : ¬ BadH k (mapW W a k) := by
    rw [BadH, em, es]
    omega
  have hA : ∀ j, j < (manyB (mapW W a k)).toNat → okB n a k (atB (mapW W a k) j) = true := by
    intro j hj
    rw [em, Int.toNat_natCast] at hj
    have hm : (atB (mapW W a k) j, nB (mapW W a k) j) ∈ setsB (mapW W a k) sets.length := List.mem_map.2 ⟨j, List.mem_range.2 hj, rfl⟩
    rw [et] at hm
    have ho := hs _ hm
    have hr := may_range ho.may
    simp only at hr
    rw [okB, ho.may, decide_eq_true (by omega)]
    rfl
  have hT : headL (sets.length : Int) seq (bodyL sets) = (mapW W a k).take 8 := by
    rw [hy, List.take_append_of_le_length (by omega), List.take_of_length_le (by omega), hh]
  rw [recB_all hB hA, em, es, Int.toNat_natCast, et, if_pos hT]
end
end Go.Proofs.Ytbfogcckbhkciaa.Hand
namespace Go.Proofs.Ytbfogcckbhkciaa.Hand
open Go.RowKit Go.Maps Go.Proofs.YtbfogcckbhkciaaW.PrintWords
set_option linter.unusedVariables false
set_option linter.unusedSimpArgs false
section
variable {d : Dev} {n a k nx : Nat} {W : Nat → List Int} {S : Nat → Option (List Int)} {F : Nat → Bool} {sets : List SetT}
theorem recD_is (h : Is d n W S F) (hak : a + k ≤ n) : recD d a k = recB n a k (mapW W a k) := by
  rw [recD, h.cut hak, h.len, show 8 * n / 8 = n by omega]
theorem is_len8 (h : Is d n W S F) {j : Nat} (hj : j < n) : (W j).length = 8 := by
  rw [← h.w j hj]
  exact word_length (by rw [h.len]; omega)
theorem hit_no (hs : ∀ s ∈ sets, mayB n a k s.1 = true) {j : Nat} (h1 : a ≤ j) (h2 : j < a + k) : hitS sets j = false := by
  rw [hitS, List.any_eq_false]
  intro s hm
  have := hs s hm
  simp only [mayB, decide_eq_true_eq] at this
  simp only [decide_eq_true_eq]
  omega
theorem may_nat (hs : ∀ s ∈ sets, mayB n a k s.1 = true) : ∀ s ∈ sets, s.1.toNat < n := by
  intro s hm
  have := may_range (hs s hm)
  omega
theorem wal_rec (h : Cln d n W) (hn : n ≤ 8192) (h1 : 1 ≤ k) (hak : a + k ≤ n) (he : errW n a k nx sets = 0) (hw : ∀ s ∈ sets, WfSt s) (hnx : 1 ≤ nx) :
    recD (d.steps (walM a nx sets)) a k = ((nx : Int), sets) ∧ Cln (d.steps (walM a nx sets)) n (setW (recW a nx sets W) sets) := by
  obtain ⟨hall, h0, hr, hq⟩ := errW_ok he
  have hc := h.wal (a := a) (nx := nx) (sets := sets) (by omega) (may_nat hall)
  refine ⟨?_, hc⟩
  rw [recD_is hc hak]
  refine rec_is h1 hn (fun j _ hj => is_len8 hc (by omega)) h0 hr (by omega) (by omega) (by omega) (fun s hs => ⟨hall s hs, (hw s hs).2.2.1, (hw s hs).2.2.2⟩) ?_ (fun i hi => ?_)
  · rw [setW_miss (hit_no hall (Nat.le_refl _) (by omega)), recW, putW, if_pos rfl]
  · rw [setW_miss (hit_no hall (by omega) (by omega)), recW, putW, if_neg (by omega), newW, if_pos (by omega), show a + 1 + i - (a + 1) = i by omega]
theorem setsD_eq (d : Dev) (l : List SetT) : setsD d l = d.steps (stepE l) := by
  induction l generalizing d with
  | nil => rfl
  | cons s l ih =>
    have e : stepE (s :: l) = stepS s ++ stepE l := by simp [stepE]
    have e2 : d.steps (stepS s) = setD d s := by simp only [setD, Dev.steps, stepS, List.foldl_cons, List.foldl_nil]
    rw [e, steps_app, e2, ← ih, setsD, List.foldl_cons, setsD]
theorem recover_cln (h : Cln d n W) {q : Int} (hr : recD d a k = (q, sets)) (hq : 0 < q) (hl : ∀ s ∈ sets, s.1.toNat < n) : Cln (recoverD d a k) n (setW W sets) := by
  have hc := h.sets hl
  rw [steps_app, ← setsD_eq] at hc
  rw [recoverD, hr, if_pos hq]
  exact hc
theorem Cln.crash (h : Cln d n W) (hok : d.Ok) (keep : List Int) : Cln (d.crash keep) n W := (Is.crash h hok keep).congr (fun _ _ => rfl) (fun _ => rfl) (fun _ => rfl)
end
theorem zeros_wordW (n k : Nat) (h : k < n) : word (List.replicate (8 * n) 0) k = List.replicate 8 0 := by
  rw [word, cut, List.drop_replicate, List.take_replicate]
  congr 1
  omega
theorem zerosW_cln (n : Nat) : Cln (Dev.of (List.replicate (8 * n) 0)) n (fun _ => zeros8) :=
  ⟨by simp [Dev.of], fun k hk => zeros_wordW n k hk, fun _ => rfl, fun _ => rfl⟩
theorem zerosW_rec {n a k : Nat} (h1 : 1 ≤ k) (hak : a + k ≤ n) : recD (Dev.of (List.replicate (8 * n) 0)) a k = (0, []) := by
  rw [recD_is (zerosW_cln n) hak]
  exact rec_none h1 rfl
def alS : List SetT := [(7, 5)]
theorem alS_wf : ∀ s ∈ alS, WfSt s := by simp [alS, WfSt]
theorem alS_err : errW 8 0 5 1 alS = 0 := by decide
def al0 : Dev := Dev.of (List.replicate 64 0)
theorem al0_cln : Cln al0 8 (fun _ => zeros8) := zerosW_cln 8
def al1 : Dev := al0.steps (walM 0 1 alS)
theorem al1_is : recD al1 0 5 = (1, alS) ∧ Cln al1 8 (setW (recW 0 1 alS (fun _ => zeros8)) alS) := wal_rec al0_cln (by decide) (by decide) (by decide) alS_err alS_wf (by decide)
section
variable {w : World} {p : Nat} {v : Value} {s f : Nat} {d : Dev}
theorem al_lit (w : World) : SetK.C (w.alloc (.cells #[.int .i64 7, .int .u64 5] 78)) (some ⟨w.heap.size, 0, none⟩) 1 alS := by
  refine ⟨rfl, by decide, fun _ => ⟨_, rfl, fun j x hx => ?_⟩⟩
  obtain rfl : j = 0 := by
    have := (List.getElem?_eq_some_iff.1 hx).1
    simpa [alS] using this
  obtain rfl : x = (7, 5) := by simpa [alS] using hx.symm
  refine ⟨encSt (7, 5), rfl, rfl, fun i u hu => ?_⟩
  rw [add_plain]
  refine blk_cell (heap_alloc_new w _) ?_
  simpa [encSt] using hu
theorem al_open (h : HasD w p v s f al0) : Calls Try.prog 41 #[.pointer (some ⟨p, 0, none⟩), .int .i64 0, .int .i64 5] w fun e w' => ∃ (q : Nat), e = .returned (.tuple #[.pointer (some ⟨q, 0, none⟩), .int .i64 0]) ∧ HasL w' q p 0 5 1 ∧ w.heap.size ≤ q ∧ Below w.heap.size w w' := by
  have hl : al0.B.length / 8 = 8 := by rw [al0_cln.len]
  have := open4_good w p v s f al0 0 5 h (by decide) (by rw [hl]; decide)
  have hr : recD al0 0 5 = (0, []) := zerosW_rec (n := 8) (by decide) (by decide)
  rw [hr] at this
  exact this
theorem al_commit {q : Nat} (h : HasD w p v s f al0) (hl : HasL w q p 0 5 1) (hq : ¬ OwnD v s f q) {g : Nat} (hs : SetK.C w (some ⟨g, 0, none⟩) 1 alS) :
    Calls Try.prog 42 #[.pointer (some ⟨q, 0, none⟩), .slice (some ⟨g, 0, none⟩) 1 1] w fun e w' => e = .returned (.int .i64 0) ∧ HasD w' p v s f al1 ∧ HasL w' q p 0 5 2 ∧ Fr (fun b => OwnD v s f b ∨ b = q) w w' := by
  have h8 : al0.B.length / 8 = 8 := by rw [al0_cln.len]
  exact commit_good w q p v s f al0 0 5 1 (some ⟨g, 0, none⟩) 1 alS h hl hq (by decide) (by rw [h8]; decide) hs alS_wf (by rw [h8]; exact alS_err)
theorem al_crash (h : HasD w p v s f al1) : Calls Try.prog 30 #[.pointer (some ⟨p, 0, none⟩), .slice none 0 0] w fun e w' => e = .returned (.tuple #[]) ∧ HasD w' p v s f (al1.crash []) ∧ Fr (OwnD v s f) w w' :=
  crash_calls w p v s f al1 none 0 [] h ⟨rfl, by decide, fun h => absurd h (by decide)⟩ (fun h => absurd h (by decide))
theorem al_recover (h : HasD w p v s f (al1.crash [])) (hok : al1.Ok) : Calls Try.prog 37 #[.pointer (some ⟨p, 0, none⟩), .int .i64 0, .int .i64 5] w fun e w' => e = .returned (.tuple #[.int .i64 1, .int .i64 0]) ∧ HasD w' p v s f (recoverD (al1.crash []) 0 5) ∧ Fr (OwnD v s f) w w' := by
  have hc := al1_is.2.crash hok []
  have h8 : (al1.crash []).B.length / 8 = 8 := by rw [hc.len]
  have hr : recD (al1.crash []) 0 5 = (1, alS) := by rw [recD_is hc (by decide), ← recD_is al1_is.2 (by decide), al1_is.1]
  refine (recover4_good w p v s f (al1.crash []) 0 5 h (by decide) (by rw [h8]; decide)).mono (fun e w' he => ?_)
  obtain ⟨e1, e2, e3⟩ := he
  rw [hr] at e1
  exact ⟨e1, e2, e3⟩
theorem al_last (hok : al1.Ok) : Cln (recoverD (al1.crash []) 0 5) 8 (setW (setW (recW 0 1 alS (fun _ => zeros8)) alS) alS) := by
  have hc := al1_is.2.crash hok []
  have hr : recD (al1.crash []) 0 5 = (1, alS) := by rw [recD_is hc (by decide), ← recD_is al1_is.2 (by decide), al1_is.1]
  exact recover_cln hc hr (by decide) (by simp [alS])
theorem al_read (hok : al1.Ok) (h : HasD w p v s f (recoverD (al1.crash []) 0 5)) : Calls Try.prog 31 #[.pointer (some ⟨p, 0, none⟩), .int .i64 56, .int .i64 8] w fun e w' => ∃ g c, e = .returned (.tuple #[.slice (some ⟨g, 0, none⟩) 8 c, .int .i64 0]) ∧ w'.cell? ⟨g, 0, none⟩ = some (.int .u8 5) ∧ Below w.heap.size w w' := by
  have hc := al_last hok
  refine (read_good w p v s f _ 56 8 h (by rw [hc.len]; decide)).mono ?_
  rintro e w' ⟨u, rfl, hu, hb⟩
  have e8 : cut (recoverD (al1.crash []) 0 5).B 56 8 = leB 5 8 := by
    have := hc.w 7 (by decide)
    rw [word] at this
    rw [this]
    rfl
  rw [e8] at hu
  obtain ⟨g, c, rfl, _, hr, _⟩ := row_form hu (by rw [leB_length]; decide)
  have hl := leB_length 5 8
  rw [hl]
  rw [hl] at hr
  obtain ⟨ad, e, hx⟩ := hr.2.2 (by decide)
  obtain rfl := Option.some.inj e
  have := hx 0 (by decide)
  exact ⟨g, c, rfl, this, hb⟩
end
set_option maxRecDepth 100000 in
theorem wal_alive (w : World) : Calls Try.prog 36 #[] w fun e w' => e = .returned (.bool true) ∧ Below w.heap.size w w' := by
  have HN := Aside0.mk (show Calls Try.prog 27 #[.int .i64 8] w (NewDev w (List.replicate 64 0)) from new_calls w 8 (by omega))
  go_enter Try.func36, Try.ntmps36
  go_wp2_with (first | (go_at_call 27; ((with_reducible refine HN.out.mono ?_); rintro e w1 ⟨p, v, s, f, rfl, hd1, hp1, hv1, hb1⟩; have HD1 := Aside0.mk (show HasD w1 p v s f al0 from hd1); have HV := Aside0.mk hv1; have HB1 := Aside0.mk hb1; clear hd1 hp1 hv1 hb1)) | (go_at_call 41; ((with_reducible refine (al_open HD1.out).mono ?_); rintro e w2 ⟨q, rfl, hl, hq, hb⟩; have HL2 := Aside0.mk hl; have HQ2 := Aside0.mk (not_own_ge HD1.out hq); have HQW := Aside0.mk (Nat.le_trans HB1.out.size hq); have HD2 := Aside0.mk (HD1.out.move hb); have HB2 := Aside0.mk (bel_step HB1.out hb); clear hl hq hb)) | (go_at_call 45; ((with_reducible refine (room4_calls _ q p 0 5 1 HL2.out (by decide) (by decide)).mono ?_); rintro e w3 ⟨rfl, rfl⟩)) | (go_at_call 42; ((with_reducible refine (al_commit (HD2.out.move (below_alloc (Below.refl _ _) _)) (HL2.out.below (below_alloc (Below.refl _ _) _)) HQ2.out (al_lit w2)).mono ?_); rintro e w4 ⟨rfl, hd, hl, hf⟩; have HD4 := Aside0.mk hd; have HL4 := Aside0.mk hl; have HB4 := Aside0.mk ((below_alloc HB2.out _).trans (hf.below _ (below_alloc HB2.out _).size (fun b hb => hb.elim (fun h => HV.out b h) (fun h => h ▸ HQW.out)))); have HOK := Aside0.mk hd.ok; clear hd hl hf)) | (go_at_call 30; ((with_reducible refine (al_crash HD4.out).mono ?_); rintro e w5 ⟨rfl, hd, hf⟩; have HD5 := Aside0.mk hd; have HL5 := Aside0.mk (HL4.out.fr hf HQ2.out); have HB5 := Aside0.mk (HB4.out.trans (hf.below _ HB4.out.size (fun b hb => HV.out b hb))); clear hd hf)) | (go_at_call 37; ((with_reducible refine (al_recover HD5.out HOK.out).mono ?_); rintro e w6 ⟨rfl, hd, hf⟩; have HD6 := Aside0.mk hd; have HL6 := Aside0.mk (HL5.out.fr hf HQ2.out); have HB6 := Aside0.mk (HB5.out.trans (hf.below _ HB5.out.size (fun b hb => HV.out b hb))); clear hd hf)) | (go_at_call 31; ((with_reducible refine (al_read HOK.out HD6.out).mono ?_); rintro e w7 ⟨g7, c7, rfl, hc7, hb⟩; have HL7 := Aside0.mk (HL6.out.below hb); have HB7 := Aside0.mk (bel_step HB6.out hb); clear hb)) | (go_at_call 44; ((with_reducible refine (seq4_calls _ q p 0 5 2 HL7.out).mono ?_); rintro e w8 ⟨rfl, rfl⟩)))
  go_ret
  exact ⟨rfl, HB7.out⟩
end Go.Proofs.Ytbfogcckbhkciaa.Hand
namespace Go.Proofs.Ytbfogcckbhkciaa.Hand
open Go.RowKit Go.Maps Go.Proofs.YtbfogcckbhkciaaW.PrintWords Go.Proofs.YtbfogcckbhkciaaW.PrintLast Go.Proofs.YtbfogcckbhkciaaW.PrintMore Go.Proofs.Ytbfogcckbhkciaa.PHandRP
set_option linter.unusedVariables false
set_option linter.unusedSimpArgs false
/-- A device's word, as the document has it. -/
def wdS (d : Dev) (k : Nat) : S164 := ⟨strOfNums (word d.B k), strOfNums ((d.S k).getD (word d.B k)), (d.S k).isSome, d.F k⟩
def wdL (d : Dev) (n : Nat) : List S164 := (List.range n).map (wdS d)
theorem wdL_length (d : Dev) (n : Nat) : (wdL d n).length = n := by simp [wdL]
theorem wdL_get {d : Dev} {n j : Nat} (h : j < n) : (wdL d n)[j]? = some (wdS d j) := by simp [wdL, h]
theorem wdL_rd {d : Dev} {n j : Nat} (h : j < n) : rd_T164 (wdL d n) (j : Int) = wdS d j := by
  rw [rd_T164, Int.toNat_natCast, List.getD_eq_getElem?_getD, wdL_get h]
  rfl
theorem wdL_congr {d d' : Dev} {n : Nat} (h : ∀ k, k < n → wdS d k = wdS d' k) : wdL d n = wdL d' n := List.map_congr_left (fun k hk => h k (List.mem_range.1 hk))
theorem wrap_suc {j n : Nat} (h : j < n) (hn : n ≤ 8192) : wrap64 ((j : Int) + 1) = ((j + 1 : Nat) : Int) := by rw [IntWalk.wrap64_in _ (by omega)]; omega
theorem take_word {B : List Int} {j : Nat} : B.take (8 * j) ++ word B j = B.take (8 * (j + 1)) := by
  rw [word, cut, show 8 * (j + 1) = 8 * j + 8 by omega, List.take_add]
theorem r3bytes_f {d : Dev} {n : Nat} (hl : d.B.length = 8 * n) (hn : n ≤ 8192) : ∀ m j, m = n - j → j ≤ n → ecdysisref03_Bytes.l0 (m + 1) (wdL d n) (strOfNums (d.B.take (8 * j))) (j : Int) = some (strOfNums d.B)
  | 0, j, hm, hj => by
    obtain rfl : j = n := by omega
    rw [ecdysisref03_Bytes.l0, if_neg (by rw [wdL_length]; omega), List.take_of_length_le (by omega)]
  | m + 1, j, hm, hj => by
    have h1 : (word d.B j).length = 8 := word_length (by omega)
    have h2 : (d.B.take (8 * j)).length = 8 * j := by rw [List.length_take]; omega
    rw [ecdysisref03_Bytes.l0, if_pos (by rw [wdL_length]; omega), if_pos (by omega), wdL_rd (by omega), if_pos (by simp only [wdS, strOfNums_size, h1, h2]; omega), wrap_suc (n := n) (by omega) hn]
    simp only [wdS]
    rw [str_app, take_word]
    exact r3bytes_f hl hn m (j + 1) (by omega) (by omega)
theorem r3loose_f {d : Dev} {n : Nat} (hn : n ≤ 8192) : ∀ m j, m = n - j → j ≤ n →
    ecdysisref03_Loose.l0 (m + 1) (wdL d n) (((List.range j).filter fun k => (d.S k).isSome).map fun (k : Nat) => (k : Int)) (j : Int) = some (((List.range n).filter fun k => (d.S k).isSome).map fun (k : Nat) => (k : Int))
  | 0, j, hm, hj => by
    obtain rfl : j = n := by omega
    rw [ecdysisref03_Loose.l0, if_neg (by rw [wdL_length]; omega)]
  | m + 1, j, hm, hj => by
    have hlen : (((List.range j).filter fun k => (d.S k).isSome).map fun (k : Nat) => (k : Int)).length ≤ j := by
      rw [List.length_map]
      exact Nat.le_trans (List.length_filter_le _ _) (by simp)
    have ih := r3loose_f (d := d) hn m (j + 1) (by omega) (by omega)
    rw [List.range_succ, List.filter_append, List.map_append] at ih
    rw [ecdysisref03_Loose.l0, if_pos (by rw [wdL_length]; omega), if_pos (by omega), wdL_rd (by omega), wrap_suc (n := n) (by omega) hn]
    by_cases hs : (d.S j).isSome = true
    · rw [if_pos (by exact hs), if_pos (by omega)]
      simpa [hs] using ih
    · rw [if_neg (by exact hs)]
      simpa [hs] using ih
theorem r3inside_f {d : Dev} {n : Nat} (hl : d.B.length = 8 * n) (hn : n ≤ 8192) (a m : Int) : ecdysisref03_Inside.f (wdL d n) a m = some (insE d.B.length a m) := by
  rw [ecdysisref03_Inside.f, wdL_length, IntWalk.wrap64_in (8 * (n : Int)) (by omega), insE, hl]
  by_cases h1 : m < 0
  · rw [if_pos h1, if_pos h1]
  · rw [if_neg h1, if_neg h1]
    by_cases h2 : a < 0
    · rw [if_pos h2, if_pos (.inl h2)]
    · rw [if_neg h2]
      by_cases h3 : a > 8 * n
      · rw [if_pos h3, if_pos (by omega)]
      · rw [if_neg h3, IntWalk.wrap64_in _ (by omega)]
        by_cases h4 : m > 8 * n - a
        · rw [if_pos h4, if_pos (by omega)]
        · rw [if_neg h4, if_neg (by omega)]
theorem r3has_f {l : List Int} (hl : l.length ≤ 9223372036854775807) (x : Int) : ∀ m j, m = l.length - j → j ≤ l.length → (∀ i, i < j → rd l i ≠ x) → ecdysisref03_has.l0 (m + 1) l x (j : Int) = some (decide (x ∈ l))
  | 0, j, hm, hj, ho => by
    obtain rfl : j = l.length := by omega
    rw [ecdysisref03_has.l0, if_neg (by omega)]
    refine congrArg some (decide_eq_false (fun hx => ?_)).symm
    obtain ⟨i, hi, e⟩ := List.getElem_of_mem hx
    refine ho i hi ?_
    rw [rd, Int.toNat_natCast, List.getD_eq_getElem?_getD, List.getElem?_eq_getElem hi]
    exact e
  | m + 1, j, hm, hj, ho => by
    rw [ecdysisref03_has.l0, if_pos (by omega), if_pos (by omega)]
    by_cases he : rd l (j : Int) = x
    · rw [if_pos he]
      refine congrArg some (decide_eq_true ?_).symm
      rw [← he, rd, Int.toNat_natCast, List.getD_eq_getElem?_getD, List.getElem?_eq_getElem (by omega)]
      exact List.getElem_mem _
    · rw [if_neg he, IntWalk.wrap64_in _ (by omega), show ((j : Int) + 1) = ((j + 1 : Nat) : Int) by omega]
      refine r3has_f hl x m (j + 1) (by omega) (by omega) (fun i hi => ?_)
      by_cases h : i = j
      · rw [h]; exact he
      · exact ho i (by omega)
theorem r3new_l {B : List Int} {n : Nat} (hl : B.length = 8 * n) (hn : n ≤ 8192) : ∀ m j, m = n - j → j ≤ n → ecdysisref03_New.l0 (m + 1) (strOfNums B) (wdL (Dev.of B) j) ((8 * j : Nat) : Int) = some (wdL (Dev.of B) n, true)
  | 0, j, hm, hj => by
    obtain rfl : j = n := by omega
    rw [ecdysisref03_New.l0, if_neg (by rw [strOfNums_size]; omega)]
  | m + 1, j, hm, hj => by
    have hw : wrap64 (((8 * j : Nat) : Int) + 8) = ((8 * (j + 1) : Nat) : Int) := by rw [IntWalk.wrap64_in _ (by omega)]; omega
    have hx : (strOfNums B).extract (((8 * j : Nat) : Int)).toNat (((8 * (j + 1) : Nat) : Int)).toNat = strOfNums (word B j) := by
      rw [str_extract, Int.toNat_natCast, Int.toNat_natCast, word, cut, show 8 * (j + 1) = 8 * j + 8 by omega, List.drop_take, show 8 * j + 8 - 8 * j = 8 by omega]
    rw [ecdysisref03_New.l0, hw, if_pos (by rw [strOfNums_size]; omega), if_pos (by omega), if_pos (by omega), if_pos (by rw [strOfNums_size]; omega), wdL_length, if_pos (by omega), hx]
    have := r3new_l hl hn m (j + 1) (by omega) (by omega)
    rw [wdL, List.range_succ, List.map_append] at this
    exact this
theorem word_set {B : List Int} {a j : Nat} {x : Int} (ha : a < B.length) : word (B.set a x) j = if j = a / 8 then (word B j).set (a % 8) x else word B j := by
  apply List.ext_getElem?
  intro i
  rw [word, cut, word, cut]
  by_cases hi : i < 8
  · rw [List.getElem?_take_of_lt hi, List.getElem?_drop]
    by_cases hj : j = a / 8
    · rw [if_pos hj]
      by_cases he : a = 8 * j + i
      · rw [← he, List.getElem?_set_self ha, show a % 8 = i by omega, List.getElem?_set_self (by rw [List.length_take, List.length_drop]; omega)]
      · rw [List.getElem?_set_ne he, List.getElem?_set_ne (by omega), List.getElem?_take_of_lt hi, List.getElem?_drop]
    · rw [if_neg hj, List.getElem?_set_ne (by omega), List.getElem?_take_of_lt hi, List.getElem?_drop]
  · rw [List.getElem?_take_eq_none (by omega)]
    split
    · rw [List.getElem?_set, if_neg (by omega), List.getElem?_take_eq_none (by omega)]
    · rw [List.getElem?_take_eq_none (by omega)]
theorem hit_one (a j : Nat) : hitB a 1 j = decide (j = a / 8) := by
  rw [hitB]
  exact decide_eq_decide.2 (by omega)
theorem write_one {d : Dev} {a : Nat} {x : Int} (ha : a < d.B.length) (j : Nat) : wdS (d.write a [x]) j = if j = a / 8 then ⟨strOfNums ((word d.B j).set (a % 8) x), strOfNums ((d.S j).getD (word d.B j)), true, false⟩ else wdS d j := by
  have hB : (d.write a [x]).B = d.B.set a x := by rw [Dev.write, List.set_eq_take_append_cons_drop, if_pos ha]; rfl
  have hS : (d.write a [x]).S j = if j = a / 8 then some ((d.S j).getD (word d.B j)) else d.S j := by
    simp only [Dev.write, List.length_singleton, hit_one, decide_eq_true_eq]
  have hF : (d.write a [x]).F j = (d.F j && !decide (j = a / 8)) := by simp only [Dev.write, List.length_singleton, hit_one]
  rw [wdS, hB, hS, hF, word_set ha]
  by_cases hj : j = a / 8
  · simp [hj]
  · simp [hj, wdS]
theorem r3write_f {d : Dev} {n : Nat} (hl : d.B.length = 8 * n) (hn : n ≤ 8192) {a : Nat} (ha : a < 8 * n) (x : Int) : ecdysisref03_write.f (wdL d n) (a : Int) x = some (wdL (d.write a [x]) n) := by
  have hw : wrap64 (Int.tdiv (a : Int) 8) = ((a / 8 : Nat) : Int) := by
    rw [Int.tdiv_eq_ediv_of_nonneg (by omega), IntWalk.wrap64_in _ (by omega)]
    omega
  have hr : Int.tmod (a : Int) 8 = ((a % 8 : Nat) : Int) := by
    rw [Int.tmod_eq_emod_of_nonneg (by omega)]
    omega
  have hr1 : wrap64 (((a % 8 : Nat) : Int) + 1) = ((a % 8 + 1 : Nat) : Int) := by rw [IntWalk.wrap64_in _ (by omega)]; omega
  have h8 : (word d.B (a / 8)).length = 8 := word_length (by omega)
  rw [ecdysisref03_write.f]
  simp only [Option.bind_some, hw, hr, hr1, wdL_rd (d := d) (n := n) (j := a / 8) (by omega), wdS, wdL_length, List.nil_append, List.length_nil, Int.toNat_natCast, str_extract, str_app, strOfNums_size, h8]
  rw [if_pos (by omega), if_pos (by omega), if_pos (by omega), if_pos (by omega), if_pos (by omega), if_pos (by simp; omega), if_pos (by omega), if_pos (by omega), if_pos (by simp; omega), if_pos (by omega)]
  refine congrArg some ?_
  apply List.ext_getElem?
  intro j
  by_cases hj : j < n
  · rw [wdL_get hj, write_one (by omega)]
    by_cases he : j = a / 8
    · rw [if_pos he, he, List.getElem?_set_self (by rw [wdL_length]; omega)]
      refine congrArg some ?_
      have e1 : ((word d.B (a / 8)).take (a % 8)).drop 0 ++ [x] ++ ((word d.B (a / 8)).take 8).drop (a % 8 + 1) = (word d.B (a / 8)).set (a % 8) x := by
        rw [List.set_eq_take_append_cons_drop, if_pos (by omega), List.drop_zero, List.take_of_length_le (l := word d.B (a / 8)) (i := 8) (by omega), List.append_assoc]
        rfl
      rw [e1]
    · rw [if_neg he, List.getElem?_set_ne (by omega), wdL_get hj]
  · rw [List.getElem?_eq_none (by rw [List.length_set, wdL_length]; omega), List.getElem?_eq_none (by rw [wdL_length]; omega)]
theorem write_nil (d : Dev) (a n : Nat) : wdL (d.write a []) n = wdL d n := by
  refine wdL_congr (fun k hk => ?_)
  have hB : (d.write a []).B = d.B := by simp [Dev.write]
  have hh : hitB a 0 k = false := by rw [hitB]; exact decide_eq_false (by omega)
  simp [wdS, hB, Dev.write, hh]
theorem word_miss {B l : List Int} {a k : Nat} (ha : a + l.length ≤ B.length) (h : 8 * k + 8 ≤ a ∨ a + l.length ≤ 8 * k) : word (B.take a ++ (l ++ B.drop (a + l.length))) k = word B k := by
  apply List.ext_getElem?
  intro i
  rw [word, cut, word, cut]
  by_cases hi : i < 8
  · rw [List.getElem?_take_of_lt hi, List.getElem?_take_of_lt hi, List.getElem?_drop, List.getElem?_drop]
    rcases h with h | h
    · rw [List.getElem?_append_left (by rw [List.length_take]; omega), List.getElem?_take_of_lt (by omega)]
    · rw [List.getElem?_append_right (by rw [List.length_take]; omega), List.length_take, Nat.min_eq_left (by omega), List.getElem?_append_right (by omega), List.getElem?_drop]
      congr 1
      omega
  · rw [List.getElem?_take_eq_none (by omega), List.getElem?_take_eq_none (by omega)]
theorem hit_snoc (a m k : Nat) : hitB a (m + 1) k = (hitB a m k || decide (k = (a + m) / 8)) := by
  rw [hitB, hitB, ← Bool.decide_or]
  exact decide_eq_decide.2 (by omega)
theorem write_snoc {d : Dev} {a n : Nat} {l : List Int} {x : Int} (hl : d.B.length = 8 * n) (h : a + l.length < d.B.length) : wdL ((d.write a l).write (a + l.length) [x]) n = wdL (d.write a (l ++ [x])) n := by
  refine wdL_congr (fun k hk => ?_)
  have hP : (d.B.take a ++ l).length = a + l.length := by rw [List.length_append, List.length_take]; omega
  have hB : ((d.write a l).write (a + l.length) [x]).B = (d.write a (l ++ [x])).B := by
    simp only [Dev.write, List.length_append, List.length_singleton]
    rw [← List.append_assoc (d.B.take a) l, List.take_left' hP, ← List.drop_drop (i := 1) (j := a + l.length), List.drop_left' hP, List.drop_drop]
    simp only [List.append_assoc]
    rw [Nat.add_assoc a]
  have e1 := hit_one (a + l.length) k
  have e2 := hit_snoc a l.length k
  have hS : ((d.write a l).write (a + l.length) [x]).S k = (d.write a (l ++ [x])).S k := by
    simp only [Dev.write, List.length_append, List.length_singleton, e1, e2, Bool.or_eq_true, decide_eq_true_eq]
    by_cases h1 : hitB a l.length k = true
    · by_cases h2 : k = (a + l.length) / 8
      · rw [if_pos h2, if_pos h1, if_pos (.inl h1)]
        rfl
      · rw [if_neg h2, if_pos h1, if_pos (.inl h1)]
    · by_cases h2 : k = (a + l.length) / 8
      · rw [if_pos h2, if_neg h1, if_pos (.inr h2)]
        have hm : word (d.B.take a ++ (l ++ d.B.drop (a + l.length))) k = word d.B k := by
          by_cases h0 : l = []
          · subst h0
            simp
          · have := List.length_pos_iff.2 h0
            rw [hitB, decide_eq_true_eq] at h1
            exact word_miss (by omega) (by omega)
        rw [hm]
      · rw [if_neg h2, if_neg h1, if_neg (fun h => h.elim h1 h2)]
  have hF : ((d.write a l).write (a + l.length) [x]).F k = (d.write a (l ++ [x])).F k := by
    simp only [Dev.write, List.length_append, List.length_singleton, e1, e2, Bool.not_or, Bool.and_assoc]
  simp [wdS, hB, hS, hF]
end Go.Proofs.Ytbfogcckbhkciaa.Hand
namespace Go.Proofs.Ytbfogcckbhkciaa.Hand
open Go.RowKit Go.Maps Go.Proofs.YtbfogcckbhkciaaW.PrintWords Go.Proofs.YtbfogcckbhkciaaW.PrintLast Go.Proofs.YtbfogcckbhkciaaW.PrintMore Go.Proofs.Ytbfogcckbhkciaa.PHandRP Go.Proofs.Ytbfogcckbhkciaa.PHandRD
set_option linter.unusedVariables false
set_option linter.unusedSimpArgs false
theorem r3has_more {l : List Int} (hl : l.length ≤ 9223372036854775807) (x : Int) : ∀ m j, l.length - j ≤ m → j ≤ l.length → (∀ i, i < j → rd l i ≠ x) → ecdysisref03_has.l0 (m + 1) l x (j : Int) = some (decide (x ∈ l)) := by
  intro m
  induction m with
  | zero => exact fun j hm hj ho => r3has_f hl x 0 j (by omega) hj ho
  | succ m ih =>
    intro j hm hj ho
    by_cases h : j = l.length
    · subst h
      rw [ecdysisref03_has.l0, if_neg (by omega)]
      have := r3has_f hl x 0 l.length (by omega) (by omega) ho
      rw [ecdysisref03_has.l0, if_neg (by omega)] at this
      exact this
    · rw [ecdysisref03_has.l0, if_pos (by omega), if_pos (by omega)]
      by_cases he : rd l (j : Int) = x
      · rw [if_pos he]
        refine congrArg some (decide_eq_true ?_).symm
        rw [← he, rd, Int.toNat_natCast, List.getD_eq_getElem?_getD, List.getElem?_eq_getElem (by omega)]
        exact List.getElem_mem _
      · rw [if_neg he, IntWalk.wrap64_in _ (by omega), show ((j : Int) + 1) = ((j + 1 : Nat) : Int) by omega]
        refine ih (j + 1) (by omega) (by omega) (fun i hi => ?_)
        by_cases h2 : i = j
        · rw [h2]; exact he
        · exact ho i (by omega)
theorem r3has_any {l : List Int} (hl : l.length ≤ 9223372036854775807) (x : Int) {k : Nat} (hk : l.length < k) : ecdysisref03_has.f k l x = some (decide (x ∈ l)) := by
  obtain ⟨m, rfl⟩ : ∃ m, k = m + 1 := ⟨k - 1, by omega⟩
  exact r3has_more hl x m 0 (by omega) (by omega) (fun i hi => absurd hi (Nat.not_lt_zero _))
abbrev S3 := S164
/-- What a round makes of a word. -/
def wdG (z a m : Int) (ks : List Int) (i : Nat) (x : S3) : S3 :=
  if z = 2 then ⟨x.f0, x.f1, x.f2, x.f3 || (decide (0 < m ∧ 8 * (i : Int) < a + m ∧ a < 8 * i + 8) && x.f2)⟩
  else if z = 3 then (if x.f3 = true then ⟨x.f0, x.f0, false, false⟩ else x)
  else if z = 4 then (if x.f2 = true ∧ (i : Int) ∉ ks then ⟨x.f1, x.f1, false, false⟩ else ⟨x.f0, x.f0, false, false⟩)
  else x
theorem r3round {X : List S3} {i : Nat} (hi : i < X.length) (hX : X.length ≤ 8192) {x : S3} (hx : rd_T164 X (i : Int) = x) {z a m : Int} (ha : z = 2 → 0 ≤ a ∧ 0 ≤ m ∧ a + m ≤ 65536) (lg : Int) (bs ks : List Int) (hks : ks.length ≤ 9223372036854775807) {k : Nat} (hk : ks.length + 2 < k) :
    ecdysisref03_Do.l1 (k + 6) m X (i : Int) z a lg bs ks = ecdysisref03_Do.l1 k m (X.set i (wdG z a m ks i x)) ((i + 1 : Nat) : Int) z a lg bs ks := by
  have h1 : (i : Int) < (X.length : Int) := by omega
  have h0 : (0 : Int) ≤ (i : Int) := by omega
  have hw : wrap64 ((i : Int) + 1) = ((i + 1 : Nat) : Int) := wrap_suc hi hX
  have hw8 : wrap64 (8 * (i : Int)) = 8 * i := IntWalk.wrap64_in _ (by omega)
  have hw9 : wrap64 (8 * (i : Int) + 8) = 8 * i + 8 := IntWalk.wrap64_in _ (by omega)
  obtain ⟨x0, x1, x2, x3⟩ := x
  by_cases z2 : z = 2
  · obtain ⟨ha0, hm0, ham⟩ := ha z2
    have hwa : wrap64 (a + m) = a + m := IntWalk.wrap64_in _ (by omega)
    subst z2
    by_cases c1 : 0 < m
    · by_cases c2 : 8 * (i : Int) < a + m
      · by_cases c3 : a < 8 * (i : Int) + 8
        · cases x2 <;> cases x3 <;> simp [ecdysisref03_Do.l1, ecdysisref03_Do.j6, ecdysisref03_Do.j7, ecdysisref03_Do.j8, ecdysisref03_Do.j9, ecdysisref03_Do.j10, h1, h0, hw, hw8, hw9, hwa, hx, wdG, c1, c2, c3]
        · cases x2 <;> cases x3 <;> simp [ecdysisref03_Do.l1, ecdysisref03_Do.j6, ecdysisref03_Do.j7, ecdysisref03_Do.j8, ecdysisref03_Do.j9, ecdysisref03_Do.j10, h1, h0, hw, hw8, hw9, hwa, hx, wdG, c1, c2, c3]
      · cases x2 <;> cases x3 <;> simp [ecdysisref03_Do.l1, ecdysisref03_Do.j6, ecdysisref03_Do.j7, ecdysisref03_Do.j8, ecdysisref03_Do.j9, ecdysisref03_Do.j10, h1, h0, hw, hw8, hw9, hwa, hx, wdG, c1, c2]
    · cases x2 <;> cases x3 <;> simp [ecdysisref03_Do.l1, ecdysisref03_Do.j6, ecdysisref03_Do.j7, ecdysisref03_Do.j8, ecdysisref03_Do.j9, ecdysisref03_Do.j10, h1, h0, hw, hw8, hw9, hwa, hx, wdG, c1]
  · by_cases z3 : z = 3
    · subst z3
      cases x2 <;> cases x3 <;> simp [ecdysisref03_Do.l1, ecdysisref03_Do.j6, ecdysisref03_Do.j7, ecdysisref03_Do.j8, ecdysisref03_Do.j9, ecdysisref03_Do.j10, h1, h0, hw, hx, wdG]
    · by_cases z4 : z = 4
      · subst z4
        have hh := r3has_any hks (i : Int) (k := k + 1) (by omega)
        have hh2 := r3has_any hks (i : Int) (k := k + 2) (by omega)
        by_cases c : (i : Int) ∈ ks
        · cases x2 <;> cases x3 <;> simp [ecdysisref03_Do.l1, ecdysisref03_Do.j6, ecdysisref03_Do.j7, ecdysisref03_Do.j8, ecdysisref03_Do.j9, ecdysisref03_Do.j10, h1, h0, hw, hx, wdG, hh, hh2, c]
        · cases x2 <;> cases x3 <;> simp [ecdysisref03_Do.l1, ecdysisref03_Do.j6, ecdysisref03_Do.j7, ecdysisref03_Do.j8, ecdysisref03_Do.j9, ecdysisref03_Do.j10, h1, h0, hw, hx, wdG, hh, hh2, c]
      · cases x2 <;> cases x3 <;> simp [ecdysisref03_Do.l1, ecdysisref03_Do.j6, ecdysisref03_Do.j7, ecdysisref03_Do.j8, ecdysisref03_Do.j9, ecdysisref03_Do.j10, h1, h0, hw, hx, wdG, z2, z3, z4]
/-- The words ahead of i as those of d', the others as those of d. -/
def wdM (d d' : Dev) (n i : Nat) : List S3 := (List.range n).map (fun j => if j < i then wdS d' j else wdS d j)
theorem wdM_length (d d' : Dev) (n i : Nat) : (wdM d d' n i).length = n := by simp [wdM]
theorem wdM_rd {d d' : Dev} {n i : Nat} (h : i < n) : rd_T164 (wdM d d' n i) (i : Int) = wdS d i := by
  rw [rd_T164, Int.toNat_natCast, List.getD_eq_getElem?_getD, wdM]
  simp [h]
theorem wdM_succ {d d' : Dev} {n i : Nat} (h : i < n) : (wdM d d' n i).set i (wdS d' i) = wdM d d' n (i + 1) := by
  apply List.ext_getElem?
  intro j
  by_cases hj : j = i
  · subst hj
    rw [List.getElem?_set_self (by rw [wdM_length]; exact h)]
    simp [wdM, h]
  · rw [List.getElem?_set_ne (by omega)]
    by_cases hn : j < n
    · simp only [wdM, List.getElem?_map, List.getElem?_range hn, Option.map_some]
      by_cases hi : j < i
      · rw [if_pos hi, if_pos (by omega)]
      · rw [if_neg hi, if_neg (by omega)]
    · rw [List.getElem?_eq_none (by rw [wdM_length]; omega), List.getElem?_eq_none (by rw [wdM_length]; omega)]
theorem wdM_zero (d d' : Dev) (n : Nat) : wdM d d' n 0 = wdL d n := List.map_congr_left (fun j _ => by rw [if_neg (Nat.not_lt_zero _)])
theorem wdM_full (d d' : Dev) (n : Nat) : wdM d d' n n = wdL d' n := List.map_congr_left (fun j hj => by rw [if_pos (List.mem_range.1 hj)])
theorem r3l1 {d d' : Dev} {n : Nat} (hn : n ≤ 8192) {z a m : Int} (ha : z = 2 → 0 ≤ a ∧ 0 ≤ m ∧ a + m ≤ 65536) (lg : Int) (bs ks : List Int) (hks : ks.length ≤ 9223372036854775807) (hG : ∀ i, i < n → wdG z a m ks i (wdS d i) = wdS d' i) :
    ∀ q i, q = n - i → i ≤ n → ecdysisref03_Do.l1 (6 * q + (ks.length + 10)) m (wdM d d' n i) (i : Int) z a lg bs ks = some (wdL d' n, ⟨#[]⟩, 0)
  | 0, i, hq, hi => by
    obtain rfl : i = n := by omega
    rw [show 6 * 0 + (ks.length + 10) = (ks.length + 9) + 1 by omega, ecdysisref03_Do.l1, if_neg (by rw [wdM_length]; omega), wdM_full]
  | q + 1, i, hq, hi => by
    rw [show 6 * (q + 1) + (ks.length + 10) = (6 * q + (ks.length + 10)) + 6 by omega, r3round (by rw [wdM_length]; omega) (by rw [wdM_length]; exact hn) (wdM_rd (by omega)) ha lg bs ks hks (by omega), hG i (by omega), wdM_succ (by omega)]
    exact r3l1 hn ha lg bs ks hks hG q (i + 1) (by omega) (by omega)
theorem r3j4 {d d' : Dev} {n : Nat} (hn : n ≤ 8192) {z a m : Int} (ha : z = 2 → 0 ≤ a ∧ 0 ≤ m ∧ a + m ≤ 65536) (lg : Int) (bs ks : List Int) (hks : ks.length ≤ 9223372036854775807) (hG : ∀ i, i < n → wdG z a m ks i (wdS d i) = wdS d' i) :
    ecdysisref03_Do.j4 (6 * n + (ks.length + 11)) (wdL d n) m z a lg bs ks = some (wdL d' n, ⟨#[]⟩, 0) := by
  rw [show 6 * n + (ks.length + 11) = (6 * n + (ks.length + 10)) + 1 by omega, ecdysisref03_Do.j4]
  simp only [Option.bind_some, List.nil_append, List.length_nil]
  rw [if_pos (by rw [wdL_length]; omega), ← wdM_zero d d' n]
  exact r3l1 hn ha lg bs ks hks hG n 0 (by omega) (by omega)
theorem r3l0 {d : Dev} {n : Nat} (hl : d.B.length = 8 * n) (hn : n ≤ 8192) {a : Nat} (lg : Int) {bs : List Int} (ks : List Int) (hin : a + bs.length ≤ 8 * n) (K : Nat) (R : List S3 × ByteArray × Int)
    (hJ : ecdysisref03_Do.j4 K (wdL (d.write a bs) n) (bs.length : Int) 0 (a : Int) lg bs ks = some R) (q : Nat) :
    ∀ j, q = bs.length - j → j ≤ bs.length → ecdysisref03_Do.l0 (K + q + 1) (wdL (d.write a (bs.take j)) n) (bs.length : Int) (j : Int) 0 (a : Int) lg bs ks = some R := by
  induction q with
  | zero =>
    intro j hq hj
    have e : bs.take j = bs := List.take_of_length_le (by omega)
    have h1 : ¬ ((j : Int) < (bs.length : Int)) := by omega
    rw [e]
    unfold ecdysisref03_Do.l0
    rw [if_neg h1]
    exact hJ
  | succ q ih =>
    intro j hq hj
    have hlt : j < bs.length := by omega
    have hlen : (bs.take j).length = j := by rw [List.length_take]; omega
    have hw : wrap64 ((a : Int) + j) = ((a + j : Nat) : Int) := by rw [IntWalk.wrap64_in _ (by omega)]; omega
    have hw1 : wrap64 ((j : Int) + 1) = ((j + 1 : Nat) : Int) := by rw [IntWalk.wrap64_in _ (by omega)]; omega
    have hrd : rd bs (j : Int) = bs[j] := by rw [rd, Int.toNat_natCast, List.getD_eq_getElem?_getD, List.getElem?_eq_getElem hlt]; rfl
    have hwl : (d.write a (bs.take j)).B.length = 8 * n := by rw [Dev.write]; exact (splice_length (by omega)).trans hl
    have hwf := r3write_f hwl hn (a := a + j) (by omega) bs[j]
    have hsn := write_snoc (d := d) (a := a) (n := n) (l := bs.take j) (x := bs[j]) hl (by omega)
    rw [hlen, List.take_append_getElem hlt] at hsn
    have h1 : (j : Int) < (bs.length : Int) := by omega
    have h2 : (0 : Int) ≤ (j : Int) := by omega
    have := ih (j + 1) (by omega) (by omega)
    unfold ecdysisref03_Do.l0
    rw [if_pos h1, if_pos h2, if_pos h1, hw, hrd, hwf, Option.bind_some, hw1, hsn]
    exact this
/-- What Do makes of the words of a device. -/
theorem r3do_f {d : Dev} {n : Nat} (hd : d.Ok) (hl : d.B.length = 8 * n) (x : OpP) (hz : x.z ≠ 1) (hks : x.ks.length ≤ 9223372036854775807) : ∃ k t e, ecdysisref03_Do.f k (wdL d n) x.z x.at_ x.long x.bs x.ks = some (wdL (stepD d x) n, t, e) := by
  have hn : n ≤ 8192 := by have := hd.max; omega
  obtain ⟨z, a, lg, A1, c1, bs, A2, c2, ks⟩ := x
  simp only at hz hks ⊢
  have hbsE : insE d.B.length a bs.length = 0 → ∃ a' : Nat, a = a' ∧ a' + bs.length ≤ 8 * n := fun h => by
    obtain ⟨_, h2, h3⟩ := ins_ok h
    obtain ⟨a', rfl⟩ := Int.eq_ofNat_of_zero_le h2
    exact ⟨a', rfl, by omega⟩
  by_cases z0 : z = 0
  · subst z0
    by_cases he : insE d.B.length a bs.length = 0
    · obtain ⟨a', rfl, hin⟩ := hbsE he
      have hst : stepD d ⟨0, (a' : Int), lg, A1, c1, bs, A2, c2, ks⟩ = d.write a' bs := by simp only [stepD]; rw [if_pos trivial, if_pos he, Int.toNat_natCast]
      have h0 := r3l0 hl hn lg ks hin _ _ (r3j4 (d := d.write a' bs) (d' := d.write a' bs) hn (z := 0) (a := a') (m := (bs.length : Int)) (fun h => absurd h (by decide)) lg bs ks hks (fun i hi => by simp [wdG])) bs.length 0 (by omega) (Nat.zero_le _)
      rw [List.take_zero, write_nil] at h0
      refine ⟨(6 * n + (ks.length + 11)) + bs.length + 1 + 3, ⟨#[]⟩, 0, ?_⟩
      rw [hst, ecdysisref03_Do.f, if_pos rfl, ecdysisref03_Do.j0, if_pos (by decide), ecdysisref03_Do.j1, if_pos (by decide), r3inside_f hl hn, he, Option.bind_some, if_pos rfl, ecdysisref03_Do.j2, if_pos rfl]
      exact h0
    · have hst : stepD d ⟨0, a, lg, A1, c1, bs, A2, c2, ks⟩ = d := by simp only [stepD]; rw [if_pos trivial, if_neg he]
      refine ⟨3, ⟨#[]⟩, insE d.B.length a bs.length, ?_⟩
      rw [hst, ecdysisref03_Do.f, if_pos rfl, ecdysisref03_Do.j0, if_pos (by decide), ecdysisref03_Do.j1, if_pos (by decide), r3inside_f hl hn, Option.bind_some, if_neg he]
  · by_cases z2 : z = 2
    · subst z2
      by_cases he : insE d.B.length a lg = 0
      · obtain ⟨h1, h2, h3⟩ := ins_ok he
        have hst : stepD d ⟨2, a, lg, A1, c1, bs, A2, c2, ks⟩ = d.flush a.toNat lg.toNat := by simp only [stepD]; rw [if_neg (by decide), if_pos trivial, if_pos he]
        have h0 := r3j4 (d := d) (d' := d.flush a.toNat lg.toNat) hn (z := 2) (a := a) (m := lg) (fun _ => ⟨h2, h1, by have := hd.max; omega⟩) lg bs ks hks (fun i hi => by
          have hh : hitB a.toNat lg.toNat i = decide (0 < lg ∧ 8 * (i : Int) < a + lg ∧ a < 8 * i + 8) := by rw [hitB]; exact decide_eq_decide.2 (by omega)
          simp [wdG, wdS, Dev.flush, hh])
        refine ⟨6 * n + (ks.length + 11) + 3, ⟨#[]⟩, 0, ?_⟩
        rw [hst, ecdysisref03_Do.f, if_neg z0, ecdysisref03_Do.j0, if_pos (by decide), ecdysisref03_Do.j1, if_pos (by decide), r3inside_f hl hn, he, Option.bind_some, if_pos rfl, ecdysisref03_Do.j2, if_neg z0, if_neg (by decide)]
        exact h0
      · have hst : stepD d ⟨2, a, lg, A1, c1, bs, A2, c2, ks⟩ = d := by simp only [stepD]; rw [if_neg (by decide), if_pos trivial, if_neg he]
        refine ⟨3, ⟨#[]⟩, insE d.B.length a lg, ?_⟩
        rw [hst, ecdysisref03_Do.f, if_neg z0, ecdysisref03_Do.j0, if_pos (by decide), ecdysisref03_Do.j1, if_pos (by decide), r3inside_f hl hn, Option.bind_some, if_neg he]
    · have hG : ∀ i, i < n → wdG z a lg ks i (wdS d i) = wdS (stepD d ⟨z, a, lg, A1, c1, bs, A2, c2, ks⟩) i := by
        intro i hi
        simp only [stepD]
        rw [if_neg z0, if_neg z2]
        by_cases z3 : z = 3
        · subst z3
          rw [if_pos rfl]
          cases hF : d.F i <;> simp [wdG, wdS, Dev.fence, hF]
        · rw [if_neg z3]
          by_cases z4 : z = 4
          · subst z4
            rw [if_pos rfl]
            have hw : word (d.crash ks).B i = d.lossW ks i := word_mapW (fun j hj => hd.lossW ks (by omega)) (by omega)
            have hS : (d.crash ks).S i = none := rfl
            have hF : (d.crash ks).F i = false := rfl
            rw [wdS, wdS, hw, hS, hF, Dev.lossW]
            cases hs : d.S i with
            | none => simp [wdG, hs]
            | some c =>
              by_cases hm : (i : Int) ∈ ks
              · simp [wdG, hs, hm]
              · simp [wdG, hs, hm]
          · rw [if_neg z4]
            simp [wdG, z2, z3, z4]
      have h0 := r3j4 (d := d) (d' := stepD d ⟨z, a, lg, A1, c1, bs, A2, c2, ks⟩) hn (z := z) (a := a) (m := lg) (fun h => absurd h z2) lg bs ks hks hG
      refine ⟨6 * n + (ks.length + 11) + 3, ⟨#[]⟩, 0, ?_⟩
      have h1 : ecdysisref03_Do.j1 (6 * n + (ks.length + 11) + 2) (wdL d n) lg false z a lg bs ks = some (wdL (stepD d ⟨z, a, lg, A1, c1, bs, A2, c2, ks⟩) n, ⟨#[]⟩, 0) := by
        rw [ecdysisref03_Do.j1, if_neg (by decide), ecdysisref03_Do.j2, if_neg z0, if_neg hz]
        exact h0
      rw [ecdysisref03_Do.f, if_neg z0, ecdysisref03_Do.j0]
      by_cases hz0 : z ≥ 0
      · rw [if_pos hz0, show decide (z ≤ 2) = false from decide_eq_false (by omega)]
        exact h1
      · rw [if_neg hz0]
        exact h1
end Go.Proofs.Ytbfogcckbhkciaa.Hand
namespace Go.Proofs.Ytbfogcckbhkciaa.Hand
open Go.RowKit Go.Maps Go.Proofs.YtbfogcckbhkciaaW.PrintWords Go.Proofs.YtbfogcckbhkciaaW.PrintLast Go.Proofs.YtbfogcckbhkciaaW.PrintMore Go.Proofs.Ytbfogcckbhkciaa.PHandRP Go.Proofs.Ytbfogcckbhkciaa.PHandRD Go.Proofs.Ytbfogcckbhkciaa.PHandRE
set_option linter.unusedVariables false
set_option linter.unusedSimpArgs false
/-- The words of a device in a row whose blocks are from b on. -/
abbrev RowV (w : World) (b : Nat) (v : Value) (d : Dev) (n : Nat) : Prop := Kd.V k164 164 w b (fun k => b ≤ k) v (wdL d n)
def DoesV (w : World) (p : Nat) (v : Value) (s f : Nat) (d : Dev) (e : Ending) (w' : World) : Prop := e = .returned (.tuple #[]) ∧ HasD w' p v s f d ∧ Fr (OwnD v s f) w w'
/-- What made leaves: nothing, or a device and the document's words of it. -/
def MadeW (w : World) (e : Ending) (w' : World) : Prop :=
  (e = .returned (.tuple #[.pointer none, .slice none 0 0, .bool false]) ∧ Below w.heap.size w w') ∨
  ∃ (p : Nat) (u : Value) (s f : Nat) (v : Value) (d : Dev) (n b : Nat), e = .returned (.tuple #[.pointer (some ⟨p, 0, none⟩), v, .bool true]) ∧ HasD w' p u s f d ∧ d.B.length = 8 * n ∧ RowV w' b v d n ∧
    (∀ k, OwnD u s f k → k < b) ∧ b ≤ w'.heap.size ∧ w.heap.size ≤ p ∧ (∀ k, OwnD u s f k → w.heap.size ≤ k) ∧ Below w.heap.size w w'
theorem r3new_calls (w : World) (B : List Int) {n : Nat} (hB : B.length = 8 * n) (hn : n ≤ 8192) :
    Calls Try.prog 74 #[.string (strOfNums B)] w fun e w' => ∃ v, e = .returned (.tuple #[v, .bool true]) ∧ RowV w' w.heap.size v (Dev.of B) n ∧ Below w.heap.size w w' := by
  have hf : ecdysisref03_New.f (n + 1 + 1) (strOfNums B) = some (wdL (Dev.of B) n, true) := by
    have h0 := r3new_l hB hn n 0 (by omega) (Nat.zero_le _)
    rw [ecdysisref03_New.f, strOfNums_size, if_pos (by omega), ecdysisref03_New.j0, if_neg (by simp; omega)]
    exact h0
  refine (ecdysisref03_New.calls _ _ _ _ w hf).mono ?_
  rintro e w' ⟨v, rfl, hr, hb⟩
  exact ⟨v, rfl, Kd.R_V (Kd.R_mono (Kd.R_bound hr) (fun k hk => hk.2.1)), hb⟩
theorem r3new_bad (w : World) (B : List Int) (h : B.length % 8 ≠ 0 ∨ 65536 < B.length) :
    Calls Try.prog 74 #[.string (strOfNums B)] w fun e w' => ∃ v, e = .returned (.tuple #[v, .bool false]) ∧ Below w.heap.size w w' := by
  have hf : ecdysisref03_New.f 1 (strOfNums B) = some ([], false) := by
    rw [ecdysisref03_New.f, strOfNums_size]
    by_cases h1 : ((B.length : Nat) : Int) % 8 = 0
    · rw [if_pos h1, ecdysisref03_New.j0, if_pos (by simp; omega)]
    · rw [if_neg h1, ecdysisref03_New.j0, if_pos rfl]
  refine (ecdysisref03_New.calls _ _ _ _ w hf).mono ?_
  rintro e w' ⟨v, rfl, hr, hb⟩
  exact ⟨v, rfl, hb⟩
theorem r3bytes_calls {w : World} {b n : Nat} {v : Value} {d : Dev} (h : RowV w b v d n) (hl : d.B.length = 8 * n) (hn : n ≤ 8192) :
    Calls Try.prog 59 #[v] w fun e w' => e = .returned (.string (strOfNums d.B)) ∧ Drawn0 w w' := by
  obtain ⟨A, c, rfl⟩ := Kd.V_slice h
  obtain ⟨_, hc, hC⟩ := Kd.V_reads' h
  exact ecdysisref03_Bytes.calls _ A c (wdL d n) _ w hC hc (r3bytes_f hl hn n 0 (by omega) (Nat.zero_le _))
theorem r3loose_calls {w : World} {b n : Nat} {v : Value} {d : Dev} (h : RowV w b v d n) (hl : d.B.length = 8 * n) (hn : n ≤ 8192) :
    Calls Try.prog 60 #[v] w fun e w' => ∃ u, e = .returned u ∧ Kd.R (Kd.int .i64) 3 w' w.heap.size (fun _ => True) u (looseM d) ∧ Below w.heap.size w w' := by
  obtain ⟨A, c, rfl⟩ := Kd.V_slice h
  obtain ⟨_, hc, hC⟩ := Kd.V_reads' h
  have h0 := r3loose_f (d := d) hn n 0 (by omega) (Nat.zero_le _)
  rw [show looseM d = ((List.range n).filter fun k => (d.S k).isSome).map fun (k : Nat) => (k : Int) from by rw [looseM, hl, Nat.mul_div_cancel_left _ (by decide)]]
  exact ecdysisref03_Loose.calls _ A c (wdL d n) _ w hC hc h0
theorem r3do_calls {w : World} {b n : Nat} {v : Value} {d : Dev} (hd : d.Ok) (hl : d.B.length = 8 * n) (h : RowV w b v d n) (hb : b ≤ w.heap.size) (x : OpP) (hx : WfPo w x) (hck : x.ks.length ≤ x.c2) (hz : x.z ≠ 1) :
    Calls Try.prog 58 #[v, .agg #[.int .i64 x.z, .int .i64 x.at_, .int .i64 x.long, .slice x.A1 x.bs.length x.c1, .slice x.A2 x.ks.length x.c2]] w fun e w' => ∃ (v' : Value) (t : ByteArray) (e2 : Int), e = .returned (.tuple #[v', .string t, .int .i64 e2]) ∧ RowV w' b v' (stepD d x) n ∧ Below w.heap.size w w' := by
  obtain ⟨A, c, rfl⟩ := Kd.V_slice h
  have hkl : x.ks.length ≤ 9223372036854775807 := by have := hx.rk.2.1; omega
  obtain ⟨k, t, e2, hf⟩ := r3do_f hd hl x hz hkl
  refine (ecdysisref03_Do.calls k (fun k => b ≤ k) A c (wdL d n) x.z x.at_ x.long x.A1 x.c1 x.bs x.A2 x.c2 x.ks _ _ _ w h (Kd.C_of_reads (d := (0 : Int)) hx.rb) hx.cb (Kd.C_of_reads (d := (0 : Int)) hx.rk) hck hf).mono ?_
  rintro e w' ⟨v', rfl, hv, hbb⟩
  exact ⟨v', t, e2, rfl, Kd.V_mono hv (fun k hk => hk.elim id (fun h => Nat.le_trans hb h)), hbb⟩
theorem runD_len {d : Dev} {w : World} {os : List OpP} (hd : d.Ok) {k : Nat} (h : ∀ o ∈ os.take k, WfPo w o) : (runD d (os.take k)).B.length = d.B.length := by
  have : ∀ (os : List OpP) (d : Dev), d.Ok → (∀ o ∈ os, WfPo w o) → (runD d os).B.length = d.B.length := by
    intro os
    induction os with
    | nil => exact fun d _ _ => rfl
    | cons o os ih =>
      intro d hd ho
      have h1 := stepD_ok hd (ho o (List.mem_cons_self ..))
      exact (ih (stepD d o) h1 (fun x hx => ho x (List.mem_cons_of_mem _ hx))).trans (stepD_len hd o)
  exact this _ _ hd h
end Go.Proofs.Ytbfogcckbhkciaa.Hand
namespace Go.Proofs.Ytbfogcckbhkciaa.Hand
open Go.RowKit Go.Maps Go.Proofs.YtbfogcckbhkciaaW.PrintWords Go.Proofs.YtbfogcckbhkciaaW.PrintLast Go.Proofs.YtbfogcckbhkciaaW.PrintMore Go.Proofs.Ytbfogcckbhkciaa.PHandRP
set_option linter.unusedVariables false
set_option linter.unusedSimpArgs false
set_option maxRecDepth 100000 in
theorem does4_write (w : World) (p : Nat) (v : Value) (s f : Nat) (d : Dev) (z a long : Int) (A1 : Option Addr) (c1 : Nat) (bs : List Int) (A2 : Option Addr) (c2 : Nat) (ks : List Int) (h : HasD w p v s f d) (hw : WfPo w ⟨z, a, long, A1, c1, bs, A2, c2, ks⟩) (hz : z = 0) :
    Calls Try.prog 75 #[.pointer (some ⟨p, 0, none⟩), .agg #[.int .i64 z, .int .i64 a, .int .i64 long, .slice A1 bs.length c1, .slice A2 ks.length c2]] w (DoesV w p v s f (stepD d ⟨z, a, long, A1, c1, bs, A2, c2, ks⟩)) := by
  have HH := Aside0.mk h
  have HW := Aside0.mk hw
  subst hz
  by_cases he : insE d.B.length a bs.length = 0
  · obtain ⟨_, h2, h3⟩ := ins_ok he
    obtain ⟨a, rfl⟩ := Int.eq_ofNat_of_zero_le h2
    have HE := Aside0.mk he
    have HST := Aside0.mk (show stepD d ⟨0, (a : Int), long, A1, c1, bs, A2, c2, ks⟩ = d.write a bs by simp only [stepD]; rw [if_pos trivial, if_pos he, Int.toNat_natCast])
    rw [HST.out]
    clear h hw he
    go_enter Try.func75, Try.ntmps75
    go_wp2_with (go_at_call 23; (with_reducible refine (write_good _ p v s f d a A1 bs.length c1 bs rfl (HH.out.move (below_alloc (Below.refl _ _) _)) (HW.out.rb.below (below_alloc (Below.refl _ _) _)) HW.out.by_ HE.out).mono ?_); rintro e w2 ⟨rfl, hs2, hf2⟩; have HS2 := Aside0.mk hs2; have HF2 := Aside0.mk hf2; clear hs2 hf2)
    go_end0
    exact ⟨rfl, HS2.out, ((Fr.refl _ _).alloc _).trans' HF2.out⟩
  · have HE := Aside0.mk he
    have HST := Aside0.mk (show stepD d ⟨0, a, long, A1, c1, bs, A2, c2, ks⟩ = d by simp only [stepD]; rw [if_pos trivial, if_neg he])
    rw [HST.out]
    have hln := hw.rb.2.1
    simp only at hln
    clear h hw he
    go_enter Try.func75, Try.ntmps75
    go_wp2_with (go_at_call 23; (with_reducible refine (write_bad _ p v s f d a A1 bs.length c1 (HH.out.move (below_alloc (Below.refl _ _) _)) hln HE.out).mono ?_); rintro e w2 ⟨rfl, hb2⟩; have HB2 := Aside0.mk hb2; clear hb2)
    go_end0
    exact ⟨rfl, (HH.out.move (below_alloc (Below.refl _ _) _)).move HB2.out, (Fr.of_below ((below_alloc (Below.refl w.heap.size w) _).trans (HB2.out.mono (by simp))) _)⟩
set_option maxRecDepth 100000 in
theorem does4_flush (w : World) (p : Nat) (v : Value) (s f : Nat) (d : Dev) (z a long : Int) (A1 : Option Addr) (c1 : Nat) (bs : List Int) (A2 : Option Addr) (c2 : Nat) (ks : List Int) (h : HasD w p v s f d) (hw : WfPo w ⟨z, a, long, A1, c1, bs, A2, c2, ks⟩) (hz : z = 2) :
    Calls Try.prog 75 #[.pointer (some ⟨p, 0, none⟩), .agg #[.int .i64 z, .int .i64 a, .int .i64 long, .slice A1 bs.length c1, .slice A2 ks.length c2]] w (DoesV w p v s f (stepD d ⟨z, a, long, A1, c1, bs, A2, c2, ks⟩)) := by
  have HH := Aside0.mk h
  subst hz
  by_cases he : insE d.B.length a long = 0
  · obtain ⟨h1, h2, h3⟩ := ins_ok he
    obtain ⟨a, rfl⟩ := Int.eq_ofNat_of_zero_le h2
    obtain ⟨long, rfl⟩ := Int.eq_ofNat_of_zero_le h1
    have HE := Aside0.mk he
    have HST := Aside0.mk (show stepD d ⟨2, (a : Int), (long : Int), A1, c1, bs, A2, c2, ks⟩ = d.flush a long by simp only [stepD]; rw [if_neg (by decide), if_pos trivial, if_pos he, Int.toNat_natCast, Int.toNat_natCast])
    rw [HST.out]
    clear h hw he
    go_enter Try.func75, Try.ntmps75
    go_wp2_with (go_at_call 25; (with_reducible refine (flush_calls _ p v s f d a long (HH.out.move (below_alloc (Below.refl _ _) _)) HE.out).mono ?_); rintro e w2 ⟨rfl, hs2, hf2⟩; have HS2 := Aside0.mk hs2; have HF2 := Aside0.mk hf2; clear hs2 hf2)
    go_end0
    exact ⟨rfl, HS2.out, ((Fr.refl _ _).alloc _).trans' HF2.out⟩
  · have HE := Aside0.mk he
    have HST := Aside0.mk (show stepD d ⟨2, a, long, A1, c1, bs, A2, c2, ks⟩ = d by simp only [stepD]; rw [if_neg (by decide), if_pos trivial, if_neg he])
    rw [HST.out]
    clear h hw he
    go_enter Try.func75, Try.ntmps75
    go_wp2_with (go_at_call 25; (with_reducible refine (flush_bad _ p v s f d a long (HH.out.move (below_alloc (Below.refl _ _) _)) HE.out).mono ?_); rintro e w2 ⟨rfl, hb2⟩; have HB2 := Aside0.mk hb2; clear hb2)
    go_end0
    exact ⟨rfl, (HH.out.move (below_alloc (Below.refl _ _) _)).move HB2.out, (Fr.of_below ((below_alloc (Below.refl w.heap.size w) _).trans (HB2.out.mono (by simp))) _)⟩
set_option maxRecDepth 100000 in
theorem does4_fence (w : World) (p : Nat) (v : Value) (s f : Nat) (d : Dev) (z a long : Int) (A1 : Option Addr) (c1 : Nat) (bs : List Int) (A2 : Option Addr) (c2 : Nat) (ks : List Int) (h : HasD w p v s f d) (hw : WfPo w ⟨z, a, long, A1, c1, bs, A2, c2, ks⟩) (hz : z = 3) :
    Calls Try.prog 75 #[.pointer (some ⟨p, 0, none⟩), .agg #[.int .i64 z, .int .i64 a, .int .i64 long, .slice A1 bs.length c1, .slice A2 ks.length c2]] w (DoesV w p v s f (stepD d ⟨z, a, long, A1, c1, bs, A2, c2, ks⟩)) := by
  have HH := Aside0.mk h
  subst hz
  have HST := Aside0.mk (show stepD d ⟨3, a, long, A1, c1, bs, A2, c2, ks⟩ = d.fence by simp [stepD])
  rw [HST.out]
  clear h hw
  go_enter Try.func75, Try.ntmps75
  go_wp2_with (go_at_call 24; (with_reducible refine (fence_calls _ p v s f d (HH.out.move (below_alloc (Below.refl _ _) _))).mono ?_); rintro e w2 ⟨rfl, hs2, hf2⟩; have HS2 := Aside0.mk hs2; have HF2 := Aside0.mk hf2; clear hs2 hf2)
  go_end0
  exact ⟨rfl, HS2.out, ((Fr.refl _ _).alloc _).trans' HF2.out⟩
set_option maxRecDepth 100000 in
theorem does4_crash (w : World) (p : Nat) (v : Value) (s f : Nat) (d : Dev) (z a long : Int) (A1 : Option Addr) (c1 : Nat) (bs : List Int) (A2 : Option Addr) (c2 : Nat) (ks : List Int) (h : HasD w p v s f d) (hw : WfPo w ⟨z, a, long, A1, c1, bs, A2, c2, ks⟩) (hk : 0 < ks.length → ∀ ad, A2 = some ad → ¬ some ad.block = v.ownBlock) (hz : z = 4) :
    Calls Try.prog 75 #[.pointer (some ⟨p, 0, none⟩), .agg #[.int .i64 z, .int .i64 a, .int .i64 long, .slice A1 bs.length c1, .slice A2 ks.length c2]] w (DoesV w p v s f (stepD d ⟨z, a, long, A1, c1, bs, A2, c2, ks⟩)) := by
  have HH := Aside0.mk h
  have HW := Aside0.mk hw
  subst hz
  have HST := Aside0.mk (show stepD d ⟨4, a, long, A1, c1, bs, A2, c2, ks⟩ = d.crash ks by simp [stepD])
  rw [HST.out]
  clear h hw
  go_enter Try.func75, Try.ntmps75
  go_wp2_with (go_at_call 30; (with_reducible refine (crash_calls _ p v s f d A2 c2 ks (HH.out.move (below_alloc (Below.refl _ _) _)) (HW.out.rk.below (below_alloc (Below.refl _ _) _)) hk).mono ?_); rintro e w2 ⟨rfl, hs2, hf2⟩; have HS2 := Aside0.mk hs2; have HF2 := Aside0.mk hf2; clear hs2 hf2)
  go_end0
  exact ⟨rfl, HS2.out, ((Fr.refl _ _).alloc _).trans' HF2.out⟩
set_option maxRecDepth 100000 in
theorem does4_other (w : World) (p : Nat) (v : Value) (s f : Nat) (d : Dev) (z a long : Int) (A1 : Option Addr) (c1 : Nat) (bs : List Int) (A2 : Option Addr) (c2 : Nat) (ks : List Int) (h : HasD w p v s f d) (hw : WfPo w ⟨z, a, long, A1, c1, bs, A2, c2, ks⟩) (h0 : z ≠ 0) (h2 : z ≠ 2) (h3 : z ≠ 3) (h4 : z ≠ 4) :
    Calls Try.prog 75 #[.pointer (some ⟨p, 0, none⟩), .agg #[.int .i64 z, .int .i64 a, .int .i64 long, .slice A1 bs.length c1, .slice A2 ks.length c2]] w (DoesV w p v s f (stepD d ⟨z, a, long, A1, c1, bs, A2, c2, ks⟩)) := by
  have HH := Aside0.mk h
  have HST := Aside0.mk (show stepD d ⟨z, a, long, A1, c1, bs, A2, c2, ks⟩ = d by simp only [stepD]; rw [if_neg (by omega), if_neg (by omega), if_neg (by omega), if_neg (by omega)])
  rw [HST.out]
  have e0 : (z == 0) = false := by simp; omega
  have e2 : (z == 2) = false := by simp; omega
  have e3 : (z == 3) = false := by simp; omega
  have e4 : (z == 4) = false := by simp; omega
  clear h hw
  go_enter Try.func75, Try.ntmps75
  go_wp2
  go_end0
  exact ⟨rfl, (HH.out.move (below_alloc (Below.refl _ _) _)), (Fr.refl _ _).alloc _⟩
theorem does4_calls (w : World) (p : Nat) (v : Value) (s f : Nat) (d : Dev) (z a long : Int) (A1 : Option Addr) (c1 : Nat) (bs : List Int) (A2 : Option Addr) (c2 : Nat) (ks : List Int) (h : HasD w p v s f d) (hw : WfPo w ⟨z, a, long, A1, c1, bs, A2, c2, ks⟩) (hk : 0 < ks.length → ∀ ad, A2 = some ad → ¬ some ad.block = v.ownBlock) :
    Calls Try.prog 75 #[.pointer (some ⟨p, 0, none⟩), .agg #[.int .i64 z, .int .i64 a, .int .i64 long, .slice A1 bs.length c1, .slice A2 ks.length c2]] w (DoesV w p v s f (stepD d ⟨z, a, long, A1, c1, bs, A2, c2, ks⟩)) := by
  by_cases h0 : z = 0
  · exact does4_write w p v s f d z a long A1 c1 bs A2 c2 ks h hw h0
  by_cases h2 : z = 2
  · exact does4_flush w p v s f d z a long A1 c1 bs A2 c2 ks h hw h2
  by_cases h3 : z = 3
  · exact does4_fence w p v s f d z a long A1 c1 bs A2 c2 ks h hw h3
  by_cases h4 : z = 4
  · exact does4_crash w p v s f d z a long A1 c1 bs A2 c2 ks h hw hk h4
  · exact does4_other w p v s f d z a long A1 c1 bs A2 c2 ks h hw h0 h2 h3 h4
set_option maxRecDepth 100000 in
theorem made4_bad (w : World) (A0 : Option Addr) (c0 : Nat) (B : List Int) (A : Option Addr) (c : Nat) (os : List OpP) (hB : ReadsInt w .u8 A0 B.length B) (hby : Bys B) (ho : PoK.C w A os.length os) (hw : ∀ o ∈ os, WfPo w o) (hck : ∀ o ∈ os, o.ks.length ≤ o.c2) (hbad : B.length % 8 ≠ 0 ∨ 65536 < B.length) : Calls Try.prog 35 #[.slice A0 B.length c0, .slice A os.length c] w (MadeW w) := by
  have HO := Aside0.mk ho
  have HW := Aside0.mk hw
  have HCK := Aside0.mk hck
  have HR := Aside0.mk hB
  have HOF := Aside0.mk (fun (W : World) => of_bad W A0 B.length c0 hbad)
  have HNW := Aside0.mk (fun (W : World) => r3new_bad W B hbad)
  have hl : os.length ≤ 9223372036854775807 := ho.2.1
  clear ho hw hB hby hbad
  go_enter Try.func35, Try.ntmps35
  go_wp2
  go_loopw [7, 21] (fun n i wr => ∃ (k : Nat) (m : Int), k ≤ os.length ∧ n = .int .i64 m ∧ i = .int .i64 k ∧ Aside0 (Below w.heap.size w wr)) (fun _ i _ => (os.length - intOf i).toNat)
  case atStart => exact ⟨0, 0, Nat.zero_le _, rfl, rfl, ⟨Below.refl _ _⟩⟩
  case round =>
    obtain ⟨k, m, hk, rfl, rfl, HB⟩ := hrel
    by_cases hlt : k < os.length
    · (obtain ⟨o, hx⟩ : ∃ o, os[k]? = some o := ⟨_, List.getElem?_eq_getElem hlt⟩; obtain ⟨bb, ob, hB, hcb⟩ := C_at (Kd.C_below HO.out HB.out) (by decide) hx; subst hB; have HWO := Aside0.mk (HW.out o (List.mem_of_getElem? hx)); have HCO := Aside0.mk (HCK.out o (List.mem_of_getElem? hx)); obtain ⟨z, a, long, A1, c1, bs, A2, c2, ks⟩ := o; have b0 : wr.cell? ⟨bb, ob + k * 5, none⟩ = some (.int .i64 z) := hcb 0 (by decide); have b1 : wr.cell? ⟨bb, ob + k * 5 + 1, none⟩ = some (.int .i64 a) := hcb 1 (by decide); have b2 : wr.cell? ⟨bb, ob + k * 5 + 2, none⟩ = some (.int .i64 long) := hcb 2 (by decide); have b3 : wr.cell? ⟨bb, ob + k * 5 + 3, none⟩ = some (.slice A1 bs.length c1) := hcb 3 (by decide); have b4 : wr.cell? ⟨bb, ob + k * 5 + 4, none⟩ = some (.slice A2 ks.length c2) := hcb 4 (by decide); clear hcb)
      clear hx
      go_wp2
      refine ⟨⟨k + 1, _, by omega, rfl, by go_num, ⟨below_alloc HB.out _⟩⟩, by simp [intOf]; omega⟩
    · obtain rfl : k = os.length := by omega
      go_wp2_with (first | (go_at_call 69; (with_reducible refine (HOF.out _).mono ?_); rintro e w1 ⟨rfl, hb⟩; have HB1 := Aside0.mk (bel_step HB.out hb); have hcv := conv_n (c := c0) (HR.out.below HB1.out); clear hb) | (go_at_call 74; (with_reducible refine (HNW.out _).mono ?_); rintro e w2 ⟨v2, rfl, hb⟩; have HB2 := Aside0.mk (bel_step HB1.out hb); clear hb))
      go_ret3
      exact .inl ⟨rfl, HB2.out⟩
set_option maxRecDepth 100000 in
set_option maxHeartbeats 1000000 in
theorem made4_good (w : World) (A0 : Option Addr) (c0 : Nat) (B : List Int) (A : Option Addr) (c : Nat) (os : List OpP) (hB : ReadsInt w .u8 A0 B.length B) (hby : Bys B) (ho : PoK.C w A os.length os) (hw : ∀ o ∈ os, WfPo w o) (hck : ∀ o ∈ os, o.ks.length ≤ o.c2) {nn : Nat} (h8 : B.length = 8 * nn) (hn : nn ≤ 8192) : Calls Try.prog 35 #[.slice A0 B.length c0, .slice A os.length c] w (MadeW w) := by
  have HO := Aside0.mk ho
  have HW := Aside0.mk hw
  have HCK := Aside0.mk hck
  have HR := Aside0.mk hB
  have H8 := Aside0.mk h8
  have HDO := Aside0.mk (show (Dev.of B).Ok from Dev.Ok.of (by omega) (by omega) hby)
  have HOF := Aside0.mk (fun (W : World) (hW : Below w.heap.size w W) => show Calls Try.prog 69 #[.slice A0 B.length c0] W (NewDev W B) from of_calls W A0 c0 B (hB.below hW) hby (by omega) (by omega))
  have HNW := Aside0.mk (fun (W : World) => r3new_calls W B h8 hn)
  have hl : os.length ≤ 9223372036854775807 := ho.2.1
  have hbl : B.length ≤ 65536 := by omega
  clear ho hw hB hby h8
  go_enter Try.func35, Try.ntmps35
  go_wp2
  go_loopw [7, 21] (fun n i wr => ∃ (k : Nat) (m : Int), k ≤ os.length ∧ n = .int .i64 m ∧ i = .int .i64 k ∧ Aside0 (Below w.heap.size w wr)) (fun _ i _ => (os.length - intOf i).toNat)
  case atStart => exact ⟨0, 0, Nat.zero_le _, rfl, rfl, ⟨Below.refl _ _⟩⟩
  case round =>
    obtain ⟨k, m, hk, rfl, rfl, HB⟩ := hrel
    by_cases hlt : k < os.length
    · (obtain ⟨o, hx⟩ : ∃ o, os[k]? = some o := ⟨_, List.getElem?_eq_getElem hlt⟩; obtain ⟨bb, ob, hB, hcb⟩ := C_at (Kd.C_below HO.out HB.out) (by decide) hx; subst hB; have HWO := Aside0.mk (HW.out o (List.mem_of_getElem? hx)); have HCO := Aside0.mk (HCK.out o (List.mem_of_getElem? hx)); obtain ⟨z, a, long, A1, c1, bs, A2, c2, ks⟩ := o; have b0 : wr.cell? ⟨bb, ob + k * 5, none⟩ = some (.int .i64 z) := hcb 0 (by decide); have b1 : wr.cell? ⟨bb, ob + k * 5 + 1, none⟩ = some (.int .i64 a) := hcb 1 (by decide); have b2 : wr.cell? ⟨bb, ob + k * 5 + 2, none⟩ = some (.int .i64 long) := hcb 2 (by decide); have b3 : wr.cell? ⟨bb, ob + k * 5 + 3, none⟩ = some (.slice A1 bs.length c1) := hcb 3 (by decide); have b4 : wr.cell? ⟨bb, ob + k * 5 + 4, none⟩ = some (.slice A2 ks.length c2) := hcb 4 (by decide); clear hcb)
      clear hx
      go_wp2
      refine ⟨⟨k + 1, _, by omega, rfl, by go_num, ⟨below_alloc HB.out _⟩⟩, by simp [intOf]; omega⟩
    · obtain rfl : k = os.length := by omega
      rcases (show 200 < B.length ∨ (¬ 200 < B.length ∧ 60 < os.length) ∨ (¬ 200 < B.length ∧ ¬ 60 < os.length ∧ 2000 < m) ∨ (¬ 200 < B.length ∧ ¬ 60 < os.length ∧ ¬ 2000 < m) by omega) with g1 | ⟨g1, g2⟩ | ⟨g1, g2, g3⟩ | ⟨g1, g2, g3⟩
      all_goals
        go_wp2_with (first | (go_at_call 69; (with_reducible refine (HOF.out _ HB.out).mono ?_); rintro e w1 ⟨p, u, s, f, rfl, hd1, hp1, hv1, hb1⟩; have HD1 := Aside0.mk hd1; have HP1 := Aside0.mk (Nat.le_trans HB.out.size hp1); have HV1 := Aside0.mk (fun b hb => Nat.le_trans HB.out.size (hv1 b hb)); have HB1 := Aside0.mk (bel_step HB.out hb1); have hcv := conv_n (c := c0) (HR.out.below HB1.out); clear hd1 hp1 hv1 hb1) | (go_at_call 74; (with_reducible refine (HNW.out _).mono ?_); rintro e w2 ⟨v2, rfl, hr2, hb2⟩; have HR2 := Aside0.mk hr2; have HB2 := Aside0.mk (bel_step HB1.out hb2); have HD2 := Aside0.mk (HD1.out.move hb2); have HW2 := Aside0.mk hb2.size; clear hr2 hb2))
      go_ret3
      exact .inl ⟨rfl, HB2.out⟩
      go_ret3
      exact .inl ⟨rfl, HB2.out⟩
      go_ret3
      exact .inl ⟨rfl, HB2.out⟩
      clear hcv
      have HOW := Aside0.mk (show ∀ b, OwnD u s f b → b < w1.heap.size from fun b hb => HD1.out.own_lt hb)
      go_loopw [12, 72] (fun rv i wr => ∃ k : Nat, k ≤ os.length ∧ i = .int .i64 k ∧ Aside0 (RowV wr w1.heap.size rv (runD (Dev.of B) (os.take k)) nn) ∧ Aside0 (HasD wr p u s f (runD (Dev.of B) (os.take k))) ∧ Aside0 (Below w.heap.size w wr) ∧ Aside0 (w1.heap.size ≤ wr.heap.size)) (fun _ i _ => (os.length - intOf i).toNat)
      case atStart => exact ⟨0, Nat.zero_le _, rfl, HR2, HD2, HB2, HW2⟩
      case round =>
        obtain ⟨k, hk, rfl, HRr, HD, HB, HS⟩ := hrel
        by_cases hlt : k < os.length
        · have HLN := Aside0.mk (runD_len HDO.out (fun o ho => (HW.out o (List.mem_of_mem_take ho))) (k := k))
          (obtain ⟨o, hx⟩ : ∃ o, os[k]? = some o := ⟨_, List.getElem?_eq_getElem hlt⟩; obtain ⟨bb, ob, hB, hcb⟩ := C_at (Kd.C_below HO.out HB.out) (by decide) hx; subst hB; have HWO := Aside0.mk (HW.out o (List.mem_of_getElem? hx)); have HCO := Aside0.mk (HCK.out o (List.mem_of_getElem? hx)); obtain ⟨z, a, long, A1, c1, bs, A2, c2, ks⟩ := o; have b0 : wr.cell? ⟨bb, ob + k * 5, none⟩ = some (.int .i64 z) := hcb 0 (by decide); have b1 : wr.cell? ⟨bb, ob + k * 5 + 1, none⟩ = some (.int .i64 a) := hcb 1 (by decide); have b2 : wr.cell? ⟨bb, ob + k * 5 + 2, none⟩ = some (.int .i64 long) := hcb 2 (by decide); have b3 : wr.cell? ⟨bb, ob + k * 5 + 3, none⟩ = some (.slice A1 bs.length c1) := hcb 3 (by decide); have b4 : wr.cell? ⟨bb, ob + k * 5 + 4, none⟩ = some (.slice A2 ks.length c2) := hcb 4 (by decide); clear hcb)
          have HRN := Aside0.mk (runD_take (d := Dev.of B) hx)
          clear hx
          by_cases hz1 : z = 1
          · subst hz1
            have HST := Aside0.mk (show stepD (runD (Dev.of B) (os.take k)) ⟨1, a, long, A1, c1, bs, A2, c2, ks⟩ = runD (Dev.of B) (os.take k) from by simp [stepD])
            go_wp2
            refine ⟨⟨k + 1, by omega, by go_num, ⟨?_⟩, ⟨?_⟩, ⟨below_alloc HB.out _⟩, ⟨Nat.le_trans HS.out (below_alloc (Below.refl _ _) _).size⟩⟩, by simp [intOf]; omega⟩
            · rw [HRN.out, HST.out]
              exact Kd.V_below HRr.out (below_alloc (Below.refl _ _) _)
            · rw [HRN.out, HST.out]
              exact HD.out.move (below_alloc (Below.refl _ _) _)
          · obtain ⟨dk, hdk⟩ : ∃ dk, dk = runD (Dev.of B) (os.take k) := ⟨_, rfl⟩
            rw [← hdk] at HRr HD HLN HRN
            have hz1b : (z == 1) = false := by simp; omega
            have HDD := Aside0.mk (fun (W : World) (hW : Below wr.heap.size wr W) => r3do_calls HD.out.ok (by rw [HLN.out]; exact H8.out) (Kd.V_below HRr.out hW) (Nat.le_trans HS.out hW.size) ⟨z, a, long, A1, c1, bs, A2, c2, ks⟩ (HWO.out.below (bel_step HB.out hW)) HCO.out hz1)
            have HDS := Aside0.mk (fun (W : World) (hW : Below wr.heap.size wr W) => does4_calls W p u s f _ z a long A1 c1 bs A2 c2 ks (HD.out.move hW) (HWO.out.below (bel_step HB.out hW)) (reads_off HWO.out.rk (fun b hb => HV1.out b (.inl hb))))
            have HBA := Aside0.mk (below_alloc (Below.refl wr.heap.size wr) (.cells #[.int .i64 z, .int .i64 a, .int .i64 long, .slice A1 bs.length c1, .slice A2 ks.length c2] 26))
            clear hdk
            go_wp2_with (first | (go_at_call 58; (with_reducible refine (HDD.out _ HBA.out).mono ?_); rintro e w3 ⟨v3, t3, e3, rfl, hr3, hb3⟩; have HR3 := Aside0.mk hr3; have HB3 := Aside0.mk (bel_step HBA.out hb3); have hbx : w3.heap[wr.heap.size]? = some (.cells #[.int .i64 z, .int .i64 a, .int .i64 long, .slice A1 bs.length c1, .slice A2 ks.length c2] 26 (0, 0)) := BoxAt.below (boxed_at wr ⟨z, a, long, A1, c1, bs, A2, c2, ks⟩) hb3; have q0 := blk_cell hbx (i := 0) rfl; have q1 := blk_cell hbx (i := 1) rfl; have q2 := blk_cell hbx (i := 2) rfl; have q3 := blk_cell hbx (i := 3) rfl; have q4 := blk_cell hbx (i := 4) rfl; clear hr3 hb3 hbx) | (go_at_call 75; (with_reducible refine (HDS.out _ HB3.out).mono ?_); rintro e w4 ⟨rfl, hd4, hf4⟩; have HD4 := Aside0.mk hd4; have HF4 := Aside0.mk hf4; have HB4 := Aside0.mk ((bel_step HB.out HB3.out).trans (hf4.below _ (bel_step HB.out HB3.out).size (fun b hb => HV1.out b hb))); clear hd4 hf4))
            refine ⟨⟨k + 1, by omega, by go_num, ⟨?_⟩, ⟨?_⟩, HB4, ⟨Nat.le_trans (Nat.le_trans HS.out HB3.out.size) HF4.out.size⟩⟩, by simp [intOf]; omega⟩
            · rw [HRN.out]
              exact Kd.V_step HR3.out (fun j hj hlt => HF4.out.block j hlt (fun ho => absurd (HOW.out j ho) (Nat.not_lt.2 hj)))
            · rw [HRN.out]
              exact HD4.out
        · obtain rfl : k = os.length := by omega
          rw [List.take_length] at HD HRr
          have HLN := Aside0.mk (runD_len HDO.out (fun o ho => HW.out o (List.mem_of_mem_take ho)) (k := os.length))
          rw [List.take_length] at HLN
          go_wp2
          go_ret3
          exact .inr ⟨p, u, s, f, _, _, nn, w1.heap.size, rfl, HD.out, by rw [HLN.out]; exact H8.out, HRr.out, HOW.out, HS.out, HP1.out, HV1.out, HB.out⟩
theorem made4_calls (w : World) (A0 : Option Addr) (c0 : Nat) (B : List Int) (A : Option Addr) (c : Nat) (os : List OpP) (hB : ReadsInt w .u8 A0 B.length B) (hby : Bys B) (ho : PoK.C w A os.length os) (hw : ∀ o ∈ os, WfPo w o) (hck : ∀ o ∈ os, o.ks.length ≤ o.c2) : Calls Try.prog 35 #[.slice A0 B.length c0, .slice A os.length c] w (MadeW w) := by
  by_cases h : B.length % 8 = 0 ∧ B.length ≤ 65536
  · exact made4_good w A0 c0 B A c os hB hby ho hw hck (nn := B.length / 8) (by omega) (by omega)
  · exact made4_bad w A0 c0 B A c os hB hby ho hw hck (by omega)
end Go.Proofs.Ytbfogcckbhkciaa.Hand
namespace Go.Proofs.Ytbfogcckbhkciaa.Hand
open Go.RowKit Go.Maps Go.Proofs.YtbfogcckbhkciaaW.PrintWords Go.Proofs.YtbfogcckbhkciaaW.PrintLast Go.Proofs.Ytbfogcckbhkciaa.PHandRP
set_option linter.unusedVariables false
set_option linter.unusedSimpArgs false
theorem rput8 (W : World) {x : Int} (h0 : 0 ≤ x) (h1 : x < 18446744073709551616) : Calls Try.prog 82 #[.int .i64 8, .int .u64 x] W fun e w' => e = .returned (.string (strOfNums (leB x 8))) ∧ Below W.heap.size W w' :=
  rPut_yes 8 x W (by simp only [rfitsB, Bool.and_eq_true, decide_eq_true_eq]; exact ⟨by decide, by rw [show topN 8 = 18446744073709551615 from rfl]; omega⟩) h0
theorem rput2 (W : World) {x : Int} (h0 : 0 ≤ x) (h1 : x < 65536) : Calls Try.prog 82 #[.int .i64 2, .int .u64 x] W fun e w' => e = .returned (.string (strOfNums (leB x 2))) ∧ Below W.heap.size W w' :=
  rPut_yes 2 x W (by simp only [rfitsB, Bool.and_eq_true, decide_eq_true_eq]; exact ⟨by decide, by rw [show topN 2 = 65535 from rfl]; omega⟩) h0
theorem rput4 (W : World) {x : Int} (h0 : 0 ≤ x) (h1 : x < 4294967296) : Calls Try.prog 82 #[.int .i64 4, .int .u64 x] W fun e w' => e = .returned (.string (strOfNums (leB x 4))) ∧ Below W.heap.size W w' :=
  rPut_yes 4 x W (by simp only [rfitsB, Bool.and_eq_true, decide_eq_true_eq]; exact ⟨by decide, by rw [show topN 4 = 4294967295 from rfl]; omega⟩) h0
theorem cat_fits {a b : List Int} (h : a.length + b.length ≤ 9223372036854775807) : (9223372036854775807 < (strOfNums a).size + (strOfNums b).size) = False := eq_false (by rw [strOfNums_size, strOfNums_size]; omega)
set_option maxRecDepth 100000 in
set_option maxHeartbeats 2000000 in
theorem rbody_calls (w : World) (A : Option Addr) (c : Nat) (sets : List SetT) (h : SetK.C w A sets.length sets) (hp : ∀ s ∈ sets, PosSt s) (hl : sets.length ≤ 100000) :
    Calls Try.prog 133 #[.slice A sets.length c] w fun e w' => e = .returned (.string (strOfNums (bodyL sets))) ∧ Below w.heap.size w w' := by
  have HC := Aside0.mk h
  have HP := Aside0.mk hp
  clear h hp
  go_enter Try.func133, Try.ntmps133
  go_wp2
  go_loopw [3, 4] (fun u i wr => ∃ t : Nat, t ≤ sets.length ∧ i = .int .i64 (t : Int) ∧ u = .string (strOfNums (bodyL (sets.take t))) ∧ Aside0 (Below w.heap.size w wr)) (fun _ i _ => (sets.length - intOf i).toNat)
  case atStart => exact ⟨0, Nat.zero_le _, rfl, rfl, ⟨Below.refl _ _⟩⟩
  case round =>
    obtain ⟨t, ht, rfl, rfl, HB⟩ := hrel
    by_cases hlt : t < sets.length
    · obtain ⟨x, hx⟩ : ∃ x, sets[t]? = some x := ⟨_, List.getElem?_eq_getElem hlt⟩
      obtain ⟨bb, ob, hA, hcb⟩ := C_at (Kd.C_below HC.out HB.out) (by decide) hx
      have HTK := Aside0.mk (show bodyL (sets.take (t + 1)) = bodyL (sets.take t) ++ leB x.1 8 ++ leB x.2 8 by rw [List.take_add_one, hx, Option.toList_some, bodyL_snoc])
      have hpx := HP.out x (List.mem_of_getElem? hx)
      have hbl : (bodyL (sets.take t)).length ≤ 1600000 := by rw [bodyL_length, List.length_take]; omega
      obtain ⟨x, y⟩ := x
      have b0 : wr.cell? ⟨bb, ob + t * 2, none⟩ = some (.int .i64 x) := hcb 0 (by decide)
      have b1 : wr.cell? ⟨bb, ob + t * 2 + 1, none⟩ = some (.int .u64 y) := hcb 1 (by decide)
      obtain ⟨p0, p1, p2, p3⟩ := hpx
      have HPX := Aside0.mk (fun (W : World) => rput8 W (x := x) p0 (by show x < _; omega))
      have HPY := Aside0.mk (fun (W : World) => rput8 W (x := y) p2 p3)
      have EW := Aside0.mk (show IntKind.u64.wrap x = x from u64_wrap_of p0 (by show x < _; omega))
      obtain ⟨L, hL⟩ : ∃ L, L = bodyL (sets.take t) := ⟨_, rfl⟩
      rw [← hL] at HTK hbl ⊢
      have f1 := cat_fits (a := L) (b := leB x 8) (by rw [leB_length]; omega)
      have f2 := cat_fits (a := L ++ leB x 8) (b := leB y 8) (by rw [List.length_append, leB_length, leB_length]; omega)
      subst hA
      clear hcb hx hL p0 p1 p2 p3
      go_wp2
      refine start_ (n := 17) (S := fun w' => w'.cell? ⟨bb, ob + t * 2, none⟩ = some (.int .i64 x) ∧ w'.cell? ⟨bb, ob + t * 2 + 1, none⟩ = some (.int .u64 y)) (ds := []) #[false, false, false, false, false, false, false, false, false, false, false, false, false, false, false, false, false] (by kernel_rfl) rfl rfl ⟨b0, b1⟩ (fun hHeld => ?_)
      refine pure_ (i := 0) (N := some 11) (v := ?_) (a' := ?_) #[true, false, false, false, false, false, false, false, false, false, false, false, false, false, false, false, false] rfl rfl (by kernel_rfl) (fun _ _ _ h => h) (Or.inl ⟨by rfl, ?_⟩) ?_ ?_
      rotate_left
      · intro w'
        go_simp
        with_reducible rfl
      rotate_left
      · simp only [Act.put, List.setIfInBounds_toArray, List.set_cons_zero, List.set_cons_succ, i64_w, i32_w]
        rfl
      refine pure_ (i := 1) (N := some 12) (v := ?_) (a' := ?_) #[true, true, false, false, false, false, false, false, false, false, false, false, false, false, false, false, false] rfl rfl (by kernel_rfl) (fun _ _ _ h => h) (Or.inl ⟨by rfl, ?_⟩) ?_ ?_
      rotate_left
      · intro w'
        go_simp
        with_reducible rfl
      rotate_left
      · simp only [Act.put, List.setIfInBounds_toArray, List.set_cons_zero, List.set_cons_succ, i64_w, i32_w]
        rfl
      refine pure_ (i := 2) (N := some 13) (v := ?_) (a' := ?_) #[true, true, true, false, false, false, false, false, false, false, false, false, false, false, false, false, false] rfl rfl (by kernel_rfl) (fun _ _ _ h => h) (Or.inl ⟨by rfl, ?_⟩) ?_ ?_
      rotate_left
      · intro w'
        go_simp
        with_reducible rfl
      rotate_left
      · simp only [Act.put, List.setIfInBounds_toArray, List.set_cons_zero, List.set_cons_succ, i64_w, i32_w]
        rfl
      refine pure_ (i := 3) (N := some 14) (v := ?_) (a' := ?_) #[true, true, true, true, false, false, false, false, false, false, false, false, false, false, false, false, false] rfl rfl (by kernel_rfl) (fun _ _ _ h => h) (Or.inl ⟨by rfl, ?_⟩) ?_ ?_
      rotate_left
      · intro w'
        go_simp
        with_reducible rfl
      rotate_left
      · simp only [Act.put, List.setIfInBounds_toArray, List.set_cons_zero, List.set_cons_succ, i64_w, i32_w]
        rfl
      refine pure_ (i := 4) (N := some 15) (v := ?_) (a' := ?_) #[true, true, true, true, true, false, false, false, false, false, false, false, false, false, false, false, false] rfl rfl (by kernel_rfl) (fun _ _ _ h => h) (Or.inl ⟨by rfl, ?_⟩) ?_ ?_
      rotate_left
      · intro w'
        go_simp
        with_reducible rfl
      rotate_left
      · simp only [Act.put, List.setIfInBounds_toArray, List.set_cons_zero, List.set_cons_succ, i64_w, i32_w]
        rfl
      refine pure_ (i := 9) (N := some 20) (v := ?_) (a' := ?_) #[true, true, true, true, true, false, false, false, false, true, false, false, false, false, false, false, false] rfl rfl (by kernel_rfl) (fun _ _ _ h => h) (Or.inl ⟨by rfl, ?_⟩) ?_ ?_
      rotate_left
      · intro w'
        go_simp
        with_reducible rfl
      rotate_left
      · simp only [Act.put, List.setIfInBounds_toArray, List.set_cons_zero, List.set_cons_succ, i64_w, i32_w]
        rfl
      refine pure_ (i := 10) (N := some 21) (v := ?_) (a' := ?_) #[true, true, true, true, true, false, false, false, false, true, true, false, false, false, false, false, false] rfl rfl (by kernel_rfl) (fun _ _ _ h => h) (Or.inl ⟨by rfl, ?_⟩) ?_ ?_
      rotate_left
      · intro w'
        go_simp
        with_reducible rfl
      rotate_left
      · simp only [Act.put, List.setIfInBounds_toArray, List.set_cons_zero, List.set_cons_succ, i64_w, i32_w]
        rfl
      refine pure_ (i := 11) (N := some 22) (v := ?_) (a' := ?_) #[true, true, true, true, true, false, false, false, false, true, true, true, false, false, false, false, false] rfl rfl (by kernel_rfl) (fun _ _ _ h => h) (Or.inl ⟨by rfl, ?_⟩) ?_ ?_
      rotate_left
      · intro w'
        go_simp
        with_reducible rfl
      rotate_left
      · simp only [Act.put, List.setIfInBounds_toArray, List.set_cons_zero, List.set_cons_succ, i64_w, i32_w]
        rfl
      refine pure_ (i := 12) (N := some 23) (v := ?_) (a' := ?_) #[true, true, true, true, true, false, false, false, false, true, true, true, true, false, false, false, false] rfl rfl (by kernel_rfl) (fun _ _ _ h => h) (Or.inl ⟨by rfl, ?_⟩) ?_ ?_
      rotate_left
      · intro w'
        go_simp
        with_reducible rfl
      rotate_left
      · simp only [Act.put, List.setIfInBounds_toArray, List.set_cons_zero, List.set_cons_succ, i64_w, i32_w]
        rfl
      refine take_ (i := 5) (N := some 16) (v := ?_) (a' := ?_) #[true, true, true, true, true, true, false, false, false, true, true, true, true, false, false, false, false] rfl rfl (by kernel_rfl) (fun _ _ _ h => h) (Or.inl ⟨by rfl, ?_⟩) hHeld ?_ ?_
      rotate_left
      · rintro w' ⟨s0, s1⟩
        go_simp
        with_reducible rfl
      rotate_left
      · simp only [Act.put, List.setIfInBounds_toArray, List.set_cons_zero, List.set_cons_succ, i64_w, i32_w]
        rfl
      refine pure_ (i := 6) (N := some 17) (v := ?_) (a' := ?_) #[true, true, true, true, true, true, true, false, false, true, true, true, true, false, false, false, false] rfl rfl (by kernel_rfl) (fun _ _ _ h => h) (Or.inl ⟨by rfl, ?_⟩) ?_ ?_
      rotate_left
      · intro w'
        go_simp
        rw [EW.out]
        try with_reducible rfl
      rotate_left
      · simp only [Act.put, List.setIfInBounds_toArray, List.set_cons_zero, List.set_cons_succ, i64_w, i32_w]
        rfl
      refine take_ (i := 13) (N := some 24) (v := ?_) (a' := ?_) #[true, true, true, true, true, true, true, false, false, true, true, true, true, true, false, false, false] rfl rfl (by kernel_rfl) (fun _ _ _ h => h) (Or.inl ⟨by rfl, ?_⟩) hHeld ?_ ?_
      rotate_left
      · rintro w' ⟨s0, s1⟩
        go_simp
        with_reducible rfl
      rotate_left
      · simp only [Act.put, List.setIfInBounds_toArray, List.set_cons_zero, List.set_cons_succ, i64_w, i32_w]
        rfl
      refine one_ (i := 7) (N := some 18) #[true, true, true, true, true, true, true, true, false, true, true, true, true, true, false, false, false] rfl rfl (by kernel_rfl) (by decide) (fun K hK => ?_)
      refine goes_ Try.func82 (by kernel_rfl) rfl #[.int .i64 8, .int .u64 x] (by rfl) rfl rfl (by simp only [List.map_toArray, List.map_cons, List.map_nil]; rfl) ?_
      with_reducible refine (HPX.out wr.drew).mono ?_
      rintro e w5 ⟨rfl, hb5⟩
      refine ⟨_, rfl, ?_⟩
      have HB5 := Aside0.mk hb5
      have i0 := bel_cell hb5 hHeld.1
      have i1 := bel_cell hb5 hHeld.2
      clear hb5
      refine hK.out _ _ ⟨i0, i1⟩ (fun hHeld => ?_)
      clear hK K
      refine norm_ (a' := ?_) ?_ ?_
      rotate_left
      · show Act.put _ (some 18) _ = _
        simp only [Act.put, List.setIfInBounds_toArray, List.set_cons_zero, List.set_cons_succ, i64_w, i32_w]
        rfl
      refine pure_ (i := 8) (N := some 19) (v := ?_) (a' := ?_) #[true, true, true, true, true, true, true, true, true, true, true, true, true, true, false, false, false] rfl rfl (by kernel_rfl) (fun _ _ _ h => h) (Or.inl ⟨by rfl, ?_⟩) ?_ ?_
      rotate_left
      · intro w'
        go_simp
        rw [str_app]
        try with_reducible rfl
      rotate_left
      · simp only [Act.put, List.setIfInBounds_toArray, List.set_cons_zero, List.set_cons_succ, i64_w, i32_w]
        rfl
      refine one_ (i := 14) (N := some 25) #[true, true, true, true, true, true, true, true, true, true, true, true, true, true, true, false, false] rfl rfl (by kernel_rfl) (by decide) (fun K hK => ?_)
      refine goes_ Try.func82 (by kernel_rfl) rfl #[.int .i64 8, .int .u64 y] (by rfl) rfl rfl (by simp only [List.map_toArray, List.map_cons, List.map_nil]; rfl) ?_
      with_reducible refine (HPY.out w5).mono ?_
      rintro e w6 ⟨rfl, hb6⟩
      refine ⟨_, rfl, ?_⟩
      have HB6 := Aside0.mk (bel_step HB5.out hb6)
      have j0 := bel_cell hb6 i0
      have j1 := bel_cell hb6 i1
      clear hb6
      refine hK.out _ _ ⟨j0, j1⟩ (fun hHeld => ?_)
      clear hK K
      refine norm_ (a' := ?_) ?_ ?_
      rotate_left
      · show Act.put _ (some 25) _ = _
        simp only [Act.put, List.setIfInBounds_toArray, List.set_cons_zero, List.set_cons_succ, i64_w, i32_w]
        rfl
      refine pure_ (i := 15) (N := some 26) (v := ?_) (a' := ?_) #[true, true, true, true, true, true, true, true, true, true, true, true, true, true, true, true, false] rfl rfl (by kernel_rfl) (fun _ _ _ h => h) (Or.inl ⟨by rfl, ?_⟩) ?_ ?_
      rotate_left
      · intro w'
        go_simp
        rw [str_app]
        try with_reducible rfl
      rotate_left
      · simp only [Act.put, List.setIfInBounds_toArray, List.set_cons_zero, List.set_cons_succ, i64_w, i32_w]
        rfl
      refine pure_ (i := 16) (N := some 3) (v := ?_) (a' := ?_) #[true, true, true, true, true, true, true, true, true, true, true, true, true, true, true, true, true] rfl rfl (by kernel_rfl) (fun _ _ _ h => h) (Or.inl ⟨by rfl, ?_⟩) ?_ ?_
      rotate_left
      · intro w'
        go_simp
        with_reducible rfl
      rotate_left
      · simp only [Act.put, List.setIfInBounds_toArray, List.set_cons_zero, List.set_cons_succ, i64_w, i32_w]
        rfl
      refine done_ (by kernel_rfl) ?_
      go_wp2
      refine ⟨⟨t + 1, by omega, by go_num, by rw [HTK.out, List.append_assoc], ⟨bel_step HB.out.drew HB6.out⟩⟩, by simp [intOf]; omega⟩
    · obtain rfl : t = sets.length := by omega
      go_wp2
      go_ret
      exact ⟨by rw [List.take_of_length_le (Nat.le_refl _)]; rfl, HB.out⟩
set_option maxRecDepth 100000 in
set_option maxHeartbeats 2000000 in
theorem rrecord_calls (w : World) (A : Option Addr) (c : Nat) (sets : List SetT) (q : Int) (h : SetK.C w A sets.length sets) (hp : ∀ s ∈ sets, PosSt s) (hl : sets.length < 65536) (hq0 : 0 ≤ q) (hq : q < 4294967296) :
    Calls Try.prog 119 #[.int .i64 q, .slice A sets.length c] w fun e w' => e = .returned (.string (strOfNums (headL sets.length q (bodyL sets) ++ bodyL sets))) ∧ Below w.heap.size w w' := by
  have HC := Aside0.mk h
  have HBO := Aside0.mk (fun (W : World) (hW : Below w.heap.size w W) => rbody_calls W A c sets (Kd.C_below h hW) hp (by omega))
  have hbl : (bodyL sets).length ≤ 1600000 := by rw [bodyL_length]; omega
  have hcr := tI_lt (crcV 0#16 (hd6 sets.length q ++ bodyL sets))
  have HPN := Aside0.mk (fun (W : World) => rput2 W (x := (sets.length : Int)) (by omega) (by omega))
  have HPQ := Aside0.mk (fun (W : World) => rput4 W (x := q) hq0 hq)
  have HPC := Aside0.mk (fun (W : World) => rput2 W (x := crcI (hd6 sets.length q ++ bodyL sets)) hcr.1 hcr.2)
  have HMR := Aside0.mk (fun (W : World) => show Calls Try.prog 132 #[.int .i64 0, .string (strOfNums (hd6 sets.length q ++ bodyL sets))] W (fun e w' => e = .returned (.int .i64 (crcI (hd6 sets.length q ++ bodyL sets))) ∧ W = w') from by
    have hby : Bys (hd6 sets.length q ++ bodyL sets) := by
      intro x hx
      rcases List.mem_append.1 hx with hx | hx
      · rcases List.mem_append.1 hx with hx | hx
        · exact leB_bysq _ _ x hx
        · exact leB_bysq _ _ x hx
      · exact bodyL_bys _ x hx
    have := rMore_calls 0 (strOfNums (hd6 sets.length q ++ bodyL sets)) (by rw [strOfNums_size, List.length_append, hd6_length]; omega) W
    rw [bytes_str hby] at this
    exact this)
  have EN := u64_wrap_of (x := (sets.length : Int)) (by omega) (by omega)
  have EQ := u64_wrap_of (x := q) hq0 (by omega)
  have EC := u64_wrap_of (x := crcI (hd6 sets.length q ++ bodyL sets)) hcr.1 (by have := hcr.2; show tI _ < _; omega)
  have HH := Aside0.mk (show headL sets.length q (bodyL sets) = leB (sets.length : Int) 2 ++ leB q 4 ++ leB (crcI (hd6 sets.length q ++ bodyL sets)) 2 from rfl)
  have HD6 := Aside0.mk (show leB (sets.length : Int) 2 ++ leB q 4 ++ bodyL sets = hd6 sets.length q ++ bodyL sets from rfl)
  rw [HH.out]
  obtain ⟨C, hC⟩ : ∃ C, C = crcI (hd6 sets.length q ++ bodyL sets) := ⟨_, rfl⟩
  rw [← hC] at HPC HMR EC ⊢
  obtain ⟨L, hL⟩ : ∃ L, L = bodyL sets := ⟨_, rfl⟩
  rw [← hL] at HBO HMR HD6 hbl ⊢
  have z1 : (strOfNums (leB (sets.length : Int) 2)).size ≤ 2 := by rw [strOfNums_size, leB_length]; exact Nat.le_refl _
  have z2 : (strOfNums (leB q 4)).size ≤ 4 := by rw [strOfNums_size, leB_length]; exact Nat.le_refl _
  have z3 : (strOfNums L).size ≤ 1600000 := by rw [strOfNums_size]; exact hbl
  have z4 : (strOfNums (leB C 2)).size ≤ 2 := by rw [strOfNums_size, leB_length]; exact Nat.le_refl _
  have z5 : (strOfNums (leB (sets.length : Int) 2 ++ leB q 4)).size ≤ 6 := by rw [strOfNums_size, List.length_append, leB_length, leB_length]; exact Nat.le_refl _
  have z6 : (strOfNums (leB (sets.length : Int) 2 ++ leB q 4 ++ leB C 2)).size ≤ 8 := by rw [strOfNums_size, List.length_append, List.length_append, leB_length, leB_length, leB_length]; exact Nat.le_refl _
  clear h hp hcr hC hL HH
  go_enter Try.func119, Try.ntmps119
  go_wp2_with (first | (go_at_call 82; (first | ((with_reducible refine (HPN.out _).mono ?_); rintro e w1 ⟨rfl, hb⟩; have HB1 := Aside0.mk hb; clear hb) | ((with_reducible refine (HPQ.out _).mono ?_); rintro e w2 ⟨rfl, hb⟩; have HB2 := Aside0.mk (bel_step HB1.out hb); clear hb) | ((with_reducible refine (HPC.out _).mono ?_); rintro e w5 ⟨rfl, hb⟩; have HB5 := Aside0.mk (bel_step HB3.out hb); clear hb))) | (go_at_call 133; (first | ((with_reducible refine (HBO.out _ HB5.out).mono ?_); rintro e w6 ⟨rfl, hb⟩; have HB6 := Aside0.mk (bel_step HB5.out hb); clear hb) | ((with_reducible refine (HBO.out _ HB2.out).mono ?_); rintro e w3 ⟨rfl, hb⟩; have HB3 := Aside0.mk (bel_step HB2.out hb); clear hb))) | (go_at_call 132; (simp only [str_app]; rw [HD6.out]); ((with_reducible refine (HMR.out _).mono ?_); rintro e w4 ⟨rfl, rfl⟩)))
  go_ret
  exact ⟨by simp only [str_app, List.append_assoc]; rfl, HB6.out⟩
theorem rroom_calls (w : World) (a k : Int) (hk : 1 ≤ k ∧ k ≤ 8192) : Calls Try.prog 117 #[.agg #[.int .i64 a, .int .i64 k]] w fun e w' => e = .returned (.int .i64 ((k - 1) / 2)) ∧ Below w.heap.size w w' := by
  obtain ⟨h1, h2⟩ := hk
  have e1 : IntKind.i64.wrap (k - 1) = k - 1 := IntWalk.i64_in _ (by omega)
  have e2 : Int.tdiv (k - 1) 2 = (k - 1) / 2 := Int.tdiv_eq_ediv_of_nonneg (by omega)
  go_enter Try.func117, Try.ntmps117
  go_wp2
  go_ret
  exact ⟨rfl, below_alloc (Below.refl _ _) _⟩
theorem rinside_calls (w : World) (A : Option Addr) (n c : Nat) (a k : Int) (hn : n ≤ 8192) (ha : -9223372036854775808 ≤ a ∧ a ≤ 9223372036854775807) (hk : -9223372036854775808 ≤ k ∧ k ≤ 9223372036854775807) :
    Calls Try.prog 38 #[.slice A n c, .agg #[.int .i64 a, .int .i64 k]] w fun e w' => e = .returned (.int .i64 (inR n a k)) ∧ Below w.heap.size w w' := by
  have HR := Aside0.mk (show inR n a k = if k < 1 then 1 else if a < 0 then 30 else if (n : Int) < a then 30 else if (n : Int) - a < k then 30 else 0 from by
    unfold inR
    repeat' split
    all_goals first | rfl | (exfalso; omega))
  rw [HR.out]
  obtain ⟨ha0, ha1⟩ := ha
  obtain ⟨hk0, hk1⟩ := hk
  rcases (show k < 1 ∨ (¬ k < 1 ∧ a < 0) ∨ (¬ k < 1 ∧ ¬ a < 0 ∧ (n : Int) < a) ∨ (¬ k < 1 ∧ ¬ a < 0 ∧ ¬ (n : Int) < a ∧ (n : Int) - a < k) ∨ (¬ k < 1 ∧ ¬ a < 0 ∧ ¬ (n : Int) < a ∧ ¬ (n : Int) - a < k) by omega) with z1 | ⟨z1, z2⟩ | ⟨z1, z2, z3⟩ | ⟨z1, z2, z3, z4⟩ | ⟨z1, z2, z3, z4⟩
  · rw [if_pos z1]
    go_enter Try.func38, Try.ntmps38
    go_wp2
    go_ret
    exact ⟨rfl, below_alloc (Below.refl _ _) _⟩
  · rw [if_neg z1, if_pos z2]
    go_enter Try.func38, Try.ntmps38
    go_wp2
    go_ret
    exact ⟨rfl, below_alloc (Below.refl _ _) _⟩
  · rw [if_neg z1, if_neg z2, if_pos z3]
    go_enter Try.func38, Try.ntmps38
    go_wp2
    go_ret
    exact ⟨rfl, below_alloc (Below.refl _ _) _⟩
  · have e1 : IntKind.i64.wrap ((n : Int) - a) = n - a := IntWalk.i64_in _ (by omega)
    rw [if_neg z1, if_neg z2, if_neg z3, if_pos z4]
    go_enter Try.func38, Try.ntmps38
    go_wp2
    go_ret
    exact ⟨rfl, below_alloc (Below.refl _ _) _⟩
  · have e1 : IntKind.i64.wrap ((n : Int) - a) = n - a := IntWalk.i64_in _ (by omega)
    rw [if_neg z1, if_neg z2, if_neg z3, if_neg z4]
    go_enter Try.func38, Try.ntmps38
    go_wp2
    go_ret
    exact ⟨rfl, below_alloc (Below.refl _ _) _⟩
theorem rmay_calls (w : World) (A : Option Addr) (n c a k : Nat) (x y : Int) (hn : n ≤ 8192) (hak : a + k ≤ 8192) :
    Calls Try.prog 118 #[.slice A n c, .agg #[.int .i64 a, .int .i64 k], .agg #[.int .i64 x, .int .u64 y]] w fun e w' => e = .returned (.bool (mayB n a k x)) ∧ Below w.heap.size w w' := by
  have e1 : IntKind.i64.wrap ((a : Int) + k) = a + k := IntWalk.i64_in _ (by omega)
  rcases (show x < 0 ∨ (¬ x < 0 ∧ ¬ x < n) ∨ (¬ x < 0 ∧ x < n ∧ x < a) ∨ (¬ x < 0 ∧ x < n ∧ ¬ x < a ∧ x < (a : Int) + k) ∨ (¬ x < 0 ∧ x < n ∧ ¬ x < a ∧ ¬ x < (a : Int) + k) by omega) with z1 | ⟨z1, z2⟩ | ⟨z1, z2, z3⟩ | ⟨z1, z2, z3, z4⟩ | ⟨z1, z2, z3, z4⟩
  · have HE := Aside0.mk (show mayB n a k x = false from by rw [mayB]; exact decide_eq_false (by omega))
    rw [HE.out]
    go_enter Try.func118, Try.ntmps118
    go_wp2
    go_ret
    exact ⟨rfl, below_alloc (below_alloc (Below.refl _ _) _) _⟩
  · have HE := Aside0.mk (show mayB n a k x = false from by rw [mayB]; exact decide_eq_false (by omega))
    rw [HE.out]
    go_enter Try.func118, Try.ntmps118
    go_wp2
    go_ret
    exact ⟨rfl, below_alloc (below_alloc (Below.refl _ _) _) _⟩
  · have HE := Aside0.mk (show mayB n a k x = true from by rw [mayB]; exact decide_eq_true (by omega))
    rw [HE.out]
    go_enter Try.func118, Try.ntmps118
    go_wp2
    go_ret
    exact ⟨rfl, below_alloc (below_alloc (Below.refl _ _) _) _⟩
  · have HE := Aside0.mk (show mayB n a k x = false from by rw [mayB]; exact decide_eq_false (by omega))
    rw [HE.out]
    have d4 : decide ((a : Int) + k ≤ x) = false := decide_eq_false (by omega)
    go_enter Try.func118, Try.ntmps118
    go_wp2
    go_ret
    exact ⟨rfl, below_alloc (below_alloc (Below.refl _ _) _) _⟩
  · have HE := Aside0.mk (show mayB n a k x = true from by rw [mayB]; exact decide_eq_true (by omega))
    rw [HE.out]
    have d4 : decide ((a : Int) + k ≤ x) = true := decide_eq_true (by omega)
    go_enter Try.func118, Try.ntmps118
    go_wp2
    go_ret
    exact ⟨rfl, below_alloc (below_alloc (Below.refl _ _) _) _⟩
end Go.Proofs.Ytbfogcckbhkciaa.Hand
namespace Go.Proofs.Ytbfogcckbhkciaa.Hand
open Go.RowKit Go.Maps Go.Proofs.YtbfogcckbhkciaaW.PrintWords Go.Proofs.YtbfogcckbhkciaaW.PrintLast Go.Proofs.Ytbfogcckbhkciaa.PHandRP
set_option linter.unusedVariables false
set_option linter.unusedSimpArgs false
theorem leB_numR {x : List Int} (h : Bys x) {k : Nat} (hk : x.length = k) : leB (numL x) k = x := by
  refine numL_inj (leB_bysq _ _) h (by rw [leB_length, hk]) ?_
  rw [numL_leBq]
  refine Int.emod_eq_of_lt (numL_nonneg h) ?_
  have := numL_lt h
  rw [hk, pow256] at this
  exact this
theorem cut_addR (l : List Int) (a m n : Nat) : cut l a (m + n) = cut l a m ++ cut l (a + m) n := by rw [cut, cut, cut, List.take_add, List.drop_drop]
theorem str_midR (l : List Int) (a n : Nat) (i j : Int) (hi : i = a) (hj : j = a + n) (h : a + n ≤ l.length) (W : World) : (Instr.slice 9 (.string (strOfNums l)) (some (.int .i64 i)) (some (.int .i64 j)) none).run Try.prog W = .ok (.string (strOfNums (cut l a n))) W := by
  subst hi hj
  rw [run_slice_string W 9 (strOfNums l) .i64 .i64 (a : Int) ((a : Int) + n) Try.underlying9 (by omega) (by omega) (by rw [strOfNums_size]; omega), str_extract, show ((a : Int) + n).toNat = a + n by omega, Int.toNat_natCast, cut, List.drop_take, Nat.add_sub_cancel_left]
theorem str_toR (l : List Int) (a : Nat) (i : Int) (hi : i = a) (h : a ≤ l.length) (W : World) : (Instr.slice 9 (.string (strOfNums l)) none (some (.int .i64 i)) none).run Try.prog W = .ok (.string (strOfNums (l.take a))) W := by
  subst hi
  rw [run_slice_string_h W 9 (strOfNums l) Try.underlying9 .i64 (a : Int) (by omega) (by rw [strOfNums_size]; omega), str_extract]
  simp
/-- What stands behind a record's head, as it was read. -/
theorem bodyL_setsB {b : List Int} (hb : Bys b) : ∀ m, 8 + 16 * m ≤ b.length → bodyL (setsB b m) = cut b 8 (16 * m)
  | 0, _ => by simp [setsB, bodyL, cut]
  | m + 1, h => by
    rw [setsB_succ, bodyL_snoc, bodyL_setsB hb m (by omega), show 16 * (m + 1) = 16 * m + (8 + 8) by omega, cut_addR, cut_addR, List.append_assoc]
    rw [show leB (atB b m, nB b m).1 8 = cut b (8 + 16 * m) 8 from leB_numR (cut_bys hb _ _) (cut_length (by omega)), show leB (atB b m, nB b m).2 8 = cut b (8 + 16 * m + 8) 8 from by rw [show 8 + 16 * m + 8 = 16 + 16 * m by omega]; exact leB_numR (cut_bys hb _ _) (cut_length (by omega))]
theorem rec_same {b : List Int} (hb : Bys b) {m : Nat} (h : 8 + 16 * m ≤ b.length) {hd : List Int} (h8 : hd.length = 8) : (hd ++ bodyL (setsB b m) = b.take (8 + 16 * m)) ↔ hd = b.take 8 := by
  have e : b.take (8 + 16 * m) = b.take 8 ++ cut b 8 (16 * m) := by rw [cut, List.take_add]
  rw [bodyL_setsB hb m h, e]
  constructor
  · intro h1
    exact (List.append_inj h1 (by rw [h8, List.length_take]; omega)).1
  · intro h1
    rw [h1]
theorem rget_in (W : World) {l : List Int} (hb : Bys l) (hl : l.length ≤ 65536) (a k : Nat) (z : Int) (hz : z = a) (hk : k = 2 ∨ k = 4 ∨ k = 8) (h : a + k ≤ l.length) :
    Calls Try.prog 116 #[.string (strOfNums l), .int .i64 z, .int .i64 (k : Int)] W fun e w' => e = .returned (.tuple #[.int .u64 (numL (cut l a k)), .bool true]) ∧ W = w' := by
  subst hz
  have h1 : (rightB (k : Int) && insideB (a : Int) (k : Int) (strOfNums l).size) = true := by
    rw [strOfNums_size]
    rcases hk with rfl | rfl | rfl <;> (simp [rightB, insideB]; omega)
  have := rGet_yes (strOfNums l) a k W (by rw [strOfNums_size]; omega) h1
  rw [bytes_str hb, Int.toNat_natCast, Int.toNat_natCast] at this
  exact this
theorem info_rset : (Try.prog.info? 76).map (fun i => (i.zero, i.size, i.bytes)) = some (some (.agg #[.int .i64 0, .int .u64 0]), 2, 16) := by kernel_rfl
abbrev RowRt (W : World) (base : Nat) (v : Value) (l : List SetT) : Prop := SetK.R 76 W base (fun _ => True) v l
def RHasE (w : World) (r : Int × List SetT) (e : Ending) (w' : World) : Prop := ∃ v : Value, e = .returned (.tuple #[.int .i64 r.1, v]) ∧ RowRt w' w.heap.size v r.2 ∧ Below w.heap.size w w'
theorem rowRt_lower {W : World} {base base' : Nat} {v : Value} {l : List SetT} (h : RowRt W base v l) (hb : base' ≤ base) : RowRt W base' v l := Kd.R_lower h hb
set_option maxRecDepth 100000 in
set_option maxHeartbeats 4000000 in
theorem rhas_bad (w : World) (b0 n : Nat) (v : Value) (d : Dev) (a k : Nat) (hd : d.Ok) (hl : d.B.length = 8 * n) (h : RowV w b0 v d n) (h1 : 1 ≤ k) (hak : a + k ≤ n) (hbad : BadH k (cut d.B (8 * a) (8 * k))) : Calls Try.prog 80 #[v, .agg #[.int .i64 a, .int .i64 k]] w (RHasE w (0, [])) := by
  have hn : n ≤ 8192 := by have := hd.max; omega
  obtain ⟨A, c, rfl⟩ := Kd.V_slice h
  have HRB := Aside0.mk (fun (W : World) (hW : Below w.heap.size w W) => r3bytes_calls (Kd.V_below h hW) hl hn)
  rw [wdL_length] at HRB ⊢
  have hbl : (cut d.B (8 * a) (8 * k)).length = 8 * k := cut_length (by omega)
  have HBY := Aside0.mk (show Bys (cut d.B (8 * a) (8 * k)) from cut_bys hd.bys _ _)
  have hsl := fun (W : World) => str_midR d.B (8 * a) (8 * k) (8 * (a : Int)) (8 * ((a : Int) + k)) (by omega) (by omega) (by omega) W
  obtain ⟨b, hb⟩ : ∃ b, b = cut d.B (8 * a) (8 * k) := ⟨_, rfl⟩
  rw [← hb] at hbad HBY hbl hsl
  have m0 := num_lt HBY.out (a := 0) (m := 2) (by omega)
  have s0 := num_lt HBY.out (a := 2) (m := 4) (by omega)
  obtain ⟨M, hM⟩ : ∃ M, M = numL (cut b 0 2) := ⟨_, rfl⟩
  obtain ⟨Q, hQ⟩ : ∃ Q, Q = numL (cut b 2 4) := ⟨_, rfl⟩
  rw [← hM] at m0
  rw [← hQ] at s0
  have EW1 := Aside0.mk (show IntKind.i64.wrap (8 * (a : Int)) = 8 * a from IntWalk.i64_in _ (by omega))
  have EW2 := Aside0.mk (show IntKind.i64.wrap ((a : Int) + k) = a + k from IntWalk.i64_in _ (by omega))
  have EW3 := Aside0.mk (show IntKind.i64.wrap (8 * ((a : Int) + k)) = 8 * (a + k) from IntWalk.i64_in _ (by omega))
  have e3 : IntKind.i64.wrap M = M := IntWalk.i64_in _ (by omega)
  have HGM := Aside0.mk (fun (W : World) => show Calls Try.prog 116 #[.string (strOfNums b), .int .i64 0, .int .i64 2] W (fun e w' => e = .returned (.tuple #[.int .u64 M, .bool true]) ∧ W = w') from by rw [hM]; exact rget_in W HBY.out (by omega) 0 2 0 rfl (.inl rfl) (by omega))
  have HGQ := Aside0.mk (fun (W : World) => show Calls Try.prog 116 #[.string (strOfNums b), .int .i64 2, .int .i64 4] W (fun e w' => e = .returned (.tuple #[.int .u64 Q, .bool true]) ∧ W = w') from by rw [hQ]; exact rget_in W HBY.out (by omega) 2 4 2 rfl (.inr (.inl rfl)) (by omega))
  have hb3 : M = 0 ∨ (1 ≤ M ∧ Q = 0) ∨ (1 ≤ M ∧ 1 ≤ Q ∧ ((k : Int) - 1) / 2 < M) := by
    simp only [BadH, manyB, seqB, ← hM, ← hQ] at hbad
    omega
  have HRM := Aside0.mk (fun (W : World) => rroom_calls W a k (by omega))
  obtain ⟨r, hr⟩ : ∃ r : Int, r = ((k : Int) - 1) / 2 := ⟨_, rfl⟩
  rw [← hr] at hb3 HRM
  obtain ⟨wa, hwa⟩ : ∃ wa, wa = w.alloc (.cells #[.int .i64 a, .int .i64 k] 52) := ⟨_, rfl⟩
  have HNB := Aside0.mk (show wa.heap[w.heap.size]? = some (.cells #[.int .i64 a, .int .i64 k] 52 (0, 0)) from by rw [hwa]; exact heap_alloc_new w _)
  have c0 := blk_cell HNB.out (i := 0) rfl
  have c1 := blk_cell HNB.out (i := 1) rfl
  have HBA := Aside0.mk (show Below w.heap.size w wa from by rw [hwa]; exact below_alloc (Below.refl _ _) _)
  clear h hd hl hbad hM hQ hb hr hbl h1
  rcases hb3 with rfl | ⟨z1, rfl⟩ | ⟨z1, z2, z3⟩
  all_goals
    go_enter Try.func80, Try.ntmps80
    go_wp2_with fail
    rw [← hwa]
    clear hwa
    refine start_ (n := 13) (S := fun w' => w'.cell? ⟨w.heap.size, 0, none⟩ = some (.int .i64 a) ∧ w'.cell? ⟨w.heap.size, 1, none⟩ = some (.int .i64 k)) (ds := []) #[false, false, false, false, false, false, false, false, false, false, false, false, false] (by kernel_rfl) rfl rfl ⟨c0, c1⟩ (fun hHeld => ?_)
    refine pure_ (i := 0) (N := some 18) (v := ?_) (a' := ?_) #[true, false, false, false, false, false, false, false, false, false, false, false, false] rfl rfl (by kernel_rfl) (fun _ _ _ h => h) (Or.inl ⟨by rfl, ?_⟩) ?_ ?_
    rotate_left
    · intro w'
      go_simp
      with_reducible rfl
    rotate_left
    · simp only [Act.put, List.setIfInBounds_toArray, List.set_cons_zero, List.set_cons_succ, i64_w, i32_w]
      rfl
    refine pure_ (i := 2) (N := some 20) (v := ?_) (a' := ?_) #[true, false, true, false, false, false, false, false, false, false, false, false, false] rfl rfl (by kernel_rfl) (fun _ _ _ h => h) (Or.inl ⟨by rfl, ?_⟩) ?_ ?_
    rotate_left
    · intro w'
      go_simp
      with_reducible rfl
    rotate_left
    · simp only [Act.put, List.setIfInBounds_toArray, List.set_cons_zero, List.set_cons_succ, i64_w, i32_w]
      rfl
    refine pure_ (i := 5) (N := some 23) (v := ?_) (a' := ?_) #[true, false, true, false, false, true, false, false, false, false, false, false, false] rfl rfl (by kernel_rfl) (fun _ _ _ h => h) (Or.inl ⟨by rfl, ?_⟩) ?_ ?_
    rotate_left
    · intro w'
      go_simp
      with_reducible rfl
    rotate_left
    · simp only [Act.put, List.setIfInBounds_toArray, List.set_cons_zero, List.set_cons_succ, i64_w, i32_w]
      rfl
    refine pure_ (i := 7) (N := some 25) (v := ?_) (a' := ?_) #[true, false, true, false, false, true, false, true, false, false, false, false, false] rfl rfl (by kernel_rfl) (fun _ _ _ h => h) (Or.inl ⟨by rfl, ?_⟩) ?_ ?_
    rotate_left
    · intro w'
      go_simp
      with_reducible rfl
    rotate_left
    · simp only [Act.put, List.setIfInBounds_toArray, List.set_cons_zero, List.set_cons_succ, i64_w, i32_w]
      rfl
    refine take_ (i := 3) (N := some 21) (v := ?_) (a' := ?_) #[true, false, true, true, false, true, false, true, false, false, false, false, false] rfl rfl (by kernel_rfl) (fun _ _ _ h => h) (Or.inl ⟨by rfl, ?_⟩) hHeld ?_ ?_
    rotate_left
    · rintro w' ⟨s0, s1⟩
      go_simp
      with_reducible rfl
    rotate_left
    · simp only [Act.put, List.setIfInBounds_toArray, List.set_cons_zero, List.set_cons_succ, i64_w, i32_w]
      rfl
    refine pure_ (i := 4) (N := some 22) (v := ?_) (a' := ?_) #[true, false, true, true, true, true, false, true, false, false, false, false, false] rfl rfl (by kernel_rfl) (fun _ _ _ h => h) (Or.inl ⟨by rfl, ?_⟩) ?_ ?_
    rotate_left
    · intro w'
      go_simp
      rw [EW1.out]
      try with_reducible rfl
    rotate_left
    · simp only [Act.put, List.setIfInBounds_toArray, List.set_cons_zero, List.set_cons_succ, i64_w, i32_w]
      rfl
    refine take_ (i := 6) (N := some 24) (v := ?_) (a' := ?_) #[true, false, true, true, true, true, true, true, false, false, false, false, false] rfl rfl (by kernel_rfl) (fun _ _ _ h => h) (Or.inl ⟨by rfl, ?_⟩) hHeld ?_ ?_
    rotate_left
    · rintro w' ⟨s0, s1⟩
      go_simp
      with_reducible rfl
    rotate_left
    · simp only [Act.put, List.setIfInBounds_toArray, List.set_cons_zero, List.set_cons_succ, i64_w, i32_w]
      rfl
    refine take_ (i := 8) (N := some 26) (v := ?_) (a' := ?_) #[true, false, true, true, true, true, true, true, true, false, false, false, false] rfl rfl (by kernel_rfl) (fun _ _ _ h => h) (Or.inl ⟨by rfl, ?_⟩) hHeld ?_ ?_
    rotate_left
    · rintro w' ⟨s0, s1⟩
      go_simp
      with_reducible rfl
    rotate_left
    · simp only [Act.put, List.setIfInBounds_toArray, List.set_cons_zero, List.set_cons_succ, i64_w, i32_w]
      rfl
    refine pure_ (i := 9) (N := some 27) (v := ?_) (a' := ?_) #[true, false, true, true, true, true, true, true, true, true, false, false, false] rfl rfl (by kernel_rfl) (fun _ _ _ h => h) (Or.inl ⟨by rfl, ?_⟩) ?_ ?_
    rotate_left
    · intro w'
      go_simp
      rw [EW2.out]
      try with_reducible rfl
    rotate_left
    · simp only [Act.put, List.setIfInBounds_toArray, List.set_cons_zero, List.set_cons_succ, i64_w, i32_w]
      rfl
    refine pure_ (i := 10) (N := some 28) (v := ?_) (a' := ?_) #[true, false, true, true, true, true, true, true, true, true, true, false, false] rfl rfl (by kernel_rfl) (fun _ _ _ h => h) (Or.inl ⟨by rfl, ?_⟩) ?_ ?_
    rotate_left
    · intro w'
      go_simp
      rw [EW3.out]
      try with_reducible rfl
    rotate_left
    · simp only [Act.put, List.setIfInBounds_toArray, List.set_cons_zero, List.set_cons_succ, i64_w, i32_w]
      rfl
    refine one_ (i := 1) (N := some 19) #[true, true, true, true, true, true, true, true, true, true, true, false, false] rfl rfl (by kernel_rfl) (by decide) (fun K hK => ?_)
    refine goes_ Try.func59 (by kernel_rfl) rfl #[.slice A n c] (by rfl) rfl rfl (by simp only [List.map_toArray, List.map_cons, List.map_nil]; rfl) ?_
    with_reducible refine (HRB.out wa.drew HBA.out.drew).mono ?_
    rintro e w5 ⟨rfl, hb5⟩
    refine ⟨_, rfl, ?_⟩
    have HB5 := Aside0.mk (bel_step HBA.out.drew hb5.below)
    have i0 := bel_cell hb5.below hHeld.1
    have i1 := bel_cell hb5.below hHeld.2
    clear hb5
    refine hK.out _ _ ⟨i0, i1⟩ (fun hHeld => ?_)
    clear hK K
    refine norm_ (a' := ?_) ?_ ?_
    rotate_left
    · show Act.put _ (some 19) _ = _
      simp only [Act.put, List.setIfInBounds_toArray, List.set_cons_zero, List.set_cons_succ, i64_w, i32_w]
      rfl
    refine pure_ (i := 11) (N := some 29) (v := ?_) (a' := ?_) #[true, true, true, true, true, true, true, true, true, true, true, true, false] rfl rfl (by kernel_rfl) (fun _ _ _ h => h) (Or.inl ⟨by rfl, ?_⟩) ?_ ?_
    rotate_left
    · intro w'
      go_simp
      with_reducible rfl
    rotate_left
    · simp only [Act.put, List.setIfInBounds_toArray, List.set_cons_zero, List.set_cons_succ, i64_w, i32_w]
      rfl
    refine pure_ (i := 12) (N := some 6) (v := ?_) (a' := ?_) #[true, true, true, true, true, true, true, true, true, true, true, true, true] rfl rfl (by kernel_rfl) (fun _ _ _ h => h) (Or.inl ⟨by rfl, ?_⟩) ?_ ?_
    rotate_left
    · intro w'
      go_simp
      with_reducible rfl
    rotate_left
    · simp only [Act.put, List.setIfInBounds_toArray, List.set_cons_zero, List.set_cons_succ, i64_w, i32_w]
      rfl
    refine done_ (by kernel_rfl) ?_
    go_wp2_with (first | (go_at_call 116; (first | ((with_reducible refine (HGM.out _).mono ?_); rintro e w2 ⟨rfl, rfl⟩) | ((with_reducible refine (HGQ.out _).mono ?_); rintro e w3 ⟨rfl, rfl⟩))) | (go_at_call 117; ((with_reducible refine (HRM.out _).mono ?_); rintro e w4 ⟨rfl, hb⟩; have HB6 := Aside0.mk (bel_step HB5.out hb); clear hb)))
    go_ret2
    first
      | exact ⟨_, rfl, Kd.R_nil _ _ _ _ _, HB6.out⟩
      | exact ⟨_, rfl, Kd.R_nil _ _ _ _ _, HB5.out⟩
set_option maxRecDepth 100000 in
set_option maxHeartbeats 8000000 in
theorem rhas_go (w : World) (b0 n : Nat) (v : Value) (d : Dev) (a k : Nat) (hd : d.Ok) (hl : d.B.length = 8 * n) (h : RowV w b0 v d n) (h1 : 1 ≤ k) (hak : a + k ≤ n) (hgood : ¬ BadH k (cut d.B (8 * a) (8 * k))) : Calls Try.prog 80 #[v, .agg #[.int .i64 a, .int .i64 k]] w (RHasE w (recB n a k (cut d.B (8 * a) (8 * k)))) := by
  have hn : n ≤ 8192 := by have := hd.max; omega
  obtain ⟨A, c, rfl⟩ := Kd.V_slice h
  have HRB := Aside0.mk (fun (W : World) (hW : Below w.heap.size w W) => r3bytes_calls (Kd.V_below h hW) hl hn)
  rw [wdL_length] at HRB ⊢
  have hbl : (cut d.B (8 * a) (8 * k)).length = 8 * k := cut_length (by omega)
  have HBY := Aside0.mk (show Bys (cut d.B (8 * a) (8 * k)) from cut_bys hd.bys _ _)
  have hsl := fun (W : World) => str_midR d.B (8 * a) (8 * k) (8 * (a : Int)) (8 * ((a : Int) + k)) (by omega) (by omega) (by omega) W
  obtain ⟨b, hb⟩ : ∃ b, b = cut d.B (8 * a) (8 * k) := ⟨_, rfl⟩
  rw [← hb] at hgood HBY hbl hsl ⊢
  have m0 := num_lt HBY.out (a := 0) (m := 2) (by omega)
  have s0 := num_lt HBY.out (a := 2) (m := 4) (by omega)
  obtain ⟨M, hM⟩ : ∃ M, M = manyB b := ⟨_, rfl⟩
  obtain ⟨Q, hQ⟩ : ∃ Q, Q = seqB b := ⟨_, rfl⟩
  rw [show numL (cut b 0 2) = M from hM.symm] at m0
  rw [show numL (cut b 2 4) = Q from hQ.symm] at s0
  obtain ⟨m, hmm⟩ : ∃ m : Nat, M = m := ⟨M.toNat, by omega⟩
  subst hmm
  have EW1 := Aside0.mk (show IntKind.i64.wrap (8 * (a : Int)) = 8 * a from IntWalk.i64_in _ (by omega))
  have EW2 := Aside0.mk (show IntKind.i64.wrap ((a : Int) + k) = a + k from IntWalk.i64_in _ (by omega))
  have EW3 := Aside0.mk (show IntKind.i64.wrap (8 * ((a : Int) + k)) = 8 * (a + k) from IntWalk.i64_in _ (by omega))
  have e3 : IntKind.i64.wrap (m : Int) = m := IntWalk.i64_in _ (by omega)
  have e3q : IntKind.i64.wrap Q = Q := IntWalk.i64_in _ (by omega)
  have e3n : IntKind.u64.wrap (n : Int) = n := u64_wrap_of (by omega) (by omega)
  have hb3 : 1 ≤ (m : Int) ∧ (m : Int) ≤ ((k : Int) - 1) / 2 ∧ 1 ≤ Q := by
    simp only [BadH, ← hM, ← hQ] at hgood
    omega
  have HGM := Aside0.mk (fun (W : World) => show Calls Try.prog 116 #[.string (strOfNums b), .int .i64 0, .int .i64 2] W (fun e w' => e = .returned (.tuple #[.int .u64 m, .bool true]) ∧ W = w') from by rw [hM]; exact rget_in W HBY.out (by omega) 0 2 0 rfl (.inl rfl) (by omega))
  have HGQ := Aside0.mk (fun (W : World) => show Calls Try.prog 116 #[.string (strOfNums b), .int .i64 2, .int .i64 4] W (fun e w' => e = .returned (.tuple #[.int .u64 Q, .bool true]) ∧ W = w') from by rw [hQ]; exact rget_in W HBY.out (by omega) 2 4 2 rfl (.inr (.inl rfl)) (by omega))
  have HGA := Aside0.mk (fun (j : Nat) (hj : 8 + 16 * j + 8 ≤ b.length) (W : World) (z : Int) (hz : z = 8 + 16 * j) => show Calls Try.prog 116 #[.string (strOfNums b), .int .i64 z, .int .i64 8] W (fun e w' => e = .returned (.tuple #[.int .u64 (atB b j), .bool true]) ∧ W = w') from rget_in W HBY.out (by omega) (8 + 16 * j) 8 z (by omega) (.inr (.inr rfl)) (by omega))
  have HGN := Aside0.mk (fun (j : Nat) (hj : 16 + 16 * j + 8 ≤ b.length) (W : World) (z : Int) (hz : z = 16 + 16 * j) => show Calls Try.prog 116 #[.string (strOfNums b), .int .i64 z, .int .i64 8] W (fun e w' => e = .returned (.tuple #[.int .u64 (nB b j), .bool true]) ∧ W = w') from rget_in W HBY.out (by omega) (16 + 16 * j) 8 z (by omega) (.inr (.inr rfl)) (by omega))
  have HRM := Aside0.mk (fun (W : World) => rroom_calls W a k (by omega))
  obtain ⟨r, hr⟩ : ∃ r : Int, r = ((k : Int) - 1) / 2 := ⟨_, rfl⟩
  rw [← hr] at hb3 HRM
  have hrk : 2 * r + 1 ≤ k := by omega
  obtain ⟨z1, z2, z3⟩ := hb3
  have d1 : decide (r < (m : Int)) = false := decide_eq_false (by omega)
  have d2 : ((m : Int) == 0) = false := by rw [beq_eq_false_iff_ne]; omega
  have d2n : (m == 0) = false := by rw [beq_eq_false_iff_ne]; omega
  have d3 : (Q == 0) = false := by rw [beq_eq_false_iff_ne]; omega
  have HGD := Aside0.mk hgood
  have hmn : (manyB b).toNat = m := by rw [← hM]; rfl
  have HMY := Aside0.mk (fun (W : World) (x y : Int) => rmay_calls W A n c a k x y hn (by omega))
  have HFL := Aside0.mk (fun (j : Nat) (hj : j < m) (hf : okB n a k (atB b j) = false) => recB_fail HGD.out (by rw [hmn]; exact hj) hf)
  have HAL := Aside0.mk (fun (hf : ∀ j, j < m → okB n a k (atB b j) = true) => show recB n a k b = if headL m Q (bodyL (setsB b m)) = b.take 8 then (Q, setsB b m) else (0, []) from by rw [recB_all HGD.out (by rw [hmn]; exact hf), hmn, ← hM, ← hQ])
  have HPS := Aside0.mk (fun (hf : ∀ j, j < m → okB n a k (atB b j) = true) => posB HBY.out (m := m) (by omega) hf)
  have HBL := Aside0.mk hbl
  have hb9 : b.length ≤ 65536 := by omega
  have hmb : 8 + 16 * m ≤ b.length := by omega
  have hst := fun (W : World) => str_toR b (8 + 16 * m) (8 + 16 * (m : Int)) (by omega) hmb W
  have HSM := Aside0.mk (fun (hd : List Int) (h8 : hd.length = 8) => rec_same HBY.out hmb h8)
  obtain ⟨R, hR⟩ : ∃ R, R = recB n a k b := ⟨_, rfl⟩
  rw [← hR] at HFL HAL ⊢
  obtain ⟨wa, hwa⟩ : ∃ wa, wa = w.alloc (.cells #[.int .i64 a, .int .i64 k] 52) := ⟨_, rfl⟩
  have HNB := Aside0.mk (show wa.heap[w.heap.size]? = some (.cells #[.int .i64 a, .int .i64 k] 52 (0, 0)) from by rw [hwa]; exact heap_alloc_new w _)
  have c0 := blk_cell HNB.out (i := 0) rfl
  have c1 := blk_cell HNB.out (i := 1) rfl
  have HBA := Aside0.mk (show Below w.heap.size w wa from by rw [hwa]; exact below_alloc (Below.refl _ _) _)
  clear h hd hl hgood hM hQ hb hr hbl h1 hmn hR
  go_enter Try.func80, Try.ntmps80
  go_wp2_with fail
  rw [← hwa]
  clear hwa
  refine start_ (n := 13) (S := fun w' => w'.cell? ⟨w.heap.size, 0, none⟩ = some (.int .i64 a) ∧ w'.cell? ⟨w.heap.size, 1, none⟩ = some (.int .i64 k)) (ds := []) #[false, false, false, false, false, false, false, false, false, false, false, false, false] (by kernel_rfl) rfl rfl ⟨c0, c1⟩ (fun hHeld => ?_)
  refine pure_ (i := 0) (N := some 18) (v := ?_) (a' := ?_) #[true, false, false, false, false, false, false, false, false, false, false, false, false] rfl rfl (by kernel_rfl) (fun _ _ _ h => h) (Or.inl ⟨by rfl, ?_⟩) ?_ ?_
  rotate_left
  · intro w'
    go_simp
    with_reducible rfl
  rotate_left
  · simp only [Act.put, List.setIfInBounds_toArray, List.set_cons_zero, List.set_cons_succ, i64_w, i32_w]
    rfl
  refine pure_ (i := 2) (N := some 20) (v := ?_) (a' := ?_) #[true, false, true, false, false, false, false, false, false, false, false, false, false] rfl rfl (by kernel_rfl) (fun _ _ _ h => h) (Or.inl ⟨by rfl, ?_⟩) ?_ ?_
  rotate_left
  · intro w'
    go_simp
    with_reducible rfl
  rotate_left
  · simp only [Act.put, List.setIfInBounds_toArray, List.set_cons_zero, List.set_cons_succ, i64_w, i32_w]
    rfl
  refine pure_ (i := 5) (N := some 23) (v := ?_) (a' := ?_) #[true, false, true, false, false, true, false, false, false, false, false, false, false] rfl rfl (by kernel_rfl) (fun _ _ _ h => h) (Or.inl ⟨by rfl, ?_⟩) ?_ ?_
  rotate_left
  · intro w'
    go_simp
    with_reducible rfl
  rotate_left
  · simp only [Act.put, List.setIfInBounds_toArray, List.set_cons_zero, List.set_cons_succ, i64_w, i32_w]
    rfl
  refine pure_ (i := 7) (N := some 25) (v := ?_) (a' := ?_) #[true, false, true, false, false, true, false, true, false, false, false, false, false] rfl rfl (by kernel_rfl) (fun _ _ _ h => h) (Or.inl ⟨by rfl, ?_⟩) ?_ ?_
  rotate_left
  · intro w'
    go_simp
    with_reducible rfl
  rotate_left
  · simp only [Act.put, List.setIfInBounds_toArray, List.set_cons_zero, List.set_cons_succ, i64_w, i32_w]
    rfl
  refine take_ (i := 3) (N := some 21) (v := ?_) (a' := ?_) #[true, false, true, true, false, true, false, true, false, false, false, false, false] rfl rfl (by kernel_rfl) (fun _ _ _ h => h) (Or.inl ⟨by rfl, ?_⟩) hHeld ?_ ?_
  rotate_left
  · rintro w' ⟨s0, s1⟩
    go_simp
    with_reducible rfl
  rotate_left
  · simp only [Act.put, List.setIfInBounds_toArray, List.set_cons_zero, List.set_cons_succ, i64_w, i32_w]
    rfl
  refine pure_ (i := 4) (N := some 22) (v := ?_) (a' := ?_) #[true, false, true, true, true, true, false, true, false, false, false, false, false] rfl rfl (by kernel_rfl) (fun _ _ _ h => h) (Or.inl ⟨by rfl, ?_⟩) ?_ ?_
  rotate_left
  · intro w'
    go_simp
    rw [EW1.out]
    try with_reducible rfl
  rotate_left
  · simp only [Act.put, List.setIfInBounds_toArray, List.set_cons_zero, List.set_cons_succ, i64_w, i32_w]
    rfl
  refine take_ (i := 6) (N := some 24) (v := ?_) (a' := ?_) #[true, false, true, true, true, true, true, true, false, false, false, false, false] rfl rfl (by kernel_rfl) (fun _ _ _ h => h) (Or.inl ⟨by rfl, ?_⟩) hHeld ?_ ?_
  rotate_left
  · rintro w' ⟨s0, s1⟩
    go_simp
    with_reducible rfl
  rotate_left
  · simp only [Act.put, List.setIfInBounds_toArray, List.set_cons_zero, List.set_cons_succ, i64_w, i32_w]
    rfl
  refine take_ (i := 8) (N := some 26) (v := ?_) (a' := ?_) #[true, false, true, true, true, true, true, true, true, false, false, false, false] rfl rfl (by kernel_rfl) (fun _ _ _ h => h) (Or.inl ⟨by rfl, ?_⟩) hHeld ?_ ?_
  rotate_left
  · rintro w' ⟨s0, s1⟩
    go_simp
    with_reducible rfl
  rotate_left
  · simp only [Act.put, List.setIfInBounds_toArray, List.set_cons_zero, List.set_cons_succ, i64_w, i32_w]
    rfl
  refine pure_ (i := 9) (N := some 27) (v := ?_) (a' := ?_) #[true, false, true, true, true, true, true, true, true, true, false, false, false] rfl rfl (by kernel_rfl) (fun _ _ _ h => h) (Or.inl ⟨by rfl, ?_⟩) ?_ ?_
  rotate_left
  · intro w'
    go_simp
    rw [EW2.out]
    try with_reducible rfl
  rotate_left
  · simp only [Act.put, List.setIfInBounds_toArray, List.set_cons_zero, List.set_cons_succ, i64_w, i32_w]
    rfl
  refine pure_ (i := 10) (N := some 28) (v := ?_) (a' := ?_) #[true, false, true, true, true, true, true, true, true, true, true, false, false] rfl rfl (by kernel_rfl) (fun _ _ _ h => h) (Or.inl ⟨by rfl, ?_⟩) ?_ ?_
  rotate_left
  · intro w'
    go_simp
    rw [EW3.out]
    try with_reducible rfl
  rotate_left
  · simp only [Act.put, List.setIfInBounds_toArray, List.set_cons_zero, List.set_cons_succ, i64_w, i32_w]
    rfl
  refine one_ (i := 1) (N := some 19) #[true, true, true, true, true, true, true, true, true, true, true, false, false] rfl rfl (by kernel_rfl) (by decide) (fun K hK => ?_)
  refine goes_ Try.func59 (by kernel_rfl) rfl #[.slice A n c] (by rfl) rfl rfl (by simp only [List.map_toArray, List.map_cons, List.map_nil]; rfl) ?_
  with_reducible refine (HRB.out wa.drew HBA.out.drew).mono ?_
  rintro e w5 ⟨rfl, hb5⟩
  refine ⟨_, rfl, ?_⟩
  have HB5 := Aside0.mk (bel_step HBA.out.drew hb5.below)
  have i0 := bel_cell hb5.below hHeld.1
  have i1 := bel_cell hb5.below hHeld.2
  clear hb5
  refine hK.out _ _ ⟨i0, i1⟩ (fun hHeld => ?_)
  clear hK K
  refine norm_ (a' := ?_) ?_ ?_
  rotate_left
  · show Act.put _ (some 19) _ = _
    simp only [Act.put, List.setIfInBounds_toArray, List.set_cons_zero, List.set_cons_succ, i64_w, i32_w]
    rfl
  refine pure_ (i := 11) (N := some 29) (v := ?_) (a' := ?_) #[true, true, true, true, true, true, true, true, true, true, true, true, false] rfl rfl (by kernel_rfl) (fun _ _ _ h => h) (Or.inl ⟨by rfl, ?_⟩) ?_ ?_
  rotate_left
  · intro w'
    go_simp
    with_reducible rfl
  rotate_left
  · simp only [Act.put, List.setIfInBounds_toArray, List.set_cons_zero, List.set_cons_succ, i64_w, i32_w]
    rfl
  refine pure_ (i := 12) (N := some 6) (v := ?_) (a' := ?_) #[true, true, true, true, true, true, true, true, true, true, true, true, true] rfl rfl (by kernel_rfl) (fun _ _ _ h => h) (Or.inl ⟨by rfl, ?_⟩) ?_ ?_
  rotate_left
  · intro w'
    go_simp
    with_reducible rfl
  rotate_left
  · simp only [Act.put, List.setIfInBounds_toArray, List.set_cons_zero, List.set_cons_succ, i64_w, i32_w]
    rfl
  refine done_ (by kernel_rfl) ?_
  go_wp2_with (first | (go_at_call 116; (first | ((with_reducible refine (HGM.out _).mono ?_); rintro e w2 ⟨rfl, rfl⟩) | ((with_reducible refine (HGQ.out _).mono ?_); rintro e w3 ⟨rfl, rfl⟩))) | (go_at_call 117; ((with_reducible refine (HRM.out _).mono ?_); rintro e w4 ⟨rfl, hb⟩; have HB6 := Aside0.mk (bel_step HB5.out hb); have Q0 := Aside0.mk (bel_cell hb i0); have Q1 := Aside0.mk (bel_cell hb i1); have HW6 := Aside0.mk (Below.refl w4.heap.size w4); clear hb)))
  go_loopw [11, 12] (fun u i wr => ∃ j : Nat, j ≤ m ∧ i = .int .i64 j ∧ Aside0 (RowRt wr w4.heap.size u (setsB b j)) ∧ Aside0 (∀ t, t < j → okB n a k (atB b t) = true) ∧ Aside0 (Below w4.heap.size w4 wr)) (fun _ i _ => (m - intOf i).toNat)
  case atStart => exact ⟨0, Nat.zero_le _, rfl, ⟨Kd.R_nil _ _ _ _ _⟩, ⟨fun t ht => absurd ht (Nat.not_lt_zero _)⟩, HW6⟩
  case round =>
    obtain ⟨j, hj, rfl, HV, HO, HB⟩ := hrel
    have HBW := Aside0.mk (bel_step HB6.out HB.out)
    by_cases hlt : j < m
    · have e4 : IntKind.i64.wrap (16 * (j : Int)) = 16 * j := IntWalk.i64_in _ (by omega)
      have e5 : IntKind.i64.wrap (8 + 16 * (j : Int)) = 8 + 16 * j := IntWalk.i64_in _ (by omega)
      have e6 : IntKind.i64.wrap (16 + 16 * (j : Int)) = 16 + 16 * j := IntWalk.i64_in _ (by omega)
      have HA := Aside0.mk (HGA.out j (by omega))
      have HN := Aside0.mk (HGN.out j (by omega))
      have x0 := (num_lt HBY.out (a := 8 + 16 * j) (m := 8) (by omega)).1
      have HFJ := Aside0.mk (HFL.out j hlt)
      have HSU := Aside0.mk (setsB_succ b j)
      have HSL := Aside0.mk (setsB_length b j)
      have q0 := bel_cell HB.out Q0.out
      have q1 := bel_cell HB.out Q1.out
      obtain ⟨x, hx⟩ : ∃ x, x = atB b j := ⟨_, rfl⟩
      obtain ⟨y, hy⟩ : ∃ y, y = nB b j := ⟨_, rfl⟩
      rw [show numL (cut b (8 + 16 * j) 8) = x from hx.symm] at x0
      rw [← hx] at HA HFJ HSU
      rw [← hy] at HN HSU
      have HX := Aside0.mk hx
      clear hx hy
      obtain ⟨L, hL⟩ : ∃ L, L = setsB b j := ⟨_, rfl⟩
      rw [← hL] at HV HSU HSL
      clear hL
      rcases (show (n : Int) ≤ x ∨ (x < n ∧ mayB n a k x = false) ∨ (x < n ∧ mayB n a k x = true) by cases mayB n a k x <;> simp <;> omega) with z4 | ⟨z4, z5⟩ | ⟨z4, z5⟩
      · have HRE := Aside0.mk (HFJ.out (by rw [okB, mayB, Bool.and_eq_false_iff]; exact .inr (decide_eq_false (by omega))))
        go_wp2_with (go_at_call 116; (first | ((with_reducible refine (HA.out _ _ (by omega)).mono ?_); rintro e w5 ⟨rfl, rfl⟩) | ((with_reducible refine (HN.out _ _ (by omega)).mono ?_); rintro e w6 ⟨rfl, rfl⟩)))
        go_ret2
        rw [HRE.out]
        exact ⟨_, rfl, Kd.R_nil _ _ _ _ _, HBW.out⟩
      · have HRE := Aside0.mk (HFJ.out (by rw [okB, z5, Bool.and_false]))
        have e9 : IntKind.i64.wrap x = x := IntWalk.i64_in _ (by omega)
        go_wp2_with (first | (go_at_call 116; (first | ((with_reducible refine (HA.out _ _ (by omega)).mono ?_); rintro e w5 ⟨rfl, rfl⟩) | ((with_reducible refine (HN.out _ _ (by omega)).mono ?_); rintro e w6 ⟨rfl, rfl⟩))) | (go_at_call 118; ((with_reducible refine (HMY.out _ x y).mono ?_); rw [z5]; rintro e w7 ⟨rfl, hb7⟩; have HB7 := Aside0.mk (bel_step HBW.out hb7); clear hb7)))
        go_ret2
        rw [HRE.out]
        exact ⟨_, rfl, Kd.R_nil _ _ _ _ _, HB7.out⟩
      · have HOK := Aside0.mk (show okB n a k x = true by rw [okB, z5, decide_eq_true (by omega)]; rfl)
        have e9 : IntKind.i64.wrap x = x := IntWalk.i64_in _ (by omega)
        go_wp2_with (first | (go_at_call 116; (first | ((with_reducible refine (HA.out _ _ (by omega)).mono ?_); rintro e w5 ⟨rfl, rfl⟩) | ((with_reducible refine (HN.out _ _ (by omega)).mono ?_); rintro e w6 ⟨rfl, rfl⟩))) | (go_at_call 118; ((with_reducible refine (HMY.out _ x y).mono ?_); rw [z5]; rintro e w7 ⟨rfl, hb7⟩; have HB7 := Aside0.mk (bel_step HB.out hb7); have HV7 := Aside0.mk (Kd.R_below HV.out hb7); clear hb7)) | ((with_reducible refine gate_bi (b := .append) (xs := #[.tmp 90, .tmp 95]) rfl ?_); go_must (refine Kd.R_append SetK (w0 := w4) w4.heap.size rfl (.tmp 90) (.tmp 95) 70 76 (.agg #[.int .i64 0, .int .u64 0]) 16 rfl Try.underlying70 info_rset rfl (by decide) (by omega) _ L (x, y) [.int .i64 x, .int .u64 y] (fun _ => True) (fun _ => False) rfl rfl rfl (fun _ hk => hk.elim) (fun _ _ => trivial) HV7.out HB7.out HB7.out.size (by have := HSL.out; omega) ?_); intro v8 w8 hr8 hb8 hg8 hat8; have HV8 := Aside0.mk hr8; have HB8 := Aside0.mk hb8; clear hr8 hb8 hg8 hat8))
        go_roundw
        case rel =>
          refine ⟨j + 1, by omega, by go_num, ⟨by rw [HSU.out]; exact HV8.out⟩, ⟨fun t ht => ?_⟩, HB8⟩
          rcases Nat.lt_or_ge t j with h | h
          · exact HO.out t h
          · rw [show t = j by omega, ← HX.out]; exact HOK.out
        case measure => simp [intOf]; omega
    · obtain rfl : j = m := by omega
      have HRE := Aside0.mk (HAL.out HO.out)
      have HPP := Aside0.mk (HPS.out HO.out)
      have HVL := Aside0.mk (setsB_length b j)
      have HS8 := Aside0.mk (HSM.out (headL j Q (bodyL (setsB b j))) (headL_length _ _ _))
      obtain ⟨L, hL⟩ : ∃ L, L = setsB b j := ⟨_, rfl⟩
      rw [← hL] at HRE HPP HVL HV HS8
      clear hL
      obtain ⟨A5, c5, rfl, _, hC5⟩ := flat_reads HV.out
      have HRC := Aside0.mk (rrecord_calls wr A5 c5 L Q hC5 HPP.out (by have := HVL.out; omega) (by omega) (by omega))
      have hlx : (headL (L.length : Int) Q (bodyL L) ++ bodyL L).length = 8 + 16 * j := by rw [List.length_append, headL_length, bodyL_length, HVL.out]
      rw [HVL.out] at HRC hlx
      have HXB := Aside0.mk (show Bys (headL (j : Int) Q (bodyL L) ++ bodyL L) from fun x hx => (List.mem_append.1 hx).elim (headL_bys _ _ _ x) (bodyL_bys _ x))
      obtain ⟨hh, hhh⟩ : ∃ hh, hh = headL (j : Int) Q (bodyL L) := ⟨_, rfl⟩
      rw [← hhh] at HRE HRC HS8 hlx HXB
      obtain ⟨X, hX⟩ : ∃ X, X = hh ++ bodyL L := ⟨_, rfl⟩
      rw [← hX] at HRC HS8 hlx HXB
      have hsz : (strOfNums X).size = 8 + 16 * j := by rw [strOfNums_size, hlx]
      clear hC5 hhh hX
      by_cases heq : X = b.take (8 + 16 * j)
      · have hne : ((strOfNums (b.take (8 + 16 * j))).toList == (strOfNums X).toList) = true := by rw [heq]; simp
        have HRE2 := Aside0.mk (show R = (Q, L) by rw [HRE.out, if_pos (HS8.out.1 heq)])
        clear heq
        go_wp2_with (go_at_call 119; (rw [HVL.out]; (with_reducible refine HRC.out.mono ?_); rintro e w9 ⟨rfl, hb9⟩; have HB9 := Aside0.mk (bel_step HBW.out hb9); have HV9 := Aside0.mk (Kd.R_below HV.out hb9); clear hb9))
        go_ret2
        rw [HRE2.out]
        have hv9 := HV9.out
        rw [HVL.out] at hv9
        exact ⟨_, rfl, rowRt_lower hv9 HB6.out.size, HB9.out⟩
      · have hne : ((strOfNums (b.take (8 + 16 * j))).toList == (strOfNums X).toList) = false := by
          rw [beq_eq_false_iff_ne]
          intro e
          exact heq (str_inj (fun x hx => HBY.out x (List.mem_of_mem_take hx)) HXB.out (str_eqW e)).symm
        have HRE2 := Aside0.mk (show R = (0, []) by rw [HRE.out, if_neg (fun h => heq (HS8.out.2 h))])
        clear heq
        go_wp2_with (go_at_call 119; (rw [HVL.out]; (with_reducible refine HRC.out.mono ?_); rintro e w9 ⟨rfl, hb9⟩; have HB9 := Aside0.mk (bel_step HBW.out hb9); clear hb9))
        go_ret2
        rw [HRE2.out]
        exact ⟨_, rfl, Kd.R_nil _ _ _ _ _, HB9.out⟩
theorem rhas_calls (w : World) (b0 n : Nat) (v : Value) (d : Dev) (a k : Nat) (hd : d.Ok) (hl : d.B.length = 8 * n) (h : RowV w b0 v d n) (h1 : 1 ≤ k) (hak : a + k ≤ n) : Calls Try.prog 80 #[v, .agg #[.int .i64 a, .int .i64 k]] w (RHasE w (recD d a k)) := by
  rw [recD, hl, Nat.mul_div_cancel_left _ (by decide)]
  by_cases hb : BadH k (cut d.B (8 * a) (8 * k))
  · rw [recB, if_pos hb]
    exact rhas_bad w b0 n v d a k hd hl h h1 hak hb
  · exact rhas_go w b0 n v d a k hd hl h h1 hak hb
end Go.Proofs.Ytbfogcckbhkciaa.Hand
