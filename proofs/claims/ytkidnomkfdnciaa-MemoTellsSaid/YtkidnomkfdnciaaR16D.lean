/- The document's functions on memos: contracts (Merge). -/
import Derived.Test.YtkidnomkfdnciaaR16C
import Derived.Deep.LoopGhost
namespace Go.Proofs.Ytkidnomkfdnciaa.All
open Go.RowKit Go.Proofs.YtkidnomkfdnciaaW.PrintWords Go.Proofs.YtkidnomkfdnciaaW.PrintLast Go.Proofs.YtkidnomkfdnciaaW.PrintMore
attribute [local go_sem] QR.Oq QR.Yq QR.Cls
set_option linter.unusedVariables false
set_option linter.unusedSimpArgs false
section
variable {w : World} {A AN AG AP : Option Addr} {c cN cG cP : Nat} {p : List Int} {N : List S48} {G P : List Int}
theorem tell_k (p : List Int) (a b : Int) (k : Nat) (hp : p.length ≤ 4611686018427387904) (hk : 2 * p.length + 2 < k) : tellJoin.f k p a b = some (joinS p a b) := by
  unfold tellJoin.f joinS
  rw [find15_k p a k (by omega) (by omega), find15_k p b k (by omega) (by omega), Option.bind_some, Option.bind_some]
  have hpos : ∀ c, ¬ findS p c < 0 ↔ findS p c ≠ -1 := by
    intro c
    rcases findS_cases p c with ⟨h, _⟩ | ⟨_, _, _, h⟩ <;> rw [h] <;> omega
  by_cases h1 : findS p a = -1
  · rw [if_pos h1, if_pos (by omega)]
  · rw [if_neg h1, if_neg ((hpos a).2 h1)]
    by_cases h2 : findS p b = -1
    · rw [if_pos h2, if_pos (by omega)]
    · rw [if_neg h2, if_neg ((hpos b).2 h2), roots15_k p k (by omega) (by omega), Option.bind_some]
      have hm := (findS_nonneg h1).2
      rw [if_pos (by rw [rootsS_length p hm]; exact mayB_len hm)]
      congr 2
      apply List.map_congr_left
      intro r _
      unfold tellM
      by_cases c1 : r = max (findS p a) (findS p b)
      · rw [if_pos c1, if_pos (by omega)]; split <;> omega
      · rw [if_neg c1]
        by_cases c2 : r = findS p a ∨ r = findS p b
        · rw [if_pos c2]; split <;> omega
        · rw [if_neg c2]
theorem join15_hand (a b : Int) (h : Kd.C (Kd.int .i64) w A p.length p) (hc : p.length ≤ c) (hp : p.length ≤ 4611686018427387904) :
    Calls Try.prog 30 #[.slice A p.length c, .int .i64 a, .int .i64 b] w fun e w' => ∃ A' c', e = .returned (.tuple #[.slice A' (joinS p a b).1.length c', .bool (joinS p a b).2]) ∧ (joinS p a b).1.length ≤ c' ∧ Kd.C (Kd.int .i64) w' A' (joinS p a b).1.length (joinS p a b).1 ∧ Hand w.heap.size A p A' (joinS p a b).1 ∧ Below w.heap.size w w' :=
  tellJoin.hand (2 * p.length + 3) A c p a b _ _ w h hc (tell_k p a b _ hp (by omega))
/-! ### Merge -/
theorem merge_open (hf : formB N G P = true) {k : Nat} {R : List Int} (h : (match confS N G P with
    | none => some P
    | some (a, b) => mergeO N G k P a b) = some R) : ((openS N G P).1 = -1 ∧ P = R) ∨ (inB P (openS N G P).1 = true ∧ inB P (openS N G P).2 = true ∧ mergeO N G k P (openS N G P).1 (openS N G P).2 = some R) := by
  unfold openS
  cases hc : confS N G P with
  | none => rw [hc] at h; exact .inl ⟨rfl, Option.some.inj h⟩
  | some xy =>
    obtain ⟨x, y⟩ := xy
    rw [hc] at h
    have := conf_some hf hc
    exact .inr ⟨this.1, this.2.1, h⟩
set_option maxHeartbeats 8000000 in
set_option maxRecDepth 100000 in
theorem rmerge_no (a b : Int) (h : MemoAt w AN cN N AG cG G AP cP P) (hno : mayMB N G P = false ∨ mayMB N G P = true ∧ (a < 0 ∨ 0 ≤ a ∧ (b < 0 ∨ 0 ≤ b ∧ ((P.length : Int) ≤ a ∨ a < (P.length : Int) ∧ (P.length : Int) ≤ b)))) :
    Calls Try.prog 50 #[.agg #[.slice AN N.length cN, .slice AG G.length cG, .slice AP P.length cP], .int .i64 a, .int .i64 b] w fun e w' => e = .returned (.tuple #[.agg #[.slice AN N.length cN, .slice AG G.length cG, .slice AP P.length cP], .int .i64 (-1), .int .i64 1]) ∧ Below w.heap.size w w' := by
  obtain ⟨hx, hz, hb⟩ := res_new w AN cN N AG cG G AP cP P
  have HB := Aside0.mk hb
  have HX := Aside0.mk hx
  have HZ := Aside0.mk hz
  have HM := Aside0.mk (rmay_at (h.below hb))
  have HG := Aside0.mk (show w.heap.size ≤ w.heap.size + 1 by omega)
  clear h hb hx hz
  obtain ⟨vm, hvm⟩ : ∃ v, v = mayMB N G P := ⟨_, rfl⟩
  rw [← hvm] at HM hno
  clear hvm
  rcases hno with rfl | ⟨rfl, h1 | ⟨h1, h2 | ⟨h2, h3 | ⟨h3, h4⟩⟩⟩⟩
  all_goals
    try have l1 : ¬ a < 0 := by omega
    try have l2 : ¬ b < 0 := by omega
    try have l3 : ¬ (P.length : Int) ≤ a := by omega
    go_enter Try.func50, Try.ntmps50
    go_wp2_with (go_at_call 52; refine HM.out.mono ?_; rintro e w1 ⟨rfl, hb1⟩; have HB1 := Aside0.mk hb1; obtain ⟨ha0, ha1, ha2⟩ := (HX.out.below hb1).cells; obtain ⟨hy0, hy1, hy2, hf0, hf1, hf2⟩ := bk3 (blk_below HZ.out hb1); clear hb1)
    exact bodyPost_ret (results_ctt rfl _ _ (w.heap.size + 1) 38 #[.slice AN N.length cN, .slice AG G.length cG, .slice AP P.length cP] (0, 0) _ rfl (kP (blk_below HZ.out HB1.out)) Try.underlying38 rfl (by kernel_rfl)) rfl ⟨rfl, below_set (below_set (below_set (below_then HB.out HB.out.size HB1.out) HG.out) HG.out) HG.out⟩
/-- A row of whole numbers that is read does not lie where a slice lies. -/
theorem C_set_int {W : World} {n : Nat} {xs : List Int} {q : Addr} {x v : Value} (h : Kd.C (Kd.int .i64) W A n xs) (hq : W.cell? q = some x) (hx : ∀ z, x ≠ .int .i64 z) : Kd.C (Kd.int .i64) (W.setCell q v) A n xs := by
  obtain ⟨h1, h2, h3⟩ := h
  refine ⟨h1, h2, fun hn => ?_⟩
  obtain ⟨ad, e, hc⟩ := h3 hn
  refine ⟨ad, e, fun j y hj => ?_⟩
  obtain ⟨cs, hl, hK, hcell⟩ := hc j y hj
  refine ⟨cs, hl, hK, fun i u hi => ?_⟩
  have hu := hcell i u hi
  have hne : q ≠ ad.add (j * (Kd.int .i64).sz + i) := fun e => by
    rw [← e, hq] at hu
    obtain rfl := Option.some.inj hu
    have hK : cs = [.int .i64 y] := hK
    subst hK
    cases i with
    | zero => simp at hi; exact hx y hi.symm
    | succ i => simp at hi
  simp only [World.cell?_setCell_other, hne, ne_eq, not_false_eq_true, hu]
/-- What holds at each round: the box of m, with the sets as they are. -/
structure RMerge (AP : Option Addr) (P : List Int) (w W : World) (AN : Option Addr) (cN : Nat) (N : List S48) (AG : Option Addr) (cG : Nat) (G : List Int) (A : Option Addr) (c : Nat) (Q : List Int) : Prop where
  bel : Below w.heap.size w W
  box : MBox W w.heap.size AN cN N AG cG G A c Q
  res : W.heap[w.heap.size + 1]? = some (.cells #[.slice none 0 0, .slice none 0 0, .slice none 0 0] 38 (0, 0))
  q : Kd.C (Kd.int .i64) W A Q.length Q
  qc : Q.length ≤ c
  form : formB N G Q = true
  hd : Hand w.heap.size AP P A Q
theorem RMerge.at_ {W : World} {Q : List Int} (h : RMerge AP P w W AN cN N AG cG G A c Q) (h0 : MemoAt w AN cN N AG cG G AP cP P) : MemoAt W AN cN N AG cG G A c Q :=
  ⟨Kd.C_below h0.n h.bel, h0.nc, Kd.C_below h0.g h.bel, h0.gc, h.q, h.qc⟩
theorem RMerge.below {W W' : World} {Q : List Int} (h : RMerge AP P w W AN cN N AG cG G A c Q) (hb : Below W.heap.size W W') : RMerge AP P w W' AN cN N AG cG G A c Q :=
  ⟨below_then h.bel h.bel.size hb, h.box.below hb, blk_below h.res hb, Kd.C_below h.q hb, h.qc, h.form, h.hd⟩
/-- New sets are stored. -/
theorem RMerge.put {W : World} {Q Q' : List Int} {A' : Option Addr} {c' : Nat} (h : RMerge AP P w W AN cN N AG cG G A c Q) (hr : Kd.C (Kd.int .i64) W A' Q'.length Q') (hc : Q'.length ≤ c') (hf : formB N G Q' = true) (hh : Hand w.heap.size AP P A' Q') :
    RMerge AP P w (W.setCell ⟨w.heap.size, 2, none⟩ (.slice A' Q'.length c')) AN cN N AG cG G A' c' Q' :=
  ⟨below_set h.bel (Nat.le_refl _), blk_put h.box 2 _ rfl, (Below.heap_setCell _ _ _ _ (Nat.succ_ne_self _)).trans h.res, C_set_int hr h.box.cells.2.2 (fun z e => by cases e), hc, hf, hh⟩
/-- The result's cells are written at last. -/
theorem RMerge.last {W : World} {Q : List Int} (h : RMerge AP P w W AN cN N AG cG G A c Q) (h0 : MemoAt w AN cN N AG cG G AP cP P) :
    MemoAt (((W.setCell ⟨w.heap.size + 1, 0, none⟩ (.slice AN N.length cN)).setCell ⟨w.heap.size + 1, 1, none⟩ (.slice AG G.length cG)).setCell ⟨w.heap.size + 1, 2, none⟩ (.slice A Q.length c)) AN cN N AG cG G A c Q ∧
    Below w.heap.size w (((W.setCell ⟨w.heap.size + 1, 0, none⟩ (.slice AN N.length cN)).setCell ⟨w.heap.size + 1, 1, none⟩ (.slice AG G.length cG)).setCell ⟨w.heap.size + 1, 2, none⟩ (.slice A Q.length c)) := by
  have hb : Below w.heap.size w (((W.setCell ⟨w.heap.size + 1, 0, none⟩ (.slice AN N.length cN)).setCell ⟨w.heap.size + 1, 1, none⟩ (.slice AG G.length cG)).setCell ⟨w.heap.size + 1, 2, none⟩ (.slice A Q.length c)) := below_set (below_set (below_set h.bel (Nat.le_succ _)) (Nat.le_succ _)) (Nat.le_succ _)
  have t1 := blk_put h.res 0 (.slice AN N.length cN) rfl
  have t2 := blk_put t1 1 (.slice AG G.length cG) rfl
  refine ⟨⟨Kd.C_below h0.n hb, h0.nc, Kd.C_below h0.g hb, h0.gc, ?_, h.qc⟩, hb⟩
  exact C_set_int (C_set_int (C_set_int h.q ((blk_cell h.res 0).trans rfl) (fun z e => by cases e)) ((blk_cell t1 1).trans rfl) (fun z e => by cases e)) ((blk_cell t2 2).trans rfl) (fun z e => by cases e)
set_option maxHeartbeats 16000000 in
set_option maxRecDepth 100000 in
theorem rmerge_yes (a b : Int) {k : Nat} {Res : List Int} (h : MemoAt w AN cN N AG cG G AP cP P) (h1 : mayMB N G P = true) (h2 : inB P a = true) (h3 : inB P b = true) (hres : mergeO N G k P a b = some Res) :
    Calls Try.prog 50 #[.agg #[.slice AN N.length cN, .slice AG G.length cG, .slice AP P.length cP], .int .i64 a, .int .i64 b] w fun e w' => ∃ A c, e = .returned (.tuple #[.agg #[.slice AN N.length cN, .slice AG G.length cG, .slice A Res.length c], .int .i64 (findS Res a), .int .i64 0]) ∧ MemoAt w' AN cN N AG cG G A c Res ∧ Hand w.heap.size AP P A Res ∧ Below w.heap.size w w' := by
  obtain ⟨hx, hz, hb⟩ := res_new w AN cN N AG cG G AP cP P
  have hI : RMerge AP P w _ AN cN N AG cG G AP cP P := ⟨hb, hx, hz, Kd.C_below h.p hb, h.pc, may_form h1, Hand.refl _ _ _⟩
  have HI := Aside0.mk hI
  have HB := Aside0.mk hb
  have HM := Aside0.mk (rmay_at (h.below hb))
  rw [h1] at HM
  have HH := Aside0.mk h
  have HL := Aside0.mk (may_lenP h1)
  have a2 := inB_iff.1 h2
  have b2 := inB_iff.1 h3
  have l1 : ¬ a < 0 := by omega
  have l2 : ¬ b < 0 := by omega
  have l3 : ¬ (P.length : Int) ≤ a := by omega
  have l4 : ¬ (P.length : Int) ≤ b := by omega
  have HIn := Aside0.mk (And.intro h2 h3)
  have HRes := Aside0.mk hres
  clear h h1 h2 h3 hb hx hz hI hres a2 b2
  go_enter Try.func50, Try.ntmps50
  go_wp2_with (go_at_call 52; refine HM.out.mono ?_; rintro e w1 ⟨rfl, hb1⟩; have HI1 := Aside0.mk (HI.out.below hb1); obtain ⟨ha0, ha1, ha2⟩ := HI1.out.box.cells; clear hb1)
  clear ha0 ha1 ha2
  go_loopg [10, 11] k (fun gk v10 v11 wr => ∃ (x y : Int) (Q : List Int) (A2 : Option Addr) (c2 : Nat), v10 = .int .i64 x ∧ v11 = .int .i64 y ∧ Aside0 (RMerge AP P w wr AN cN N AG cG G A2 c2 Q) ∧ Aside0 (Q.length = P.length) ∧ Aside0 ((x = -1 ∧ Q = Res) ∨ (inB Q x = true ∧ inB Q y = true ∧ mergeO N G gk Q x y = some Res)))
  case atStart => exact ⟨a, b, P, AP, cP, rfl, rfl, HI1, ⟨rfl⟩, ⟨.inr ⟨HIn.out.1, HIn.out.2, HRes.out⟩⟩⟩
  case round =>
    obtain ⟨x, y, Q, A2, c2, rfl, rfl, HJ, HQ, HC⟩ := hrel
    obtain ⟨hc0, hc1, hc2⟩ := HJ.out.box.cells
    rcases HC.out with ⟨rfl, rfl⟩ | ⟨hx, hy, hm⟩
    · go_wp2
      have p0 := fun d os => cell_regrown hc0 d os
      have p1 := fun d os => cell_regrown hc1 d os
      have p2 := fun d os => cell_regrown hc2 d os
      have cF := fun d os => QR.bel (rfind_at a ((HJ.out.at_ HH.out).below (below_regrown wr d os)))
      refine QR.region 4 (by first | assumption | kernel_rfl) (by kernel_rfl) ?_
      simp only [List.take_succ_cons, List.take_zero, List.drop_succ_cons, List.drop_zero]
      repeat (refine QR.txt_step (fun K hK => ?_); have HK := Aside0.mk hK; clear hK; go_simp; first | (refine HK.out _ ?_; clear HK K) | (apply Exists.intro; refine ⟨fun _ => ?_, HK.out _ ?_⟩; (with_reducible exact cF _ _); clear HK K))
      refine QR.txt_nil ?_
      intro w5 hw5
      have HJ5 := Aside0.mk (HJ.out.below hw5.below)
      clear p0 p1 p2 cF hw5 hc0 hc1 hc2
      obtain ⟨hy0, hy1, hy2, hf0, hf1, hf2⟩ := bk3 HJ5.out.res
      go_wp2
      have hlast := HJ5.out.last HH.out
      exact bodyPost_ret (results_ctt rfl _ _ (w.heap.size + 1) 38 #[.slice AN N.length cN, .slice AG G.length cG, .slice A2 Q.length c2] (0, 0) _ rfl (kP HJ5.out.res) Try.underlying38 rfl (by kernel_rfl)) rfl ⟨_, _, rfl, hlast.1, HJ5.out.hd, hlast.2⟩
    · cases gk with
      | zero => cases hm
      | succ gk =>
        have x2 := inB_iff.1 hx
        have y2 := inB_iff.1 hy
        have hmQ := (formB_parts HJ.out.form).1
        have hJo := inB_joined hmQ hx hy
        have hje := joined_eq hJo
        have hjl := joined_length hJo
        have hjm := joined_may hJo
        unfold mergeO at hm
        obtain ⟨Q', hQ'⟩ : ∃ Q', Q' = joinP Q x y := ⟨_, rfl⟩
        have HJC := Aside0.mk (join15_hand x y HJ.out.q HJ.out.qc (by have := HL.out; have := HQ.out; omega))
        rw [hje] at hm HJC
        rw [← hQ'] at hm HJC hjl hjm
        dsimp only at hm HJC
        have hf' : formB N G Q' = true := form_same HJ.out.form hjm hjl
        have HF := Aside0.mk hf'
        have HQ2 := Aside0.mk (hjl.trans HQ.out)
        have HMO := Aside0.mk (merge_open (P := Q') hf' hm)
        obtain ⟨⟨o1, o2⟩, ho⟩ : ∃ o, o = openS N G Q' := ⟨_, rfl⟩
        have HO := Aside0.mk (fun (W : World) (A : Option Addr) (c : Nat) (h : MemoAt W AN cN N AG cG G A c Q') => ropen_at h hf')
        rw [← ho] at HO HMO
        have l0 : 0 ≤ x := x2.1
        clear hx hy x2 y2 hmQ hJo hje hjl hjm hm hf' ho hQ'
        go_wp2_with (first | (go_at_call 30; refine HJC.out.mono ?_; rintro e w2 ⟨A', c', rfl, hlc, hr, hh, hb2⟩; have HJ2 := Aside0.mk (HJ.out.below hb2); have HP := Aside0.mk (HJ2.out.put hr hlc HF.out (HJ.out.hd.trans (hh.mono HJ.out.bel.size))); obtain ⟨hd0, hd1, hd2, hg0, hg1, hg2⟩ := bk3 HJ2.out.box; obtain ⟨he0, he1, he2⟩ := HP.out.box.cells; clear hb2 hr hh) | (go_at_call 82; refine (HO.out _ _ _ (HP.out.at_ HH.out)).mono ?_; rintro e w3 ⟨rfl, hb3⟩; have HP3 := Aside0.mk (HP.out.below hb3); clear hb3))
        go_roundg gk
        case rel => exact ⟨o1, o2, Q', A', c', rfl, rfl, HP3, HQ2, HMO⟩
        case measure => omega
theorem rmerge_hand (a b : Int) (h : MemoAt w AN cN N AG cG G AP cP P) :
    Calls Try.prog 50 #[.agg #[.slice AN N.length cN, .slice AG G.length cG, .slice AP P.length cP], .int .i64 a, .int .i64 b] w fun e w' => ∃ A c, e = .returned (.tuple #[.agg #[.slice AN N.length cN, .slice AG G.length cG, .slice A (mergeT N G P a b).1.length c], .int .i64 (mergeT N G P a b).2.1, .int .i64 (mergeT N G P a b).2.2]) ∧ MemoAt w' AN cN N AG cG G A c (mergeT N G P a b).1 ∧ Hand w.heap.size AP P A (mergeT N G P a b).1 ∧ Below w.heap.size w w' := by
  by_cases hc : (mayMB N G P && (inB P a && inB P b)) = true
  · simp only [Bool.and_eq_true] at hc
    have hM : Mer N G P a b := ⟨hc.1, hc.2.1, hc.2.2⟩
    rw [hM.eq]
    exact rmerge_yes a b h hc.1 hc.2.1 hc.2.2 (mergeO_k (may_form hc.1) hc.2.1 hc.2.2 (Nat.le_refl 401))
  · have e : mergeT N G P a b = (P, -1, 1) := by unfold mergeT; rw [if_neg hc]
    rw [e]
    have hno : mayMB N G P = false ∨ mayMB N G P = true ∧ (a < 0 ∨ 0 ≤ a ∧ (b < 0 ∨ 0 ≤ b ∧ ((P.length : Int) ≤ a ∨ a < (P.length : Int) ∧ (P.length : Int) ≤ b))) := by
      cases hm : mayMB N G P with
      | false => exact .inl rfl
      | true =>
        refine .inr ⟨rfl, ?_⟩
        rw [hm, Bool.true_and] at hc
        simp only [Bool.and_eq_true, inB_iff] at hc
        omega
    exact (rmerge_no a b h hno).mono fun e w' ⟨he, hb⟩ => ⟨_, _, he, h.below hb, Hand.refl _ _ _, hb⟩
theorem rmerge_at (a b : Int) (h : MemoAt w AN cN N AG cG G AP cP P) :
    Calls Try.prog 50 #[.agg #[.slice AN N.length cN, .slice AG G.length cG, .slice AP P.length cP], .int .i64 a, .int .i64 b] w fun e w' => ∃ A c, e = .returned (.tuple #[.agg #[.slice AN N.length cN, .slice AG G.length cG, .slice A (mergeT N G P a b).1.length c], .int .i64 (mergeT N G P a b).2.1, .int .i64 (mergeT N G P a b).2.2]) ∧ MemoAt w' AN cN N AG cG G A c (mergeT N G P a b).1 ∧ Below w.heap.size w w' :=
  (rmerge_hand a b h).mono fun e w' ⟨A, c, he, hm, _, hb⟩ => ⟨A, c, he, hm, hb⟩
end
end Go.Proofs.Ytkidnomkfdnciaa.All
