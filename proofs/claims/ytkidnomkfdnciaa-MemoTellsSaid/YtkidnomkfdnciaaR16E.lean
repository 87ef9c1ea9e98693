/- The document's functions on memos: contracts (Same). -/
import Derived.Test.YtkidnomkfdnciaaR16A
import Derived.Test.YtkidnomkfdnciaaAllx1
namespace Go.Proofs.Ytkidnomkfdnciaa.All
open Go.RowKit Go.Proofs.YtkidnomkfdnciaaW.PrintWords Go.Proofs.YtkidnomkfdnciaaW.PrintLast Go.Proofs.YtkidnomkfdnciaaW.PrintMore
attribute [local go_sem] QR.Oq QR.Yq QR.Cls
attribute [local go_sem high] eqA48
set_option linter.unusedVariables false
set_option linter.unusedSimpArgs false
section
variable {w : World} {AN AG AP AN' AG' AP' : Option Addr} {cN cG cP cN' cG' cP' : Nat} {N N' : List S48} {G P G' P' : List Int}
theorem box22_new (w : World) (AN : Option Addr) (cN : Nat) (N : List S48) (AG : Option Addr) (cG : Nat) (G : List Int) (AP : Option Addr) (cP : Nat) (P : List Int) (AN' : Option Addr) (cN' : Nat) (N' : List S48) (AG' : Option Addr) (cG' : Nat) (G' : List Int) (AP' : Option Addr) (cP' : Nat) (P' : List Int) :
    MBox ((w.alloc (.cells #[.slice AN N.length cN, .slice AG G.length cG, .slice AP P.length cP] 38)).alloc (.cells #[.slice AN' N'.length cN', .slice AG' G'.length cG', .slice AP' P'.length cP'] 38)) w.heap.size AN cN N AG cG G AP cP P ∧ MBox ((w.alloc (.cells #[.slice AN N.length cN, .slice AG G.length cG, .slice AP P.length cP] 38)).alloc (.cells #[.slice AN' N'.length cN', .slice AG' G'.length cG', .slice AP' P'.length cP'] 38)) (w.heap.size + 1) AN' cN' N' AG' cG' G' AP' cP' P' ∧ Below w.heap.size w ((w.alloc (.cells #[.slice AN N.length cN, .slice AG G.length cG, .slice AP P.length cP] 38)).alloc (.cells #[.slice AN' N'.length cN', .slice AG' G'.length cG', .slice AP' P'.length cP'] 38)) := by
  refine ⟨(box_new w AN cN N AG cG G AP cP P).below (below_alloc (Below.refl _ _) _), ?_, below_alloc (below_alloc (Below.refl _ _) _) _⟩
  have := box_new (w.alloc (.cells #[.slice AN N.length cN, .slice AG G.length cG, .slice AP P.length cP] 38)) AN' cN' N' AG' cG' G' AP' cP' P'
  rw [alloc_size1] at this
  exact this
/-! ### Same -/
set_option maxHeartbeats 8000000 in
set_option maxRecDepth 100000 in
theorem rsame_no (h : MemoAt w AN cN N AG cG G AP cP P) (h' : MemoAt w AN' cN' N' AG' cG' G' AP' cP' P') (hno : N.length ≠ N'.length ∨ N.length = N'.length ∧ G.length ≠ G'.length) :
    Calls Try.prog 49 #[.agg #[.slice AN N.length cN, .slice AG G.length cG, .slice AP P.length cP], .agg #[.slice AN' N'.length cN', .slice AG' G'.length cG', .slice AP' P'.length cP']] w fun e w' => e = .returned (.bool false) ∧ Below w.heap.size w w' := by
  have m1 := h.n.2.1
  have m2 := h.g.2.1
  have m3 := h'.n.2.1
  have m4 := h'.g.2.1
  clear h h'
  rcases hno with h1 | ⟨h1, h2⟩
  · have e1 : ((N.length : Int) != (N'.length : Int)) = true := by rw [bne_iff_ne]; omega
    go_enter Try.func49, Try.ntmps49
    go_wp2
    go_ret
    exact ⟨rfl, below_alloc (below_alloc (Below.refl _ _) _) _⟩
  · have e1 : ((N.length : Int) != (N'.length : Int)) = false := by rw [bne_eq_false_iff_eq]; omega
    have e2 : ((G.length : Int) != (G'.length : Int)) = true := by rw [bne_iff_ne]; omega
    clear h1
    go_enter Try.func49, Try.ntmps49
    go_wp2
    go_ret
    exact ⟨rfl, below_alloc (below_alloc (Below.refl _ _) _) _⟩
set_option maxHeartbeats 16000000 in
set_option maxRecDepth 100000 in
theorem rsame_yes (h : MemoAt w AN cN N AG cG G AP cP P) (h' : MemoAt w AN' cN' N' AG' cG' G' AP' cP' P') (h1 : N.length = N'.length) (h2 : G.length = G'.length) (hp : P.length ≤ 4611686018427387904) (hp' : P'.length ≤ 4611686018427387904) :
    Calls Try.prog 49 #[.agg #[.slice AN N.length cN, .slice AG G.length cG, .slice AP P.length cP], .agg #[.slice AN' N'.length cN', .slice AG' G'.length cG', .slice AP' P'.length cP']] w fun e w' => e = .returned (.bool (sameM N G P N' G' P')) ∧ Below w.heap.size w w' := by
  obtain ⟨hx, hy, hb⟩ := box22_new w AN cN N AG cG G AP cP P AN' cN' N' AG' cG' G' AP' cP' P'
  have m1 := h.n.2.1
  have m2 := h.g.2.1
  have HX := Aside0.mk hx
  have HY := Aside0.mk hy
  have HB := Aside0.mk hb
  have HH := Aside0.mk (h.below hb)
  have HH' := Aside0.mk (h'.below hb)
  have H1 := Aside0.mk h1
  have H2 := Aside0.mk h2
  have e1 : ((N.length : Int) != (N'.length : Int)) = false := by rw [bne_eq_false_iff_eq]; omega
  have e2 : ((G.length : Int) != (G'.length : Int)) = false := by rw [bne_eq_false_iff_eq]; omega
  have HC := Aside0.mk (fun (W : World) (h : MemoAt W AN cN N AG cG G AP cP P) (h' : MemoAt W AN' cN' N' AG' cG' G' AP' cP' P') => same15_at h.p h.pc h'.p h'.pc hp hp')
  obtain ⟨v, hv⟩ : ∃ v, v = sameM N G P N' G' P' := ⟨_, rfl⟩
  rw [← hv]
  have HV := Aside0.mk hv
  obtain ⟨sp, hsp⟩ : ∃ s, s = sameB P P' := ⟨_, rfl⟩
  rw [← hsp] at HC
  have HSP := Aside0.mk hsp
  clear h h' h1 h2 hx hy hb hv hsp hp hp'
  go_enter Try.func49, Try.ntmps49
  go_wp2
  go_loopw [5] (fun i wr => ∃ k : Nat, k ≤ N.length ∧ i = .int .i64 k ∧ Aside0 (∀ q, q < k → N.getD q z48 = N'.getD q z48) ∧ Aside0 (Below ((w.alloc (.cells #[.slice AN N.length cN, .slice AG G.length cG, .slice AP P.length cP] 38)).alloc (.cells #[.slice AN' N'.length cN', .slice AG' G'.length cG', .slice AP' P'.length cP'] 38)).heap.size ((w.alloc (.cells #[.slice AN N.length cN, .slice AG G.length cG, .slice AP P.length cP] 38)).alloc (.cells #[.slice AN' N'.length cN', .slice AG' G'.length cG', .slice AP' P'.length cP'] 38)) wr)) (fun i _ => N.length - (intOf i).toNat)
  case atStart => exact ⟨0, Nat.zero_le _, rfl, ⟨fun q hq => absurd hq (Nat.not_lt_zero _)⟩, ⟨Below.refl _ _⟩⟩
  case round =>
    obtain ⟨k, hk, rfl, HQ, HL⟩ := hrel
    obtain ⟨hc0, hc1, hc2⟩ := (HX.out.below HL.out).cells
    obtain ⟨hd0, hd1, hd2⟩ := (HY.out.below HL.out).cells
    by_cases hlt : k < N.length
    · obtain ⟨ad, eA, he0, he1, he2, he3⟩ := at_T48 (HH.out.below HL.out).n (k : Int) (by omega) (by omega)
      subst eA
      obtain ⟨bd, eB, hf0, hf1, hf2, hf3⟩ := at_T48 (HH'.out.below HL.out).n (k : Int) (by omega) (by have := H1.out; omega)
      subst eB
      obtain ⟨x, hx⟩ : ∃ x, x = N.getD k z48 := ⟨_, rfl⟩
      obtain ⟨y, hy⟩ : ∃ x, x = N'.getD k z48 := ⟨_, rfl⟩
      rw [Int.toNat_natCast, show rd_T48 N (k : Int) = x from by rw [hx]; simp [rd_T48]] at he0 he1 he2 he3
      rw [Int.toNat_natCast, show rd_T48 N' (k : Int) = y from by rw [hy]; simp [rd_T48]] at hf0 hf1 hf2 hf3
      have HXX := Aside0.mk hx
      have HYY := Aside0.mk hy
      have l0 : (k : Int) < N'.length := by have := H1.out; omega
      clear hx hy
      go_wp2
      have p0 := fun d os => cell_regrown hc0 d os
      have p1 := fun d os => cell_regrown hd0 d os
      have q0 := fun d os => cell_regrown he0 d os
      have q1 := fun d os => cell_regrown he1 d os
      have q2 := fun d os => cell_regrown he2 d os
      have q3 := fun d os => cell_regrown he3 d os
      have r0 := fun d os => cell_regrown hf0 d os
      have r1 := fun d os => cell_regrown hf1 d os
      have r2 := fun d os => cell_regrown hf2 d os
      have r3 := fun d os => cell_regrown hf3 d os
      by_cases hxy : x = y
      · have HQN := Aside0.mk (show ∀ q, q < k + 1 → N.getD q z48 = N'.getD q z48 from fun q hq => by
          by_cases e : q < k
          · exact HQ.out q e
          · obtain rfl : q = k := by omega
            rw [← HXX.out, ← HYY.out, hxy])
        subst hxy
        refine QR.region_all (by first | assumption | kernel_rfl) (by kernel_rfl) ?_
        repeat (refine QR.txt_step (fun K hK => ?_); have HK := Aside0.mk hK; clear hK; go_simp; first | (refine HK.out _ ?_; clear HK K) | (apply Exists.intro; refine ⟨fun _ => ?_, HK.out _ ?_⟩; (fail); clear HK K))
        refine QR.txt_nil ?_
        intro w2 hw2
        have HW := Aside0.mk (HL.out.trans (hw2.below.mono HL.out.size))
        clear hw2 p0 p1 q0 q1 q2 q3 r0 r1 r2 r3
        go_wp2
        go_roundw
        case rel => exact ⟨k + 1, by omega, by go_num, HQN, HW⟩
        case measure => simp [intOf]; omega
      · have HVF := Aside0.mk (show v = false by
          rw [HV.out]; unfold sameM
          rw [decide_eq_false (fun e => hxy (by rw [HXX.out, HYY.out, e])), Bool.false_and])
        have eb : ((x.f0 == y.f0) && ((x.f1 == y.f1) && ((x.f2 == y.f2) && (x.f3 == y.f3)))) = false := by rw [eq48]; exact decide_eq_false hxy
        clear hxy
        refine QR.region_all (by first | assumption | kernel_rfl) (by kernel_rfl) ?_
        repeat (refine QR.txt_step (fun K hK => ?_); have HK := Aside0.mk hK; clear hK; go_simp; first | (refine HK.out _ ?_; clear HK K) | (apply Exists.intro; refine ⟨fun _ => ?_, HK.out _ ?_⟩; (fail); clear HK K))
        refine QR.txt_nil ?_
        intro w2 hw2
        have HW := Aside0.mk (HL.out.trans (hw2.below.mono HL.out.size))
        clear hw2 p0 p1 q0 q1 q2 q3 r0 r1 r2 r3 eb
        go_wp2
        go_ret
        exact ⟨by rw [HVF.out]; rfl, below_then HB.out HB.out.size HW.out⟩
    · obtain rfl : k = N.length := by omega
      have HN := Aside0.mk (show N = N' from List.ext_getElem H1.out fun i a b => by
        have := HQ.out i a
        rwa [List.getD_eq_getElem?_getD, List.getElem?_eq_getElem a, List.getD_eq_getElem?_getD, List.getElem?_eq_getElem b] at this)
      obtain ⟨wo, hwo⟩ : ∃ wo : World, wo = wr := ⟨_, rfl⟩
      rw [← hwo] at HL hc0 hc1 hc2 hd0 hd1 hd2 ⊢
      clear hwo
      go_wp2
      clear hc0 hc1 hc2 hd0 hd1 hd2
      go_loopw [6] (fun i wi => ∃ k : Nat, k ≤ G.length ∧ i = .int .i64 k ∧ Aside0 (∀ q, q < k → G.getD q 0 = G'.getD q 0) ∧ Aside0 (Below ((w.alloc (.cells #[.slice AN N.length cN, .slice AG G.length cG, .slice AP P.length cP] 38)).alloc (.cells #[.slice AN' N'.length cN', .slice AG' G'.length cG', .slice AP' P'.length cP'] 38)).heap.size ((w.alloc (.cells #[.slice AN N.length cN, .slice AG G.length cG, .slice AP P.length cP] 38)).alloc (.cells #[.slice AN' N'.length cN', .slice AG' G'.length cG', .slice AP' P'.length cP'] 38)) wi)) (fun i _ => G.length - (intOf i).toNat)
      case atStart => exact ⟨0, Nat.zero_le _, rfl, ⟨fun q hq => absurd hq (Nat.not_lt_zero _)⟩, HL⟩
      case round =>
        obtain ⟨k, hk, rfl, HQ, HM⟩ := hrel
        obtain ⟨hc0, hc1, hc2⟩ := (HX.out.below HM.out).cells
        obtain ⟨hd0, hd1, hd2⟩ := (HY.out.below HM.out).cells
        by_cases hlt : k < G.length
        · obtain ⟨ag, eA, hg⟩ := Kd.at_int (HH.out.below HM.out).g (k : Int) (by omega) (by omega)
          subst eA
          obtain ⟨bg, eB, hg'⟩ := Kd.at_int (HH'.out.below HM.out).g (k : Int) (by omega) (by have := H2.out; omega)
          subst eB
          obtain ⟨x, hx⟩ : ∃ x, x = rd G (k : Int) := ⟨_, rfl⟩
          obtain ⟨y, hy⟩ : ∃ x, x = rd G' (k : Int) := ⟨_, rfl⟩
          rw [← hx, Int.toNat_natCast] at hg
          rw [← hy, Int.toNat_natCast] at hg'
          have HXX := Aside0.mk (show x = G.getD k 0 by rw [hx, rd, Int.toNat_natCast])
          have HYY := Aside0.mk (show y = G'.getD k 0 by rw [hy, rd, Int.toNat_natCast])
          have l0 : (0 : Int) ≤ (k : Int) := by omega
          have l1 : (k : Int) < G.length := by omega
          have l2 : (k : Int) < G'.length := by have := H2.out; omega
          clear hx hy
          go_wp2
          have p0 := fun d os => cell_regrown hc1 d os
          have p1 := fun d os => cell_regrown hd1 d os
          have q0 := fun d os => cell_regrown hg d os
          have q1 := fun d os => cell_regrown hg' d os
          by_cases hxy : x = y
          · have HQN := Aside0.mk (show ∀ q, q < k + 1 → G.getD q 0 = G'.getD q 0 from fun q hq => by
              by_cases e : q < k
              · exact HQ.out q e
              · obtain rfl : q = k := by omega
                rw [← HXX.out, ← HYY.out, hxy])
            have eb : (x != y) = false := bne_eq_false_iff_eq.mpr hxy
            clear hxy
            refine QR.region_all (by first | assumption | kernel_rfl) (by kernel_rfl) ?_
            repeat (refine QR.txt_step (fun K hK => ?_); have HK := Aside0.mk hK; clear hK; go_simp; first | (refine HK.out _ ?_; clear HK K) | (apply Exists.intro; refine ⟨fun _ => ?_, HK.out _ ?_⟩; (fail); clear HK K))
            refine QR.txt_nil ?_
            intro w2 hw2
            have HW := Aside0.mk (HM.out.trans (hw2.below.mono HM.out.size))
            clear hw2 p0 p1 q0 q1
            go_wp2
            go_roundw
            case rel => exact ⟨k + 1, by omega, by go_num, HQN, HW⟩
            case measure => simp [intOf]; omega
          · have HVF := Aside0.mk (show v = false by
              rw [HV.out]; unfold sameM
              rw [decide_eq_false (fun (e : G = G') => hxy (by rw [HXX.out, HYY.out, e])), Bool.false_and, Bool.and_false])
            have eb : (x != y) = true := bne_iff_ne.mpr hxy
            clear hxy
            refine QR.region_all (by first | assumption | kernel_rfl) (by kernel_rfl) ?_
            repeat (refine QR.txt_step (fun K hK => ?_); have HK := Aside0.mk hK; clear hK; go_simp; first | (refine HK.out _ ?_; clear HK K) | (apply Exists.intro; refine ⟨fun _ => ?_, HK.out _ ?_⟩; (fail); clear HK K))
            refine QR.txt_nil ?_
            intro w2 hw2
            have HW := Aside0.mk (HM.out.trans (hw2.below.mono HM.out.size))
            clear hw2 p0 p1 q0 q1
            go_wp2
            go_ret
            exact ⟨by rw [HVF.out]; rfl, below_then HB.out HB.out.size HW.out⟩
        · obtain rfl : k = G.length := by omega
          have HG := Aside0.mk (show G = G' from List.ext_getElem H2.out fun i a b => by
            have := HQ.out i a
            rwa [List.getD_eq_getElem?_getD, List.getElem?_eq_getElem a, List.getD_eq_getElem?_getD, List.getElem?_eq_getElem b] at this)
          have HVT := Aside0.mk (show v = sp by
            rw [HV.out]; unfold sameM
            rw [decide_eq_true HN.out, decide_eq_true HG.out, HSP.out]; rfl)
          go_wp2_with (go_at_call 37; refine (HC.out _ (HH.out.below HM.out) (HH'.out.below HM.out)).mono ?_; rintro e w3 ⟨rfl, hb3⟩; have HB3 := Aside0.mk (HM.out.trans (hb3.mono HM.out.size)); clear hb3)
          go_ret
          exact ⟨by rw [HVT.out]; rfl, below_then HB.out HB.out.size HB3.out⟩
theorem rsame_at (h : MemoAt w AN cN N AG cG G AP cP P) (h' : MemoAt w AN' cN' N' AG' cG' G' AP' cP' P') (hp : P.length ≤ 4611686018427387904) (hp' : P'.length ≤ 4611686018427387904) :
    Calls Try.prog 49 #[.agg #[.slice AN N.length cN, .slice AG G.length cG, .slice AP P.length cP], .agg #[.slice AN' N'.length cN', .slice AG' G'.length cG', .slice AP' P'.length cP']] w fun e w' => e = .returned (.bool (sameM N G P N' G' P')) ∧ Below w.heap.size w w' := by
  by_cases h1 : N.length = N'.length
  · by_cases h2 : G.length = G'.length
    · exact rsame_yes h h' h1 h2 hp hp'
    · have e : sameM N G P N' G' P' = false := by
        unfold sameM
        rw [decide_eq_false (fun (e : G = G') => h2 (by rw [e])), Bool.false_and, Bool.and_false]
      rw [e]; exact rsame_no h h' (.inr ⟨h1, h2⟩)
  · have e : sameM N G P N' G' P' = false := by
      unfold sameM
      rw [decide_eq_false (fun (e : N = N') => h1 (by rw [e])), Bool.false_and]
    rw [e]; exact rsame_no h h' (.inl h1)
end
end Go.Proofs.Ytkidnomkfdnciaa.All
