/- Functions of the program as plain Lean functions, and proofs that the calls do what these say; written for this claim by a program of the session (wip/tools/mkprint.py), checked by Lean. -/
import Derived.Test.YtkidnomkfdnciaaSets2
import Derived.Lib.QuietBelow
import Derived.Test.YtkidnomkfdnciaaAllx0
import Derived.Test.YtkidnomkfdnciaaAllx4
import Derived.Test.YtkidnomkfdnciaaAllx9
import Derived.Test.YtkidnomkfdnciaaAllx10
import Derived.Test.YtkidnomkfdnciaaAllx15
import Derived.Test.YtkidnomkfdnciaaAllx17
namespace Go.Proofs.Ytkidnomkfdnciaa.All
open Go.RowKit Go.Proofs.YtkidnomkfdnciaaW.PrintWords Go.Proofs.YtkidnomkfdnciaaW.PrintLast Go.Proofs.YtkidnomkfdnciaaW.PrintMore
attribute [local go_sem] max2_int min2_int max_two min_two max_three min_three max_four min_four   -- for this text's walks alone
set_option linter.unusedVariables false
set_option linter.unusedSimpArgs false

/-! ### memo_Of: function 43 -/
/- stands on memo_May.f, memo_Canon.f, memo_Find.f, memo_Look.f, sets_May.f -/
/-- Which nodes Of tells: of the group's set, and the first of their Canon. -/
def ofB (N : List S48) (G P : List Int) (g : Int) (i : Nat) : Bool := decide (findS P (G.getD i 0) = findS P g) && decide (posN (canonsS N P) ((canonsS N P).getD i z48) N.length = some i)
def ofL (N : List S48) (G P : List Int) (g : Int) (k : Nat) : List Int := ((List.range k).filter (ofB N G P g)).map (fun i : Nat => (i : Int))
def ofS (N : List S48) (G P : List Int) (g : Int) : List Int := if mayMB N G P = true then (if findS P g = -1 then [] else ofL N G P g N.length) else []
theorem ofL_succ (N : List S48) (G P : List Int) (g : Int) (k : Nat) : ofL N G P g (k + 1) = if ofB N G P g k = true then ofL N G P g k ++ [(k : Int)] else ofL N G P g k := by
  unfold ofL
  rw [List.range_succ, List.filter_append]
  by_cases h : ofB N G P g k = true
  · rw [if_pos h, List.filter_cons_of_pos (by exact h)]; simp
  · rw [if_neg h, List.filter_cons_of_neg (by exact h)]; simp
theorem ofL_length (N : List S48) (G P : List Int) (g : Int) (k : Nat) : (ofL N G P g k).length ≤ k := by
  unfold ofL
  rw [List.length_map]
  exact Nat.le_trans (List.length_filter_le _ _) (by simp)
theorem posN_self (cs : List S48) : ∀ (n k : Nat), k < n → (posN cs (cs.getD k z48) n).isSome = true
  | 0, k, h => by omega
  | n + 1, k, h => by
    unfold posN
    cases hp : posN cs (cs.getD k z48) n with
    | some j => rfl
    | none =>
      simp only
      by_cases he : k = n
      · subst he; rw [if_pos rfl]; rfl
      · have := posN_self cs n k (by omega)
        rw [hp] at this
        cases this
set_option maxHeartbeats 8000000 in
set_option maxRecDepth 100000 in
theorem Of_no {w : World} {AN AG AP : Option Addr} {cN cG cP : Nat} {N : List S48} {G P : List Int} (g : Int) (h : MemoAt w AN cN N AG cG G AP cP P) (hno : mayMB N G P = false ∨ mayMB N G P = true ∧ findS P g = -1) :
    Calls Try.prog 43 #[.agg #[.slice AN N.length cN, .slice AG G.length cG, .slice AP P.length cP], .int .i64 g] w fun e w' => ∃ v0_ : Value, e = .returned v0_ ∧ Kd.R (Kd.int .i64) 3 w' w.heap.size (fun _ => True) v0_ [] ∧ Below w.heap.size w w' := by
  have hb := box_new w AN cN N AG cG G AP cP P
  have hbb : Below w.heap.size w (w.alloc (.cells #[.slice AN N.length cN, .slice AG G.length cG, .slice AP P.length cP] 38)) := below_alloc (Below.refl _ _) _
  obtain ⟨hd0, hd1, hd2⟩ := hb.cells
  have HBX := Aside0.mk hb
  have HM := Aside0.mk (h.below hbb)
  have HBB := Aside0.mk hbb
  have HF := Aside0.mk (mmay_calls (h.below hbb))
  have HD := Aside0.mk (fun (W : World) (h : MemoAt W AN cN N AG cG G AP cP P) => Find_calls g h)
  clear h hb hbb
  rcases hno with h1 | ⟨h1, h2⟩
  · rw [h1] at HF
    clear h1
    go_enter Try.func43, Try.ntmps43
    go_wp2_with (go_at_call 41; refine HF.out.mono ?_; rintro e w1 ⟨rfl, hb1⟩; have HB1 := Aside0.mk hb1; clear hb1)
    go_ret
    exact ⟨_, rfl, Kd.R_nil _ _ _ _ _, below_then HBB.out HBB.out.size HB1.out⟩
  · rw [h1] at HF
    rw [h2] at HD
    clear h1 h2
    go_enter Try.func43, Try.ntmps43
    go_wp2_with (first | (go_at_call 41; refine HF.out.mono ?_; rintro e w1 ⟨rfl, hb1⟩; have HB1 := Aside0.mk hb1; obtain ⟨ha0, ha1, ha2⟩ := (HBX.out.below hb1).cells; clear hb1) | (go_at_call 42; refine (HD.out _ (HM.out.below HB1.out)).mono ?_; rintro e w2 ⟨rfl, hb2⟩; have HB2 := Aside0.mk (HB1.out.trans (hb2.mono HB1.out.size)); clear hb2))
    go_ret
    exact ⟨_, rfl, Kd.R_nil _ _ _ _ _, below_then HBB.out HBB.out.size HB2.out⟩
set_option maxHeartbeats 16000000 in
set_option maxRecDepth 100000 in
theorem Of_yes {w : World} {AN AG AP : Option Addr} {cN cG cP : Nat} {N : List S48} {G P : List Int} (g : Int) (h : MemoAt w AN cN N AG cG G AP cP P) (h1 : mayMB N G P = true) (h2 : findS P g ≠ -1) :
    Calls Try.prog 43 #[.agg #[.slice AN N.length cN, .slice AG G.length cG, .slice AP P.length cP], .int .i64 g] w fun e w' => ∃ v0_ : Value, e = .returned v0_ ∧ Kd.R (Kd.int .i64) 3 w' w.heap.size (fun _ => True) v0_ (ofL N G P g N.length) ∧ Below w.heap.size w w' := by
  have hb := box_new w AN cN N AG cG G AP cP P
  have hbb : Below w.heap.size w (w.alloc (.cells #[.slice AN N.length cN, .slice AG G.length cG, .slice AP P.length cP] 38)) := below_alloc (Below.refl _ _) _
  obtain ⟨hd0, hd1, hd2⟩ := hb.cells
  have HBX := Aside0.mk hb
  have H0 := Aside0.mk h
  have HM := Aside0.mk (h.below hbb)
  have HBB := Aside0.mk hbb
  have HF := Aside0.mk (mmay_calls (h.below hbb))
  have HD := Aside0.mk (fun (W : World) (g : Int) (h : MemoAt W AN cN N AG cG G AP cP P) => Find_calls g h)
  have HC := Aside0.mk (fun (W : World) (n : S48) (h : MemoAt W AN cN N AG cG G AP cP P) => Canon_calls n h)
  have hfm : formB N G P = true := by unfold mayMB at h1; simp only [Bool.and_eq_true] at h1; exact h1.1
  have hcf : confS N G P = none := by unfold mayMB at h1; simp only [Bool.and_eq_true, Option.isNone_iff_eq_none] at h1; exact h1.2
  have HI := Aside0.mk (fun (W : World) (h : MemoAt W AN cN N AG cG G AP cP P) => first_calls h hfm)
  rw [hcf] at HI
  simp only [firstR, Option.isNone_none] at HI
  rw [h1] at HF
  have hm := (formB_parts hfm).1
  have hGN := (formB_parts hfm).2.1
  have hNl := (formB_parts hfm).2.2.1
  have hNi := (formB_parts hfm).2.2.2.2
  have HGN := Aside0.mk hGN
  have HCW := Aside0.mk (fun k (hk : k < N.length) => canon_wf hm (hNi k hk))
  have HCE := Aside0.mk (fun k (hk : k < N.length) => show CanonS N G P (N.getD k z48) = (canonsS N P).getD k z48 from by
    unfold CanonS canonsS
    rw [hm, hNi k hk]
    simp [List.getD_eq_getElem?_getD, List.getElem?_map, List.getElem?_eq_getElem hk])
  have HCE2 := Aside0.mk (fun k (hk : k < N.length) => show canonS (rootsS P) (N.getD k z48) = (canonsS N P).getD k z48 from by
    unfold canonsS
    simp [List.getD_eq_getElem?_getD, List.getElem?_map, List.getElem?_eq_getElem hk])
  obtain ⟨cs, hcs⟩ : ∃ cs, cs = canonsS N P := ⟨_, rfl⟩
  have HCS := Aside0.mk hcs
  rw [← hcs] at HI HCE HCE2
  obtain ⟨fg, hfg⟩ : ∃ fg, fg = findS P g := ⟨_, rfl⟩
  have HFG := Aside0.mk hfg
  have HDg := Aside0.mk (fun (W : World) (h : MemoAt W AN cN N AG cG G AP cP P) => HD.out W g h)
  rw [← hfg] at HDg
  have hfgb : (fg == (-1 : Int)) = false := by rw [beq_eq_false_iff_ne, hfg]; exact h2
  clear h h1 h2 hb hbb hfm hcf hm hGN hNi hcs hfg
  go_enter Try.func43, Try.ntmps43
  go_wp2_with (first | (go_at_call 41; refine HF.out.mono ?_; rintro e w1 ⟨rfl, hb1⟩; have HB1 := Aside0.mk hb1; obtain ⟨ha0, ha1, ha2⟩ := (HBX.out.below hb1).cells; clear hb1) | (go_at_call 42; go_loud (refine (HDg.out _ (HM.out.below HB1.out)).mono ?_; rintro e w2 ⟨rfl, hb2⟩; have HB2 := Aside0.mk (HB1.out.trans (hb2.mono HB1.out.size)); obtain ⟨hf0, hf1, hf2⟩ := (HBX.out.below HB2.out).cells; clear hb2)) | (go_at_call 76; go_loud (refine (HI.out _ (HM.out.below HB2.out)).mono ?_; rintro e w3 ⟨bm, rfl, hb3, hbm, hmap⟩; have HB3 := Aside0.mk (HB2.out.trans (hb3.mono HB2.out.size)); obtain ⟨nn, hmap, hnn⟩ := hmap trivial; have HMP := Aside0.mk hmap; obtain ⟨hg0, hg1, hg2⟩ := (HBX.out.below HB3.out).cells; have hs3 := (HBX.out.below HB3.out).lt; clear hb3 hmap hbm)))
  go_loopw [8, 29] (fun v8 i wr => ∃ k : Nat, k ≤ N.length ∧ i = .int .i64 k ∧ Aside0 (Kd.R (Kd.int .i64) 3 wr w.heap.size (fun j => j ≠ bm) v8 (ofL N G P g k)) ∧ Aside0 (MBox wr w.heap.size AN cN N AG cG G AP cP P) ∧ Aside0 (NMap wr bm (fun x => posN cs x N.length) nn) ∧ Aside0 (Below w.heap.size w wr)) (fun _ i _ => N.length - (intOf i).toNat)
  case atStart =>
    exact ⟨0, Nat.zero_le _, rfl, ⟨Kd.R_nil _ _ _ _ _⟩, ⟨(HBX.out.below HB3.out).below (below_alloc (Below.refl _ _) _)⟩, ⟨HMP.out.below (below_alloc (Below.refl _ _) _)⟩, ⟨below_alloc (below_then HBB.out HBB.out.size HB3.out) _⟩⟩
  case round =>
    obtain ⟨k, hk, rfl, HO, HBx, HMp, HBl⟩ := hrel
    by_cases hlt : k < N.length
    · obtain ⟨ad, hAN, hc0, hc1, hc2, hc3⟩ := at_T48 (H0.out.below HBl.out).n (k : Int) (by omega) (by omega)
      obtain ⟨x, hx⟩ : ∃ x, x = N.getD k z48 := ⟨_, rfl⟩
      rw [Int.toNat_natCast, show rd_T48 N (k : Int) = x from by rw [hx]; simp [rd_T48]] at hc0 hc1 hc2 hc3
      subst hAN
      obtain ⟨c, hc⟩ : ∃ c, c = cs.getD k z48 := ⟨_, rfl⟩
      have hCx : CanonS N G P x = c := by rw [hx, hc]; exact HCE.out k hlt
      have hwf : wfN c = true := by rw [hc, ← HCE2.out k hlt]; exact HCW.out k hlt
      have HCx := Aside0.mk (fun (W : World) (h : MemoAt W (some ad) cN N AG cG G AP cP P) => HC.out W x h)
      rw [hCx] at HCx
      obtain ⟨j, hj⟩ := Option.isSome_iff_exists.mp (posN_self cs N.length k hlt)
      rw [← hc] at hj
      have hAt : atN (fun x => posN cs x N.length) c = (j : Int) := by unfold atN; simp only; rw [hj]
      have SX := Aside0.mk hx
      have SC := Aside0.mk hc
      have SCx := Aside0.mk hCx
      have SWF := Aside0.mk hwf
      have SJ := Aside0.mk hj
      have SAt := Aside0.mk hAt
      clear hx hc hCx hwf hj hAt
      go_wp2
      have hc := SC.out
      have hwf := SWF.out
      have hj := SJ.out
      have hAt := SAt.out
      obtain ⟨W, hW⟩ : ∃ W, W = wr.alloc (.cells #[.bool x.f0, .int .i64 x.f1, .int .i64 x.f2, .int .i64 x.f3] 48) := ⟨_, rfl⟩
      have hba : Below wr.heap.size wr W := by rw [hW]; exact below_alloc (Below.refl _ _) _
      have hbW : Below w.heap.size w W := below_then HBl.out HBl.out.size hba
      have hMW := H0.out.below hbW
      obtain ⟨hk0, hk1, hk2⟩ := (HBx.out.below hba).cells
      have hnb : NBox W wr.heap.size x := by rw [hW]; exact heap_alloc_new _ _
      obtain ⟨hl0, hl1, hl2, hl3⟩ := hnb.cells
      obtain ⟨aG, e, hg⟩ := Kd.at_int hMW.g (k : Int) (by omega) (by have := HGN.out; omega)
      subst e
      obtain ⟨gk, hgk⟩ : ∃ gk, gk = rd G (k : Int) := ⟨_, rfl⟩
      rw [← hgk, Int.toNat_natCast] at hg
      have hgk2 : G.getD k 0 = gk := by rw [hgk, rd, Int.toNat_natCast]
      obtain ⟨fk, hfk⟩ : ∃ fk, fk = findS P gk := ⟨_, rfl⟩
      have q0 : (0 : Int) ≤ (k : Int) := by omega
      have q1 : (k : Int) < G.length := by have := HGN.out; omega
      have hd0 := fun d os => cell_regrown hk0 d os
      have hd1 := fun d os => cell_regrown hk1 d os
      have hd2 := fun d os => cell_regrown hk2 d os
      have hgg := fun d os => cell_regrown hg d os
      have he0 := fun d os => cell_regrown hl0 d os
      have he1 := fun d os => cell_regrown hl1 d os
      have he2 := fun d os => cell_regrown hl2 d os
      have he3 := fun d os => cell_regrown hl3 d os
      have cD := fun d os => Calls.regrown_of (HD.out (Go.Sort.grow (redrawn W d) os) gk (hMW.below (below_regrown W d os)))
      have cDg := fun d os => Calls.regrown_of (HDg.out (Go.Sort.grow (redrawn W d) os) (hMW.below (below_regrown W d os)))
      have cC := fun d os => Calls.regrown_of (HCx.out (Go.Sort.grow (redrawn W d) os) (hMW.below (below_regrown W d os)))
      have lk := fun d os => (((HMp.out.below hba).below (below_regrown W d os)).look_run c hwf)
      rw [← hfk] at cD
      simp only [hAt] at lk
      unfold NV at lk
      have hof : ofB N G P g k = (decide (fk = fg) && decide (j = k)) := by
        unfold ofB
        rw [hgk2, ← hfk, ← HFG.out, ← HCS.out, ← hc, hj]
        simp
      have hsc := ofL_succ N G P g k
      rw [hof] at hsc
      have HSC := Aside0.mk hsc
      have HBa := Aside0.mk hba
      have HBW := Aside0.mk hbW
      clear hsc hof hc hwf hj hAt hMW hk0 hk1 hk2 hnb hl0 hl1 hl2 hl3 hg hgk hgk2 hfk
      rw [← hW]
      clear hW
      by_cases hf : fk = fg
      · have eb : (fk == fg) = true := by rw [beq_iff_eq]; exact hf
        have HFF := Aside0.mk hf
        clear hf
        by_cases hjk : j = k
        · have eb2 : ((j : Int) == (k : Int)) = true := by rw [beq_iff_eq]; omega
          have HJK := Aside0.mk hjk
          clear hjk
          have hu48 := Try.underlying48
          refine wp_region_quiet_below (by kernel_rfl) (by kernel_rfl) ?_
          repeat (quiet_step (first | exact cD _ _ | exact cDg _ _ | exact cC _ _))
          refine wpQuiet_nil ?_
          intro _ hw'
          obtain ⟨⟨dq, osq⟩, hw''⟩ := hw'
          subst hw''
          have HOW := Aside0.mk (Kd.R_below (Kd.R_below HO.out HBa.out) (below_regrown W dq osq))
          have HBM := Aside0.mk (((HMp.out.below HBa.out).below (below_regrown W dq osq)))
          have HBX3 := Aside0.mk ((HBx.out.below HBa.out).below (below_regrown W dq osq))
          have HBW3 := Aside0.mk (HBW.out.trans ((below_regrown W dq osq).mono HBW.out.size))
          have hlen := ofL_length N G P g k
          obtain ⟨W3, hW3⟩ : ∃ W3, W3 = Go.Sort.grow (redrawn W dq) osq := ⟨_, rfl⟩
          rw [← hW3] at HOW HBM HBX3 HBW3 ⊢
          clear hW3
          clear hd0 hd1 hd2 hgg he0 he1 he2 he3 cD cDg cC lk
          go_wp2_with ((with_reducible refine gate_builtin (b := .append) (xs := #[.tmp 54, .tmp 56]) rfl ?_); at_builtin; go_loud (refine Kd.R_append (Kd.int .i64) (w0 := w) w.heap.size rfl (.tmp 54) (.tmp 56) 22 3 (.int .i64 0) 8 rfl Try.underlying22 info3 rfl (by decide) (by omega) u8 (ofL N G P g k) (k : Int) [.int .i64 (k : Int)] (fun j => j ≠ bm) (fun _ => False) rfl rfl ?aP (fun _ hk => hk.elim) ?aF ?aO ?aB ?aS ?aL ?_; (case aP => exact rfl); (case aF => exact fun k_ hk_ e_ => absurd HBM.out.lt (by omega)); (case aO => exact HOW.out); (case aB => exact HBW3.out); (case aS => exact HBW3.out.size); (case aL => omega); intro v5 w5 ho hb hg hat; have HO5 := Aside0.mk ho; have HB5 := Aside0.mk hb; have HX5 := Aside0.mk (blk_grown HBX3.out hg (Kd.R_ne HOW.out HBX3.out (by decide))); have HM5 := Aside0.mk (HBM.out.grown hg (fun e => HOW.out.1 bm e.symm rfl)); clear ho hb hg hat))
          go_roundw
          case rel =>
            refine ⟨k + 1, by omega, by go_num, ⟨?_⟩, HX5, HM5, HB5⟩
            rw [HSC.out, if_pos (by rw [HFF.out, HJK.out]; simp)]
            exact HO5.out
          case measure => simp [intOf]; omega
        · have eb2 : ((j : Int) == (k : Int)) = false := by rw [beq_eq_false_iff_ne]; omega
          have HJK := Aside0.mk hjk
          clear hjk
          have hu48 := Try.underlying48
          refine wp_region_quiet_below (by kernel_rfl) (by kernel_rfl) ?_
          repeat (quiet_step (first | exact cD _ _ | exact cDg _ _ | exact cC _ _))
          refine wpQuiet_nil ?_
          intro _ hw'
          obtain ⟨⟨dq, osq⟩, hw''⟩ := hw'
          subst hw''
          have HOW := Aside0.mk (Kd.R_below (Kd.R_below HO.out HBa.out) (below_regrown W dq osq))
          have HBM := Aside0.mk (((HMp.out.below HBa.out).below (below_regrown W dq osq)))
          have HBX3 := Aside0.mk ((HBx.out.below HBa.out).below (below_regrown W dq osq))
          have HBW3 := Aside0.mk (HBW.out.trans ((below_regrown W dq osq).mono HBW.out.size))
          obtain ⟨W3, hW3⟩ : ∃ W3, W3 = Go.Sort.grow (redrawn W dq) osq := ⟨_, rfl⟩
          rw [← hW3] at HOW HBM HBX3 HBW3 ⊢
          clear hW3
          clear hd0 hd1 hd2 hgg he0 he1 he2 he3 cD cDg cC lk
          go_wp2
          go_roundw
          case rel =>
            refine ⟨k + 1, by omega, by go_num, ⟨?_⟩, HBX3, HBM, HBW3⟩
            rw [HSC.out, if_neg (by simp [HJK.out])]
            exact HOW.out
          case measure => simp [intOf]; omega
      · have eb : (fk == fg) = false := by rw [beq_eq_false_iff_ne]; exact hf
        have HFF := Aside0.mk hf
        clear hf
        have hu48 := Try.underlying48
        refine wp_region_quiet_below (by kernel_rfl) (by kernel_rfl) ?_
        repeat (quiet_step (first | exact cD _ _ | exact cDg _ _ ))
        refine wpQuiet_nil ?_
        intro _ hw'
        obtain ⟨⟨dq, osq⟩, hw''⟩ := hw'
        subst hw''
        have HOW := Aside0.mk (Kd.R_below (Kd.R_below HO.out HBa.out) (below_regrown W dq osq))
        have HBM := Aside0.mk (((HMp.out.below HBa.out).below (below_regrown W dq osq)))
        have HBX3 := Aside0.mk ((HBx.out.below HBa.out).below (below_regrown W dq osq))
        have HBW3 := Aside0.mk (HBW.out.trans ((below_regrown W dq osq).mono HBW.out.size))
        obtain ⟨W3, hW3⟩ : ∃ W3, W3 = Go.Sort.grow (redrawn W dq) osq := ⟨_, rfl⟩
        rw [← hW3] at HOW HBM HBX3 HBW3 ⊢
        clear hW3
        clear hd0 hd1 hd2 hgg he0 he1 he2 he3 cD cDg cC lk
        go_wp2
        go_roundw
        case rel =>
          refine ⟨k + 1, by omega, by go_num, ⟨?_⟩, HBX3, HBM, HBW3⟩
          rw [HSC.out, if_neg (by simp [HFF.out])]
          exact HOW.out
        case measure => simp [intOf]; omega
    · obtain rfl : k = N.length := by omega
      go_wp2
      go_ret
      exact ⟨_, rfl, Kd.R_mono HO.out (fun _ _ => trivial), HBl.out⟩
theorem Of_calls {w : World} {AN AG AP : Option Addr} {cN cG cP : Nat} {N : List S48} {G P : List Int} (g : Int) (h : MemoAt w AN cN N AG cG G AP cP P) :
    Calls Try.prog 43 #[.agg #[.slice AN N.length cN, .slice AG G.length cG, .slice AP P.length cP], .int .i64 g] w fun e w' => ∃ v0_ : Value, e = .returned v0_ ∧ Kd.R (Kd.int .i64) 3 w' w.heap.size (fun _ => True) v0_ (ofS N G P g) ∧ Below w.heap.size w w' := by
  cases h1 : mayMB N G P with
  | false =>
    have : ofS N G P g = [] := by unfold ofS; rw [h1]; rfl
    rw [this]
    exact Of_no g h (.inl h1)
  | true =>
    by_cases h2 : findS P g = -1
    · have : ofS N G P g = [] := by unfold ofS; rw [h1, if_pos rfl, if_pos h2]
      rw [this]
      exact Of_no g h (.inr ⟨h1, h2⟩)
    · have : ofS N G P g = ofL N G P g N.length := by unfold ofS; rw [h1, if_pos rfl, if_neg h2]
      rw [this]
      exact Of_yes g h h1 h2
def memo_Of.f (_ : Nat) (l0_0 : List (S48)) (l0_1 : List Int) (l0_2 : List Int) (a1 : Int) : Option (List Int) := some (ofS l0_0 l0_1 l0_2 a1)
theorem memo_Of.calls (k : Nat) (A0_0 : Option Addr) (c0_0 : Nat) (l0_0 : List (S48)) (A0_1 : Option Addr) (c0_1 : Nat) (l0_1 : List Int) (A0_2 : Option Addr) (c0_2 : Nat) (l0_2 : List Int) (a1 : Int) (r : List Int) (w : World) (hr0_0 : Kd.C k48 w A0_0 l0_0.length l0_0) (hc0_0 : l0_0.length ≤ c0_0) (hr0_1 : Kd.C (Kd.int .i64) w A0_1 l0_1.length l0_1) (hc0_1 : l0_1.length ≤ c0_1) (hr0_2 : Kd.C (Kd.int .i64) w A0_2 l0_2.length l0_2) (hc0_2 : l0_2.length ≤ c0_2) (h : memo_Of.f k l0_0 l0_1 l0_2 a1 = some r) :
    Calls Try.prog 43 #[.agg #[.slice A0_0 l0_0.length c0_0, .slice A0_1 l0_1.length c0_1, .slice A0_2 l0_2.length c0_2], .int .i64 a1] w fun e w' => ∃ v0_ : Value, e = .returned (v0_) ∧ Kd.R (Kd.int .i64) 3 w' w.heap.size (fun _ => True) v0_ r ∧ Below w.heap.size w w' := by
  obtain rfl := Option.some.inj h
  exact Of_calls a1 ⟨hr0_0, hc0_0, hr0_1, hc0_1, hr0_2, hc0_2⟩

end Go.Proofs.Ytkidnomkfdnciaa.All
