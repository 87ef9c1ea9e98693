/- Functions of the program as plain Lean functions, and proofs that the calls do what these say; written for this claim by a program of the session (wip/tools/mkprint.py), checked by Lean. -/
import Derived.Test.YtkidnomkfdnciaaSets
import Derived.Lib.QuietBelow
import Derived.Test.YtkidnomkfdnciaaAllx0
import Derived.Test.YtkidnomkfdnciaaAllx4
import Derived.Test.YtkidnomkfdnciaaAllx6
import Derived.Test.YtkidnomkfdnciaaAllx9
import Derived.Test.YtkidnomkfdnciaaAllx10
import Derived.Test.YtkidnomkfdnciaaAllx14
import Derived.Test.YtkidnomkfdnciaaAllx15
namespace Go.Proofs.Ytkidnomkfdnciaa.All
open Go.RowKit Go.Proofs.YtkidnomkfdnciaaW.PrintWords Go.Proofs.YtkidnomkfdnciaaW.PrintLast Go.Proofs.YtkidnomkfdnciaaW.PrintMore
attribute [local go_sem] max2_int min2_int max_two min_two max_three min_three max_four min_four   -- for this text's walks alone
set_option linter.unusedVariables false
set_option linter.unusedSimpArgs false

/-! ### memo_Look: function 45 -/
/- stands on memo_May.f, memo_Canon.f, memo_Find.f, memo_node.f, sets_May.f -/
/-- The Canon of a node. -/
def CanonS (N : List S48) (G P : List Int) (n : S48) : S48 := if (mayB P && nodeB P n) = true then canonS (rootsS P) n else n
theorem Canon_some (N : List S48) (G P : List Int) (n : S48) (k : Nat) (hP : P.length ≤ 9223372036854775807) (hk : P.length + 1 < k) :
    memo_Canon.f k N G P n.f0 n.f1 n.f2 n.f3 = some ((CanonS N G P n).f0, (CanonS N G P n).f1, (CanonS N G P n).f2, (CanonS N G P n).f3) := by
  obtain ⟨k, rfl⟩ : ∃ m, k = m + 1 := ⟨k - 1, by omega⟩
  unfold memo_Canon.f CanonS
  rw [may_k P _ hP (by omega), Option.bind_some]
  by_cases hm : mayB P = true
  · rw [if_pos hm, node_some, Option.bind_some, hm, Bool.true_and]
    cases hn : nodeB P n with
    | false => simp [memo_Canon.j0]
    | true =>
      simp only [Bool.not_true, memo_Canon.j0, Bool.false_eq_true, if_false, if_true]
      unfold sets_Roots.f
      rw [Option.bind_some]
      unfold memo_canon.f canonS
      cases hj : n.f0 with
      | false => simp [hj]
      | true =>
        unfold nodeB at hn
        rw [if_pos hj] at hn
        simp only [Bool.and_eq_true] at hn
        rw [if_pos rfl, inB_of_len (rootsS_length P hm), inB_of_len (rootsS_length P hm), hn.2.1, hn.2.2]
        simp
  · rw [if_neg hm]
    simp [memo_Canon.j0, hm]
theorem Canon_calls {w : World} {AN AG AP : Option Addr} {cN cG cP : Nat} {N : List S48} {G P : List Int} (n : S48) (h : MemoAt w AN cN N AG cG G AP cP P) :
    Calls Try.prog 44 #[.agg #[.slice AN N.length cN, .slice AG G.length cG, .slice AP P.length cP], .agg #[.bool n.f0, .int .i64 n.f1, .int .i64 n.f2, .int .i64 n.f3]] w fun e w' => e = .returned (.agg #[.bool (CanonS N G P n).f0, .int .i64 (CanonS N G P n).f1, .int .i64 (CanonS N G P n).f2, .int .i64 (CanonS N G P n).f3]) ∧ Below w.heap.size w w' := by
  have hl : P.length ≤ maxLen := h.p.2.1
  exact memo_Canon.calls (P.length + 2) AN cN N AG cG G AP cP P n.f0 n.f1 n.f2 n.f3 _ _ _ _ w h.n h.nc h.g h.gc h.p h.pc (Canon_some N G P n _ (by unfold maxLen at hl; omega) (by omega))
theorem Find_calls {w : World} {AN AG AP : Option Addr} {cN cG cP : Nat} {N : List S48} {G P : List Int} (g : Int) (h : MemoAt w AN cN N AG cG G AP cP P) :
    Calls Try.prog 42 #[.agg #[.slice AN N.length cN, .slice AG G.length cG, .slice AP P.length cP], .int .i64 g] w fun e w' => e = .returned (.int .i64 (findS P g)) ∧ Below w.heap.size w w' :=
  memo_Find.calls 0 AN cN N AG cG G AP cP P g _ w h.n h.nc h.g h.gc h.p h.pc rfl
/-- What Look tells. -/
def lookS (N : List S48) (G P : List Int) (n : S48) : Int × Bool :=
  if (mayMB N G P && nodeB P n) = true then (match posN (canonsS N P) (canonS (rootsS P) n) N.length with
    | none => (-1, false)
    | some i => (findS P (G.getD i 0), true)) else (-1, false)
theorem box2_new (w : World) (AN : Option Addr) (cN : Nat) (N : List S48) (AG : Option Addr) (cG : Nat) (G : List Int) (AP : Option Addr) (cP : Nat) (P : List Int) (n : S48) :
    MBox ((w.alloc (.cells #[.slice AN N.length cN, .slice AG G.length cG, .slice AP P.length cP] 38)).alloc (.cells #[.bool n.f0, .int .i64 n.f1, .int .i64 n.f2, .int .i64 n.f3] 48)) w.heap.size AN cN N AG cG G AP cP P ∧
    ((w.alloc (.cells #[.slice AN N.length cN, .slice AG G.length cG, .slice AP P.length cP] 38)).alloc (.cells #[.bool n.f0, .int .i64 n.f1, .int .i64 n.f2, .int .i64 n.f3] 48)).heap[w.heap.size + 1]? = some (.cells #[.bool n.f0, .int .i64 n.f1, .int .i64 n.f2, .int .i64 n.f3] 48 (0, 0)) ∧
    Below w.heap.size w ((w.alloc (.cells #[.slice AN N.length cN, .slice AG G.length cG, .slice AP P.length cP] 38)).alloc (.cells #[.bool n.f0, .int .i64 n.f1, .int .i64 n.f2, .int .i64 n.f3] 48)) := by
  refine ⟨(box_new w AN cN N AG cG G AP cP P).below (below_alloc (Below.refl _ _) _), ?_, below_alloc (below_alloc (Below.refl _ _) _) _⟩
  have := heap_alloc_new (w.alloc (.cells #[.slice AN N.length cN, .slice AG G.length cG, .slice AP P.length cP] 38)) (.cells #[.bool n.f0, .int .i64 n.f1, .int .i64 n.f2, .int .i64 n.f3] 48)
  rw [alloc_size1 w] at this
  exact this
/-- A node in memory: its box. -/
def NBox (w : World) (b : Nat) (n : S48) : Prop := w.heap[b]? = some (.cells #[.bool n.f0, .int .i64 n.f1, .int .i64 n.f2, .int .i64 n.f3] 48 (0, 0))
theorem NBox.below {w w' : World} {b : Nat} {n : S48} (h : NBox w b n) (hb : Below w.heap.size w w') : NBox w' b n := (hb.block b (blk_lt h)).trans h
theorem NBox.cells {w : World} {b : Nat} {n : S48} (h : NBox w b n) : w.cell? ⟨b, 0, none⟩ = some (.bool n.f0) ∧ w.cell? ⟨b, 1, none⟩ = some (.int .i64 n.f1) ∧ w.cell? ⟨b, 2, none⟩ = some (.int .i64 n.f2) ∧ w.cell? ⟨b, 3, none⟩ = some (.int .i64 n.f3) :=
  ⟨(blk_cell h 0).trans rfl, (blk_cell h 1).trans rfl, (blk_cell h 2).trans rfl, (blk_cell h 3).trans rfl⟩
set_option maxHeartbeats 8000000 in
set_option maxRecDepth 100000 in
theorem Look_no {w : World} {AN AG AP : Option Addr} {cN cG cP : Nat} {N : List S48} {G P : List Int} (n : S48) (h : MemoAt w AN cN N AG cG G AP cP P) (hno : mayMB N G P = false ∨ mayMB N G P = true ∧ nodeB P n = false) :
    Calls Try.prog 45 #[.agg #[.slice AN N.length cN, .slice AG G.length cG, .slice AP P.length cP], .agg #[.bool n.f0, .int .i64 n.f1, .int .i64 n.f2, .int .i64 n.f3]] w fun e w' => e = .returned (.tuple #[.int .i64 (-1), .bool false]) ∧ Below w.heap.size w w' := by
  obtain ⟨hb, hn, hbb⟩ := box2_new w AN cN N AG cG G AP cP P n
  obtain ⟨hd0, hd1, hd2⟩ := hb.cells
  obtain ⟨he0, he1, he2, he3⟩ := NBox.cells hn
  have HBX := Aside0.mk hb
  have HNX := Aside0.mk (show NBox _ _ n from hn)
  have HM := Aside0.mk (h.below hbb)
  have HBB := Aside0.mk hbb
  have HF := Aside0.mk (mmay_calls (h.below hbb))
  have HN := Aside0.mk (fun (W : World) (h : MemoAt W AN cN N AG cG G AP cP P) => node_calls n h)
  clear h hb hn hbb
  rcases hno with h1 | ⟨h1, h2⟩
  · rw [h1] at HF
    clear h1
    go_enter Try.func45, Try.ntmps45
    go_wp2_with (go_at_call 41; refine HF.out.mono ?_; rintro e w1 ⟨rfl, hb1⟩; have HB1 := Aside0.mk hb1; clear hb1)
    go_ret2
    exact ⟨rfl, below_then HBB.out HBB.out.size HB1.out⟩
  · rw [h1] at HF
    rw [h2] at HN
    clear h1 h2
    go_enter Try.func45, Try.ntmps45
    go_wp2_with (first | (go_at_call 41; refine HF.out.mono ?_; rintro e w1 ⟨rfl, hb1⟩; have HB1 := Aside0.mk hb1; obtain ⟨ha0, ha1, ha2⟩ := (HBX.out.below hb1).cells; obtain ⟨hc0, hc1, hc2, hc3⟩ := (HNX.out.below hb1).cells; clear hb1) | (go_at_call 78; refine (HN.out _ (HM.out.below HB1.out)).mono ?_; rintro e w2 ⟨rfl, hb2⟩; have HB2 := Aside0.mk (HB1.out.trans (hb2.mono HB1.out.size)); clear hb2))
    go_ret2
    exact ⟨rfl, below_then HBB.out HBB.out.size HB2.out⟩
set_option maxHeartbeats 8000000 in
set_option maxRecDepth 100000 in
theorem Look_yes {w : World} {AN AG AP : Option Addr} {cN cG cP : Nat} {N : List S48} {G P : List Int} (n : S48) (h : MemoAt w AN cN N AG cG G AP cP P) (h1 : mayMB N G P = true) (h2 : nodeB P n = true) :
    Calls Try.prog 45 #[.agg #[.slice AN N.length cN, .slice AG G.length cG, .slice AP P.length cP], .agg #[.bool n.f0, .int .i64 n.f1, .int .i64 n.f2, .int .i64 n.f3]] w fun e w' => e = .returned (.tuple #[.int .i64 (lookS N G P n).1, .bool (lookS N G P n).2]) ∧ Below w.heap.size w w' := by
  obtain ⟨hb, hn, hbb⟩ := box2_new w AN cN N AG cG G AP cP P n
  obtain ⟨hd0, hd1, hd2⟩ := hb.cells
  obtain ⟨he0, he1, he2, he3⟩ := NBox.cells hn
  have HBX := Aside0.mk hb
  have HNX := Aside0.mk (show NBox _ _ n from hn)
  have HM := Aside0.mk (h.below hbb)
  have HBB := Aside0.mk hbb
  have HF := Aside0.mk (mmay_calls (h.below hbb))
  have HN := Aside0.mk (fun (W : World) (h : MemoAt W AN cN N AG cG G AP cP P) => node_calls n h)
  have hfm : formB N G P = true := by unfold mayMB at h1; simp only [Bool.and_eq_true] at h1; exact h1.1
  have hcf : confS N G P = none := by unfold mayMB at h1; simp only [Bool.and_eq_true, Option.isNone_iff_eq_none] at h1; exact h1.2
  have HI := Aside0.mk (fun (W : World) (h : MemoAt W AN cN N AG cG G AP cP P) => first_calls h hfm)
  rw [hcf] at HI
  simp only [firstR, Option.isNone_none] at HI
  have HC := Aside0.mk (fun (W : World) (h : MemoAt W AN cN N AG cG G AP cP P) => Canon_calls n h)
  have HD := Aside0.mk (fun (W : World) (g : Int) (h : MemoAt W AN cN N AG cG G AP cP P) => Find_calls g h)
  have hm := (formB_parts hfm).1
  have hGN := (formB_parts hfm).2.1
  have hC : CanonS N G P n = canonS (rootsS P) n := by unfold CanonS; rw [hm, h2]; rfl
  rw [hC] at HC
  have hwf : wfN (canonS (rootsS P) n) = true := canon_wf hm h2
  have hl : lookS N G P n = (match posN (canonsS N P) (canonS (rootsS P) n) N.length with
    | none => (-1, false)
    | some i => (findS P (G.getD i 0), true)) := by unfold lookS; rw [h1, h2]; rfl
  rw [hl]
  rw [h1] at HF
  rw [h2] at HN
  obtain ⟨c, hc⟩ : ∃ c, c = canonS (rootsS P) n := ⟨_, rfl⟩
  rw [← hc] at HC hwf ⊢
  obtain ⟨cs, hcs⟩ : ∃ cs, cs = canonsS N P := ⟨_, rfl⟩
  rw [← hcs] at HI ⊢
  obtain ⟨⟨r1, r2⟩, hr⟩ : ∃ r : Int × Bool, (match posN cs c N.length with
    | none => (-1, false)
    | some i => (findS P (G.getD i 0), true)) = r := ⟨_, rfl⟩
  rw [hr]
  have HRR := Aside0.mk hr
  have HWF := Aside0.mk hwf
  have HGN := Aside0.mk hGN
  have HH := Aside0.mk h
  clear hr h hl hb hn hbb hfm hcf hm hC hc hcs hwf h1 h2 hGN
  go_enter Try.func45, Try.ntmps45
  go_upto_if 35 with (first | (go_at_call 41; refine (HF.out).mono ?_; rintro e w1 ⟨rfl, hb1⟩; have HB1 := Aside0.mk hb1; obtain ⟨ha0, ha1, ha2⟩ := (HBX.out.below hb1).cells; obtain ⟨hc0, hc1, hc2, hc3⟩ := (HNX.out.below hb1).cells; clear hb1) | (go_at_call 78; refine (HN.out _ (HM.out.below HB1.out)).mono ?_; rintro e w2 ⟨rfl, hb2⟩; have HB2 := Aside0.mk (HB1.out.trans (hb2.mono HB1.out.size)); obtain ⟨hf0, hf1, hf2⟩ := (HBX.out.below HB2.out).cells; clear hb2) | (go_at_call 76; (refine (HI.out _ (HM.out.below HB2.out)).mono ?_; rintro e w3 ⟨bm, rfl, hb3, hbm, hmap⟩; have HB3 := Aside0.mk (HB2.out.trans (hb3.mono HB2.out.size)); obtain ⟨nn, hmap, hnn⟩ := hmap trivial; have HMP := Aside0.mk hmap; obtain ⟨hg0, hg1, hg2⟩ := (HBX.out.below HB3.out).cells; obtain ⟨hh0, hh1, hh2, hh3⟩ := (HNX.out.below HB3.out).cells; have hs3 := (HBX.out.below HB3.out).lt; have hs3' := blk_lt (HNX.out.below HB3.out); clear hb3 hmap)) | (go_at_call 44; (refine (HC.out _ ((HM.out.below HB3.out).below (below_alloc (Below.refl _ _) _))).mono ?_; rintro e w4 ⟨rfl, hb4⟩; have HB4 := Aside0.mk (HB3.out.trans (((below_alloc (Below.refl _ _) _).trans (hb4.mono (by simp))).mono HB3.out.size)); have HMP4 := Aside0.mk ((HMP.out.below (below_alloc (Below.refl _ _) _)).below hb4); obtain ⟨hk0, hk1, hk2⟩ := (HBX.out.below HB4.out).cells; clear hb4)) | (at_lookup; (refine NMap.look_ok HMP4.out rfl _ _ rfl rfl c rfl HWF.out ?_)))
  cases hp : posN cs c N.length with
  | none =>
    simp only [Option.isNone_none]
    have hr := HRR.out
    rw [hp] at hr
    obtain ⟨rfl, rfl⟩ := Prod.mk.inj hr
    go_wp2
    go_ret2
    exact ⟨rfl, below_then HBB.out HBB.out.size HB4.out⟩
  | some i =>
    have hAt : atN (fun x => posN cs x N.length) c = (i : Int) := by unfold atN; simp only; rw [hp]
    have hi := posN_lt _ _ _ _ hp
    rw [hAt]
    obtain ⟨aG, e, hg⟩ := Kd.at_int (Kd.C_below HM.out.g HB4.out) (i : Int) (by omega) (by have := HGN.out; omega)
    subst e
    have HM4 := Aside0.mk (HM.out.below HB4.out)
    obtain ⟨g, hge⟩ : ∃ g, g = rd G (i : Int) := ⟨_, rfl⟩
    rw [← hge, Int.toNat_natCast] at hg
    have hl0 : (0 : Int) ≤ (i : Int) := by omega
    have hl1 : (i : Int) < G.length := by have := HGN.out; omega
    have hd0 := fun d os => cell_regrown hk0 d os
    have hd1 := fun d os => cell_regrown hk1 d os
    have hd2 := fun d os => cell_regrown hk2 d os
    have hgg := fun d os => cell_regrown hg d os
    have cD := fun d os => Calls.regrown_of (HD.out (Go.Sort.grow (redrawn w4 d) os) g (HM4.out.below (below_regrown w4 d os)))
    have hge2 : findS P (G.getD i 0) = findS P g := by rw [hge, rd, Int.toNat_natCast]
    have hr := HRR.out
    rw [hp] at hr
    simp only [hge2] at hr
    obtain ⟨rfl, rfl⟩ := Prod.mk.inj hr
    simp only [Option.isNone_some]
    clear hr
    clear hge hge2 hp hAt
    go_wp2
    refine wp_region_quiet_below (by first | assumption | kernel_rfl) (by kernel_rfl) ?_
    repeat (quiet_step (exact cD _ _))
    refine wpQuiet_nil ?_
    intro _ hw'
    obtain ⟨⟨dq, osq⟩, hw''⟩ := hw'
    subst hw''
    go_wp2
    go_ret2
    exact ⟨rfl, (below_then HBB.out HBB.out.size HB4.out).trans (below_regrown w4 dq osq |>.mono (by have := HB4.out.size; have := HBB.out.size; omega))⟩
theorem Look_calls {w : World} {AN AG AP : Option Addr} {cN cG cP : Nat} {N : List S48} {G P : List Int} (n : S48) (h : MemoAt w AN cN N AG cG G AP cP P) :
    Calls Try.prog 45 #[.agg #[.slice AN N.length cN, .slice AG G.length cG, .slice AP P.length cP], .agg #[.bool n.f0, .int .i64 n.f1, .int .i64 n.f2, .int .i64 n.f3]] w fun e w' => e = .returned (.tuple #[.int .i64 (lookS N G P n).1, .bool (lookS N G P n).2]) ∧ Below w.heap.size w w' := by
  cases h1 : mayMB N G P with
  | false =>
    have : lookS N G P n = (-1, false) := by unfold lookS; rw [h1]; rfl
    rw [this]
    exact Look_no n h (.inl h1)
  | true =>
    cases h2 : nodeB P n with
    | false =>
      have : lookS N G P n = (-1, false) := by unfold lookS; rw [h1, h2]; rfl
      rw [this]
      exact Look_no n h (.inr ⟨h1, h2⟩)
    | true => exact Look_yes n h h1 h2
def memo_Look.f (l0_0 : List (S48)) (l0_1 : List Int) (l0_2 : List Int) (a1_0 : Bool) (a1_1 : Int) (a1_2 : Int) (a1_3 : Int) : Option (Int × Bool) := some (lookS l0_0 l0_1 l0_2 ⟨a1_0, a1_1, a1_2, a1_3⟩)
theorem memo_Look.calls (A0_0 : Option Addr) (c0_0 : Nat) (l0_0 : List (S48)) (A0_1 : Option Addr) (c0_1 : Nat) (l0_1 : List Int) (A0_2 : Option Addr) (c0_2 : Nat) (l0_2 : List Int) (a1_0 : Bool) (a1_1 : Int) (a1_2 : Int) (a1_3 : Int) (r1 : Int) (r2 : Bool) (w : World) (hr0_0 : Kd.C k48 w A0_0 l0_0.length l0_0) (hc0_0 : l0_0.length ≤ c0_0) (hr0_1 : Kd.C (Kd.int .i64) w A0_1 l0_1.length l0_1) (hc0_1 : l0_1.length ≤ c0_1) (hr0_2 : Kd.C (Kd.int .i64) w A0_2 l0_2.length l0_2) (hc0_2 : l0_2.length ≤ c0_2) (h : memo_Look.f l0_0 l0_1 l0_2 a1_0 a1_1 a1_2 a1_3 = some (r1, r2)) :
    Calls Try.prog 45 #[.agg #[.slice A0_0 l0_0.length c0_0, .slice A0_1 l0_1.length c0_1, .slice A0_2 l0_2.length c0_2], .agg #[.bool a1_0, .int .i64 a1_1, .int .i64 a1_2, .int .i64 a1_3]] w fun e w' => e = .returned (.tuple #[.int .i64 r1, .bool r2]) ∧ Below w.heap.size w w' := by
  have h := Option.some.inj h
  have := Look_calls (N := l0_0) (G := l0_1) (P := l0_2) ⟨a1_0, a1_1, a1_2, a1_3⟩ ⟨hr0_0, hc0_0, hr0_1, hc0_1, hr0_2, hc0_2⟩
  rw [h] at this
  exact this

end Go.Proofs.Ytkidnomkfdnciaa.All
