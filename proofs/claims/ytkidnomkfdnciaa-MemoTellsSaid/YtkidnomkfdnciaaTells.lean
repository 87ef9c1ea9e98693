/- The law on memos and the document's: its walk. -/
import Derived.Test.YtkidnomkfdnciaaR16E
import Derived.Test.YtkidnomkfdnciaaSets
import Derived.Test.YtkidnomkfdnciaaR16G
import Derived.Test.YtkidnomkfdnciaaQMid
import Derived.Test.YtkidnomkfdnciaaAllx55
import Derived.Test.YtkidnomkfdnciaaAllx49
import Derived.Test.YtkidnomkfdnciaaAllx18
namespace Go.Proofs.Ytkidnomkfdnciaa.All
open Go.RowKit Go.Proofs.YtkidnomkfdnciaaW.PrintWords Go.Proofs.YtkidnomkfdnciaaW.PrintLast Go.Proofs.YtkidnomkfdnciaaW.PrintMore
attribute [local go_sem] QR.Oq QR.Yq QR.Cls
attribute [local go_sem high] eqA48
set_option linter.unusedVariables false
set_option linter.unusedSimpArgs false
section
variable {w w' : World} {base : Nat} {AN AG AP : Option Addr} {cN cG cP : Nat} {N : List S48} {G P : List Int} {v0 v1 v2 : Value} {o0 o1 o2 : Nat → Prop} {AN' AG' AP' : Option Addr} {cN' cG' cP' : Nat} {N' : List S48} {G' P' : List Int}
theorem memo_reads (h0 : Kd.R k48 48 w base o0 v0 N) (h1 : Kd.R (Kd.int .i64) 3 w base o1 v1 G) (h2 : Kd.R (Kd.int .i64) 3 w base o2 v2 P) :
    ∃ A0 c0 A1 c1 A2 c2, v0 = .slice A0 N.length c0 ∧ v1 = .slice A1 G.length c1 ∧ v2 = .slice A2 P.length c2 ∧ MemoAt w A0 c0 N A1 c1 G A2 c2 P := by
  obtain ⟨A0, c0, e0, l0, r0⟩ := Kd.R_reads h0
  obtain ⟨A1, c1, e1, l1, r1⟩ := Kd.R_reads h1
  obtain ⟨A2, c2, e2, l2, r2⟩ := Kd.R_reads h2
  exact ⟨A0, c0, A1, c1, A2, c2, e0, e1, e2, ⟨r0, l0, r1, l1, r2, l2⟩⟩
theorem tput_at {a : List S48} {b c : List Int} {x y : Int} (n : S48) (g : Int) (hL : Lim N G P) (h : MemoAt w AN cN N AG cG G AP cP P) (he : putT N G P n g = (a, b, c, x, y)) :
    Calls Try.prog 47 #[.agg #[.slice AN N.length cN, .slice AG G.length cG, .slice AP P.length cP], .agg #[.bool n.f0, .int .i64 n.f1, .int .i64 n.f2, .int .i64 n.f3], .int .i64 g] w fun e w' => ∃ A0 c0 A1 c1 A2 c2, e = .returned (.tuple #[.agg #[.slice A0 a.length c0, .slice A1 b.length c1, .slice A2 c.length c2], .int .i64 x, .int .i64 y]) ∧ MemoAt w' A0 c0 a A1 c1 b A2 c2 c ∧ Below w.heap.size w w' :=
  (memo_Put.calls 500 _ _ _ _ _ _ _ _ _ _ _ _ _ _ _ h.n h.nc h.g h.gc h.p h.pc (r1 := a) (r2 := b) (r3 := c) (r4 := x) (r5 := y) (by have := put_k hL n g (k := 500) (Nat.le_refl _); rw [he] at this; exact this)).mono fun e w' ⟨_, _, _, he, h0, h1, h2, hb⟩ => by
    obtain ⟨A0, c0, A1, c1, A2, c2, rfl, rfl, rfl, hm⟩ := memo_reads h0 h1 h2
    exact ⟨_, _, _, _, _, _, he, hm, hb⟩
theorem tmerge_at {c : List Int} {x y : Int} (a b : Int) (hL : Lim N G P) (h : MemoAt w AN cN N AG cG G AP cP P) (he : mergeT N G P a b = (c, x, y)) :
    Calls Try.prog 40 #[.agg #[.slice AN N.length cN, .slice AG G.length cG, .slice AP P.length cP], .int .i64 a, .int .i64 b] w fun e w' => ∃ A0 c0 A1 c1 A2 c2, e = .returned (.tuple #[.agg #[.slice A0 N.length c0, .slice A1 G.length c1, .slice A2 c.length c2], .int .i64 x, .int .i64 y]) ∧ MemoAt w' A0 c0 N A1 c1 G A2 c2 c ∧ Below w.heap.size w w' :=
  (memo_Merge.calls 500 _ _ _ _ _ _ _ _ _ _ _ _ h.n h.nc h.g h.gc h.p h.pc (r1 := N) (r2 := G) (r3 := c) (r4 := x) (r5 := y) (by have := merge_k (a := a) (b := b) hL (k := 500) (by omega); rw [he] at this; exact this)).mono fun e w' ⟨_, _, _, he, h0, h1, h2, hb⟩ => by
    obtain ⟨A0, c0, A1, c1, A2, c2, rfl, rfl, rfl, hm⟩ := memo_reads h0 h1 h2
    exact ⟨_, _, _, _, _, _, he, hm, hb⟩
theorem rput_to {a : List S48} {b c : List Int} {x y : Int} (n : S48) (g : Int) (h : MemoAt w AN cN N AG cG G AP cP P) (he : putT N G P n g = (a, b, c, x, y)) :
    Calls Try.prog 48 #[.agg #[.slice AN N.length cN, .slice AG G.length cG, .slice AP P.length cP], .agg #[.bool n.f0, .int .i64 n.f1, .int .i64 n.f2, .int .i64 n.f3], .int .i64 g] w fun e w' => ∃ A0 c0 A1 c1 A2 c2, e = .returned (.tuple #[.agg #[.slice A0 a.length c0, .slice A1 b.length c1, .slice A2 c.length c2], .int .i64 x, .int .i64 y]) ∧ MemoAt w' A0 c0 a A1 c1 b A2 c2 c ∧ Below w.heap.size w w' := by
  have := rput_at n g h
  rw [he] at this
  exact this
theorem rmerge_to {c : List Int} {x y : Int} (a b : Int) (h : MemoAt w AN cN N AG cG G AP cP P) (he : mergeT N G P a b = (c, x, y)) :
    Calls Try.prog 50 #[.agg #[.slice AN N.length cN, .slice AG G.length cG, .slice AP P.length cP], .int .i64 a, .int .i64 b] w fun e w' => ∃ A c0, e = .returned (.tuple #[.agg #[.slice AN N.length cN, .slice AG G.length cG, .slice A c.length c0], .int .i64 x, .int .i64 y]) ∧ MemoAt w' AN cN N AG cG G A c0 c ∧ Below w.heap.size w w' := by
  have := rmerge_at a b h
  rw [he] at this
  exact this
theorem few_at (m : Int) (h : MemoAt w AN cN N AG cG G AP cP P) : Calls Try.prog 39 #[.agg #[.slice AN N.length cN, .slice AG G.length cG, .slice AP P.length cP], .int .i64 m] w fun e w' => e = .returned (.bool (fewB N G P m)) ∧ Below w.heap.size w w' :=
  roadbooklaw16_few.calls _ _ _ _ _ _ _ _ _ _ _ _ h.n h.nc h.g h.gc h.p h.pc (few_k N G P m)
theorem fewB_iff : fewB N G P 60 = true ↔ N.length ≤ 60 ∧ G.length ≤ 60 ∧ P.length ≤ 60 := by
  unfold fewB
  simp only [Bool.and_eq_true, decide_eq_true_eq]
  omega
theorem tsame_at (h : MemoAt w AN cN N AG cG G AP cP P) (h' : MemoAt w AN' cN' N' AG' cG' G' AP' cP' P') (hf : fewB N G P 60 = true) (hf' : fewB N' G' P' 60 = true) :
    Calls Try.prog 46 #[.agg #[.slice AN N.length cN, .slice AG G.length cG, .slice AP P.length cP], .agg #[.slice AN' N'.length cN', .slice AG' G'.length cG', .slice AP' P'.length cP']] w fun e w' => e = .returned (.bool (sameM N G P N' G' P')) ∧ Below w.heap.size w w' := by
  have h1 := fewB_iff.1 hf
  have h2 := fewB_iff.1 hf'
  exact memo_Same.calls 2000 _ _ _ _ _ _ _ _ _ _ _ _ _ _ _ _ _ _ _ _ h.n h.nc h.g h.gc h.p h.pc h'.n h'.nc h'.g h'.gc h'.p h'.pc (msame_k (by omega) (by omega) (by omega) (by omega) (Nat.le_refl _))
/-- The three boxes, as they stay. -/
structure TBox (w W : World) (AN : Option Addr) (cN : Nat) (N : List S48) (AG : Option Addr) (cG : Nat) (G : List Int) (AP : Option Addr) (cP : Nat) (P : List Int) (AN' : Option Addr) (cN' : Nat) (N' : List S48) (AG' : Option Addr) (cG' : Nat) (G' : List Int) (AP' : Option Addr) (cP' : Nat) (P' : List Int) (n : S48) : Prop where
  bel : Below w.heap.size w W
  bm : MBox W w.heap.size AN cN N AG cG G AP cP P
  bk : MBox W (w.heap.size + 1) AN' cN' N' AG' cG' G' AP' cP' P'
  bn : NBox W (w.heap.size + 2) n
  mm : MemoAt W AN cN N AG cG G AP cP P
  m2 : MemoAt W AN' cN' N' AG' cG' G' AP' cP' P'
theorem TBox.below {W W' : World} {n : S48} (h : TBox w W AN cN N AG cG G AP cP P AN' cN' N' AG' cG' G' AP' cP' P' n) (hb : Below W.heap.size W W') : TBox w W' AN cN N AG cG G AP cP P AN' cN' N' AG' cG' G' AP' cP' P' n :=
  ⟨below_then h.bel h.bel.size hb, h.bm.below hb, h.bk.below hb, blk_below h.bn hb, h.mm.below hb, h.m2.below hb⟩
theorem TBox.new (n : S48) (h : MemoAt w AN cN N AG cG G AP cP P) (h' : MemoAt w AN' cN' N' AG' cG' G' AP' cP' P') : TBox w (((w.alloc (.cells #[.slice AN N.length cN, .slice AG G.length cG, .slice AP P.length cP] 38)).alloc (.cells #[.slice AN' N'.length cN', .slice AG' G'.length cG', .slice AP' P'.length cP'] 38)).alloc (.cells #[.bool n.f0, .int .i64 n.f1, .int .i64 n.f2, .int .i64 n.f3] 48)) AN cN N AG cG G AP cP P AN' cN' N' AG' cG' G' AP' cP' P' n := by
  obtain ⟨h1, h2, h3⟩ := box22_new w AN cN N AG cG G AP cP P AN' cN' N' AG' cG' G' AP' cP' P'
  have hb := below_alloc (Below.refl _ ((w.alloc (.cells #[.slice AN N.length cN, .slice AG G.length cG, .slice AP P.length cP] 38)).alloc (.cells #[.slice AN' N'.length cN', .slice AG' G'.length cG', .slice AP' P'.length cP'] 38))) (.cells #[.bool n.f0, .int .i64 n.f1, .int .i64 n.f2, .int .i64 n.f3] 48)
  have hn := heap_alloc_new ((w.alloc (.cells #[.slice AN N.length cN, .slice AG G.length cG, .slice AP P.length cP] 38)).alloc (.cells #[.slice AN' N'.length cN', .slice AG' G'.length cG', .slice AP' P'.length cP'] 38)) (.cells #[.bool n.f0, .int .i64 n.f1, .int .i64 n.f2, .int .i64 n.f3] 48)
  rw [rfl_size] at hn
  exact ⟨below_then h3 h3.size hb, h1.below hb, h2.below hb, hn, (h.below h3).below hb, (h'.below h3).below hb⟩
/-! ### the walk -/
set_option maxHeartbeats 16000000 in
set_option maxRecDepth 100000 in
theorem Tells_far (n : S48) (g q : Int) (h : MemoAt w AN cN N AG cG G AP cP P) (h' : MemoAt w AN' cN' N' AG' cG' G' AP' cP' P') (hno : fewB N G P 60 = false ∨ fewB N G P 60 = true ∧ fewB N' G' P' 60 = false) :
    Calls Try.prog 13 #[.agg #[.slice AN N.length cN, .slice AG G.length cG, .slice AP P.length cP], .agg #[.slice AN' N'.length cN', .slice AG' G'.length cG', .slice AP' P'.length cP'], .agg #[.bool n.f0, .int .i64 n.f1, .int .i64 n.f2, .int .i64 n.f3], .int .i64 g, .int .i64 q] w fun e w' => e = .returned (.bool true) ∧ Below w.heap.size w w' := by
  have HT := Aside0.mk (TBox.new n h h')
  have HU := Aside0.mk (fun W => roadbooklaw16_awake.calls 0 true W rfl)
  have HF := Aside0.mk (fun (W : World) (h : MemoAt W AN cN N AG cG G AP cP P) => few_at 60 h)
  have HF' := Aside0.mk (fun (W : World) (h : MemoAt W AN' cN' N' AG' cG' G' AP' cP' P') => few_at 60 h)
  obtain ⟨x, hx⟩ : ∃ x, x = fewB N G P 60 := ⟨_, rfl⟩
  obtain ⟨y, hy⟩ : ∃ x, x = fewB N' G' P' 60 := ⟨_, rfl⟩
  rw [← hx] at HF hno
  rw [← hy] at HF' hno
  clear h h' hx hy
  rcases hno with rfl | ⟨rfl, rfl⟩
  all_goals
    go_enter Try.func13, Try.ntmps13
    go_wp2_with (first | (go_at_call 39; refine (HF'.out _ HT2.out.m2).mono ?_; rintro e w3 ⟨rfl, hb⟩; have HT3 := Aside0.mk (HT2.out.below hb); clear hb) | (go_at_call 39; refine (HF.out _ HT1.out.mm).mono ?_; rintro e w2 ⟨rfl, hb⟩; have HT2 := Aside0.mk (HT1.out.below hb); obtain ⟨hb0, hb1, hb2⟩ := HT2.out.bk.cells; clear hb) | (go_at_call 38; refine (HU.out _).mono ?_; rintro e w1 ⟨rfl, hb⟩; have HT1 := Aside0.mk (HT.out.below hb); obtain ⟨ha0, ha1, ha2⟩ := HT1.out.bm.cells; clear hb))
    go_ret
    exact ⟨rfl, HT3.out.bel⟩
theorem self_same (N : List S48) (G P : List Int) : sameM N G P N G P = sameB P P := by
  unfold sameM
  rw [decide_eq_true rfl, decide_eq_true rfl, Bool.true_and, Bool.true_and]
set_option maxHeartbeats 64000000 in
set_option maxRecDepth 100000 in
theorem Tells_near_a {a : List S48} {b c p : List Int} {a4 a5 p4 p5 l1 : Int} {mm mp s1 s2 l2 : Bool} (n : S48) (g q : Int) (hL : Lim N G P) (h : MemoAt w AN cN N AG cG G AP cP P) (h' : MemoAt w AN' cN' N' AG' cG' G' AP' cP' P') (hf : fewB N G P 60 = true) (hf' : fewB N' G' P' 60 = true)
    (hput : putT N G P n g = (a, b, c, a4, a5)) (hmer : mergeT N G P g q = (p, p4, p5)) (hlook : lookS N G P n = (l1, l2)) (hs1 : sameM a b c a b c = s1) (hs2 : sameM N G p N G p = s2) (hmm : mayMB N G P = mm) (hmp : mayB P = mp) (hc : c.length ≤ 400) (hp : p.length ≤ 400)
    (hcase : mm = true ∧ s1 = true ∧ s2 = true) :
    Calls Try.prog 13 #[.agg #[.slice AN N.length cN, .slice AG G.length cG, .slice AP P.length cP], .agg #[.slice AN' N'.length cN', .slice AG' G'.length cG', .slice AP' P'.length cP'], .agg #[.bool n.f0, .int .i64 n.f1, .int .i64 n.f2, .int .i64 n.f3], .int .i64 g, .int .i64 q] w fun e w' => e = .returned (.bool true) ∧ Below w.heap.size w w' := by
  have HT := Aside0.mk (TBox.new n h h')
  have HU := Aside0.mk (fun W => roadbooklaw16_awake.calls 0 true W rfl)
  have HF := Aside0.mk (fun (W : World) (h : MemoAt W AN cN N AG cG G AP cP P) => few_at 60 h)
  have HF' := Aside0.mk (fun (W : World) (h : MemoAt W AN' cN' N' AG' cG' G' AP' cP' P') => few_at 60 h)
  have HPu := Aside0.mk (fun (W : World) (h : MemoAt W AN cN N AG cG G AP cP P) => tput_at n g hL h hput)
  have HRp := Aside0.mk (fun (W : World) (h : MemoAt W AN cN N AG cG G AP cP P) => rput_to n g h hput)
  have HMe := Aside0.mk (fun (W : World) (h : MemoAt W AN cN N AG cG G AP cP P) => tmerge_at g q hL h hmer)
  have HRm := Aside0.mk (fun (W : World) (h : MemoAt W AN cN N AG cG G AP cP P) => rmerge_to g q h hmer)
  have HLo := Aside0.mk (fun (W : World) (h : MemoAt W AN cN N AG cG G AP cP P) => Look_calls n h)
  have HRl := Aside0.mk (fun (W : World) (h : MemoAt W AN cN N AG cG G AP cP P) => rlook_at n h)
  have HMy := Aside0.mk (fun (W : World) (h : MemoAt W AN cN N AG cG G AP cP P) => mmay_calls h)
  have HRy := Aside0.mk (fun (W : World) (h : MemoAt W AN cN N AG cG G AP cP P) => rmay_at h)
  have HSy := Aside0.mk (fun (W : World) (h : MemoAt W AN cN N AG cG G AP cP P) => (may_calls AP cP P W h.p h.pc).mono (fun e w' ⟨he, hd⟩ => (⟨he, hd.below⟩ : _ ∧ Below W.heap.size W w')))
  have HS1 := Aside0.mk (fun {W : World} {A0 A1 A2 B0 B1 B2 : Option Addr} {c0 c1 c2 d0 d1 d2 : Nat} (h : MemoAt W A0 c0 a A1 c1 b A2 c2 c) (h' : MemoAt W B0 d0 a B1 d1 b B2 d2 c) => rsame_at h h' (by omega) (by omega))
  have HS2 := Aside0.mk (fun {W : World} {A0 A1 A2 B0 B1 B2 : Option Addr} {c0 c1 c2 d0 d1 d2 : Nat} (h : MemoAt W A0 c0 N A1 c1 G A2 c2 p) (h' : MemoAt W B0 d0 N B1 d1 G B2 d2 p) => rsame_at h h' (by omega) (by omega))
  have HFE := Aside0.mk hf
  have HFE' := Aside0.mk hf'
  rw [hf] at HF
  rw [hf'] at HF'
  rw [hlook] at HLo HRl
  rw [hmm] at HMy HRy
  rw [hmp] at HSy
  rw [hs1] at HS1
  rw [hs2] at HS2
  clear h h' hf hf' hput hmer hlook hs1 hs2 hmm hmp hc hp
  obtain ⟨rfl, rfl, rfl⟩ := hcase
  go_enter Try.func13, Try.ntmps13
  go_wp2_with (first
    | (go_at_call 39; refine (HF'.out _ HT2.out.m2).mono ?_; rintro e w3 ⟨rfl, hb⟩; have HT3 := Aside0.mk (HT2.out.below hb); clear hb; clear hb0 hb1 hb2; obtain ⟨hc0, hc1, hc2⟩ := HT3.out.bm.cells; obtain ⟨hn0, hn1, hn2, hn3⟩ := HT3.out.bn.cells)
    | (go_at_call 39; refine (HF.out _ HT1.out.mm).mono ?_; rintro e w2 ⟨rfl, hb⟩; have HT2 := Aside0.mk (HT1.out.below hb); clear ha0 ha1 ha2; obtain ⟨hb0, hb1, hb2⟩ := HT2.out.bk.cells; clear hb)
    | (go_at_call 38; refine (HU.out _).mono ?_; rintro e w1 ⟨rfl, hb⟩; have HT1 := Aside0.mk (HT.out.below hb); obtain ⟨ha0, ha1, ha2⟩ := HT1.out.bm.cells; clear hb)
    | (go_at_call 47; refine (HPu.out _ HT3.out.mm).mono ?_; rintro e w4 ⟨A0, c0, A1, c1, A2, c2, rfl, hM, hb⟩; have HAX := Aside0.mk (box_new w4 A0 c0 a A1 c1 b A2 c2 c); have HA5 := Aside0.mk (hM.below (below_alloc (Below.refl _ _) (.cells #[.slice A0 a.length c0, .slice A1 b.length c1, .slice A2 c.length c2] 38))); have HT4 := Aside0.mk ((HT3.out.below hb).below (below_alloc (Below.refl _ _) (.cells #[.slice A0 a.length c0, .slice A1 b.length c1, .slice A2 c.length c2] 38))); clear hb hM hc0 hc1 hc2 hn0 hn1 hn2 hn3; obtain ⟨hc0, hc1, hc2⟩ := HT4.out.bm.cells; obtain ⟨hn0, hn1, hn2, hn3⟩ := HT4.out.bn.cells)
    | (go_at_call 48; refine (HRp.out _ HT4.out.mm).mono ?_; rintro e w5 ⟨B0, d0, B1, d1, B2, d2, rfl, hM, hb⟩; have HBX := Aside0.mk (box_new w5 B0 d0 a B1 d1 b B2 d2 c); have HB5 := Aside0.mk (hM.below (below_alloc (Below.refl _ _) (.cells #[.slice B0 a.length d0, .slice B1 b.length d1, .slice B2 c.length d2] 38))); have HT5 := Aside0.mk ((HT4.out.below hb).below (below_alloc (Below.refl _ _) (.cells #[.slice B0 a.length d0, .slice B1 b.length d1, .slice B2 c.length d2] 38))); have HAX5 := Aside0.mk ((HAX.out.below hb).below (below_alloc (Below.refl _ _) (.cells #[.slice B0 a.length d0, .slice B1 b.length d1, .slice B2 c.length d2] 38))); have HA6 := Aside0.mk ((HA5.out.below hb).below (below_alloc (Below.refl _ _) (.cells #[.slice B0 a.length d0, .slice B1 b.length d1, .slice B2 c.length d2] 38))); clear hb hM hc0 hc1 hc2 hn0 hn1 hn2 hn3; obtain ⟨hx0, hx1, hx2⟩ := HAX5.out.cells; obtain ⟨hy0, hy1, hy2⟩ := HBX.out.cells)
    | (go_at_call 49; refine (HS2.out HP8.out HD8.out).mono ?_; rintro e w9 ⟨rfl, hb⟩; have HT9 := Aside0.mk (HT8.out.below hb); clear hb hx0 hx1 hx2 hy0 hy1 hy2; obtain ⟨hc0, hc1, hc2⟩ := HT9.out.bm.cells; obtain ⟨hn0, hn1, hn2, hn3⟩ := HT9.out.bn.cells)
    | (go_at_call 49; refine (HS1.out HA6.out HB5.out).mono ?_; rintro e w6 ⟨rfl, hb⟩; have HT6 := Aside0.mk (HT5.out.below hb); clear hb hx0 hx1 hx2 hy0 hy1 hy2; obtain ⟨hc0, hc1, hc2⟩ := HT6.out.bm.cells)
    | (go_at_call 40; refine (HMe.out _ HT6.out.mm).mono ?_; rintro e w7 ⟨A0, c0, A1, c1, A2, c2, rfl, hM, hb⟩; have HPX := Aside0.mk (box_new w7 A0 c0 N A1 c1 G A2 c2 p); have HP7 := Aside0.mk (hM.below (below_alloc (Below.refl _ _) (.cells #[.slice A0 N.length c0, .slice A1 G.length c1, .slice A2 p.length c2] 38))); have HT7 := Aside0.mk ((HT6.out.below hb).below (below_alloc (Below.refl _ _) (.cells #[.slice A0 N.length c0, .slice A1 G.length c1, .slice A2 p.length c2] 38))); clear hb hM hc0 hc1 hc2; obtain ⟨hc0, hc1, hc2⟩ := HT7.out.bm.cells)
    | (go_at_call 50; refine (HRm.out _ HT7.out.mm).mono ?_; rintro e w8 ⟨D2, e2, rfl, hM, hb⟩; have HDX := Aside0.mk (box_new w8 AN cN N AG cG G D2 e2 p); have HD8 := Aside0.mk (hM.below (below_alloc (Below.refl _ _) (.cells #[.slice AN N.length cN, .slice AG G.length cG, .slice D2 p.length e2] 38))); have HT8 := Aside0.mk ((HT7.out.below hb).below (below_alloc (Below.refl _ _) (.cells #[.slice AN N.length cN, .slice AG G.length cG, .slice D2 p.length e2] 38))); have HPX8 := Aside0.mk ((HPX.out.below hb).below (below_alloc (Below.refl _ _) (.cells #[.slice AN N.length cN, .slice AG G.length cG, .slice D2 p.length e2] 38))); have HP8 := Aside0.mk ((HP7.out.below hb).below (below_alloc (Below.refl _ _) (.cells #[.slice AN N.length cN, .slice AG G.length cG, .slice D2 p.length e2] 38))); clear hb hM hc0 hc1 hc2; obtain ⟨hx0, hx1, hx2⟩ := HPX8.out.cells; obtain ⟨hy0, hy1, hy2⟩ := HDX.out.cells)
    | (go_at_call 45; refine (HLo.out _ HT9.out.mm).mono ?_; rintro e wa ⟨rfl, hb⟩; have HTa := Aside0.mk (HT9.out.below hb); clear hb hc0 hc1 hc2 hn0 hn1 hn2 hn3; obtain ⟨hc0, hc1, hc2⟩ := HTa.out.bm.cells; obtain ⟨hn0, hn1, hn2, hn3⟩ := HTa.out.bn.cells)
    | (go_at_call 51; refine (HRl.out _ HTa.out.mm).mono ?_; rintro e wb ⟨rfl, hb⟩; have HTb := Aside0.mk (HTa.out.below hb); clear hb hc0 hc1 hc2 hn0 hn1 hn2 hn3; obtain ⟨hc0, hc1, hc2⟩ := HTb.out.bm.cells)
    | (go_at_call 41; refine (HMy.out _ HTb.out.mm).mono ?_; rintro e wc ⟨rfl, hb⟩; have HTc := Aside0.mk (HTb.out.below hb); clear hb hc0 hc1 hc2; obtain ⟨hc0, hc1, hc2⟩ := HTc.out.bm.cells)
    | (go_at_call 25; refine (HSy.out _ HTc.out.mm).mono ?_; rintro e wd ⟨rfl, hb⟩; have HTd := Aside0.mk (HTc.out.below hb); clear hb))
  first | have HTz := HTd | have HTz := HTc
  clear hc0 hc1 hc2
  obtain ⟨hc0, hc1, hc2⟩ := HTz.out.bm.cells
  obtain ⟨hk0, hk1, hk2⟩ := HTz.out.bk.cells
  obtain ⟨hn0, hn1, hn2, hn3⟩ := HTz.out.bn.cells
  obtain ⟨sv, hsv⟩ : ∃ x, x = sameM N G P N' G' P' := ⟨_, rfl⟩
  obtain ⟨fv, hfv⟩ : ∃ x, x = findS P g := ⟨_, rfl⟩
  obtain ⟨cv, hcv⟩ : ∃ x, x = CanonS N G P n := ⟨_, rfl⟩
  have p0 := fun d os => cell_regrown hc0 d os
  have p1 := fun d os => cell_regrown hc1 d os
  have p2 := fun d os => cell_regrown hc2 d os
  have q0 := fun d os => cell_regrown hk0 d os
  have q1 := fun d os => cell_regrown hk1 d os
  have q2 := fun d os => cell_regrown hk2 d os
  have r0 := fun d os => cell_regrown hn0 d os
  have r1 := fun d os => cell_regrown hn1 d os
  have r2 := fun d os => cell_regrown hn2 d os
  have r3 := fun d os => cell_regrown hn3 d os
  have x1 := fun d os => QR.bel (HMy.out _ (HTz.out.below (below_regrown _ d os)).mm)
  have x2 := fun d os => QR.bel (HRy.out _ (HTz.out.below (below_regrown _ d os)).mm)
  have x3 := fun d os => QR.bel (tsame_at (HTz.out.below (below_regrown _ d os)).mm (HTz.out.below (below_regrown _ d os)).m2 HFE.out HFE'.out)
  have x4 := fun d os => QR.bel (rsame_at (HTz.out.below (below_regrown _ d os)).mm (HTz.out.below (below_regrown _ d os)).m2 (by have := (fewB_iff.1 HFE.out).2.2; omega) (by have := (fewB_iff.1 HFE'.out).2.2; omega))
  have x5 := fun d os => QR.bel (Find_calls g (HTz.out.below (below_regrown _ d os)).mm)
  have x6 := fun d os => QR.bel (rfind_at g (HTz.out.below (below_regrown _ d os)).mm)
  have x7 := fun d os => QR.bel (Canon_calls n (HTz.out.below (below_regrown _ d os)).mm)
  have x8 := fun d os => QR.bel (rcanon_at n (HTz.out.below (below_regrown _ d os)).mm)
  rw [← hsv] at x3 x4
  rw [← hfv] at x5 x6
  rw [← hcv] at x7 x8
  clear hsv hfv hcv
  refine QR.region_mid 61 #[true, true, true, true, true, true, true, true, true, true, true, true, true, true, true, true, true, true, true, true, true, true, true, true, true, true, true, true, true, true, true, true, true, true, true, true, true, true, true, true, true, true, true, true, true, true, true, true, true, true, true, true, true, true, true, true, true, true, true, true, true, true, false, false, false, false, false, false, false, false, false] (fun w' => TBox w w' AN cN N AG cG G AP cP P AN' cN' N' AG' cG' G' AP' cP' P' n) [] (by first | assumption | kernel_rfl) (by kernel_rfl) ?_
  simp only [List.append_eq, List.cons_append, List.nil_append, List.take_succ_cons, List.take_zero]
  repeat (refine QR.txt_step (fun K hK => ?_); have HK := Aside0.mk hK; clear hK; go_simp; first | (refine HK.out _ ?_; clear HK K) | (apply Exists.intro; refine ⟨fun _ => ?_, HK.out _ ?_⟩; (first | with_reducible exact x8 _ _ | with_reducible exact x7 _ _ | with_reducible exact x6 _ _ | with_reducible exact x5 _ _ | with_reducible exact x4 _ _ | with_reducible exact x3 _ _ | with_reducible exact x2 _ _ | with_reducible exact x1 _ _); clear HK K))
  refine QR.txt_nil ?_
  intro wv hwv
  have HTv := Aside0.mk (HTz.out.below hwv.below)
  clear hwv p0 p1 p2 q0 q1 q2 r0 r1 r2 r3 x1 x2 x3 x4 x5 x6 x7 x8 hc0 hc1 hc2 hk0 hk1 hk2 hn0 hn1 hn2 hn3
  refine take_ (i := 62) (N := some 190) (v := ?_) (a' := ?_) #[true, true, true, true, true, true, true, true, true, true, true, true, true, true, true, true, true, true, true, true, true, true, true, true, true, true, true, true, true, true, true, true, true, true, true, true, true, true, true, true, true, true, true, true, true, true, true, true, true, true, true, true, true, true, true, true, true, true, true, true, true, true, true, false, false, false, false, false, false, false, false] rfl rfl (by kernel_rfl) (fun _ _ _ h => h) (Or.inl ⟨by rfl, ?_⟩) HTv.out ?_ ?_
  rotate_left
  · intro w' hs; obtain ⟨s0, s1, s2⟩ := hs.bm.cells; clear hs; go_simp; with_reducible rfl
  rotate_left
  · simp only [Act.put, List.setIfInBounds_toArray, List.set_cons_zero, List.set_cons_succ, i64_w, i32_w]; rfl
  refine pure_ (i := 63) (N := some 191) (v := ?_) (a' := ?_) #[true, true, true, true, true, true, true, true, true, true, true, true, true, true, true, true, true, true, true, true, true, true, true, true, true, true, true, true, true, true, true, true, true, true, true, true, true, true, true, true, true, true, true, true, true, true, true, true, true, true, true, true, true, true, true, true, true, true, true, true, true, true, true, true, false, false, false, false, false, false, false] rfl rfl (by kernel_rfl) (fun _ _ _ h => h) (Or.inl ⟨by rfl, ?_⟩) ?_ ?_
  rotate_left
  · intro w'; go_simp; with_reducible rfl
  rotate_left
  · simp only [Act.put, List.setIfInBounds_toArray, List.set_cons_zero, List.set_cons_succ, i64_w, i32_w]; rfl
  refine take_ (i := 65) (N := some 193) (v := ?_) (a' := ?_) #[true, true, true, true, true, true, true, true, true, true, true, true, true, true, true, true, true, true, true, true, true, true, true, true, true, true, true, true, true, true, true, true, true, true, true, true, true, true, true, true, true, true, true, true, true, true, true, true, true, true, true, true, true, true, true, true, true, true, true, true, true, true, true, true, false, true, false, false, false, false, false] rfl rfl (by kernel_rfl) (fun _ _ _ h => h) (Or.inl ⟨by rfl, ?_⟩) HTv.out ?_ ?_
  rotate_left
  · intro w' hs; obtain ⟨s0, s1, s2⟩ := hs.bm.cells; clear hs; go_simp; with_reducible rfl
  rotate_left
  · simp only [Act.put, List.setIfInBounds_toArray, List.set_cons_zero, List.set_cons_succ, i64_w, i32_w]; rfl
  refine pure_ (i := 66) (N := some 194) (v := ?_) (a' := ?_) #[true, true, true, true, true, true, true, true, true, true, true, true, true, true, true, true, true, true, true, true, true, true, true, true, true, true, true, true, true, true, true, true, true, true, true, true, true, true, true, true, true, true, true, true, true, true, true, true, true, true, true, true, true, true, true, true, true, true, true, true, true, true, true, true, false, true, true, false, false, false, false] rfl rfl (by kernel_rfl) (fun _ _ _ h => h) (Or.inl ⟨by rfl, ?_⟩) ?_ ?_
  rotate_left
  · intro w'; go_simp; with_reducible rfl
  rotate_left
  · simp only [Act.put, List.setIfInBounds_toArray, List.set_cons_zero, List.set_cons_succ, i64_w, i32_w]; rfl
  refine one_ (i := 64) (N := some 192) #[true, true, true, true, true, true, true, true, true, true, true, true, true, true, true, true, true, true, true, true, true, true, true, true, true, true, true, true, true, true, true, true, true, true, true, true, true, true, true, true, true, true, true, true, true, true, true, true, true, true, true, true, true, true, true, true, true, true, true, true, true, true, true, true, true, true, true, false, false, false, false] rfl rfl (by kernel_rfl) (by decide) (fun K hK => ?_)
  refine goes_ Try.func43 (by kernel_rfl) rfl #[.agg #[.slice AN N.length cN, .slice AG G.length cG, .slice AP P.length cP], .int .i64 g] (by rfl) rfl rfl (by first | (simp only [List.map_toArray, List.map_cons, List.map_nil, Act.eval, List.getD_toArray, List.getD_cons_succ, List.getD_cons_zero]; done) | (simp only [List.map_toArray, List.map_cons, List.map_nil]; rfl) | (go_simp; done) | (go_simp; rfl) | (simp [Act.eval]; done)) ?_
  refine (Of_calls g HTv.out.mm).mono ?_
  rintro e we ⟨v, rfl, hr, hb⟩
  obtain ⟨E0, f0, rfl, hl0, hc0⟩ := Kd.R_reads hr
  have HTe := Aside0.mk (HTv.out.below hb)
  have HE0 := Aside0.mk (And.intro hc0 hl0)
  refine ⟨_, rfl, hK.out _ _ HTe.out (fun _ => ?_)⟩
  clear hr hb hl0 hc0 hK K HTv
  refine norm_ (a' := ?_) ?_ ?_
  rotate_left
  · show Act.put _ (some 192) _ = _
    simp only [Act.put, List.setIfInBounds_toArray, List.set_cons_zero, List.set_cons_succ, i64_w, i32_w]; rfl
  refine one_ (i := 67) (N := some 195) #[true, true, true, true, true, true, true, true, true, true, true, true, true, true, true, true, true, true, true, true, true, true, true, true, true, true, true, true, true, true, true, true, true, true, true, true, true, true, true, true, true, true, true, true, true, true, true, true, true, true, true, true, true, true, true, true, true, true, true, true, true, true, true, true, true, true, true, true, false, false, false] rfl rfl (by kernel_rfl) (by decide) (fun K hK => ?_)
  refine goes_ Try.func55 (by kernel_rfl) rfl #[.agg #[.slice AN N.length cN, .slice AG G.length cG, .slice AP P.length cP], .int .i64 g] (by rfl) rfl rfl (by first | (simp only [List.map_toArray, List.map_cons, List.map_nil, Act.eval, List.getD_toArray, List.getD_cons_succ, List.getD_cons_zero]; done) | (simp only [List.map_toArray, List.map_cons, List.map_nil]; rfl) | (go_simp; done) | (go_simp; rfl) | (simp [Act.eval]; done)) ?_
  refine (rof_at g HTe.out.mm).mono ?_
  rintro e wf ⟨E1, f1, rfl, hl1, hc1, hb⟩
  have HTf := Aside0.mk (HTe.out.below hb)
  have HE0' := Aside0.mk (And.intro (Kd.C_below HE0.out.1 hb) HE0.out.2)
  have HE1 := Aside0.mk (And.intro hc1 hl1)
  refine ⟨_, rfl, hK.out _ _ HTf.out (fun _ => ?_)⟩
  clear hb hl1 hc1 hK K HTe HE0
  refine norm_ (a' := ?_) ?_ ?_
  rotate_left
  · show Act.put _ (some 195) _ = _
    simp only [Act.put, List.setIfInBounds_toArray, List.set_cons_zero, List.set_cons_succ, i64_w, i32_w]; rfl
  refine one_ (i := 68) (N := some 196) #[true, true, true, true, true, true, true, true, true, true, true, true, true, true, true, true, true, true, true, true, true, true, true, true, true, true, true, true, true, true, true, true, true, true, true, true, true, true, true, true, true, true, true, true, true, true, true, true, true, true, true, true, true, true, true, true, true, true, true, true, true, true, true, true, true, true, true, true, true, false, false] rfl rfl (by kernel_rfl) (by decide) (fun K hK => ?_)
  refine goes_ Try.func27 (by kernel_rfl) rfl #[.slice E0 (ofS N G P g).length f0, .slice E1 (ofS N G P g).length f1] (by rfl) rfl rfl (by first | (simp only [List.map_toArray, List.map_cons, List.map_nil, Act.eval, List.getD_toArray, List.getD_cons_succ, List.getD_cons_zero]; done) | (simp only [List.map_toArray, List.map_cons, List.map_nil]; rfl) | (go_simp; done) | (go_simp; rfl) | (simp [Act.eval]; done)) ?_
  refine (roadbookref02_Ints.calls ((ofS N G P g).length + 1) _ _ _ _ _ _ true _ HE0'.out.1 HE0'.out.2 HE1.out.1 HE1.out.2 (by rw [ints_k _ _ _ HE1.out.1.2.1 (by omega), decide_eq_true rfl])).mono ?_
  rintro e wg ⟨rfl, hd⟩
  have HTg := Aside0.mk (HTf.out.below hd.below)
  refine ⟨_, rfl, hK.out _ _ HTg.out (fun _ => ?_)⟩
  clear hd hK K HTf HE0' HE1
  refine norm_ (a' := ?_) ?_ ?_
  rotate_left
  · show Act.put _ (some 196) _ = _
    simp only [Act.put, List.setIfInBounds_toArray, List.set_cons_zero, List.set_cons_succ, i64_w, i32_w]; rfl
  refine pure_ (i := 69) (N := some 197) (v := ?_) (a' := ?_) #[true, true, true, true, true, true, true, true, true, true, true, true, true, true, true, true, true, true, true, true, true, true, true, true, true, true, true, true, true, true, true, true, true, true, true, true, true, true, true, true, true, true, true, true, true, true, true, true, true, true, true, true, true, true, true, true, true, true, true, true, true, true, true, true, true, true, true, true, true, true, false] rfl rfl (by kernel_rfl) (fun _ _ _ h => h) (Or.inl ⟨by rfl, ?_⟩) ?_ ?_
  rotate_left
  · intro w'; go_simp; with_reducible rfl
  rotate_left
  · simp only [Act.put, List.setIfInBounds_toArray, List.set_cons_zero, List.set_cons_succ, i64_w, i32_w]; rfl
  refine pure_ (i := 70) (N := some 10) (v := ?_) (a' := ?_) #[true, true, true, true, true, true, true, true, true, true, true, true, true, true, true, true, true, true, true, true, true, true, true, true, true, true, true, true, true, true, true, true, true, true, true, true, true, true, true, true, true, true, true, true, true, true, true, true, true, true, true, true, true, true, true, true, true, true, true, true, true, true, true, true, true, true, true, true, true, true, true] rfl rfl (by kernel_rfl) (fun _ _ _ h => h) (Or.inl ⟨by rfl, ?_⟩) ?_ ?_
  rotate_left
  · intro w'; go_simp; with_reducible rfl
  rotate_left
  · simp only [Act.put, List.setIfInBounds_toArray, List.set_cons_zero, List.set_cons_succ, i64_w, i32_w]; rfl
  refine done_ (by kernel_rfl) ?_
  go_wp2
  go_ret
  exact ⟨rfl, HTg.out.bel⟩
set_option maxHeartbeats 64000000 in
set_option maxRecDepth 100000 in
theorem Tells_near_b {a : List S48} {b c p : List Int} {a4 a5 p4 p5 l1 : Int} {mm mp s1 s2 l2 : Bool} (n : S48) (g q : Int) (hL : Lim N G P) (h : MemoAt w AN cN N AG cG G AP cP P) (h' : MemoAt w AN' cN' N' AG' cG' G' AP' cP' P') (hf : fewB N G P 60 = true) (hf' : fewB N' G' P' 60 = true)
    (hput : putT N G P n g = (a, b, c, a4, a5)) (hmer : mergeT N G P g q = (p, p4, p5)) (hlook : lookS N G P n = (l1, l2)) (hs1 : sameM a b c a b c = s1) (hs2 : sameM N G p N G p = s2) (hmm : mayMB N G P = mm) (hmp : mayB P = mp) (hc : c.length ≤ 400) (hp : p.length ≤ 400)
    (hcase : mm = false ∧ mp = true ∧ s1 = true ∧ s2 = true) :
    Calls Try.prog 13 #[.agg #[.slice AN N.length cN, .slice AG G.length cG, .slice AP P.length cP], .agg #[.slice AN' N'.length cN', .slice AG' G'.length cG', .slice AP' P'.length cP'], .agg #[.bool n.f0, .int .i64 n.f1, .int .i64 n.f2, .int .i64 n.f3], .int .i64 g, .int .i64 q] w fun e w' => e = .returned (.bool true) ∧ Below w.heap.size w w' := by
  have HT := Aside0.mk (TBox.new n h h')
  have HU := Aside0.mk (fun W => roadbooklaw16_awake.calls 0 true W rfl)
  have HF := Aside0.mk (fun (W : World) (h : MemoAt W AN cN N AG cG G AP cP P) => few_at 60 h)
  have HF' := Aside0.mk (fun (W : World) (h : MemoAt W AN' cN' N' AG' cG' G' AP' cP' P') => few_at 60 h)
  have HPu := Aside0.mk (fun (W : World) (h : MemoAt W AN cN N AG cG G AP cP P) => tput_at n g hL h hput)
  have HRp := Aside0.mk (fun (W : World) (h : MemoAt W AN cN N AG cG G AP cP P) => rput_to n g h hput)
  have HMe := Aside0.mk (fun (W : World) (h : MemoAt W AN cN N AG cG G AP cP P) => tmerge_at g q hL h hmer)
  have HRm := Aside0.mk (fun (W : World) (h : MemoAt W AN cN N AG cG G AP cP P) => rmerge_to g q h hmer)
  have HLo := Aside0.mk (fun (W : World) (h : MemoAt W AN cN N AG cG G AP cP P) => Look_calls n h)
  have HRl := Aside0.mk (fun (W : World) (h : MemoAt W AN cN N AG cG G AP cP P) => rlook_at n h)
  have HMy := Aside0.mk (fun (W : World) (h : MemoAt W AN cN N AG cG G AP cP P) => mmay_calls h)
  have HRy := Aside0.mk (fun (W : World) (h : MemoAt W AN cN N AG cG G AP cP P) => rmay_at h)
  have HSy := Aside0.mk (fun (W : World) (h : MemoAt W AN cN N AG cG G AP cP P) => (may_calls AP cP P W h.p h.pc).mono (fun e w' ⟨he, hd⟩ => (⟨he, hd.below⟩ : _ ∧ Below W.heap.size W w')))
  have HS1 := Aside0.mk (fun {W : World} {A0 A1 A2 B0 B1 B2 : Option Addr} {c0 c1 c2 d0 d1 d2 : Nat} (h : MemoAt W A0 c0 a A1 c1 b A2 c2 c) (h' : MemoAt W B0 d0 a B1 d1 b B2 d2 c) => rsame_at h h' (by omega) (by omega))
  have HS2 := Aside0.mk (fun {W : World} {A0 A1 A2 B0 B1 B2 : Option Addr} {c0 c1 c2 d0 d1 d2 : Nat} (h : MemoAt W A0 c0 N A1 c1 G A2 c2 p) (h' : MemoAt W B0 d0 N B1 d1 G B2 d2 p) => rsame_at h h' (by omega) (by omega))
  have HFE := Aside0.mk hf
  have HFE' := Aside0.mk hf'
  rw [hf] at HF
  rw [hf'] at HF'
  rw [hlook] at HLo HRl
  rw [hmm] at HMy HRy
  rw [hmp] at HSy
  rw [hs1] at HS1
  rw [hs2] at HS2
  clear h h' hf hf' hput hmer hlook hs1 hs2 hmm hmp hc hp
  obtain ⟨rfl, rfl, rfl, rfl⟩ := hcase
  go_enter Try.func13, Try.ntmps13
  go_wp2_with (first
    | (go_at_call 39; refine (HF'.out _ HT2.out.m2).mono ?_; rintro e w3 ⟨rfl, hb⟩; have HT3 := Aside0.mk (HT2.out.below hb); clear hb; clear hb0 hb1 hb2; obtain ⟨hc0, hc1, hc2⟩ := HT3.out.bm.cells; obtain ⟨hn0, hn1, hn2, hn3⟩ := HT3.out.bn.cells)
    | (go_at_call 39; refine (HF.out _ HT1.out.mm).mono ?_; rintro e w2 ⟨rfl, hb⟩; have HT2 := Aside0.mk (HT1.out.below hb); clear ha0 ha1 ha2; obtain ⟨hb0, hb1, hb2⟩ := HT2.out.bk.cells; clear hb)
    | (go_at_call 38; refine (HU.out _).mono ?_; rintro e w1 ⟨rfl, hb⟩; have HT1 := Aside0.mk (HT.out.below hb); obtain ⟨ha0, ha1, ha2⟩ := HT1.out.bm.cells; clear hb)
    | (go_at_call 47; refine (HPu.out _ HT3.out.mm).mono ?_; rintro e w4 ⟨A0, c0, A1, c1, A2, c2, rfl, hM, hb⟩; have HAX := Aside0.mk (box_new w4 A0 c0 a A1 c1 b A2 c2 c); have HA5 := Aside0.mk (hM.below (below_alloc (Below.refl _ _) (.cells #[.slice A0 a.length c0, .slice A1 b.length c1, .slice A2 c.length c2] 38))); have HT4 := Aside0.mk ((HT3.out.below hb).below (below_alloc (Below.refl _ _) (.cells #[.slice A0 a.length c0, .slice A1 b.length c1, .slice A2 c.length c2] 38))); clear hb hM hc0 hc1 hc2 hn0 hn1 hn2 hn3; obtain ⟨hc0, hc1, hc2⟩ := HT4.out.bm.cells; obtain ⟨hn0, hn1, hn2, hn3⟩ := HT4.out.bn.cells)
    | (go_at_call 48; refine (HRp.out _ HT4.out.mm).mono ?_; rintro e w5 ⟨B0, d0, B1, d1, B2, d2, rfl, hM, hb⟩; have HBX := Aside0.mk (box_new w5 B0 d0 a B1 d1 b B2 d2 c); have HB5 := Aside0.mk (hM.below (below_alloc (Below.refl _ _) (.cells #[.slice B0 a.length d0, .slice B1 b.length d1, .slice B2 c.length d2] 38))); have HT5 := Aside0.mk ((HT4.out.below hb).below (below_alloc (Below.refl _ _) (.cells #[.slice B0 a.length d0, .slice B1 b.length d1, .slice B2 c.length d2] 38))); have HAX5 := Aside0.mk ((HAX.out.below hb).below (below_alloc (Below.refl _ _) (.cells #[.slice B0 a.length d0, .slice B1 b.length d1, .slice B2 c.length d2] 38))); have HA6 := Aside0.mk ((HA5.out.below hb).below (below_alloc (Below.refl _ _) (.cells #[.slice B0 a.length d0, .slice B1 b.length d1, .slice B2 c.length d2] 38))); clear hb hM hc0 hc1 hc2 hn0 hn1 hn2 hn3; obtain ⟨hx0, hx1, hx2⟩ := HAX5.out.cells; obtain ⟨hy0, hy1, hy2⟩ := HBX.out.cells)
    | (go_at_call 49; refine (HS2.out HP8.out HD8.out).mono ?_; rintro e w9 ⟨rfl, hb⟩; have HT9 := Aside0.mk (HT8.out.below hb); clear hb hx0 hx1 hx2 hy0 hy1 hy2; obtain ⟨hc0, hc1, hc2⟩ := HT9.out.bm.cells; obtain ⟨hn0, hn1, hn2, hn3⟩ := HT9.out.bn.cells)
    | (go_at_call 49; refine (HS1.out HA6.out HB5.out).mono ?_; rintro e w6 ⟨rfl, hb⟩; have HT6 := Aside0.mk (HT5.out.below hb); clear hb hx0 hx1 hx2 hy0 hy1 hy2; obtain ⟨hc0, hc1, hc2⟩ := HT6.out.bm.cells)
    | (go_at_call 40; refine (HMe.out _ HT6.out.mm).mono ?_; rintro e w7 ⟨A0, c0, A1, c1, A2, c2, rfl, hM, hb⟩; have HPX := Aside0.mk (box_new w7 A0 c0 N A1 c1 G A2 c2 p); have HP7 := Aside0.mk (hM.below (below_alloc (Below.refl _ _) (.cells #[.slice A0 N.length c0, .slice A1 G.length c1, .slice A2 p.length c2] 38))); have HT7 := Aside0.mk ((HT6.out.below hb).below (below_alloc (Below.refl _ _) (.cells #[.slice A0 N.length c0, .slice A1 G.length c1, .slice A2 p.length c2] 38))); clear hb hM hc0 hc1 hc2; obtain ⟨hc0, hc1, hc2⟩ := HT7.out.bm.cells)
    | (go_at_call 50; refine (HRm.out _ HT7.out.mm).mono ?_; rintro e w8 ⟨D2, e2, rfl, hM, hb⟩; have HDX := Aside0.mk (box_new w8 AN cN N AG cG G D2 e2 p); have HD8 := Aside0.mk (hM.below (below_alloc (Below.refl _ _) (.cells #[.slice AN N.length cN, .slice AG G.length cG, .slice D2 p.length e2] 38))); have HT8 := Aside0.mk ((HT7.out.below hb).below (below_alloc (Below.refl _ _) (.cells #[.slice AN N.length cN, .slice AG G.length cG, .slice D2 p.length e2] 38))); have HPX8 := Aside0.mk ((HPX.out.below hb).below (below_alloc (Below.refl _ _) (.cells #[.slice AN N.length cN, .slice AG G.length cG, .slice D2 p.length e2] 38))); have HP8 := Aside0.mk ((HP7.out.below hb).below (below_alloc (Below.refl _ _) (.cells #[.slice AN N.length cN, .slice AG G.length cG, .slice D2 p.length e2] 38))); clear hb hM hc0 hc1 hc2; obtain ⟨hx0, hx1, hx2⟩ := HPX8.out.cells; obtain ⟨hy0, hy1, hy2⟩ := HDX.out.cells)
    | (go_at_call 45; refine (HLo.out _ HT9.out.mm).mono ?_; rintro e wa ⟨rfl, hb⟩; have HTa := Aside0.mk (HT9.out.below hb); clear hb hc0 hc1 hc2 hn0 hn1 hn2 hn3; obtain ⟨hc0, hc1, hc2⟩ := HTa.out.bm.cells; obtain ⟨hn0, hn1, hn2, hn3⟩ := HTa.out.bn.cells)
    | (go_at_call 51; refine (HRl.out _ HTa.out.mm).mono ?_; rintro e wb ⟨rfl, hb⟩; have HTb := Aside0.mk (HTa.out.below hb); clear hb hc0 hc1 hc2 hn0 hn1 hn2 hn3; obtain ⟨hc0, hc1, hc2⟩ := HTb.out.bm.cells)
    | (go_at_call 41; refine (HMy.out _ HTb.out.mm).mono ?_; rintro e wc ⟨rfl, hb⟩; have HTc := Aside0.mk (HTb.out.below hb); clear hb hc0 hc1 hc2; obtain ⟨hc0, hc1, hc2⟩ := HTc.out.bm.cells)
    | (go_at_call 25; refine (HSy.out _ HTc.out.mm).mono ?_; rintro e wd ⟨rfl, hb⟩; have HTd := Aside0.mk (HTc.out.below hb); clear hb))
  first | have HTz := HTd | have HTz := HTc
  clear hc0 hc1 hc2
  obtain ⟨hc0, hc1, hc2⟩ := HTz.out.bm.cells
  obtain ⟨hk0, hk1, hk2⟩ := HTz.out.bk.cells
  obtain ⟨hn0, hn1, hn2, hn3⟩ := HTz.out.bn.cells
  obtain ⟨sv, hsv⟩ : ∃ x, x = sameM N G P N' G' P' := ⟨_, rfl⟩
  obtain ⟨fv, hfv⟩ : ∃ x, x = findS P g := ⟨_, rfl⟩
  obtain ⟨cv, hcv⟩ : ∃ x, x = CanonS N G P n := ⟨_, rfl⟩
  have p0 := fun d os => cell_regrown hc0 d os
  have p1 := fun d os => cell_regrown hc1 d os
  have p2 := fun d os => cell_regrown hc2 d os
  have q0 := fun d os => cell_regrown hk0 d os
  have q1 := fun d os => cell_regrown hk1 d os
  have q2 := fun d os => cell_regrown hk2 d os
  have r0 := fun d os => cell_regrown hn0 d os
  have r1 := fun d os => cell_regrown hn1 d os
  have r2 := fun d os => cell_regrown hn2 d os
  have r3 := fun d os => cell_regrown hn3 d os
  have x1 := fun d os => QR.bel (HMy.out _ (HTz.out.below (below_regrown _ d os)).mm)
  have x2 := fun d os => QR.bel (HRy.out _ (HTz.out.below (below_regrown _ d os)).mm)
  have x3 := fun d os => QR.bel (tsame_at (HTz.out.below (below_regrown _ d os)).mm (HTz.out.below (below_regrown _ d os)).m2 HFE.out HFE'.out)
  have x4 := fun d os => QR.bel (rsame_at (HTz.out.below (below_regrown _ d os)).mm (HTz.out.below (below_regrown _ d os)).m2 (by have := (fewB_iff.1 HFE.out).2.2; omega) (by have := (fewB_iff.1 HFE'.out).2.2; omega))
  have x5 := fun d os => QR.bel (Find_calls g (HTz.out.below (below_regrown _ d os)).mm)
  have x6 := fun d os => QR.bel (rfind_at g (HTz.out.below (below_regrown _ d os)).mm)
  have x7 := fun d os => QR.bel (Canon_calls n (HTz.out.below (below_regrown _ d os)).mm)
  have x8 := fun d os => QR.bel (rcanon_at n (HTz.out.below (below_regrown _ d os)).mm)
  rw [← hsv] at x3 x4
  rw [← hfv] at x5 x6
  rw [← hcv] at x7 x8
  clear hsv hfv hcv
  refine QR.region_mid 61 #[true, true, true, true, true, true, true, true, true, true, true, true, true, true, true, true, true, true, true, true, true, true, true, true, true, true, true, true, true, true, true, true, true, true, true, true, true, true, true, true, true, true, true, true, true, true, true, true, true, true, true, true, true, true, true, true, true, true, true, true, true, true, false, false, false, false, false, false, false, false, false] (fun w' => TBox w w' AN cN N AG cG G AP cP P AN' cN' N' AG' cG' G' AP' cP' P' n) [] (by first | assumption | kernel_rfl) (by kernel_rfl) ?_
  simp only [List.append_eq, List.cons_append, List.nil_append, List.take_succ_cons, List.take_zero]
  repeat (refine QR.txt_step (fun K hK => ?_); have HK := Aside0.mk hK; clear hK; go_simp; first | (refine HK.out _ ?_; clear HK K) | (apply Exists.intro; refine ⟨fun _ => ?_, HK.out _ ?_⟩; (first | with_reducible exact x8 _ _ | with_reducible exact x7 _ _ | with_reducible exact x6 _ _ | with_reducible exact x5 _ _ | with_reducible exact x4 _ _ | with_reducible exact x3 _ _ | with_reducible exact x2 _ _ | with_reducible exact x1 _ _); clear HK K))
  refine QR.txt_nil ?_
  intro wv hwv
  have HTv := Aside0.mk (HTz.out.below hwv.below)
  clear hwv p0 p1 p2 q0 q1 q2 r0 r1 r2 r3 x1 x2 x3 x4 x5 x6 x7 x8 hc0 hc1 hc2 hk0 hk1 hk2 hn0 hn1 hn2 hn3
  refine take_ (i := 62) (N := some 190) (v := ?_) (a' := ?_) #[true, true, true, true, true, true, true, true, true, true, true, true, true, true, true, true, true, true, true, true, true, true, true, true, true, true, true, true, true, true, true, true, true, true, true, true, true, true, true, true, true, true, true, true, true, true, true, true, true, true, true, true, true, true, true, true, true, true, true, true, true, true, true, false, false, false, false, false, false, false, false] rfl rfl (by kernel_rfl) (fun _ _ _ h => h) (Or.inl ⟨by rfl, ?_⟩) HTv.out ?_ ?_
  rotate_left
  · intro w' hs; obtain ⟨s0, s1, s2⟩ := hs.bm.cells; clear hs; go_simp; with_reducible rfl
  rotate_left
  · simp only [Act.put, List.setIfInBounds_toArray, List.set_cons_zero, List.set_cons_succ, i64_w, i32_w]; rfl
  refine pure_ (i := 63) (N := some 191) (v := ?_) (a' := ?_) #[true, true, true, true, true, true, true, true, true, true, true, true, true, true, true, true, true, true, true, true, true, true, true, true, true, true, true, true, true, true, true, true, true, true, true, true, true, true, true, true, true, true, true, true, true, true, true, true, true, true, true, true, true, true, true, true, true, true, true, true, true, true, true, true, false, false, false, false, false, false, false] rfl rfl (by kernel_rfl) (fun _ _ _ h => h) (Or.inl ⟨by rfl, ?_⟩) ?_ ?_
  rotate_left
  · intro w'; go_simp; with_reducible rfl
  rotate_left
  · simp only [Act.put, List.setIfInBounds_toArray, List.set_cons_zero, List.set_cons_succ, i64_w, i32_w]; rfl
  refine take_ (i := 65) (N := some 193) (v := ?_) (a' := ?_) #[true, true, true, true, true, true, true, true, true, true, true, true, true, true, true, true, true, true, true, true, true, true, true, true, true, true, true, true, true, true, true, true, true, true, true, true, true, true, true, true, true, true, true, true, true, true, true, true, true, true, true, true, true, true, true, true, true, true, true, true, true, true, true, true, false, true, false, false, false, false, false] rfl rfl (by kernel_rfl) (fun _ _ _ h => h) (Or.inl ⟨by rfl, ?_⟩) HTv.out ?_ ?_
  rotate_left
  · intro w' hs; obtain ⟨s0, s1, s2⟩ := hs.bm.cells; clear hs; go_simp; with_reducible rfl
  rotate_left
  · simp only [Act.put, List.setIfInBounds_toArray, List.set_cons_zero, List.set_cons_succ, i64_w, i32_w]; rfl
  refine pure_ (i := 66) (N := some 194) (v := ?_) (a' := ?_) #[true, true, true, true, true, true, true, true, true, true, true, true, true, true, true, true, true, true, true, true, true, true, true, true, true, true, true, true, true, true, true, true, true, true, true, true, true, true, true, true, true, true, true, true, true, true, true, true, true, true, true, true, true, true, true, true, true, true, true, true, true, true, true, true, false, true, true, false, false, false, false] rfl rfl (by kernel_rfl) (fun _ _ _ h => h) (Or.inl ⟨by rfl, ?_⟩) ?_ ?_
  rotate_left
  · intro w'; go_simp; with_reducible rfl
  rotate_left
  · simp only [Act.put, List.setIfInBounds_toArray, List.set_cons_zero, List.set_cons_succ, i64_w, i32_w]; rfl
  refine one_ (i := 64) (N := some 192) #[true, true, true, true, true, true, true, true, true, true, true, true, true, true, true, true, true, true, true, true, true, true, true, true, true, true, true, true, true, true, true, true, true, true, true, true, true, true, true, true, true, true, true, true, true, true, true, true, true, true, true, true, true, true, true, true, true, true, true, true, true, true, true, true, true, true, true, false, false, false, false] rfl rfl (by kernel_rfl) (by decide) (fun K hK => ?_)
  refine goes_ Try.func43 (by kernel_rfl) rfl #[.agg #[.slice AN N.length cN, .slice AG G.length cG, .slice AP P.length cP], .int .i64 g] (by rfl) rfl rfl (by first | (simp only [List.map_toArray, List.map_cons, List.map_nil, Act.eval, List.getD_toArray, List.getD_cons_succ, List.getD_cons_zero]; done) | (simp only [List.map_toArray, List.map_cons, List.map_nil]; rfl) | (go_simp; done) | (go_simp; rfl) | (simp [Act.eval]; done)) ?_
  refine (Of_calls g HTv.out.mm).mono ?_
  rintro e we ⟨v, rfl, hr, hb⟩
  obtain ⟨E0, f0, rfl, hl0, hc0⟩ := Kd.R_reads hr
  have HTe := Aside0.mk (HTv.out.below hb)
  have HE0 := Aside0.mk (And.intro hc0 hl0)
  refine ⟨_, rfl, hK.out _ _ HTe.out (fun _ => ?_)⟩
  clear hr hb hl0 hc0 hK K HTv
  refine norm_ (a' := ?_) ?_ ?_
  rotate_left
  · show Act.put _ (some 192) _ = _
    simp only [Act.put, List.setIfInBounds_toArray, List.set_cons_zero, List.set_cons_succ, i64_w, i32_w]; rfl
  refine one_ (i := 67) (N := some 195) #[true, true, true, true, true, true, true, true, true, true, true, true, true, true, true, true, true, true, true, true, true, true, true, true, true, true, true, true, true, true, true, true, true, true, true, true, true, true, true, true, true, true, true, true, true, true, true, true, true, true, true, true, true, true, true, true, true, true, true, true, true, true, true, true, true, true, true, true, false, false, false] rfl rfl (by kernel_rfl) (by decide) (fun K hK => ?_)
  refine goes_ Try.func55 (by kernel_rfl) rfl #[.agg #[.slice AN N.length cN, .slice AG G.length cG, .slice AP P.length cP], .int .i64 g] (by rfl) rfl rfl (by first | (simp only [List.map_toArray, List.map_cons, List.map_nil, Act.eval, List.getD_toArray, List.getD_cons_succ, List.getD_cons_zero]; done) | (simp only [List.map_toArray, List.map_cons, List.map_nil]; rfl) | (go_simp; done) | (go_simp; rfl) | (simp [Act.eval]; done)) ?_
  refine (rof_at g HTe.out.mm).mono ?_
  rintro e wf ⟨E1, f1, rfl, hl1, hc1, hb⟩
  have HTf := Aside0.mk (HTe.out.below hb)
  have HE0' := Aside0.mk (And.intro (Kd.C_below HE0.out.1 hb) HE0.out.2)
  have HE1 := Aside0.mk (And.intro hc1 hl1)
  refine ⟨_, rfl, hK.out _ _ HTf.out (fun _ => ?_)⟩
  clear hb hl1 hc1 hK K HTe HE0
  refine norm_ (a' := ?_) ?_ ?_
  rotate_left
  · show Act.put _ (some 195) _ = _
    simp only [Act.put, List.setIfInBounds_toArray, List.set_cons_zero, List.set_cons_succ, i64_w, i32_w]; rfl
  refine one_ (i := 68) (N := some 196) #[true, true, true, true, true, true, true, true, true, true, true, true, true, true, true, true, true, true, true, true, true, true, true, true, true, true, true, true, true, true, true, true, true, true, true, true, true, true, true, true, true, true, true, true, true, true, true, true, true, true, true, true, true, true, true, true, true, true, true, true, true, true, true, true, true, true, true, true, true, false, false] rfl rfl (by kernel_rfl) (by decide) (fun K hK => ?_)
  refine goes_ Try.func27 (by kernel_rfl) rfl #[.slice E0 (ofS N G P g).length f0, .slice E1 (ofS N G P g).length f1] (by rfl) rfl rfl (by first | (simp only [List.map_toArray, List.map_cons, List.map_nil, Act.eval, List.getD_toArray, List.getD_cons_succ, List.getD_cons_zero]; done) | (simp only [List.map_toArray, List.map_cons, List.map_nil]; rfl) | (go_simp; done) | (go_simp; rfl) | (simp [Act.eval]; done)) ?_
  refine (roadbookref02_Ints.calls ((ofS N G P g).length + 1) _ _ _ _ _ _ true _ HE0'.out.1 HE0'.out.2 HE1.out.1 HE1.out.2 (by rw [ints_k _ _ _ HE1.out.1.2.1 (by omega), decide_eq_true rfl])).mono ?_
  rintro e wg ⟨rfl, hd⟩
  have HTg := Aside0.mk (HTf.out.below hd.below)
  refine ⟨_, rfl, hK.out _ _ HTg.out (fun _ => ?_)⟩
  clear hd hK K HTf HE0' HE1
  refine norm_ (a' := ?_) ?_ ?_
  rotate_left
  · show Act.put _ (some 196) _ = _
    simp only [Act.put, List.setIfInBounds_toArray, List.set_cons_zero, List.set_cons_succ, i64_w, i32_w]; rfl
  refine pure_ (i := 69) (N := some 197) (v := ?_) (a' := ?_) #[true, true, true, true, true, true, true, true, true, true, true, true, true, true, true, true, true, true, true, true, true, true, true, true, true, true, true, true, true, true, true, true, true, true, true, true, true, true, true, true, true, true, true, true, true, true, true, true, true, true, true, true, true, true, true, true, true, true, true, true, true, true, true, true, true, true, true, true, true, true, false] rfl rfl (by kernel_rfl) (fun _ _ _ h => h) (Or.inl ⟨by rfl, ?_⟩) ?_ ?_
  rotate_left
  · intro w'; go_simp; with_reducible rfl
  rotate_left
  · simp only [Act.put, List.setIfInBounds_toArray, List.set_cons_zero, List.set_cons_succ, i64_w, i32_w]; rfl
  refine pure_ (i := 70) (N := some 10) (v := ?_) (a' := ?_) #[true, true, true, true, true, true, true, true, true, true, true, true, true, true, true, true, true, true, true, true, true, true, true, true, true, true, true, true, true, true, true, true, true, true, true, true, true, true, true, true, true, true, true, true, true, true, true, true, true, true, true, true, true, true, true, true, true, true, true, true, true, true, true, true, true, true, true, true, true, true, true] rfl rfl (by kernel_rfl) (fun _ _ _ h => h) (Or.inl ⟨by rfl, ?_⟩) ?_ ?_
  rotate_left
  · intro w'; go_simp; with_reducible rfl
  rotate_left
  · simp only [Act.put, List.setIfInBounds_toArray, List.set_cons_zero, List.set_cons_succ, i64_w, i32_w]; rfl
  refine done_ (by kernel_rfl) ?_
  go_wp2
  go_ret
  exact ⟨rfl, HTg.out.bel⟩
set_option maxHeartbeats 64000000 in
set_option maxRecDepth 100000 in
theorem Tells_near_c {a : List S48} {b c p : List Int} {a4 a5 p4 p5 l1 : Int} {mm mp s1 s2 l2 : Bool} (n : S48) (g q : Int) (hL : Lim N G P) (h : MemoAt w AN cN N AG cG G AP cP P) (h' : MemoAt w AN' cN' N' AG' cG' G' AP' cP' P') (hf : fewB N G P 60 = true) (hf' : fewB N' G' P' 60 = true)
    (hput : putT N G P n g = (a, b, c, a4, a5)) (hmer : mergeT N G P g q = (p, p4, p5)) (hlook : lookS N G P n = (l1, l2)) (hs1 : sameM a b c a b c = s1) (hs2 : sameM N G p N G p = s2) (hmm : mayMB N G P = mm) (hmp : mayB P = mp) (hc : c.length ≤ 400) (hp : p.length ≤ 400)
    (hcase : mm = false ∧ mp = false ∧ s1 = false ∧ s2 = false) :
    Calls Try.prog 13 #[.agg #[.slice AN N.length cN, .slice AG G.length cG, .slice AP P.length cP], .agg #[.slice AN' N'.length cN', .slice AG' G'.length cG', .slice AP' P'.length cP'], .agg #[.bool n.f0, .int .i64 n.f1, .int .i64 n.f2, .int .i64 n.f3], .int .i64 g, .int .i64 q] w fun e w' => e = .returned (.bool true) ∧ Below w.heap.size w w' := by
  have HT := Aside0.mk (TBox.new n h h')
  have HU := Aside0.mk (fun W => roadbooklaw16_awake.calls 0 true W rfl)
  have HF := Aside0.mk (fun (W : World) (h : MemoAt W AN cN N AG cG G AP cP P) => few_at 60 h)
  have HF' := Aside0.mk (fun (W : World) (h : MemoAt W AN' cN' N' AG' cG' G' AP' cP' P') => few_at 60 h)
  have HPu := Aside0.mk (fun (W : World) (h : MemoAt W AN cN N AG cG G AP cP P) => tput_at n g hL h hput)
  have HRp := Aside0.mk (fun (W : World) (h : MemoAt W AN cN N AG cG G AP cP P) => rput_to n g h hput)
  have HMe := Aside0.mk (fun (W : World) (h : MemoAt W AN cN N AG cG G AP cP P) => tmerge_at g q hL h hmer)
  have HRm := Aside0.mk (fun (W : World) (h : MemoAt W AN cN N AG cG G AP cP P) => rmerge_to g q h hmer)
  have HLo := Aside0.mk (fun (W : World) (h : MemoAt W AN cN N AG cG G AP cP P) => Look_calls n h)
  have HRl := Aside0.mk (fun (W : World) (h : MemoAt W AN cN N AG cG G AP cP P) => rlook_at n h)
  have HMy := Aside0.mk (fun (W : World) (h : MemoAt W AN cN N AG cG G AP cP P) => mmay_calls h)
  have HRy := Aside0.mk (fun (W : World) (h : MemoAt W AN cN N AG cG G AP cP P) => rmay_at h)
  have HSy := Aside0.mk (fun (W : World) (h : MemoAt W AN cN N AG cG G AP cP P) => (may_calls AP cP P W h.p h.pc).mono (fun e w' ⟨he, hd⟩ => (⟨he, hd.below⟩ : _ ∧ Below W.heap.size W w')))
  have HS1 := Aside0.mk (fun {W : World} {A0 A1 A2 B0 B1 B2 : Option Addr} {c0 c1 c2 d0 d1 d2 : Nat} (h : MemoAt W A0 c0 a A1 c1 b A2 c2 c) (h' : MemoAt W B0 d0 a B1 d1 b B2 d2 c) => rsame_at h h' (by omega) (by omega))
  have HS2 := Aside0.mk (fun {W : World} {A0 A1 A2 B0 B1 B2 : Option Addr} {c0 c1 c2 d0 d1 d2 : Nat} (h : MemoAt W A0 c0 N A1 c1 G A2 c2 p) (h' : MemoAt W B0 d0 N B1 d1 G B2 d2 p) => rsame_at h h' (by omega) (by omega))
  have HFE := Aside0.mk hf
  have HFE' := Aside0.mk hf'
  rw [hf] at HF
  rw [hf'] at HF'
  rw [hlook] at HLo HRl
  rw [hmm] at HMy HRy
  rw [hmp] at HSy
  rw [hs1] at HS1
  rw [hs2] at HS2
  clear h h' hf hf' hput hmer hlook hs1 hs2 hmm hmp hc hp
  obtain ⟨rfl, rfl, rfl, rfl⟩ := hcase
  go_enter Try.func13, Try.ntmps13
  go_wp2_with (first
    | (go_at_call 39; refine (HF'.out _ HT2.out.m2).mono ?_; rintro e w3 ⟨rfl, hb⟩; have HT3 := Aside0.mk (HT2.out.below hb); clear hb; clear hb0 hb1 hb2; obtain ⟨hc0, hc1, hc2⟩ := HT3.out.bm.cells; obtain ⟨hn0, hn1, hn2, hn3⟩ := HT3.out.bn.cells)
    | (go_at_call 39; refine (HF.out _ HT1.out.mm).mono ?_; rintro e w2 ⟨rfl, hb⟩; have HT2 := Aside0.mk (HT1.out.below hb); clear ha0 ha1 ha2; obtain ⟨hb0, hb1, hb2⟩ := HT2.out.bk.cells; clear hb)
    | (go_at_call 38; refine (HU.out _).mono ?_; rintro e w1 ⟨rfl, hb⟩; have HT1 := Aside0.mk (HT.out.below hb); obtain ⟨ha0, ha1, ha2⟩ := HT1.out.bm.cells; clear hb)
    | (go_at_call 47; refine (HPu.out _ HT3.out.mm).mono ?_; rintro e w4 ⟨A0, c0, A1, c1, A2, c2, rfl, hM, hb⟩; have HAX := Aside0.mk (box_new w4 A0 c0 a A1 c1 b A2 c2 c); have HA5 := Aside0.mk (hM.below (below_alloc (Below.refl _ _) (.cells #[.slice A0 a.length c0, .slice A1 b.length c1, .slice A2 c.length c2] 38))); have HT4 := Aside0.mk ((HT3.out.below hb).below (below_alloc (Below.refl _ _) (.cells #[.slice A0 a.length c0, .slice A1 b.length c1, .slice A2 c.length c2] 38))); clear hb hM hc0 hc1 hc2 hn0 hn1 hn2 hn3; obtain ⟨hc0, hc1, hc2⟩ := HT4.out.bm.cells; obtain ⟨hn0, hn1, hn2, hn3⟩ := HT4.out.bn.cells)
    | (go_at_call 48; refine (HRp.out _ HT4.out.mm).mono ?_; rintro e w5 ⟨B0, d0, B1, d1, B2, d2, rfl, hM, hb⟩; have HBX := Aside0.mk (box_new w5 B0 d0 a B1 d1 b B2 d2 c); have HB5 := Aside0.mk (hM.below (below_alloc (Below.refl _ _) (.cells #[.slice B0 a.length d0, .slice B1 b.length d1, .slice B2 c.length d2] 38))); have HT5 := Aside0.mk ((HT4.out.below hb).below (below_alloc (Below.refl _ _) (.cells #[.slice B0 a.length d0, .slice B1 b.length d1, .slice B2 c.length d2] 38))); have HAX5 := Aside0.mk ((HAX.out.below hb).below (below_alloc (Below.refl _ _) (.cells #[.slice B0 a.length d0, .slice B1 b.length d1, .slice B2 c.length d2] 38))); have HA6 := Aside0.mk ((HA5.out.below hb).below (below_alloc (Below.refl _ _) (.cells #[.slice B0 a.length d0, .slice B1 b.length d1, .slice B2 c.length d2] 38))); clear hb hM hc0 hc1 hc2 hn0 hn1 hn2 hn3; obtain ⟨hx0, hx1, hx2⟩ := HAX5.out.cells; obtain ⟨hy0, hy1, hy2⟩ := HBX.out.cells)
    | (go_at_call 49; refine (HS2.out HP8.out HD8.out).mono ?_; rintro e w9 ⟨rfl, hb⟩; have HT9 := Aside0.mk (HT8.out.below hb); clear hb hx0 hx1 hx2 hy0 hy1 hy2; obtain ⟨hc0, hc1, hc2⟩ := HT9.out.bm.cells; obtain ⟨hn0, hn1, hn2, hn3⟩ := HT9.out.bn.cells)
    | (go_at_call 49; refine (HS1.out HA6.out HB5.out).mono ?_; rintro e w6 ⟨rfl, hb⟩; have HT6 := Aside0.mk (HT5.out.below hb); clear hb hx0 hx1 hx2 hy0 hy1 hy2; obtain ⟨hc0, hc1, hc2⟩ := HT6.out.bm.cells)
    | (go_at_call 40; refine (HMe.out _ HT6.out.mm).mono ?_; rintro e w7 ⟨A0, c0, A1, c1, A2, c2, rfl, hM, hb⟩; have HPX := Aside0.mk (box_new w7 A0 c0 N A1 c1 G A2 c2 p); have HP7 := Aside0.mk (hM.below (below_alloc (Below.refl _ _) (.cells #[.slice A0 N.length c0, .slice A1 G.length c1, .slice A2 p.length c2] 38))); have HT7 := Aside0.mk ((HT6.out.below hb).below (below_alloc (Below.refl _ _) (.cells #[.slice A0 N.length c0, .slice A1 G.length c1, .slice A2 p.length c2] 38))); clear hb hM hc0 hc1 hc2; obtain ⟨hc0, hc1, hc2⟩ := HT7.out.bm.cells)
    | (go_at_call 50; refine (HRm.out _ HT7.out.mm).mono ?_; rintro e w8 ⟨D2, e2, rfl, hM, hb⟩; have HDX := Aside0.mk (box_new w8 AN cN N AG cG G D2 e2 p); have HD8 := Aside0.mk (hM.below (below_alloc (Below.refl _ _) (.cells #[.slice AN N.length cN, .slice AG G.length cG, .slice D2 p.length e2] 38))); have HT8 := Aside0.mk ((HT7.out.below hb).below (below_alloc (Below.refl _ _) (.cells #[.slice AN N.length cN, .slice AG G.length cG, .slice D2 p.length e2] 38))); have HPX8 := Aside0.mk ((HPX.out.below hb).below (below_alloc (Below.refl _ _) (.cells #[.slice AN N.length cN, .slice AG G.length cG, .slice D2 p.length e2] 38))); have HP8 := Aside0.mk ((HP7.out.below hb).below (below_alloc (Below.refl _ _) (.cells #[.slice AN N.length cN, .slice AG G.length cG, .slice D2 p.length e2] 38))); clear hb hM hc0 hc1 hc2; obtain ⟨hx0, hx1, hx2⟩ := HPX8.out.cells; obtain ⟨hy0, hy1, hy2⟩ := HDX.out.cells)
    | (go_at_call 45; refine (HLo.out _ HT9.out.mm).mono ?_; rintro e wa ⟨rfl, hb⟩; have HTa := Aside0.mk (HT9.out.below hb); clear hb hc0 hc1 hc2 hn0 hn1 hn2 hn3; obtain ⟨hc0, hc1, hc2⟩ := HTa.out.bm.cells; obtain ⟨hn0, hn1, hn2, hn3⟩ := HTa.out.bn.cells)
    | (go_at_call 51; refine (HRl.out _ HTa.out.mm).mono ?_; rintro e wb ⟨rfl, hb⟩; have HTb := Aside0.mk (HTa.out.below hb); clear hb hc0 hc1 hc2 hn0 hn1 hn2 hn3; obtain ⟨hc0, hc1, hc2⟩ := HTb.out.bm.cells)
    | (go_at_call 41; refine (HMy.out _ HTb.out.mm).mono ?_; rintro e wc ⟨rfl, hb⟩; have HTc := Aside0.mk (HTb.out.below hb); clear hb hc0 hc1 hc2; obtain ⟨hc0, hc1, hc2⟩ := HTc.out.bm.cells)
    | (go_at_call 25; refine (HSy.out _ HTc.out.mm).mono ?_; rintro e wd ⟨rfl, hb⟩; have HTd := Aside0.mk (HTc.out.below hb); clear hb))
  first | have HTz := HTd | have HTz := HTc
  clear hc0 hc1 hc2
  obtain ⟨hc0, hc1, hc2⟩ := HTz.out.bm.cells
  obtain ⟨hk0, hk1, hk2⟩ := HTz.out.bk.cells
  obtain ⟨hn0, hn1, hn2, hn3⟩ := HTz.out.bn.cells
  obtain ⟨sv, hsv⟩ : ∃ x, x = sameM N G P N' G' P' := ⟨_, rfl⟩
  obtain ⟨fv, hfv⟩ : ∃ x, x = findS P g := ⟨_, rfl⟩
  obtain ⟨cv, hcv⟩ : ∃ x, x = CanonS N G P n := ⟨_, rfl⟩
  have p0 := fun d os => cell_regrown hc0 d os
  have p1 := fun d os => cell_regrown hc1 d os
  have p2 := fun d os => cell_regrown hc2 d os
  have q0 := fun d os => cell_regrown hk0 d os
  have q1 := fun d os => cell_regrown hk1 d os
  have q2 := fun d os => cell_regrown hk2 d os
  have r0 := fun d os => cell_regrown hn0 d os
  have r1 := fun d os => cell_regrown hn1 d os
  have r2 := fun d os => cell_regrown hn2 d os
  have r3 := fun d os => cell_regrown hn3 d os
  have x1 := fun d os => QR.bel (HMy.out _ (HTz.out.below (below_regrown _ d os)).mm)
  have x2 := fun d os => QR.bel (HRy.out _ (HTz.out.below (below_regrown _ d os)).mm)
  have x3 := fun d os => QR.bel (tsame_at (HTz.out.below (below_regrown _ d os)).mm (HTz.out.below (below_regrown _ d os)).m2 HFE.out HFE'.out)
  have x4 := fun d os => QR.bel (rsame_at (HTz.out.below (below_regrown _ d os)).mm (HTz.out.below (below_regrown _ d os)).m2 (by have := (fewB_iff.1 HFE.out).2.2; omega) (by have := (fewB_iff.1 HFE'.out).2.2; omega))
  have x5 := fun d os => QR.bel (Find_calls g (HTz.out.below (below_regrown _ d os)).mm)
  have x6 := fun d os => QR.bel (rfind_at g (HTz.out.below (below_regrown _ d os)).mm)
  have x7 := fun d os => QR.bel (Canon_calls n (HTz.out.below (below_regrown _ d os)).mm)
  have x8 := fun d os => QR.bel (rcanon_at n (HTz.out.below (below_regrown _ d os)).mm)
  rw [← hsv] at x3 x4
  rw [← hfv] at x5 x6
  rw [← hcv] at x7 x8
  clear hsv hfv hcv
  refine QR.region_mid 61 #[true, true, true, true, true, true, true, true, true, true, true, true, true, true, true, true, true, true, true, true, true, true, true, true, true, true, true, true, true, true, true, true, true, true, true, true, true, true, true, true, true, true, true, true, true, true, true, true, true, true, true, true, true, true, true, true, true, true, true, true, true, true, false, false, false, false, false, false, false, false, false] (fun w' => TBox w w' AN cN N AG cG G AP cP P AN' cN' N' AG' cG' G' AP' cP' P' n) [] (by first | assumption | kernel_rfl) (by kernel_rfl) ?_
  simp only [List.append_eq, List.cons_append, List.nil_append, List.take_succ_cons, List.take_zero]
  repeat (refine QR.txt_step (fun K hK => ?_); have HK := Aside0.mk hK; clear hK; go_simp; first | (refine HK.out _ ?_; clear HK K) | (apply Exists.intro; refine ⟨fun _ => ?_, HK.out _ ?_⟩; (first | with_reducible exact x8 _ _ | with_reducible exact x7 _ _ | with_reducible exact x6 _ _ | with_reducible exact x5 _ _ | with_reducible exact x4 _ _ | with_reducible exact x3 _ _ | with_reducible exact x2 _ _ | with_reducible exact x1 _ _); clear HK K))
  refine QR.txt_nil ?_
  intro wv hwv
  have HTv := Aside0.mk (HTz.out.below hwv.below)
  clear hwv p0 p1 p2 q0 q1 q2 r0 r1 r2 r3 x1 x2 x3 x4 x5 x6 x7 x8 hc0 hc1 hc2 hk0 hk1 hk2 hn0 hn1 hn2 hn3
  refine take_ (i := 62) (N := some 190) (v := ?_) (a' := ?_) #[true, true, true, true, true, true, true, true, true, true, true, true, true, true, true, true, true, true, true, true, true, true, true, true, true, true, true, true, true, true, true, true, true, true, true, true, true, true, true, true, true, true, true, true, true, true, true, true, true, true, true, true, true, true, true, true, true, true, true, true, true, true, true, false, false, false, false, false, false, false, false] rfl rfl (by kernel_rfl) (fun _ _ _ h => h) (Or.inl ⟨by rfl, ?_⟩) HTv.out ?_ ?_
  rotate_left
  · intro w' hs; obtain ⟨s0, s1, s2⟩ := hs.bm.cells; clear hs; go_simp; with_reducible rfl
  rotate_left
  · simp only [Act.put, List.setIfInBounds_toArray, List.set_cons_zero, List.set_cons_succ, i64_w, i32_w]; rfl
  refine pure_ (i := 63) (N := some 191) (v := ?_) (a' := ?_) #[true, true, true, true, true, true, true, true, true, true, true, true, true, true, true, true, true, true, true, true, true, true, true, true, true, true, true, true, true, true, true, true, true, true, true, true, true, true, true, true, true, true, true, true, true, true, true, true, true, true, true, true, true, true, true, true, true, true, true, true, true, true, true, true, false, false, false, false, false, false, false] rfl rfl (by kernel_rfl) (fun _ _ _ h => h) (Or.inl ⟨by rfl, ?_⟩) ?_ ?_
  rotate_left
  · intro w'; go_simp; with_reducible rfl
  rotate_left
  · simp only [Act.put, List.setIfInBounds_toArray, List.set_cons_zero, List.set_cons_succ, i64_w, i32_w]; rfl
  refine take_ (i := 65) (N := some 193) (v := ?_) (a' := ?_) #[true, true, true, true, true, true, true, true, true, true, true, true, true, true, true, true, true, true, true, true, true, true, true, true, true, true, true, true, true, true, true, true, true, true, true, true, true, true, true, true, true, true, true, true, true, true, true, true, true, true, true, true, true, true, true, true, true, true, true, true, true, true, true, true, false, true, false, false, false, false, false] rfl rfl (by kernel_rfl) (fun _ _ _ h => h) (Or.inl ⟨by rfl, ?_⟩) HTv.out ?_ ?_
  rotate_left
  · intro w' hs; obtain ⟨s0, s1, s2⟩ := hs.bm.cells; clear hs; go_simp; with_reducible rfl
  rotate_left
  · simp only [Act.put, List.setIfInBounds_toArray, List.set_cons_zero, List.set_cons_succ, i64_w, i32_w]; rfl
  refine pure_ (i := 66) (N := some 194) (v := ?_) (a' := ?_) #[true, true, true, true, true, true, true, true, true, true, true, true, true, true, true, true, true, true, true, true, true, true, true, true, true, true, true, true, true, true, true, true, true, true, true, true, true, true, true, true, true, true, true, true, true, true, true, true, true, true, true, true, true, true, true, true, true, true, true, true, true, true, true, true, false, true, true, false, false, false, false] rfl rfl (by kernel_rfl) (fun _ _ _ h => h) (Or.inl ⟨by rfl, ?_⟩) ?_ ?_
  rotate_left
  · intro w'; go_simp; with_reducible rfl
  rotate_left
  · simp only [Act.put, List.setIfInBounds_toArray, List.set_cons_zero, List.set_cons_succ, i64_w, i32_w]; rfl
  refine one_ (i := 64) (N := some 192) #[true, true, true, true, true, true, true, true, true, true, true, true, true, true, true, true, true, true, true, true, true, true, true, true, true, true, true, true, true, true, true, true, true, true, true, true, true, true, true, true, true, true, true, true, true, true, true, true, true, true, true, true, true, true, true, true, true, true, true, true, true, true, true, true, true, true, true, false, false, false, false] rfl rfl (by kernel_rfl) (by decide) (fun K hK => ?_)
  refine goes_ Try.func43 (by kernel_rfl) rfl #[.agg #[.slice AN N.length cN, .slice AG G.length cG, .slice AP P.length cP], .int .i64 g] (by rfl) rfl rfl (by first | (simp only [List.map_toArray, List.map_cons, List.map_nil, Act.eval, List.getD_toArray, List.getD_cons_succ, List.getD_cons_zero]; done) | (simp only [List.map_toArray, List.map_cons, List.map_nil]; rfl) | (go_simp; done) | (go_simp; rfl) | (simp [Act.eval]; done)) ?_
  refine (Of_calls g HTv.out.mm).mono ?_
  rintro e we ⟨v, rfl, hr, hb⟩
  obtain ⟨E0, f0, rfl, hl0, hc0⟩ := Kd.R_reads hr
  have HTe := Aside0.mk (HTv.out.below hb)
  have HE0 := Aside0.mk (And.intro hc0 hl0)
  refine ⟨_, rfl, hK.out _ _ HTe.out (fun _ => ?_)⟩
  clear hr hb hl0 hc0 hK K HTv
  refine norm_ (a' := ?_) ?_ ?_
  rotate_left
  · show Act.put _ (some 192) _ = _
    simp only [Act.put, List.setIfInBounds_toArray, List.set_cons_zero, List.set_cons_succ, i64_w, i32_w]; rfl
  refine one_ (i := 67) (N := some 195) #[true, true, true, true, true, true, true, true, true, true, true, true, true, true, true, true, true, true, true, true, true, true, true, true, true, true, true, true, true, true, true, true, true, true, true, true, true, true, true, true, true, true, true, true, true, true, true, true, true, true, true, true, true, true, true, true, true, true, true, true, true, true, true, true, true, true, true, true, false, false, false] rfl rfl (by kernel_rfl) (by decide) (fun K hK => ?_)
  refine goes_ Try.func55 (by kernel_rfl) rfl #[.agg #[.slice AN N.length cN, .slice AG G.length cG, .slice AP P.length cP], .int .i64 g] (by rfl) rfl rfl (by first | (simp only [List.map_toArray, List.map_cons, List.map_nil, Act.eval, List.getD_toArray, List.getD_cons_succ, List.getD_cons_zero]; done) | (simp only [List.map_toArray, List.map_cons, List.map_nil]; rfl) | (go_simp; done) | (go_simp; rfl) | (simp [Act.eval]; done)) ?_
  refine (rof_at g HTe.out.mm).mono ?_
  rintro e wf ⟨E1, f1, rfl, hl1, hc1, hb⟩
  have HTf := Aside0.mk (HTe.out.below hb)
  have HE0' := Aside0.mk (And.intro (Kd.C_below HE0.out.1 hb) HE0.out.2)
  have HE1 := Aside0.mk (And.intro hc1 hl1)
  refine ⟨_, rfl, hK.out _ _ HTf.out (fun _ => ?_)⟩
  clear hb hl1 hc1 hK K HTe HE0
  refine norm_ (a' := ?_) ?_ ?_
  rotate_left
  · show Act.put _ (some 195) _ = _
    simp only [Act.put, List.setIfInBounds_toArray, List.set_cons_zero, List.set_cons_succ, i64_w, i32_w]; rfl
  refine one_ (i := 68) (N := some 196) #[true, true, true, true, true, true, true, true, true, true, true, true, true, true, true, true, true, true, true, true, true, true, true, true, true, true, true, true, true, true, true, true, true, true, true, true, true, true, true, true, true, true, true, true, true, true, true, true, true, true, true, true, true, true, true, true, true, true, true, true, true, true, true, true, true, true, true, true, true, false, false] rfl rfl (by kernel_rfl) (by decide) (fun K hK => ?_)
  refine goes_ Try.func27 (by kernel_rfl) rfl #[.slice E0 (ofS N G P g).length f0, .slice E1 (ofS N G P g).length f1] (by rfl) rfl rfl (by first | (simp only [List.map_toArray, List.map_cons, List.map_nil, Act.eval, List.getD_toArray, List.getD_cons_succ, List.getD_cons_zero]; done) | (simp only [List.map_toArray, List.map_cons, List.map_nil]; rfl) | (go_simp; done) | (go_simp; rfl) | (simp [Act.eval]; done)) ?_
  refine (roadbookref02_Ints.calls ((ofS N G P g).length + 1) _ _ _ _ _ _ true _ HE0'.out.1 HE0'.out.2 HE1.out.1 HE1.out.2 (by rw [ints_k _ _ _ HE1.out.1.2.1 (by omega), decide_eq_true rfl])).mono ?_
  rintro e wg ⟨rfl, hd⟩
  have HTg := Aside0.mk (HTf.out.below hd.below)
  refine ⟨_, rfl, hK.out _ _ HTg.out (fun _ => ?_)⟩
  clear hd hK K HTf HE0' HE1
  refine norm_ (a' := ?_) ?_ ?_
  rotate_left
  · show Act.put _ (some 196) _ = _
    simp only [Act.put, List.setIfInBounds_toArray, List.set_cons_zero, List.set_cons_succ, i64_w, i32_w]; rfl
  refine pure_ (i := 69) (N := some 197) (v := ?_) (a' := ?_) #[true, true, true, true, true, true, true, true, true, true, true, true, true, true, true, true, true, true, true, true, true, true, true, true, true, true, true, true, true, true, true, true, true, true, true, true, true, true, true, true, true, true, true, true, true, true, true, true, true, true, true, true, true, true, true, true, true, true, true, true, true, true, true, true, true, true, true, true, true, true, false] rfl rfl (by kernel_rfl) (fun _ _ _ h => h) (Or.inl ⟨by rfl, ?_⟩) ?_ ?_
  rotate_left
  · intro w'; go_simp; with_reducible rfl
  rotate_left
  · simp only [Act.put, List.setIfInBounds_toArray, List.set_cons_zero, List.set_cons_succ, i64_w, i32_w]; rfl
  refine pure_ (i := 70) (N := some 10) (v := ?_) (a' := ?_) #[true, true, true, true, true, true, true, true, true, true, true, true, true, true, true, true, true, true, true, true, true, true, true, true, true, true, true, true, true, true, true, true, true, true, true, true, true, true, true, true, true, true, true, true, true, true, true, true, true, true, true, true, true, true, true, true, true, true, true, true, true, true, true, true, true, true, true, true, true, true, true] rfl rfl (by kernel_rfl) (fun _ _ _ h => h) (Or.inl ⟨by rfl, ?_⟩) ?_ ?_
  rotate_left
  · intro w'; go_simp; with_reducible rfl
  rotate_left
  · simp only [Act.put, List.setIfInBounds_toArray, List.set_cons_zero, List.set_cons_succ, i64_w, i32_w]; rfl
  refine done_ (by kernel_rfl) ?_
  go_wp2
  go_ret
  exact ⟨rfl, HTg.out.bel⟩
theorem Tells_near {a : List S48} {b c p : List Int} {a4 a5 p4 p5 l1 : Int} {mm mp s1 s2 l2 : Bool} (n : S48) (g q : Int) (hL : Lim N G P) (h : MemoAt w AN cN N AG cG G AP cP P) (h' : MemoAt w AN' cN' N' AG' cG' G' AP' cP' P') (hf : fewB N G P 60 = true) (hf' : fewB N' G' P' 60 = true)
    (hput : putT N G P n g = (a, b, c, a4, a5)) (hmer : mergeT N G P g q = (p, p4, p5)) (hlook : lookS N G P n = (l1, l2)) (hs1 : sameM a b c a b c = s1) (hs2 : sameM N G p N G p = s2) (hmm : mayMB N G P = mm) (hmp : mayB P = mp) (hc : c.length ≤ 400) (hp : p.length ≤ 400)
    (hcase : (mm = true ∧ s1 = true ∧ s2 = true) ∨ (mm = false ∧ mp = true ∧ s1 = true ∧ s2 = true) ∨ (mm = false ∧ mp = false ∧ s1 = false ∧ s2 = false)) :
    Calls Try.prog 13 #[.agg #[.slice AN N.length cN, .slice AG G.length cG, .slice AP P.length cP], .agg #[.slice AN' N'.length cN', .slice AG' G'.length cG', .slice AP' P'.length cP'], .agg #[.bool n.f0, .int .i64 n.f1, .int .i64 n.f2, .int .i64 n.f3], .int .i64 g, .int .i64 q] w fun e w' => e = .returned (.bool true) ∧ Below w.heap.size w w' := by
  rcases hcase with h1 | h1 | h1
  · exact Tells_near_a n g q hL h h' hf hf' hput hmer hlook hs1 hs2 hmm hmp hc hp h1
  · exact Tells_near_b n g q hL h h' hf hf' hput hmer hlook hs1 hs2 hmm hmp hc hp h1
  · exact Tells_near_c n g q hL h h' hf hf' hput hmer hlook hs1 hs2 hmm hmp hc hp h1
end
end Go.Proofs.Ytkidnomkfdnciaa.All
