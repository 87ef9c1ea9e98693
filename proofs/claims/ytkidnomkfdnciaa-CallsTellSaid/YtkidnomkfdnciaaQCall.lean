/- calls.Do: a call is done (its walk, by hand). -/
import Derived.Test.YtkidnomkfdnciaaSets2
import Derived.Test.YtkidnomkfdnciaaBk
import Derived.Test.YtkidnomkfdnciaaMv
import Derived.Test.YtkidnomkfdnciaaAllx10
import Derived.Test.YtkidnomkfdnciaaQRel
import Derived.Test.YtkidnomkfdnciaaAllx17
import Derived.Test.YtkidnomkfdnciaaAllx19
import Derived.Test.YtkidnomkfdnciaaAllx25
import Derived.Test.YtkidnomkfdnciaaR16B
import Derived.Test.YtkidnomkfdnciaaR16D
import Derived.Test.YtkidnomkfdnciaaW
namespace Go.Proofs.Ytkidnomkfdnciaa.All
open Go.RowKit Go.Proofs.YtkidnomkfdnciaaW.PrintWords Go.Proofs.YtkidnomkfdnciaaW.PrintLast Go.Proofs.YtkidnomkfdnciaaW.PrintMore
set_option linter.unusedVariables false
set_option linter.unusedSimpArgs false
def calls_Do.f (k : Nat) (l0_0 : List (S48)) (l0_1 : List Int) (l0_2 : List Int) (a1_0 : Int) (a1_1 : Bool) (a1_2 : Int) (a1_3 : Int) (a1_4 : Int) (a1_5 : Int) (a1_6 : Int) : Option ((List (S48)) × List Int × List Int × Int × Int) := if a1_0 = 0 then ((memo_Put.f k l0_0 l0_1 l0_2 a1_1 a1_2 a1_3 a1_4 a1_5).bind fun bt15 => (some (bt15.1, bt15.2.1, bt15.2.2.1, bt15.2.2.2.1, bt15.2.2.2.2))) else (if a1_0 = 1 then ((memo_Merge.f k l0_0 l0_1 l0_2 a1_5 a1_6).bind fun bt27 => (some (bt27.1, bt27.2.1, bt27.2.2.1, bt27.2.2.2.1, bt27.2.2.2.2))) else (if a1_0 = 2 then ((calls_own.f k l0_0 l0_1 l0_2).bind fun bt39 => ((memo_Find.f k l0_0 l0_1 l0_2 a1_5).bind fun t48 => ((calls_there.f t48).bind fun bt49 => (some (bt39.1, bt39.2.1, bt39.2.2, bt49.1, bt49.2))))) else (if a1_0 = 3 then ((memo_Look.f l0_0 l0_1 l0_2 a1_1 a1_2 a1_3 a1_4).bind fun bt51 => ((calls_own.f k l0_0 l0_1 l0_2).bind fun bt53 => ((calls_there.f bt51.1).bind fun bt62 => (some (bt53.1, bt53.2.1, bt53.2.2, bt62.1, bt62.2))))) else ((calls_own.f k l0_0 l0_1 l0_2).bind fun bt64 => (some (bt64.1, bt64.2.1, bt64.2.2, (-1), 1))))))
section
variable {w W : World} {AN AG AP : Option Addr} {cN cG cP : Nat} {N N' : List S48} {G P G' P' : List Int} {v0 v1 v2 : Value} {base base' : Nat}
structure DBox (w W : World) (AN : Option Addr) (cN : Nat) (N : List S48) (AG : Option Addr) (cG : Nat) (G : List Int) (AP : Option Addr) (cP : Nat) (P : List Int) (c : S76) : Prop where
 bel : Below w.heap.size w W
 box : MBox W w.heap.size AN cN N AG cG G AP cP P
 cb : W.heap[w.heap.size + 1]? = some (.cells #[.int .i64 c.f0, .bool c.f1.f0, .int .i64 c.f1.f1, .int .i64 c.f1.f2, .int .i64 c.f1.f3, .int .i64 c.f2, .int .i64 c.f3] 76 (0, 0))
 res : W.heap[w.heap.size + 2]? = some (.cells #[.slice none 0 0, .slice none 0 0, .slice none 0 0] 38 (0, 0))
 bk : W.heap[w.heap.size + 3]? = some (.cells #[.int .i64 0, .int .i64 0] 73 (0, 0))
 lt : w.heap.size + 4 ≤ W.heap.size
theorem DBox.below {W' : World} {c : S76} (h : DBox w W AN cN N AG cG G AP cP P c) (hb : Below W.heap.size W W') : DBox w W' AN cN N AG cG G AP cP P c :=
 ⟨below_then h.bel h.bel.size hb, h.box.below hb, blk_below h.cb hb, blk_below h.res hb, blk_below h.bk hb, Nat.le_trans h.lt hb.size⟩
theorem DBox.new (w : World) (AN : Option Addr) (cN : Nat) (N : List S48) (AG : Option Addr) (cG : Nat) (G : List Int) (AP : Option Addr) (cP : Nat) (P : List Int) (c : S76) :
  DBox w ((((w.alloc (.cells #[.slice AN N.length cN, .slice AG G.length cG, .slice AP P.length cP] 38)).alloc (.cells #[.int .i64 c.f0, .bool c.f1.f0, .int .i64 c.f1.f1, .int .i64 c.f1.f2, .int .i64 c.f1.f3, .int .i64 c.f2, .int .i64 c.f3] 76)).alloc (.cells #[.slice none 0 0, .slice none 0 0, .slice none 0 0] 38)).alloc (.cells #[.int .i64 0, .int .i64 0] 73)) AN cN N AG cG G AP cP P c := by
 obtain ⟨h1, h2, h3, h4⟩ := box3_new w AN cN N AG cG G AP cP P (.cells #[.int .i64 c.f0, .bool c.f1.f0, .int .i64 c.f1.f1, .int .i64 c.f1.f2, .int .i64 c.f1.f3, .int .i64 c.f2, .int .i64 c.f3] 76) (.cells #[.slice none 0 0, .slice none 0 0, .slice none 0 0] 38)
 have hs : (((w.alloc (.cells #[.slice AN N.length cN, .slice AG G.length cG, .slice AP P.length cP] 38)).alloc (.cells #[.int .i64 c.f0, .bool c.f1.f0, .int .i64 c.f1.f1, .int .i64 c.f1.f2, .int .i64 c.f1.f3, .int .i64 c.f2, .int .i64 c.f3] 76)).alloc (.cells #[.slice none 0 0, .slice none 0 0, .slice none 0 0] 38)).heap.size = w.heap.size + 3 := by
  rw [alloc_size1, rfl_size]
 have hb := below_alloc (Below.refl _ (((w.alloc (.cells #[.slice AN N.length cN, .slice AG G.length cG, .slice AP P.length cP] 38)).alloc (.cells #[.int .i64 c.f0, .bool c.f1.f0, .int .i64 c.f1.f1, .int .i64 c.f1.f2, .int .i64 c.f1.f3, .int .i64 c.f2, .int .i64 c.f3] 76)).alloc (.cells #[.slice none 0 0, .slice none 0 0, .slice none 0 0] 38))) (.cells #[.int .i64 0, .int .i64 0] 73)
 have hn := heap_alloc_new (((w.alloc (.cells #[.slice AN N.length cN, .slice AG G.length cG, .slice AP P.length cP] 38)).alloc (.cells #[.int .i64 c.f0, .bool c.f1.f0, .int .i64 c.f1.f1, .int .i64 c.f1.f2, .int .i64 c.f1.f3, .int .i64 c.f2, .int .i64 c.f3] 76)).alloc (.cells #[.slice none 0 0, .slice none 0 0, .slice none 0 0] 38)) (.cells #[.int .i64 0, .int .i64 0] 73)
 rw [hs] at hn
 exact ⟨below_then h4 h4.size hb, h1.below hb, blk_below h2 hb, blk_below h3 hb, hn, by rw [alloc_size1, hs]; exact Nat.le_refl _⟩
theorem four_new (w : World) (o0 o1 o2 o3 : Obj) : ((((w.alloc o0).alloc o1).alloc o2).alloc o3).heap[w.heap.size + 2]? = some o2 ∧ ((((w.alloc o0).alloc o1).alloc o2).alloc o3).heap[w.heap.size + 3]? = some o3 ∧ Below w.heap.size w ((((w.alloc o0).alloc o1).alloc o2).alloc o3) := by
 have hs : (((w.alloc o0).alloc o1).alloc o2).heap.size = w.heap.size + 3 := by rw [alloc_size1, rfl_size]
 have h2 := heap_alloc_new ((w.alloc o0).alloc o1) o2
 rw [rfl_size] at h2
 have h3 := heap_alloc_new (((w.alloc o0).alloc o1).alloc o2) o3
 rw [hs] at h3
 exact ⟨blk_below h2 (below_alloc (Below.refl _ _) o3), h3, below_alloc (below_alloc (below_alloc (below_alloc (Below.refl _ _) o0) o1) o2) o3⟩
structure Rows (W : World) (base : Nat) (v0 v1 v2 : Value) (N : List S48) (G P : List Int) : Prop where
 n : Kd.R k48 48 W base (fun _ => True) v0 N
 g : Kd.R (Kd.int .i64) 3 W base (fun k => some k ≠ v2.ownBlock) v1 G
 p : Kd.R (Kd.int .i64) 3 W base (fun k => some k ≠ v1.ownBlock) v2 P
theorem Rows.lower (h : Rows W base v0 v1 v2 N G P) (hb : base' ≤ base) : Rows W base' v0 v1 v2 N G P := ⟨Kd.R_lower h.n hb, Kd.R_lower h.g hb, Kd.R_lower h.p hb⟩
theorem Rows.below {W' : World} (h : Rows W base v0 v1 v2 N G P) (hb : Below W.heap.size W W') : Rows W' base v0 v1 v2 N G P := ⟨Kd.R_below h.n hb, Kd.R_below h.g hb, Kd.R_below h.p hb⟩
theorem DBox.laid {c : S76} (x y : Int) (h : DBox w W AN cN N AG cG G AP cP P c) (hr : Rows W base v0 v1 v2 N' G' P') (hb : w.heap.size ≤ base) :
  let F := ((((W.setCell ⟨w.heap.size + 2, 0, none⟩ v0).setCell ⟨w.heap.size + 2, 1, none⟩ v1).setCell ⟨w.heap.size + 2, 2, none⟩ v2).setCell ⟨w.heap.size + 3, 0, none⟩ (.int .i64 x)).setCell ⟨w.heap.size + 3, 1, none⟩ (.int .i64 y)
  F.heap[w.heap.size + 2]? = some (.cells #[v0, v1, v2] 38 (0, 0)) ∧ F.heap[w.heap.size + 3]? = some (.cells #[.int .i64 x, .int .i64 y] 73 (0, 0)) ∧ Rows F w.heap.size v0 v1 v2 N' G' P' ∧ Below w.heap.size w F := by
 have g2 : w.heap.size ≤ w.heap.size + 2 := by omega
 have g3 : w.heap.size ≤ w.heap.size + 3 := by omega
 have n1 : w.heap.size + 2 ≠ w.heap.size + 3 := by omega
 have n2 : w.heap.size + 3 ≠ w.heap.size + 2 := by omega
 intro F
 obtain ⟨W3, hW3⟩ : ∃ W3, W3 = ((W.setCell ⟨w.heap.size + 2, 0, none⟩ v0).setCell ⟨w.heap.size + 2, 1, none⟩ v1).setCell ⟨w.heap.size + 2, 2, none⟩ v2 := ⟨_, rfl⟩
 have hF : F = (W3.setCell ⟨w.heap.size + 3, 0, none⟩ (.int .i64 x)).setCell ⟨w.heap.size + 3, 1, none⟩ (.int .i64 y) := by rw [hW3]
 have k2 : W3.heap[w.heap.size + 2]? = some (.cells #[v0, v1, v2] 38 (0, 0)) := by rw [hW3]; exact kP h.res
 have i3 : Mv W W3 [w.heap.size + 2, w.heap.size + 2, w.heap.size + 2] := by rw [hW3]; infer_instance
 have k3 : W3.heap[w.heap.size + 3]? = some (.cells #[.int .i64 0, .int .i64 0] 73 (0, 0)) := kF h.bk n2
 have i2 : Mv W3 F [w.heap.size + 3, w.heap.size + 3] := by rw [hF]; infer_instance
 refine ⟨kF2 k2 n1, ?_, ⟨rF2 (rF (Kd.R_lower hr.n hb) h.res (by decide)) k3 (by decide), rF2 (rF (Kd.R_lower hr.g hb) h.res (by decide)) k3 (by decide), rF2 (rF (Kd.R_lower hr.p hb) h.res (by decide)) k3 (by decide)⟩, wF2 (wF (W := W3) h.bel g2) g3⟩
 rw [hF]
 exact blk_put (blk_put k3 0 _ rfl) 1 _ rfl
theorem own_rows (hl : lim3 N G P = true) {W : World} (h : MemoAt W AN cN N AG cG G AP cP P) :
  Calls Try.prog 86 #[.agg #[.slice AN N.length cN, .slice AG G.length cG, .slice AP P.length cP]] W fun e w' => ∃ v0 v1 v2 : Value, e = .returned (.agg #[v0, v1, v2]) ∧ Rows w' W.heap.size v0 v1 v2 N G P ∧ Below W.heap.size W w' :=
 (calls_own.calls 0 _ _ _ _ _ _ _ _ _ _ _ _ _ h.n h.nc h.g h.gc h.p h.pc (by
  unfold lim3 at hl
  simp only [Bool.and_eq_true] at hl
  unfold calls_own.f api_Node_94.f slices_Clone_int_int.f
  rw [if_pos hl.1, if_pos hl.2.1, if_pos hl.2.2]
  rfl)).mono fun e w' ⟨v0, v1, v2, he, h0, h1, h2, hb⟩ => ⟨v0, v1, v2, he, ⟨h0, h1, h2⟩, hb⟩
theorem own_lim {k : Nat} {r} (h : calls_own.f k N G P = some r) : lim3 N G P = true ∧ r = (N, G, P) := by
 unfold calls_own.f api_Node_94.f slices_Clone_int_int.f at h
 unfold lim3
 by_cases h0 : limN N = true
 ·by_cases h1 : limI G = true
  ·by_cases h2 : limI P = true
   ·rw [if_pos h0, if_pos h1, if_pos h2] at h
    exact ⟨by rw [h0, h1, h2]; rfl, (Option.some.inj h).symm⟩
   ·rw [if_pos h0, if_pos h1, if_neg h2] at h; cases h
  ·rw [if_pos h0, if_neg h1] at h; cases h
 ·rw [if_neg h0] at h; cases h
set_option maxHeartbeats 16000000 in
set_option maxRecDepth 100000 in
theorem Do_put (c : S76) {x y : Int} (hc : c.f0 = 0) (h : MemoAt w AN cN N AG cG G AP cP P) (HC : ∀ W, MemoAt W AN cN N AG cG G AP cP P → Calls Try.prog 47 #[.agg #[.slice AN N.length cN, .slice AG G.length cG, .slice AP P.length cP], .agg #[.bool c.f1.f0, .int .i64 c.f1.f1, .int .i64 c.f1.f2, .int .i64 c.f1.f3], .int .i64 c.f2] W fun e w' => ∃ v0 v1 v2 : Value, e = .returned (.tuple #[.agg #[v0, v1, v2], .int .i64 x, .int .i64 y]) ∧ Rows w' W.heap.size v0 v1 v2 N' G' P' ∧ Below W.heap.size W w') :
  Calls Try.prog 63 #[.agg #[.slice AN N.length cN, .slice AG G.length cG, .slice AP P.length cP], .agg #[.int .i64 c.f0, .bool c.f1.f0, .int .i64 c.f1.f1, .int .i64 c.f1.f2, .int .i64 c.f1.f3, .int .i64 c.f2, .int .i64 c.f3]] w fun e w' => ∃ v0 v1 v2 : Value, e = .returned (.tuple #[.agg #[v0, v1, v2], .agg #[.int .i64 x, .int .i64 y]]) ∧ Rows w' w.heap.size v0 v1 v2 N' G' P' ∧ Below w.heap.size w w' := by
 have HD := Aside0.mk (DBox.new w AN cN N AG cG G AP cP P c)
 have HP := Aside0.mk HC
 obtain ⟨k, n, u, v⟩ := c
 obtain ⟨n0, n1, n2, n3⟩ := n
 dsimp only at *
 subst hc
 obtain ⟨ha0, ha1, ha2⟩ := HD.out.box.cells
 obtain ⟨hb0, hb1, hb2, hb3, hb4, hb5, hb6, _⟩ := bk7 HD.out.cb
 have HM := Aside0.mk (h.below HD.out.bel)
 clear h HC
 go_enter Try.func63, Try.ntmps63
 go_wp2_with (go_at_call 47; refine (HP.out _ HM.out).mono ?_; rintro e w1 ⟨v0, v1, v2, rfl, hr, hb⟩; have hba := below_alloc (Below.refl w1.heap.size w1) (.cells #[v0, v1, v2] 38); have HR := Aside0.mk (hr.below hba); have HD1 := Aside0.mk ((HD.out.below hb).below hba); obtain ⟨A0, c0, rfl⟩ := Kd.R_slice hr.n; obtain ⟨A1, c1, rfl⟩ := Kd.R_slice hr.g; obtain ⟨A2, c2, rfl⟩ := Kd.R_slice hr.p; clear hr hb hba; obtain ⟨hz0, hz1, hz2, hf0, hf1, hf2⟩ := bk3 HD1.out.res; obtain ⟨hy0, hy1, hg0, hg1⟩ := bk2 HD1.out.bk)
 obtain ⟨hl1, hl2, hl3, hl4⟩ := HD1.out.laid x y HR.out (by have := HD.out.bel.size; exact this)
 exact bodyPost_ret (results_cc rfl _ _ (w.heap.size + 2) (w.heap.size + 3) 38 73 #[.slice A0 _ c0, .slice A1 _ c1, .slice A2 _ c2] #[.int .i64 x, .int .i64 y] (0, 0) (0, 0) _ _ rfl hl1 Try.underlying38 rfl (by kernel_rfl) rfl hl2 Try.underlying73 rfl (by kernel_rfl)) rfl ⟨_, _, _, rfl, hl3, hl4⟩
set_option maxHeartbeats 16000000 in
set_option maxRecDepth 100000 in
theorem Do_merge (c : S76) {x y : Int} (hc : c.f0 = 1) (h : MemoAt w AN cN N AG cG G AP cP P) (HC : ∀ W, MemoAt W AN cN N AG cG G AP cP P → Calls Try.prog 40 #[.agg #[.slice AN N.length cN, .slice AG G.length cG, .slice AP P.length cP], .int .i64 c.f2, .int .i64 c.f3] W fun e w' => ∃ v0 v1 v2 : Value, e = .returned (.tuple #[.agg #[v0, v1, v2], .int .i64 x, .int .i64 y]) ∧ Rows w' W.heap.size v0 v1 v2 N' G' P' ∧ Below W.heap.size W w') :
  Calls Try.prog 63 #[.agg #[.slice AN N.length cN, .slice AG G.length cG, .slice AP P.length cP], .agg #[.int .i64 c.f0, .bool c.f1.f0, .int .i64 c.f1.f1, .int .i64 c.f1.f2, .int .i64 c.f1.f3, .int .i64 c.f2, .int .i64 c.f3]] w fun e w' => ∃ v0 v1 v2 : Value, e = .returned (.tuple #[.agg #[v0, v1, v2], .agg #[.int .i64 x, .int .i64 y]]) ∧ Rows w' w.heap.size v0 v1 v2 N' G' P' ∧ Below w.heap.size w w' := by
 have HD := Aside0.mk (DBox.new w AN cN N AG cG G AP cP P c)
 have HP := Aside0.mk HC
 obtain ⟨k, n, u, v⟩ := c
 obtain ⟨n0, n1, n2, n3⟩ := n
 dsimp only at *
 subst hc
 obtain ⟨ha0, ha1, ha2⟩ := HD.out.box.cells
 obtain ⟨hb0, hb1, hb2, hb3, hb4, hb5, hb6, _⟩ := bk7 HD.out.cb
 have HM := Aside0.mk (h.below HD.out.bel)
 clear h HC
 go_enter Try.func63, Try.ntmps63
 go_wp2_with (go_at_call 40; refine (HP.out _ HM.out).mono ?_; rintro e w1 ⟨v0, v1, v2, rfl, hr, hb⟩; have hba := below_alloc (Below.refl w1.heap.size w1) (.cells #[v0, v1, v2] 38); have HR := Aside0.mk (hr.below hba); have HD1 := Aside0.mk ((HD.out.below hb).below hba); obtain ⟨A0, c0, rfl⟩ := Kd.R_slice hr.n; obtain ⟨A1, c1, rfl⟩ := Kd.R_slice hr.g; obtain ⟨A2, c2, rfl⟩ := Kd.R_slice hr.p; clear hr hb hba; obtain ⟨hz0, hz1, hz2, hf0, hf1, hf2⟩ := bk3 HD1.out.res; obtain ⟨hy0, hy1, hg0, hg1⟩ := bk2 HD1.out.bk)
 obtain ⟨hl1, hl2, hl3, hl4⟩ := HD1.out.laid x y HR.out (by have := HD.out.bel.size; exact this)
 exact bodyPost_ret (results_cc rfl _ _ (w.heap.size + 2) (w.heap.size + 3) 38 73 #[.slice A0 _ c0, .slice A1 _ c1, .slice A2 _ c2] #[.int .i64 x, .int .i64 y] (0, 0) (0, 0) _ _ rfl hl1 Try.underlying38 rfl (by kernel_rfl) rfl hl2 Try.underlying73 rfl (by kernel_rfl)) rfl ⟨_, _, _, rfl, hl3, hl4⟩
set_option maxHeartbeats 16000000 in
set_option maxRecDepth 100000 in
theorem Do_else (c : S76) (h0 : c.f0 ≠ 0) (h1 : c.f0 ≠ 1) (h2 : c.f0 ≠ 2) (h3 : c.f0 ≠ 3) (hl : lim3 N G P = true) (h : MemoAt w AN cN N AG cG G AP cP P) :
  Calls Try.prog 63 #[.agg #[.slice AN N.length cN, .slice AG G.length cG, .slice AP P.length cP], .agg #[.int .i64 c.f0, .bool c.f1.f0, .int .i64 c.f1.f1, .int .i64 c.f1.f2, .int .i64 c.f1.f3, .int .i64 c.f2, .int .i64 c.f3]] w fun e w' => ∃ v0 v1 v2 : Value, e = .returned (.tuple #[.agg #[v0, v1, v2], .agg #[.int .i64 (-1), .int .i64 1]]) ∧ Rows w' w.heap.size v0 v1 v2 N G P ∧ Below w.heap.size w w' := by
 have HD := Aside0.mk (DBox.new w AN cN N AG cG G AP cP P c)
 have HO := Aside0.mk (fun (W : World) (h : MemoAt W AN cN N AG cG G AP cP P) => own_rows hl h)
 obtain ⟨k, n, u, v⟩ := c
 obtain ⟨n0, n1, n2, n3⟩ := n
 dsimp only at *
 obtain ⟨ha0, ha1, ha2⟩ := HD.out.box.cells
 obtain ⟨hb0, hb1, hb2, hb3, hb4, hb5, hb6, _⟩ := bk7 HD.out.cb
 have HM := Aside0.mk (h.below HD.out.bel)
 clear h hl
 go_enter Try.func63, Try.ntmps63
 go_wp2_with (go_at_call 86; refine (HO.out _ HM.out).mono ?_; rintro e w1 ⟨v0, v1, v2, rfl, hr, hb⟩; have HR := Aside0.mk hr; have HD1 := Aside0.mk (HD.out.below hb); obtain ⟨A0, c0, rfl⟩ := Kd.R_slice hr.n; obtain ⟨A1, c1, rfl⟩ := Kd.R_slice hr.g; obtain ⟨A2, c2, rfl⟩ := Kd.R_slice hr.p; clear hr hb; obtain ⟨hz0, hz1, hz2, hf0, hf1, hf2⟩ := bk3 HD1.out.res; obtain ⟨hy0, hy1, hg0, hg1⟩ := bk2 HD1.out.bk)
 obtain ⟨hl1, hl2, hl3, hl4⟩ := HD1.out.laid (-1) 1 HR.out HD.out.bel.size
 exact bodyPost_ret (results_cc rfl _ _ (w.heap.size + 2) (w.heap.size + 3) 38 73 #[.slice A0 _ c0, .slice A1 _ c1, .slice A2 _ c2] #[.int .i64 (-1), .int .i64 1] (0, 0) (0, 0) _ _ rfl hl1 Try.underlying38 rfl (by kernel_rfl) rfl hl2 Try.underlying73 rfl (by kernel_rfl)) rfl ⟨_, _, _, rfl, hl3, hl4⟩
set_option maxHeartbeats 16000000 in
set_option maxRecDepth 100000 in
theorem Do_look (c : S76) {p : Int × Bool} {x y : Int} (hc : c.f0 = 3) (hp : p = lookS N G P c.f1) (ht : calls_there.f p.1 = some (x, y)) (hl : lim3 N G P = true) (h : MemoAt w AN cN N AG cG G AP cP P) :
  Calls Try.prog 63 #[.agg #[.slice AN N.length cN, .slice AG G.length cG, .slice AP P.length cP], .agg #[.int .i64 c.f0, .bool c.f1.f0, .int .i64 c.f1.f1, .int .i64 c.f1.f2, .int .i64 c.f1.f3, .int .i64 c.f2, .int .i64 c.f3]] w fun e w' => ∃ v0 v1 v2 : Value, e = .returned (.tuple #[.agg #[v0, v1, v2], .agg #[.int .i64 x, .int .i64 y]]) ∧ Rows w' w.heap.size v0 v1 v2 N G P ∧ Below w.heap.size w w' := by
 have HD := Aside0.mk (DBox.new w AN cN N AG cG G AP cP P c)
 have HO := Aside0.mk (fun (W : World) (h : MemoAt W AN cN N AG cG G AP cP P) => own_rows hl h)
 have HL := Aside0.mk (fun (W : World) (h : MemoAt W AN cN N AG cG G AP cP P) => Look_calls c.f1 h)
 have HT := Aside0.mk (fun (W : World) => calls_there.calls _ _ _ W ht)
 rw [← hp] at HL
 obtain ⟨z, b⟩ := p
 obtain ⟨k, n, u, v⟩ := c
 obtain ⟨n0, n1, n2, n3⟩ := n
 dsimp only at *
 subst hc
 obtain ⟨ha0, ha1, ha2⟩ := HD.out.box.cells
 obtain ⟨hb0, hb1, hb2, hb3, hb4, hb5, hb6, _⟩ := bk7 HD.out.cb
 have HM := Aside0.mk (h.below HD.out.bel)
 clear h hl hp ht
 go_enter Try.func63, Try.ntmps63
 go_wp2_with (first
  | (go_at_call 45; refine (HL.out _ HM.out).mono ?_; rintro e w1 ⟨rfl, hb⟩; have HM1 := Aside0.mk (HM.out.below hb); have HD1 := Aside0.mk (HD.out.below hb); obtain ⟨hc0, hc1, hc2⟩ := HD1.out.box.cells; clear hb)
  | (go_at_call 86; refine (HO.out _ HM1.out).mono ?_; rintro e w2 ⟨v0, v1, v2, rfl, hr, hb⟩; have HR := Aside0.mk (hr.lower HD1.out.bel.size); have HD2 := Aside0.mk (HD1.out.below hb); obtain ⟨A0, c0, rfl⟩ := Kd.R_slice hr.n; obtain ⟨A1, c1, rfl⟩ := Kd.R_slice hr.g; obtain ⟨A2, c2, rfl⟩ := Kd.R_slice hr.p; clear hr hb)
  | (go_at_call 89; refine (HT.out _).mono ?_; rintro e w3 ⟨rfl, hb⟩; have HR3 := Aside0.mk (HR.out.below hb); have HD3 := Aside0.mk (HD2.out.below hb); clear hb; obtain ⟨hz0, hz1, hz2, hf0, hf1, hf2⟩ := bk3 HD3.out.res; obtain ⟨hy0, hy1, hg0, hg1⟩ := bk2 HD3.out.bk))
 obtain ⟨hl1, hl2, hl3, hl4⟩ := HD3.out.laid x y HR3.out (Nat.le_refl _)
 exact bodyPost_ret (results_cc rfl _ _ (w.heap.size + 2) (w.heap.size + 3) 38 73 #[.slice A0 _ c0, .slice A1 _ c1, .slice A2 _ c2] #[.int .i64 x, .int .i64 y] (0, 0) (0, 0) _ _ rfl hl1 Try.underlying38 rfl (by kernel_rfl) rfl hl2 Try.underlying73 rfl (by kernel_rfl)) rfl ⟨_, _, _, rfl, hl3, hl4⟩
set_option maxHeartbeats 16000000 in
set_option maxRecDepth 100000 in
theorem Do_find (c : S76) {z x y : Int} (hc : c.f0 = 2) (hz : z = findS P c.f2) (ht : calls_there.f z = some (x, y)) (hl : lim3 N G P = true) (h : MemoAt w AN cN N AG cG G AP cP P) :
  Calls Try.prog 63 #[.agg #[.slice AN N.length cN, .slice AG G.length cG, .slice AP P.length cP], .agg #[.int .i64 c.f0, .bool c.f1.f0, .int .i64 c.f1.f1, .int .i64 c.f1.f2, .int .i64 c.f1.f3, .int .i64 c.f2, .int .i64 c.f3]] w fun e w' => ∃ v0 v1 v2 : Value, e = .returned (.tuple #[.agg #[v0, v1, v2], .agg #[.int .i64 x, .int .i64 y]]) ∧ Rows w' w.heap.size v0 v1 v2 N G P ∧ Below w.heap.size w w' := by
 have HD := Aside0.mk (DBox.new w AN cN N AG cG G AP cP P c)
 have HO := Aside0.mk (fun (W : World) (h : MemoAt W AN cN N AG cG G AP cP P) => own_rows hl h)
 have HF := Aside0.mk (fun (W : World) (h : MemoAt W AN cN N AG cG G AP cP P) => memo_Find.calls 0 _ _ _ _ _ _ _ _ _ c.f2 z W h.n h.nc h.g h.gc h.p h.pc (by unfold memo_Find.f sets_Find.f; rw [hz]; rfl))
 have HT := Aside0.mk (fun (W : World) => calls_there.calls _ _ _ W ht)
 obtain ⟨k, n, u, v⟩ := c
 obtain ⟨n0, n1, n2, n3⟩ := n
 dsimp only at *
 subst hc
 obtain ⟨ha0, ha1, ha2⟩ := HD.out.box.cells
 obtain ⟨hb0, hb1, hb2, hb3, hb4, hb5, hb6, _⟩ := bk7 HD.out.cb
 have HMw := Aside0.mk (h.below HD.out.bel)
 clear h hl hz ht
 go_enter Try.func63, Try.ntmps63
 go_wp2
 clear ha0 ha1 ha2 hb0 hb1 hb2 hb3 hb4 hb5 hb6
 obtain ⟨W, hW⟩ : ∃ W, W = ((((w.alloc (.cells #[.slice AN N.length cN, .slice AG G.length cG, .slice AP P.length cP] 38)).alloc (.cells #[.int .i64 2, .bool n0, .int .i64 n1, .int .i64 n2, .int .i64 n3, .int .i64 u, .int .i64 v] 76)).alloc (.cells #[.slice none 0 0, .slice none 0 0, .slice none 0 0] 38)).alloc (.cells #[.int .i64 0, .int .i64 0] 73)) := ⟨_, rfl⟩
 rw [← hW] at HD HMw ⊢
 clear hW
 refine start_ (n := 9) (S := fun w' => Below W.drew.heap.size W.drew w') (ds := [7, 8]) #[false, false, false, false, false, false, false, false, false] (by kernel_rfl) rfl rfl (Below.refl _ _) (fun _ => ?_)
 have HDd := Aside0.mk (HD.out.below (below_drew (Below.refl _ _)))
 have HM := Aside0.mk (HMw.out.below (below_drew (Below.refl _ _)))
 clear HD HMw
 obtain ⟨wd, hwd⟩ : ∃ w', w' = W.drew := ⟨_, rfl⟩
 rw [← hwd] at HDd HM ⊢
 clear hwd
 have gr : ∀ {W1 W2 : World}, Below wd.heap.size wd W1 → Below W1.heap.size W1 W2 → Below wd.heap.size wd W2 := fun h h' => h.trans (h'.mono h.size)
 refine take_ (i := 0) (N := some 50) (v := ?_) (a' := ?_) #[true, false, false, false, false, false, false, false, false] rfl rfl (by kernel_rfl) (fun _ _ _ h => h) (Or.inl ⟨by rfl, ?_⟩) (Below.refl _ _) ?_ ?_
 rotate_left
 ·intro w' hs; obtain ⟨s0, s1, s2⟩ := (HDd.out.below hs).box.cells; clear hs; go_simp; with_reducible rfl
 rotate_left
 ·simp only [Act.put, List.setIfInBounds_toArray, List.set_cons_zero, List.set_cons_succ, i64_w, i32_w]; rfl
 refine take_ (i := 2) (N := some 52) (v := ?_) (a' := ?_) #[true, false, true, false, false, false, false, false, false] rfl rfl (by kernel_rfl) (fun _ _ _ h => h) (Or.inl ⟨by rfl, ?_⟩) (Below.refl _ _) ?_ ?_
 rotate_left
 ·intro w' hs; obtain ⟨s0, s1, s2⟩ := (HDd.out.below hs).box.cells; clear hs; go_simp; with_reducible rfl
 rotate_left
 ·simp only [Act.put, List.setIfInBounds_toArray, List.set_cons_zero, List.set_cons_succ, i64_w, i32_w]; rfl
 refine pure_ (i := 3) (N := some 53) (v := ?_) (a' := ?_) #[true, false, true, true, false, false, false, false, false] rfl rfl (by kernel_rfl) (fun _ _ _ h => h) (Or.inl ⟨by rfl, ?_⟩) ?_ ?_
 rotate_left
 ·intro w'; go_simp; with_reducible rfl
 rotate_left
 ·simp only [Act.put, List.setIfInBounds_toArray, List.set_cons_zero, List.set_cons_succ, i64_w, i32_w]; rfl
 refine take_ (i := 4) (N := some 54) (v := ?_) (a' := ?_) #[true, false, true, true, true, false, false, false, false] rfl rfl (by kernel_rfl) (fun _ _ _ h => h) (Or.inl ⟨by rfl, ?_⟩) (Below.refl _ _) ?_ ?_
 rotate_left
 ·intro w' hs; obtain ⟨s0, s1, s2, s3, s4, s5, s6, _⟩ := bk7 (HDd.out.below hs).cb; clear hs; go_simp; with_reducible rfl
 rotate_left
 ·simp only [Act.put, List.setIfInBounds_toArray, List.set_cons_zero, List.set_cons_succ, i64_w, i32_w]; rfl
 refine one_ (i := 1) (N := some 51) #[true, true, true, true, true, false, false, false, false] rfl rfl (by kernel_rfl) (by decide) (fun K hK => ?_)
 refine goes_ Try.func86 (by kernel_rfl) rfl #[.agg #[.slice AN N.length cN, .slice AG G.length cG, .slice AP P.length cP]] rfl rfl rfl (by simp only [List.map_toArray, List.map_cons, List.map_nil]; rfl) ((HO.out _ HM.out).mono ?_)
 rintro e w1 ⟨v0, v1, v2, rfl, hr, hb1⟩
 refine ⟨_, rfl, hK.out _ _ hb1 (fun _ => ?_)⟩
 clear hK K
 refine norm_ (a' := ?_) ?_ ?_
 rotate_left
 ·show Act.put _ (some 51) _ = _
  simp only [Act.put, List.setIfInBounds_toArray, List.set_cons_zero, List.set_cons_succ, i64_w, i32_w]; rfl
 refine one_ (i := 5) (N := some 55) #[true, true, true, true, true, true, false, false, false] rfl rfl (by kernel_rfl) (by decide) (fun K hK => ?_)
 refine goes_ Try.func42 (by kernel_rfl) rfl #[.agg #[.slice AN N.length cN, .slice AG G.length cG, .slice AP P.length cP], .int .i64 u] rfl rfl rfl (by simp only [List.map_toArray, List.map_cons, List.map_nil]; rfl) ((HF.out _ (HM.out.below hb1)).mono ?_)
 rintro e w2 ⟨rfl, hb2⟩
 refine ⟨_, rfl, hK.out _ _ (gr hb1 hb2) (fun _ => ?_)⟩
 clear hK K
 refine norm_ (a' := ?_) ?_ ?_
 rotate_left
 ·show Act.put _ (some 55) _ = _
  simp only [Act.put, List.setIfInBounds_toArray, List.set_cons_zero, List.set_cons_succ, i64_w, i32_w]; rfl
 refine one_ (i := 6) (N := some 56) #[true, true, true, true, true, true, true, false, false] rfl rfl (by kernel_rfl) (by decide) (fun K hK => ?_)
 refine goes_ Try.func89 (by kernel_rfl) rfl #[.int .i64 z] rfl rfl rfl (by simp only [List.map_toArray, List.map_cons, List.map_nil]; rfl) ((HT.out _).mono ?_)
 rintro e w3 ⟨rfl, hb3⟩
 refine ⟨_, rfl, hK.out _ _ (gr (gr hb1 hb2) hb3) (fun _ => ?_)⟩
 clear hK K
 refine norm_ (a' := ?_) ?_ ?_
 rotate_left
 ·show Act.put _ (some 56) _ = _
  simp only [Act.put, List.setIfInBounds_toArray, List.set_cons_zero, List.set_cons_succ, i64_w, i32_w]; rfl
 have hb := gr (gr hb1 hb2) hb3
 replace hr := (hr.below hb2).below hb3
 have HR := Aside0.mk hr
 have HD3 := Aside0.mk (HDd.out.below hb)
 clear hb1 hb2 hb3
 have hb3 := HDd.out.bel.size
 obtain ⟨A0, c0, e0⟩ := Kd.R_slice hr.n
 obtain ⟨A1, c1, e1⟩ := Kd.R_slice hr.g
 obtain ⟨A2, c2, e2⟩ := Kd.R_slice hr.p
 subst e0 e1 e2
 clear hr hb
 obtain ⟨hz0, hz1, hz2, hf0, hf1, hf2⟩ := bk3 HD3.out.res
 obtain ⟨hy0, hy1, hg0, hg1⟩ := bk2 HD3.out.bk
 refine last_ (i := 7) (N := none) #[true, true, true, true, true, true, true, true, false] rfl rfl (by kernel_rfl) (by decide) (fun K hK => ?_)
 refine skip_ (w1 := ?_) (by rfl) rfl ?_ ?_
 rotate_left
 ·go_simp; rfl
 refine hK.out _ _ ?_
 clear hK K
 refine last_ (i := 8) (N := none) #[true, true, true, true, true, true, true, true, true] rfl rfl (by kernel_rfl) (by decide) (fun K hK => ?_)
 refine skip_ (w1 := ?_) (by rfl) rfl ?_ ?_
 rotate_left
 ·go_simp; rfl
 refine hK.out _ _ ?_
 clear hK K
 refine done_ (by kernel_rfl) ?_
 go_wp2
 obtain ⟨hl1, hl2, hl3, hl4⟩ := HD3.out.laid x y HR.out hb3
 exact bodyPost_ret (results_cc rfl _ _ (w.heap.size + 2) (w.heap.size + 3) 38 73 #[.slice A0 _ c0, .slice A1 _ c1, .slice A2 _ c2] #[.int .i64 x, .int .i64 y] (0, 0) (0, 0) _ _ rfl hl1 Try.underlying38 rfl (by kernel_rfl) rfl hl2 Try.underlying73 rfl (by kernel_rfl)) rfl ⟨_, _, _, rfl, hl3, hl4⟩
end
theorem calls_Do.calls (k : Nat) (A0_0 : Option Addr) (c0_0 : Nat) (l0_0 : List (S48)) (A0_1 : Option Addr) (c0_1 : Nat) (l0_1 : List Int) (A0_2 : Option Addr) (c0_2 : Nat) (l0_2 : List Int) (a1_0 : Int) (a1_1 : Bool) (a1_2 : Int) (a1_3 : Int) (a1_4 : Int) (a1_5 : Int) (a1_6 : Int) (r1 : List (S48)) (r2 : List Int) (r3 : List Int) (r4 : Int) (r5 : Int) (w : World) (hr0_0 : Kd.C k48 w A0_0 l0_0.length l0_0) (hc0_0 : l0_0.length ≤ c0_0) (hr0_1 : Kd.C (Kd.int .i64) w A0_1 l0_1.length l0_1) (hc0_1 : l0_1.length ≤ c0_1) (hr0_2 : Kd.C (Kd.int .i64) w A0_2 l0_2.length l0_2) (hc0_2 : l0_2.length ≤ c0_2) (h : calls_Do.f k l0_0 l0_1 l0_2 a1_0 a1_1 a1_2 a1_3 a1_4 a1_5 a1_6 = some (r1, r2, r3, r4, r5)) :
 Calls Try.prog 63 #[.agg #[.slice A0_0 l0_0.length c0_0, .slice A0_1 l0_1.length c0_1, .slice A0_2 l0_2.length c0_2], .agg #[.int .i64 a1_0, .bool a1_1, .int .i64 a1_2, .int .i64 a1_3, .int .i64 a1_4, .int .i64 a1_5, .int .i64 a1_6]] w fun e w' => ∃ v0_ v1_ v2_ : Value, e = .returned (.tuple #[.agg #[v0_, v1_, v2_], .agg #[.int .i64 r4, .int .i64 r5]]) ∧ Kd.R k48 48 w' w.heap.size (fun _ => True) v0_ r1 ∧ Kd.R (Kd.int .i64) 3 w' w.heap.size (fun k_ => some k_ ≠ (v2_ : Value).ownBlock) v1_ r2 ∧ Kd.R (Kd.int .i64) 3 w' w.heap.size (fun k_ => some k_ ≠ (v1_ : Value).ownBlock) v2_ r3 ∧ Below w.heap.size w w' := by
 have hM : MemoAt w A0_0 c0_0 l0_0 A0_1 c0_1 l0_1 A0_2 c0_2 l0_2 := ⟨hr0_0, hc0_0, hr0_1, hc0_1, hr0_2, hc0_2⟩
 have cast : ∀ {x y : Int}, (Calls Try.prog 63 #[.agg #[.slice A0_0 l0_0.length c0_0, .slice A0_1 l0_1.length c0_1, .slice A0_2 l0_2.length c0_2], .agg #[.int .i64 a1_0, .bool a1_1, .int .i64 a1_2, .int .i64 a1_3, .int .i64 a1_4, .int .i64 a1_5, .int .i64 a1_6]] w fun e w' => ∃ v0 v1 v2 : Value, e = .returned (.tuple #[.agg #[v0, v1, v2], .agg #[.int .i64 x, .int .i64 y]]) ∧ Rows w' w.heap.size v0 v1 v2 r1 r2 r3 ∧ Below w.heap.size w w') → x = r4 → y = r5 → Calls Try.prog 63 #[.agg #[.slice A0_0 l0_0.length c0_0, .slice A0_1 l0_1.length c0_1, .slice A0_2 l0_2.length c0_2], .agg #[.int .i64 a1_0, .bool a1_1, .int .i64 a1_2, .int .i64 a1_3, .int .i64 a1_4, .int .i64 a1_5, .int .i64 a1_6]] w fun e w' => ∃ v0_ v1_ v2_ : Value, e = .returned (.tuple #[.agg #[v0_, v1_, v2_], .agg #[.int .i64 r4, .int .i64 r5]]) ∧ Kd.R k48 48 w' w.heap.size (fun _ => True) v0_ r1 ∧ Kd.R (Kd.int .i64) 3 w' w.heap.size (fun k_ => some k_ ≠ (v2_ : Value).ownBlock) v1_ r2 ∧ Kd.R (Kd.int .i64) 3 w' w.heap.size (fun k_ => some k_ ≠ (v1_ : Value).ownBlock) v2_ r3 ∧ Below w.heap.size w w' := fun hC hx hy => (hx ▸ hy ▸ hC : Calls Try.prog 63 _ w _).mono fun e w' ⟨v0, v1, v2, he, hr, hb⟩ => ⟨v0, v1, v2, he, hr.n, hr.g, hr.p, hb⟩
 unfold calls_Do.f at h
 by_cases h0 : a1_0 = 0
 ·rw [if_pos h0] at h
  obtain ⟨⟨p1, p2, p3, p4, p5⟩, hp, h⟩ := Option.bind_eq_some_iff.1 h
  simp only [Option.some.injEq, Prod.mk.injEq] at h
  obtain ⟨rfl, rfl, rfl, rfl, rfl⟩ := h
  exact cast (Do_put ⟨a1_0, ⟨a1_1, a1_2, a1_3, a1_4⟩, a1_5, a1_6⟩ h0 hM (fun W h => (memo_Put.calls k _ _ _ _ _ _ _ _ _ _ _ _ _ _ _ _ _ _ _ W h.n h.nc h.g h.gc h.p h.pc hp).mono fun e w' ⟨v0, v1, v2, he, h0, h1, h2, hb⟩ => ⟨v0, v1, v2, he, ⟨h0, h1, h2⟩, hb⟩)) rfl rfl
 ·rw [if_neg h0] at h
  by_cases h1 : a1_0 = 1
  ·rw [if_pos h1] at h
   obtain ⟨⟨p1, p2, p3, p4, p5⟩, hp, h⟩ := Option.bind_eq_some_iff.1 h
   simp only [Option.some.injEq, Prod.mk.injEq] at h
   obtain ⟨rfl, rfl, rfl, rfl, rfl⟩ := h
   exact cast (Do_merge ⟨a1_0, ⟨a1_1, a1_2, a1_3, a1_4⟩, a1_5, a1_6⟩ h1 hM (fun W h => (memo_Merge.calls k _ _ _ _ _ _ _ _ _ _ _ _ _ _ _ _ W h.n h.nc h.g h.gc h.p h.pc hp).mono fun e w' ⟨v0, v1, v2, he, h0, h1, h2, hb⟩ => ⟨v0, v1, v2, he, ⟨h0, h1, h2⟩, hb⟩)) rfl rfl
  ·rw [if_neg h1] at h
   by_cases h2 : a1_0 = 2
   ·rw [if_pos h2] at h
    obtain ⟨q, hq, h⟩ := Option.bind_eq_some_iff.1 h
    obtain ⟨hl, rfl⟩ := own_lim hq
    obtain ⟨z, hz, h⟩ := Option.bind_eq_some_iff.1 h
    obtain ⟨⟨t1, t2⟩, ht, h⟩ := Option.bind_eq_some_iff.1 h
    simp only [Option.some.injEq, Prod.mk.injEq] at h
    obtain ⟨rfl, rfl, rfl, rfl, rfl⟩ := h
    unfold memo_Find.f sets_Find.f at hz
    exact cast (Do_find ⟨a1_0, ⟨a1_1, a1_2, a1_3, a1_4⟩, a1_5, a1_6⟩ h2 (Option.some.inj hz).symm ht hl hM) rfl rfl
   ·rw [if_neg h2] at h
    by_cases h3 : a1_0 = 3
    ·rw [if_pos h3] at h
     obtain ⟨p, hp, h⟩ := Option.bind_eq_some_iff.1 h
     obtain ⟨q, hq, h⟩ := Option.bind_eq_some_iff.1 h
     obtain ⟨hl, rfl⟩ := own_lim hq
     obtain ⟨⟨t1, t2⟩, ht, h⟩ := Option.bind_eq_some_iff.1 h
     simp only [Option.some.injEq, Prod.mk.injEq] at h
     obtain ⟨rfl, rfl, rfl, rfl, rfl⟩ := h
     exact cast (Do_look ⟨a1_0, ⟨a1_1, a1_2, a1_3, a1_4⟩, a1_5, a1_6⟩ h3 (Option.some.inj hp).symm ht hl hM) rfl rfl
    ·rw [if_neg h3] at h
     obtain ⟨q, hq, h⟩ := Option.bind_eq_some_iff.1 h
     obtain ⟨hl, rfl⟩ := own_lim hq
     simp only [Option.some.injEq, Prod.mk.injEq] at h
     obtain ⟨rfl, rfl, rfl, rfl, rfl⟩ := h
     exact cast (Do_else ⟨a1_0, ⟨a1_1, a1_2, a1_3, a1_4⟩, a1_5, a1_6⟩ h0 h1 h2 h3 hl hM) rfl rfl
end Go.Proofs.Ytkidnomkfdnciaa.All
namespace Go.Proofs.Ytkidnomkfdnciaa.All
open Go.RowKit Go.Proofs.YtkidnomkfdnciaaW.PrintWords Go.Proofs.YtkidnomkfdnciaaW.PrintLast Go.Proofs.YtkidnomkfdnciaaW.PrintMore
attribute [local go_sem] max2_int min2_int max_two min_two max_three min_three max_four min_four
set_option linter.unusedVariables false
set_option linter.unusedSimpArgs false
end Go.Proofs.Ytkidnomkfdnciaa.All
namespace Go.Proofs.Ytkidnomkfdnciaa.All
open Go.RowKit Go.Proofs.YtkidnomkfdnciaaW.PrintWords Go.Proofs.YtkidnomkfdnciaaW.PrintLast Go.Proofs.YtkidnomkfdnciaaW.PrintMore
attribute [local go_sem] max2_int min2_int max_two min_two max_three min_three max_four min_four
set_option linter.unusedVariables false
set_option linter.unusedSimpArgs false
theorem eqA73 (d : Nat) (w : World) (x0 y0 : Int) (x1 y1 : Int) :
  (Op.equalIn (d + 2) 73 (.agg #[.int .i64 x0, .int .i64 x1]) (.agg #[.int .i64 y0, .int .i64 y1])).run Try.prog w = .ok (x0 == y0 && (x1 == y1)) w := by
 refine eqA_of Try.underlying73 (by kernel_rfl) ?_
 refine eqf_cons (by rfl) (by go_simp; rfl) (by go_simp; rfl) (by go_simp) ?_
 exact eqf_last (by rfl) (by go_simp; rfl) (by go_simp; rfl) (by go_simp)
end Go.Proofs.Ytkidnomkfdnciaa.All
namespace Go.Proofs.Ytkidnomkfdnciaa.All
open Go.RowKit Go.Proofs.YtkidnomkfdnciaaW.PrintWords Go.Proofs.YtkidnomkfdnciaaW.PrintLast Go.Proofs.YtkidnomkfdnciaaW.PrintMore
attribute [local go_sem] max2_int min2_int max_two min_two max_three min_three max_four min_four
set_option linter.unusedVariables false
set_option linter.unusedSimpArgs false
attribute [local go_sem high] eqA73
end Go.Proofs.Ytkidnomkfdnciaa.All
namespace Go.Proofs.Ytkidnomkfdnciaa.All
open Go.RowKit Go.Proofs.YtkidnomkfdnciaaW.PrintWords Go.Proofs.YtkidnomkfdnciaaW.PrintLast Go.Proofs.YtkidnomkfdnciaaW.PrintMore
attribute [local go_sem] max2_int min2_int max_two min_two max_three min_three max_four min_four
set_option linter.unusedVariables false
set_option linter.unusedSimpArgs false
def roadbooklaw16_Far.f (l0_0 : List (S48)) (l0_1 : List Int) (l0_2 : List Int) (a1 : Int) : Option (Int) := (roadbooklaw16_few.f l0_0 l0_1 l0_2 a1).bind fun t12 => (if t12 = true then (some 0) else (some 1))
set_option maxHeartbeats 8000000 in
set_option maxRecDepth 100000 in
theorem roadbooklaw16_Far.calls (A0_0 : Option Addr) (c0_0 : Nat) (l0_0 : List (S48)) (A0_1 : Option Addr) (c0_1 : Nat) (l0_1 : List Int) (A0_2 : Option Addr) (c0_2 : Nat) (l0_2 : List Int) (a1 : Int) (r : Int) (w : World) (hr0_0 : Kd.C k48 w A0_0 l0_0.length l0_0) (hc0_0 : l0_0.length ≤ c0_0) (hr0_1 : Kd.C (Kd.int .i64) w A0_1 l0_1.length l0_1) (hc0_1 : l0_1.length ≤ c0_1) (hr0_2 : Kd.C (Kd.int .i64) w A0_2 l0_2.length l0_2) (hc0_2 : l0_2.length ≤ c0_2) (h : roadbooklaw16_Far.f l0_0 l0_1 l0_2 a1 = some r) :
  Calls Try.prog 58 #[.agg #[.slice A0_0 l0_0.length c0_0, .slice A0_1 l0_1.length c0_1, .slice A0_2 l0_2.length c0_2], .int .i64 a1] w fun e w' => e = .returned (.int .i64 r) ∧ Below w.heap.size w w' := by
 have hu38 := Try.underlying38
 have HR0_0 := Aside0.mk hr0_0
 have HC0_0 := Aside0.mk hc0_0
 clear hr0_0 hc0_0
 have HR0_1 := Aside0.mk hr0_1
 have HC0_1 := Aside0.mk hc0_1
 clear hr0_1 hc0_1
 have HR0_2 := Aside0.mk hr0_2
 have HC0_2 := Aside0.mk hc0_2
 clear hr0_2 hc0_2
 have HB := Aside0.mk (Below.refl w.heap.size w)
 have H : ((roadbooklaw16_few.f l0_0 l0_1 l0_2 a1).bind fun t12 => (if t12 = true then (some 0) else (some 1))) = some r := h
 clear h
 replace H := Option.bind_eq_some_iff.mp H
 obtain ⟨t12, A30, H⟩ := H
 replace H : (if t12 = true then (some 0) else (some 1)) = some r := H
 have A3 := Aside0.mk A30
 clear A30
 by_cases c4 : t12 = true
 ·subst c4
  have H1 : (some 0) = some r := by rw [if_pos rfl] at H; exact H
  clear H
  have H := H1
  clear H1
  obtain rfl := Option.some.inj H
  go_enter Try.func58, Try.ntmps58
  go_wp2_with (first | ((with_reducible refine gate_dst (N := 2) rfl ?_); refine box_event ?hg (N := 2) ?hd (cs := #[.slice A0_0 l0_0.length c0_0, .slice A0_1 l0_1.length c0_1, .slice A0_2 l0_2.length c0_2]) (t := 38) ?hr ?_; (case hd => rfl); (case hg => rfl); (case hr => first | (go_simp; done) ); intro gb11 hg w5 hbox hb; have n0_ := Aside0.mk (below_step (by repeat ((with_reducible first | exact HB.out ))) hb); have n1_ := Aside0.mk (hbox); have n2_ := Aside0.mk ((by rw [hg]; exact (below_size (by repeat ((with_reducible first | exact HB.out )))) : w.heap.size ≤ gb11)); have n3_ := Aside0.mk ((by rw [hg]; exact (below_size (by repeat ((with_reducible first | exact HB.out )))) : w.heap.size ≤ gb11)); clear HB; have HB := n0_; have BK11 := n1_; have GW11 := n2_; have GE11 := n3_; clear n0_ n1_ n2_ n3_; clear hb hbox hg; obtain ⟨hcz6_0, hcz6_1, hcz6_2, hfz6_0, hfz6_1, hfz6_2⟩ := bk3 BK11.out) | ((with_reducible refine gate_callee (f := 39) rfl ?_); refine goesL_ (some 8) rfl rfl Try.func39 (by kernel_rfl) rfl #[.agg #[.slice A0_0 l0_0.length c0_0, .slice A0_1 l0_1.length c0_1, .slice A0_2 l0_2.length c0_2], .int .i64 a1] rfl (by (try simp only [List.map_toArray, List.map_cons, List.map_nil]); first | rfl ) ?_; (with_reducible refine (roadbooklaw16_few.calls _ _ l0_0 _ _ l0_1 _ _ l0_2 a1 true _ ?side1 ?side2 ?side3 ?side4 ?side5 ?side6 A3.out).mono ?_); (case side1 => repeat (exact (Kd.C_below HR0_0.out HB.out))); (case side2 => exact HC0_0.out); (case side3 => repeat (exact (Kd.C_below HR0_1.out HB.out))); (case side4 => exact HC0_1.out); (case side5 => repeat (exact (Kd.C_below HR0_2.out HB.out))); (case side6 => exact HC0_2.out); rintro e w7 ⟨rfl, hb⟩; refine ⟨_, rfl, ?_⟩; have n0_ := Aside0.mk (blk_below (g := gb11) (o := .cells #[.slice A0_0 l0_0.length c0_0, .slice A0_1 l0_1.length c0_1, .slice A0_2 l0_2.length c0_2] 38 (0, 0)) (by (with_reducible repeat (first | refine blk_drewN ?_ _ | refine blk_drew ?_ | refine blk_alloc ?_ _)); exact BK11.out) hb); have n1_ := Aside0.mk (below_step (by repeat ((with_reducible first | exact HB.out ))) hb); clear BK11; clear HB; have BK11 := n0_; have HB := n1_; clear n0_ n1_; (try clear hb); ))
  go_ret
  exact ⟨by rfl, by repeat ((with_reducible first | exact HB.out ))⟩
 ·replace c4 := Bool.eq_false_iff.mpr c4
  subst c4
  have H1 : (some 1) = some r := by rw [if_neg (show ¬ (false = true) by decide)] at H; exact H
  clear H
  have H := H1
  clear H1
  obtain rfl := Option.some.inj H
  go_enter Try.func58, Try.ntmps58
  go_wp2_with (first | ((with_reducible refine gate_dst (N := 2) rfl ?_); refine box_event ?hg (N := 2) ?hd (cs := #[.slice A0_0 l0_0.length c0_0, .slice A0_1 l0_1.length c0_1, .slice A0_2 l0_2.length c0_2]) (t := 38) ?hr ?_; (case hd => rfl); (case hg => rfl); (case hr => first | (go_simp; done) ); intro gb11 hg w8 hbox hb; have n0_ := Aside0.mk (below_step (by repeat ((with_reducible first | exact HB.out ))) hb); have n1_ := Aside0.mk (hbox); have n2_ := Aside0.mk ((by rw [hg]; exact (below_size (by repeat ((with_reducible first | exact HB.out )))) : w.heap.size ≤ gb11)); have n3_ := Aside0.mk ((by rw [hg]; exact (below_size (by repeat ((with_reducible first | exact HB.out )))) : w.heap.size ≤ gb11)); clear HB; have HB := n0_; have BK11 := n1_; have GW11 := n2_; have GE11 := n3_; clear n0_ n1_ n2_ n3_; clear hb hbox hg; obtain ⟨hcz9_0, hcz9_1, hcz9_2, hfz9_0, hfz9_1, hfz9_2⟩ := bk3 BK11.out) | ((with_reducible refine gate_callee (f := 39) rfl ?_); refine goesL_ (some 8) rfl rfl Try.func39 (by kernel_rfl) rfl #[.agg #[.slice A0_0 l0_0.length c0_0, .slice A0_1 l0_1.length c0_1, .slice A0_2 l0_2.length c0_2], .int .i64 a1] rfl (by (try simp only [List.map_toArray, List.map_cons, List.map_nil]); first | rfl ) ?_; (with_reducible refine (roadbooklaw16_few.calls _ _ l0_0 _ _ l0_1 _ _ l0_2 a1 false _ ?side1 ?side2 ?side3 ?side4 ?side5 ?side6 A3.out).mono ?_); (case side1 => repeat (exact (Kd.C_below HR0_0.out HB.out))); (case side2 => exact HC0_0.out); (case side3 => repeat (exact (Kd.C_below HR0_1.out HB.out))); (case side4 => exact HC0_1.out); (case side5 => repeat (exact (Kd.C_below HR0_2.out HB.out))); (case side6 => exact HC0_2.out); rintro e w10 ⟨rfl, hb⟩; refine ⟨_, rfl, ?_⟩; have n0_ := Aside0.mk (blk_below (g := gb11) (o := .cells #[.slice A0_0 l0_0.length c0_0, .slice A0_1 l0_1.length c0_1, .slice A0_2 l0_2.length c0_2] 38 (0, 0)) (by (with_reducible repeat (first | refine blk_drewN ?_ _ | refine blk_drew ?_ | refine blk_alloc ?_ _)); exact BK11.out) hb); have n1_ := Aside0.mk (below_step (by repeat ((with_reducible first | exact HB.out ))) hb); clear BK11; clear HB; have BK11 := n0_; have HB := n1_; clear n0_ n1_; (try clear hb); ))
  go_ret
  exact ⟨by rfl, by repeat ((with_reducible first | exact HB.out ))⟩
end Go.Proofs.Ytkidnomkfdnciaa.All
namespace Go.Proofs.Ytkidnomkfdnciaa.Pure
open Go.RowKit Go.Proofs.Ytkidnomkfdnciaa.All Go.Proofs.YtkidnomkfdnciaaW.PrintWords
def thereT (x : Int) : Int × Int := if x = -1 then (-1, 2) else (x, 0)
theorem there_k (x : Int) : calls_there.f x = some (thereT x) := by
 unfold calls_there.f thereT
 split <;> rfl
def doT (N : List S48) (G P : List Int) (c : S76) : List S48 × List Int × List Int × Int × Int :=
 if c.f0 = 0 then putT N G P c.f1 c.f2
 else if c.f0 = 1 then (N, G, (mergeT N G P c.f2 c.f3).1, (mergeT N G P c.f2 c.f3).2.1, (mergeT N G P c.f2 c.f3).2.2)
 else if c.f0 = 2 then (N, G, P, (thereT (findS P c.f2)).1, (thereT (findS P c.f2)).2)
 else if c.f0 = 3 then (N, G, P, (thereT (lookS N G P c.f1).1).1, (thereT (lookS N G P c.f1).1).2)
 else (N, G, P, -1, 1)
theorem cown_k {N : List S48} {G P : List Int} (k : Nat) (h : lim3 N G P = true) : calls_own.f k N G P = some (N, G, P) := by
 unfold lim3 at h
 simp only [Bool.and_eq_true] at h
 unfold calls_own.f api_Node_94.f slices_Clone_int_int.f
 rw [if_pos h.1, if_pos h.2.1, if_pos h.2.2]
 rfl
theorem do_k {N : List S48} {G P : List Int} (hL : Lim N G P) (c : S76) {k : Nat} (hk : 500 ≤ k) :
  calls_Do.f k N G P c.f0 c.f1.f0 c.f1.f1 c.f1.f2 c.f1.f3 c.f2 c.f3 = some (doT N G P c) := by
 unfold calls_Do.f doT
 rw [put_k hL c.f1 c.f2 hk, merge_k hL (by omega), cown_k k hL.lim3, look_f]
 unfold memo_Find.f sets_Find.f
 simp only [Option.bind_some, there_k]
 split
 ·rfl
 ·split
  ·rfl
  ·split
   ·rfl
   ·split <;> rfl
theorem do_may {N : List S48} {G P : List Int} (hm : mayMB N G P = true) (c : S76) : mayMB (doT N G P c).1 (doT N G P c).2.1 (doT N G P c).2.2.1 = true := by
 unfold doT
 by_cases h0 : c.f0 = 0
 ·simp only [if_pos h0]
  have h := put_cases N G P c.f1 c.f2
  generalize putT N G P c.f1 c.f2 = r at h ⊢
  obtain ⟨N', G', P', h', e'⟩ := r
  exact h.after hm
 ·simp only [if_neg h0]
  by_cases h1 : c.f0 = 1
  ·simp only [if_pos h1]
   rcases mer_cases N G P c.f2 c.f3 with h | ⟨h, e⟩
   ·rw [h]; exact hm
   ·rw [e]; exact h.after
  ·simp only [if_neg h1]
   split
   ·exact hm
   ·split <;> exact hm
def allT : List S48 → List Int → List Int → List S76 → List S48 × List Int × List Int × List S73
 | N, G, P, [] => (N, G, P, [])
 | N, G, P, c :: t => ((allT (doT N G P c).1 (doT N G P c).2.1 (doT N G P c).2.2.1 t).1, (allT (doT N G P c).1 (doT N G P c).2.1 (doT N G P c).2.2.1 t).2.1, (allT (doT N G P c).1 (doT N G P c).2.1 (doT N G P c).2.2.1 t).2.2.1, ⟨(doT N G P c).2.2.2.1, (doT N G P c).2.2.2.2⟩ :: (allT (doT N G P c).1 (doT N G P c).2.1 (doT N G P c).2.2.1 t).2.2.2)
theorem all_len : ∀ (l : List S76) (N : List S48) (G P : List Int), (allT N G P l).2.2.2.length = l.length
 | [], _, _, _ => rfl
 | c :: t, N, G, P => by simp only [allT, List.length_cons, all_len t]
theorem far_k (N : List S48) (G P : List Int) (m : Int) : roadbooklaw16_Far.f N G P m = some (if fewB N G P m = true then 0 else 1) := by
 unfold roadbooklaw16_Far.f
 rw [few_k]
 simp only [Option.bind_some]
 split <;> rfl
end Go.Proofs.Ytkidnomkfdnciaa.Pure
namespace Go.Proofs.Ytkidnomkfdnciaa.All
open Go.RowKit Go.Proofs.Ytkidnomkfdnciaa.Pure Go.Proofs.YtkidnomkfdnciaaW.PrintWords Go.Proofs.YtkidnomkfdnciaaW.PrintLast Go.Proofs.YtkidnomkfdnciaaW.PrintMore
set_option linter.unusedVariables false
set_option linter.unusedSimpArgs false
section
variable {w W : World} {AN AG AP AN' AG' AP' : Option Addr} {cN cG cP cN' cG' cP' : Nat} {N N' : List S48} {G P G' P' : List Int}
theorem C_far {α : Type} {d : Kd α} {A : Option Addr} {n : Nat} {xs : List α} {q : Addr} (v : Value) (h : d.C W A n xs) (hq : ∀ ad, A = some ad → q.block ≠ ad.block) (hv : ∀ y cs, d.K W y cs → d.K (W.setCell q v) y cs) : d.C (W.setCell q v) A n xs := by
 obtain ⟨h1, h2, h3⟩ := h
 refine ⟨h1, h2, fun hn => ?_⟩
 obtain ⟨ad, e, hc⟩ := h3 hn
 refine ⟨ad, e, fun j y hj => ?_⟩
 obtain ⟨cs, hl, hK, hcell⟩ := hc j y hj
 refine ⟨cs, hl, hv _ _ hK, fun i u hi => ?_⟩
 have hu := hcell i u hi
 have hne : q ≠ ad.add (j * d.sz + i) := fun e' => hq ad e (by rw [e']; unfold Addr.add; split <;> rfl)
 simp only [World.cell?_setCell_other, hne, ne_eq, not_false_eq_true, hu]
theorem C48_far {A : Option Addr} {n : Nat} {xs : List S48} {q : Addr} (v : Value) (h : Kd.C k48 W A n xs) (hq : ∀ ad, A = some ad → q.block ≠ ad.block) : Kd.C k48 (W.setCell q v) A n xs :=
 C_far v h hq (fun y cs hK => by rw [k48_open hK]; exact k48_mk _ _)
theorem Cint_far {A : Option Addr} {n : Nat} {xs : List Int} {q : Addr} (v : Value) (h : Kd.C (Kd.int .i64) W A n xs) (hq : ∀ ad, A = some ad → q.block ≠ ad.block) : Kd.C (Kd.int .i64) (W.setCell q v) A n xs :=
 C_far v h hq (fun y cs hK => hK)
theorem DBox.last {c : S76} {s : Nat} (x y : Int) (h : DBox w W AN cN N AG cG G AP cP P c) (h0 : MemoAt w AN cN N AG cG G AP cP P) (hm : MemoAt W AN' cN' N' AG' cG' G' AP' cP' P') (hs : w.heap.size + 4 ≤ s) (k1 : Hand s AN N AN' N') (k2 : Hand s AG G AG' G') (k3 : Hand s AP P AP' P') :
  let F := ((((W.setCell ⟨w.heap.size + 2, 0, none⟩ (.slice AN' N'.length cN')).setCell ⟨w.heap.size + 2, 1, none⟩ (.slice AG' G'.length cG')).setCell ⟨w.heap.size + 2, 2, none⟩ (.slice AP' P'.length cP')).setCell ⟨w.heap.size + 3, 0, none⟩ (.int .i64 x)).setCell ⟨w.heap.size + 3, 1, none⟩ (.int .i64 y)
  F.heap[w.heap.size + 2]? = some (.cells #[.slice AN' N'.length cN', .slice AG' G'.length cG', .slice AP' P'.length cP'] 38 (0, 0)) ∧ F.heap[w.heap.size + 3]? = some (.cells #[.int .i64 x, .int .i64 y] 73 (0, 0)) ∧ MemoAt F AN' cN' N' AG' cG' G' AP' cP' P' ∧ Below w.heap.size w F := by
 have g2 : w.heap.size ≤ w.heap.size + 2 := by omega
 have g3 : w.heap.size ≤ w.heap.size + 3 := by omega
 have n1 : w.heap.size + 2 ≠ w.heap.size + 3 := by omega
 have n2 : w.heap.size + 3 ≠ w.heap.size + 2 := by omega
 intro F
 have hb : Below w.heap.size w F := below_set (below_set (below_set (below_set (below_set h.bel g2) g2) g2) g3) g3
 have t1 := blk_put h.res 0 (.slice AN' N'.length cN') rfl
 have t2 := blk_put t1 1 (.slice AG' G'.length cG') rfl
 have hm3 := ((hm.set (.slice AN' N'.length cN') ((blk_cell h.res 0).trans rfl)).set (.slice AG' G'.length cG') ((blk_cell t1 1).trans rfl)).set (.slice AP' P'.length cP') ((blk_cell t2 2).trans rfl)
 refine ⟨?_, ?_, ⟨?_, hm.nc, ?_, hm.gc, ?_, hm.pc⟩, hb⟩
 ·exact (Below.heap_setCell _ _ _ _ n1).trans ((Below.heap_setCell _ _ _ _ n1).trans (blk_put t2 2 (.slice AP' P'.length cP') rfl))
 ·exact blk_put (blk_put ((Below.heap_setCell _ _ _ _ n2).trans ((Below.heap_setCell _ _ _ _ n2).trans ((Below.heap_setCell _ _ _ _ n2).trans h.bk))) 0 (.int .i64 x) rfl) 1 (.int .i64 y) rfl
 ·rcases k1 with ⟨rfl, rfl⟩ | k1
  ·exact Kd.C_below h0.n hb
  ·exact C48_far _ (C48_far _ hm3.n (fun ad e => by have := k1 ad e; show w.heap.size + 3 ≠ _; omega)) (fun ad e => by have := k1 ad e; show w.heap.size + 3 ≠ _; omega)
 ·rcases k2 with ⟨rfl, rfl⟩ | k2
  ·exact Kd.C_below h0.g hb
  ·exact Cint_far _ (Cint_far _ hm3.g (fun ad e => by have := k2 ad e; show w.heap.size + 3 ≠ _; omega)) (fun ad e => by have := k2 ad e; show w.heap.size + 3 ≠ _; omega)
 ·rcases k3 with ⟨rfl, rfl⟩ | k3
  ·exact Kd.C_below h0.p hb
  ·exact Cint_far _ (Cint_far _ hm3.p (fun ad e => by have := k3 ad e; show w.heap.size + 3 ≠ _; omega)) (fun ad e => by have := k3 ad e; show w.heap.size + 3 ≠ _; omega)
set_option maxHeartbeats 16000000 in
set_option maxRecDepth 100000 in
theorem rdo_put (c : S76) {a : List S48} {b p : List Int} {x y : Int} (hc : c.f0 = 0) (h : MemoAt w AN cN N AG cG G AP cP P) (he : putT N G P c.f1 c.f2 = (a, b, p, x, y)) :
  Calls Try.prog 64 #[.agg #[.slice AN N.length cN, .slice AG G.length cG, .slice AP P.length cP], .agg #[.int .i64 c.f0, .bool c.f1.f0, .int .i64 c.f1.f1, .int .i64 c.f1.f2, .int .i64 c.f1.f3, .int .i64 c.f2, .int .i64 c.f3]] w fun e w' => ∃ AN' cN' AG' cG' AP' cP', e = .returned (.tuple #[.agg #[.slice AN' (a).length cN', .slice AG' (b).length cG', .slice AP' (p).length cP'], .agg #[.int .i64 (x), .int .i64 (y)]]) ∧ MemoAt w' AN' cN' (a) AG' cG' (b) AP' cP' (p) ∧ Hand w.heap.size AN N AN' (a) ∧ Hand w.heap.size AG G AG' (b) ∧ Hand w.heap.size AP P AP' (p) ∧ Below w.heap.size w w' := by
 have HD := Aside0.mk (DBox.new w AN cN N AG cG G AP cP P c)
 have H0 := Aside0.mk h
 have HP := Aside0.mk (fun (W : World) (h : MemoAt W AN cN N AG cG G AP cP P) => rput_hand c.f1 c.f2 h)
 rw [he] at HP
 obtain ⟨k, n, u, v⟩ := c
 obtain ⟨n0, n1, n2, n3⟩ := n
 dsimp only at *
 subst hc
 obtain ⟨ha0, ha1, ha2⟩ := HD.out.box.cells
 obtain ⟨hb0, hb1, hb2, hb3, hb4, hb5, hb6, _⟩ := bk7 HD.out.cb
 have HM := Aside0.mk (h.below HD.out.bel)
 clear h he
 go_enter Try.func64, Try.ntmps64
 go_wp2_with (go_at_call 48; refine (HP.out _ HM.out).mono ?_; rintro e w1 ⟨A0, c0, A1, c1, A2, c2, rfl, hm, k1, k2, k3, hb⟩; have HM1 := Aside0.mk (hm.below (below_alloc (Below.refl _ _) (.cells #[.slice A0 a.length c0, .slice A1 b.length c1, .slice A2 p.length c2] 38))); have HD1 := Aside0.mk ((HD.out.below hb).below (below_alloc (Below.refl _ _) (.cells #[.slice A0 a.length c0, .slice A1 b.length c1, .slice A2 p.length c2] 38))); have HK := Aside0.mk (And.intro k1 (And.intro k2 k3)); clear hm hb k1 k2 k3; obtain ⟨hz0, hz1, hz2, hf0, hf1, hf2⟩ := bk3 HD1.out.res; obtain ⟨hy0, hy1, hg0, hg1⟩ := bk2 HD1.out.bk)
 obtain ⟨hl1, hl2, hl3, hl4⟩ := HD1.out.last x y H0.out HM1.out HD.out.lt HK.out.1 HK.out.2.1 HK.out.2.2
 exact bodyPost_ret (results_cc rfl _ _ (w.heap.size + 2) (w.heap.size + 3) 38 73 #[.slice A0 a.length c0, .slice A1 b.length c1, .slice A2 p.length c2] #[.int .i64 x, .int .i64 y] (0, 0) (0, 0) _ _ rfl hl1 Try.underlying38 rfl (by kernel_rfl) rfl hl2 Try.underlying73 rfl (by kernel_rfl)) rfl ⟨_, _, _, _, _, _, rfl, hl3, HK.out.1.mono HD.out.bel.size, HK.out.2.1.mono HD.out.bel.size, HK.out.2.2.mono HD.out.bel.size, hl4⟩
set_option maxHeartbeats 16000000 in
set_option maxRecDepth 100000 in
theorem rdo_merge (c : S76) {p : List Int} {x y : Int} (hc : c.f0 = 1) (h : MemoAt w AN cN N AG cG G AP cP P) (he : mergeT N G P c.f2 c.f3 = (p, x, y)) :
  Calls Try.prog 64 #[.agg #[.slice AN N.length cN, .slice AG G.length cG, .slice AP P.length cP], .agg #[.int .i64 c.f0, .bool c.f1.f0, .int .i64 c.f1.f1, .int .i64 c.f1.f2, .int .i64 c.f1.f3, .int .i64 c.f2, .int .i64 c.f3]] w fun e w' => ∃ AN' cN' AG' cG' AP' cP', e = .returned (.tuple #[.agg #[.slice AN' (N).length cN', .slice AG' (G).length cG', .slice AP' (p).length cP'], .agg #[.int .i64 (x), .int .i64 (y)]]) ∧ MemoAt w' AN' cN' (N) AG' cG' (G) AP' cP' (p) ∧ Hand w.heap.size AN N AN' (N) ∧ Hand w.heap.size AG G AG' (G) ∧ Hand w.heap.size AP P AP' (p) ∧ Below w.heap.size w w' := by
 have HD := Aside0.mk (DBox.new w AN cN N AG cG G AP cP P c)
 have H0 := Aside0.mk h
 have HP := Aside0.mk (fun (W : World) (h : MemoAt W AN cN N AG cG G AP cP P) => rmerge_hand c.f2 c.f3 h)
 rw [he] at HP
 obtain ⟨k, n, u, v⟩ := c
 obtain ⟨n0, n1, n2, n3⟩ := n
 dsimp only at *
 subst hc
 obtain ⟨ha0, ha1, ha2⟩ := HD.out.box.cells
 obtain ⟨hb0, hb1, hb2, hb3, hb4, hb5, hb6, _⟩ := bk7 HD.out.cb
 have HM := Aside0.mk (h.below HD.out.bel)
 clear h he
 go_enter Try.func64, Try.ntmps64
 go_wp2_with (go_at_call 50; refine (HP.out _ HM.out).mono ?_; rintro e w1 ⟨A2, c2, rfl, hm, k3, hb⟩; have HM1 := Aside0.mk (hm.below (below_alloc (Below.refl _ _) (.cells #[.slice AN N.length cN, .slice AG G.length cG, .slice A2 p.length c2] 38))); have HD1 := Aside0.mk ((HD.out.below hb).below (below_alloc (Below.refl _ _) (.cells #[.slice AN N.length cN, .slice AG G.length cG, .slice A2 p.length c2] 38))); have HK := Aside0.mk k3; clear hm hb k3; obtain ⟨hz0, hz1, hz2, hf0, hf1, hf2⟩ := bk3 HD1.out.res; obtain ⟨hy0, hy1, hg0, hg1⟩ := bk2 HD1.out.bk)
 obtain ⟨hl1, hl2, hl3, hl4⟩ := HD1.out.last x y H0.out HM1.out HD.out.lt (Hand.refl _ _ _) (Hand.refl _ _ _) HK.out
 exact bodyPost_ret (results_cc rfl _ _ (w.heap.size + 2) (w.heap.size + 3) 38 73 #[.slice AN N.length cN, .slice AG G.length cG, .slice A2 p.length c2] #[.int .i64 x, .int .i64 y] (0, 0) (0, 0) _ _ rfl hl1 Try.underlying38 rfl (by kernel_rfl) rfl hl2 Try.underlying73 rfl (by kernel_rfl)) rfl ⟨_, _, _, _, _, _, rfl, hl3, Hand.refl _ _ _, Hand.refl _ _ _, HK.out.mono HD.out.bel.size, hl4⟩
set_option maxHeartbeats 16000000 in
set_option maxRecDepth 100000 in
theorem rdo_else (c : S76) (h0 : c.f0 ≠ 0) (h1 : c.f0 ≠ 1) (h2 : c.f0 ≠ 2) (h3 : c.f0 ≠ 3) (h : MemoAt w AN cN N AG cG G AP cP P) :
  Calls Try.prog 64 #[.agg #[.slice AN N.length cN, .slice AG G.length cG, .slice AP P.length cP], .agg #[.int .i64 c.f0, .bool c.f1.f0, .int .i64 c.f1.f1, .int .i64 c.f1.f2, .int .i64 c.f1.f3, .int .i64 c.f2, .int .i64 c.f3]] w fun e w' => ∃ AN' cN' AG' cG' AP' cP', e = .returned (.tuple #[.agg #[.slice AN' (N).length cN', .slice AG' (G).length cG', .slice AP' (P).length cP'], .agg #[.int .i64 (-1), .int .i64 (1)]]) ∧ MemoAt w' AN' cN' (N) AG' cG' (G) AP' cP' (P) ∧ Hand w.heap.size AN N AN' (N) ∧ Hand w.heap.size AG G AG' (G) ∧ Hand w.heap.size AP P AP' (P) ∧ Below w.heap.size w w' := by
 have HD := Aside0.mk (DBox.new w AN cN N AG cG G AP cP P c)
 have H0 := Aside0.mk h
 obtain ⟨k, n, u, v⟩ := c
 obtain ⟨n0, n1, n2, n3⟩ := n
 dsimp only at *
 have e24 : ¬ ((k == 2) = true ∨ (k == 3) = true) := by rw [beq_eq_false_iff_ne.mpr h2, beq_eq_false_iff_ne.mpr h3]; decide
 obtain ⟨ha0, ha1, ha2⟩ := HD.out.box.cells
 obtain ⟨hb0, hb1, hb2, hb3, hb4, hb5, hb6, _⟩ := bk7 HD.out.cb
 have HM := Aside0.mk (h.below HD.out.bel)
 obtain ⟨hz0, hz1, hz2, hf0, hf1, hf2⟩ := bk3 HD.out.res
 obtain ⟨hy0, hy1, hg0, hg1⟩ := bk2 HD.out.bk
 clear h
 go_enter Try.func64, Try.ntmps64
 go_wp2
 obtain ⟨hl1, hl2, hl4⟩ := four_new w (.cells #[.slice AN N.length cN, .slice AG G.length cG, .slice AP P.length cP] 38) (.cells #[.int .i64 k, .bool n0, .int .i64 n1, .int .i64 n2, .int .i64 n3, .int .i64 u, .int .i64 v] 76) (.cells #[.slice AN N.length cN, .slice AG G.length cG, .slice AP P.length cP] 38) (.cells #[.int .i64 (-1), .int .i64 1] 73)
 have hl3 := H0.out.below hl4
 exact bodyPost_ret (results_cc rfl _ _ (w.heap.size + 2) (w.heap.size + 3) 38 73 #[.slice AN N.length cN, .slice AG G.length cG, .slice AP P.length cP] #[.int .i64 (-1), .int .i64 1] (0, 0) (0, 0) _ _ rfl hl1 Try.underlying38 rfl (by kernel_rfl) rfl hl2 Try.underlying73 rfl (by kernel_rfl)) rfl ⟨_, _, _, _, _, _, rfl, hl3, Hand.refl _ _ _, Hand.refl _ _ _, Hand.refl _ _ _, hl4⟩
set_option maxHeartbeats 16000000 in
set_option maxRecDepth 100000 in
theorem rdo_find (c : S76) (hc : c.f0 = 2) (h : MemoAt w AN cN N AG cG G AP cP P) :
  Calls Try.prog 64 #[.agg #[.slice AN N.length cN, .slice AG G.length cG, .slice AP P.length cP], .agg #[.int .i64 c.f0, .bool c.f1.f0, .int .i64 c.f1.f1, .int .i64 c.f1.f2, .int .i64 c.f1.f3, .int .i64 c.f2, .int .i64 c.f3]] w fun e w' => ∃ AN' cN' AG' cG' AP' cP', e = .returned (.tuple #[.agg #[.slice AN' (N).length cN', .slice AG' (G).length cG', .slice AP' (P).length cP'], .agg #[.int .i64 ((thereT (findS P c.f2)).1), .int .i64 ((thereT (findS P c.f2)).2)]]) ∧ MemoAt w' AN' cN' (N) AG' cG' (G) AP' cP' (P) ∧ Hand w.heap.size AN N AN' (N) ∧ Hand w.heap.size AG G AG' (G) ∧ Hand w.heap.size AP P AP' (P) ∧ Below w.heap.size w w' := by
 have HD := Aside0.mk (DBox.new w AN cN N AG cG G AP cP P c)
 have H0 := Aside0.mk h
 have HF := Aside0.mk (fun (W : World) (h : MemoAt W AN cN N AG cG G AP cP P) => rfind_at c.f2 h)
 have hn := find_neg (P := P) c.f2
 obtain ⟨k, n, u, v⟩ := c
 obtain ⟨n0, n1, n2, n3⟩ := n
 dsimp only at *
 subst hc
 obtain ⟨x, hx⟩ : ∃ x, x = findS P u := ⟨_, rfl⟩
 rw [← hx] at HF hn ⊢
 obtain ⟨ha0, ha1, ha2⟩ := HD.out.box.cells
 obtain ⟨hb0, hb1, hb2, hb3, hb4, hb5, hb6, _⟩ := bk7 HD.out.cb
 have HM := Aside0.mk (h.below HD.out.bel)
 clear h hx
 rcases hn with rfl | hn
 ·skip
  go_enter Try.func64, Try.ntmps64
  go_wp2_with (go_at_call 53; refine (HF.out _ HM.out).mono ?_; rintro e w1 ⟨rfl, hb⟩; have HM1 := Aside0.mk (HM.out.below hb); have HD1 := Aside0.mk (HD.out.below hb); clear hb; clear ha0 ha1 ha2 hb0 hb1 hb2 hb3 hb4 hb5 hb6; obtain ⟨ha0, ha1, ha2⟩ := HD1.out.box.cells; obtain ⟨hb0, hb1, hb2, hb3, hb4, hb5, hb6, _⟩ := bk7 HD1.out.cb; obtain ⟨hz0, hz1, hz2, hf0, hf1, hf2⟩ := bk3 HD1.out.res; obtain ⟨hy0, hy1, hg0, hg1⟩ := bk2 HD1.out.bk)
  obtain ⟨hl1, hl2, hl3, hl4⟩ := HD1.out.last (-1) 2 H0.out HM1.out (Nat.le_refl _) (Hand.refl _ _ _) (Hand.refl _ _ _) (Hand.refl _ _ _)
  exact bodyPost_ret (results_cc rfl _ _ (w.heap.size + 2) (w.heap.size + 3) 38 73 #[.slice AN N.length cN, .slice AG G.length cG, .slice AP P.length cP] #[.int .i64 (-1), .int .i64 2] (0, 0) (0, 0) _ _ rfl hl1 Try.underlying38 rfl (by kernel_rfl) rfl hl2 Try.underlying73 rfl (by kernel_rfl)) rfl ⟨_, _, _, _, _, _, rfl, hl3, Hand.refl _ _ _, Hand.refl _ _ _, Hand.refl _ _ _, hl4⟩
 ·have l0 : ¬ x < 0 := by omega
  have HT := Aside0.mk (show thereT x = (x, 0) by unfold thereT; rw [if_neg (by omega)])
  go_enter Try.func64, Try.ntmps64
  go_wp2_with (go_at_call 53; refine (HF.out _ HM.out).mono ?_; rintro e w1 ⟨rfl, hb⟩; have HM1 := Aside0.mk (HM.out.below hb); have HD1 := Aside0.mk (HD.out.below hb); clear hb; clear ha0 ha1 ha2 hb0 hb1 hb2 hb3 hb4 hb5 hb6; obtain ⟨ha0, ha1, ha2⟩ := HD1.out.box.cells; obtain ⟨hb0, hb1, hb2, hb3, hb4, hb5, hb6, _⟩ := bk7 HD1.out.cb; obtain ⟨hz0, hz1, hz2, hf0, hf1, hf2⟩ := bk3 HD1.out.res; obtain ⟨hy0, hy1, hg0, hg1⟩ := bk2 HD1.out.bk)
  obtain ⟨hl1, hl2, hl3, hl4⟩ := HD1.out.last x 0 H0.out HM1.out (Nat.le_refl _) (Hand.refl _ _ _) (Hand.refl _ _ _) (Hand.refl _ _ _)
  rw [HT.out]
  exact bodyPost_ret (results_cc rfl _ _ (w.heap.size + 2) (w.heap.size + 3) 38 73 #[.slice AN N.length cN, .slice AG G.length cG, .slice AP P.length cP] #[.int .i64 x, .int .i64 0] (0, 0) (0, 0) _ _ rfl hl1 Try.underlying38 rfl (by kernel_rfl) rfl hl2 Try.underlying73 rfl (by kernel_rfl)) rfl ⟨_, _, _, _, _, _, rfl, hl3, Hand.refl _ _ _, Hand.refl _ _ _, Hand.refl _ _ _, hl4⟩
set_option maxHeartbeats 16000000 in
set_option maxRecDepth 100000 in
theorem rdo_look (c : S76) (hc : c.f0 = 3) (h : MemoAt w AN cN N AG cG G AP cP P) :
  Calls Try.prog 64 #[.agg #[.slice AN N.length cN, .slice AG G.length cG, .slice AP P.length cP], .agg #[.int .i64 c.f0, .bool c.f1.f0, .int .i64 c.f1.f1, .int .i64 c.f1.f2, .int .i64 c.f1.f3, .int .i64 c.f2, .int .i64 c.f3]] w fun e w' => ∃ AN' cN' AG' cG' AP' cP', e = .returned (.tuple #[.agg #[.slice AN' (N).length cN', .slice AG' (G).length cG', .slice AP' (P).length cP'], .agg #[.int .i64 ((thereT (lookS N G P c.f1).1).1), .int .i64 ((thereT (lookS N G P c.f1).1).2)]]) ∧ MemoAt w' AN' cN' (N) AG' cG' (G) AP' cP' (P) ∧ Hand w.heap.size AN N AN' (N) ∧ Hand w.heap.size AG G AG' (G) ∧ Hand w.heap.size AP P AP' (P) ∧ Below w.heap.size w w' := by
 have HD := Aside0.mk (DBox.new w AN cN N AG cG G AP cP P c)
 have H0 := Aside0.mk h
 have HF := Aside0.mk (fun (W : World) (h : MemoAt W AN cN N AG cG G AP cP P) => rfind_at c.f2 h)
 have HL := Aside0.mk (fun (W : World) (h : MemoAt W AN cN N AG cG G AP cP P) => rlook_at c.f1 h)
 have hn : (lookS N G P c.f1).1 = -1 ∨ 0 ≤ (lookS N G P c.f1).1 := by
  rcases look_cases N G P c.f1 with ⟨h, _⟩ | ⟨_, _, i, _, _, h⟩
  ·rw [h]; exact .inl rfl
  ·rw [h]; exact find_neg _
 obtain ⟨k, n, u, v⟩ := c
 obtain ⟨n0, n1, n2, n3⟩ := n
 dsimp only at *
 subst hc
 obtain ⟨⟨x, b⟩, hx⟩ : ∃ x, x = lookS N G P ⟨n0, n1, n2, n3⟩ := ⟨_, rfl⟩
 rw [← hx] at HL hn ⊢
 dsimp only at HL hn ⊢
 obtain ⟨ha0, ha1, ha2⟩ := HD.out.box.cells
 obtain ⟨hb0, hb1, hb2, hb3, hb4, hb5, hb6, _⟩ := bk7 HD.out.cb
 have HM := Aside0.mk (h.below HD.out.bel)
 clear h hx
 rcases hn with rfl | hn
 ·skip
  go_enter Try.func64, Try.ntmps64
  go_wp2_with (first | (go_at_call 51; refine (HL.out _ HM1.out).mono ?_; rintro e w2 ⟨rfl, hb⟩; have HM2 := Aside0.mk (HM1.out.below hb); have HD2 := Aside0.mk (HD1.out.below hb); clear hb; clear ha0 ha1 ha2 hb0 hb1 hb2 hb3 hb4 hb5 hb6 hz0 hz1 hz2 hf0 hf1 hf2 hy0 hy1 hg0 hg1; obtain ⟨ha0, ha1, ha2⟩ := HD2.out.box.cells; obtain ⟨hz0, hz1, hz2, hf0, hf1, hf2⟩ := bk3 HD2.out.res; obtain ⟨hy0, hy1, hg0, hg1⟩ := bk2 HD2.out.bk) | (go_at_call 53; refine (HF.out _ HM.out).mono ?_; rintro e w1 ⟨rfl, hb⟩; have HM1 := Aside0.mk (HM.out.below hb); have HD1 := Aside0.mk (HD.out.below hb); clear hb; clear ha0 ha1 ha2 hb0 hb1 hb2 hb3 hb4 hb5 hb6; obtain ⟨ha0, ha1, ha2⟩ := HD1.out.box.cells; obtain ⟨hb0, hb1, hb2, hb3, hb4, hb5, hb6, _⟩ := bk7 HD1.out.cb; obtain ⟨hz0, hz1, hz2, hf0, hf1, hf2⟩ := bk3 HD1.out.res; obtain ⟨hy0, hy1, hg0, hg1⟩ := bk2 HD1.out.bk))
  obtain ⟨hl1, hl2, hl3, hl4⟩ := HD2.out.last (-1) 2 H0.out HM2.out (Nat.le_refl _) (Hand.refl _ _ _) (Hand.refl _ _ _) (Hand.refl _ _ _)
  exact bodyPost_ret (results_cc rfl _ _ (w.heap.size + 2) (w.heap.size + 3) 38 73 #[.slice AN N.length cN, .slice AG G.length cG, .slice AP P.length cP] #[.int .i64 (-1), .int .i64 2] (0, 0) (0, 0) _ _ rfl hl1 Try.underlying38 rfl (by kernel_rfl) rfl hl2 Try.underlying73 rfl (by kernel_rfl)) rfl ⟨_, _, _, _, _, _, rfl, hl3, Hand.refl _ _ _, Hand.refl _ _ _, Hand.refl _ _ _, hl4⟩
 ·have l0 : ¬ x < 0 := by omega
  have HT := Aside0.mk (show thereT x = (x, 0) by unfold thereT; rw [if_neg (by omega)])
  go_enter Try.func64, Try.ntmps64
  go_wp2_with (first | (go_at_call 51; refine (HL.out _ HM1.out).mono ?_; rintro e w2 ⟨rfl, hb⟩; have HM2 := Aside0.mk (HM1.out.below hb); have HD2 := Aside0.mk (HD1.out.below hb); clear hb; clear ha0 ha1 ha2 hb0 hb1 hb2 hb3 hb4 hb5 hb6 hz0 hz1 hz2 hf0 hf1 hf2 hy0 hy1 hg0 hg1; obtain ⟨ha0, ha1, ha2⟩ := HD2.out.box.cells; obtain ⟨hz0, hz1, hz2, hf0, hf1, hf2⟩ := bk3 HD2.out.res; obtain ⟨hy0, hy1, hg0, hg1⟩ := bk2 HD2.out.bk) | (go_at_call 53; refine (HF.out _ HM.out).mono ?_; rintro e w1 ⟨rfl, hb⟩; have HM1 := Aside0.mk (HM.out.below hb); have HD1 := Aside0.mk (HD.out.below hb); clear hb; clear ha0 ha1 ha2 hb0 hb1 hb2 hb3 hb4 hb5 hb6; obtain ⟨ha0, ha1, ha2⟩ := HD1.out.box.cells; obtain ⟨hb0, hb1, hb2, hb3, hb4, hb5, hb6, _⟩ := bk7 HD1.out.cb; obtain ⟨hz0, hz1, hz2, hf0, hf1, hf2⟩ := bk3 HD1.out.res; obtain ⟨hy0, hy1, hg0, hg1⟩ := bk2 HD1.out.bk))
  obtain ⟨hl1, hl2, hl3, hl4⟩ := HD2.out.last x 0 H0.out HM2.out (Nat.le_refl _) (Hand.refl _ _ _) (Hand.refl _ _ _) (Hand.refl _ _ _)
  rw [HT.out]
  exact bodyPost_ret (results_cc rfl _ _ (w.heap.size + 2) (w.heap.size + 3) 38 73 #[.slice AN N.length cN, .slice AG G.length cG, .slice AP P.length cP] #[.int .i64 x, .int .i64 0] (0, 0) (0, 0) _ _ rfl hl1 Try.underlying38 rfl (by kernel_rfl) rfl hl2 Try.underlying73 rfl (by kernel_rfl)) rfl ⟨_, _, _, _, _, _, rfl, hl3, Hand.refl _ _ _, Hand.refl _ _ _, Hand.refl _ _ _, hl4⟩
theorem rdo_at (c : S76) (h : MemoAt w AN cN N AG cG G AP cP P) :
  Calls Try.prog 64 #[.agg #[.slice AN N.length cN, .slice AG G.length cG, .slice AP P.length cP], .agg #[.int .i64 c.f0, .bool c.f1.f0, .int .i64 c.f1.f1, .int .i64 c.f1.f2, .int .i64 c.f1.f3, .int .i64 c.f2, .int .i64 c.f3]] w fun e w' => ∃ AN' cN' AG' cG' AP' cP', e = .returned (.tuple #[.agg #[.slice AN' ((doT N G P c).1).length cN', .slice AG' ((doT N G P c).2.1).length cG', .slice AP' ((doT N G P c).2.2.1).length cP'], .agg #[.int .i64 ((doT N G P c).2.2.2.1), .int .i64 ((doT N G P c).2.2.2.2)]]) ∧ MemoAt w' AN' cN' ((doT N G P c).1) AG' cG' ((doT N G P c).2.1) AP' cP' ((doT N G P c).2.2.1) ∧ Hand w.heap.size AN N AN' ((doT N G P c).1) ∧ Hand w.heap.size AG G AG' ((doT N G P c).2.1) ∧ Hand w.heap.size AP P AP' ((doT N G P c).2.2.1) ∧ Below w.heap.size w w' := by
 unfold doT
 by_cases h0 : c.f0 = 0
 ·simp only [if_pos h0]
  obtain ⟨⟨a, b, p, x, y⟩, he⟩ : ∃ r, putT N G P c.f1 c.f2 = r := ⟨_, rfl⟩
  rw [he]
  exact rdo_put c h0 h he
 ·simp only [if_neg h0]
  by_cases h1 : c.f0 = 1
  ·simp only [if_pos h1]
   obtain ⟨⟨p, x, y⟩, he⟩ : ∃ r, mergeT N G P c.f2 c.f3 = r := ⟨_, rfl⟩
   rw [he]
   exact rdo_merge c h1 h he
  ·simp only [if_neg h1]
   by_cases h2 : c.f0 = 2
   ·simp only [if_pos h2]
    exact rdo_find c h2 h
   ·simp only [if_neg h2]
    by_cases h3 : c.f0 = 3
    ·simp only [if_pos h3]
     exact rdo_look c h3 h
    ·simp only [if_neg h3]
     exact rdo_else c h0 h1 h2 h3 h
end
end Go.Proofs.Ytkidnomkfdnciaa.All
namespace Go.Proofs.Ytkidnomkfdnciaa.QR
open Go Go.Sort Go.RowKit Go.Proofs.YtkidnomkfdnciaaW.PrintWords Go.Proofs.YtkidnomkfdnciaaW.PrintLast
set_option linter.unusedSimpArgs false
theorem wanted_of {o : Oper} (h : o.guard = none) (y : Nat → Option Bool) : Region.wanted o y = true := by unfold Region.wanted; rw [h]
theorem eval_tmp_put (a : Act) {t n : Tmp} (v : Value) (h : n ≠ t) : (a.put (some n) v).eval (.tmp t) = a.eval (.tmp t) := by
 simp only [Act.put, Act.eval, Array.getD_eq_getD_getElem?]
 rw [Array.getElem?_setIfInBounds_ne h]
theorem eval_tmp_same (a : Act) {n : Tmp} (v : Value) (h : n < a.tmps.size) : (a.put (some n) v).eval (.tmp n) = v := by
 simp only [Act.put, Act.eval, Array.getD_eq_getD_getElem?]
 simp [h]
theorem put_size (a : Act) (n : Option Tmp) (v : Value) : (a.put n v).tmps.size = a.tmps.size := by
 cases n <;> simp [Act.put]
theorem pc (a : Act) {x y : Tmp} (u v : Value) (h : x ≠ y) : (a.put (some x) u).put (some y) v = (a.put (some y) v).put (some x) u := by
 simp only [Act.put]
 rw [Array.setIfInBounds_comm _ _ h]
structure Apart (ops : Array Oper) (m x y : Nat) (N M X Y : Tmp) : Prop where
 m : ∃ o, ops[m]? = some o ∧ o.dst = some M ∧ o.guard = none ∧ o.op = .move (.tmp N)
 x : ∃ o, ops[x]? = some o ∧ o.dst = some X ∧ o.guard = none ∧ o.op = .extract (.tmp M) 0
 y : ∃ o, ops[y]? = some o ∧ o.dst = some Y ∧ o.guard = none ∧ o.op = .extract (.tmp M) 1
def fill (N M X Y : Tmp) (u v : Value) (a : Act) : Act := (((a.put (some N) (.tuple #[u, v])).put (some M) (.tuple #[u, v])).put (some X) u).put (some Y) v
theorem fill_put {N M X Y T : Tmp} (h : T ≠ N ∧ T ≠ M ∧ T ≠ X ∧ T ≠ Y) (u v g : Value) (a : Act) : fill N M X Y u v (a.put (some T) g) = (fill N M X Y u v a).put (some T) g := by
 unfold fill
 rw [pc _ _ _ h.1, pc _ _ _ h.2.1, pc _ _ _ h.2.2.1, pc _ _ _ h.2.2.2]
def L3 (l : Array Bool) (is : List Nat) : Array Bool := is.foldl (fun l i => l.setIfInBounds i true) l
section
variable {P : Program} {ops : Array Oper} {Q : Exit → Act → World → Prop} {S : World → Prop} {ds : List Nat} {l : Array Bool} {N M X Y : Tmp} {m x y : Nat}
theorem Apart.go (h : Apart ops m x y N M X Y) {a : Act} {l1 l2 l3 : Array Bool} {u v : Value} {w : World} {fuel : Nat} (hN : N < a.tmps.size) (hM : M < a.tmps.size) (hX : X ≠ M) (hQ : ∀ b c a w, Q (.panic c) (a.put (some b) (.tuple #[u, v])) w → Q (.panic c) a w) (hQ1 : ∀ b c a w, Q (.panic c) (a.put (some b) u) w → Q (.panic c) a w) (hQ2 : ∀ b c a w, Q (.panic c) (a.put (some b) v) w → Q (.panic c) a w)
  (c1 : anyB .any ops l l1 m = true) (c2 : anyB .any ops l1 l2 x = true) (c3 : anyB .any ops l2 l3 y = true)
  (hk : wpAnyLast P .any ops Q S ds fuel l3 (fill N M X Y u v a) w) : wpAnyLast P .any ops Q S ds (fuel + 3) l (a.put (some N) (.tuple #[u, v])) w := by
 obtain ⟨o1, h1, d1, g1, e1⟩ := h.m
 obtain ⟨o2, h2, d2, g2, e2⟩ := h.x
 obtain ⟨o3, h3, d3, g3, e3⟩ := h.y
 refine pure_ (i := m) (N := some M) (v := .tuple #[u, v]) l1 h1 d1 c1 (by rw [d1]; exact fun c a w hq => hQ M c a w hq) (Or.inl ⟨wanted_of g1 _, fun w' => ?_⟩) rfl ?_
 ·unfold execOp
  rw [e1]
  simp only [eval_tmp_same a _ hN]
  rfl
 have hM' : M < (a.put (some N) (.tuple #[u, v])).tmps.size := by rw [put_size]; exact hM
 refine pure_ (i := x) (N := some X) (v := u) l2 h2 d2 c2 (by rw [d2]; exact fun c a w hq => hQ1 X c a w hq) (Or.inl ⟨wanted_of g2 _, fun w' => ?_⟩) rfl ?_
 ·unfold execOp
  rw [e2]
  simp only [eval_tmp_same _ _ hM']
  rfl
 refine pure_ (i := y) (N := some Y) (v := v) l3 h3 d3 c3 (by rw [d3]; exact fun c a w hq => hQ2 Y c a w hq) (Or.inl ⟨wanted_of g3 _, fun w' => ?_⟩) rfl hk
 unfold execOp
 rw [e3]
 simp only [eval_tmp_put _ _ hX, eval_tmp_same _ _ hM']
 rfl
end
structure Makes (P : Program) (ops : Array Oper) (i : Nat) (T : Tmp) (ob : Obj) : Prop where
 o : ∃ o, ops[i]? = some o ∧ o.dst = some T ∧ o.guard = none ∧ ∀ ev (w : World), (execOp ev o).run P w = .ok (.value (.pointer (some ⟨w.heap.size, 0, none⟩))) (w.alloc ob)
def ptr (g : Nat) : Value := .pointer (some ⟨g, 0, none⟩)
def checks (ops : Array Oper) (l : Array Bool) (c m x y p q : Nat) : Bool :=
 (Region.ready .any ops l == [c, p, q]) && (Region.ready .any ops (L3 l [c, m, x, y]) == [p, q]) && (Region.ready .any ops (L3 l [p]) == [c, q]) && (Region.ready .any ops (L3 l [q]) == [c, p])
 && (Region.ready .any ops (L3 l [p, q]) == [c]) && (Region.ready .any ops (L3 l [p, c, m, x, y]) == [q]) && (Region.ready .any ops (L3 l [q, c, m, x, y]) == [p]) && (Region.ready .any ops (L3 l [c, m, x, y, p]) == [q]) && (Region.ready .any ops (L3 l [c, m, x, y, q]) == [p])
 && (L3 l [c, m, x, y, q, p] == L3 l [c, m, x, y, p, q]) && (L3 l [p, c, m, x, y, q] == L3 l [c, m, x, y, p, q]) && (L3 l [q, c, m, x, y, p] == L3 l [c, m, x, y, p, q]) && (L3 l [p, q, c, m, x, y] == L3 l [c, m, x, y, p, q]) && (L3 l [q, p] == L3 l [p, q])
 && anyB .any ops (L3 l [c]) (L3 l [c, m]) m && anyB .any ops (L3 l [c, m]) (L3 l [c, m, x]) x && anyB .any ops (L3 l [c, m, x]) (L3 l [c, m, x, y]) y
 && anyB .any ops (L3 l [p, c]) (L3 l [p, c, m]) m && anyB .any ops (L3 l [p, c, m]) (L3 l [p, c, m, x]) x && anyB .any ops (L3 l [p, c, m, x]) (L3 l [p, c, m, x, y]) y
 && anyB .any ops (L3 l [q, c]) (L3 l [q, c, m]) m && anyB .any ops (L3 l [q, c, m]) (L3 l [q, c, m, x]) x && anyB .any ops (L3 l [q, c, m, x]) (L3 l [q, c, m, x, y]) y
 && anyB .any ops (L3 l [p, q, c]) (L3 l [p, q, c, m]) m && anyB .any ops (L3 l [p, q, c, m]) (L3 l [p, q, c, m, x]) x && anyB .any ops (L3 l [p, q, c, m, x]) (L3 l [p, q, c, m, x, y]) y
section
variable {P : Program} {ops : Array Oper} {Q : Exit → Act → World → Prop} {ds : List Nat} {l : Array Bool} {N M X Y TP TQ : Tmp} {c m x y p q : Nat} {σ : Type} {va vb : σ → Value} {w0 : World} {obp obq : Obj} {a : Act} {f : FuncId} {args : Array Value} {G : σ → World → World → Prop}
set_option maxHeartbeats 1000000 in
theorem do3 {fuel : Nat} {fn : Func} {xs : Array Operand} {ts : Array TypeId} {oc : Oper} (hf : P.funcs[f]? = some fn) (hname : (fn.name == "runtime.NumGoroutine") = false) (hbd : fn.body.isSome = true)
  (hoc : ops[c]? = some oc) (hdc : oc.dst = some N) (hgc : oc.guard = none) (hop : oc.op = .call { callee := .value (.func f), args := xs, argTypes := ts })
  (hA : Apart ops m x y N M X Y) (hP : Makes P ops p TP obp) (hR : Makes P ops q TQ obq)
  (hn : N < a.tmps.size ∧ M < a.tmps.size ∧ X ≠ M) (h1 : TP ≠ N ∧ TP ≠ M ∧ TP ≠ X ∧ TP ≠ Y) (h2 : TQ ≠ N ∧ TQ ≠ M ∧ TQ ≠ X ∧ TQ ≠ Y) (h3 : TP ≠ TQ) (hdis : (c ∉ ds ∧ p ∉ ds ∧ q ∉ ds) ∧ c ≠ p ∧ c ≠ q ∧ p ≠ q)
  (hargs : xs.map a.eval = args) (hargs1 : ∀ u, xs.map (a.put (some TP) u).eval = args) (hargs2 : ∀ u, xs.map (a.put (some TQ) u).eval = args) (hargs3 : ∀ u v, xs.map ((a.put (some TP) u).put (some TQ) v).eval = args)
  (hck : checks ops l c m x y p q = true) (hQ : ∀ b v c a w, Q (.panic c) (a.put (some b) v) w → Q (.panic c) a w)
  (hC : ∀ w1, Below w0.heap.size w0 w1 → Calls P f args w1 fun e w2 => ∃ s : σ, e = .returned (.tuple #[va s, vb s]) ∧ G s w1 w2 ∧ Below w1.heap.size w1 w2)
  {w : World} (hw : Below w0.heap.size w0 w)
  (hk : ∀ (s : σ) (gp gq : Nat) (w1 w2 w3 : World), Below w0.heap.size w0 w1 → G s w1 w2 → Below w1.heap.size w1 w2 → Below w2.heap.size w2 w3 → w3.heap[gp]? = some obp → w3.heap[gq]? = some obq → gp ≠ gq → w0.heap.size ≤ gp → w0.heap.size ≤ gq → (gp < w1.heap.size ∨ w2.heap.size ≤ gp) → (gq < w1.heap.size ∨ w2.heap.size ≤ gq) →
   wpAnyLast P .any ops Q (fun w' => Below w0.heap.size w0 w') ds fuel (L3 l [c, m, x, y, p, q]) (((fill N M X Y (va s) (vb s) a).put (some TP) (ptr gp)).put (some TQ) (ptr gq)) w3) :
  wpAnyLast P .any ops Q (fun w' => Below w0.heap.size w0 w') ds (fuel + 6) l a w := by
 obtain ⟨op, hp1, hp2, hp3, hp4⟩ := hP.o
 obtain ⟨oq, hq1, hq2, hq3, hq4⟩ := hR.o
 obtain ⟨⟨dc, dp, dq⟩, ncp, ncq, npq⟩ := hdis
 simp only [checks, Bool.and_eq_true, beq_iff_eq] at hck
 obtain ⟨⟨⟨⟨⟨⟨⟨⟨⟨⟨⟨⟨⟨⟨⟨⟨⟨⟨⟨⟨⟨⟨⟨⟨⟨k0, k1⟩, k2⟩, k3⟩, k4⟩, k5⟩, k6⟩, k7⟩, k8⟩, l1⟩, l2⟩, l3⟩, l4⟩, l5⟩, c1⟩, c2⟩, c3⟩, d1⟩, d2⟩, d3⟩, e1⟩, e2⟩, e3⟩, f1⟩, f2⟩, f3⟩ := hck
 have al : ∀ (W : World) (o : Obj), Below W.heap.size W (W.alloc o) := fun W o => below_alloc (Below.refl _ _) o
 have grow : ∀ {W W' : World}, Below w0.heap.size w0 W → Below W.heap.size W W' → Below w0.heap.size w0 W' := fun h h' => h.trans (h'.mono h.size)
 have ls : ∀ (is : List Nat) (i : Nat), (L3 l is).setIfInBounds i true = L3 l (is ++ [i]) := fun is i => by simp [L3]
 have l0 : ∀ (i : Nat), l.setIfInBounds i true = L3 l [i] := fun i => rfl
 have new : ∀ (W : World) (o : Obj), (W.alloc o).heap[W.heap.size]? = some o := heap_alloc_new
 have sz : ∀ (W : World) (o : Obj), (W.alloc o).heap.size = W.heap.size + 1 := fun W o => Array.size_push _
 have tail : ∀ (s : σ) (gp gq : Nat) (w1 w2 w3 : World) (li : Array Bool) (b : Act), Below w0.heap.size w0 w1 → G s w1 w2 → Below w1.heap.size w1 w2 → Below w2.heap.size w2 w3 → w3.heap[gp]? = some obp → w3.heap[gq]? = some obq → gp ≠ gq → w0.heap.size ≤ gp → w0.heap.size ≤ gq → (gp < w1.heap.size ∨ w2.heap.size ≤ gp) → (gq < w1.heap.size ∨ w2.heap.size ≤ gq) → li = L3 l [c, m, x, y, p, q] → b = ((fill N M X Y (va s) (vb s) a).put (some TP) (ptr gp)).put (some TQ) (ptr gq) →
   wpAnyLast P .any ops Q (fun w' => Below w0.heap.size w0 w') ds fuel li b w3 := by
  intro s gp gq w1 w2 w3 li b q1 q2 q3 q4 q5 q6 q7 q8 q9 q10 q11 el eb
  rw [el, eb]
  exact hk s gp gq w1 w2 w3 q1 q2 q3 q4 q5 q6 q7 q8 q9 q10 q11
 have ap : ∀ (b : Act) (u : Value), N < (b.put (some TP) u).tmps.size ↔ N < b.tmps.size := fun b u => by rw [put_size]
 have sm : ∀ (b : Act) (T : Tmp) (u : Value), b.tmps.size = a.tmps.size → (b.put (some T) u).tmps.size = a.tmps.size := fun b T u h => by rw [put_size, h]
 refine wpAnyLast_ready k0 (by simp) (AllReadyL.cons hoc dc (fun K hK => ?_) (AllReadyL.cons hp1 dp (fun K hK => ?_) (AllReadyL.cons hq1 dq (fun K hK => ?_) AllReadyL.nil)))
 ·rw [hdc]
  refine goes_ hf hname hbd args (wanted_of hgc _) hdc hop hargs ((hC w hw).mono ?_)
  rintro e w2 ⟨s, rfl, hG, hb⟩
  refine ⟨_, rfl, hK.out _ _ (grow hw hb) (fun _ => ?_)⟩
  simp only [l0, ls, List.cons_append, List.nil_append]
  have z0 := grow hw hb
  refine hA.go (l := L3 l [c]) (fuel := fuel + 2) hn.1 hn.2.1 hn.2.2 (fun b => hQ b _) (fun b => hQ b _) (fun b => hQ b _) c1 c2 c3 ?_
  refine wpAnyLast_ready (fuel := fuel + 1) k1 (by simp) (AllReadyL.cons hp1 dp (fun K hK => ?_) (AllReadyL.cons hq1 dq (fun K hK => ?_) AllReadyL.nil))
  ·rw [hp2]
   refine value_ (wanted_of hp3 _) hp2 (hp4 _ _) (hK.out _ _ (grow z0 (al _ _)) (fun _ => ?_))
   simp only [l0, ls, List.cons_append, List.nil_append]
   have r1 : Region.ready .any ops (L3 l [c, m, x, y, p]) = [q] := k7
   refine wpAnyLast_ready (fuel := fuel) r1 (by simp) (AllReadyL.cons hq1 dq (fun K hK => ?_) AllReadyL.nil)
   rw [hq2]
   refine value_ (wanted_of hq3 _) hq2 (hq4 _ _) (hK.out _ _ (grow (grow z0 (al _ _)) (al _ _)) (fun _ => ?_))
   simp only [l0, ls, List.cons_append, List.nil_append]
   exact tail s w2.heap.size (w2.heap.size + 1) w w2 _ _ _ hw hG hb ((al _ _).trans ((al _ _).mono (al _ _).size)) (blk_below (new _ _) (al _ _)) (by rw [← sz w2 obp]; exact new _ _) (by omega) z0.size (Nat.le_succ_of_le z0.size) (.inr (Nat.le_refl _)) (.inr (Nat.le_succ _)) rfl (by simp only [sz, ptr])
  ·rw [hq2]
   refine value_ (wanted_of hq3 _) hq2 (hq4 _ _) (hK.out _ _ (grow z0 (al _ _)) (fun _ => ?_))
   simp only [l0, ls, List.cons_append, List.nil_append]
   have r1 : Region.ready .any ops (L3 l [c, m, x, y, q]) = [p] := k8
   refine wpAnyLast_ready (fuel := fuel) r1 (by simp) (AllReadyL.cons hp1 dp (fun K hK => ?_) AllReadyL.nil)
   rw [hp2]
   refine value_ (wanted_of hp3 _) hp2 (hp4 _ _) (hK.out _ _ (grow (grow z0 (al _ _)) (al _ _)) (fun _ => ?_))
   simp only [l0, ls, List.cons_append, List.nil_append]
   exact tail s (w2.heap.size + 1) w2.heap.size w w2 _ _ _ hw hG hb ((al _ _).trans ((al _ _).mono (al _ _).size)) (by rw [← sz w2 obq]; exact new _ _) (blk_below (new _ _) (al _ _)) (by omega) (Nat.le_succ_of_le z0.size) z0.size (.inr (Nat.le_succ _)) (.inr (Nat.le_refl _)) l1 (by rw [pc _ _ _ h3.symm]; simp only [sz, ptr])
 ·rw [hp2]
  refine value_ (wanted_of hp3 _) hp2 (hp4 _ _) (hK.out _ _ (grow hw (al _ _)) (fun _ => ?_))
  simp only [l0, ls, List.cons_append, List.nil_append]
  have z0 := grow hw (al w obp)
  have hl1 : w.heap.size < (w.alloc obp).heap.size := by rw [sz]; omega
  refine wpAnyLast_ready (fuel := fuel + 4) k2 (by simp) (AllReadyL.cons hoc dc (fun K hK => ?_) (AllReadyL.cons hq1 dq (fun K hK => ?_) AllReadyL.nil))
  ·rw [hdc]
   refine goes_ hf hname hbd args (wanted_of hgc _) hdc hop (hargs1 _) ((hC _ z0).mono ?_)
   rintro e w2 ⟨s, rfl, hG, hb⟩
   refine ⟨_, rfl, hK.out _ _ (grow z0 hb) (fun _ => ?_)⟩
   simp only [l0, ls, List.cons_append, List.nil_append]
   refine hA.go (l := L3 l [p, c]) (fuel := fuel + 1) (by rw [put_size]; exact hn.1) (by rw [put_size]; exact hn.2.1) hn.2.2 (fun b => hQ b _) (fun b => hQ b _) (fun b => hQ b _) d1 d2 d3 ?_
   refine wpAnyLast_ready (fuel := fuel) k5 (by simp) (AllReadyL.cons hq1 dq (fun K hK => ?_) AllReadyL.nil)
   rw [hq2]
   refine value_ (wanted_of hq3 _) hq2 (hq4 _ _) (hK.out _ _ (grow (grow z0 hb) (al _ _)) (fun _ => ?_))
   simp only [l0, ls, List.cons_append, List.nil_append]
   exact tail s w.heap.size w2.heap.size _ w2 _ _ _ z0 hG hb (al _ _) (blk_below (blk_below (new _ _) hb) (al _ _)) (new _ _) (by have := hb.size; omega) hw.size (grow z0 hb).size (.inl hl1) (.inr (Nat.le_refl _)) l2 (by rw [fill_put h1]; simp only [ptr])
  ·rw [hq2]
   refine value_ (wanted_of hq3 _) hq2 (hq4 _ _) (hK.out _ _ (grow z0 (al _ _)) (fun _ => ?_))
   simp only [l0, ls, List.cons_append, List.nil_append]
   have z1 := grow z0 (al (w.alloc obp) obq)
   refine wpAnyLast_ready (fuel := fuel + 3) k4 (by simp) (AllReadyL.cons hoc dc (fun K hK => ?_) AllReadyL.nil)
   rw [hdc]
   refine goes_ hf hname hbd args (wanted_of hgc _) hdc hop (hargs3 _ _) ((hC _ z1).mono ?_)
   rintro e w2 ⟨s, rfl, hG, hb⟩
   refine ⟨_, rfl, hK.out _ _ (grow z1 hb) (fun _ => ?_)⟩
   simp only [l0, ls, List.cons_append, List.nil_append]
   refine hA.go (l := L3 l [p, q, c]) (fuel := fuel) (by rw [put_size, put_size]; exact hn.1) (by rw [put_size, put_size]; exact hn.2.1) hn.2.2 (fun b => hQ b _) (fun b => hQ b _) (fun b => hQ b _) f1 f2 f3 ?_
   have hl2 : ((w.alloc obp).alloc obq).heap.size = w.heap.size + 2 := by rw [sz, sz]
   exact tail s w.heap.size (w.alloc obp).heap.size _ w2 _ _ _ z1 hG hb (Below.refl _ _) (blk_below (blk_below (new _ _) (al _ _)) hb) (blk_below (new _ _) hb) (by omega) hw.size z0.size (.inl (by omega)) (.inl (by rw [sz (w.alloc obp)]; omega)) l4 (by rw [fill_put h2, fill_put h1]; simp only [ptr])
 ·rw [hq2]
  refine value_ (wanted_of hq3 _) hq2 (hq4 _ _) (hK.out _ _ (grow hw (al _ _)) (fun _ => ?_))
  simp only [l0, ls, List.cons_append, List.nil_append]
  have z0 := grow hw (al w obq)
  have hl1 : w.heap.size < (w.alloc obq).heap.size := by rw [sz]; omega
  refine wpAnyLast_ready (fuel := fuel + 4) k3 (by simp) (AllReadyL.cons hoc dc (fun K hK => ?_) (AllReadyL.cons hp1 dp (fun K hK => ?_) AllReadyL.nil))
  ·rw [hdc]
   refine goes_ hf hname hbd args (wanted_of hgc _) hdc hop (hargs2 _) ((hC _ z0).mono ?_)
   rintro e w2 ⟨s, rfl, hG, hb⟩
   refine ⟨_, rfl, hK.out _ _ (grow z0 hb) (fun _ => ?_)⟩
   simp only [l0, ls, List.cons_append, List.nil_append]
   refine hA.go (l := L3 l [q, c]) (fuel := fuel + 1) (by rw [put_size]; exact hn.1) (by rw [put_size]; exact hn.2.1) hn.2.2 (fun b => hQ b _) (fun b => hQ b _) (fun b => hQ b _) e1 e2 e3 ?_
   refine wpAnyLast_ready (fuel := fuel) k6 (by simp) (AllReadyL.cons hp1 dp (fun K hK => ?_) AllReadyL.nil)
   rw [hp2]
   refine value_ (wanted_of hp3 _) hp2 (hp4 _ _) (hK.out _ _ (grow (grow z0 hb) (al _ _)) (fun _ => ?_))
   simp only [l0, ls, List.cons_append, List.nil_append]
   exact tail s w2.heap.size w.heap.size _ w2 _ _ _ z0 hG hb (al _ _) (new _ _) (blk_below (blk_below (new _ _) hb) (al _ _)) (by have := hb.size; omega) (grow z0 hb).size hw.size (.inr (Nat.le_refl _)) (.inl hl1) l3 (by rw [fill_put h2, pc _ _ _ h3.symm]; simp only [ptr])
  ·rw [hp2]
   refine value_ (wanted_of hp3 _) hp2 (hp4 _ _) (hK.out _ _ (grow z0 (al _ _)) (fun _ => ?_))
   simp only [l0, ls, List.cons_append, List.nil_append]
   have z1 := grow z0 (al (w.alloc obq) obp)
   have r1 : Region.ready .any ops (L3 l [q, p]) = [c] := by rw [l5]; exact k4
   refine wpAnyLast_ready (fuel := fuel + 3) r1 (by simp) (AllReadyL.cons hoc dc (fun K hK => ?_) AllReadyL.nil)
   rw [hdc]
   refine goes_ hf hname hbd args (wanted_of hgc _) hdc hop (by rw [pc _ _ _ h3.symm]; exact hargs3 _ _) ((hC _ z1).mono ?_)
   rintro e w2 ⟨s, rfl, hG, hb⟩
   refine ⟨_, rfl, hK.out _ _ (grow z1 hb) (fun _ => ?_)⟩
   simp only [l0, ls, List.cons_append, List.nil_append]
   rw [show L3 l [q, p, c] = L3 l [p, q, c] by rw [show L3 l [q, p, c] = (L3 l [q, p]).setIfInBounds c true from (ls [q, p] c).symm, l5]; exact ls [p, q] c]
   refine hA.go (l := L3 l [p, q, c]) (fuel := fuel) (by rw [put_size, put_size]; exact hn.1) (by rw [put_size, put_size]; exact hn.2.1) hn.2.2 (fun b => hQ b _) (fun b => hQ b _) (fun b => hQ b _) f1 f2 f3 ?_
   have hl2 : ((w.alloc obq).alloc obp).heap.size = w.heap.size + 2 := by rw [sz, sz]
   exact tail s (w.alloc obq).heap.size w.heap.size _ w2 _ _ _ z1 hG hb (Below.refl _ _) (blk_below (new _ _) hb) (blk_below (blk_below (new _ _) (al _ _)) hb) (by omega) z0.size hw.size (.inl (by rw [sz (w.alloc obq)]; omega)) (.inl (by omega)) l4 (by rw [fill_put h1, fill_put h2, pc _ _ _ h3.symm]; simp only [ptr])
end
end Go.Proofs.Ytkidnomkfdnciaa.QR
