/- Walks of one's steps: left, begin, act, end. -/
import Derived.Test.YtkidnomkfdnciaaQCall
import Derived.Test.YtkidnomkfdnciaaMv
import Derived.RegionTactic
import Derived.ChangeAlike
import Derived.Lib.Hide
import Derived.Deep.RegionLaw
namespace Go.Proofs.Ytkidnomkfdnciaa.All
open Go.RowKit Go.Proofs.YtkidnomkfdnciaaW.PrintWords Go.Proofs.YtkidnomkfdnciaaW.PrintLast Go.Proofs.YtkidnomkfdnciaaW.PrintMore
set_option linter.unusedVariables false
set_option linter.unusedSimpArgs false
def OBox (W : World) (b : Nat) (A : Option Addr) (n c : Nat) (at_ st : Nat) (g e : Int) (v : Value) : Prop :=
 W.heap[b]? = some (.cells #[.slice A n c, .int .i64 (at_ : Int), .int .i64 (st : Int), .int .i64 g, .int .i64 e, v] 107 (0, 0))
set_option maxHeartbeats 4000000 in
set_option maxRecDepth 100000 in
theorem left_calls {W : World} {b : Nat} {A : Option Addr} {n c : Nat} {at_ st : Nat} {g e : Int} {v : Value} (h : OBox W b A n c at_ st g e v) (hn : n ≤ 1000) :
  Calls Try.prog 88 #[.pointer (some ⟨b, 0, none⟩)] W fun e' w' => e' = .returned (.bool (decide (at_ < n))) ∧ ∃ q, w' = W.drewN q := by
 have c0 : W.cell? ⟨b, 0, none⟩ = some (.slice A n c) := (blk_cell h 0).trans rfl
 have c1 : W.cell? ⟨b, 1, none⟩ = some (.int .i64 (at_ : Int)) := (blk_cell h 1).trans rfl
 have hu := Try.underlying107
 clear h
 go_enter Try.func88, Try.ntmps88
 go_wp2
 go_quiet (fail)
 go_wp2
 go_ret
 exact ⟨by first | rfl | simp, _, rfl⟩
set_option maxHeartbeats 4000000 in
set_option maxRecDepth 100000 in
theorem begin_calls (W : World) (p q : Value) : Calls Try.prog 104 #[p, q] W fun e' w' => e' = .returned (.tuple #[]) ∧ w' = W := by
 go_enter Try.func104, Try.ntmps104
 go_wp2
 go_end0
 exact ⟨rfl, rfl⟩
def runDo (k : Nat) (N : List S48) (G P : List Int) (c : S76) : Option (List S48 × List Int × List Int × Int × Int) := calls_Do.f k N G P c.f0 c.f1.f0 c.f1.f1 c.f1.f2 c.f1.f3 c.f2 c.f3
def HBox (W : World) (b : Nat) (vN vG vP vA vE : Value) : Prop := W.heap[b]? = some (.cells #[vN, vG, vP, vA, vE] 104 (0, 0))
set_option maxHeartbeats 8000000 in
set_option maxRecDepth 100000 in
theorem act_calls (k : Nat) {W : World} {bh bo : Nat} {AN AG AP : Option Addr} {cN cG cP : Nat} {N : List S48} {G P : List Int} {vA vE : Value} {A : Option Addr} {c at_ st : Nat} {g e_ : Int} {v : Value} {l : List S76} {N' : List S48} {G' P' : List Int} {r4 r5 : Int}
  (hH : HBox W bh (.slice AN N.length cN) (.slice AG G.length cG) (.slice AP P.length cP) vA vE) (hO : OBox W bo A l.length c at_ st g e_ v) (hM : MemoAt W AN cN N AG cG G AP cP P) (hL : k76.C W A l.length l) (hl : l.length ≤ 1000) (hat : at_ < l.length)
  (hd : runDo k N G P (l.getD at_ z76) = some (N', G', P', r4, r5)) :
  Calls Try.prog 105 #[.pointer (some ⟨bo, 0, none⟩), .pointer (some ⟨bh, 0, none⟩)] W fun e' w' => e' = .returned (.tuple #[]) ∧ ∃ (w1 : World) (v0 v1 v2 : Value) (q : Nat), w' = (((((w1.setCell ⟨bh, 0, none⟩ v0).setCell ⟨bh, 1, none⟩ v1).setCell ⟨bh, 2, none⟩ v2).setCell ⟨bo, 3, none⟩ (.int .i64 r4)).setCell ⟨bo, 4, none⟩ (.int .i64 r5)).drewN q ∧ Below W.heap.size W w1 ∧
   Kd.R k48 48 w1 W.heap.size (fun _ => True) v0 N' ∧ Kd.R (Kd.int .i64) 3 w1 W.heap.size (fun k_ => some k_ ≠ (v2 : Value).ownBlock) v1 G' ∧ Kd.R (Kd.int .i64) 3 w1 W.heap.size (fun k_ => some k_ ≠ (v1 : Value).ownBlock) v2 P' := by
 have a0 : W.cell? ⟨bh, 0, none⟩ = some (.slice AN N.length cN) := (blk_cell hH 0).trans rfl
 have a1 : W.cell? ⟨bh, 1, none⟩ = some (.slice AG G.length cG) := (blk_cell hH 1).trans rfl
 have a2 : W.cell? ⟨bh, 2, none⟩ = some (.slice AP P.length cP) := (blk_cell hH 2).trans rfl
 have b0 : W.cell? ⟨bo, 0, none⟩ = some (.slice A l.length c) := (blk_cell hO 0).trans rfl
 have b1 : W.cell? ⟨bo, 1, none⟩ = some (.int .i64 (at_ : Int)) := (blk_cell hO 1).trans rfl
 obtain ⟨ad, hA, e0, e1, e2, e3, e4, e5, e6⟩ := at_T76 hL (at_ : Int) (by omega) (by omega)
 obtain ⟨x, hx⟩ : ∃ x, x = l.getD at_ z76 := ⟨_, rfl⟩
 rw [Int.toNat_natCast, show rd_T76 l (at_ : Int) = x from by rw [hx]; simp [rd_T76]] at e0 e1 e2 e3 e4 e5 e6
 rw [← hx] at hd
 subst hA
 have HD := Aside0.mk (fun (W1 : World) (hb : Below W.heap.size W W1) => calls_Do.calls k AN cN N AG cG G AP cP P x.f0 x.f1.f0 x.f1.f1 x.f1.f2 x.f1.f3 x.f2 x.f3 N' G' P' r4 r5 W1 (Kd.C_below hM.n hb) hM.nc (Kd.C_below hM.g hb) hM.gc (Kd.C_below hM.p hb) hM.pc hd)
 have HH := Aside0.mk hH
 have HO := Aside0.mk hO
 have hne : bh ≠ bo := fun e => by
  subst e
  unfold HBox at hH
  unfold OBox at hO
  rw [hH] at hO
  injection hO with hO
  injection hO with _ h2
  exact absurd h2 (by decide)
 have hu := Try.underlying107
 have hu1 := Try.underlying38
 have hu2 := Try.underlying73
 have q0 : (0 : Int) ≤ (at_ : Int) := by omega
 have q1 : (at_ : Int) < (l.length : Int) := by omega
 have HX := Aside0.mk hx
 clear hH hO hM hL hd hx
 go_enter Try.func105, Try.ntmps105
 go_wp2
 go_region_with (go_at_call 63; (refine (HD.out _ (pw_below_drewN (Below.refl _ _) _)).mono ?_; rintro e w1 ⟨v0, v1, v2, rfl, h0, h1, h2, hb⟩; obtain ⟨B0, d0, y0⟩ := Kd.R_slice h0; obtain ⟨B1, d1, y1⟩ := Kd.R_slice h1; obtain ⟨B2, d2, y2⟩ := Kd.R_slice h2; subst y0 y1 y2; have H0 := Aside0.mk h0; have H1 := Aside0.mk h1; have H2 := Aside0.mk h2; have HB := Aside0.mk hb; have hh := (hb.block _ (blk_lt HH.out)).trans HH.out; have ho := (hb.block _ (blk_lt HO.out)).trans HO.out; have f0 : w1.cell? ⟨bh, 0, none⟩ = some (.slice AN N.length cN) := (blk_cell hh 0).trans rfl; have f1 : w1.cell? ⟨bh, 1, none⟩ = some (.slice AG G.length cG) := (blk_cell hh 1).trans rfl; have f2 : w1.cell? ⟨bh, 2, none⟩ = some (.slice AP P.length cP) := (blk_cell hh 2).trans rfl; have f3 := blk_frozen hh 0; have f4 := blk_frozen hh 1; have f5 := blk_frozen hh 2; have g0 : w1.cell? ⟨bo, 3, none⟩ = some (.int .i64 g) := (blk_cell ho 3).trans rfl; have g1 : w1.cell? ⟨bo, 4, none⟩ = some (.int .i64 e_) := (blk_cell ho 4).trans rfl; have g2 := blk_frozen ho 3; have g3 := blk_frozen ho 4; clear h0 h1 h2 hb hh ho))
 all_goals
  go_wp2
  go_end0
  exact ⟨rfl, w1, _, _, _, 0, rfl, (pw_below_drewN (Below.refl _ _) _).trans HB.out, H0.out, H1.out, H2.out⟩
set_option maxHeartbeats 8000000 in
set_option maxRecDepth 100000 in
theorem end_calls {w0 W : World} {bo : Nat} {p : Value} {A : Option Addr} {n c at_ st : Nat} {g e_ : Int} {v : Value} {es : List S73} {ok : Nat → Prop} (hO : OBox W bo A n c at_ st g e_ v) (hE : Kd.R k73 73 W w0.heap.size ok v es) (hB : Below w0.heap.size w0 W) (hl : es.length ≤ 1000) (hfresh : ∀ k, W.heap.size ≤ k → ok k) :
  Calls Try.prog 106 #[.pointer (some ⟨bo, 0, none⟩), p] W fun e' w' => e' = .returned (.tuple #[]) ∧ ∃ (w1 : World) (v1 : Value), w' = w1.setCell ⟨bo, 5, none⟩ v1 ∧ Kd.R k73 73 w1 w0.heap.size ok v1 (es ++ [⟨g, e_⟩]) ∧ Below w0.heap.size w0 w1 ∧ W.grownBy w1 v.ownBlock ∧ (v1.ownBlock = v.ownBlock ∨ ∃ b, v1.ownBlock = some b ∧ W.heap.size ≤ b) := by
 obtain ⟨B, d, y⟩ := Kd.R_slice hE
 subst y
 have b3 : W.cell? ⟨bo, 3, none⟩ = some (.int .i64 g) := (blk_cell hO 3).trans rfl
 have b4 : W.cell? ⟨bo, 4, none⟩ = some (.int .i64 e_) := (blk_cell hO 4).trans rfl
 have b5 : W.cell? ⟨bo, 5, none⟩ = some (.slice B es.length d) := (blk_cell hO 5).trans rfl
 have HO := Aside0.mk (show W.heap[bo]? = _ from hO)
 have HE := Aside0.mk hE
 have HB := Aside0.mk hB
 have HL := Aside0.mk hl
 have HF := Aside0.mk hfresh
 have a3 : ∀ o, (W.alloc o).cell? ⟨bo, 3, none⟩ = some (.int .i64 g) := fun o => (blk_cell (kM (W := W.alloc o) HO.out) 3).trans rfl
 have a4 : ∀ o, (W.alloc o).cell? ⟨bo, 4, none⟩ = some (.int .i64 e_) := fun o => (blk_cell (kM (W := W.alloc o) HO.out) 4).trans rfl
 have a5 : ∀ o, (W.alloc o).cell? ⟨bo, 5, none⟩ = some (.slice B es.length d) := fun o => (blk_cell (kM (W := W.alloc o) HO.out) 5).trans rfl
 have hu := Try.underlying107
 have hu2 := Try.underlying73
 clear hO hE hB hl hfresh
 go_enter Try.func106, Try.ntmps106
 go_wp2
 go_region_law ((refine Kd.R_append_step (P := Try.prog) k73 (w0 := w0) (W := W.drew) w0.heap.size (by rfl) (.tmp 8) (.tmp 13) 71 73 (.agg #[(.int .i64 0), (.int .i64 0)]) 16 (by rfl) Try.underlying71 info73 rfl (by decide) (by omega) (.slice B es.length d) es (⟨g, e_⟩ : S73) [.int .i64 g, .int .i64 e_] ok (fun _ => False) (by rfl) (by rfl) (k73_mkM _ _ _ _) (fun _ h => h.elim) HF.out (rM HE.out) (wM HB.out) (wM HB.out).size (by have := HL.out; omega) ?_; intro v1 w1 h1 h2 h3 h4; obtain ⟨B1, d1, y1⟩ := Kd.R_slice h1; subst y1; have c5 : w1.cell? ⟨bo, 5, none⟩ = some (.slice B es.length d) := (blk_cell (blk_grown (kM (W := W.drew) HO.out) h3 (Kd.R_ne HE.out HO.out (by decide))) 5).trans rfl; have f5 : w1.frozen? ⟨bo, 5, none⟩ = false := blk_frozen (blk_grown (kM (W := W.drew) HO.out) h3 (Kd.R_ne HE.out HO.out (by decide))) 5))
 all_goals
  go_wp2
  go_end0
  rw [List.length_append] at h1 h4
  exact ⟨rfl, w1, _, rfl, h1, h2, ⟨h3.1, h3.2, h3.3, h3.4, h3.5⟩, h4⟩
end Go.Proofs.Ytkidnomkfdnciaa.All
