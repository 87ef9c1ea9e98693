/- Walks of the hall's step, once for each of the three steps. -/
import Derived.Test.YtkidnomkfdnciaaRunA
import Derived.Laws.EntriesVeiled
import Derived.Deep.RegionHeld3
namespace Go.Proofs.Ytkidnomkfdnciaa.All
open Go.RowKit Go.Proofs.YtkidnomkfdnciaaW.PrintWords Go.Proofs.YtkidnomkfdnciaaW.PrintLast Go.Proofs.YtkidnomkfdnciaaW.PrintMore
set_option linter.unusedVariables false
set_option linter.unusedSimpArgs false
set_option maxHeartbeats 4000000 in
set_option maxRecDepth 100000 in
theorem ways_calls (W : World) : Calls Try.prog 100 #[] W fun e w' => e = .returned (.agg #[.func (.func 104) #[] #[], .func (.func 105) #[] #[], .func (.func 106) #[] #[]]) ∧ Below W.heap.size W w' := by
 have hb : ∀ w, (Instr.build 120 #[(0, .func (.func 104) #[] #[]), (1, .func (.func 105) #[] #[]), (2, .func (.func 106) #[] #[])]).run Try.prog w = .ok (.agg #[.func (.func 104) #[] #[], .func (.func 105) #[] #[], .func (.func 106) #[] #[]]) w := fun _ => by kernel_rfl
 go_enter Try.func100, Try.ntmps100
 go_wp2
 refine bodyPost_ret (v := .agg #[.func (.func 104) #[] #[], .func (.func 105) #[] #[], .func (.func 106) #[] #[]]) (by simp [results, Try.results100, go_sem]) rfl ⟨rfl, ?_⟩
 exact below_alloc (Below.refl _ _) _
theorem index120 : ∀ (w : World) (j : Nat), j < 3 → (Instr.index 120 (.agg #[.func (.func 104) #[] #[], .func (.func 105) #[] #[], .func (.func 106) #[] #[]]) (.int .i64 (j : Int))).run Try.prog w = .ok (.func (.func (104 + j)) #[] #[]) w := by
 intro w j hj
 rcases (by omega : j = 0 ∨ j = 1 ∨ j = 2) with rfl | rfl | rfl <;> kernel_rfl
def StepPost (w0 : World) (base : Nat) (ok : Nat → Prop) (Q : World → Prop) (i at_ st : Nat) (bh bo : Nat) (vE : Value) (ev : List S68) (w' : World) : Prop :=
 ∃ (w2 w3 : World) (v1 : Value) (q : Nat), Q w2 ∧ Kd.R k68 68 w3 base ok v1 (ev ++ [⟨(i : Int), (at_ : Int), (st : Int)⟩]) ∧ Below base w0 w3 ∧ w2.grownBy w3 vE.ownBlock ∧ (v1.ownBlock = vE.ownBlock ∨ ∃ b, v1.ownBlock = some b ∧ w2.heap.size ≤ b) ∧
  w' = if st = 2 then ((((w3.setCell ⟨bh, 4, none⟩ v1).setCell ⟨bo, 2, none⟩ (.int .i64 3)).setCell ⟨bo, 1, none⟩ (.int .i64 ((at_ : Int) + 1))).setCell ⟨bo, 2, none⟩ (.int .i64 0)).drewN q else ((w3.setCell ⟨bh, 4, none⟩ v1).setCell ⟨bo, 2, none⟩ (.int .i64 ((st : Int) + 1))).drewN q
structure Mid (w0 : World) (base : Nat) (ok : Nat → Prop) (bh bo : Nat) (A : Option Addr) (n c at_ st : Nat) (vA vE : Value) (ev : List S68) (w : World) : Prop where
 h : ∃ vN vG vP, HBox w bh vN vG vP vA vE
 o : ∃ g e v, OBox w bo A n c at_ st g e v
 e : Kd.R k68 68 w base ok vE ev
 b : Below base w0 w
set_option maxHeartbeats 16000000 in
set_option maxRecDepth 100000 in
theorem step_walk0 {w0 W : World} {ok : Nat → Prop} (Q : World → Prop) (i : Nat) {bh bo : Nat} {vN vG vP : Value} {vE : Value} {ad : Addr} {nA cA : Nat} {A : Option Addr} {n c at_ : Nat} {g e_ : Int} {v : Value} {ev : List S68}
  (hH : HBox W bh vN vG vP (.slice (some ad) nA cA) vE) (hO : OBox W bo A n c at_ 0 g e_ v) (hi : i < nA) (hp : W.cell? (ad.add i) = some (.pointer (some ⟨bo, 0, none⟩))) (hn : n ≤ 1000) (hat : at_ < n) (hnA : nA ≤ 1000)
  (hcall : ∀ W', Below W.heap.size W W' → Calls Try.prog 104 #[.pointer (some ⟨bo, 0, none⟩), .pointer (some ⟨bh, 0, none⟩)] W' fun e w' => e = .returned (.tuple #[]) ∧ Q w')
  (hQ : ∀ w', Q w' → Mid w0 w0.heap.size ok bh bo A n c at_ 0 (.slice (some ad) nA cA) vE ev w') (hev : ev.length < 1000000) (hfresh : ∀ w', Q w' → ∀ k, w'.heap.size ≤ k → ok k) (hb0 : w0.heap.size ≤ bh) (hb1 : w0.heap.size ≤ bo) :
  Calls Try.prog 87 #[.pointer (some ⟨bh, 0, none⟩), .int .i64 (i : Int)] W fun e w' => e = .returned (.tuple #[]) ∧ StepPost w0 w0.heap.size ok Q i at_ 0 bh bo vE ev w' := by
 have a3 : W.cell? ⟨bh, 3, none⟩ = some (.slice (some ad) nA cA) := (blk_cell hH 3).trans rfl
 have HL := Aside0.mk (fun (W1 : World) (hb : Below W.heap.size W W1) => left_calls (W := W1) (b := bo) (A := A) (n := n) (c := c) (at_ := at_) (st := 0) (g := g) (e := e_) (v := v) ((hb.block _ (blk_lt hO)).trans hO) hn)
 rw [decide_eq_true hat] at HL
 have HC := Aside0.mk hcall
 have HQ := Aside0.mk hQ
 have HO := Aside0.mk (show W.heap[bo]? = _ from hO)
 have HF2 := Aside0.mk hfresh
 have HEV := Aside0.mk hev
 have hu := Try.underlying107
 have hu1 := Try.underlying104
 have q0 : (0 : Int) ≤ (i : Int) := by omega
 have q1 : (i : Int) < (nA : Int) := by omega
 have b2 : ∀ q, (W.drewN q).cell? ⟨bo, 2, none⟩ = some (.int .i64 (0 : Int)) := fun q => (blk_cell (kM (W := W.drewN q) HO.out) 2).trans rfl
 have hix : ∀ w : World, (Instr.index 120 (.agg #[.func (.func 104) #[] #[], .func (.func 105) #[] #[], .func (.func 106) #[] #[]]) (.int .i64 (0 : Int))).run Try.prog w = .ok (.func (.func 104) #[] #[]) w := fun w => index120 w 0 (by decide)
 have HB01 := Aside0.mk (And.intro hb0 hb1)
 clear hH hO hcall hQ hfresh hev hb0 hb1
 go_enter Try.func87, Try.ntmps87
 go_wp2_with (go_at_call 88; refine (HL.out _ (Below.refl _ _)).mono ?_; rintro e w1 ⟨rfl, ⟨q, rfl⟩⟩)
 go_region_held3 (fun w' => w'.cell? ⟨bo, 2, none⟩ = some (.int .i64 (0 : Int))) (first | go_keep | exact c2 | exact y2) (first | (go_at_call 100; refine (ways_calls _).mono ?_; rintro e w1 ⟨rfl, hbw⟩; have HW := Aside0.mk ((pw_below_drewN (Below.refl W.heap.size W) _).trans hbw); have c2 : w1.cell? ⟨bo, 2, none⟩ = some (.int .i64 (0 : Int)) := (blk_cell (blk_below HO.out HW.out) 2).trans rfl; clear hbw) | (go_at_call 104; refine (HC.out _ (wM HW.out)).mono ?_; rintro e w2 ⟨rfl, hq⟩; have y2 : w2.cell? ⟨bo, 2, none⟩ = some (.int .i64 (0 : Int)) := (by obtain ⟨g', e', v', ho⟩ := (HQ.out _ hq).o; exact (blk_cell ho 2).trans rfl)))
 all_goals
  obtain ⟨⟨vN', vG', vP', hh⟩, ⟨g', e', v', ho⟩, he, hb⟩ := HQ.out _ hq
  obtain ⟨BE, dE, yE⟩ := Kd.R_slice he
  subst yE
  have hne : bh ≠ bo := fun e => by
   subst e
   unfold HBox at hh
   unfold OBox at ho
   rw [hh] at ho
   injection ho with ho
   injection ho with _ h2
   exact absurd h2 (by decide)
  have hne2 : bo ≠ bh := fun e => hne e.symm
  have HH2 := Aside0.mk (show w2.heap[bh]? = _ from hh)
  have HO2 := Aside0.mk (show w2.heap[bo]? = _ from ho)
  have HE2 := Aside0.mk he
  have HB2 := Aside0.mk hb
  have HQ2 := Aside0.mk hq
  have x4 : w2.cell? ⟨bh, 4, none⟩ = some (.slice BE ev.length dE) := (blk_cell hh 4).trans rfl
  have y1 : w2.cell? ⟨bo, 1, none⟩ = some (.int .i64 (at_ : Int)) := (blk_cell ho 1).trans rfl
  have z1 : ∀ o, (w2.alloc o).cell? ⟨bo, 1, none⟩ = some (.int .i64 (at_ : Int)) := fun o => (blk_cell (kM (W := w2.alloc o) HO2.out) 1).trans rfl
  have z2 : ∀ o, (w2.alloc o).cell? ⟨bo, 2, none⟩ = some (.int .i64 (0 : Int)) := fun o => (blk_cell (kM (W := w2.alloc o) HO2.out) 2).trans rfl
  have z4 : ∀ o, (w2.alloc o).cell? ⟨bh, 4, none⟩ = some (.slice BE ev.length dE) := fun o => (blk_cell (kM (W := w2.alloc o) HH2.out) 4).trans rfl
  have hF2 : ∀ k, w2.heap.size ≤ k → ok k := HF2.out w2 hq
  have HFF := Aside0.mk hF2
  clear hh ho he hb hq hF2
  go_wp2
  go_region_law ((refine Kd.R_append_step (P := Try.prog) k68 (w0 := w0) (W := w2.drew) w0.heap.size (by rfl) (.tmp 30) (.tmp 41) 63 68 (.agg #[(.int .i64 0), (.int .i64 0), (.int .i64 0)]) 24 (by rfl) Try.underlying63 info68 rfl (by decide) (by omega) (.slice BE ev.length dE) ev (⟨(i : Int), (at_ : Int), (0 : Int)⟩ : S68) [.int .i64 (i : Int), .int .i64 (at_ : Int), .int .i64 (0 : Int)] ok (fun _ => False) (by rfl) (by rfl) (k68_mkM _ _ _ _) (fun _ h => h.elim) HFF.out (rM HE2.out) (wM HB2.out) (wM HB2.out).size (by have := HEV.out; omega) ?_; intro v1 w1 h1 h2 h3 h4; obtain ⟨B1, d1, y1⟩ := Kd.R_slice h1; subst y1; have c4 : w1.cell? ⟨bh, 4, none⟩ = some (.slice BE ev.length dE) := (blk_cell (blk_grown (kM (W := w2.drew) HH2.out) h3 (Kd.R_ne HE2.out HH2.out (by decide))) 4).trans rfl; have f4 : w1.frozen? ⟨bh, 4, none⟩ = false := blk_frozen (blk_grown (kM (W := w2.drew) HH2.out) h3 (Kd.R_ne HE2.out HH2.out (by decide))) 4; have hk_ := blk_grown (kM (W := w2.drew) HO2.out) h3 (Kd.R_ne HE2.out HO2.out (by decide)); have d1_ : w1.cell? ⟨bo, 1, none⟩ = some (.int .i64 (at_ : Int)) := (blk_cell hk_ 1).trans rfl; have d2_ : w1.cell? ⟨bo, 2, none⟩ = some (.int .i64 (0 : Int)) := (blk_cell hk_ 2).trans rfl; have f1_ : w1.frozen? ⟨bo, 1, none⟩ = false := blk_frozen hk_ 1; have f2_ : w1.frozen? ⟨bo, 2, none⟩ = false := blk_frozen hk_ 2; clear hk_))
  all_goals
   go_wp2
   go_end0
   rw [List.length_append] at h1 h4
   exact ⟨rfl, w2, w1, _, 0, HQ2.out, h1, h2, ⟨h3.1, h3.2, h3.3, h3.4, h3.5⟩, h4, rfl⟩
set_option maxHeartbeats 16000000 in
set_option maxRecDepth 100000 in
theorem step_walk1 {w0 W : World} {ok : Nat → Prop} (Q : World → Prop) (i : Nat) {bh bo : Nat} {vN vG vP : Value} {vE : Value} {ad : Addr} {nA cA : Nat} {A : Option Addr} {n c at_ : Nat} {g e_ : Int} {v : Value} {ev : List S68}
  (hH : HBox W bh vN vG vP (.slice (some ad) nA cA) vE) (hO : OBox W bo A n c at_ 1 g e_ v) (hi : i < nA) (hp : W.cell? (ad.add i) = some (.pointer (some ⟨bo, 0, none⟩))) (hn : n ≤ 1000) (hat : at_ < n) (hnA : nA ≤ 1000)
  (hcall : ∀ W', Below W.heap.size W W' → Calls Try.prog 105 #[.pointer (some ⟨bo, 0, none⟩), .pointer (some ⟨bh, 0, none⟩)] W' fun e w' => e = .returned (.tuple #[]) ∧ Q w')
  (hQ : ∀ w', Q w' → Mid w0 w0.heap.size ok bh bo A n c at_ 1 (.slice (some ad) nA cA) vE ev w') (hev : ev.length < 1000000) (hfresh : ∀ w', Q w' → ∀ k, w'.heap.size ≤ k → ok k) (hb0 : w0.heap.size ≤ bh) (hb1 : w0.heap.size ≤ bo) :
  Calls Try.prog 87 #[.pointer (some ⟨bh, 0, none⟩), .int .i64 (i : Int)] W fun e w' => e = .returned (.tuple #[]) ∧ StepPost w0 w0.heap.size ok Q i at_ 1 bh bo vE ev w' := by
 have a3 : W.cell? ⟨bh, 3, none⟩ = some (.slice (some ad) nA cA) := (blk_cell hH 3).trans rfl
 have HL := Aside0.mk (fun (W1 : World) (hb : Below W.heap.size W W1) => left_calls (W := W1) (b := bo) (A := A) (n := n) (c := c) (at_ := at_) (st := 1) (g := g) (e := e_) (v := v) ((hb.block _ (blk_lt hO)).trans hO) hn)
 rw [decide_eq_true hat] at HL
 have HC := Aside0.mk hcall
 have HQ := Aside0.mk hQ
 have HO := Aside0.mk (show W.heap[bo]? = _ from hO)
 have HF2 := Aside0.mk hfresh
 have HEV := Aside0.mk hev
 have hu := Try.underlying107
 have hu1 := Try.underlying104
 have q0 : (0 : Int) ≤ (i : Int) := by omega
 have q1 : (i : Int) < (nA : Int) := by omega
 have b2 : ∀ q, (W.drewN q).cell? ⟨bo, 2, none⟩ = some (.int .i64 (1 : Int)) := fun q => (blk_cell (kM (W := W.drewN q) HO.out) 2).trans rfl
 have hix : ∀ w : World, (Instr.index 120 (.agg #[.func (.func 104) #[] #[], .func (.func 105) #[] #[], .func (.func 106) #[] #[]]) (.int .i64 (1 : Int))).run Try.prog w = .ok (.func (.func 105) #[] #[]) w := fun w => index120 w 1 (by decide)
 have HB01 := Aside0.mk (And.intro hb0 hb1)
 clear hH hO hcall hQ hfresh hev hb0 hb1
 go_enter Try.func87, Try.ntmps87
 go_wp2_with (go_at_call 88; refine (HL.out _ (Below.refl _ _)).mono ?_; rintro e w1 ⟨rfl, ⟨q, rfl⟩⟩)
 go_region_held3 (fun w' => w'.cell? ⟨bo, 2, none⟩ = some (.int .i64 (1 : Int))) (first | go_keep | exact c2 | exact y2) (first | (go_at_call 100; refine (ways_calls _).mono ?_; rintro e w1 ⟨rfl, hbw⟩; have HW := Aside0.mk ((pw_below_drewN (Below.refl W.heap.size W) _).trans hbw); have c2 : w1.cell? ⟨bo, 2, none⟩ = some (.int .i64 (1 : Int)) := (blk_cell (blk_below HO.out HW.out) 2).trans rfl; clear hbw) | (go_at_call 105; refine (HC.out _ (wM HW.out)).mono ?_; rintro e w2 ⟨rfl, hq⟩; have y2 : w2.cell? ⟨bo, 2, none⟩ = some (.int .i64 (1 : Int)) := (by obtain ⟨g', e', v', ho⟩ := (HQ.out _ hq).o; exact (blk_cell ho 2).trans rfl)))
 all_goals
  obtain ⟨⟨vN', vG', vP', hh⟩, ⟨g', e', v', ho⟩, he, hb⟩ := HQ.out _ hq
  obtain ⟨BE, dE, yE⟩ := Kd.R_slice he
  subst yE
  have hne : bh ≠ bo := fun e => by
   subst e
   unfold HBox at hh
   unfold OBox at ho
   rw [hh] at ho
   injection ho with ho
   injection ho with _ h2
   exact absurd h2 (by decide)
  have hne2 : bo ≠ bh := fun e => hne e.symm
  have HH2 := Aside0.mk (show w2.heap[bh]? = _ from hh)
  have HO2 := Aside0.mk (show w2.heap[bo]? = _ from ho)
  have HE2 := Aside0.mk he
  have HB2 := Aside0.mk hb
  have HQ2 := Aside0.mk hq
  have x4 : w2.cell? ⟨bh, 4, none⟩ = some (.slice BE ev.length dE) := (blk_cell hh 4).trans rfl
  have y1 : w2.cell? ⟨bo, 1, none⟩ = some (.int .i64 (at_ : Int)) := (blk_cell ho 1).trans rfl
  have z1 : ∀ o, (w2.alloc o).cell? ⟨bo, 1, none⟩ = some (.int .i64 (at_ : Int)) := fun o => (blk_cell (kM (W := w2.alloc o) HO2.out) 1).trans rfl
  have z2 : ∀ o, (w2.alloc o).cell? ⟨bo, 2, none⟩ = some (.int .i64 (1 : Int)) := fun o => (blk_cell (kM (W := w2.alloc o) HO2.out) 2).trans rfl
  have z4 : ∀ o, (w2.alloc o).cell? ⟨bh, 4, none⟩ = some (.slice BE ev.length dE) := fun o => (blk_cell (kM (W := w2.alloc o) HH2.out) 4).trans rfl
  have hF2 : ∀ k, w2.heap.size ≤ k → ok k := HF2.out w2 hq
  have HFF := Aside0.mk hF2
  clear hh ho he hb hq hF2
  go_wp2
  go_region_law ((refine Kd.R_append_step (P := Try.prog) k68 (w0 := w0) (W := w2.drew) w0.heap.size (by rfl) (.tmp 30) (.tmp 41) 63 68 (.agg #[(.int .i64 0), (.int .i64 0), (.int .i64 0)]) 24 (by rfl) Try.underlying63 info68 rfl (by decide) (by omega) (.slice BE ev.length dE) ev (⟨(i : Int), (at_ : Int), (1 : Int)⟩ : S68) [.int .i64 (i : Int), .int .i64 (at_ : Int), .int .i64 (1 : Int)] ok (fun _ => False) (by rfl) (by rfl) (k68_mkM _ _ _ _) (fun _ h => h.elim) HFF.out (rM HE2.out) (wM HB2.out) (wM HB2.out).size (by have := HEV.out; omega) ?_; intro v1 w1 h1 h2 h3 h4; obtain ⟨B1, d1, y1⟩ := Kd.R_slice h1; subst y1; have c4 : w1.cell? ⟨bh, 4, none⟩ = some (.slice BE ev.length dE) := (blk_cell (blk_grown (kM (W := w2.drew) HH2.out) h3 (Kd.R_ne HE2.out HH2.out (by decide))) 4).trans rfl; have f4 : w1.frozen? ⟨bh, 4, none⟩ = false := blk_frozen (blk_grown (kM (W := w2.drew) HH2.out) h3 (Kd.R_ne HE2.out HH2.out (by decide))) 4; have hk_ := blk_grown (kM (W := w2.drew) HO2.out) h3 (Kd.R_ne HE2.out HO2.out (by decide)); have d1_ : w1.cell? ⟨bo, 1, none⟩ = some (.int .i64 (at_ : Int)) := (blk_cell hk_ 1).trans rfl; have d2_ : w1.cell? ⟨bo, 2, none⟩ = some (.int .i64 (1 : Int)) := (blk_cell hk_ 2).trans rfl; have f1_ : w1.frozen? ⟨bo, 1, none⟩ = false := blk_frozen hk_ 1; have f2_ : w1.frozen? ⟨bo, 2, none⟩ = false := blk_frozen hk_ 2; clear hk_))
  all_goals
   go_wp2
   go_end0
   rw [List.length_append] at h1 h4
   exact ⟨rfl, w2, w1, _, 0, HQ2.out, h1, h2, ⟨h3.1, h3.2, h3.3, h3.4, h3.5⟩, h4, rfl⟩
set_option maxHeartbeats 16000000 in
set_option maxRecDepth 100000 in
theorem step_walk2 {w0 W : World} {ok : Nat → Prop} (Q : World → Prop) (i : Nat) {bh bo : Nat} {vN vG vP : Value} {vE : Value} {ad : Addr} {nA cA : Nat} {A : Option Addr} {n c at_ : Nat} {g e_ : Int} {v : Value} {ev : List S68}
  (hH : HBox W bh vN vG vP (.slice (some ad) nA cA) vE) (hO : OBox W bo A n c at_ 2 g e_ v) (hi : i < nA) (hp : W.cell? (ad.add i) = some (.pointer (some ⟨bo, 0, none⟩))) (hn : n ≤ 1000) (hat : at_ < n) (hnA : nA ≤ 1000)
  (hcall : ∀ W', Below W.heap.size W W' → Calls Try.prog 106 #[.pointer (some ⟨bo, 0, none⟩), .pointer (some ⟨bh, 0, none⟩)] W' fun e w' => e = .returned (.tuple #[]) ∧ Q w')
  (hQ : ∀ w', Q w' → Mid w0 w0.heap.size ok bh bo A n c at_ 2 (.slice (some ad) nA cA) vE ev w') (hev : ev.length < 1000000) (hfresh : ∀ w', Q w' → ∀ k, w'.heap.size ≤ k → ok k) (hb0 : w0.heap.size ≤ bh) (hb1 : w0.heap.size ≤ bo) :
  Calls Try.prog 87 #[.pointer (some ⟨bh, 0, none⟩), .int .i64 (i : Int)] W fun e w' => e = .returned (.tuple #[]) ∧ StepPost w0 w0.heap.size ok Q i at_ 2 bh bo vE ev w' := by
 have a3 : W.cell? ⟨bh, 3, none⟩ = some (.slice (some ad) nA cA) := (blk_cell hH 3).trans rfl
 have HL := Aside0.mk (fun (W1 : World) (hb : Below W.heap.size W W1) => left_calls (W := W1) (b := bo) (A := A) (n := n) (c := c) (at_ := at_) (st := 2) (g := g) (e := e_) (v := v) ((hb.block _ (blk_lt hO)).trans hO) hn)
 rw [decide_eq_true hat] at HL
 have HC := Aside0.mk hcall
 have HQ := Aside0.mk hQ
 have HO := Aside0.mk (show W.heap[bo]? = _ from hO)
 have HF2 := Aside0.mk hfresh
 have HEV := Aside0.mk hev
 have hu := Try.underlying107
 have hu1 := Try.underlying104
 have q0 : (0 : Int) ≤ (i : Int) := by omega
 have q1 : (i : Int) < (nA : Int) := by omega
 have b2 : ∀ q, (W.drewN q).cell? ⟨bo, 2, none⟩ = some (.int .i64 (2 : Int)) := fun q => (blk_cell (kM (W := W.drewN q) HO.out) 2).trans rfl
 have hix : ∀ w : World, (Instr.index 120 (.agg #[.func (.func 104) #[] #[], .func (.func 105) #[] #[], .func (.func 106) #[] #[]]) (.int .i64 (2 : Int))).run Try.prog w = .ok (.func (.func 106) #[] #[]) w := fun w => index120 w 2 (by decide)
 have HB01 := Aside0.mk (And.intro hb0 hb1)
 clear hH hO hcall hQ hfresh hev hb0 hb1
 go_enter Try.func87, Try.ntmps87
 go_wp2_with (go_at_call 88; refine (HL.out _ (Below.refl _ _)).mono ?_; rintro e w1 ⟨rfl, ⟨q, rfl⟩⟩)
 go_region_held3 (fun w' => w'.cell? ⟨bo, 2, none⟩ = some (.int .i64 (2 : Int))) (first | go_keep | exact c2 | exact y2) (first | (go_at_call 100; refine (ways_calls _).mono ?_; rintro e w1 ⟨rfl, hbw⟩; have HW := Aside0.mk ((pw_below_drewN (Below.refl W.heap.size W) _).trans hbw); have c2 : w1.cell? ⟨bo, 2, none⟩ = some (.int .i64 (2 : Int)) := (blk_cell (blk_below HO.out HW.out) 2).trans rfl; clear hbw) | (go_at_call 106; refine (HC.out _ (wM HW.out)).mono ?_; rintro e w2 ⟨rfl, hq⟩; have y2 : w2.cell? ⟨bo, 2, none⟩ = some (.int .i64 (2 : Int)) := (by obtain ⟨g', e', v', ho⟩ := (HQ.out _ hq).o; exact (blk_cell ho 2).trans rfl)))
 all_goals
  obtain ⟨⟨vN', vG', vP', hh⟩, ⟨g', e', v', ho⟩, he, hb⟩ := HQ.out _ hq
  obtain ⟨BE, dE, yE⟩ := Kd.R_slice he
  subst yE
  have hne : bh ≠ bo := fun e => by
   subst e
   unfold HBox at hh
   unfold OBox at ho
   rw [hh] at ho
   injection ho with ho
   injection ho with _ h2
   exact absurd h2 (by decide)
  have hne2 : bo ≠ bh := fun e => hne e.symm
  have HH2 := Aside0.mk (show w2.heap[bh]? = _ from hh)
  have HO2 := Aside0.mk (show w2.heap[bo]? = _ from ho)
  have HE2 := Aside0.mk he
  have HB2 := Aside0.mk hb
  have HQ2 := Aside0.mk hq
  have x4 : w2.cell? ⟨bh, 4, none⟩ = some (.slice BE ev.length dE) := (blk_cell hh 4).trans rfl
  have y1 : w2.cell? ⟨bo, 1, none⟩ = some (.int .i64 (at_ : Int)) := (blk_cell ho 1).trans rfl
  have z1 : ∀ o, (w2.alloc o).cell? ⟨bo, 1, none⟩ = some (.int .i64 (at_ : Int)) := fun o => (blk_cell (kM (W := w2.alloc o) HO2.out) 1).trans rfl
  have z2 : ∀ o, (w2.alloc o).cell? ⟨bo, 2, none⟩ = some (.int .i64 (2 : Int)) := fun o => (blk_cell (kM (W := w2.alloc o) HO2.out) 2).trans rfl
  have z4 : ∀ o, (w2.alloc o).cell? ⟨bh, 4, none⟩ = some (.slice BE ev.length dE) := fun o => (blk_cell (kM (W := w2.alloc o) HH2.out) 4).trans rfl
  have hF2 : ∀ k, w2.heap.size ≤ k → ok k := HF2.out w2 hq
  have HFF := Aside0.mk hF2
  clear hh ho he hb hq hF2
  go_wp2
  go_region_law ((refine Kd.R_append_step (P := Try.prog) k68 (w0 := w0) (W := w2.drew) w0.heap.size (by rfl) (.tmp 30) (.tmp 41) 63 68 (.agg #[(.int .i64 0), (.int .i64 0), (.int .i64 0)]) 24 (by rfl) Try.underlying63 info68 rfl (by decide) (by omega) (.slice BE ev.length dE) ev (⟨(i : Int), (at_ : Int), (2 : Int)⟩ : S68) [.int .i64 (i : Int), .int .i64 (at_ : Int), .int .i64 (2 : Int)] ok (fun _ => False) (by rfl) (by rfl) (k68_mkM _ _ _ _) (fun _ h => h.elim) HFF.out (rM HE2.out) (wM HB2.out) (wM HB2.out).size (by have := HEV.out; omega) ?_; intro v1 w1 h1 h2 h3 h4; obtain ⟨B1, d1, y1⟩ := Kd.R_slice h1; subst y1; have c4 : w1.cell? ⟨bh, 4, none⟩ = some (.slice BE ev.length dE) := (blk_cell (blk_grown (kM (W := w2.drew) HH2.out) h3 (Kd.R_ne HE2.out HH2.out (by decide))) 4).trans rfl; have f4 : w1.frozen? ⟨bh, 4, none⟩ = false := blk_frozen (blk_grown (kM (W := w2.drew) HH2.out) h3 (Kd.R_ne HE2.out HH2.out (by decide))) 4; have hk_ := blk_grown (kM (W := w2.drew) HO2.out) h3 (Kd.R_ne HE2.out HO2.out (by decide)); have d1_ : w1.cell? ⟨bo, 1, none⟩ = some (.int .i64 (at_ : Int)) := (blk_cell hk_ 1).trans rfl; have d2_ : w1.cell? ⟨bo, 2, none⟩ = some (.int .i64 (2 : Int)) := (blk_cell hk_ 2).trans rfl; have f1_ : w1.frozen? ⟨bo, 1, none⟩ = false := blk_frozen hk_ 1; have f2_ : w1.frozen? ⟨bo, 2, none⟩ = false := blk_frozen hk_ 2; clear hk_))
  all_goals
   go_wp2
   go_end0
   rw [List.length_append] at h1 h4
   exact ⟨rfl, w2, w1, _, 0, HQ2.out, h1, h2, ⟨h3.1, h3.2, h3.3, h3.4, h3.5⟩, h4, rfl⟩
set_option maxHeartbeats 4000000 in
set_option maxRecDepth 100000 in
theorem step_no {W : World} (i : Nat) {bh bo : Nat} {vN vG vP vE : Value} {ad : Addr} {nA cA : Nat} {A : Option Addr} {n c at_ st : Nat} {g e_ : Int} {v : Value}
  (hH : HBox W bh vN vG vP (.slice (some ad) nA cA) vE) (hO : OBox W bo A n c at_ st g e_ v) (hi : i < nA) (hp : W.cell? (ad.add i) = some (.pointer (some ⟨bo, 0, none⟩))) (hn : n ≤ 1000) (hat : ¬ at_ < n) (hnA : nA ≤ 1000) :
  Calls Try.prog 87 #[.pointer (some ⟨bh, 0, none⟩), .int .i64 (i : Int)] W fun e w' => e = .returned (.tuple #[]) ∧ ∃ q, w' = W.drewN q := by
 have a3 : W.cell? ⟨bh, 3, none⟩ = some (.slice (some ad) nA cA) := (blk_cell hH 3).trans rfl
 have HL := Aside0.mk (left_calls hO hn)
 rw [decide_eq_false hat] at HL
 have hu := Try.underlying107
 have hu1 := Try.underlying104
 have q0 : (0 : Int) ≤ (i : Int) := by omega
 have q1 : (i : Int) < (nA : Int) := by omega
 clear hH hO hat
 go_enter Try.func87, Try.ntmps87
 go_wp2_with (go_at_call 88; refine (HL.out).mono ?_; rintro e w1 ⟨rfl, ⟨q, rfl⟩⟩)
 (first | (refine bodyPost_ret (results_none rfl _ _ _) rfl ?_) | (simp only [Exit.inBlock, Exit.then]; refine bodyPost_ret (results_none rfl _ _ _) rfl ?_))
 exact ⟨rfl, _, rfl⟩
end Go.Proofs.Ytkidnomkfdnciaa.All
