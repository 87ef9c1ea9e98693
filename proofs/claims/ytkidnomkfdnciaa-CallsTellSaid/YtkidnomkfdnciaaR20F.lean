/- Functions of the program as plain Lean functions, and proofs that the calls do what these say; written for this claim by a program of the session (wip/tools/mkprint.py), checked by Lean. -/
import Derived.Test.YtkidnomkfdnciaaSets2
import Derived.Test.YtkidnomkfdnciaaBk
import Derived.Test.YtkidnomkfdnciaaR16E
import Derived.Test.YtkidnomkfdnciaaQCall
import Derived.Test.YtkidnomkfdnciaaCalls2
import Derived.Test.YtkidnomkfdnciaaR16D
import Derived.Test.YtkidnomkfdnciaaQRel
import Derived.Test.YtkidnomkfdnciaaMv
import Derived.RegionTactic
import Derived.ChangeAlike
import Derived.Lib.Hide
import Derived.Deep.RegionLaw
import Derived.Lib.SliceRun
import Derived.Test.YtkidnomkfdnciaaAllx10
namespace Go.Proofs.Ytkidnomkfdnciaa.All
open Go.RowKit Go.Proofs.YtkidnomkfdnciaaW.PrintWords Go.Proofs.YtkidnomkfdnciaaW.PrintLast Go.Proofs.YtkidnomkfdnciaaW.PrintMore
attribute [local go_sem] max2_int min2_int max_two min_two max_three min_three max_four min_four
set_option linter.unusedVariables false
set_option linter.unusedSimpArgs false
attribute [local go_sem high] eqA68 eqA73
def roadbooklaw20_awake0.f (k : Nat)  : Option (Bool) := (some (([(⟨0, (⟨false, 0, 0, 0⟩ : S48), (-1), 0⟩ : S76)] : List (S76)) : List (S76))).bind fun y11 => ((calls_Run.f k ([] : List (S48)) ([] : List Int) ([] : List Int) (([y11, y11] : List (List (S76)))) (([1, 0, 1, 0, 0, 1] : List Int))).bind fun bt20 => (if (bt20.1.length : Int) = 1 then (if (bt20.2.2.2.1.length : Int) = 2 then (if 0 < (bt20.2.2.2.1.length : Int) then (if ((rd_L6 bt20.2.2.2.1 0).length : Int) = 1 then (if 1 < (bt20.2.2.2.1.length : Int) then (if ((rd_L6 bt20.2.2.2.1 1).length : Int) = 1 then (if 0 < ((rd_L6 bt20.2.2.2.1 0).length : Int) then (if (((rd_T73 (rd_L6 bt20.2.2.2.1 0) 0).f0) == 0 && (((rd_T73 (rd_L6 bt20.2.2.2.1 0) 0).f1) == 0)) = true then (if 0 < ((rd_L6 bt20.2.2.2.1 1).length : Int) then (if (((rd_T73 (rd_L6 bt20.2.2.2.1 1) 0).f0) == 0 && (((rd_T73 (rd_L6 bt20.2.2.2.1 1) 0).f1) == 0)) = true then (if (bt20.2.2.2.2.length : Int) = 6 then (if 2 < (bt20.2.2.2.2.length : Int) then (some (((rd_T68 bt20.2.2.2.2 2).f0) == 1 && (((rd_T68 bt20.2.2.2.2 2).f1) == 0 && (((rd_T68 bt20.2.2.2.2 2).f2) == 1)))) else (none)) else (some false)) else (some false)) else (none)) else (some false)) else (none)) else (some false)) else (none)) else (some false)) else (none)) else (some false)) else (some false)))
set_option maxHeartbeats 8000000 in
set_option maxRecDepth 100000 in
theorem roadbooklaw20_awake0.calls (k : Nat)  (r : Bool) (w : World) (hrt : r = true) (h : roadbooklaw20_awake0.f k  = some r) :
  Calls Try.prog 56 #[] w fun e w' => e = .returned (.bool r) ∧ Below w.heap.size w w' := by
 have HRT := Aside0.mk hrt
 clear hrt
 have hu76 := Try.underlying76
 have hu38 := Try.underlying38
 have hu73 := Try.underlying73
 have hu68 := Try.underlying68
 have HB := Aside0.mk (Below.refl w.heap.size w)
 have H : ((some (([(⟨0, (⟨false, 0, 0, 0⟩ : S48), (-1), 0⟩ : S76)] : List (S76)) : List (S76))).bind fun y11 => ((calls_Run.f k ([] : List (S48)) ([] : List Int) ([] : List Int) (([y11, y11] : List (List (S76)))) (([1, 0, 1, 0, 0, 1] : List Int))).bind fun bt20 => (if (bt20.1.length : Int) = 1 then (if (bt20.2.2.2.1.length : Int) = 2 then (if 0 < (bt20.2.2.2.1.length : Int) then (if ((rd_L6 bt20.2.2.2.1 0).length : Int) = 1 then (if 1 < (bt20.2.2.2.1.length : Int) then (if ((rd_L6 bt20.2.2.2.1 1).length : Int) = 1 then (if 0 < ((rd_L6 bt20.2.2.2.1 0).length : Int) then (if (((rd_T73 (rd_L6 bt20.2.2.2.1 0) 0).f0) == 0 && (((rd_T73 (rd_L6 bt20.2.2.2.1 0) 0).f1) == 0)) = true then (if 0 < ((rd_L6 bt20.2.2.2.1 1).length : Int) then (if (((rd_T73 (rd_L6 bt20.2.2.2.1 1) 0).f0) == 0 && (((rd_T73 (rd_L6 bt20.2.2.2.1 1) 0).f1) == 0)) = true then (if (bt20.2.2.2.2.length : Int) = 6 then (if 2 < (bt20.2.2.2.2.length : Int) then (some (((rd_T68 bt20.2.2.2.2 2).f0) == 1 && (((rd_T68 bt20.2.2.2.2 2).f1) == 0 && (((rd_T68 bt20.2.2.2.2 2).f2) == 1)))) else (none)) else (some false)) else (some false)) else (none)) else (some false)) else (none)) else (some false)) else (none)) else (some false)) else (none)) else (some false)) else (some false)))) = some r := h
 clear h
 obtain ⟨y11, hy11⟩ : ∃ y_ : List (S76), y_ = (([(⟨0, (⟨false, 0, 0, 0⟩ : S48), (-1), 0⟩ : S76)] : List (S76))) := ⟨_, rfl⟩
 replace H : ((calls_Run.f k ([] : List (S48)) ([] : List Int) ([] : List Int) (([y11, y11] : List (List (S76)))) (([1, 0, 1, 0, 0, 1] : List Int))).bind fun bt20 => (if (bt20.1.length : Int) = 1 then (if (bt20.2.2.2.1.length : Int) = 2 then (if 0 < (bt20.2.2.2.1.length : Int) then (if ((rd_L6 bt20.2.2.2.1 0).length : Int) = 1 then (if 1 < (bt20.2.2.2.1.length : Int) then (if ((rd_L6 bt20.2.2.2.1 1).length : Int) = 1 then (if 0 < ((rd_L6 bt20.2.2.2.1 0).length : Int) then (if (((rd_T73 (rd_L6 bt20.2.2.2.1 0) 0).f0) == 0 && (((rd_T73 (rd_L6 bt20.2.2.2.1 0) 0).f1) == 0)) = true then (if 0 < ((rd_L6 bt20.2.2.2.1 1).length : Int) then (if (((rd_T73 (rd_L6 bt20.2.2.2.1 1) 0).f0) == 0 && (((rd_T73 (rd_L6 bt20.2.2.2.1 1) 0).f1) == 0)) = true then (if (bt20.2.2.2.2.length : Int) = 6 then (if 2 < (bt20.2.2.2.2.length : Int) then (some (((rd_T68 bt20.2.2.2.2 2).f0) == 1 && (((rd_T68 bt20.2.2.2.2 2).f1) == 0 && (((rd_T68 bt20.2.2.2.2 2).f2) == 1)))) else (none)) else (some false)) else (some false)) else (none)) else (some false)) else (none)) else (some false)) else (none)) else (some false)) else (none)) else (some false)) else (some false))) = some r := by (have H2_ := (Option.bind_some _ _).symm.trans H; rw [hy11]; with_reducible exact H2_)
 have Ny11 := Aside0.mk hy11
 clear hy11
 obtain ⟨y14, hy14⟩ : ∃ y_ : List (List (S76)), y_ = (([y11, y11] : List (List (S76)))) := ⟨_, rfl⟩
 replace H : ((calls_Run.f k ([] : List (S48)) ([] : List Int) ([] : List Int) y14 (([1, 0, 1, 0, 0, 1] : List Int))).bind fun bt20 => (if (bt20.1.length : Int) = 1 then (if (bt20.2.2.2.1.length : Int) = 2 then (if 0 < (bt20.2.2.2.1.length : Int) then (if ((rd_L6 bt20.2.2.2.1 0).length : Int) = 1 then (if 1 < (bt20.2.2.2.1.length : Int) then (if ((rd_L6 bt20.2.2.2.1 1).length : Int) = 1 then (if 0 < ((rd_L6 bt20.2.2.2.1 0).length : Int) then (if (((rd_T73 (rd_L6 bt20.2.2.2.1 0) 0).f0) == 0 && (((rd_T73 (rd_L6 bt20.2.2.2.1 0) 0).f1) == 0)) = true then (if 0 < ((rd_L6 bt20.2.2.2.1 1).length : Int) then (if (((rd_T73 (rd_L6 bt20.2.2.2.1 1) 0).f0) == 0 && (((rd_T73 (rd_L6 bt20.2.2.2.1 1) 0).f1) == 0)) = true then (if (bt20.2.2.2.2.length : Int) = 6 then (if 2 < (bt20.2.2.2.2.length : Int) then (some (((rd_T68 bt20.2.2.2.2 2).f0) == 1 && (((rd_T68 bt20.2.2.2.2 2).f1) == 0 && (((rd_T68 bt20.2.2.2.2 2).f2) == 1)))) else (none)) else (some false)) else (some false)) else (none)) else (some false)) else (none)) else (some false)) else (none)) else (some false)) else (none)) else (some false)) else (some false))) = some r := by (rw [hy14]; with_reducible exact H)
 have Ny14 := Aside0.mk hy14
 clear hy14
 obtain ⟨y17, hy17⟩ : ∃ y_ : List Int, y_ = (([1, 0, 1, 0, 0, 1] : List Int)) := ⟨_, rfl⟩
 replace H : ((calls_Run.f k ([] : List (S48)) ([] : List Int) ([] : List Int) y14 y17).bind fun bt20 => (if (bt20.1.length : Int) = 1 then (if (bt20.2.2.2.1.length : Int) = 2 then (if 0 < (bt20.2.2.2.1.length : Int) then (if ((rd_L6 bt20.2.2.2.1 0).length : Int) = 1 then (if 1 < (bt20.2.2.2.1.length : Int) then (if ((rd_L6 bt20.2.2.2.1 1).length : Int) = 1 then (if 0 < ((rd_L6 bt20.2.2.2.1 0).length : Int) then (if (((rd_T73 (rd_L6 bt20.2.2.2.1 0) 0).f0) == 0 && (((rd_T73 (rd_L6 bt20.2.2.2.1 0) 0).f1) == 0)) = true then (if 0 < ((rd_L6 bt20.2.2.2.1 1).length : Int) then (if (((rd_T73 (rd_L6 bt20.2.2.2.1 1) 0).f0) == 0 && (((rd_T73 (rd_L6 bt20.2.2.2.1 1) 0).f1) == 0)) = true then (if (bt20.2.2.2.2.length : Int) = 6 then (if 2 < (bt20.2.2.2.2.length : Int) then (some (((rd_T68 bt20.2.2.2.2 2).f0) == 1 && (((rd_T68 bt20.2.2.2.2 2).f1) == 0 && (((rd_T68 bt20.2.2.2.2 2).f2) == 1)))) else (none)) else (some false)) else (some false)) else (none)) else (some false)) else (none)) else (some false)) else (none)) else (some false)) else (none)) else (some false)) else (some false))) = some r := by (rw [hy17]; with_reducible exact H)
 have Ny17 := Aside0.mk hy17
 clear hy17
 replace H := Option.bind_eq_some_iff.mp H
 obtain ⟨⟨t20, t23, t26, t29, t32⟩, A10, H⟩ := H
 replace H : (if (t20.length : Int) = 1 then (if (t29.length : Int) = 2 then (if 0 < (t29.length : Int) then (if ((rd_L6 t29 0).length : Int) = 1 then (if 1 < (t29.length : Int) then (if ((rd_L6 t29 1).length : Int) = 1 then (if 0 < ((rd_L6 t29 0).length : Int) then (if (((rd_T73 (rd_L6 t29 0) 0).f0) == 0 && (((rd_T73 (rd_L6 t29 0) 0).f1) == 0)) = true then (if 0 < ((rd_L6 t29 1).length : Int) then (if (((rd_T73 (rd_L6 t29 1) 0).f0) == 0 && (((rd_T73 (rd_L6 t29 1) 0).f1) == 0)) = true then (if (t32.length : Int) = 6 then (if 2 < (t32.length : Int) then (some (((rd_T68 t32 2).f0) == 1 && (((rd_T68 t32 2).f1) == 0 && (((rd_T68 t32 2).f2) == 1)))) else (none)) else (some false)) else (some false)) else (none)) else (some false)) else (none)) else (some false)) else (none)) else (some false)) else (none)) else (some false)) else (some false)) = some r := H
 have A1 := Aside0.mk A10
 clear A10
 by_cases c2 : (t20.length : Int) = 1
 ·rw [if_pos c2] at H
  have c2b0 : ((t20.length : Int) == 1) = true := beq_iff_eq.mpr c2
  have c2b1 : ((t20.length : Int) != 1) = false := bne_eq_false_iff_eq.mpr c2
  clear c2
  by_cases c3 : (t29.length : Int) = 2
  ·rw [if_pos c3] at H
   have c3b0 : ((t29.length : Int) == 2) = true := beq_iff_eq.mpr c3
   have c3b1 : ((t29.length : Int) != 2) = false := bne_eq_false_iff_eq.mpr c3
   clear c3
   by_cases c4 : 0 < (t29.length : Int)
   ·rw [if_pos c4] at H
    have c4b0 : decide (0 < (t29.length : Int)) = true := decide_eq_true c4
    have c4b1 : decide (0 < t29.length) = true := decide_eq_true (by omega)
    clear c4
    by_cases c5 : ((rd_L6 t29 0).length : Int) = 1
    ·rw [if_pos c5] at H
     have c5b0 : (((rd_L6 t29 0).length : Int) == 1) = true := beq_iff_eq.mpr c5
     have c5b1 : (((rd_L6 t29 0).length : Int) != 1) = false := bne_eq_false_iff_eq.mpr c5
     clear c5
     by_cases c6 : 1 < (t29.length : Int)
     ·rw [if_pos c6] at H
      have c6b0 : decide (1 < (t29.length : Int)) = true := decide_eq_true c6
      have c6b1 : decide (1 < t29.length) = true := decide_eq_true (by omega)
      clear c6
      by_cases c7 : ((rd_L6 t29 1).length : Int) = 1
      ·rw [if_pos c7] at H
       have c7b0 : (((rd_L6 t29 1).length : Int) == 1) = true := beq_iff_eq.mpr c7
       have c7b1 : (((rd_L6 t29 1).length : Int) != 1) = false := bne_eq_false_iff_eq.mpr c7
       clear c7
       by_cases c8 : 0 < ((rd_L6 t29 0).length : Int)
       ·rw [if_pos c8] at H
        have c8b0 : decide (0 < ((rd_L6 t29 0).length : Int)) = true := decide_eq_true c8
        have c8b1 : decide (0 < (rd_L6 t29 0).length) = true := decide_eq_true (by omega)
        clear c8
        by_cases c9 : (((rd_T73 (rd_L6 t29 0) 0).f0) == 0 && (((rd_T73 (rd_L6 t29 0) 0).f1) == 0)) = true
        ·rw [if_pos c9] at H
         have c9b0 : (((rd_T73 (rd_L6 t29 0) 0).f0) == 0 && (((rd_T73 (rd_L6 t29 0) 0).f1) == 0)) = true := c9
         (try (have c9b1 : decide (((rd_T73 (rd_L6 t29 0) 0).f0) = 0 && (((rd_T73 (rd_L6 t29 0) 0).f1) == 0)) = true := by simpa using c9))
         (try (have c9b2 : (((rd_T73 (rd_L6 t29 0) 0).f0) == 0 && (((rd_T73 (rd_L6 t29 0) 0).f1) == 0)) = true := by simpa using c9))
         clear c9
         by_cases c10 : 0 < ((rd_L6 t29 1).length : Int)
         ·rw [if_pos c10] at H
          have c10b0 : decide (0 < ((rd_L6 t29 1).length : Int)) = true := decide_eq_true c10
          have c10b1 : decide (0 < (rd_L6 t29 1).length) = true := decide_eq_true (by omega)
          clear c10
          by_cases c11 : (((rd_T73 (rd_L6 t29 1) 0).f0) == 0 && (((rd_T73 (rd_L6 t29 1) 0).f1) == 0)) = true
          ·rw [if_pos c11] at H
           have c11b0 : (((rd_T73 (rd_L6 t29 1) 0).f0) == 0 && (((rd_T73 (rd_L6 t29 1) 0).f1) == 0)) = true := c11
           (try (have c11b1 : decide (((rd_T73 (rd_L6 t29 1) 0).f0) = 0 && (((rd_T73 (rd_L6 t29 1) 0).f1) == 0)) = true := by simpa using c11))
           (try (have c11b2 : (((rd_T73 (rd_L6 t29 1) 0).f0) == 0 && (((rd_T73 (rd_L6 t29 1) 0).f1) == 0)) = true := by simpa using c11))
           clear c11
           by_cases c12 : (t32.length : Int) = 6
           ·rw [if_pos c12] at H
            have c12b0 : ((t32.length : Int) == 6) = true := beq_iff_eq.mpr c12
            have c12b1 : ((t32.length : Int) != 6) = false := bne_eq_false_iff_eq.mpr c12
            clear c12
            by_cases c13 : 2 < (t32.length : Int)
            ·rw [if_pos c13] at H
             have c13b0 : decide (2 < (t32.length : Int)) = true := decide_eq_true c13
             have c13b1 : decide (2 < t32.length) = true := decide_eq_true (by omega)
             clear c13
             obtain rfl := Option.some.inj H
             go_enter Try.func56, Try.ntmps56
             go_wp2_with (first | ((with_reducible refine gate_dst (N := 6) rfl ?_); (try (refine gate_guard (by rfl) ?_; dsimp only)); refine Kd.R_lit k76 _ 76 ?hg (N := 6) ?hd (xs := ([(⟨0, (⟨false, 0, 0, 0⟩ : S48), (-1), 0⟩ : S76)] : List (S76))) (inner := [.int .i64 0, .bool false, .int .i64 0, .int .i64 0, .int .i64 0, .int .i64 (-1), .int .i64 0]) (ok := fun _ => True) (okp := fun _ => True) ?hr ?hp (fun _ hk => hk) trivial (Below.refl _ _) (Nat.le_refl _) (by simp) ?_; (case hd => rfl); (case hg => rfl); (case hr => first | (go_simp; done) ); (case hp => exact (Reps.c7 (show Kd.M k76 _ _ _ (⟨0, (⟨false, 0, 0, 0⟩ : S48), (-1), 0⟩ : S76) [.int .i64 0, .bool false, .int .i64 0, .int .i64 0, .int .i64 0, .int .i64 (-1), .int .i64 0] from (k76_mkM _ _ _ (⟨0, (⟨false, 0, 0, 0⟩ : S48), (-1), 0⟩ : S76) )) (Reps.none _ _))); intro v12 w14 ho15 hb hg_ hnew_; clear hg_ hnew_; (rw [← Ny11.out] at ho15); have HO13 := Aside0.mk (Kd.R_lower ho15 (below_size (by repeat ((with_reducible first | exact HB.out ))))); replace HB := Aside0.mk (below_step (by repeat ((with_reducible first | exact HB.out ))) hb); clear hb ho15; obtain ⟨Ao16, co16, eo16⟩ := Kd.R_slice HO13.out; subst eo16) | ((with_reducible refine gate_dst (N := 11) rfl ?_); (try (refine gate_guard (by rfl) ?_; dsimp only)); refine Kd.N_lit (Kd.slice 76 k76) _ 66 ?hg (N' := 11) ?hd (xs := ([y11, y11] : List (List (S76)))) (inner := [.slice Ao16 y11.length co16, .slice Ao16 y11.length co16]) (ok := (fun _ => True)) (okp := (fun _ => True)) ?hr ?hp (fun _ hk => hk) ((show ∀ k_, w14.heap.size ≤ k_ → (fun _ => True) k_ from fun k_ hk => trivial) _ (Nat.le_refl _)) (Below.refl _ _) (Nat.le_refl _) (by simp) ?_; (case hd => rfl); (case hg => rfl); (case hr => first | (go_simp; done) ); (case hp => exact (Reps.one (show Kd.FK (Kd.slice 76 k76) _ _ y11 [.slice Ao16 y11.length co16] from (Kd.FK_slice_mk (Kd.R_reads' (Kd.R_mono (ok' := (fun _ => True)) (HO13.out) (fun k_ hk => trivial))).2.1 (Kd.R_F (Kd.R_mono (ok' := (fun _ => True)) (HO13.out) (fun k_ hk => trivial))))) (Reps.one (show Kd.FK (Kd.slice 76 k76) _ _ y11 [.slice Ao16 y11.length co16] from (Kd.FK_slice_mk (Kd.R_reads' (Kd.R_mono (ok' := (fun _ => True)) (HO13.out) (fun k_ hk => trivial))).2.1 (Kd.R_F (Kd.R_mono (ok' := (fun _ => True)) (HO13.out) (fun k_ hk => trivial))))) (Reps.none _ _)))); intro v15 w17 ho18 hb hg_ hnew_; clear hg_ hnew_; (rw [← Ny14.out] at ho18); have HO16 := Aside0.mk (Kd.N_lower ho18 (below_size (by repeat ((with_reducible first | exact HB.out ))))); replace HB := Aside0.mk (below_step (by repeat ((with_reducible first | exact HB.out ))) hb); clear HO13; clear hb ho18) | ((with_reducible refine gate_dst (N := 12) rfl ?_); (try (refine gate_guard (by rfl) ?_; dsimp only)); refine Kd.R_lit (Kd.int .i64) _ 3 ?hg (N := 12) ?hd (xs := ([1, 0, 1, 0, 0, 1] : List Int)) (inner := [.int .i64 1, .int .i64 0, .int .i64 1, .int .i64 0, .int .i64 0, .int .i64 1]) (ok := fun _ => True) (okp := fun _ => True) ?hr ?hp (fun _ hk => hk) trivial (Below.refl _ _) (Nat.le_refl _) (by simp) ?_; (case hd => rfl); (case hg => rfl); (case hr => first | (go_simp; done) ); (case hp => exact (Reps.one (show Kd.M (Kd.int .i64) _ _ _ 1 [.int .i64 1] from rfl) (Reps.one (show Kd.M (Kd.int .i64) _ _ _ 0 [.int .i64 0] from rfl) (Reps.one (show Kd.M (Kd.int .i64) _ _ _ 1 [.int .i64 1] from rfl) (Reps.one (show Kd.M (Kd.int .i64) _ _ _ 0 [.int .i64 0] from rfl) (Reps.one (show Kd.M (Kd.int .i64) _ _ _ 0 [.int .i64 0] from rfl) (Reps.one (show Kd.M (Kd.int .i64) _ _ _ 1 [.int .i64 1] from rfl) (Reps.none _ _)))))))); intro v18 w19 ho20 hb hg_ hnew_; clear hg_ hnew_; (rw [← Ny17.out] at ho20); replace HO16 := Aside0.mk (Kd.N_elder' (by (with_reducible repeat (first | apply Kd.N_alloc | apply Kd.N_drewN | apply Kd.N_drew)); exact HO16.out) (Kd.R_base ho20) hb); have HO19 := Aside0.mk (Kd.R_lower ho20 (below_size (by repeat ((with_reducible first | exact HB.out ))))); replace HB := Aside0.mk (below_step (by repeat ((with_reducible first | exact HB.out ))) hb); clear hb ho20; obtain ⟨Ao21, co21, eo21⟩ := Kd.N_slice HO16.out; subst eo21; obtain ⟨Ao22, co22, eo22⟩ := Kd.R_slice HO19.out; subst eo22) | ((with_reducible refine gate_callee (f := 59) rfl ?_); refine goesL_ (some 13) rfl rfl Try.func59 (by kernel_rfl) rfl #[.agg #[.slice none 0 0, .slice none 0 0, .slice none 0 0], .slice Ao21 y14.length co21, .slice Ao22 y17.length co22] rfl (by (try simp only [List.map_toArray, List.map_cons, List.map_nil]); first | rfl ) ?_; (refine (calls_Run.calls k _ _ ([] : List (S48)) _ _ ([] : List Int) _ _ ([] : List Int) _ _ y14 _ _ y17 t20 t23 t26 t29 t32 _ ?side1 ?side2 ?side3 ?side4 ?side5 ?side6 ?side7 ?side8 ?side9 ?side10 A1.out).mono ?_); (case side1 => exact Kd.C_nil _ _); (case side2 => exact Nat.le_refl _); (case side3 => exact Kd.C_nil _ _); (case side4 => exact Nat.le_refl _); (case side5 => exact Kd.C_nil _ _); (case side6 => exact Nat.le_refl _); (case side7 => repeat (exact (Kd.N_reads' HO16.out).2.2)); (case side8 => exact (Kd.N_reads' HO16.out).2.1); (case side9 => repeat (exact (Kd.R_reads' HO19.out).2.2)); (case side10 => exact (Kd.R_reads' HO19.out).2.1); rintro e w23 ⟨v21, v24, v27, v30, v33, rfl, ho0, ho1, ho2, ho3, ho4, hb⟩; refine ⟨_, rfl, ?_⟩; have HO22 := Aside0.mk (Kd.R_lower ho0 (below_size (by repeat ((with_reducible first | exact HB.out ))))); have HO25 := Aside0.mk (Kd.R_lower (Kd.R_new' ho1 (Kd.R_lt (by (with_reducible repeat (first | apply Kd.R_alloc | apply Kd.R_drewN | apply Kd.R_drew)); exact HO19.out))) (below_size (by repeat ((with_reducible first | exact HB.out ))))); have HO28 := Aside0.mk (Kd.R_lower (Kd.R_new' ho2 (Kd.R_lt (by (with_reducible repeat (first | apply Kd.R_alloc | apply Kd.R_drewN | apply Kd.R_drew)); exact HO19.out))) (below_size (by repeat ((with_reducible first | exact HB.out ))))); have HO31 := Aside0.mk (Kd.N_lower (Kd.N_mono (ok' := fun k_ => some k_ ≠ (v21 : Value).ownBlock ∧ some k_ ≠ (v24 : Value).ownBlock ∧ some k_ ≠ (v27 : Value).ownBlock ∧ some k_ ≠ (v33 : Value).ownBlock ∧ some k_ ≠ (.slice Ao21 y14.length co21 : Value).ownBlock ∧ some k_ ≠ (.slice Ao22 y17.length co22 : Value).ownBlock) (Kd.S_N (Kd.S_bound (Kd.S_apart' (Kd.S_apart' (Kd.S_apart' (Kd.S_apart' ho3 (Kd.R_typed ho0) (by decide)) (Kd.R_typed ho1) (by decide)) (Kd.R_typed ho2) (by decide)) (Kd.R_typed ho4) (by decide)))) (fun k_ hk_ => ⟨hk_.1.1.1.1.2, hk_.1.1.1.2, hk_.1.1.2, hk_.1.2, (Kd.fresh' (Kd.N_lt (by (with_reducible repeat (first | apply Kd.N_alloc | apply Kd.N_drewN | apply Kd.N_drew)); exact HO16.out)) k_ hk_.2.1), (Kd.fresh' (Kd.R_lt (by (with_reducible repeat (first | apply Kd.R_alloc | apply Kd.R_drewN | apply Kd.R_drew)); exact HO19.out)) k_ hk_.2.1)⟩)) (below_size (by repeat ((with_reducible first | exact HB.out ))))); replace HO16 := Aside0.mk (Kd.N_mono (Kd.N_told (Kd.N_told (Kd.N_told (Kd.N_told (Kd.N_told (Kd.N_old (by (with_reducible repeat (first | apply Kd.N_alloc | apply Kd.N_drewN | apply Kd.N_drew)); exact HO16.out) hb) (Kd.R_base ho0)) (Kd.R_base ho1)) (Kd.R_base ho2)) (Kd.R_base (Kd.S_R ho3))) (Kd.R_base ho4)) (fun _ h_ => h_.1)); replace HO19 := Aside0.mk (Kd.R_mono (Kd.R_told (Kd.R_told (Kd.R_old (by (with_reducible repeat (first | apply Kd.R_alloc | apply Kd.R_drewN | apply Kd.R_drew)); exact HO19.out) hb) (Kd.R_base ho1)) (Kd.R_base ho2)) (fun _ h_ => h_.1)); have HO34 := Aside0.mk (Kd.R_lower ho4 (below_size (by repeat ((with_reducible first | exact HB.out ))))); replace HB := Aside0.mk (below_step (by repeat ((with_reducible first | exact HB.out ))) hb); (try clear hb); (try clear ho0); (try clear ho1); (try clear ho2); (try clear ho3); (try clear ho4)) | ((with_reducible refine gate_dst (N := 2) rfl ?_); (try (refine gate_guard (by rfl) ?_; dsimp only)); refine box_event ?hg (N := 2) ?hd (cs := #[.slice none 0 0, .slice none 0 0, .slice none 0 0]) (t := 38) ?hr ?_; (case hd => rfl); (case hg => rfl); (case hr => first | (go_simp; done) ); intro gb35 hg w24 hbox hb; replace HO16 := Aside0.mk (Kd.N_below (Kd.N_elderB (by (with_reducible repeat (first | apply Kd.N_alloc | apply Kd.N_drewN | apply Kd.N_drew)); exact HO16.out) gb35 (Nat.le_of_eq hg.symm)) hb); replace HO19 := Aside0.mk (Kd.R_below (by (with_reducible repeat (first | apply Kd.R_alloc | apply Kd.R_drewN | apply Kd.R_drew)); exact HO19.out) hb); replace HO22 := Aside0.mk (Kd.R_below (by (with_reducible repeat (first | apply Kd.R_alloc | apply Kd.R_drewN | apply Kd.R_drew)); exact HO22.out) hb); replace HO25 := Aside0.mk (Kd.R_below (by (with_reducible repeat (first | apply Kd.R_alloc | apply Kd.R_drewN | apply Kd.R_drew)); exact HO25.out) hb); replace HO28 := Aside0.mk (Kd.R_below (by (with_reducible repeat (first | apply Kd.R_alloc | apply Kd.R_drewN | apply Kd.R_drew)); exact HO28.out) hb); replace HO31 := Aside0.mk (Kd.N_below (Kd.N_elderB (by (with_reducible repeat (first | apply Kd.N_alloc | apply Kd.N_drewN | apply Kd.N_drew)); exact HO31.out) gb35 (Nat.le_of_eq hg.symm)) hb); replace HO34 := Aside0.mk (Kd.R_below (by (with_reducible repeat (first | apply Kd.R_alloc | apply Kd.R_drewN | apply Kd.R_drew)); exact HO34.out) hb); have BK35 := Aside0.mk (hbox); have GW35 := Aside0.mk ((by rw [hg]; exact (below_size (by repeat ((with_reducible first | exact HB.out )))) : w.heap.size ≤ gb35)); have GE35 := Aside0.mk ((by rw [hg]; exact (below_size (by repeat ((with_reducible first | exact HB.out )))) : w.heap.size ≤ gb35)); replace HB := Aside0.mk (below_step (by repeat ((with_reducible first | exact HB.out ))) hb); clear hb hbox hg; obtain ⟨Ao25, co25, eo25⟩ := Kd.R_slice HO22.out; subst eo25; obtain ⟨hcz26_0, hcz26_1, hcz26_2, hfz26_0, hfz26_1, hfz26_2⟩ := bk3 BK35.out; obtain ⟨Ao27, co27, eo27⟩ := Kd.R_slice HO25.out; subst eo27; obtain ⟨Ao28, co28, eo28⟩ := Kd.R_slice HO28.out; subst eo28) | ((with_reducible refine gate_store (t := 38) (p := 2) rfl ?_); refine store_event (t := 38) (p := 2) (v := ?vo_w29) (w1 := (((w24.setCell ⟨gb35, 0, none⟩ (.slice Ao25 t20.length co25)).setCell ⟨gb35, 1, none⟩ (.slice Ao27 t23.length co27)).setCell ⟨gb35, 2, none⟩ (.slice Ao28 t26.length co28))) ?hg ?ho ?hn ?hr ?_; (case ho => rfl); (case hg => rfl); (case hn => rfl); (case hr => first | (go_simp; done) ); intro w29 hw; have n0_ : Aside0 (Kd.N (Kd.slice 76 k76) 66 w29 w.heap.size (fun k_ => some k_ ≠ (.slice Ao22 y17.length co22 : Value).ownBlock ∧ some k_ ≠ (.slice Ao25 t20.length co25 : Value).ownBlock ∧ some k_ ≠ (.slice Ao27 t23.length co27 : Value).ownBlock ∧ some k_ ≠ (.slice Ao28 t26.length co28 : Value).ownBlock ∧ some k_ ≠ (v30 : Value).ownBlock ∧ some k_ ≠ (v33 : Value).ownBlock ∧ k_ ≠ gb35) (.slice Ao21 y14.length co21) y14) := ⟨(by rw [hw]; exact (by (with_reducible repeat (first | apply Kd.N_alloc | apply Kd.N_drewN | apply Kd.N_drew)); exact Kd.N_mono (Kd.N_far (p := ⟨gb35, 2, none⟩) (Kd.N_far (p := ⟨gb35, 1, none⟩) (Kd.N_far (p := ⟨gb35, 0, none⟩) (Kd.N_mono HO16.out (fun k_ hk => (⟨hk, hk.2⟩ : _ ∧ k_ ≠ gb35))) (fun _ hk => hk.2) (.slice Ao25 t20.length co25)) (fun _ hk => hk.2) (.slice Ao27 t23.length co27)) (fun _ hk => hk.2) (.slice Ao28 t26.length co28)) (fun _ hk => ⟨hk.1.1.1.1.1.1.1.2, ⟨hk.1.1.1.1.1.1.2, ⟨hk.1.1.1.1.1.2, ⟨hk.1.1.1.1.2, ⟨hk.1.1.1.2, ⟨hk.1.1.2, hk.1.2⟩⟩⟩⟩⟩⟩)))⟩; have n1_ : Aside0 (Kd.R (Kd.int .i64) 3 w29 w.heap.size (fun k_ => some k_ ≠ (.slice Ao27 t23.length co27 : Value).ownBlock ∧ some k_ ≠ (.slice Ao28 t26.length co28 : Value).ownBlock) (.slice Ao22 y17.length co22) y17) := ⟨(by rw [hw]; exact (by (with_reducible repeat (first | apply Kd.R_alloc | apply Kd.R_drewN | apply Kd.R_drew)); exact Kd.R_mono (Kd.R_far (p := ⟨gb35, 2, none⟩) (Kd.R_far (p := ⟨gb35, 1, none⟩) (Kd.R_far (p := ⟨gb35, 0, none⟩) (Kd.R_types HO19.out BK35.out (by decide)) (fun _ hk => hk.2) (.slice Ao25 t20.length co25)) (fun _ hk => hk.2) (.slice Ao27 t23.length co27)) (fun _ hk => hk.2) (.slice Ao28 t26.length co28)) (fun _ hk => ⟨hk.1.1.2, hk.1.2⟩)))⟩; have n2_ : Aside0 (Kd.R k48 48 w29 w.heap.size (fun _ => True) (.slice Ao25 t20.length co25) t20) := ⟨(by rw [hw]; exact (by (with_reducible repeat (first | apply Kd.R_alloc | apply Kd.R_drewN | apply Kd.R_drew)); exact Kd.R_mono (Kd.R_far (p := ⟨gb35, 2, none⟩) (Kd.R_far (p := ⟨gb35, 1, none⟩) (Kd.R_far (p := ⟨gb35, 0, none⟩) (Kd.R_types HO22.out BK35.out (by decide)) (fun _ hk => hk.2) (.slice Ao25 t20.length co25)) (fun _ hk => hk.2) (.slice Ao27 t23.length co27)) (fun _ hk => hk.2) (.slice Ao28 t26.length co28)) (fun _ hk => trivial)))⟩; have n3_ : Aside0 (Kd.R (Kd.int .i64) 3 w29 w.heap.size (fun k_ => some k_ ≠ (.slice Ao22 y17.length co22 : Value).ownBlock ∧ some k_ ≠ (.slice Ao28 t26.length co28 : Value).ownBlock) (.slice Ao27 t23.length co27) t23) := ⟨(by rw [hw]; exact (by (with_reducible repeat (first | apply Kd.R_alloc | apply Kd.R_drewN | apply Kd.R_drew)); exact Kd.R_mono (Kd.R_far (p := ⟨gb35, 2, none⟩) (Kd.R_far (p := ⟨gb35, 1, none⟩) (Kd.R_far (p := ⟨gb35, 0, none⟩) (Kd.R_types HO25.out BK35.out (by decide)) (fun _ hk => hk.2) (.slice Ao25 t20.length co25)) (fun _ hk => hk.2) (.slice Ao27 t23.length co27)) (fun _ hk => hk.2) (.slice Ao28 t26.length co28)) (fun _ hk => ⟨hk.1.2, hk.1.1⟩)))⟩; have n4_ : Aside0 (Kd.R (Kd.int .i64) 3 w29 w.heap.size (fun k_ => some k_ ≠ (.slice Ao22 y17.length co22 : Value).ownBlock ∧ some k_ ≠ (.slice Ao27 t23.length co27 : Value).ownBlock) (.slice Ao28 t26.length co28) t26) := ⟨(by rw [hw]; exact (by (with_reducible repeat (first | apply Kd.R_alloc | apply Kd.R_drewN | apply Kd.R_drew)); exact Kd.R_mono (Kd.R_far (p := ⟨gb35, 2, none⟩) (Kd.R_far (p := ⟨gb35, 1, none⟩) (Kd.R_far (p := ⟨gb35, 0, none⟩) (Kd.R_types HO28.out BK35.out (by decide)) (fun _ hk => hk.2) (.slice Ao25 t20.length co25)) (fun _ hk => hk.2) (.slice Ao27 t23.length co27)) (fun _ hk => hk.2) (.slice Ao28 t26.length co28)) (fun _ hk => ⟨hk.1.2, hk.1.1⟩)))⟩; have n5_ : Aside0 (Kd.N (Kd.slice 73 k73) 71 w29 w.heap.size (fun k_ => some k_ ≠ (.slice Ao21 y14.length co21 : Value).ownBlock ∧ some k_ ≠ (.slice Ao22 y17.length co22 : Value).ownBlock ∧ some k_ ≠ (.slice Ao25 t20.length co25 : Value).ownBlock ∧ some k_ ≠ (.slice Ao27 t23.length co27 : Value).ownBlock ∧ some k_ ≠ (.slice Ao28 t26.length co28 : Value).ownBlock ∧ some k_ ≠ (v33 : Value).ownBlock ∧ k_ ≠ gb35) v30 t29) := ⟨(by rw [hw]; exact (by (with_reducible repeat (first | apply Kd.N_alloc | apply Kd.N_drewN | apply Kd.N_drew)); exact Kd.N_mono (Kd.N_far (p := ⟨gb35, 2, none⟩) (Kd.N_far (p := ⟨gb35, 1, none⟩) (Kd.N_far (p := ⟨gb35, 0, none⟩) (Kd.N_mono HO31.out (fun k_ hk => (⟨hk, hk.2⟩ : _ ∧ k_ ≠ gb35))) (fun _ hk => hk.2) (.slice Ao25 t20.length co25)) (fun _ hk => hk.2) (.slice Ao27 t23.length co27)) (fun _ hk => hk.2) (.slice Ao28 t26.length co28)) (fun _ hk => ⟨hk.1.1.2.2.2.2.1, ⟨hk.1.1.2.2.2.2.2, ⟨hk.1.1.1, ⟨hk.1.1.2.1, ⟨hk.1.1.2.2.1, ⟨hk.1.1.2.2.2.1, hk.1.2⟩⟩⟩⟩⟩⟩)))⟩; have n6_ : Aside0 (Kd.R k68 68 w29 w.heap.size (fun _ => True) v33 t32) := ⟨(by rw [hw]; exact (by (with_reducible repeat (first | apply Kd.R_alloc | apply Kd.R_drewN | apply Kd.R_drew)); exact Kd.R_mono (Kd.R_far (p := ⟨gb35, 2, none⟩) (Kd.R_far (p := ⟨gb35, 1, none⟩) (Kd.R_far (p := ⟨gb35, 0, none⟩) (Kd.R_types HO34.out BK35.out (by decide)) (fun _ hk => hk.2) (.slice Ao25 t20.length co25)) (fun _ hk => hk.2) (.slice Ao27 t23.length co27)) (fun _ hk => hk.2) (.slice Ao28 t26.length co28)) (fun _ hk => trivial)))⟩; have n7_ : Aside0 (w29.heap[gb35]? = some (.cells #[.slice Ao25 t20.length co25, .slice Ao27 t23.length co27, .slice Ao28 t26.length co28] 38 (0, 0))) := ⟨(by rw [hw]; exact (by (with_reducible repeat (first | refine blk_drewN ?_ _ | refine blk_drew ?_ | refine blk_alloc ?_ _)); refine blk_put (cs := #[.slice Ao25 t20.length co25, .slice Ao27 t23.length co27, .slice none 0 0]) ?_ 2 _ rfl; (with_reducible repeat (first | refine blk_drewN ?_ _ | refine blk_drew ?_ | refine blk_alloc ?_ _)); refine blk_put (cs := #[.slice Ao25 t20.length co25, .slice none 0 0, .slice none 0 0]) ?_ 1 _ rfl; (with_reducible repeat (first | refine blk_drewN ?_ _ | refine blk_drew ?_ | refine blk_alloc ?_ _)); refine blk_put (cs := #[.slice none 0 0, .slice none 0 0, .slice none 0 0]) ?_ 0 _ rfl; (with_reducible repeat (first | refine blk_drewN ?_ _ | refine blk_drew ?_ | refine blk_alloc ?_ _)); exact BK35.out))⟩; have n8_ : Aside0 (Below w.heap.size w w29) := ⟨(by rw [hw]; exact (by repeat ((with_reducible first | exact HB.out | refine below_set ?_ GE35.out))))⟩; clear hw; clear HO16; clear HO19; clear HO22; clear HO25; clear HO28; clear HO31; clear HO34; clear BK35; clear HB; have HO16 := n0_; have HO19 := n1_; have HO22 := n2_; have HO25 := n3_; have HO28 := n4_; have HO31 := n5_; have HO34 := n6_; have BK35 := n7_; have HB := n8_; clear n0_ n1_ n2_ n3_ n4_ n5_ n6_ n7_ n8_; obtain ⟨hcz30_0, hcz30_1, hcz30_2, hfz30_0, hfz30_1, hfz30_2⟩ := bk3 BK35.out; obtain ⟨Ao31, co31, eo31⟩ := Kd.N_slice HO31.out; subst eo31; have p36 : 0 ≤ (0 : Int) := (by omega); have q36 : 0 < (t29.length : Int) := of_decide_eq_true (by (with_reducible assumption)); obtain ⟨ad36, A36_0, c36_0, e36, hx36_0, hl36_0, hi36_0⟩ := at_L6 (Kd.N_reads' HO31.out).2.2 0 p36 q36; cases e36; obtain ⟨ce36, hce36, hMe36, hcc36⟩ := Kd.N_get HO31.out [] 0 p36 (by exact q36); obtain ⟨ua36_0, uc36_0, rfl, ul36_0, ge36_0⟩ := Kd.FK_slice_open hMe36; have hv36_0 := hcc36 0 _ rfl; rw [Nat.add_zero, show ((Kd.slice 73 k73)).sz = 1 from rfl, Nat.mul_one] at hv36_0; replace hv36_0 := Option.some.inj (hv36_0.symm.trans hx36_0); injection hv36_0 with hva_ hvn_ hvc_; rw [hva_] at ge36_0; rw [hvc_] at ul36_0; have HL36_0 := Aside0.mk (show Kd.V k73 73 _ w.heap.size _ _ (rd_L6 t29 0) from Kd.V_mk ul36_0 ge36_0); clear hva_ hvn_ hvc_ ge36_0 ul36_0; clear hcc36 hce36; have qi36 : (0 < t29.length) = True := eq_true (by omega); (try rw [show ((0 : Int)).toNat = 0 from rfl] at hx36_0); (try rw [Addr.add_zero'] at hx36_0); have HR36_0 := Aside0.mk hi36_0; have HC36_0 := Aside0.mk hl36_0; clear hi36_0 hl36_0; replace p36 := eq_true p36; replace q36 := eq_true q36; have p37 : 0 ≤ (1 : Int) := (by omega); have q37 : 1 < (t29.length : Int) := of_decide_eq_true (by (with_reducible assumption)); obtain ⟨ad37, A37_0, c37_0, e37, hx37_0, hl37_0, hi37_0⟩ := at_L6 (Kd.N_reads' HO31.out).2.2 1 p37 q37; obtain rfl : ad36 = ad37 := (by injection e37); obtain ⟨ce37, hce37, hMe37, hcc37⟩ := Kd.N_get HO31.out [] 1 p37 (by exact q37); obtain ⟨ua37_0, uc37_0, rfl, ul37_0, ge37_0⟩ := Kd.FK_slice_open hMe37; have hv37_0 := hcc37 0 _ rfl; rw [Nat.add_zero, show ((Kd.slice 73 k73)).sz = 1 from rfl, Nat.mul_one] at hv37_0; replace hv37_0 := Option.some.inj (hv37_0.symm.trans hx37_0); injection hv37_0 with hva_ hvn_ hvc_; rw [hva_] at ge37_0; rw [hvc_] at ul37_0; have HL37_0 := Aside0.mk (show Kd.V k73 73 _ w.heap.size _ _ (rd_L6 t29 1) from Kd.V_mk ul37_0 ge37_0); clear hva_ hvn_ hvc_ ge37_0 ul37_0; clear hcc37 hce37; (try simp only [show (1 : Int).toNat = 1 from rfl, Nat.reduceMul, Nat.reduceEqDiff, Go.Addr.add, ↓reduceIte] at hx37_0); have qi37 : (1 < t29.length) = True := eq_true (by omega); have HR37_0 := Aside0.mk hi37_0; have HC37_0 := Aside0.mk hl37_0; clear hi37_0 hl37_0; replace p37 := eq_true p37; replace q37 := eq_true q37; have p38 : 0 ≤ (0 : Int) := (by omega); have q38 : 0 < (t29.length : Int) := of_decide_eq_true (by (with_reducible assumption)); obtain ⟨ad38, A38_0, c38_0, e38, hx38_0, hl38_0, hi38_0⟩ := at_L6 (Kd.N_reads' HO31.out).2.2 0 p38 q38; obtain rfl : ad36 = ad38 := (by injection e38); obtain ⟨ce38, hce38, hMe38, hcc38⟩ := Kd.N_get HO31.out [] 0 p38 (by exact q38); obtain ⟨ua38_0, uc38_0, rfl, ul38_0, ge38_0⟩ := Kd.FK_slice_open hMe38; have hv38_0 := hcc38 0 _ rfl; rw [Nat.add_zero, show ((Kd.slice 73 k73)).sz = 1 from rfl, Nat.mul_one] at hv38_0; replace hv38_0 := Option.some.inj (hv38_0.symm.trans hx38_0); injection hv38_0 with hva_ hvn_ hvc_; rw [hva_] at ge38_0; rw [hvc_] at ul38_0; have HL38_0 := Aside0.mk (show Kd.V k73 73 _ w.heap.size _ _ (rd_L6 t29 0) from Kd.V_mk ul38_0 ge38_0); clear hva_ hvn_ hvc_ ge38_0 ul38_0; clear hcc38 hce38; have qi38 : (0 < t29.length) = True := eq_true (by omega); (try rw [show ((0 : Int)).toNat = 0 from rfl] at hx38_0); (try rw [Addr.add_zero'] at hx38_0); have HR38_0 := Aside0.mk hi38_0; have HC38_0 := Aside0.mk hl38_0; clear hi38_0 hl38_0; replace p38 := eq_true p38; replace q38 := eq_true q38; have ea_ := Option.some.inj (hx36_0.symm.trans hx38_0); injection ea_ with ea_ en_ ec_; subst ea_; subst ec_; clear en_; have p39 : 0 ≤ (0 : Int) := (by omega); have q39 : 0 < ((rd_L6 t29 0).length : Int) := of_decide_eq_true (by (with_reducible assumption)); obtain ⟨ad39, e39, hx39_0, hx39_1⟩ := at_T73 (by repeat ((with_reducible exact HR38_0.out))) 0 p39 q39; cases e39; have qi39 : (0 < (rd_L6 t29 0).length) = True := eq_true (by omega); (try rw [show ((0 : Int)).toNat = 0 from rfl] at hx39_0); (try rw [show 0 * 2 = 0 from rfl] at hx39_0); (try rw [Addr.add_zero'] at hx39_0); (try rw [show ((0 : Int)).toNat = 0 from rfl] at hx39_1); (try rw [show 0 * 2 = 0 from rfl] at hx39_1); (try rw [Addr.add_zero'] at hx39_1); replace p39 := eq_true p39; replace q39 := eq_true q39; have p40 : 0 ≤ (1 : Int) := (by omega); have q40 : 1 < (t29.length : Int) := of_decide_eq_true (by (with_reducible assumption)); obtain ⟨ad40, A40_0, c40_0, e40, hx40_0, hl40_0, hi40_0⟩ := at_L6 (Kd.N_reads' HO31.out).2.2 1 p40 q40; obtain rfl : ad36 = ad40 := (by injection e40); obtain ⟨ce40, hce40, hMe40, hcc40⟩ := Kd.N_get HO31.out [] 1 p40 (by exact q40); obtain ⟨ua40_0, uc40_0, rfl, ul40_0, ge40_0⟩ := Kd.FK_slice_open hMe40; have hv40_0 := hcc40 0 _ rfl; rw [Nat.add_zero, show ((Kd.slice 73 k73)).sz = 1 from rfl, Nat.mul_one] at hv40_0; replace hv40_0 := Option.some.inj (hv40_0.symm.trans hx40_0); injection hv40_0 with hva_ hvn_ hvc_; rw [hva_] at ge40_0; rw [hvc_] at ul40_0; have HL40_0 := Aside0.mk (show Kd.V k73 73 _ w.heap.size _ _ (rd_L6 t29 1) from Kd.V_mk ul40_0 ge40_0); clear hva_ hvn_ hvc_ ge40_0 ul40_0; clear hcc40 hce40; (try simp only [show (1 : Int).toNat = 1 from rfl, Nat.reduceMul, Nat.reduceEqDiff, Go.Addr.add, ↓reduceIte] at hx40_0); have qi40 : (1 < t29.length) = True := eq_true (by omega); have HR40_0 := Aside0.mk hi40_0; have HC40_0 := Aside0.mk hl40_0; clear hi40_0 hl40_0; replace p40 := eq_true p40; replace q40 := eq_true q40; have ea_ := Option.some.inj (hx37_0.symm.trans hx40_0); injection ea_ with ea_ en_ ec_; subst ea_; subst ec_; clear en_; have p41 : 0 ≤ (0 : Int) := (by omega); have q41 : 0 < ((rd_L6 t29 1).length : Int) := of_decide_eq_true (by (with_reducible assumption)); obtain ⟨ad41, e41, hx41_0, hx41_1⟩ := at_T73 (by repeat ((with_reducible exact HR40_0.out))) 0 p41 q41; cases e41; have qi41 : (0 < (rd_L6 t29 1).length) = True := eq_true (by omega); (try rw [show ((0 : Int)).toNat = 0 from rfl] at hx41_0); (try rw [show 0 * 2 = 0 from rfl] at hx41_0); (try rw [Addr.add_zero'] at hx41_0); (try rw [show ((0 : Int)).toNat = 0 from rfl] at hx41_1); (try rw [show 0 * 2 = 0 from rfl] at hx41_1); (try rw [Addr.add_zero'] at hx41_1); replace p41 := eq_true p41; replace q41 := eq_true q41; obtain ⟨Ao32, co32, eo32⟩ := Kd.R_slice HO34.out; subst eo32; have p42 : 0 ≤ (2 : Int) := (by omega); have q42 : 2 < (t32.length : Int) := of_decide_eq_true (by (with_reducible assumption)); obtain ⟨ad42, e42, hx42_0, hx42_1, hx42_2⟩ := at_T68 (Kd.R_reads' HO34.out).2.2 2 p42 q42; cases e42; (try simp only [show (2 : Int).toNat = 2 from rfl, Nat.reduceMul, Nat.reduceEqDiff, Go.Addr.add, ↓reduceIte] at hx42_0); (try simp only [show (2 : Int).toNat = 2 from rfl, Nat.reduceMul, Nat.reduceEqDiff, Go.Addr.add, ↓reduceIte] at hx42_1); (try simp only [show (2 : Int).toNat = 2 from rfl, Nat.reduceMul, Nat.reduceEqDiff, Go.Addr.add, ↓reduceIte] at hx42_2); have qi42 : (2 < t32.length) = True := eq_true (by omega); replace p42 := eq_true p42; replace q42 := eq_true q42))
             go_ret
             exact ⟨by rfl, by repeat ((with_reducible first | exact HB.out ))⟩
            ·rw [if_neg c13] at H
             exact absurd H (by simp)
           ·rw [if_neg c12] at H
            have c12b0 : ((t32.length : Int) == 6) = false := beq_eq_false_iff_ne.mpr c12
            have c12b1 : ((t32.length : Int) != 6) = true := bne_iff_ne.mpr c12
            exact absurd (HRT.out.symm.trans (Option.some.inj H).symm) (by decide)
          ·rw [if_neg c11] at H
           have c11b0 : (((rd_T73 (rd_L6 t29 1) 0).f0) == 0 && (((rd_T73 (rd_L6 t29 1) 0).f1) == 0)) = false := by simpa using c11
           (try (have c11b1 : decide (((rd_T73 (rd_L6 t29 1) 0).f0) = 0 && (((rd_T73 (rd_L6 t29 1) 0).f1) == 0)) = false := by simpa using c11))
           (try (have c11b2 : (((rd_T73 (rd_L6 t29 1) 0).f0) == 0 && (((rd_T73 (rd_L6 t29 1) 0).f1) == 0)) = false := by simpa using c11))
           (try (have c11b3 : ¬ (((rd_T73 (rd_L6 t29 1) 0).f0) = 0 && (((rd_T73 (rd_L6 t29 1) 0).f1) == 0)) := by simpa using c11))
           clear c11
           exact absurd (HRT.out.symm.trans (Option.some.inj H).symm) (by decide)
         ·rw [if_neg c10] at H
          exact absurd H (by simp)
        ·rw [if_neg c9] at H
         have c9b0 : (((rd_T73 (rd_L6 t29 0) 0).f0) == 0 && (((rd_T73 (rd_L6 t29 0) 0).f1) == 0)) = false := by simpa using c9
         (try (have c9b1 : decide (((rd_T73 (rd_L6 t29 0) 0).f0) = 0 && (((rd_T73 (rd_L6 t29 0) 0).f1) == 0)) = false := by simpa using c9))
         (try (have c9b2 : (((rd_T73 (rd_L6 t29 0) 0).f0) == 0 && (((rd_T73 (rd_L6 t29 0) 0).f1) == 0)) = false := by simpa using c9))
         (try (have c9b3 : ¬ (((rd_T73 (rd_L6 t29 0) 0).f0) = 0 && (((rd_T73 (rd_L6 t29 0) 0).f1) == 0)) := by simpa using c9))
         clear c9
         exact absurd (HRT.out.symm.trans (Option.some.inj H).symm) (by decide)
       ·rw [if_neg c8] at H
        exact absurd H (by simp)
      ·rw [if_neg c7] at H
       have c7b0 : (((rd_L6 t29 1).length : Int) == 1) = false := beq_eq_false_iff_ne.mpr c7
       have c7b1 : (((rd_L6 t29 1).length : Int) != 1) = true := bne_iff_ne.mpr c7
       exact absurd (HRT.out.symm.trans (Option.some.inj H).symm) (by decide)
     ·rw [if_neg c6] at H
      exact absurd H (by simp)
    ·rw [if_neg c5] at H
     have c5b0 : (((rd_L6 t29 0).length : Int) == 1) = false := beq_eq_false_iff_ne.mpr c5
     have c5b1 : (((rd_L6 t29 0).length : Int) != 1) = true := bne_iff_ne.mpr c5
     exact absurd (HRT.out.symm.trans (Option.some.inj H).symm) (by decide)
   ·rw [if_neg c4] at H
    exact absurd H (by simp)
  ·rw [if_neg c3] at H
   have c3b0 : ((t29.length : Int) == 2) = false := beq_eq_false_iff_ne.mpr c3
   have c3b1 : ((t29.length : Int) != 2) = true := bne_iff_ne.mpr c3
   exact absurd (HRT.out.symm.trans (Option.some.inj H).symm) (by decide)
 ·rw [if_neg c2] at H
  have c2b0 : ((t20.length : Int) == 1) = false := beq_eq_false_iff_ne.mpr c2
  have c2b1 : ((t20.length : Int) != 1) = true := bne_iff_ne.mpr c2
  exact absurd (HRT.out.symm.trans (Option.some.inj H).symm) (by decide)
theorem roadbooklaw20_awake_true : ∃ k, roadbooklaw20_awake0.f k = some true := ⟨64, by decide +kernel⟩
def roadbooklaw20_awake.f (_ : Nat) : Option Bool := some true
theorem roadbooklaw20_awake.calls (k : Nat) (r : Bool) (w : World) (h : roadbooklaw20_awake.f k = some r) :
  Calls Try.prog 56 #[] w fun e w' => e = .returned (.bool r) ∧ Below w.heap.size w w' := by
 obtain rfl := Option.some.inj h
 obtain ⟨k0, h0⟩ := roadbooklaw20_awake_true
 exact roadbooklaw20_awake0.calls k0 true w rfl h0
end Go.Proofs.Ytkidnomkfdnciaa.All
namespace Go.Proofs.Ytkidnomkfdnciaa.All
open Go.RowKit Go.Proofs.YtkidnomkfdnciaaW.PrintWords Go.Proofs.YtkidnomkfdnciaaW.PrintLast Go.Proofs.YtkidnomkfdnciaaW.PrintMore
set_option linter.unusedVariables false
section
variable {w w' : World} {base : Nat} {AN AG AP : Option Addr} {cN cG cP : Nat} {N : List S48} {G P : List Int} {v0 v1 v2 : Value} {o0 o1 o2 : Nat → Prop} {N' : List S48} {G' P' : List Int}
theorem memo_at (h0 : Kd.R k48 48 w base o0 v0 N) (h1 : Kd.R (Kd.int .i64) 3 w base o1 v1 G) (h2 : Kd.R (Kd.int .i64) 3 w base o2 v2 P) :
  ∃ A0 c0 A1 c1 A2 c2, v0 = .slice A0 N.length c0 ∧ v1 = .slice A1 G.length c1 ∧ v2 = .slice A2 P.length c2 ∧ MemoAt w A0 c0 N A1 c1 G A2 c2 P := by
 obtain ⟨A0, c0, e0, l0, r0⟩ := Kd.R_reads h0
 obtain ⟨A1, c1, e1, l1, r1⟩ := Kd.R_reads h1
 obtain ⟨A2, c2, e2, l2, r2⟩ := Kd.R_reads h2
 exact ⟨A0, c0, A1, c1, A2, c2, e0, e1, e2, ⟨r0, l0, r1, l1, r2, l2⟩⟩
theorem Run_at {A1 A2 : Option Addr} {c1 c2 k : Nat} {L : List (List S76)} {sc : List Int} {B : List (List S73)} {ev : List S68} (h : MemoAt w AN cN N AG cG G AP cP P) (hl : Kd.C (Kd.slice 76 k76) w A1 L.length L) (hc : L.length ≤ c1) (hs : Kd.C (Kd.int .i64) w A2 sc.length sc) (hd : sc.length ≤ c2) (hf : calls_Run.f k N G P L sc = some (N', G', P', B, ev)) :
  Calls Try.prog 59 #[.agg #[.slice AN N.length cN, .slice AG G.length cG, .slice AP P.length cP], .slice A1 L.length c1, .slice A2 sc.length c2] w fun e w' => ∃ A0 c0 A1 c1 A2 c2 A3 c3 A4 c4, e = .returned (.tuple #[.agg #[.slice A0 N'.length c0, .slice A1 G'.length c1, .slice A2 P'.length c2], .slice A3 B.length c3, .slice A4 ev.length c4]) ∧ MemoAt w' A0 c0 N' A1 c1 G' A2 c2 P' ∧ (Kd.C (Kd.slice 73 k73) w' A3 B.length B ∧ B.length ≤ c3) ∧ (Kd.C k68 w' A4 ev.length ev ∧ ev.length ≤ c4) ∧ Below w.heap.size w w' :=
 (calls_Run.calls k _ _ _ _ _ _ _ _ _ _ _ _ _ _ _ _ _ _ _ _ _ h.n h.nc h.g h.gc h.p h.pc hl hc hs hd hf).mono fun e w' ⟨v0, v1, v2, v3, v4, he, h0, h1, h2, h3, h4, hb⟩ => by
  obtain ⟨A0, c0, A1, c1, A2, c2, rfl, rfl, rfl, hm⟩ := memo_at h0 h1 h2
  obtain ⟨A3, c3, rfl, l3, r3⟩ := Kd.R_reads (Kd.S_R h3)
  obtain ⟨A4, c4, rfl, l4, r4⟩ := Kd.R_reads h4
  exact ⟨_, _, _, _, _, _, _, _, _, _, he, hm, ⟨r3, l3⟩, ⟨r4, l4⟩, hb⟩
theorem Far_at {m r : Int} (h : MemoAt w AN cN N AG cG G AP cP P) (hf : roadbooklaw16_Far.f N G P m = some r) :
  Calls Try.prog 58 #[.agg #[.slice AN N.length cN, .slice AG G.length cG, .slice AP P.length cP], .int .i64 m] w fun e w' => e = .returned (.int .i64 r) ∧ Below w.heap.size w w' :=
 roadbooklaw16_Far.calls _ _ _ _ _ _ _ _ _ _ _ _ h.n h.nc h.g h.gc h.p h.pc hf
end
end Go.Proofs.Ytkidnomkfdnciaa.All
namespace Go.Proofs.Ytkidnomkfdnciaa.All
open Go.RowKit Go.Proofs.YtkidnomkfdnciaaW.PrintWords Go.Proofs.YtkidnomkfdnciaaW.PrintLast Go.Proofs.YtkidnomkfdnciaaW.PrintMore
set_option linter.unusedVariables false
set_option linter.unusedSimpArgs false
def delB (x : S68) : Bool := decide (x.f2 ≠ 1)
set_option maxHeartbeats 4000000 in
set_option maxRecDepth 100000 in
theorem del_calls (W : World) (x : S68) :
  Calls Try.prog 93 #[.agg #[.int .i64 x.f0, .int .i64 x.f1, .int .i64 x.f2]] W fun e w' => e = .returned (.bool (delB x)) ∧ Below W.heap.size W w' := by
 obtain ⟨a, b, c⟩ := x
 unfold delB
 dsimp only
 have hbx : (W.alloc (.cells #[.int .i64 a, .int .i64 b, .int .i64 c] 68)).cell? ⟨W.heap.size, 2, none⟩ = some (.int .i64 c) := (blk_cell (heap_alloc_new W _) 2).trans rfl
 by_cases h : c = 1
 ·subst h
  go_enter Try.func93, Try.ntmps93
  go_wp2
  go_ret
  exact ⟨by simp, below_alloc (Below.refl _ _) _⟩
 ·have h2 : (c = 1) = False := eq_false h
  have h3 : decide (c ≠ 1) = true := decide_eq_true h
  rw [h3]
  clear h3
  go_enter Try.func93, Try.ntmps93
  go_wp2
  go_ret
  exact ⟨by first | rfl | simp [h], below_alloc (Below.refl _ _) _⟩
set_option maxHeartbeats 8000000 in
set_option maxRecDepth 100000 in
theorem del_index {A : Option Addr} {c : Nat} {l : List S68} {fn : Value} (w : World) (hr : Kd.C k68 w A l.length l) (hc : l.length ≤ c) (hfn : fn = .func (.func 93) #[] #[]) :
  Calls Try.prog 101 #[.slice A l.length c, fn] w fun e w' => e = .returned (.int .i64 (fidxN z68 delB l l.length 0)) ∧ Below w.heap.size w w' := by
 subst hfn
 have hmax := hr.2.1
 have HR := Aside0.mk hr
 obtain ⟨v, hv⟩ : ∃ v, v = fidxN z68 delB l l.length 0 := ⟨_, rfl⟩
 rw [← hv]
 have HV := Aside0.mk hv.symm
 clear hr hc hv
 go_enter Try.func101, Try.ntmps101
 go_wp2
 go_loopw [8] (fun i wr => ∃ k : Nat, k ≤ l.length ∧ i = .int .i64 k ∧ Aside0 (fidxN z68 delB l (l.length - k) k = v) ∧ Aside0 (Below w.heap.size w wr)) (fun i _ => l.length - (intOf i).toNat)
 case atStart => exact ⟨0, Nat.zero_le _, rfl, ⟨HV.out⟩, ⟨Below.refl _ _⟩⟩
 case round =>
  obtain ⟨k, hk, rfl, HI, HB⟩ := hrel
  by_cases hlt : k < l.length
  ·obtain ⟨ad, rfl, hc0, hc1, hc2⟩ := at_T68 (Kd.C_below HR.out HB.out) (k : Int) (by omega) (by omega)
   obtain ⟨x, hx⟩ : ∃ x, x = l.getD k z68 := ⟨_, rfl⟩
   have hstep : fidxN z68 delB l (l.length - k) k = if delB x = true then (k : Int) else fidxN z68 delB l (l.length - (k + 1)) (k + 1) := by
    rw [show l.length - k = (l.length - (k + 1)) + 1 by omega, fidxN, ← hx]
   rw [Int.toNat_natCast, show rd_T68 l (k : Int) = x from by rw [hx]; simp [rd_T68]] at hc0 hc1 hc2
   have HCF := Aside0.mk (del_calls wr x)
   rw [HI.out] at hstep
   cases hfx : delB x with
   | true =>
    rw [hfx] at hstep HCF
    rw [if_pos rfl] at hstep
    have HS := Aside0.mk hstep
    clear hstep hfx hx
    go_wp2_with (go_at_call 93; refine HCF.out.mono ?_; rintro e w1 ⟨rfl, hb1⟩; have HB1 := Aside0.mk (below_then HB.out HB.out.size hb1); clear hb1)
    go_ret
    exact ⟨by rw [HS.out]; rfl, HB1.out⟩
   | false =>
    rw [hfx] at hstep HCF
    rw [if_neg (by decide)] at hstep
    have HS := Aside0.mk hstep
    clear hstep hfx hx
    go_wp2_with (go_at_call 93; refine HCF.out.mono ?_; rintro e w1 ⟨rfl, hb1⟩; have HB1 := Aside0.mk (below_then HB.out HB.out.size hb1); clear hb1)
    go_roundw
    case rel => exact ⟨k + 1, by omega, by go_num, ⟨HS.out.symm⟩, HB1⟩
    case measure => simp [intOf]; omega
  ·obtain rfl : k = l.length := by omega
   have HE := Aside0.mk (show v = -1 from by rw [← HI.out, Nat.sub_self]; rfl)
   go_wp2
   go_ret
   exact ⟨by rw [HE.out]; rfl, HB.out⟩
def keepB (x : S68) : Bool := decide (x.f2 = 1)
theorem del_keep (x : S68) : delB x = !keepB x := by unfold delB keepB; by_cases h : x.f2 = 1 <;> simp [h]
theorem fidx_no {l : List S68} : ∀ (d k : Nat), k + d = l.length → fidxN z68 delB l d k = -1 → ∀ q, k ≤ q → q < l.length → keepB (l.getD q z68) = true
 | 0, k, hk, h, q, h1, h2 => by omega
 | d + 1, k, hk, h, q, h1, h2 => by
  rw [fidxN] at h
  by_cases hd : delB (l.getD k z68) = true
  ·rw [if_pos hd] at h; omega
  ·rw [if_neg hd] at h
   by_cases e : q = k
   ·subst e
    rw [del_keep] at hd
    simpa using hd
   ·exact fidx_no d (k + 1) (by omega) h q (by omega) h2
theorem fidx_yes {l : List S68} : ∀ (d k : Nat), k + d = l.length → fidxN z68 delB l d k ≠ -1 → ∃ i : Nat, fidxN z68 delB l d k = (i : Int) ∧ k ≤ i ∧ i < l.length ∧ keepB (l.getD i z68) = false ∧ ∀ q, k ≤ q → q < i → keepB (l.getD q z68) = true
 | 0, k, hk, h => absurd rfl h
 | d + 1, k, hk, h => by
  rw [fidxN] at h ⊢
  by_cases hd : delB (l.getD k z68) = true
  ·rw [if_pos hd]
   rw [del_keep] at hd
   exact ⟨k, rfl, Nat.le_refl _, by omega, by simpa using hd, fun q h1 h2 => by omega⟩
  ·rw [if_neg hd] at h ⊢
   obtain ⟨i, h1, h2, h3, h4, h5⟩ := fidx_yes d (k + 1) (by omega) h
   refine ⟨i, h1, by omega, h3, h4, fun q h6 h7 => ?_⟩
   by_cases e : q = k
   ·subst e
    rw [del_keep] at hd
    simpa using hd
   ·exact h5 q (by omega) h7
theorem filter_all {l : List S68} (h : ∀ q, q < l.length → keepB (l.getD q z68) = true) : l.filter keepB = l := by
 refine List.filter_eq_self.2 fun x hx => ?_
 obtain ⟨i, hi, rfl⟩ := List.getElem_of_mem hx
 have := h i hi
 rwa [List.getD_eq_getElem?_getD, List.getElem?_eq_getElem hi] at this
structure Del (l xs : List S68) (i j : Nat) : Prop where
 len : xs.length = l.length
 lt : i < j
 le : j ≤ l.length
 head : xs.take i = (l.take j).filter keepB
 tail : ∀ q, j ≤ q → q < l.length → xs.getD q z68 = l.getD q z68
theorem take_succ_D {l : List S68} {j : Nat} (h : j < l.length) : l.take (j + 1) = l.take j ++ [l.getD j z68] := by
 rw [List.take_succ_eq_append_getElem h, List.getD_eq_getElem?_getD, List.getElem?_eq_getElem h]; rfl
theorem Del.start {l : List S68} {i : Nat} (hi : i < l.length) (h : keepB (l.getD i z68) = false) (hq : ∀ q, 0 ≤ q → q < i → keepB (l.getD q z68) = true) : Del l l i (i + 1) := by
 refine ⟨rfl, by omega, hi, ?_, fun _ _ _ => rfl⟩
 rw [take_succ_D hi, List.filter_append, List.filter_cons, h]
 have : (l.take i).filter keepB = l.take i := by
  refine filter_all fun q hq' => ?_
  have hqi : q < i := by simp at hq'; omega
  have := hq q (by omega) hqi
  rw [List.getD_eq_getElem?_getD, List.getElem?_take_of_lt hqi, ← List.getD_eq_getElem?_getD]; exact this
 rw [this]; simp
theorem Del.drop {l xs : List S68} {i j : Nat} (d : Del l xs i j) (hj : j < l.length) (h : keepB (l.getD j z68) = false) : Del l xs i (j + 1) := by
 refine ⟨d.len, by have := d.lt; omega, hj, ?_, fun q h1 h2 => d.tail q (by omega) h2⟩
 rw [take_succ_D hj, List.filter_append, List.filter_cons, h, d.head]; simp
theorem Del.keep {l xs : List S68} {i j : Nat} (d : Del l xs i j) (hj : j < l.length) (h : keepB (l.getD j z68) = true) : Del l (xs.set i (l.getD j z68)) (i + 1) (j + 1) := by
 have h1 := d.lt
 have h2 := d.len
 refine ⟨by simp [d.len], by omega, hj, ?_, fun q h3 h4 => ?_⟩
 ·rw [take_succ_D hj, List.filter_append, List.filter_cons, h, ← d.head, List.take_succ_eq_append_getElem (by simp; omega), List.take_set_of_le (Nat.le_refl i)]; simp
 ·rw [← d.tail q (by omega) h4, List.getD_eq_getElem?_getD, List.getElem?_set_ne (by omega), ← List.getD_eq_getElem?_getD]
theorem R_tail {α : Type} {d : Kd α} {e : Nat} {W : World} {base : Nat} {ok : Nat → Prop} {g n cap : Nat} {xs : List α} (h : d.R e W base ok (.slice (some ⟨g, 0, none⟩) n cap) xs) (o : Nat) (vs : List Value) (ho : n * d.sz ≤ o) (hc : o + vs.length ≤ cap * d.sz) : d.R e (W.setCells g o vs) base ok (.slice (some ⟨g, 0, none⟩) n cap) xs := by
 obtain ⟨rfl, _⟩ := Kd.R_reads' h
 obtain ⟨h0, inner, hw, hr⟩ := h
 obtain ⟨hl, hw⟩ := hw
 rcases hw with ⟨hv, _⟩ | ⟨g', cap', cur, hv, hb, hh, hnc, hcm, hcs, ht⟩
 ·cases hv
 injection hv with ha _ hcc
 injection ha with ha
 injection ha with hg
 subst hg; subst hcc
 obtain ⟨cur', h3, h4, h5⟩ := setCells_row vs o W cur hh (by omega)
 refine ⟨h0, inner, ⟨hl, .inr ⟨g, cap, cur', rfl, hb, h3, hnc, hcm, by omega, ?_⟩⟩, hr.imp_ (fun _ _ hp => d.M_move (fun k hk => ?_) hp)⟩
 ·rw [h5, List.append_assoc, List.take_append_of_le_length (by simp; omega), List.take_take, Nat.min_eq_left ho, ht]
 ·exact setCells_far vs o k (fun e => hk.2 (by rw [e]; rfl))
theorem R_cells68 {W : World} {base : Nat} {ok : Nat → Prop} {g n cap : Nat} {xs : List S68} (h : Kd.R k68 68 W base ok (.slice (some ⟨g, 0, none⟩) n cap) xs) (i : Nat) (hi : i < n) :
  W.cell? ⟨g, i * 3, none⟩ = some (.int .i64 (xs.getD i z68).f0) ∧ W.cell? ⟨g, i * 3 + 1, none⟩ = some (.int .i64 (xs.getD i z68).f1) ∧ W.cell? ⟨g, i * 3 + 2, none⟩ = some (.int .i64 (xs.getD i z68).f2) ∧ W.frozen? ⟨g, i * 3, none⟩ = false ∧ W.frozen? ⟨g, i * 3 + 1, none⟩ = false ∧ W.frozen? ⟨g, i * 3 + 2, none⟩ = false := by
 obtain ⟨c, hcl, hM, hc, hf⟩ := Kd.R_elem h z68 (i : Int) (by omega) (by omega)
 rw [Int.toNat_natCast] at hM hc hf
 have := k68_openM hM
 subst this
 exact ⟨hc 0 _ rfl, hc 1 _ rfl, hc 2 _ rfl, hf 0, hf 1, hf 2⟩
theorem R_put68 {W : World} {base : Nat} {ok : Nat → Prop} {g n cap : Nat} {xs : List S68} (h : Kd.R k68 68 W base ok (.slice (some ⟨g, 0, none⟩) n cap) xs) (i : Nat) (hi : i < n) (x : S68) :
  Kd.R k68 68 (((W.setCell ⟨g, i * 3, none⟩ (.int .i64 x.f0)).setCell ⟨g, i * 3 + 1, none⟩ (.int .i64 x.f1)).setCell ⟨g, i * 3 + 2, none⟩ (.int .i64 x.f2)) base ok (.slice (some ⟨g, 0, none⟩) n cap) (xs.set i x) := by
 obtain ⟨c, hcl, hM, hc, hf⟩ := Kd.R_elem h z68 (i : Int) (by omega) (by omega)
 have := k68_openM hM
 subst this
 exact (Kd.R_seg h (i : Int) (by omega) (by omega) (seg := [.int .i64 x.f0, .int .i64 x.f1, .int .i64 x.f2]) (j := 0) hcl hc (Nat.le_refl 3) (x' := x) (okp := fun _ => False) (k68_mkM _ _ _ x) (fun _ h => h.elim)).1
theorem R_all68 {W : World} {base : Nat} {ok : Nat → Prop} {g n cap : Nat} {xs : List S68} (h : Kd.R k68 68 W base ok (.slice (some ⟨g, 0, none⟩) n cap) xs) (q : Nat) (hq : q < n * 3) : (W.cell? ⟨g, q, none⟩).isSome = true ∧ W.frozen? ⟨g, q, none⟩ = false := by
 obtain ⟨rfl, _⟩ := Kd.R_reads' h
 obtain ⟨inner, hl, hw⟩ := Kd.R_own h
 rcases hw with ⟨hv, _⟩ | ⟨g', cap', cur, hv, hb, hh, hnc, hcm, hcs, ht⟩
 ·cases hv
 injection hv with ha _ hcc
 injection ha with ha
 injection ha with hg
 subst hg; subst hcc
 refine ⟨?_, blk_frozen hh q⟩
 have hcs : cur.size = cap * 3 := hcs
 rw [blk_cell hh q, Array.getElem?_eq_getElem (by omega)]
 rfl
theorem clear68 (w : World) (ty : TypeId) (b o n c : Nat) (hn : 0 < n) (hc : ∀ j, j < n * 3 → (w.cell? ⟨b, o + j, none⟩).isSome = true) (hf : ∀ j, j < n * 3 → w.frozen? ⟨b, o + j, none⟩ = false) :
  (Builtin.clear_ #[63] ty #[.slice (some ⟨b, o, none⟩) n c]).run Try.prog w = .ok (.tuple #[]) (w.setCells b o (List.replicate (n * 3) (.int .i64 0))) := by
 have hv : ∀ w, (zeroValue 68).run Try.prog w = .ok (.agg #[.int .i64 0, .int .i64 0, .int .i64 0]) w := fun w => by kernel_rfl
 have hzc : (Builtin.zeroCells (Value.agg #[.int .i64 0, .int .i64 0, .int .i64 0]).cells n).toList = List.replicate (n * 3) (.int .i64 0) := by
  have : (Value.agg #[.int .i64 0, .int .i64 0, .int .i64 0]).cells = #[.int .i64 0, .int .i64 0, .int .i64 0] := by kernel_rfl
  rw [this]
  apply List.ext_getElem
  ·simp [Builtin.zeroCells]
  ·intro i h1 h2
   have h3 : i % 3 = 0 ∨ i % 3 = 1 ∨ i % 3 = 2 := by omega
   rcases h3 with h3 | h3 | h3 <;> simp [Builtin.zeroCells, h3]
 have hst := run_storeCells_cells (P := Try.prog) b o (List.replicate (n * 3) (.int .i64 0)) 0 w (by simpa using hc) (by simpa using hf) (by intro v hv'; rw [List.eq_of_mem_replicate hv']; rfl)
 simp only [Nat.add_zero] at hst
 obtain ⟨m, rfl⟩ : ∃ m, n = m + 1 := ⟨n - 1, by omega⟩
 simp [Builtin.clear_, run_underlying Try.underlying63, hv, hzc, hst]
set_option maxHeartbeats 8000000 in
set_option maxRecDepth 100000 in
theorem del_no {w0 w : World} {A : Option Addr} {c : Nat} {l : List S68} {fn : Value} (hr : Kd.R k68 68 w w0.heap.size (fun _ => True) (.slice A l.length c) l) (hb : Below w0.heap.size w0 w) (hfn : fn = .func (.func 93) #[] #[]) (hix : fidxN z68 delB l l.length 0 = -1) :
  Calls Try.prog 91 #[.slice A l.length c, fn] w fun e w' => ∃ v, e = .returned v ∧ Kd.R k68 68 w' w0.heap.size (fun _ => True) v l ∧ Below w0.heap.size w0 w' := by
 have hrr := Kd.R_reads' hr
 have HC := Aside0.mk (del_index w hrr.2.2 hrr.2.1 hfn)
 rw [hix] at HC
 have HR := Aside0.mk hr
 have HB := Aside0.mk hb
 clear hr hrr hb hix hfn
 go_enter Try.func91, Try.ntmps91
 go_wp2_with (go_at_call 101; refine HC.out.mono ?_; rintro e w1 ⟨rfl, hb1⟩; have HB1 := Aside0.mk hb1; clear hb1)
 go_ret
 exact ⟨_, rfl, Kd.R_below HR.out HB1.out, below_then HB.out HB.out.size HB1.out⟩
set_option maxHeartbeats 8000000 in
set_option maxRecDepth 100000 in
theorem del_yes {w0 w : World} {g c : Nat} {l : List S68} {fn : Value} (hr : Kd.R k68 68 w w0.heap.size (fun _ => True) (.slice (some ⟨g, 0, none⟩) l.length c) l) (hb : Below w0.heap.size w0 w) (hfn : fn = .func (.func 93) #[] #[]) {i0 : Nat} (hix : fidxN z68 delB l l.length 0 = (i0 : Int)) (hi0 : i0 < l.length) (hl : l.length ≤ 5864062014805) (hd : Del l l i0 (i0 + 1)) :
  Calls Try.prog 91 #[.slice (some ⟨g, 0, none⟩) l.length c, fn] w fun e w' => ∃ v, e = .returned v ∧ Kd.R k68 68 w' w0.heap.size (fun _ => True) v (l.filter keepB) ∧ Below w0.heap.size w0 w' := by
 have hrr := Kd.R_reads' hr
 have HC := Aside0.mk (del_index w hrr.2.2 hrr.2.1 hfn)
 rw [hix] at HC
 have HR := Aside0.mk hr
 have HB := Aside0.mk hb
 have HD := Aside0.mk hd
 have HLC := Aside0.mk hrr.2.1
 have HG := Aside0.mk (Kd.R_base hr g (by simp [Value.ownBlock]))
 subst hfn
 clear hr hrr hb hix hd
 have hne : ((i0 : Int) == -1) = false := by rw [beq_eq_false_iff_ne]; omega
 go_enter Try.func91, Try.ntmps91
 go_wp2_with (go_at_call 101; refine HC.out.mono ?_; rintro e w1 ⟨rfl, hb1⟩; have HB1 := Aside0.mk hb1; clear hb1)
 go_loopw [5, 6] (fun vi vj wr => ∃ (xs : List S68) (i j : Nat), vi = .int .i64 i ∧ vj = .int .i64 j ∧ Aside0 (Del l xs i j) ∧ Aside0 (Kd.R k68 68 wr w0.heap.size (fun _ => True) (.slice (some ⟨g, 0, none⟩) l.length c) xs) ∧ Aside0 (Below w0.heap.size w0 wr)) (fun _ vj _ => l.length - (intOf vj).toNat)
 case atStart => exact ⟨l, i0, i0 + 1, rfl, by go_num, HD, ⟨Kd.R_below HR.out HB1.out⟩, ⟨below_then HB.out HB.out.size HB1.out⟩⟩
 case round =>
  obtain ⟨xs, i, j, rfl, rfl, HD, HR, HB⟩ := hrel
  have hij := HD.out.lt
  have hjl := HD.out.le
  by_cases hlt : j < l.length
  ·obtain ⟨hc0, hc1, hc2, _⟩ := R_cells68 HR.out j hlt
   rw [HD.out.tail j (Nat.le_refl _) hlt] at hc0 hc1 hc2
   obtain ⟨x, hx⟩ : ∃ x, x = l.getD j z68 := ⟨_, rfl⟩
   rw [← hx] at hc0 hc1 hc2
   have HX := Aside0.mk hx
   clear hx
   have HCF := Aside0.mk (fun W => del_calls W x)
   have hbx := heap_alloc_new wr (.cells #[.int .i64 x.f0, .int .i64 x.f1, .int .i64 x.f2] 68)
   have hba : Below wr.heap.size wr (wr.alloc (.cells #[.int .i64 x.f0, .int .i64 x.f1, .int .i64 x.f2] 68)) := below_alloc (Below.refl _ _) _
   have HBX := Aside0.mk hbx
   have HBA := Aside0.mk hba
   rw [del_keep] at HCF
   clear hbx hba
   cases hk : keepB x with
   | true =>
    rw [hk] at HCF
    have hdk := HD.out.keep hlt (by rw [← HX.out]; exact hk)
    rw [← HX.out] at hdk
    have HDK := Aside0.mk hdk
    have HK := Aside0.mk hk
    clear hdk hk
    go_wp2_with (first | (go_at_call 93; refine (HCF.out _).mono ?_; rintro e w2 ⟨rfl, hb2⟩; have HR2 := Aside0.mk (Kd.R_below HR.out (HBA.out.trans (hb2.mono HBA.out.size))); have HB2 := Aside0.mk (below_then HB.out HB.out.size (HBA.out.trans (hb2.mono HBA.out.size))); have hbx2 := (hb2.block _ (blk_lt HBX.out)).trans HBX.out; have hv0 : w2.cell? ⟨wr.heap.size, 0, none⟩ = some (.int .i64 x.f0) := (blk_cell hbx2 0).trans rfl; have hv1 : w2.cell? ⟨wr.heap.size, 1, none⟩ = some (.int .i64 x.f1) := (blk_cell hbx2 1).trans rfl; have hv2 : w2.cell? ⟨wr.heap.size, 2, none⟩ = some (.int .i64 x.f2) := (blk_cell hbx2 2).trans rfl; obtain ⟨ht0, ht1, ht2, hf0, hf1, hf2⟩ := R_cells68 HR2.out i (by omega); clear hb2 hbx2))
    go_roundw
    case rel => exact ⟨xs.set i x, i + 1, j + 1, by go_num, by go_num, HDK, ⟨R_put68 HR2.out i (by omega) x⟩, ⟨below_set (below_set (below_set HB2.out HG.out) HG.out) HG.out⟩⟩
    case measure => simp [intOf]; omega
   | false =>
    rw [hk] at HCF
    have hdk := HD.out.drop hlt (by rw [← HX.out]; exact hk)
    have HDK := Aside0.mk hdk
    clear hdk hk
    go_wp2_with (go_at_call 93; refine (HCF.out _).mono ?_; rintro e w2 ⟨rfl, hb2⟩; have HR2 := Aside0.mk (Kd.R_below HR.out (HBA.out.trans (hb2.mono HBA.out.size))); have HB2 := Aside0.mk (below_then HB.out HB.out.size (HBA.out.trans (hb2.mono HBA.out.size))); clear hb2)
    go_roundw
    case rel => exact ⟨xs, i, j + 1, rfl, by go_num, HDK, HR2, HB2⟩
    case measure => simp [intOf]; omega
  ·obtain rfl : j = l.length := by omega
   have hil : i < l.length := hij
   have hcap := HLC.out
   have hcl : ∀ ty, (Builtin.clear_ #[63] ty #[.slice (some ⟨g, i * 3, none⟩) (l.length - i) (c - i)]).run Try.prog wr = .ok (.tuple #[]) (wr.setCells g (i * 3) (List.replicate ((l.length - i) * 3) (.int .i64 0))) := fun ty => clear68 wr ty g (i * 3) (l.length - i) (c - i) (by omega) (fun q hq => (R_all68 HR.out (i * 3 + q) (by omega)).1) (fun q hq => (R_all68 HR.out (i * 3 + q) (by omega)).2)
   have HN := Aside0.mk (Kd.R_mono (R_tail (Kd.R_take HR.out (m := i) (by rw [HD.out.len]; omega)) (i * 3) (List.replicate ((l.length - i) * 3) (.int .i64 0)) (Nat.le_refl _) (by rw [List.length_replicate]; show _ ≤ c * 3; omega)) (fun _ _ => trivial))
   have HF := Aside0.mk (show xs.take i = l.filter keepB by rw [HD.out.head, List.take_length])
   have HS := Aside0.mk (show Below w0.heap.size w0 (wr.setCells g (i * 3) (List.replicate ((l.length - i) * 3) (.int .i64 0))) by
    obtain ⟨s1, s2, s3, s4⟩ := setCells_same g (List.replicate ((l.length - i) * 3) (.int .i64 0)) (i * 3) wr
    exact ⟨s1.trans HB.out.os, s2.trans HB.out.tape, s3.trans HB.out.output, by rw [s4]; exact HB.out.size, fun k hk => (setCells_far _ _ k (Nat.ne_of_lt (Nat.lt_of_lt_of_le hk HG.out))).trans (HB.out.block k hk)⟩)
   go_wp2
   go_ret
   exact ⟨_, rfl, by rw [← HF.out]; exact HN.out, HS.out⟩
end Go.Proofs.Ytkidnomkfdnciaa.All
namespace Go.Proofs.Ytkidnomkfdnciaa.All
open Go.RowKit Go.Proofs.YtkidnomkfdnciaaW.PrintWords Go.Proofs.YtkidnomkfdnciaaW.PrintLast Go.Proofs.YtkidnomkfdnciaaW.PrintMore
attribute [local go_sem] max2_int min2_int max_two min_two max_three min_three max_four min_four
set_option linter.unusedVariables false
set_option linter.unusedSimpArgs false
def calls_Order.f (_ : Nat) (l : List S68) : Option (List S68) := if limE l = true then some (l.filter fun x => decide (x.f2 = 1)) else none
theorem Order_del {w0 w : World} {A : Option Addr} {c : Nat} {l : List S68} (hr : Kd.R k68 68 w w0.heap.size (fun _ => True) (.slice A l.length c) l) (hb : Below w0.heap.size w0 w) (hl : l.length ≤ 5864062014805) :
  Calls Try.prog 91 #[.slice A l.length c, .func (.func 93) #[] #[]] w fun e w' => ∃ v, e = .returned v ∧ Kd.R k68 68 w' w0.heap.size (fun _ => True) v (l.filter keepB) ∧ Below w0.heap.size w0 w' := by
 by_cases h : fidxN z68 delB l l.length 0 = -1
 ·have hf : l.filter keepB = l := filter_all (fun q hq => fidx_no l.length 0 (by omega) h q (by omega) hq)
  rw [hf]
  exact del_no hr hb rfl h
 ·obtain ⟨i, h1, h2, h3, h4, h5⟩ := fidx_yes l.length 0 (by omega) h
  obtain ⟨g, c', e, _⟩ := Kd.R_form hr (by omega)
  injection e with e1 _ e2
  subst e1; subst e2
  exact del_yes hr hb rfl h1 h3 hl (Del.start h3 h4 h5)
set_option maxHeartbeats 4000000 in
set_option maxRecDepth 100000 in
theorem calls_Order.calls (k : Nat) (A0 : Option Addr) (c0 : Nat) (l0 : List (S68)) (r : List (S68)) (w : World) (hr0 : Kd.C k68 w A0 l0.length l0) (hc0 : l0.length ≤ c0) (h : calls_Order.f k l0 = some r) :
  Calls Try.prog 70 #[.slice A0 l0.length c0] w fun e w' => ∃ v0_ : Value, e = .returned (v0_) ∧ Kd.R k68 68 w' w.heap.size (fun _ => True) v0_ r ∧ Below w.heap.size w w' := by
 unfold calls_Order.f at h
 by_cases hl : limE l0 = true
 ·rw [if_pos hl] at h
  obtain rfl := Option.some.inj h
  have hll : l0.length ≤ 5864062014805 := by unfold limE at hl; have := of_decide_eq_true hl; omega
  have HE := Aside0.mk (api_Event_92.calls 0 A0 c0 l0 l0 w hr0 hc0 (by unfold api_Event_92.f; rw [if_pos hl]))
  have HD := Aside0.mk (fun (W : World) (A : Option Addr) (c : Nat) (hr : Kd.R k68 68 W w.heap.size (fun _ => True) (.slice A l0.length c) l0) (hb : Below w.heap.size w W) => Order_del hr hb hll)
  clear hr0 hc0 h hl hll
  go_enter Try.func70, Try.ntmps70
  go_wp2_with (first | (go_at_call 92; refine HE.out.mono ?_; rintro e w1 ⟨v1, rfl, ho1, hb1⟩; have HO1 := Aside0.mk ho1; have HB1 := Aside0.mk hb1; clear ho1 hb1; obtain ⟨A1, c1, e1⟩ := Kd.R_slice HO1.out; subst e1) | (go_at_call 91; refine (HD.out _ _ _ HO1.out HB1.out).mono ?_; rintro e w2 ⟨v2, rfl, ho2, hb2⟩; have HO2 := Aside0.mk ho2; have HB2 := Aside0.mk hb2; clear ho2 hb2))
  go_ret
  exact ⟨_, rfl, HO2.out, HB2.out⟩
 ·rw [if_neg hl] at h; cases h
end Go.Proofs.Ytkidnomkfdnciaa.All
namespace Go.Proofs.Ytkidnomkfdnciaa.All
open Go.RowKit Go.Proofs.Ytkidnomkfdnciaa.Pure Go.Proofs.YtkidnomkfdnciaaW.PrintWords Go.Proofs.YtkidnomkfdnciaaW.PrintLast Go.Proofs.YtkidnomkfdnciaaW.PrintMore
set_option linter.unusedVariables false
set_option linter.unusedSimpArgs false
section
variable {w w' : World} {AN AG AP AN' AG' AP' : Option Addr} {cN cG cP cN' cG' cP' : Nat} {N : List S48} {G P : List Int}
theorem alike_one {s m : Bool} (h : MemoAt w AN cN N AG cG G AP cP P) (h' : MemoAt w AN' cN' N AG' cG' G AP' cP' P) (hs : ∀ W, MemoAt W AN cN N AG cG G AP cP P → MemoAt W AN' cN' N AG' cG' G AP' cP' P → Calls Try.prog 49 #[.agg #[.slice AN N.length cN, .slice AG G.length cG, .slice AP P.length cP], .agg #[.slice AN' N.length cN', .slice AG' G.length cG', .slice AP' P.length cP']] W fun e w' => e = .returned (.bool s) ∧ Below W.heap.size W w')
  (hm : ∀ W, MemoAt W AN cN N AG cG G AP cP P → Calls Try.prog 52 #[.agg #[.slice AN N.length cN, .slice AG G.length cG, .slice AP P.length cP]] W fun e w' => e = .returned (.bool m) ∧ Below W.heap.size W w') (hsm : s = true ∨ s = false ∧ m = false) :
  Calls Try.prog 66 #[.agg #[.slice AN N.length cN, .slice AG G.length cG, .slice AP P.length cP], .agg #[.slice AN' N.length cN', .slice AG' G.length cG', .slice AP' P.length cP']] w fun e w' => e = .returned (.bool true) ∧ Below w.heap.size w w' := by
 obtain ⟨hx, hy, hb⟩ := box22_new w AN cN N AG cG G AP cP P AN' cN' N AG' cG' G AP' cP' P
 have HB := Aside0.mk hb
 have HX := Aside0.mk hx
 have HY := Aside0.mk hy
 have HM := Aside0.mk (h.below hb)
 have HM' := Aside0.mk (h'.below hb)
 have HS := Aside0.mk hs
 have HMay := Aside0.mk hm
 clear h h' hb hs hm hx hy
 obtain ⟨ha0, ha1, ha2⟩ := HX.out.cells
 obtain ⟨hb0, hb1, hb2⟩ := HY.out.cells
 rcases hsm with rfl | ⟨rfl, rfl⟩
 all_goals
  go_enter Try.func66, Try.ntmps66
  go_wp2_with (first | (go_at_call 49; refine (HS.out _ HM.out HM'.out).mono ?_; rintro e w1 ⟨rfl, hb1'⟩; have HB1 := Aside0.mk hb1'; obtain ⟨hc0, hc1, hc2⟩ := (HX.out.below hb1').cells; clear hb1') | (go_at_call 52; refine (HMay.out _ (HM.out.below HB1.out)).mono ?_; rintro e w2 ⟨rfl, hb2'⟩; have HB2 := Aside0.mk (HB1.out.trans (hb2'.mono HB1.out.size)); clear hb2'))
  go_ret
  exact ⟨rfl, below_then HB.out HB.out.size HB2.out⟩
theorem alike_at (h : MemoAt w AN cN N AG cG G AP cP P) (h' : MemoAt w AN' cN' N AG' cG' G AP' cP' P) (hL : Lim N G P) :
  Calls Try.prog 66 #[.agg #[.slice AN N.length cN, .slice AG G.length cG, .slice AP P.length cP], .agg #[.slice AN' N.length cN', .slice AG' G.length cG', .slice AP' P.length cP']] w fun e w' => e = .returned (.bool true) ∧ Below w.heap.size w w' := by
 have hp := hL.p
 refine alike_one h h' (s := sameM N G P N G P) (m := mayMB N G P) (fun W a b => rsame_at a b (by omega) (by omega)) (fun W a => rmay_at a) ?_
 have he : sameM N G P N G P = mayB P := by
  unfold sameM sameB
  rw [decide_eq_true rfl, decide_eq_true rfl, decide_eq_true rfl, Bool.and_true, Bool.and_self, Bool.true_and, Bool.true_and]
 rw [he]
 cases hm : mayB P with
 | true => exact .inl rfl
 | false =>
  refine .inr ⟨rfl, ?_⟩
  cases hq : mayMB N G P with
  | false => rfl
  | true => rw [may_P hq] at hm; cases hm
theorem Do_at {r : List S48 × List Int × List Int × Int × Int} (c : S76) (hL : Lim N G P) (h : MemoAt w AN cN N AG cG G AP cP P) (hr : r = doT N G P c) :
  Calls Try.prog 63 #[.agg #[.slice AN N.length cN, .slice AG G.length cG, .slice AP P.length cP], .agg #[.int .i64 c.f0, .bool c.f1.f0, .int .i64 c.f1.f1, .int .i64 c.f1.f2, .int .i64 c.f1.f3, .int .i64 c.f2, .int .i64 c.f3]] w fun e w' => ∃ A0 c0 A1 c1 A2 c2, e = .returned (.tuple #[.agg #[.slice A0 r.1.length c0, .slice A1 r.2.1.length c1, .slice A2 r.2.2.1.length c2], .agg #[.int .i64 r.2.2.2.1, .int .i64 r.2.2.2.2]]) ∧ MemoAt w' A0 c0 r.1 A1 c1 r.2.1 A2 c2 r.2.2.1 ∧ Below w.heap.size w w' := by
 subst hr
 exact (calls_Do.calls 500 _ _ _ _ _ _ _ _ _ _ _ _ _ _ _ _ _ _ _ _ _ _ h.n h.nc h.g h.gc h.p h.pc (do_k hL c (Nat.le_refl _))).mono fun e w' ⟨v0, v1, v2, he, h0, h1, h2, hb⟩ => by
  obtain ⟨A0, c0, A1, c1, A2, c2, rfl, rfl, rfl, hm⟩ := memo_at h0 h1 h2
  exact ⟨_, _, _, _, _, _, he, hm, hb⟩
theorem rDo_at {r : List S48 × List Int × List Int × Int × Int} (c : S76) (h : MemoAt w AN cN N AG cG G AP cP P) (hr : r = doT N G P c) :
  Calls Try.prog 64 #[.agg #[.slice AN N.length cN, .slice AG G.length cG, .slice AP P.length cP], .agg #[.int .i64 c.f0, .bool c.f1.f0, .int .i64 c.f1.f1, .int .i64 c.f1.f2, .int .i64 c.f1.f3, .int .i64 c.f2, .int .i64 c.f3]] w fun e w' => ∃ A0 c0 A1 c1 A2 c2, e = .returned (.tuple #[.agg #[.slice A0 r.1.length c0, .slice A1 r.2.1.length c1, .slice A2 r.2.2.1.length c2], .agg #[.int .i64 r.2.2.2.1, .int .i64 r.2.2.2.2]]) ∧ MemoAt w' A0 c0 r.1 A1 c1 r.2.1 A2 c2 r.2.2.1 ∧ Below w.heap.size w w' := by
 subst hr
 exact (rdo_at c h).mono fun e w' ⟨A0, c0, A1, c1, A2, c2, he, hm, _, _, _, hb⟩ => ⟨_, _, _, _, _, _, he, hm, hb⟩
theorem Order_at {A0 : Option Addr} {c0 : Nat} {a b : List S68} (h : k68.C w A0 a.length a ∧ a.length ≤ c0) (ha : a.length < 1000) (hb : b = a.filter fun x => decide (x.f2 = 1)) :
  Calls Try.prog 70 #[.slice A0 a.length c0] w fun e w' => ∃ A1 c1, e = .returned (.slice A1 b.length c1) ∧ (k68.C w' A1 b.length b ∧ b.length ≤ c1) ∧ Below w.heap.size w w' :=
 (calls_Order.calls 0 _ _ _ b _ h.1 h.2 (by unfold calls_Order.f; rw [if_pos (by unfold limE; exact decide_eq_true (by omega)), hb])).mono fun e w' ⟨v, he, hr, hb⟩ => by
  obtain ⟨A, c, rfl, hl, hC⟩ := Kd.R_reads hr
  exact ⟨A, c, he, ⟨hC, hl⟩, hb⟩
end
end Go.Proofs.Ytkidnomkfdnciaa.All
