/- Functions of the program as plain Lean functions, and proofs that the calls do what these say; written for this claim by a program of the session (wip/tools/mkprint.py), checked by Lean. -/
import Derived.Test.YtkidnomkfdnciaaAllx0
import Derived.Test.YtkidnomkfdnciaaAllx4
import Derived.Test.YtkidnomkfdnciaaAllx34
namespace Go.Proofs.Ytkidnomkfdnciaa.All
open Go.RowKit Go.Proofs.YtkidnomkfdnciaaW.PrintWords Go.Proofs.YtkidnomkfdnciaaW.PrintLast Go.Proofs.YtkidnomkfdnciaaW.PrintMore
attribute [local go_sem] max2_int min2_int max_two min_two max_three min_three max_four min_four   -- for this text's walks alone
set_option linter.unusedVariables false
set_option linter.unusedSimpArgs false

/-! ### roadbooklaw15_SetsJoin: function 3 -/
mutual
def roadbooklaw15_SetsJoin.j0 : Nat → List Int → Int → Int → Int → Int → Bool → List Int → Bool → Option (Bool)
  | 0, _, _, _, _, _, _, _, _ => none
  | k + 1, x0, x1, x2, x3, x4, x11, x12, x29 => if x29 = true then (if x11 = true then ((sets_May.f k x0).bind fun t144 => (if t144 = true then ((sets_Find.f k x0 x1).bind fun t145 => (if t145 = (-1) then (some true) else ((sets_Find.f k x0 x2).bind fun t146 => (some (t146 == (-1)))))) else (some true))) else (some false)) else ((sets_Find.f k x0 x3).bind fun t147 => (if t147 < 0 then (roadbooklaw15_SetsJoin.j1 k x0 x1 x2 x3 x4 x12 true) else ((sets_Find.f k x0 x4).bind fun t148 => (roadbooklaw15_SetsJoin.j1 k x0 x1 x2 x3 x4 x12 (decide (t148 < 0))))))
def roadbooklaw15_SetsJoin.j1 : Nat → List Int → Int → Int → Int → Int → List Int → Bool → Option (Bool)
  | 0, _, _, _, _, _, _, _ => none
  | k + 1, x0, x1, x2, x3, x4, x12, x57 => if x57 = true then ((sets_May.f k x12).bind fun t149 => (if t149 = true then ((sets_Find.f k x12 x1).bind fun t150 => ((sets_Find.f k x12 x2).bind fun t151 => (some (t150 == t151)))) else (some false))) else ((sets_Find.f k x0 x3).bind fun t152 => ((sets_Find.f k x0 x4).bind fun t153 => ((sets_Find.f k x0 x3).bind fun t152 => ((sets_Find.f k x0 x1).bind fun t154 => (if t152 = t154 then ((sets_Find.f k x0 x4).bind fun t153 => ((sets_Find.f k x0 x1).bind fun t154 => (if t153 = t154 then ((sets_May.f k x12).bind fun t155 => (if t155 = true then ((sets_Find.f k x12 x3).bind fun t156 => ((sets_Find.f k x12 x4).bind fun t157 => (if t152 = t153 then (some ((t156 == t157) == true)) else (some ((t156 == t157) == true))))) else (some false))) else ((sets_Find.f k x0 x4).bind fun t153 => ((sets_Find.f k x0 x2).bind fun t158 => ((sets_May.f k x12).bind fun t159 => (if t159 = true then ((sets_Find.f k x12 x3).bind fun t160 => ((sets_Find.f k x12 x4).bind fun t161 => (if t152 = t153 then (some ((t160 == t161) == true)) else (some ((t160 == t161) == (t153 == t158)))))) else (some false)))))))) else ((sets_Find.f k x0 x3).bind fun t152 => ((sets_Find.f k x0 x2).bind fun t162 => (if t152 = t162 then ((sets_Find.f k x0 x4).bind fun t153 => ((sets_Find.f k x0 x1).bind fun t154 => (if t153 = t154 then ((sets_May.f k x12).bind fun t163 => (if t163 = true then ((sets_Find.f k x12 x3).bind fun t164 => ((sets_Find.f k x12 x4).bind fun t165 => (if t152 = t153 then (some ((t164 == t165) == true)) else (some ((t164 == t165) == true))))) else (some false))) else ((sets_Find.f k x0 x4).bind fun t153 => ((sets_Find.f k x0 x2).bind fun t162 => ((sets_May.f k x12).bind fun t166 => (if t166 = true then ((sets_Find.f k x12 x3).bind fun t167 => ((sets_Find.f k x12 x4).bind fun t168 => (if t152 = t153 then (some ((t167 == t168) == true)) else (some ((t167 == t168) == (t153 == t162)))))) else (some false)))))))) else ((sets_May.f k x12).bind fun t169 => (if t169 = true then ((sets_Find.f k x12 x3).bind fun t170 => ((sets_Find.f k x12 x4).bind fun t171 => (if t152 = t153 then (some ((t170 == t171) == true)) else (some ((t170 == t171) == false))))) else (some false)))))))))))
end
def roadbooklaw15_SetsJoin.f (k : Nat) (l0 : List Int) (a1 : Int) (a2 : Int) (a3 : Int) (a4 : Int) : Option (Bool) := (roadbooklaw15_awake.f k).bind fun t139 => ((sets_Join.f k l0 a1 a2).bind fun bt140 => (if t139 = true then (roadbooklaw15_SetsJoin.j0 k l0 a1 a2 a3 a4 t139 bt140.1 (!bt140.2)) else (roadbooklaw15_SetsJoin.j0 k l0 a1 a2 a3 a4 t139 bt140.1 true)))
theorem roadbooklaw15_SetsJoin.mono_l : ∀ k, (∀ y0 y1 y2 y3 y4 y5 y6 y7, LeO (roadbooklaw15_SetsJoin.j0 k y0 y1 y2 y3 y4 y5 y6 y7) (roadbooklaw15_SetsJoin.j0 (k + 1) y0 y1 y2 y3 y4 y5 y6 y7)) ∧ (∀ y0 y1 y2 y3 y4 y5 y6, LeO (roadbooklaw15_SetsJoin.j1 k y0 y1 y2 y3 y4 y5 y6) (roadbooklaw15_SetsJoin.j1 (k + 1) y0 y1 y2 y3 y4 y5 y6))
  | 0 => ⟨fun _ _ _ _ _ _ _ _ r h => by simp [roadbooklaw15_SetsJoin.j0] at h, fun _ _ _ _ _ _ _ r h => by simp [roadbooklaw15_SetsJoin.j1] at h⟩
  | k + 1 => by
    obtain ⟨ih0, ih1⟩ := roadbooklaw15_SetsJoin.mono_l k
    refine ⟨?_, ?_⟩
    · intro y0 y1 y2 y3 y4 y5 y6 y7
      unfold roadbooklaw15_SetsJoin.j0
      repeat' first
      | (with_reducible exact ih0 _ _ _ _ _ _ _ _)
      | (with_reducible exact ih1 _ _ _ _ _ _ _)
      | (with_reducible exact roadbooklaw15_awake.mono _)
      | (with_reducible exact sets_Find.mono _ _ _)
      | (with_reducible exact sets_Join.mono _ _ _ _)
      | (with_reducible exact sets_May.mono _ _)
      | (with_reducible exact LeO.refl _)
      | (with_reducible exact LeO.none _)
      | (with_reducible refine LeO.ite ?_ ?_)
      | (with_reducible refine LeO.bind ?_ (fun _ => ?_))
      | exact ih0 _ _ _ _ _ _ _ _
      | exact ih1 _ _ _ _ _ _ _
      | exact roadbooklaw15_awake.mono _
      | exact sets_Find.mono _ _ _
      | exact sets_Join.mono _ _ _ _
      | exact sets_May.mono _ _
      | exact LeO.none _
      | refine LeO.ite ?_ ?_
      | refine LeO.bind ?_ (fun _ => ?_)
    · intro y0 y1 y2 y3 y4 y5 y6
      unfold roadbooklaw15_SetsJoin.j1
      repeat' first
      | (with_reducible exact ih0 _ _ _ _ _ _ _ _)
      | (with_reducible exact ih1 _ _ _ _ _ _ _)
      | (with_reducible exact roadbooklaw15_awake.mono _)
      | (with_reducible exact sets_Find.mono _ _ _)
      | (with_reducible exact sets_Join.mono _ _ _ _)
      | (with_reducible exact sets_May.mono _ _)
      | (with_reducible exact LeO.refl _)
      | (with_reducible exact LeO.none _)
      | (with_reducible refine LeO.ite ?_ ?_)
      | (with_reducible refine LeO.bind ?_ (fun _ => ?_))
      | exact ih0 _ _ _ _ _ _ _ _
      | exact ih1 _ _ _ _ _ _ _
      | exact roadbooklaw15_awake.mono _
      | exact sets_Find.mono _ _ _
      | exact sets_Join.mono _ _ _ _
      | exact sets_May.mono _ _
      | exact LeO.none _
      | refine LeO.ite ?_ ?_
      | refine LeO.bind ?_ (fun _ => ?_)
theorem roadbooklaw15_SetsJoin.mono : ∀ a0 a1 a2 a3 a4 k, LeO (roadbooklaw15_SetsJoin.f k a0 a1 a2 a3 a4) (roadbooklaw15_SetsJoin.f (k + 1) a0 a1 a2 a3 a4) := by
  intro a0 a1 a2 a3 a4 k
  obtain ⟨ih0, ih1⟩ := roadbooklaw15_SetsJoin.mono_l k
  unfold roadbooklaw15_SetsJoin.f
  repeat' first
      | (with_reducible exact ih0 _ _ _ _ _ _ _ _)
      | (with_reducible exact ih1 _ _ _ _ _ _ _)
      | (with_reducible exact roadbooklaw15_awake.mono _)
      | (with_reducible exact sets_Find.mono _ _ _)
      | (with_reducible exact sets_Join.mono _ _ _ _)
      | (with_reducible exact sets_May.mono _ _)
      | (with_reducible exact LeO.refl _)
      | (with_reducible exact LeO.none _)
      | (with_reducible refine LeO.ite ?_ ?_)
      | (with_reducible refine LeO.bind ?_ (fun _ => ?_))
      | exact ih0 _ _ _ _ _ _ _ _
      | exact ih1 _ _ _ _ _ _ _
      | exact roadbooklaw15_awake.mono _
      | exact sets_Find.mono _ _ _
      | exact sets_Join.mono _ _ _ _
      | exact sets_May.mono _ _
      | exact LeO.none _
      | refine LeO.ite ?_ ?_
      | refine LeO.bind ?_ (fun _ => ?_)
set_option maxHeartbeats 8000000 in
set_option maxRecDepth 100000 in
theorem roadbooklaw15_SetsJoin.calls (k : Nat) (A0 : Option Addr) (c0 : Nat) (l0 : List Int) (a1 : Int) (a2 : Int) (a3 : Int) (a4 : Int) (r : Bool) (w : World) (hr0 : Kd.C (Kd.int .i64) w A0 l0.length l0) (hc0 : l0.length ≤ c0) (hrt : r = true) (h : roadbooklaw15_SetsJoin.f k l0 a1 a2 a3 a4 = some r) :
    Calls Try.prog 3 #[.slice A0 l0.length c0, .int .i64 a1, .int .i64 a2, .int .i64 a3, .int .i64 a4] w fun e w' => e = .returned (.bool r) ∧ Below w.heap.size w w' := by
  have HRT := Aside0.mk hrt
  clear hrt
  have HR0 := Aside0.mk hr0
  have HC0 := Aside0.mk hc0
  clear hr0 hc0
  have HB := Aside0.mk (Below.refl w.heap.size w)
  have H : ((roadbooklaw15_awake.f k).bind fun t139 => ((sets_Join.f k l0 a1 a2).bind fun bt140 => (if t139 = true then (roadbooklaw15_SetsJoin.j0 k l0 a1 a2 a3 a4 t139 bt140.1 (!bt140.2)) else (roadbooklaw15_SetsJoin.j0 k l0 a1 a2 a3 a4 t139 bt140.1 true)))) = some r := h
  clear h
  replace H := Option.bind_eq_some_iff.mp H
  obtain ⟨t139, A60, H⟩ := H
  replace H : ((sets_Join.f k l0 a1 a2).bind fun bt140 => (if t139 = true then (roadbooklaw15_SetsJoin.j0 k l0 a1 a2 a3 a4 t139 bt140.1 (!bt140.2)) else (roadbooklaw15_SetsJoin.j0 k l0 a1 a2 a3 a4 t139 bt140.1 true))) = some r := H
  have A6 := Aside0.mk A60
  clear A60
  replace H := Option.bind_eq_some_iff.mp H
  obtain ⟨⟨t140, t141⟩, A70, H⟩ := H
  replace H : (if t139 = true then (roadbooklaw15_SetsJoin.j0 k l0 a1 a2 a3 a4 t139 t140 (!t141)) else (roadbooklaw15_SetsJoin.j0 k l0 a1 a2 a3 a4 t139 t140 true)) = some r := H
  have A7 := Aside0.mk A70
  clear A70
  have HC8 := Aside0.mk H
  clear H
  go_enter Try.func3, Try.ntmps3
  go_upto_region 3 with (first | ((with_reducible refine gate_callee (f := 23) rfl ?_); refine goesL_ (some 16) rfl rfl Try.func23 (by kernel_rfl) rfl #[] rfl (by (try simp only [List.map_toArray, List.map_cons, List.map_nil]); first | done | rfl | (simp only [List.length_drop, List.length_take]; rfl)) ?_; (with_reducible refine (roadbooklaw15_awake.calls k  t139 _ A6.out).mono ?_); rintro e w9 ⟨rfl, hb⟩; refine ⟨_, rfl, ?_⟩; have n0_ := Aside0.mk (below_step (by repeat (first | (with_reducible first | exact HB.out | apply below_alloc | apply pw_below_drewN | apply below_drew1) | exact HB.out)) hb); clear HB; have HB := n0_; clear n0_; (try clear hb); (try clear hb2); (try clear hk); (try clear hi)) | ((with_reducible refine gate_callee (f := 24) rfl ?_); refine goesL_ (some 21) rfl rfl Try.func24 (by kernel_rfl) rfl #[.slice A0 l0.length c0, .int .i64 a1, .int .i64 a2] rfl (by (try simp only [List.map_toArray, List.map_cons, List.map_nil]); first | done | rfl | (simp only [List.length_drop, List.length_take]; rfl)) ?_; (with_reducible refine (sets_Join.calls k _ _ l0 a1 a2 t140 t141 _ ?side1 ?side2 A7.out).mono ?_); (case side1 => repeat (first | exact (Kd.C_below HR0.out HB.out) | (with_reducible refine Kd.C_alloc ?_ _) | (with_reducible refine Kd.C_drewN ?_ _) | (with_reducible refine Kd.C_drew ?_))); (case side2 => exact HC0.out); rintro e w10 ⟨v142, rfl, ho0, hb⟩; refine ⟨_, rfl, ?_⟩; have n0_ := Aside0.mk (Kd.R_lower ho0 (below_size (by repeat (first | (with_reducible first | exact HB.out | apply below_alloc | apply pw_below_drewN | apply below_drew1) | exact HB.out)))); have n1_ := Aside0.mk (below_step (by repeat (first | (with_reducible first | exact HB.out | apply below_alloc | apply pw_below_drewN | apply below_drew1) | exact HB.out)) hb); clear HB; have HO143 := n0_; have HB := n1_; clear n0_ n1_; (try clear hb); (try clear hb2); (try clear hk); (try clear hi); (try clear ho0)))
  (try simp only [Act.put, List.setIfInBounds_toArray, List.set_cons_zero, List.set_cons_succ])
  go_cut [29] (fun v29 wc => ∃ (kq : Nat) (x29_7 : Bool), v29 = .bool x29_7 ∧ Aside0 (roadbooklaw15_SetsJoin.j0 kq l0 a1 a2 a3 a4 t139 t140 x29_7 = some r) ∧ Aside0 (kq ≤ k) ∧ Aside0 (Kd.R (Kd.int .i64) 3 wc w.heap.size (fun _ => True) v142 t140) ∧ Aside0 (Below w.heap.size w wc))
  case first =>
    have H := HC8.out
    clear HC8
    by_cases c11 : t139 = true
    · subst c11
      have H1 : (roadbooklaw15_SetsJoin.j0 k l0 a1 a2 a3 a4 true t140 (!t141)) = some r := by rw [if_pos rfl] at H; exact H
      clear H
      have H := H1
      clear H1
      have H' := Aside0.mk H
      clear H
      go_wp2
      go_meet
      case rel => exact ⟨_, (!t141), (by first | rfl | (simp; done) | (simp [*]; done)), H', ⟨by first | omega | exact Nat.le_refl _⟩, ⟨by (with_reducible repeat (first | apply Kd.R_alloc | apply Kd.R_drewN | apply Kd.R_drew)); exact HO143.out⟩, ⟨by repeat (first | (with_reducible first | exact HB.out | apply below_alloc | apply pw_below_drewN | apply below_drew1) | exact HB.out)⟩⟩
    · replace c11 := Bool.eq_false_iff.mpr c11
      subst c11
      have H1 : (roadbooklaw15_SetsJoin.j0 k l0 a1 a2 a3 a4 false t140 true) = some r := by rw [if_neg (show ¬ (false = true) by decide)] at H; exact H
      clear H
      have H := H1
      clear H1
      have H' := Aside0.mk H
      clear H
      go_wp2
      go_meet
      case rel => exact ⟨_, (true), (by first | rfl | (simp; done) | (simp [*]; done)), H', ⟨by first | omega | exact Nat.le_refl _⟩, ⟨by (with_reducible repeat (first | apply Kd.R_alloc | apply Kd.R_drewN | apply Kd.R_drew)); exact HO143.out⟩, ⟨by repeat (first | (with_reducible first | exact HB.out | apply below_alloc | apply pw_below_drewN | apply below_drew1) | exact HB.out)⟩⟩
  case rest =>
    clear HC8
    try clear c1
    try clear c2
    try clear p2
    try clear c3
    try clear c11
    obtain ⟨kq, x29_7, rfl, HA, HJ7, HO_12, HB⟩ := hcut
    cases kq with
    | zero => exact absurd HA.out (by simp [roadbooklaw15_SetsJoin.j0])
    | succ kj7 =>
      have H := HA.out
      clear HA
      simp only [roadbooklaw15_SetsJoin.j0] at H
      by_cases c12 : x29_7 = true
      · subst c12
        have H1 : (if t139 = true then ((sets_May.f kj7 l0).bind fun t144 => (if t144 = true then ((sets_Find.f kj7 l0 a1).bind fun t145 => (if t145 = (-1) then (some true) else ((sets_Find.f kj7 l0 a2).bind fun t146 => (some (t146 == (-1)))))) else (some true))) else (some false)) = some r := by rw [if_pos rfl] at H; exact H
        clear H
        have H := H1
        clear H1
        by_cases c13 : t139 = true
        · subst c13
          have H1 : ((sets_May.f kj7 l0).bind fun t144 => (if t144 = true then ((sets_Find.f kj7 l0 a1).bind fun t145 => (if t145 = (-1) then (some true) else ((sets_Find.f kj7 l0 a2).bind fun t146 => (some (t146 == (-1)))))) else (some true))) = some r := by rw [if_pos rfl] at H; exact H
          clear H
          have H := H1
          clear H1
          replace H := Option.bind_eq_some_iff.mp H
          obtain ⟨t144, A140, H⟩ := H
          replace H : (if t144 = true then ((sets_Find.f kj7 l0 a1).bind fun t145 => (if t145 = (-1) then (some true) else ((sets_Find.f kj7 l0 a2).bind fun t146 => (some (t146 == (-1)))))) else (some true)) = some r := H
          have A14 := Aside0.mk A140
          clear A140
          by_cases c15 : t144 = true
          · subst c15
            have H1 : ((sets_Find.f kj7 l0 a1).bind fun t145 => (if t145 = (-1) then (some true) else ((sets_Find.f kj7 l0 a2).bind fun t146 => (some (t146 == (-1)))))) = some r := by rw [if_pos rfl] at H; exact H
            clear H
            have H := H1
            clear H1
            replace H := Option.bind_eq_some_iff.mp H
            obtain ⟨t145, A160, H⟩ := H
            replace H : (if t145 = (-1) then (some true) else ((sets_Find.f kj7 l0 a2).bind fun t146 => (some (t146 == (-1))))) = some r := H
            have A16 := Aside0.mk A160
            clear A160
            by_cases c17 : t145 = (-1)
            · rw [if_pos c17] at H
              have c17b0 : (t145 == (-1)) = true := beq_iff_eq.mpr c17
              have c17b1 : (t145 != (-1)) = false := bne_eq_false_iff_eq.mpr c17
              clear c17
              obtain rfl := Option.some.inj H
              go_wp2_with (first | (go_at_call 25; (with_reducible refine (sets_May.calls kj7 _ _ l0 true _ ?side1 ?side2 A14.out).mono ?_); (case side1 => repeat (first | exact (Kd.C_below HR0.out HB.out) | (with_reducible refine Kd.C_alloc ?_ _) | (with_reducible refine Kd.C_drewN ?_ _) | (with_reducible refine Kd.C_drew ?_))); (case side2 => exact HC0.out); rintro e w' ⟨rfl, ⟨nd, rfl⟩⟩) | (go_at_call 26; (with_reducible refine (sets_Find.calls kj7 _ _ l0 a1 t145 _ ?side1 ?side2 A16.out).mono ?_); (case side1 => repeat (first | exact (Kd.C_below HR0.out (by repeat (first | (with_reducible first | exact HB.out | apply below_alloc | apply pw_below_drewN | apply below_drew1) | exact HB.out))) | (with_reducible refine Kd.C_alloc ?_ _) | (with_reducible refine Kd.C_drewN ?_ _) | (with_reducible refine Kd.C_drew ?_))); (case side2 => exact HC0.out); rintro e w' ⟨rfl, ⟨nd, rfl⟩⟩))
              go_ret
              exact ⟨by first | rfl | (simp [errW_none, errW_some] <;> rfl) | (simp [*, errW_none, errW_some] <;> rfl), by repeat (first | (with_reducible first | exact HB.out | apply below_alloc | apply pw_below_drewN | apply below_drew1) | exact HB.out)⟩
            · rw [if_neg c17] at H
              have c17b0 : (t145 == (-1)) = false := beq_eq_false_iff_ne.mpr c17
              have c17b1 : (t145 != (-1)) = true := bne_iff_ne.mpr c17
              replace H := Option.bind_eq_some_iff.mp H
              obtain ⟨t146, A180, H⟩ := H
              replace H : (some (t146 == (-1))) = some r := H
              have A18 := Aside0.mk A180
              clear A180
              obtain rfl := Option.some.inj H
              go_wp2_with (first | (go_at_call 25; (with_reducible refine (sets_May.calls kj7 _ _ l0 true _ ?side1 ?side2 A14.out).mono ?_); (case side1 => repeat (first | exact (Kd.C_below HR0.out HB.out) | (with_reducible refine Kd.C_alloc ?_ _) | (with_reducible refine Kd.C_drewN ?_ _) | (with_reducible refine Kd.C_drew ?_))); (case side2 => exact HC0.out); rintro e w' ⟨rfl, ⟨nd, rfl⟩⟩) | (go_at_call 26; (with_reducible refine (sets_Find.calls kj7 _ _ l0 a1 t145 _ ?side1 ?side2 A16.out).mono ?_); (case side1 => repeat (first | exact (Kd.C_below HR0.out (by repeat (first | (with_reducible first | exact HB.out | apply below_alloc | apply pw_below_drewN | apply below_drew1) | exact HB.out))) | (with_reducible refine Kd.C_alloc ?_ _) | (with_reducible refine Kd.C_drewN ?_ _) | (with_reducible refine Kd.C_drew ?_))); (case side2 => exact HC0.out); rintro e w' ⟨rfl, ⟨nd, rfl⟩⟩) | (go_at_call 26; (with_reducible refine (sets_Find.calls kj7 _ _ l0 a2 t146 _ ?side1 ?side2 A18.out).mono ?_); (case side1 => repeat (first | exact (Kd.C_below HR0.out (by repeat (first | (with_reducible first | exact HB.out | apply below_alloc | apply pw_below_drewN | apply below_drew1) | exact HB.out))) | (with_reducible refine Kd.C_alloc ?_ _) | (with_reducible refine Kd.C_drewN ?_ _) | (with_reducible refine Kd.C_drew ?_))); (case side2 => exact HC0.out); rintro e w' ⟨rfl, ⟨nd, rfl⟩⟩))
              go_ret
              exact ⟨by first | rfl | (simp [errW_none, errW_some] <;> rfl) | (simp [*, errW_none, errW_some] <;> rfl), by repeat (first | (with_reducible first | exact HB.out | apply below_alloc | apply pw_below_drewN | apply below_drew1) | exact HB.out)⟩
          · replace c15 := Bool.eq_false_iff.mpr c15
            subst c15
            have H1 : (some true) = some r := by rw [if_neg (show ¬ (false = true) by decide)] at H; exact H
            clear H
            have H := H1
            clear H1
            obtain rfl := Option.some.inj H
            go_wp2_with (first | (go_at_call 25; (with_reducible refine (sets_May.calls kj7 _ _ l0 false _ ?side1 ?side2 A14.out).mono ?_); (case side1 => repeat (first | exact (Kd.C_below HR0.out HB.out) | (with_reducible refine Kd.C_alloc ?_ _) | (with_reducible refine Kd.C_drewN ?_ _) | (with_reducible refine Kd.C_drew ?_))); (case side2 => exact HC0.out); rintro e w' ⟨rfl, ⟨nd, rfl⟩⟩))
            go_ret
            exact ⟨by first | rfl | (simp [errW_none, errW_some] <;> rfl) | (simp [*, errW_none, errW_some] <;> rfl), by repeat (first | (with_reducible first | exact HB.out | apply below_alloc | apply pw_below_drewN | apply below_drew1) | exact HB.out)⟩
        · replace c13 := Bool.eq_false_iff.mpr c13
          subst c13
          have H1 : (some false) = some r := by rw [if_neg (show ¬ (false = true) by decide)] at H; exact H
          clear H
          have H := H1
          clear H1
          exact absurd (HRT.out.symm.trans (Option.some.inj H).symm) (by decide)
      · replace c12 := Bool.eq_false_iff.mpr c12
        subst c12
        have H1 : ((sets_Find.f kj7 l0 a3).bind fun t147 => (if t147 < 0 then (roadbooklaw15_SetsJoin.j1 kj7 l0 a1 a2 a3 a4 t140 true) else ((sets_Find.f kj7 l0 a4).bind fun t148 => (roadbooklaw15_SetsJoin.j1 kj7 l0 a1 a2 a3 a4 t140 (decide (t148 < 0)))))) = some r := by rw [if_neg (show ¬ (false = true) by decide)] at H; exact H
        clear H
        have H := H1
        clear H1
        have HC19 := Aside0.mk H
        clear H
        go_upto_region 5 with (fail)
        go_cut [57] (fun v57 wc => ∃ (kq : Nat) (x57_18 : Bool), v57 = .bool x57_18 ∧ Aside0 (roadbooklaw15_SetsJoin.j1 kq l0 a1 a2 a3 a4 t140 x57_18 = some r) ∧ Aside0 (kq ≤ kj7) ∧ Aside0 (Kd.R (Kd.int .i64) 3 wc w.heap.size (fun _ => True) v142 t140) ∧ Aside0 (Below w.heap.size w wc))
        case first =>
          have H := HC19.out
          clear HC19
          replace H := Option.bind_eq_some_iff.mp H
          obtain ⟨t147, A200, H⟩ := H
          replace H : (if t147 < 0 then (roadbooklaw15_SetsJoin.j1 kj7 l0 a1 a2 a3 a4 t140 true) else ((sets_Find.f kj7 l0 a4).bind fun t148 => (roadbooklaw15_SetsJoin.j1 kj7 l0 a1 a2 a3 a4 t140 (decide (t148 < 0))))) = some r := H
          have A20 := Aside0.mk A200
          clear A200
          by_cases c21 : t147 < 0
          · rw [if_pos c21] at H
            have c21b0 : decide (t147 < 0) = true := decide_eq_true c21
            clear c21
            (first | rw [c21b0] | (simp only [i64_w, i32_w]; rw [c21b0]) | skip)
            have H' := Aside0.mk H
            clear H
            go_wp2_with (first | ((with_reducible refine gate_callee (f := 26) rfl ?_); refine goesL_ (some 50) rfl rfl Try.func26 (by kernel_rfl) rfl #[.slice A0 l0.length c0, .int .i64 a3] rfl (by (try simp only [List.map_toArray, List.map_cons, List.map_nil]); first | done | rfl | (simp only [List.length_drop, List.length_take]; rfl)) ?_; (with_reducible refine (sets_Find.calls kj7 _ _ l0 a3 t147 _ ?side1 ?side2 A20.out).mono ?_); (case side1 => repeat (first | exact (Kd.C_below HR0.out HB.out) | (with_reducible refine Kd.C_alloc ?_ _) | (with_reducible refine Kd.C_drewN ?_ _) | (with_reducible refine Kd.C_drew ?_))); (case side2 => exact HC0.out); rintro e w' ⟨rfl, ⟨nd, rfl⟩⟩; refine ⟨_, rfl, ?_⟩))
            go_meet
            case rel => exact ⟨_, (true), (by first | rfl | (simp; done) | (simp [*]; done)), H', ⟨by have := HJ7.out; first | omega | exact Nat.le_refl _⟩, ⟨by (with_reducible repeat (first | apply Kd.R_alloc | apply Kd.R_drewN | apply Kd.R_drew)); exact HO_12.out⟩, ⟨by repeat (first | (with_reducible first | exact HB.out | apply below_alloc | apply pw_below_drewN | apply below_drew1) | exact HB.out)⟩⟩
          · rw [if_neg c21] at H
            have c21b0 : decide (t147 < 0) = false := decide_eq_false c21
            clear c21
            (first | rw [c21b0] | (simp only [i64_w, i32_w]; rw [c21b0]) | skip)
            replace H := Option.bind_eq_some_iff.mp H
            obtain ⟨t148, A220, H⟩ := H
            replace H : (roadbooklaw15_SetsJoin.j1 kj7 l0 a1 a2 a3 a4 t140 (decide (t148 < 0))) = some r := H
            have A22 := Aside0.mk A220
            clear A220
            have H' := Aside0.mk H
            clear H
            go_wp2_with (first | ((with_reducible refine gate_callee (f := 26) rfl ?_); refine goesL_ (some 50) rfl rfl Try.func26 (by kernel_rfl) rfl #[.slice A0 l0.length c0, .int .i64 a3] rfl (by (try simp only [List.map_toArray, List.map_cons, List.map_nil]); first | done | rfl | (simp only [List.length_drop, List.length_take]; rfl)) ?_; (with_reducible refine (sets_Find.calls kj7 _ _ l0 a3 t147 _ ?side1 ?side2 A20.out).mono ?_); (case side1 => repeat (first | exact (Kd.C_below HR0.out HB.out) | (with_reducible refine Kd.C_alloc ?_ _) | (with_reducible refine Kd.C_drewN ?_ _) | (with_reducible refine Kd.C_drew ?_))); (case side2 => exact HC0.out); rintro e w' ⟨rfl, ⟨nd, rfl⟩⟩; refine ⟨_, rfl, ?_⟩) | (go_at_call 26; (with_reducible refine (sets_Find.calls kj7 _ _ l0 a4 t148 _ ?side1 ?side2 A22.out).mono ?_); (case side1 => repeat (first | exact (Kd.C_below HR0.out (by repeat (first | (with_reducible first | exact HB.out | apply below_alloc | apply pw_below_drewN | apply below_drew1) | exact HB.out))) | (with_reducible refine Kd.C_alloc ?_ _) | (with_reducible refine Kd.C_drewN ?_ _) | (with_reducible refine Kd.C_drew ?_))); (case side2 => exact HC0.out); rintro e w' ⟨rfl, ⟨nd, rfl⟩⟩))
            go_meet
            case rel => exact ⟨_, (decide (t148 < 0)), (by first | rfl | (simp; done) | (simp [*]; done)), H', ⟨by have := HJ7.out; first | omega | exact Nat.le_refl _⟩, ⟨by (with_reducible repeat (first | apply Kd.R_alloc | apply Kd.R_drewN | apply Kd.R_drew)); exact HO_12.out⟩, ⟨by repeat (first | (with_reducible first | exact HB.out | apply below_alloc | apply pw_below_drewN | apply below_drew1) | exact HB.out)⟩⟩
        case rest =>
          clear HC19
          try clear c1
          try clear c2
          try clear p2
          try clear c3
          try clear c11
          try clear c12
          try clear c13
          try clear c15
          try clear c17
          try clear c17b0
          try clear c17b1
          try clear c21
          try clear c21b0
          try clear p2
          obtain ⟨kq, x57_18, rfl, HA, HJ18, HO_12, HB⟩ := hcut
          cases kq with
          | zero => exact absurd HA.out (by simp [roadbooklaw15_SetsJoin.j1])
          | succ kj18 =>
            have H := HA.out
            clear HA
            simp only [roadbooklaw15_SetsJoin.j1] at H
            by_cases c23 : x57_18 = true
            · subst c23
              have H1 : ((sets_May.f kj18 t140).bind fun t149 => (if t149 = true then ((sets_Find.f kj18 t140 a1).bind fun t150 => ((sets_Find.f kj18 t140 a2).bind fun t151 => (some (t150 == t151)))) else (some false))) = some r := by rw [if_pos rfl] at H; exact H
              clear H
              have H := H1
              clear H1
              replace H := Option.bind_eq_some_iff.mp H
              obtain ⟨t149, A240, H⟩ := H
              replace H : (if t149 = true then ((sets_Find.f kj18 t140 a1).bind fun t150 => ((sets_Find.f kj18 t140 a2).bind fun t151 => (some (t150 == t151)))) else (some false)) = some r := H
              have A24 := Aside0.mk A240
              clear A240
              by_cases c25 : t149 = true
              · subst c25
                have H1 : ((sets_Find.f kj18 t140 a1).bind fun t150 => ((sets_Find.f kj18 t140 a2).bind fun t151 => (some (t150 == t151)))) = some r := by rw [if_pos rfl] at H; exact H
                clear H
                have H := H1
                clear H1
                replace H := Option.bind_eq_some_iff.mp H
                obtain ⟨t150, A260, H⟩ := H
                replace H : ((sets_Find.f kj18 t140 a2).bind fun t151 => (some (t150 == t151))) = some r := H
                have A26 := Aside0.mk A260
                clear A260
                replace H := Option.bind_eq_some_iff.mp H
                obtain ⟨t151, A270, H⟩ := H
                replace H : (some (t150 == t151)) = some r := H
                have A27 := Aside0.mk A270
                clear A270
                obtain rfl := Option.some.inj H
                obtain ⟨Ao28, co28, eo28⟩ := Kd.R_slice HO_12.out
                subst eo28
                go_wp2_with (first | ((with_reducible refine gate_callee (f := 25) rfl ?_); refine goesL_ (some 59) rfl rfl Try.func25 (by kernel_rfl) rfl #[.slice Ao28 t140.length co28] rfl (by (try simp only [List.map_toArray, List.map_cons, List.map_nil]); first | done | rfl | (simp only [List.length_drop, List.length_take]; rfl)) ?_; (with_reducible refine (sets_May.calls kj18 _ _ t140 true _ ?side1 ?side2 A24.out).mono ?_); (case side1 => repeat (first | exact (Kd.R_reads' HO_12.out).2.2 | (with_reducible refine Kd.C_alloc ?_ _) | (with_reducible refine Kd.C_drewN ?_ _) | (with_reducible refine Kd.C_drew ?_))); (case side2 => exact (Kd.R_reads' HO_12.out).2.1); rintro e w' ⟨rfl, ⟨nd, rfl⟩⟩; refine ⟨_, rfl, ?_⟩) | (go_at_call 26; (with_reducible refine (sets_Find.calls kj18 _ _ t140 a1 t150 _ ?side1 ?side2 A26.out).mono ?_); (case side1 => repeat (first | exact (Kd.R_reads' HO_12.out).2.2 | (with_reducible refine Kd.C_alloc ?_ _) | (with_reducible refine Kd.C_drewN ?_ _) | (with_reducible refine Kd.C_drew ?_))); (case side2 => exact (Kd.R_reads' HO_12.out).2.1); rintro e w' ⟨rfl, ⟨nd, rfl⟩⟩) | (go_at_call 26; (with_reducible refine (sets_Find.calls kj18 _ _ t140 a2 t151 _ ?side1 ?side2 A27.out).mono ?_); (case side1 => repeat (first | exact (Kd.R_reads' HO_12.out).2.2 | (with_reducible refine Kd.C_alloc ?_ _) | (with_reducible refine Kd.C_drewN ?_ _) | (with_reducible refine Kd.C_drew ?_))); (case side2 => exact (Kd.R_reads' HO_12.out).2.1); rintro e w' ⟨rfl, ⟨nd, rfl⟩⟩))
                go_ret
                exact ⟨by first | rfl | (simp [errW_none, errW_some] <;> rfl) | (simp [*, errW_none, errW_some] <;> rfl), by repeat (first | (with_reducible first | exact HB.out | apply below_alloc | apply pw_below_drewN | apply below_drew1) | exact HB.out)⟩
              · replace c25 := Bool.eq_false_iff.mpr c25
                subst c25
                have H1 : (some false) = some r := by rw [if_neg (show ¬ (false = true) by decide)] at H; exact H
                clear H
                have H := H1
                clear H1
                exact absurd (HRT.out.symm.trans (Option.some.inj H).symm) (by decide)
            · replace c23 := Bool.eq_false_iff.mpr c23
              subst c23
              have H1 : ((sets_Find.f kj18 l0 a3).bind fun t152 => ((sets_Find.f kj18 l0 a4).bind fun t153 => ((sets_Find.f kj18 l0 a3).bind fun t152 => ((sets_Find.f kj18 l0 a1).bind fun t154 => (if t152 = t154 then ((sets_Find.f kj18 l0 a4).bind fun t153 => ((sets_Find.f kj18 l0 a1).bind fun t154 => (if t153 = t154 then ((sets_May.f kj18 t140).bind fun t155 => (if t155 = true then ((sets_Find.f kj18 t140 a3).bind fun t156 => ((sets_Find.f kj18 t140 a4).bind fun t157 => (if t152 = t153 then (some ((t156 == t157) == true)) else (some ((t156 == t157) == true))))) else (some false))) else ((sets_Find.f kj18 l0 a4).bind fun t153 => ((sets_Find.f kj18 l0 a2).bind fun t158 => ((sets_May.f kj18 t140).bind fun t159 => (if t159 = true then ((sets_Find.f kj18 t140 a3).bind fun t160 => ((sets_Find.f kj18 t140 a4).bind fun t161 => (if t152 = t153 then (some ((t160 == t161) == true)) else (some ((t160 == t161) == (t153 == t158)))))) else (some false)))))))) else ((sets_Find.f kj18 l0 a3).bind fun t152 => ((sets_Find.f kj18 l0 a2).bind fun t162 => (if t152 = t162 then ((sets_Find.f kj18 l0 a4).bind fun t153 => ((sets_Find.f kj18 l0 a1).bind fun t154 => (if t153 = t154 then ((sets_May.f kj18 t140).bind fun t163 => (if t163 = true then ((sets_Find.f kj18 t140 a3).bind fun t164 => ((sets_Find.f kj18 t140 a4).bind fun t165 => (if t152 = t153 then (some ((t164 == t165) == true)) else (some ((t164 == t165) == true))))) else (some false))) else ((sets_Find.f kj18 l0 a4).bind fun t153 => ((sets_Find.f kj18 l0 a2).bind fun t162 => ((sets_May.f kj18 t140).bind fun t166 => (if t166 = true then ((sets_Find.f kj18 t140 a3).bind fun t167 => ((sets_Find.f kj18 t140 a4).bind fun t168 => (if t152 = t153 then (some ((t167 == t168) == true)) else (some ((t167 == t168) == (t153 == t162)))))) else (some false)))))))) else ((sets_May.f kj18 t140).bind fun t169 => (if t169 = true then ((sets_Find.f kj18 t140 a3).bind fun t170 => ((sets_Find.f kj18 t140 a4).bind fun t171 => (if t152 = t153 then (some ((t170 == t171) == true)) else (some ((t170 == t171) == false))))) else (some false))))))))))) = some r := by rw [if_neg (show ¬ (false = true) by decide)] at H; exact H
              clear H
              have H := H1
              clear H1
              replace H := Option.bind_eq_some_iff.mp H
              obtain ⟨t152, A290, H⟩ := H
              replace H : ((sets_Find.f kj18 l0 a4).bind fun t153 => ((sets_Find.f kj18 l0 a3).bind fun t152 => ((sets_Find.f kj18 l0 a1).bind fun t154 => (if t152 = t154 then ((sets_Find.f kj18 l0 a4).bind fun t153 => ((sets_Find.f kj18 l0 a1).bind fun t154 => (if t153 = t154 then ((sets_May.f kj18 t140).bind fun t155 => (if t155 = true then ((sets_Find.f kj18 t140 a3).bind fun t156 => ((sets_Find.f kj18 t140 a4).bind fun t157 => (if t152 = t153 then (some ((t156 == t157) == true)) else (some ((t156 == t157) == true))))) else (some false))) else ((sets_Find.f kj18 l0 a4).bind fun t153 => ((sets_Find.f kj18 l0 a2).bind fun t158 => ((sets_May.f kj18 t140).bind fun t159 => (if t159 = true then ((sets_Find.f kj18 t140 a3).bind fun t160 => ((sets_Find.f kj18 t140 a4).bind fun t161 => (if t152 = t153 then (some ((t160 == t161) == true)) else (some ((t160 == t161) == (t153 == t158)))))) else (some false)))))))) else ((sets_Find.f kj18 l0 a3).bind fun t152 => ((sets_Find.f kj18 l0 a2).bind fun t162 => (if t152 = t162 then ((sets_Find.f kj18 l0 a4).bind fun t153 => ((sets_Find.f kj18 l0 a1).bind fun t154 => (if t153 = t154 then ((sets_May.f kj18 t140).bind fun t163 => (if t163 = true then ((sets_Find.f kj18 t140 a3).bind fun t164 => ((sets_Find.f kj18 t140 a4).bind fun t165 => (if t152 = t153 then (some ((t164 == t165) == true)) else (some ((t164 == t165) == true))))) else (some false))) else ((sets_Find.f kj18 l0 a4).bind fun t153 => ((sets_Find.f kj18 l0 a2).bind fun t162 => ((sets_May.f kj18 t140).bind fun t166 => (if t166 = true then ((sets_Find.f kj18 t140 a3).bind fun t167 => ((sets_Find.f kj18 t140 a4).bind fun t168 => (if t152 = t153 then (some ((t167 == t168) == true)) else (some ((t167 == t168) == (t153 == t162)))))) else (some false)))))))) else ((sets_May.f kj18 t140).bind fun t169 => (if t169 = true then ((sets_Find.f kj18 t140 a3).bind fun t170 => ((sets_Find.f kj18 t140 a4).bind fun t171 => (if t152 = t153 then (some ((t170 == t171) == true)) else (some ((t170 == t171) == false))))) else (some false)))))))))) = some r := H
              have A29 := Aside0.mk A290
              clear A290
              replace H := Option.bind_eq_some_iff.mp H
              obtain ⟨t153, A300, H⟩ := H
              replace H : ((sets_Find.f kj18 l0 a3).bind fun t152 => ((sets_Find.f kj18 l0 a1).bind fun t154 => (if t152 = t154 then ((sets_Find.f kj18 l0 a4).bind fun t153 => ((sets_Find.f kj18 l0 a1).bind fun t154 => (if t153 = t154 then ((sets_May.f kj18 t140).bind fun t155 => (if t155 = true then ((sets_Find.f kj18 t140 a3).bind fun t156 => ((sets_Find.f kj18 t140 a4).bind fun t157 => (if t152 = t153 then (some ((t156 == t157) == true)) else (some ((t156 == t157) == true))))) else (some false))) else ((sets_Find.f kj18 l0 a4).bind fun t153 => ((sets_Find.f kj18 l0 a2).bind fun t158 => ((sets_May.f kj18 t140).bind fun t159 => (if t159 = true then ((sets_Find.f kj18 t140 a3).bind fun t160 => ((sets_Find.f kj18 t140 a4).bind fun t161 => (if t152 = t153 then (some ((t160 == t161) == true)) else (some ((t160 == t161) == (t153 == t158)))))) else (some false)))))))) else ((sets_Find.f kj18 l0 a3).bind fun t152 => ((sets_Find.f kj18 l0 a2).bind fun t162 => (if t152 = t162 then ((sets_Find.f kj18 l0 a4).bind fun t153 => ((sets_Find.f kj18 l0 a1).bind fun t154 => (if t153 = t154 then ((sets_May.f kj18 t140).bind fun t163 => (if t163 = true then ((sets_Find.f kj18 t140 a3).bind fun t164 => ((sets_Find.f kj18 t140 a4).bind fun t165 => (if t152 = t153 then (some ((t164 == t165) == true)) else (some ((t164 == t165) == true))))) else (some false))) else ((sets_Find.f kj18 l0 a4).bind fun t153 => ((sets_Find.f kj18 l0 a2).bind fun t162 => ((sets_May.f kj18 t140).bind fun t166 => (if t166 = true then ((sets_Find.f kj18 t140 a3).bind fun t167 => ((sets_Find.f kj18 t140 a4).bind fun t168 => (if t152 = t153 then (some ((t167 == t168) == true)) else (some ((t167 == t168) == (t153 == t162)))))) else (some false)))))))) else ((sets_May.f kj18 t140).bind fun t169 => (if t169 = true then ((sets_Find.f kj18 t140 a3).bind fun t170 => ((sets_Find.f kj18 t140 a4).bind fun t171 => (if t152 = t153 then (some ((t170 == t171) == true)) else (some ((t170 == t171) == false))))) else (some false))))))))) = some r := H
              have A30 := Aside0.mk A300
              clear A300
              replace H := Option.bind_eq_some_iff.mp H
              obtain ⟨t152q_, A310, H⟩ := H
              have e_ := Option.some.inj (A29.out.symm.trans A310)
              obtain rfl := e_
              skip
              replace H : ((sets_Find.f kj18 l0 a1).bind fun t154 => (if t152 = t154 then ((sets_Find.f kj18 l0 a4).bind fun t153 => ((sets_Find.f kj18 l0 a1).bind fun t154 => (if t153 = t154 then ((sets_May.f kj18 t140).bind fun t155 => (if t155 = true then ((sets_Find.f kj18 t140 a3).bind fun t156 => ((sets_Find.f kj18 t140 a4).bind fun t157 => (if t152 = t153 then (some ((t156 == t157) == true)) else (some ((t156 == t157) == true))))) else (some false))) else ((sets_Find.f kj18 l0 a4).bind fun t153 => ((sets_Find.f kj18 l0 a2).bind fun t158 => ((sets_May.f kj18 t140).bind fun t159 => (if t159 = true then ((sets_Find.f kj18 t140 a3).bind fun t160 => ((sets_Find.f kj18 t140 a4).bind fun t161 => (if t152 = t153 then (some ((t160 == t161) == true)) else (some ((t160 == t161) == (t153 == t158)))))) else (some false)))))))) else ((sets_Find.f kj18 l0 a3).bind fun t152 => ((sets_Find.f kj18 l0 a2).bind fun t162 => (if t152 = t162 then ((sets_Find.f kj18 l0 a4).bind fun t153 => ((sets_Find.f kj18 l0 a1).bind fun t154 => (if t153 = t154 then ((sets_May.f kj18 t140).bind fun t163 => (if t163 = true then ((sets_Find.f kj18 t140 a3).bind fun t164 => ((sets_Find.f kj18 t140 a4).bind fun t165 => (if t152 = t153 then (some ((t164 == t165) == true)) else (some ((t164 == t165) == true))))) else (some false))) else ((sets_Find.f kj18 l0 a4).bind fun t153 => ((sets_Find.f kj18 l0 a2).bind fun t162 => ((sets_May.f kj18 t140).bind fun t166 => (if t166 = true then ((sets_Find.f kj18 t140 a3).bind fun t167 => ((sets_Find.f kj18 t140 a4).bind fun t168 => (if t152 = t153 then (some ((t167 == t168) == true)) else (some ((t167 == t168) == (t153 == t162)))))) else (some false)))))))) else ((sets_May.f kj18 t140).bind fun t169 => (if t169 = true then ((sets_Find.f kj18 t140 a3).bind fun t170 => ((sets_Find.f kj18 t140 a4).bind fun t171 => (if t152 = t153 then (some ((t170 == t171) == true)) else (some ((t170 == t171) == false))))) else (some false)))))))) = some r := H
              have A31 := Aside0.mk A310
              clear A310
              replace H := Option.bind_eq_some_iff.mp H
              obtain ⟨t154, A320, H⟩ := H
              replace H : (if t152 = t154 then ((sets_Find.f kj18 l0 a4).bind fun t153 => ((sets_Find.f kj18 l0 a1).bind fun t154 => (if t153 = t154 then ((sets_May.f kj18 t140).bind fun t155 => (if t155 = true then ((sets_Find.f kj18 t140 a3).bind fun t156 => ((sets_Find.f kj18 t140 a4).bind fun t157 => (if t152 = t153 then (some ((t156 == t157) == true)) else (some ((t156 == t157) == true))))) else (some false))) else ((sets_Find.f kj18 l0 a4).bind fun t153 => ((sets_Find.f kj18 l0 a2).bind fun t158 => ((sets_May.f kj18 t140).bind fun t159 => (if t159 = true then ((sets_Find.f kj18 t140 a3).bind fun t160 => ((sets_Find.f kj18 t140 a4).bind fun t161 => (if t152 = t153 then (some ((t160 == t161) == true)) else (some ((t160 == t161) == (t153 == t158)))))) else (some false)))))))) else ((sets_Find.f kj18 l0 a3).bind fun t152 => ((sets_Find.f kj18 l0 a2).bind fun t162 => (if t152 = t162 then ((sets_Find.f kj18 l0 a4).bind fun t153 => ((sets_Find.f kj18 l0 a1).bind fun t154 => (if t153 = t154 then ((sets_May.f kj18 t140).bind fun t163 => (if t163 = true then ((sets_Find.f kj18 t140 a3).bind fun t164 => ((sets_Find.f kj18 t140 a4).bind fun t165 => (if t152 = t153 then (some ((t164 == t165) == true)) else (some ((t164 == t165) == true))))) else (some false))) else ((sets_Find.f kj18 l0 a4).bind fun t153 => ((sets_Find.f kj18 l0 a2).bind fun t162 => ((sets_May.f kj18 t140).bind fun t166 => (if t166 = true then ((sets_Find.f kj18 t140 a3).bind fun t167 => ((sets_Find.f kj18 t140 a4).bind fun t168 => (if t152 = t153 then (some ((t167 == t168) == true)) else (some ((t167 == t168) == (t153 == t162)))))) else (some false)))))))) else ((sets_May.f kj18 t140).bind fun t169 => (if t169 = true then ((sets_Find.f kj18 t140 a3).bind fun t170 => ((sets_Find.f kj18 t140 a4).bind fun t171 => (if t152 = t153 then (some ((t170 == t171) == true)) else (some ((t170 == t171) == false))))) else (some false))))))) = some r := H
              have A32 := Aside0.mk A320
              clear A320
              by_cases c33 : t152 = t154
              · rw [if_pos c33] at H
                have c33b0 : (t152 == t154) = true := beq_iff_eq.mpr c33
                have c33b1 : (t152 != t154) = false := bne_eq_false_iff_eq.mpr c33
                clear c33
                replace H := Option.bind_eq_some_iff.mp H
                obtain ⟨t153q_, A340, H⟩ := H
                have e_ := Option.some.inj (A30.out.symm.trans A340)
                obtain rfl := e_
                skip
                replace H : ((sets_Find.f kj18 l0 a1).bind fun t154 => (if t153 = t154 then ((sets_May.f kj18 t140).bind fun t155 => (if t155 = true then ((sets_Find.f kj18 t140 a3).bind fun t156 => ((sets_Find.f kj18 t140 a4).bind fun t157 => (if t152 = t153 then (some ((t156 == t157) == true)) else (some ((t156 == t157) == true))))) else (some false))) else ((sets_Find.f kj18 l0 a4).bind fun t153 => ((sets_Find.f kj18 l0 a2).bind fun t158 => ((sets_May.f kj18 t140).bind fun t159 => (if t159 = true then ((sets_Find.f kj18 t140 a3).bind fun t160 => ((sets_Find.f kj18 t140 a4).bind fun t161 => (if t152 = t153 then (some ((t160 == t161) == true)) else (some ((t160 == t161) == (t153 == t158)))))) else (some false))))))) = some r := H
                have A34 := Aside0.mk A340
                clear A340
                replace H := Option.bind_eq_some_iff.mp H
                obtain ⟨t154q_, A350, H⟩ := H
                have e_ := Option.some.inj (A32.out.symm.trans A350)
                obtain rfl := e_
                skip
                replace H : (if t153 = t154 then ((sets_May.f kj18 t140).bind fun t155 => (if t155 = true then ((sets_Find.f kj18 t140 a3).bind fun t156 => ((sets_Find.f kj18 t140 a4).bind fun t157 => (if t152 = t153 then (some ((t156 == t157) == true)) else (some ((t156 == t157) == true))))) else (some false))) else ((sets_Find.f kj18 l0 a4).bind fun t153 => ((sets_Find.f kj18 l0 a2).bind fun t158 => ((sets_May.f kj18 t140).bind fun t159 => (if t159 = true then ((sets_Find.f kj18 t140 a3).bind fun t160 => ((sets_Find.f kj18 t140 a4).bind fun t161 => (if t152 = t153 then (some ((t160 == t161) == true)) else (some ((t160 == t161) == (t153 == t158)))))) else (some false)))))) = some r := H
                have A35 := Aside0.mk A350
                clear A350
                by_cases c36 : t153 = t154
                · rw [if_pos c36] at H
                  have c36b0 : (t153 == t154) = true := beq_iff_eq.mpr c36
                  have c36b1 : (t153 != t154) = false := bne_eq_false_iff_eq.mpr c36
                  clear c36
                  replace H := Option.bind_eq_some_iff.mp H
                  obtain ⟨t155, A370, H⟩ := H
                  replace H : (if t155 = true then ((sets_Find.f kj18 t140 a3).bind fun t156 => ((sets_Find.f kj18 t140 a4).bind fun t157 => (if t152 = t153 then (some ((t156 == t157) == true)) else (some ((t156 == t157) == true))))) else (some false)) = some r := H
                  have A37 := Aside0.mk A370
                  clear A370
                  by_cases c38 : t155 = true
                  · subst c38
                    have H1 : ((sets_Find.f kj18 t140 a3).bind fun t156 => ((sets_Find.f kj18 t140 a4).bind fun t157 => (if t152 = t153 then (some ((t156 == t157) == true)) else (some ((t156 == t157) == true))))) = some r := by rw [if_pos rfl] at H; exact H
                    clear H
                    have H := H1
                    clear H1
                    replace H := Option.bind_eq_some_iff.mp H
                    obtain ⟨t156, A390, H⟩ := H
                    replace H : ((sets_Find.f kj18 t140 a4).bind fun t157 => (if t152 = t153 then (some ((t156 == t157) == true)) else (some ((t156 == t157) == true)))) = some r := H
                    have A39 := Aside0.mk A390
                    clear A390
                    replace H := Option.bind_eq_some_iff.mp H
                    obtain ⟨t157, A400, H⟩ := H
                    replace H : (if t152 = t153 then (some ((t156 == t157) == true)) else (some ((t156 == t157) == true))) = some r := H
                    have A40 := Aside0.mk A400
                    clear A400
                    by_cases c41 : t152 = t153
                    · rw [if_pos c41] at H
                      have c41b0 : (t152 == t153) = true := beq_iff_eq.mpr c41
                      have c41b1 : (t152 != t153) = false := bne_eq_false_iff_eq.mpr c41
                      clear c41
                      obtain rfl := Option.some.inj H
                      obtain ⟨Ao42, co42, eo42⟩ := Kd.R_slice HO_12.out
                      subst eo42
                      go_wp2_with (first | ((with_reducible refine gate_callee (f := 26) rfl ?_); refine goesL_ (some 71) rfl rfl Try.func26 (by kernel_rfl) rfl #[.slice A0 l0.length c0, .int .i64 a3] rfl (by (try simp only [List.map_toArray, List.map_cons, List.map_nil]); first | done | rfl | (simp only [List.length_drop, List.length_take]; rfl)) ?_; (with_reducible refine (sets_Find.calls kj18 _ _ l0 a3 t152 _ ?side1 ?side2 A29.out).mono ?_); (case side1 => repeat (first | exact (Kd.C_below HR0.out HB.out) | (with_reducible refine Kd.C_alloc ?_ _) | (with_reducible refine Kd.C_drewN ?_ _) | (with_reducible refine Kd.C_drew ?_))); (case side2 => exact HC0.out); rintro e w' ⟨rfl, ⟨nd, rfl⟩⟩; refine ⟨_, rfl, ?_⟩) | ((with_reducible refine gate_callee (f := 26) rfl ?_); refine goesL_ (some 74) rfl rfl Try.func26 (by kernel_rfl) rfl #[.slice A0 l0.length c0, .int .i64 a4] rfl (by (try simp only [List.map_toArray, List.map_cons, List.map_nil]); first | done | rfl | (simp only [List.length_drop, List.length_take]; rfl)) ?_; (with_reducible refine (sets_Find.calls kj18 _ _ l0 a4 t153 _ ?side1 ?side2 A30.out).mono ?_); (case side1 => repeat (first | exact (Kd.C_below HR0.out (by repeat (first | (with_reducible first | exact HB.out | apply below_alloc | apply pw_below_drewN | apply below_drew1) | exact HB.out))) | (with_reducible refine Kd.C_alloc ?_ _) | (with_reducible refine Kd.C_drewN ?_ _) | (with_reducible refine Kd.C_drew ?_))); (case side2 => exact HC0.out); rintro e w' ⟨rfl, ⟨nd, rfl⟩⟩; refine ⟨_, rfl, ?_⟩) | ((with_reducible refine gate_callee (f := 26) rfl ?_); refine goesL_ (some 78) rfl rfl Try.func26 (by kernel_rfl) rfl #[.slice A0 l0.length c0, .int .i64 a3] rfl (by (try simp only [List.map_toArray, List.map_cons, List.map_nil]); first | done | rfl | (simp only [List.length_drop, List.length_take]; rfl)) ?_; (with_reducible refine (sets_Find.calls kj18 _ _ l0 a3 t152 _ ?side1 ?side2 A31.out).mono ?_); (case side1 => repeat (first | exact (Kd.C_below HR0.out (by repeat (first | (with_reducible first | exact HB.out | apply below_alloc | apply pw_below_drewN | apply below_drew1) | exact HB.out))) | (with_reducible refine Kd.C_alloc ?_ _) | (with_reducible refine Kd.C_drewN ?_ _) | (with_reducible refine Kd.C_drew ?_))); (case side2 => exact HC0.out); rintro e w' ⟨rfl, ⟨nd, rfl⟩⟩; refine ⟨_, rfl, ?_⟩) | ((with_reducible refine gate_callee (f := 26) rfl ?_); refine goesL_ (some 81) rfl rfl Try.func26 (by kernel_rfl) rfl #[.slice A0 l0.length c0, .int .i64 a1] rfl (by (try simp only [List.map_toArray, List.map_cons, List.map_nil]); first | done | rfl | (simp only [List.length_drop, List.length_take]; rfl)) ?_; (with_reducible refine (sets_Find.calls kj18 _ _ l0 a1 t154 _ ?side1 ?side2 A32.out).mono ?_); (case side1 => repeat (first | exact (Kd.C_below HR0.out (by repeat (first | (with_reducible first | exact HB.out | apply below_alloc | apply pw_below_drewN | apply below_drew1) | exact HB.out))) | (with_reducible refine Kd.C_alloc ?_ _) | (with_reducible refine Kd.C_drewN ?_ _) | (with_reducible refine Kd.C_drew ?_))); (case side2 => exact HC0.out); rintro e w' ⟨rfl, ⟨nd, rfl⟩⟩; refine ⟨_, rfl, ?_⟩) | (go_at_call 26; (with_reducible refine (sets_Find.calls kj18 _ _ l0 a4 t153 _ ?side1 ?side2 A34.out).mono ?_); (case side1 => repeat (first | exact (Kd.C_below HR0.out (by repeat (first | (with_reducible first | exact HB.out | apply below_alloc | apply pw_below_drewN | apply below_drew1) | exact HB.out))) | (with_reducible refine Kd.C_alloc ?_ _) | (with_reducible refine Kd.C_drewN ?_ _) | (with_reducible refine Kd.C_drew ?_))); (case side2 => exact HC0.out); rintro e w' ⟨rfl, ⟨nd, rfl⟩⟩) | (go_at_call 26; (with_reducible refine (sets_Find.calls kj18 _ _ l0 a1 t154 _ ?side1 ?side2 A35.out).mono ?_); (case side1 => repeat (first | exact (Kd.C_below HR0.out (by repeat (first | (with_reducible first | exact HB.out | apply below_alloc | apply pw_below_drewN | apply below_drew1) | exact HB.out))) | (with_reducible refine Kd.C_alloc ?_ _) | (with_reducible refine Kd.C_drewN ?_ _) | (with_reducible refine Kd.C_drew ?_))); (case side2 => exact HC0.out); rintro e w' ⟨rfl, ⟨nd, rfl⟩⟩) | ((with_reducible refine gate_callee (f := 25) rfl ?_); refine goesL_ (some 111) rfl rfl Try.func25 (by kernel_rfl) rfl #[.slice Ao42 t140.length co42] rfl (by (try simp only [List.map_toArray, List.map_cons, List.map_nil]); first | done | rfl | (simp only [List.length_drop, List.length_take]; rfl)) ?_; (with_reducible refine (sets_May.calls kj18 _ _ t140 true _ ?side1 ?side2 A37.out).mono ?_); (case side1 => repeat (first | exact (Kd.R_reads' HO_12.out).2.2 | (with_reducible refine Kd.C_alloc ?_ _) | (with_reducible refine Kd.C_drewN ?_ _) | (with_reducible refine Kd.C_drew ?_))); (case side2 => exact (Kd.R_reads' HO_12.out).2.1); rintro e w' ⟨rfl, ⟨nd, rfl⟩⟩; refine ⟨_, rfl, ?_⟩) | (go_at_call 26; (with_reducible refine (sets_Find.calls kj18 _ _ t140 a3 t156 _ ?side1 ?side2 A39.out).mono ?_); (case side1 => repeat (first | exact (Kd.R_reads' HO_12.out).2.2 | (with_reducible refine Kd.C_alloc ?_ _) | (with_reducible refine Kd.C_drewN ?_ _) | (with_reducible refine Kd.C_drew ?_))); (case side2 => exact (Kd.R_reads' HO_12.out).2.1); rintro e w' ⟨rfl, ⟨nd, rfl⟩⟩) | (go_at_call 26; (with_reducible refine (sets_Find.calls kj18 _ _ t140 a4 t157 _ ?side1 ?side2 A40.out).mono ?_); (case side1 => repeat (first | exact (Kd.R_reads' HO_12.out).2.2 | (with_reducible refine Kd.C_alloc ?_ _) | (with_reducible refine Kd.C_drewN ?_ _) | (with_reducible refine Kd.C_drew ?_))); (case side2 => exact (Kd.R_reads' HO_12.out).2.1); rintro e w' ⟨rfl, ⟨nd, rfl⟩⟩))
                      go_ret
                      exact ⟨by first | rfl | (simp [errW_none, errW_some] <;> rfl) | (simp [*, errW_none, errW_some] <;> rfl), by repeat (first | (with_reducible first | exact HB.out | apply below_alloc | apply pw_below_drewN | apply below_drew1) | exact HB.out)⟩
                    · rw [if_neg c41] at H
                      have c41b0 : (t152 == t153) = false := beq_eq_false_iff_ne.mpr c41
                      have c41b1 : (t152 != t153) = true := bne_iff_ne.mpr c41
                      obtain rfl := Option.some.inj H
                      obtain ⟨Ao43, co43, eo43⟩ := Kd.R_slice HO_12.out
                      subst eo43
                      go_wp2_with (first | ((with_reducible refine gate_callee (f := 26) rfl ?_); refine goesL_ (some 71) rfl rfl Try.func26 (by kernel_rfl) rfl #[.slice A0 l0.length c0, .int .i64 a3] rfl (by (try simp only [List.map_toArray, List.map_cons, List.map_nil]); first | done | rfl | (simp only [List.length_drop, List.length_take]; rfl)) ?_; (with_reducible refine (sets_Find.calls kj18 _ _ l0 a3 t152 _ ?side1 ?side2 A29.out).mono ?_); (case side1 => repeat (first | exact (Kd.C_below HR0.out HB.out) | (with_reducible refine Kd.C_alloc ?_ _) | (with_reducible refine Kd.C_drewN ?_ _) | (with_reducible refine Kd.C_drew ?_))); (case side2 => exact HC0.out); rintro e w' ⟨rfl, ⟨nd, rfl⟩⟩; refine ⟨_, rfl, ?_⟩) | ((with_reducible refine gate_callee (f := 26) rfl ?_); refine goesL_ (some 74) rfl rfl Try.func26 (by kernel_rfl) rfl #[.slice A0 l0.length c0, .int .i64 a4] rfl (by (try simp only [List.map_toArray, List.map_cons, List.map_nil]); first | done | rfl | (simp only [List.length_drop, List.length_take]; rfl)) ?_; (with_reducible refine (sets_Find.calls kj18 _ _ l0 a4 t153 _ ?side1 ?side2 A30.out).mono ?_); (case side1 => repeat (first | exact (Kd.C_below HR0.out (by repeat (first | (with_reducible first | exact HB.out | apply below_alloc | apply pw_below_drewN | apply below_drew1) | exact HB.out))) | (with_reducible refine Kd.C_alloc ?_ _) | (with_reducible refine Kd.C_drewN ?_ _) | (with_reducible refine Kd.C_drew ?_))); (case side2 => exact HC0.out); rintro e w' ⟨rfl, ⟨nd, rfl⟩⟩; refine ⟨_, rfl, ?_⟩) | ((with_reducible refine gate_callee (f := 26) rfl ?_); refine goesL_ (some 78) rfl rfl Try.func26 (by kernel_rfl) rfl #[.slice A0 l0.length c0, .int .i64 a3] rfl (by (try simp only [List.map_toArray, List.map_cons, List.map_nil]); first | done | rfl | (simp only [List.length_drop, List.length_take]; rfl)) ?_; (with_reducible refine (sets_Find.calls kj18 _ _ l0 a3 t152 _ ?side1 ?side2 A31.out).mono ?_); (case side1 => repeat (first | exact (Kd.C_below HR0.out (by repeat (first | (with_reducible first | exact HB.out | apply below_alloc | apply pw_below_drewN | apply below_drew1) | exact HB.out))) | (with_reducible refine Kd.C_alloc ?_ _) | (with_reducible refine Kd.C_drewN ?_ _) | (with_reducible refine Kd.C_drew ?_))); (case side2 => exact HC0.out); rintro e w' ⟨rfl, ⟨nd, rfl⟩⟩; refine ⟨_, rfl, ?_⟩) | ((with_reducible refine gate_callee (f := 26) rfl ?_); refine goesL_ (some 81) rfl rfl Try.func26 (by kernel_rfl) rfl #[.slice A0 l0.length c0, .int .i64 a1] rfl (by (try simp only [List.map_toArray, List.map_cons, List.map_nil]); first | done | rfl | (simp only [List.length_drop, List.length_take]; rfl)) ?_; (with_reducible refine (sets_Find.calls kj18 _ _ l0 a1 t154 _ ?side1 ?side2 A32.out).mono ?_); (case side1 => repeat (first | exact (Kd.C_below HR0.out (by repeat (first | (with_reducible first | exact HB.out | apply below_alloc | apply pw_below_drewN | apply below_drew1) | exact HB.out))) | (with_reducible refine Kd.C_alloc ?_ _) | (with_reducible refine Kd.C_drewN ?_ _) | (with_reducible refine Kd.C_drew ?_))); (case side2 => exact HC0.out); rintro e w' ⟨rfl, ⟨nd, rfl⟩⟩; refine ⟨_, rfl, ?_⟩) | (go_at_call 26; (with_reducible refine (sets_Find.calls kj18 _ _ l0 a4 t153 _ ?side1 ?side2 A34.out).mono ?_); (case side1 => repeat (first | exact (Kd.C_below HR0.out (by repeat (first | (with_reducible first | exact HB.out | apply below_alloc | apply pw_below_drewN | apply below_drew1) | exact HB.out))) | (with_reducible refine Kd.C_alloc ?_ _) | (with_reducible refine Kd.C_drewN ?_ _) | (with_reducible refine Kd.C_drew ?_))); (case side2 => exact HC0.out); rintro e w' ⟨rfl, ⟨nd, rfl⟩⟩) | (go_at_call 26; (with_reducible refine (sets_Find.calls kj18 _ _ l0 a1 t154 _ ?side1 ?side2 A35.out).mono ?_); (case side1 => repeat (first | exact (Kd.C_below HR0.out (by repeat (first | (with_reducible first | exact HB.out | apply below_alloc | apply pw_below_drewN | apply below_drew1) | exact HB.out))) | (with_reducible refine Kd.C_alloc ?_ _) | (with_reducible refine Kd.C_drewN ?_ _) | (with_reducible refine Kd.C_drew ?_))); (case side2 => exact HC0.out); rintro e w' ⟨rfl, ⟨nd, rfl⟩⟩) | ((with_reducible refine gate_callee (f := 25) rfl ?_); refine goesL_ (some 111) rfl rfl Try.func25 (by kernel_rfl) rfl #[.slice Ao43 t140.length co43] rfl (by (try simp only [List.map_toArray, List.map_cons, List.map_nil]); first | done | rfl | (simp only [List.length_drop, List.length_take]; rfl)) ?_; (with_reducible refine (sets_May.calls kj18 _ _ t140 true _ ?side1 ?side2 A37.out).mono ?_); (case side1 => repeat (first | exact (Kd.R_reads' HO_12.out).2.2 | (with_reducible refine Kd.C_alloc ?_ _) | (with_reducible refine Kd.C_drewN ?_ _) | (with_reducible refine Kd.C_drew ?_))); (case side2 => exact (Kd.R_reads' HO_12.out).2.1); rintro e w' ⟨rfl, ⟨nd, rfl⟩⟩; refine ⟨_, rfl, ?_⟩) | (go_at_call 26; (with_reducible refine (sets_Find.calls kj18 _ _ t140 a3 t156 _ ?side1 ?side2 A39.out).mono ?_); (case side1 => repeat (first | exact (Kd.R_reads' HO_12.out).2.2 | (with_reducible refine Kd.C_alloc ?_ _) | (with_reducible refine Kd.C_drewN ?_ _) | (with_reducible refine Kd.C_drew ?_))); (case side2 => exact (Kd.R_reads' HO_12.out).2.1); rintro e w' ⟨rfl, ⟨nd, rfl⟩⟩) | (go_at_call 26; (with_reducible refine (sets_Find.calls kj18 _ _ t140 a4 t157 _ ?side1 ?side2 A40.out).mono ?_); (case side1 => repeat (first | exact (Kd.R_reads' HO_12.out).2.2 | (with_reducible refine Kd.C_alloc ?_ _) | (with_reducible refine Kd.C_drewN ?_ _) | (with_reducible refine Kd.C_drew ?_))); (case side2 => exact (Kd.R_reads' HO_12.out).2.1); rintro e w' ⟨rfl, ⟨nd, rfl⟩⟩))
                      go_ret
                      exact ⟨by first | rfl | (simp [errW_none, errW_some] <;> rfl) | (simp [*, errW_none, errW_some] <;> rfl), by repeat (first | (with_reducible first | exact HB.out | apply below_alloc | apply pw_below_drewN | apply below_drew1) | exact HB.out)⟩
                  · replace c38 := Bool.eq_false_iff.mpr c38
                    subst c38
                    have H1 : (some false) = some r := by rw [if_neg (show ¬ (false = true) by decide)] at H; exact H
                    clear H
                    have H := H1
                    clear H1
                    exact absurd (HRT.out.symm.trans (Option.some.inj H).symm) (by decide)
                · rw [if_neg c36] at H
                  have c36b0 : (t153 == t154) = false := beq_eq_false_iff_ne.mpr c36
                  have c36b1 : (t153 != t154) = true := bne_iff_ne.mpr c36
                  replace H := Option.bind_eq_some_iff.mp H
                  obtain ⟨t153q_, A440, H⟩ := H
                  have e_ := Option.some.inj (A30.out.symm.trans A440)
                  obtain rfl := e_
                  skip
                  replace H : ((sets_Find.f kj18 l0 a2).bind fun t158 => ((sets_May.f kj18 t140).bind fun t159 => (if t159 = true then ((sets_Find.f kj18 t140 a3).bind fun t160 => ((sets_Find.f kj18 t140 a4).bind fun t161 => (if t152 = t153 then (some ((t160 == t161) == true)) else (some ((t160 == t161) == (t153 == t158)))))) else (some false)))) = some r := H
                  have A44 := Aside0.mk A440
                  clear A440
                  replace H := Option.bind_eq_some_iff.mp H
                  obtain ⟨t158, A450, H⟩ := H
                  replace H : ((sets_May.f kj18 t140).bind fun t159 => (if t159 = true then ((sets_Find.f kj18 t140 a3).bind fun t160 => ((sets_Find.f kj18 t140 a4).bind fun t161 => (if t152 = t153 then (some ((t160 == t161) == true)) else (some ((t160 == t161) == (t153 == t158)))))) else (some false))) = some r := H
                  have A45 := Aside0.mk A450
                  clear A450
                  replace H := Option.bind_eq_some_iff.mp H
                  obtain ⟨t159, A460, H⟩ := H
                  replace H : (if t159 = true then ((sets_Find.f kj18 t140 a3).bind fun t160 => ((sets_Find.f kj18 t140 a4).bind fun t161 => (if t152 = t153 then (some ((t160 == t161) == true)) else (some ((t160 == t161) == (t153 == t158)))))) else (some false)) = some r := H
                  have A46 := Aside0.mk A460
                  clear A460
                  by_cases c47 : t159 = true
                  · subst c47
                    have H1 : ((sets_Find.f kj18 t140 a3).bind fun t160 => ((sets_Find.f kj18 t140 a4).bind fun t161 => (if t152 = t153 then (some ((t160 == t161) == true)) else (some ((t160 == t161) == (t153 == t158)))))) = some r := by rw [if_pos rfl] at H; exact H
                    clear H
                    have H := H1
                    clear H1
                    replace H := Option.bind_eq_some_iff.mp H
                    obtain ⟨t160, A480, H⟩ := H
                    replace H : ((sets_Find.f kj18 t140 a4).bind fun t161 => (if t152 = t153 then (some ((t160 == t161) == true)) else (some ((t160 == t161) == (t153 == t158))))) = some r := H
                    have A48 := Aside0.mk A480
                    clear A480
                    replace H := Option.bind_eq_some_iff.mp H
                    obtain ⟨t161, A490, H⟩ := H
                    replace H : (if t152 = t153 then (some ((t160 == t161) == true)) else (some ((t160 == t161) == (t153 == t158)))) = some r := H
                    have A49 := Aside0.mk A490
                    clear A490
                    by_cases c50 : t152 = t153
                    · rw [if_pos c50] at H
                      have c50b0 : (t152 == t153) = true := beq_iff_eq.mpr c50
                      have c50b1 : (t152 != t153) = false := bne_eq_false_iff_eq.mpr c50
                      clear c50
                      obtain rfl := Option.some.inj H
                      obtain ⟨Ao51, co51, eo51⟩ := Kd.R_slice HO_12.out
                      subst eo51
                      go_wp2_with (first | ((with_reducible refine gate_callee (f := 26) rfl ?_); refine goesL_ (some 71) rfl rfl Try.func26 (by kernel_rfl) rfl #[.slice A0 l0.length c0, .int .i64 a3] rfl (by (try simp only [List.map_toArray, List.map_cons, List.map_nil]); first | done | rfl | (simp only [List.length_drop, List.length_take]; rfl)) ?_; (with_reducible refine (sets_Find.calls kj18 _ _ l0 a3 t152 _ ?side1 ?side2 A29.out).mono ?_); (case side1 => repeat (first | exact (Kd.C_below HR0.out HB.out) | (with_reducible refine Kd.C_alloc ?_ _) | (with_reducible refine Kd.C_drewN ?_ _) | (with_reducible refine Kd.C_drew ?_))); (case side2 => exact HC0.out); rintro e w' ⟨rfl, ⟨nd, rfl⟩⟩; refine ⟨_, rfl, ?_⟩) | ((with_reducible refine gate_callee (f := 26) rfl ?_); refine goesL_ (some 74) rfl rfl Try.func26 (by kernel_rfl) rfl #[.slice A0 l0.length c0, .int .i64 a4] rfl (by (try simp only [List.map_toArray, List.map_cons, List.map_nil]); first | done | rfl | (simp only [List.length_drop, List.length_take]; rfl)) ?_; (with_reducible refine (sets_Find.calls kj18 _ _ l0 a4 t153 _ ?side1 ?side2 A30.out).mono ?_); (case side1 => repeat (first | exact (Kd.C_below HR0.out (by repeat (first | (with_reducible first | exact HB.out | apply below_alloc | apply pw_below_drewN | apply below_drew1) | exact HB.out))) | (with_reducible refine Kd.C_alloc ?_ _) | (with_reducible refine Kd.C_drewN ?_ _) | (with_reducible refine Kd.C_drew ?_))); (case side2 => exact HC0.out); rintro e w' ⟨rfl, ⟨nd, rfl⟩⟩; refine ⟨_, rfl, ?_⟩) | ((with_reducible refine gate_callee (f := 26) rfl ?_); refine goesL_ (some 78) rfl rfl Try.func26 (by kernel_rfl) rfl #[.slice A0 l0.length c0, .int .i64 a3] rfl (by (try simp only [List.map_toArray, List.map_cons, List.map_nil]); first | done | rfl | (simp only [List.length_drop, List.length_take]; rfl)) ?_; (with_reducible refine (sets_Find.calls kj18 _ _ l0 a3 t152 _ ?side1 ?side2 A31.out).mono ?_); (case side1 => repeat (first | exact (Kd.C_below HR0.out (by repeat (first | (with_reducible first | exact HB.out | apply below_alloc | apply pw_below_drewN | apply below_drew1) | exact HB.out))) | (with_reducible refine Kd.C_alloc ?_ _) | (with_reducible refine Kd.C_drewN ?_ _) | (with_reducible refine Kd.C_drew ?_))); (case side2 => exact HC0.out); rintro e w' ⟨rfl, ⟨nd, rfl⟩⟩; refine ⟨_, rfl, ?_⟩) | ((with_reducible refine gate_callee (f := 26) rfl ?_); refine goesL_ (some 81) rfl rfl Try.func26 (by kernel_rfl) rfl #[.slice A0 l0.length c0, .int .i64 a1] rfl (by (try simp only [List.map_toArray, List.map_cons, List.map_nil]); first | done | rfl | (simp only [List.length_drop, List.length_take]; rfl)) ?_; (with_reducible refine (sets_Find.calls kj18 _ _ l0 a1 t154 _ ?side1 ?side2 A32.out).mono ?_); (case side1 => repeat (first | exact (Kd.C_below HR0.out (by repeat (first | (with_reducible first | exact HB.out | apply below_alloc | apply pw_below_drewN | apply below_drew1) | exact HB.out))) | (with_reducible refine Kd.C_alloc ?_ _) | (with_reducible refine Kd.C_drewN ?_ _) | (with_reducible refine Kd.C_drew ?_))); (case side2 => exact HC0.out); rintro e w' ⟨rfl, ⟨nd, rfl⟩⟩; refine ⟨_, rfl, ?_⟩) | (go_at_call 26; (with_reducible refine (sets_Find.calls kj18 _ _ l0 a4 t153 _ ?side1 ?side2 A34.out).mono ?_); (case side1 => repeat (first | exact (Kd.C_below HR0.out (by repeat (first | (with_reducible first | exact HB.out | apply below_alloc | apply pw_below_drewN | apply below_drew1) | exact HB.out))) | (with_reducible refine Kd.C_alloc ?_ _) | (with_reducible refine Kd.C_drewN ?_ _) | (with_reducible refine Kd.C_drew ?_))); (case side2 => exact HC0.out); rintro e w' ⟨rfl, ⟨nd, rfl⟩⟩) | (go_at_call 26; (with_reducible refine (sets_Find.calls kj18 _ _ l0 a1 t154 _ ?side1 ?side2 A35.out).mono ?_); (case side1 => repeat (first | exact (Kd.C_below HR0.out (by repeat (first | (with_reducible first | exact HB.out | apply below_alloc | apply pw_below_drewN | apply below_drew1) | exact HB.out))) | (with_reducible refine Kd.C_alloc ?_ _) | (with_reducible refine Kd.C_drewN ?_ _) | (with_reducible refine Kd.C_drew ?_))); (case side2 => exact HC0.out); rintro e w' ⟨rfl, ⟨nd, rfl⟩⟩) | (go_at_call 26; (with_reducible refine (sets_Find.calls kj18 _ _ l0 a4 t153 _ ?side1 ?side2 A44.out).mono ?_); (case side1 => repeat (first | exact (Kd.C_below HR0.out (by repeat (first | (with_reducible first | exact HB.out | apply below_alloc | apply pw_below_drewN | apply below_drew1) | exact HB.out))) | (with_reducible refine Kd.C_alloc ?_ _) | (with_reducible refine Kd.C_drewN ?_ _) | (with_reducible refine Kd.C_drew ?_))); (case side2 => exact HC0.out); rintro e w' ⟨rfl, ⟨nd, rfl⟩⟩) | (go_at_call 26; (with_reducible refine (sets_Find.calls kj18 _ _ l0 a2 t158 _ ?side1 ?side2 A45.out).mono ?_); (case side1 => repeat (first | exact (Kd.C_below HR0.out (by repeat (first | (with_reducible first | exact HB.out | apply below_alloc | apply pw_below_drewN | apply below_drew1) | exact HB.out))) | (with_reducible refine Kd.C_alloc ?_ _) | (with_reducible refine Kd.C_drewN ?_ _) | (with_reducible refine Kd.C_drew ?_))); (case side2 => exact HC0.out); rintro e w' ⟨rfl, ⟨nd, rfl⟩⟩) | ((with_reducible refine gate_callee (f := 25) rfl ?_); refine goesL_ (some 111) rfl rfl Try.func25 (by kernel_rfl) rfl #[.slice Ao51 t140.length co51] rfl (by (try simp only [List.map_toArray, List.map_cons, List.map_nil]); first | done | rfl | (simp only [List.length_drop, List.length_take]; rfl)) ?_; (with_reducible refine (sets_May.calls kj18 _ _ t140 true _ ?side1 ?side2 A46.out).mono ?_); (case side1 => repeat (first | exact (Kd.R_reads' HO_12.out).2.2 | (with_reducible refine Kd.C_alloc ?_ _) | (with_reducible refine Kd.C_drewN ?_ _) | (with_reducible refine Kd.C_drew ?_))); (case side2 => exact (Kd.R_reads' HO_12.out).2.1); rintro e w' ⟨rfl, ⟨nd, rfl⟩⟩; refine ⟨_, rfl, ?_⟩) | (go_at_call 26; (with_reducible refine (sets_Find.calls kj18 _ _ t140 a3 t160 _ ?side1 ?side2 A48.out).mono ?_); (case side1 => repeat (first | exact (Kd.R_reads' HO_12.out).2.2 | (with_reducible refine Kd.C_alloc ?_ _) | (with_reducible refine Kd.C_drewN ?_ _) | (with_reducible refine Kd.C_drew ?_))); (case side2 => exact (Kd.R_reads' HO_12.out).2.1); rintro e w' ⟨rfl, ⟨nd, rfl⟩⟩) | (go_at_call 26; (with_reducible refine (sets_Find.calls kj18 _ _ t140 a4 t161 _ ?side1 ?side2 A49.out).mono ?_); (case side1 => repeat (first | exact (Kd.R_reads' HO_12.out).2.2 | (with_reducible refine Kd.C_alloc ?_ _) | (with_reducible refine Kd.C_drewN ?_ _) | (with_reducible refine Kd.C_drew ?_))); (case side2 => exact (Kd.R_reads' HO_12.out).2.1); rintro e w' ⟨rfl, ⟨nd, rfl⟩⟩))
                      go_ret
                      exact ⟨by first | rfl | (simp [errW_none, errW_some] <;> rfl) | (simp [*, errW_none, errW_some] <;> rfl), by repeat (first | (with_reducible first | exact HB.out | apply below_alloc | apply pw_below_drewN | apply below_drew1) | exact HB.out)⟩
                    · rw [if_neg c50] at H
                      have c50b0 : (t152 == t153) = false := beq_eq_false_iff_ne.mpr c50
                      have c50b1 : (t152 != t153) = true := bne_iff_ne.mpr c50
                      obtain rfl := Option.some.inj H
                      obtain ⟨Ao52, co52, eo52⟩ := Kd.R_slice HO_12.out
                      subst eo52
                      go_wp2_with (first | ((with_reducible refine gate_callee (f := 26) rfl ?_); refine goesL_ (some 71) rfl rfl Try.func26 (by kernel_rfl) rfl #[.slice A0 l0.length c0, .int .i64 a3] rfl (by (try simp only [List.map_toArray, List.map_cons, List.map_nil]); first | done | rfl | (simp only [List.length_drop, List.length_take]; rfl)) ?_; (with_reducible refine (sets_Find.calls kj18 _ _ l0 a3 t152 _ ?side1 ?side2 A29.out).mono ?_); (case side1 => repeat (first | exact (Kd.C_below HR0.out HB.out) | (with_reducible refine Kd.C_alloc ?_ _) | (with_reducible refine Kd.C_drewN ?_ _) | (with_reducible refine Kd.C_drew ?_))); (case side2 => exact HC0.out); rintro e w' ⟨rfl, ⟨nd, rfl⟩⟩; refine ⟨_, rfl, ?_⟩) | ((with_reducible refine gate_callee (f := 26) rfl ?_); refine goesL_ (some 74) rfl rfl Try.func26 (by kernel_rfl) rfl #[.slice A0 l0.length c0, .int .i64 a4] rfl (by (try simp only [List.map_toArray, List.map_cons, List.map_nil]); first | done | rfl | (simp only [List.length_drop, List.length_take]; rfl)) ?_; (with_reducible refine (sets_Find.calls kj18 _ _ l0 a4 t153 _ ?side1 ?side2 A30.out).mono ?_); (case side1 => repeat (first | exact (Kd.C_below HR0.out (by repeat (first | (with_reducible first | exact HB.out | apply below_alloc | apply pw_below_drewN | apply below_drew1) | exact HB.out))) | (with_reducible refine Kd.C_alloc ?_ _) | (with_reducible refine Kd.C_drewN ?_ _) | (with_reducible refine Kd.C_drew ?_))); (case side2 => exact HC0.out); rintro e w' ⟨rfl, ⟨nd, rfl⟩⟩; refine ⟨_, rfl, ?_⟩) | ((with_reducible refine gate_callee (f := 26) rfl ?_); refine goesL_ (some 78) rfl rfl Try.func26 (by kernel_rfl) rfl #[.slice A0 l0.length c0, .int .i64 a3] rfl (by (try simp only [List.map_toArray, List.map_cons, List.map_nil]); first | done | rfl | (simp only [List.length_drop, List.length_take]; rfl)) ?_; (with_reducible refine (sets_Find.calls kj18 _ _ l0 a3 t152 _ ?side1 ?side2 A31.out).mono ?_); (case side1 => repeat (first | exact (Kd.C_below HR0.out (by repeat (first | (with_reducible first | exact HB.out | apply below_alloc | apply pw_below_drewN | apply below_drew1) | exact HB.out))) | (with_reducible refine Kd.C_alloc ?_ _) | (with_reducible refine Kd.C_drewN ?_ _) | (with_reducible refine Kd.C_drew ?_))); (case side2 => exact HC0.out); rintro e w' ⟨rfl, ⟨nd, rfl⟩⟩; refine ⟨_, rfl, ?_⟩) | ((with_reducible refine gate_callee (f := 26) rfl ?_); refine goesL_ (some 81) rfl rfl Try.func26 (by kernel_rfl) rfl #[.slice A0 l0.length c0, .int .i64 a1] rfl (by (try simp only [List.map_toArray, List.map_cons, List.map_nil]); first | done | rfl | (simp only [List.length_drop, List.length_take]; rfl)) ?_; (with_reducible refine (sets_Find.calls kj18 _ _ l0 a1 t154 _ ?side1 ?side2 A32.out).mono ?_); (case side1 => repeat (first | exact (Kd.C_below HR0.out (by repeat (first | (with_reducible first | exact HB.out | apply below_alloc | apply pw_below_drewN | apply below_drew1) | exact HB.out))) | (with_reducible refine Kd.C_alloc ?_ _) | (with_reducible refine Kd.C_drewN ?_ _) | (with_reducible refine Kd.C_drew ?_))); (case side2 => exact HC0.out); rintro e w' ⟨rfl, ⟨nd, rfl⟩⟩; refine ⟨_, rfl, ?_⟩) | (go_at_call 26; (with_reducible refine (sets_Find.calls kj18 _ _ l0 a4 t153 _ ?side1 ?side2 A34.out).mono ?_); (case side1 => repeat (first | exact (Kd.C_below HR0.out (by repeat (first | (with_reducible first | exact HB.out | apply below_alloc | apply pw_below_drewN | apply below_drew1) | exact HB.out))) | (with_reducible refine Kd.C_alloc ?_ _) | (with_reducible refine Kd.C_drewN ?_ _) | (with_reducible refine Kd.C_drew ?_))); (case side2 => exact HC0.out); rintro e w' ⟨rfl, ⟨nd, rfl⟩⟩) | (go_at_call 26; (with_reducible refine (sets_Find.calls kj18 _ _ l0 a1 t154 _ ?side1 ?side2 A35.out).mono ?_); (case side1 => repeat (first | exact (Kd.C_below HR0.out (by repeat (first | (with_reducible first | exact HB.out | apply below_alloc | apply pw_below_drewN | apply below_drew1) | exact HB.out))) | (with_reducible refine Kd.C_alloc ?_ _) | (with_reducible refine Kd.C_drewN ?_ _) | (with_reducible refine Kd.C_drew ?_))); (case side2 => exact HC0.out); rintro e w' ⟨rfl, ⟨nd, rfl⟩⟩) | (go_at_call 26; (with_reducible refine (sets_Find.calls kj18 _ _ l0 a4 t153 _ ?side1 ?side2 A44.out).mono ?_); (case side1 => repeat (first | exact (Kd.C_below HR0.out (by repeat (first | (with_reducible first | exact HB.out | apply below_alloc | apply pw_below_drewN | apply below_drew1) | exact HB.out))) | (with_reducible refine Kd.C_alloc ?_ _) | (with_reducible refine Kd.C_drewN ?_ _) | (with_reducible refine Kd.C_drew ?_))); (case side2 => exact HC0.out); rintro e w' ⟨rfl, ⟨nd, rfl⟩⟩) | (go_at_call 26; (with_reducible refine (sets_Find.calls kj18 _ _ l0 a2 t158 _ ?side1 ?side2 A45.out).mono ?_); (case side1 => repeat (first | exact (Kd.C_below HR0.out (by repeat (first | (with_reducible first | exact HB.out | apply below_alloc | apply pw_below_drewN | apply below_drew1) | exact HB.out))) | (with_reducible refine Kd.C_alloc ?_ _) | (with_reducible refine Kd.C_drewN ?_ _) | (with_reducible refine Kd.C_drew ?_))); (case side2 => exact HC0.out); rintro e w' ⟨rfl, ⟨nd, rfl⟩⟩) | ((with_reducible refine gate_callee (f := 25) rfl ?_); refine goesL_ (some 111) rfl rfl Try.func25 (by kernel_rfl) rfl #[.slice Ao52 t140.length co52] rfl (by (try simp only [List.map_toArray, List.map_cons, List.map_nil]); first | done | rfl | (simp only [List.length_drop, List.length_take]; rfl)) ?_; (with_reducible refine (sets_May.calls kj18 _ _ t140 true _ ?side1 ?side2 A46.out).mono ?_); (case side1 => repeat (first | exact (Kd.R_reads' HO_12.out).2.2 | (with_reducible refine Kd.C_alloc ?_ _) | (with_reducible refine Kd.C_drewN ?_ _) | (with_reducible refine Kd.C_drew ?_))); (case side2 => exact (Kd.R_reads' HO_12.out).2.1); rintro e w' ⟨rfl, ⟨nd, rfl⟩⟩; refine ⟨_, rfl, ?_⟩) | (go_at_call 26; (with_reducible refine (sets_Find.calls kj18 _ _ t140 a3 t160 _ ?side1 ?side2 A48.out).mono ?_); (case side1 => repeat (first | exact (Kd.R_reads' HO_12.out).2.2 | (with_reducible refine Kd.C_alloc ?_ _) | (with_reducible refine Kd.C_drewN ?_ _) | (with_reducible refine Kd.C_drew ?_))); (case side2 => exact (Kd.R_reads' HO_12.out).2.1); rintro e w' ⟨rfl, ⟨nd, rfl⟩⟩) | (go_at_call 26; (with_reducible refine (sets_Find.calls kj18 _ _ t140 a4 t161 _ ?side1 ?side2 A49.out).mono ?_); (case side1 => repeat (first | exact (Kd.R_reads' HO_12.out).2.2 | (with_reducible refine Kd.C_alloc ?_ _) | (with_reducible refine Kd.C_drewN ?_ _) | (with_reducible refine Kd.C_drew ?_))); (case side2 => exact (Kd.R_reads' HO_12.out).2.1); rintro e w' ⟨rfl, ⟨nd, rfl⟩⟩))
                      go_ret
                      exact ⟨by first | rfl | (simp [errW_none, errW_some] <;> rfl) | (simp [*, errW_none, errW_some] <;> rfl), by repeat (first | (with_reducible first | exact HB.out | apply below_alloc | apply pw_below_drewN | apply below_drew1) | exact HB.out)⟩
                  · replace c47 := Bool.eq_false_iff.mpr c47
                    subst c47
                    have H1 : (some false) = some r := by rw [if_neg (show ¬ (false = true) by decide)] at H; exact H
                    clear H
                    have H := H1
                    clear H1
                    exact absurd (HRT.out.symm.trans (Option.some.inj H).symm) (by decide)
              · rw [if_neg c33] at H
                have c33b0 : (t152 == t154) = false := beq_eq_false_iff_ne.mpr c33
                have c33b1 : (t152 != t154) = true := bne_iff_ne.mpr c33
                replace H := Option.bind_eq_some_iff.mp H
                obtain ⟨t152q_, A530, H⟩ := H
                have e_ := Option.some.inj (A29.out.symm.trans A530)
                obtain rfl := e_
                skip
                replace H : ((sets_Find.f kj18 l0 a2).bind fun t162 => (if t152 = t162 then ((sets_Find.f kj18 l0 a4).bind fun t153 => ((sets_Find.f kj18 l0 a1).bind fun t154 => (if t153 = t154 then ((sets_May.f kj18 t140).bind fun t163 => (if t163 = true then ((sets_Find.f kj18 t140 a3).bind fun t164 => ((sets_Find.f kj18 t140 a4).bind fun t165 => (if t152 = t153 then (some ((t164 == t165) == true)) else (some ((t164 == t165) == true))))) else (some false))) else ((sets_Find.f kj18 l0 a4).bind fun t153 => ((sets_Find.f kj18 l0 a2).bind fun t162 => ((sets_May.f kj18 t140).bind fun t166 => (if t166 = true then ((sets_Find.f kj18 t140 a3).bind fun t167 => ((sets_Find.f kj18 t140 a4).bind fun t168 => (if t152 = t153 then (some ((t167 == t168) == true)) else (some ((t167 == t168) == (t153 == t162)))))) else (some false)))))))) else ((sets_May.f kj18 t140).bind fun t169 => (if t169 = true then ((sets_Find.f kj18 t140 a3).bind fun t170 => ((sets_Find.f kj18 t140 a4).bind fun t171 => (if t152 = t153 then (some ((t170 == t171) == true)) else (some ((t170 == t171) == false))))) else (some false))))) = some r := H
                have A53 := Aside0.mk A530
                clear A530
                replace H := Option.bind_eq_some_iff.mp H
                obtain ⟨t162, A540, H⟩ := H
                replace H : (if t152 = t162 then ((sets_Find.f kj18 l0 a4).bind fun t153 => ((sets_Find.f kj18 l0 a1).bind fun t154 => (if t153 = t154 then ((sets_May.f kj18 t140).bind fun t163 => (if t163 = true then ((sets_Find.f kj18 t140 a3).bind fun t164 => ((sets_Find.f kj18 t140 a4).bind fun t165 => (if t152 = t153 then (some ((t164 == t165) == true)) else (some ((t164 == t165) == true))))) else (some false))) else ((sets_Find.f kj18 l0 a4).bind fun t153 => ((sets_Find.f kj18 l0 a2).bind fun t162 => ((sets_May.f kj18 t140).bind fun t166 => (if t166 = true then ((sets_Find.f kj18 t140 a3).bind fun t167 => ((sets_Find.f kj18 t140 a4).bind fun t168 => (if t152 = t153 then (some ((t167 == t168) == true)) else (some ((t167 == t168) == (t153 == t162)))))) else (some false)))))))) else ((sets_May.f kj18 t140).bind fun t169 => (if t169 = true then ((sets_Find.f kj18 t140 a3).bind fun t170 => ((sets_Find.f kj18 t140 a4).bind fun t171 => (if t152 = t153 then (some ((t170 == t171) == true)) else (some ((t170 == t171) == false))))) else (some false)))) = some r := H
                have A54 := Aside0.mk A540
                clear A540
                by_cases c55 : t152 = t162
                · rw [if_pos c55] at H
                  have c55b0 : (t152 == t162) = true := beq_iff_eq.mpr c55
                  have c55b1 : (t152 != t162) = false := bne_eq_false_iff_eq.mpr c55
                  clear c55
                  replace H := Option.bind_eq_some_iff.mp H
                  obtain ⟨t153q_, A560, H⟩ := H
                  have e_ := Option.some.inj (A30.out.symm.trans A560)
                  obtain rfl := e_
                  skip
                  replace H : ((sets_Find.f kj18 l0 a1).bind fun t154 => (if t153 = t154 then ((sets_May.f kj18 t140).bind fun t163 => (if t163 = true then ((sets_Find.f kj18 t140 a3).bind fun t164 => ((sets_Find.f kj18 t140 a4).bind fun t165 => (if t152 = t153 then (some ((t164 == t165) == true)) else (some ((t164 == t165) == true))))) else (some false))) else ((sets_Find.f kj18 l0 a4).bind fun t153 => ((sets_Find.f kj18 l0 a2).bind fun t162 => ((sets_May.f kj18 t140).bind fun t166 => (if t166 = true then ((sets_Find.f kj18 t140 a3).bind fun t167 => ((sets_Find.f kj18 t140 a4).bind fun t168 => (if t152 = t153 then (some ((t167 == t168) == true)) else (some ((t167 == t168) == (t153 == t162)))))) else (some false))))))) = some r := H
                  have A56 := Aside0.mk A560
                  clear A560
                  replace H := Option.bind_eq_some_iff.mp H
                  obtain ⟨t154q_, A570, H⟩ := H
                  have e_ := Option.some.inj (A32.out.symm.trans A570)
                  obtain rfl := e_
                  skip
                  replace H : (if t153 = t154 then ((sets_May.f kj18 t140).bind fun t163 => (if t163 = true then ((sets_Find.f kj18 t140 a3).bind fun t164 => ((sets_Find.f kj18 t140 a4).bind fun t165 => (if t152 = t153 then (some ((t164 == t165) == true)) else (some ((t164 == t165) == true))))) else (some false))) else ((sets_Find.f kj18 l0 a4).bind fun t153 => ((sets_Find.f kj18 l0 a2).bind fun t162 => ((sets_May.f kj18 t140).bind fun t166 => (if t166 = true then ((sets_Find.f kj18 t140 a3).bind fun t167 => ((sets_Find.f kj18 t140 a4).bind fun t168 => (if t152 = t153 then (some ((t167 == t168) == true)) else (some ((t167 == t168) == (t153 == t162)))))) else (some false)))))) = some r := H
                  have A57 := Aside0.mk A570
                  clear A570
                  by_cases c58 : t153 = t154
                  · rw [if_pos c58] at H
                    have c58b0 : (t153 == t154) = true := beq_iff_eq.mpr c58
                    have c58b1 : (t153 != t154) = false := bne_eq_false_iff_eq.mpr c58
                    clear c58
                    replace H := Option.bind_eq_some_iff.mp H
                    obtain ⟨t163, A590, H⟩ := H
                    replace H : (if t163 = true then ((sets_Find.f kj18 t140 a3).bind fun t164 => ((sets_Find.f kj18 t140 a4).bind fun t165 => (if t152 = t153 then (some ((t164 == t165) == true)) else (some ((t164 == t165) == true))))) else (some false)) = some r := H
                    have A59 := Aside0.mk A590
                    clear A590
                    by_cases c60 : t163 = true
                    · subst c60
                      have H1 : ((sets_Find.f kj18 t140 a3).bind fun t164 => ((sets_Find.f kj18 t140 a4).bind fun t165 => (if t152 = t153 then (some ((t164 == t165) == true)) else (some ((t164 == t165) == true))))) = some r := by rw [if_pos rfl] at H; exact H
                      clear H
                      have H := H1
                      clear H1
                      replace H := Option.bind_eq_some_iff.mp H
                      obtain ⟨t164, A610, H⟩ := H
                      replace H : ((sets_Find.f kj18 t140 a4).bind fun t165 => (if t152 = t153 then (some ((t164 == t165) == true)) else (some ((t164 == t165) == true)))) = some r := H
                      have A61 := Aside0.mk A610
                      clear A610
                      replace H := Option.bind_eq_some_iff.mp H
                      obtain ⟨t165, A620, H⟩ := H
                      replace H : (if t152 = t153 then (some ((t164 == t165) == true)) else (some ((t164 == t165) == true))) = some r := H
                      have A62 := Aside0.mk A620
                      clear A620
                      by_cases c63 : t152 = t153
                      · rw [if_pos c63] at H
                        have c63b0 : (t152 == t153) = true := beq_iff_eq.mpr c63
                        have c63b1 : (t152 != t153) = false := bne_eq_false_iff_eq.mpr c63
                        clear c63
                        obtain rfl := Option.some.inj H
                        obtain ⟨Ao64, co64, eo64⟩ := Kd.R_slice HO_12.out
                        subst eo64
                        go_wp2_with (first | ((with_reducible refine gate_callee (f := 26) rfl ?_); refine goesL_ (some 71) rfl rfl Try.func26 (by kernel_rfl) rfl #[.slice A0 l0.length c0, .int .i64 a3] rfl (by (try simp only [List.map_toArray, List.map_cons, List.map_nil]); first | done | rfl | (simp only [List.length_drop, List.length_take]; rfl)) ?_; (with_reducible refine (sets_Find.calls kj18 _ _ l0 a3 t152 _ ?side1 ?side2 A29.out).mono ?_); (case side1 => repeat (first | exact (Kd.C_below HR0.out HB.out) | (with_reducible refine Kd.C_alloc ?_ _) | (with_reducible refine Kd.C_drewN ?_ _) | (with_reducible refine Kd.C_drew ?_))); (case side2 => exact HC0.out); rintro e w' ⟨rfl, ⟨nd, rfl⟩⟩; refine ⟨_, rfl, ?_⟩) | ((with_reducible refine gate_callee (f := 26) rfl ?_); refine goesL_ (some 74) rfl rfl Try.func26 (by kernel_rfl) rfl #[.slice A0 l0.length c0, .int .i64 a4] rfl (by (try simp only [List.map_toArray, List.map_cons, List.map_nil]); first | done | rfl | (simp only [List.length_drop, List.length_take]; rfl)) ?_; (with_reducible refine (sets_Find.calls kj18 _ _ l0 a4 t153 _ ?side1 ?side2 A30.out).mono ?_); (case side1 => repeat (first | exact (Kd.C_below HR0.out (by repeat (first | (with_reducible first | exact HB.out | apply below_alloc | apply pw_below_drewN | apply below_drew1) | exact HB.out))) | (with_reducible refine Kd.C_alloc ?_ _) | (with_reducible refine Kd.C_drewN ?_ _) | (with_reducible refine Kd.C_drew ?_))); (case side2 => exact HC0.out); rintro e w' ⟨rfl, ⟨nd, rfl⟩⟩; refine ⟨_, rfl, ?_⟩) | ((with_reducible refine gate_callee (f := 26) rfl ?_); refine goesL_ (some 78) rfl rfl Try.func26 (by kernel_rfl) rfl #[.slice A0 l0.length c0, .int .i64 a3] rfl (by (try simp only [List.map_toArray, List.map_cons, List.map_nil]); first | done | rfl | (simp only [List.length_drop, List.length_take]; rfl)) ?_; (with_reducible refine (sets_Find.calls kj18 _ _ l0 a3 t152 _ ?side1 ?side2 A31.out).mono ?_); (case side1 => repeat (first | exact (Kd.C_below HR0.out (by repeat (first | (with_reducible first | exact HB.out | apply below_alloc | apply pw_below_drewN | apply below_drew1) | exact HB.out))) | (with_reducible refine Kd.C_alloc ?_ _) | (with_reducible refine Kd.C_drewN ?_ _) | (with_reducible refine Kd.C_drew ?_))); (case side2 => exact HC0.out); rintro e w' ⟨rfl, ⟨nd, rfl⟩⟩; refine ⟨_, rfl, ?_⟩) | ((with_reducible refine gate_callee (f := 26) rfl ?_); refine goesL_ (some 81) rfl rfl Try.func26 (by kernel_rfl) rfl #[.slice A0 l0.length c0, .int .i64 a1] rfl (by (try simp only [List.map_toArray, List.map_cons, List.map_nil]); first | done | rfl | (simp only [List.length_drop, List.length_take]; rfl)) ?_; (with_reducible refine (sets_Find.calls kj18 _ _ l0 a1 t154 _ ?side1 ?side2 A32.out).mono ?_); (case side1 => repeat (first | exact (Kd.C_below HR0.out (by repeat (first | (with_reducible first | exact HB.out | apply below_alloc | apply pw_below_drewN | apply below_drew1) | exact HB.out))) | (with_reducible refine Kd.C_alloc ?_ _) | (with_reducible refine Kd.C_drewN ?_ _) | (with_reducible refine Kd.C_drew ?_))); (case side2 => exact HC0.out); rintro e w' ⟨rfl, ⟨nd, rfl⟩⟩; refine ⟨_, rfl, ?_⟩) | (go_at_call 26; (with_reducible refine (sets_Find.calls kj18 _ _ l0 a3 t152 _ ?side1 ?side2 A53.out).mono ?_); (case side1 => repeat (first | exact (Kd.C_below HR0.out (by repeat (first | (with_reducible first | exact HB.out | apply below_alloc | apply pw_below_drewN | apply below_drew1) | exact HB.out))) | (with_reducible refine Kd.C_alloc ?_ _) | (with_reducible refine Kd.C_drewN ?_ _) | (with_reducible refine Kd.C_drew ?_))); (case side2 => exact HC0.out); rintro e w' ⟨rfl, ⟨nd, rfl⟩⟩) | (go_at_call 26; (with_reducible refine (sets_Find.calls kj18 _ _ l0 a2 t162 _ ?side1 ?side2 A54.out).mono ?_); (case side1 => repeat (first | exact (Kd.C_below HR0.out (by repeat (first | (with_reducible first | exact HB.out | apply below_alloc | apply pw_below_drewN | apply below_drew1) | exact HB.out))) | (with_reducible refine Kd.C_alloc ?_ _) | (with_reducible refine Kd.C_drewN ?_ _) | (with_reducible refine Kd.C_drew ?_))); (case side2 => exact HC0.out); rintro e w' ⟨rfl, ⟨nd, rfl⟩⟩) | (go_at_call 26; (with_reducible refine (sets_Find.calls kj18 _ _ l0 a4 t153 _ ?side1 ?side2 A56.out).mono ?_); (case side1 => repeat (first | exact (Kd.C_below HR0.out (by repeat (first | (with_reducible first | exact HB.out | apply below_alloc | apply pw_below_drewN | apply below_drew1) | exact HB.out))) | (with_reducible refine Kd.C_alloc ?_ _) | (with_reducible refine Kd.C_drewN ?_ _) | (with_reducible refine Kd.C_drew ?_))); (case side2 => exact HC0.out); rintro e w' ⟨rfl, ⟨nd, rfl⟩⟩) | (go_at_call 26; (with_reducible refine (sets_Find.calls kj18 _ _ l0 a1 t154 _ ?side1 ?side2 A57.out).mono ?_); (case side1 => repeat (first | exact (Kd.C_below HR0.out (by repeat (first | (with_reducible first | exact HB.out | apply below_alloc | apply pw_below_drewN | apply below_drew1) | exact HB.out))) | (with_reducible refine Kd.C_alloc ?_ _) | (with_reducible refine Kd.C_drewN ?_ _) | (with_reducible refine Kd.C_drew ?_))); (case side2 => exact HC0.out); rintro e w' ⟨rfl, ⟨nd, rfl⟩⟩) | ((with_reducible refine gate_callee (f := 25) rfl ?_); refine goesL_ (some 111) rfl rfl Try.func25 (by kernel_rfl) rfl #[.slice Ao64 t140.length co64] rfl (by (try simp only [List.map_toArray, List.map_cons, List.map_nil]); first | done | rfl | (simp only [List.length_drop, List.length_take]; rfl)) ?_; (with_reducible refine (sets_May.calls kj18 _ _ t140 true _ ?side1 ?side2 A59.out).mono ?_); (case side1 => repeat (first | exact (Kd.R_reads' HO_12.out).2.2 | (with_reducible refine Kd.C_alloc ?_ _) | (with_reducible refine Kd.C_drewN ?_ _) | (with_reducible refine Kd.C_drew ?_))); (case side2 => exact (Kd.R_reads' HO_12.out).2.1); rintro e w' ⟨rfl, ⟨nd, rfl⟩⟩; refine ⟨_, rfl, ?_⟩) | (go_at_call 26; (with_reducible refine (sets_Find.calls kj18 _ _ t140 a3 t164 _ ?side1 ?side2 A61.out).mono ?_); (case side1 => repeat (first | exact (Kd.R_reads' HO_12.out).2.2 | (with_reducible refine Kd.C_alloc ?_ _) | (with_reducible refine Kd.C_drewN ?_ _) | (with_reducible refine Kd.C_drew ?_))); (case side2 => exact (Kd.R_reads' HO_12.out).2.1); rintro e w' ⟨rfl, ⟨nd, rfl⟩⟩) | (go_at_call 26; (with_reducible refine (sets_Find.calls kj18 _ _ t140 a4 t165 _ ?side1 ?side2 A62.out).mono ?_); (case side1 => repeat (first | exact (Kd.R_reads' HO_12.out).2.2 | (with_reducible refine Kd.C_alloc ?_ _) | (with_reducible refine Kd.C_drewN ?_ _) | (with_reducible refine Kd.C_drew ?_))); (case side2 => exact (Kd.R_reads' HO_12.out).2.1); rintro e w' ⟨rfl, ⟨nd, rfl⟩⟩))
                        go_ret
                        exact ⟨by first | rfl | (simp [errW_none, errW_some] <;> rfl) | (simp [*, errW_none, errW_some] <;> rfl), by repeat (first | (with_reducible first | exact HB.out | apply below_alloc | apply pw_below_drewN | apply below_drew1) | exact HB.out)⟩
                      · rw [if_neg c63] at H
                        have c63b0 : (t152 == t153) = false := beq_eq_false_iff_ne.mpr c63
                        have c63b1 : (t152 != t153) = true := bne_iff_ne.mpr c63
                        obtain rfl := Option.some.inj H
                        obtain ⟨Ao65, co65, eo65⟩ := Kd.R_slice HO_12.out
                        subst eo65
                        go_wp2_with (first | ((with_reducible refine gate_callee (f := 26) rfl ?_); refine goesL_ (some 71) rfl rfl Try.func26 (by kernel_rfl) rfl #[.slice A0 l0.length c0, .int .i64 a3] rfl (by (try simp only [List.map_toArray, List.map_cons, List.map_nil]); first | done | rfl | (simp only [List.length_drop, List.length_take]; rfl)) ?_; (with_reducible refine (sets_Find.calls kj18 _ _ l0 a3 t152 _ ?side1 ?side2 A29.out).mono ?_); (case side1 => repeat (first | exact (Kd.C_below HR0.out HB.out) | (with_reducible refine Kd.C_alloc ?_ _) | (with_reducible refine Kd.C_drewN ?_ _) | (with_reducible refine Kd.C_drew ?_))); (case side2 => exact HC0.out); rintro e w' ⟨rfl, ⟨nd, rfl⟩⟩; refine ⟨_, rfl, ?_⟩) | ((with_reducible refine gate_callee (f := 26) rfl ?_); refine goesL_ (some 74) rfl rfl Try.func26 (by kernel_rfl) rfl #[.slice A0 l0.length c0, .int .i64 a4] rfl (by (try simp only [List.map_toArray, List.map_cons, List.map_nil]); first | done | rfl | (simp only [List.length_drop, List.length_take]; rfl)) ?_; (with_reducible refine (sets_Find.calls kj18 _ _ l0 a4 t153 _ ?side1 ?side2 A30.out).mono ?_); (case side1 => repeat (first | exact (Kd.C_below HR0.out (by repeat (first | (with_reducible first | exact HB.out | apply below_alloc | apply pw_below_drewN | apply below_drew1) | exact HB.out))) | (with_reducible refine Kd.C_alloc ?_ _) | (with_reducible refine Kd.C_drewN ?_ _) | (with_reducible refine Kd.C_drew ?_))); (case side2 => exact HC0.out); rintro e w' ⟨rfl, ⟨nd, rfl⟩⟩; refine ⟨_, rfl, ?_⟩) | ((with_reducible refine gate_callee (f := 26) rfl ?_); refine goesL_ (some 78) rfl rfl Try.func26 (by kernel_rfl) rfl #[.slice A0 l0.length c0, .int .i64 a3] rfl (by (try simp only [List.map_toArray, List.map_cons, List.map_nil]); first | done | rfl | (simp only [List.length_drop, List.length_take]; rfl)) ?_; (with_reducible refine (sets_Find.calls kj18 _ _ l0 a3 t152 _ ?side1 ?side2 A31.out).mono ?_); (case side1 => repeat (first | exact (Kd.C_below HR0.out (by repeat (first | (with_reducible first | exact HB.out | apply below_alloc | apply pw_below_drewN | apply below_drew1) | exact HB.out))) | (with_reducible refine Kd.C_alloc ?_ _) | (with_reducible refine Kd.C_drewN ?_ _) | (with_reducible refine Kd.C_drew ?_))); (case side2 => exact HC0.out); rintro e w' ⟨rfl, ⟨nd, rfl⟩⟩; refine ⟨_, rfl, ?_⟩) | ((with_reducible refine gate_callee (f := 26) rfl ?_); refine goesL_ (some 81) rfl rfl Try.func26 (by kernel_rfl) rfl #[.slice A0 l0.length c0, .int .i64 a1] rfl (by (try simp only [List.map_toArray, List.map_cons, List.map_nil]); first | done | rfl | (simp only [List.length_drop, List.length_take]; rfl)) ?_; (with_reducible refine (sets_Find.calls kj18 _ _ l0 a1 t154 _ ?side1 ?side2 A32.out).mono ?_); (case side1 => repeat (first | exact (Kd.C_below HR0.out (by repeat (first | (with_reducible first | exact HB.out | apply below_alloc | apply pw_below_drewN | apply below_drew1) | exact HB.out))) | (with_reducible refine Kd.C_alloc ?_ _) | (with_reducible refine Kd.C_drewN ?_ _) | (with_reducible refine Kd.C_drew ?_))); (case side2 => exact HC0.out); rintro e w' ⟨rfl, ⟨nd, rfl⟩⟩; refine ⟨_, rfl, ?_⟩) | (go_at_call 26; (with_reducible refine (sets_Find.calls kj18 _ _ l0 a3 t152 _ ?side1 ?side2 A53.out).mono ?_); (case side1 => repeat (first | exact (Kd.C_below HR0.out (by repeat (first | (with_reducible first | exact HB.out | apply below_alloc | apply pw_below_drewN | apply below_drew1) | exact HB.out))) | (with_reducible refine Kd.C_alloc ?_ _) | (with_reducible refine Kd.C_drewN ?_ _) | (with_reducible refine Kd.C_drew ?_))); (case side2 => exact HC0.out); rintro e w' ⟨rfl, ⟨nd, rfl⟩⟩) | (go_at_call 26; (with_reducible refine (sets_Find.calls kj18 _ _ l0 a2 t162 _ ?side1 ?side2 A54.out).mono ?_); (case side1 => repeat (first | exact (Kd.C_below HR0.out (by repeat (first | (with_reducible first | exact HB.out | apply below_alloc | apply pw_below_drewN | apply below_drew1) | exact HB.out))) | (with_reducible refine Kd.C_alloc ?_ _) | (with_reducible refine Kd.C_drewN ?_ _) | (with_reducible refine Kd.C_drew ?_))); (case side2 => exact HC0.out); rintro e w' ⟨rfl, ⟨nd, rfl⟩⟩) | (go_at_call 26; (with_reducible refine (sets_Find.calls kj18 _ _ l0 a4 t153 _ ?side1 ?side2 A56.out).mono ?_); (case side1 => repeat (first | exact (Kd.C_below HR0.out (by repeat (first | (with_reducible first | exact HB.out | apply below_alloc | apply pw_below_drewN | apply below_drew1) | exact HB.out))) | (with_reducible refine Kd.C_alloc ?_ _) | (with_reducible refine Kd.C_drewN ?_ _) | (with_reducible refine Kd.C_drew ?_))); (case side2 => exact HC0.out); rintro e w' ⟨rfl, ⟨nd, rfl⟩⟩) | (go_at_call 26; (with_reducible refine (sets_Find.calls kj18 _ _ l0 a1 t154 _ ?side1 ?side2 A57.out).mono ?_); (case side1 => repeat (first | exact (Kd.C_below HR0.out (by repeat (first | (with_reducible first | exact HB.out | apply below_alloc | apply pw_below_drewN | apply below_drew1) | exact HB.out))) | (with_reducible refine Kd.C_alloc ?_ _) | (with_reducible refine Kd.C_drewN ?_ _) | (with_reducible refine Kd.C_drew ?_))); (case side2 => exact HC0.out); rintro e w' ⟨rfl, ⟨nd, rfl⟩⟩) | ((with_reducible refine gate_callee (f := 25) rfl ?_); refine goesL_ (some 111) rfl rfl Try.func25 (by kernel_rfl) rfl #[.slice Ao65 t140.length co65] rfl (by (try simp only [List.map_toArray, List.map_cons, List.map_nil]); first | done | rfl | (simp only [List.length_drop, List.length_take]; rfl)) ?_; (with_reducible refine (sets_May.calls kj18 _ _ t140 true _ ?side1 ?side2 A59.out).mono ?_); (case side1 => repeat (first | exact (Kd.R_reads' HO_12.out).2.2 | (with_reducible refine Kd.C_alloc ?_ _) | (with_reducible refine Kd.C_drewN ?_ _) | (with_reducible refine Kd.C_drew ?_))); (case side2 => exact (Kd.R_reads' HO_12.out).2.1); rintro e w' ⟨rfl, ⟨nd, rfl⟩⟩; refine ⟨_, rfl, ?_⟩) | (go_at_call 26; (with_reducible refine (sets_Find.calls kj18 _ _ t140 a3 t164 _ ?side1 ?side2 A61.out).mono ?_); (case side1 => repeat (first | exact (Kd.R_reads' HO_12.out).2.2 | (with_reducible refine Kd.C_alloc ?_ _) | (with_reducible refine Kd.C_drewN ?_ _) | (with_reducible refine Kd.C_drew ?_))); (case side2 => exact (Kd.R_reads' HO_12.out).2.1); rintro e w' ⟨rfl, ⟨nd, rfl⟩⟩) | (go_at_call 26; (with_reducible refine (sets_Find.calls kj18 _ _ t140 a4 t165 _ ?side1 ?side2 A62.out).mono ?_); (case side1 => repeat (first | exact (Kd.R_reads' HO_12.out).2.2 | (with_reducible refine Kd.C_alloc ?_ _) | (with_reducible refine Kd.C_drewN ?_ _) | (with_reducible refine Kd.C_drew ?_))); (case side2 => exact (Kd.R_reads' HO_12.out).2.1); rintro e w' ⟨rfl, ⟨nd, rfl⟩⟩))
                        go_ret
                        exact ⟨by first | rfl | (simp [errW_none, errW_some] <;> rfl) | (simp [*, errW_none, errW_some] <;> rfl), by repeat (first | (with_reducible first | exact HB.out | apply below_alloc | apply pw_below_drewN | apply below_drew1) | exact HB.out)⟩
                    · replace c60 := Bool.eq_false_iff.mpr c60
                      subst c60
                      have H1 : (some false) = some r := by rw [if_neg (show ¬ (false = true) by decide)] at H; exact H
                      clear H
                      have H := H1
                      clear H1
                      exact absurd (HRT.out.symm.trans (Option.some.inj H).symm) (by decide)
                  · rw [if_neg c58] at H
                    have c58b0 : (t153 == t154) = false := beq_eq_false_iff_ne.mpr c58
                    have c58b1 : (t153 != t154) = true := bne_iff_ne.mpr c58
                    replace H := Option.bind_eq_some_iff.mp H
                    obtain ⟨t153q_, A660, H⟩ := H
                    have e_ := Option.some.inj (A30.out.symm.trans A660)
                    obtain rfl := e_
                    skip
                    replace H : ((sets_Find.f kj18 l0 a2).bind fun t162 => ((sets_May.f kj18 t140).bind fun t166 => (if t166 = true then ((sets_Find.f kj18 t140 a3).bind fun t167 => ((sets_Find.f kj18 t140 a4).bind fun t168 => (if t152 = t153 then (some ((t167 == t168) == true)) else (some ((t167 == t168) == (t153 == t162)))))) else (some false)))) = some r := H
                    have A66 := Aside0.mk A660
                    clear A660
                    replace H := Option.bind_eq_some_iff.mp H
                    obtain ⟨t162q_, A670, H⟩ := H
                    have e_ := Option.some.inj (A54.out.symm.trans A670)
                    obtain rfl := e_
                    skip
                    replace H : ((sets_May.f kj18 t140).bind fun t166 => (if t166 = true then ((sets_Find.f kj18 t140 a3).bind fun t167 => ((sets_Find.f kj18 t140 a4).bind fun t168 => (if t152 = t153 then (some ((t167 == t168) == true)) else (some ((t167 == t168) == (t153 == t162)))))) else (some false))) = some r := H
                    have A67 := Aside0.mk A670
                    clear A670
                    replace H := Option.bind_eq_some_iff.mp H
                    obtain ⟨t166, A680, H⟩ := H
                    replace H : (if t166 = true then ((sets_Find.f kj18 t140 a3).bind fun t167 => ((sets_Find.f kj18 t140 a4).bind fun t168 => (if t152 = t153 then (some ((t167 == t168) == true)) else (some ((t167 == t168) == (t153 == t162)))))) else (some false)) = some r := H
                    have A68 := Aside0.mk A680
                    clear A680
                    by_cases c69 : t166 = true
                    · subst c69
                      have H1 : ((sets_Find.f kj18 t140 a3).bind fun t167 => ((sets_Find.f kj18 t140 a4).bind fun t168 => (if t152 = t153 then (some ((t167 == t168) == true)) else (some ((t167 == t168) == (t153 == t162)))))) = some r := by rw [if_pos rfl] at H; exact H
                      clear H
                      have H := H1
                      clear H1
                      replace H := Option.bind_eq_some_iff.mp H
                      obtain ⟨t167, A700, H⟩ := H
                      replace H : ((sets_Find.f kj18 t140 a4).bind fun t168 => (if t152 = t153 then (some ((t167 == t168) == true)) else (some ((t167 == t168) == (t153 == t162))))) = some r := H
                      have A70 := Aside0.mk A700
                      clear A700
                      replace H := Option.bind_eq_some_iff.mp H
                      obtain ⟨t168, A710, H⟩ := H
                      replace H : (if t152 = t153 then (some ((t167 == t168) == true)) else (some ((t167 == t168) == (t153 == t162)))) = some r := H
                      have A71 := Aside0.mk A710
                      clear A710
                      by_cases c72 : t152 = t153
                      · rw [if_pos c72] at H
                        have c72b0 : (t152 == t153) = true := beq_iff_eq.mpr c72
                        have c72b1 : (t152 != t153) = false := bne_eq_false_iff_eq.mpr c72
                        clear c72
                        obtain rfl := Option.some.inj H
                        obtain ⟨Ao73, co73, eo73⟩ := Kd.R_slice HO_12.out
                        subst eo73
                        go_wp2_with (first | ((with_reducible refine gate_callee (f := 26) rfl ?_); refine goesL_ (some 71) rfl rfl Try.func26 (by kernel_rfl) rfl #[.slice A0 l0.length c0, .int .i64 a3] rfl (by (try simp only [List.map_toArray, List.map_cons, List.map_nil]); first | done | rfl | (simp only [List.length_drop, List.length_take]; rfl)) ?_; (with_reducible refine (sets_Find.calls kj18 _ _ l0 a3 t152 _ ?side1 ?side2 A29.out).mono ?_); (case side1 => repeat (first | exact (Kd.C_below HR0.out HB.out) | (with_reducible refine Kd.C_alloc ?_ _) | (with_reducible refine Kd.C_drewN ?_ _) | (with_reducible refine Kd.C_drew ?_))); (case side2 => exact HC0.out); rintro e w' ⟨rfl, ⟨nd, rfl⟩⟩; refine ⟨_, rfl, ?_⟩) | ((with_reducible refine gate_callee (f := 26) rfl ?_); refine goesL_ (some 74) rfl rfl Try.func26 (by kernel_rfl) rfl #[.slice A0 l0.length c0, .int .i64 a4] rfl (by (try simp only [List.map_toArray, List.map_cons, List.map_nil]); first | done | rfl | (simp only [List.length_drop, List.length_take]; rfl)) ?_; (with_reducible refine (sets_Find.calls kj18 _ _ l0 a4 t153 _ ?side1 ?side2 A30.out).mono ?_); (case side1 => repeat (first | exact (Kd.C_below HR0.out (by repeat (first | (with_reducible first | exact HB.out | apply below_alloc | apply pw_below_drewN | apply below_drew1) | exact HB.out))) | (with_reducible refine Kd.C_alloc ?_ _) | (with_reducible refine Kd.C_drewN ?_ _) | (with_reducible refine Kd.C_drew ?_))); (case side2 => exact HC0.out); rintro e w' ⟨rfl, ⟨nd, rfl⟩⟩; refine ⟨_, rfl, ?_⟩) | ((with_reducible refine gate_callee (f := 26) rfl ?_); refine goesL_ (some 78) rfl rfl Try.func26 (by kernel_rfl) rfl #[.slice A0 l0.length c0, .int .i64 a3] rfl (by (try simp only [List.map_toArray, List.map_cons, List.map_nil]); first | done | rfl | (simp only [List.length_drop, List.length_take]; rfl)) ?_; (with_reducible refine (sets_Find.calls kj18 _ _ l0 a3 t152 _ ?side1 ?side2 A31.out).mono ?_); (case side1 => repeat (first | exact (Kd.C_below HR0.out (by repeat (first | (with_reducible first | exact HB.out | apply below_alloc | apply pw_below_drewN | apply below_drew1) | exact HB.out))) | (with_reducible refine Kd.C_alloc ?_ _) | (with_reducible refine Kd.C_drewN ?_ _) | (with_reducible refine Kd.C_drew ?_))); (case side2 => exact HC0.out); rintro e w' ⟨rfl, ⟨nd, rfl⟩⟩; refine ⟨_, rfl, ?_⟩) | ((with_reducible refine gate_callee (f := 26) rfl ?_); refine goesL_ (some 81) rfl rfl Try.func26 (by kernel_rfl) rfl #[.slice A0 l0.length c0, .int .i64 a1] rfl (by (try simp only [List.map_toArray, List.map_cons, List.map_nil]); first | done | rfl | (simp only [List.length_drop, List.length_take]; rfl)) ?_; (with_reducible refine (sets_Find.calls kj18 _ _ l0 a1 t154 _ ?side1 ?side2 A32.out).mono ?_); (case side1 => repeat (first | exact (Kd.C_below HR0.out (by repeat (first | (with_reducible first | exact HB.out | apply below_alloc | apply pw_below_drewN | apply below_drew1) | exact HB.out))) | (with_reducible refine Kd.C_alloc ?_ _) | (with_reducible refine Kd.C_drewN ?_ _) | (with_reducible refine Kd.C_drew ?_))); (case side2 => exact HC0.out); rintro e w' ⟨rfl, ⟨nd, rfl⟩⟩; refine ⟨_, rfl, ?_⟩) | (go_at_call 26; (with_reducible refine (sets_Find.calls kj18 _ _ l0 a3 t152 _ ?side1 ?side2 A53.out).mono ?_); (case side1 => repeat (first | exact (Kd.C_below HR0.out (by repeat (first | (with_reducible first | exact HB.out | apply below_alloc | apply pw_below_drewN | apply below_drew1) | exact HB.out))) | (with_reducible refine Kd.C_alloc ?_ _) | (with_reducible refine Kd.C_drewN ?_ _) | (with_reducible refine Kd.C_drew ?_))); (case side2 => exact HC0.out); rintro e w' ⟨rfl, ⟨nd, rfl⟩⟩) | (go_at_call 26; (with_reducible refine (sets_Find.calls kj18 _ _ l0 a2 t162 _ ?side1 ?side2 A54.out).mono ?_); (case side1 => repeat (first | exact (Kd.C_below HR0.out (by repeat (first | (with_reducible first | exact HB.out | apply below_alloc | apply pw_below_drewN | apply below_drew1) | exact HB.out))) | (with_reducible refine Kd.C_alloc ?_ _) | (with_reducible refine Kd.C_drewN ?_ _) | (with_reducible refine Kd.C_drew ?_))); (case side2 => exact HC0.out); rintro e w' ⟨rfl, ⟨nd, rfl⟩⟩) | (go_at_call 26; (with_reducible refine (sets_Find.calls kj18 _ _ l0 a4 t153 _ ?side1 ?side2 A56.out).mono ?_); (case side1 => repeat (first | exact (Kd.C_below HR0.out (by repeat (first | (with_reducible first | exact HB.out | apply below_alloc | apply pw_below_drewN | apply below_drew1) | exact HB.out))) | (with_reducible refine Kd.C_alloc ?_ _) | (with_reducible refine Kd.C_drewN ?_ _) | (with_reducible refine Kd.C_drew ?_))); (case side2 => exact HC0.out); rintro e w' ⟨rfl, ⟨nd, rfl⟩⟩) | (go_at_call 26; (with_reducible refine (sets_Find.calls kj18 _ _ l0 a1 t154 _ ?side1 ?side2 A57.out).mono ?_); (case side1 => repeat (first | exact (Kd.C_below HR0.out (by repeat (first | (with_reducible first | exact HB.out | apply below_alloc | apply pw_below_drewN | apply below_drew1) | exact HB.out))) | (with_reducible refine Kd.C_alloc ?_ _) | (with_reducible refine Kd.C_drewN ?_ _) | (with_reducible refine Kd.C_drew ?_))); (case side2 => exact HC0.out); rintro e w' ⟨rfl, ⟨nd, rfl⟩⟩) | (go_at_call 26; (with_reducible refine (sets_Find.calls kj18 _ _ l0 a4 t153 _ ?side1 ?side2 A66.out).mono ?_); (case side1 => repeat (first | exact (Kd.C_below HR0.out (by repeat (first | (with_reducible first | exact HB.out | apply below_alloc | apply pw_below_drewN | apply below_drew1) | exact HB.out))) | (with_reducible refine Kd.C_alloc ?_ _) | (with_reducible refine Kd.C_drewN ?_ _) | (with_reducible refine Kd.C_drew ?_))); (case side2 => exact HC0.out); rintro e w' ⟨rfl, ⟨nd, rfl⟩⟩) | (go_at_call 26; (with_reducible refine (sets_Find.calls kj18 _ _ l0 a2 t162 _ ?side1 ?side2 A67.out).mono ?_); (case side1 => repeat (first | exact (Kd.C_below HR0.out (by repeat (first | (with_reducible first | exact HB.out | apply below_alloc | apply pw_below_drewN | apply below_drew1) | exact HB.out))) | (with_reducible refine Kd.C_alloc ?_ _) | (with_reducible refine Kd.C_drewN ?_ _) | (with_reducible refine Kd.C_drew ?_))); (case side2 => exact HC0.out); rintro e w' ⟨rfl, ⟨nd, rfl⟩⟩) | ((with_reducible refine gate_callee (f := 25) rfl ?_); refine goesL_ (some 111) rfl rfl Try.func25 (by kernel_rfl) rfl #[.slice Ao73 t140.length co73] rfl (by (try simp only [List.map_toArray, List.map_cons, List.map_nil]); first | done | rfl | (simp only [List.length_drop, List.length_take]; rfl)) ?_; (with_reducible refine (sets_May.calls kj18 _ _ t140 true _ ?side1 ?side2 A68.out).mono ?_); (case side1 => repeat (first | exact (Kd.R_reads' HO_12.out).2.2 | (with_reducible refine Kd.C_alloc ?_ _) | (with_reducible refine Kd.C_drewN ?_ _) | (with_reducible refine Kd.C_drew ?_))); (case side2 => exact (Kd.R_reads' HO_12.out).2.1); rintro e w' ⟨rfl, ⟨nd, rfl⟩⟩; refine ⟨_, rfl, ?_⟩) | (go_at_call 26; (with_reducible refine (sets_Find.calls kj18 _ _ t140 a3 t167 _ ?side1 ?side2 A70.out).mono ?_); (case side1 => repeat (first | exact (Kd.R_reads' HO_12.out).2.2 | (with_reducible refine Kd.C_alloc ?_ _) | (with_reducible refine Kd.C_drewN ?_ _) | (with_reducible refine Kd.C_drew ?_))); (case side2 => exact (Kd.R_reads' HO_12.out).2.1); rintro e w' ⟨rfl, ⟨nd, rfl⟩⟩) | (go_at_call 26; (with_reducible refine (sets_Find.calls kj18 _ _ t140 a4 t168 _ ?side1 ?side2 A71.out).mono ?_); (case side1 => repeat (first | exact (Kd.R_reads' HO_12.out).2.2 | (with_reducible refine Kd.C_alloc ?_ _) | (with_reducible refine Kd.C_drewN ?_ _) | (with_reducible refine Kd.C_drew ?_))); (case side2 => exact (Kd.R_reads' HO_12.out).2.1); rintro e w' ⟨rfl, ⟨nd, rfl⟩⟩))
                        go_ret
                        exact ⟨by first | rfl | (simp [errW_none, errW_some] <;> rfl) | (simp [*, errW_none, errW_some] <;> rfl), by repeat (first | (with_reducible first | exact HB.out | apply below_alloc | apply pw_below_drewN | apply below_drew1) | exact HB.out)⟩
                      · rw [if_neg c72] at H
                        have c72b0 : (t152 == t153) = false := beq_eq_false_iff_ne.mpr c72
                        have c72b1 : (t152 != t153) = true := bne_iff_ne.mpr c72
                        obtain rfl := Option.some.inj H
                        obtain ⟨Ao74, co74, eo74⟩ := Kd.R_slice HO_12.out
                        subst eo74
                        go_wp2_with (first | ((with_reducible refine gate_callee (f := 26) rfl ?_); refine goesL_ (some 71) rfl rfl Try.func26 (by kernel_rfl) rfl #[.slice A0 l0.length c0, .int .i64 a3] rfl (by (try simp only [List.map_toArray, List.map_cons, List.map_nil]); first | done | rfl | (simp only [List.length_drop, List.length_take]; rfl)) ?_; (with_reducible refine (sets_Find.calls kj18 _ _ l0 a3 t152 _ ?side1 ?side2 A29.out).mono ?_); (case side1 => repeat (first | exact (Kd.C_below HR0.out HB.out) | (with_reducible refine Kd.C_alloc ?_ _) | (with_reducible refine Kd.C_drewN ?_ _) | (with_reducible refine Kd.C_drew ?_))); (case side2 => exact HC0.out); rintro e w' ⟨rfl, ⟨nd, rfl⟩⟩; refine ⟨_, rfl, ?_⟩) | ((with_reducible refine gate_callee (f := 26) rfl ?_); refine goesL_ (some 74) rfl rfl Try.func26 (by kernel_rfl) rfl #[.slice A0 l0.length c0, .int .i64 a4] rfl (by (try simp only [List.map_toArray, List.map_cons, List.map_nil]); first | done | rfl | (simp only [List.length_drop, List.length_take]; rfl)) ?_; (with_reducible refine (sets_Find.calls kj18 _ _ l0 a4 t153 _ ?side1 ?side2 A30.out).mono ?_); (case side1 => repeat (first | exact (Kd.C_below HR0.out (by repeat (first | (with_reducible first | exact HB.out | apply below_alloc | apply pw_below_drewN | apply below_drew1) | exact HB.out))) | (with_reducible refine Kd.C_alloc ?_ _) | (with_reducible refine Kd.C_drewN ?_ _) | (with_reducible refine Kd.C_drew ?_))); (case side2 => exact HC0.out); rintro e w' ⟨rfl, ⟨nd, rfl⟩⟩; refine ⟨_, rfl, ?_⟩) | ((with_reducible refine gate_callee (f := 26) rfl ?_); refine goesL_ (some 78) rfl rfl Try.func26 (by kernel_rfl) rfl #[.slice A0 l0.length c0, .int .i64 a3] rfl (by (try simp only [List.map_toArray, List.map_cons, List.map_nil]); first | done | rfl | (simp only [List.length_drop, List.length_take]; rfl)) ?_; (with_reducible refine (sets_Find.calls kj18 _ _ l0 a3 t152 _ ?side1 ?side2 A31.out).mono ?_); (case side1 => repeat (first | exact (Kd.C_below HR0.out (by repeat (first | (with_reducible first | exact HB.out | apply below_alloc | apply pw_below_drewN | apply below_drew1) | exact HB.out))) | (with_reducible refine Kd.C_alloc ?_ _) | (with_reducible refine Kd.C_drewN ?_ _) | (with_reducible refine Kd.C_drew ?_))); (case side2 => exact HC0.out); rintro e w' ⟨rfl, ⟨nd, rfl⟩⟩; refine ⟨_, rfl, ?_⟩) | ((with_reducible refine gate_callee (f := 26) rfl ?_); refine goesL_ (some 81) rfl rfl Try.func26 (by kernel_rfl) rfl #[.slice A0 l0.length c0, .int .i64 a1] rfl (by (try simp only [List.map_toArray, List.map_cons, List.map_nil]); first | done | rfl | (simp only [List.length_drop, List.length_take]; rfl)) ?_; (with_reducible refine (sets_Find.calls kj18 _ _ l0 a1 t154 _ ?side1 ?side2 A32.out).mono ?_); (case side1 => repeat (first | exact (Kd.C_below HR0.out (by repeat (first | (with_reducible first | exact HB.out | apply below_alloc | apply pw_below_drewN | apply below_drew1) | exact HB.out))) | (with_reducible refine Kd.C_alloc ?_ _) | (with_reducible refine Kd.C_drewN ?_ _) | (with_reducible refine Kd.C_drew ?_))); (case side2 => exact HC0.out); rintro e w' ⟨rfl, ⟨nd, rfl⟩⟩; refine ⟨_, rfl, ?_⟩) | (go_at_call 26; (with_reducible refine (sets_Find.calls kj18 _ _ l0 a3 t152 _ ?side1 ?side2 A53.out).mono ?_); (case side1 => repeat (first | exact (Kd.C_below HR0.out (by repeat (first | (with_reducible first | exact HB.out | apply below_alloc | apply pw_below_drewN | apply below_drew1) | exact HB.out))) | (with_reducible refine Kd.C_alloc ?_ _) | (with_reducible refine Kd.C_drewN ?_ _) | (with_reducible refine Kd.C_drew ?_))); (case side2 => exact HC0.out); rintro e w' ⟨rfl, ⟨nd, rfl⟩⟩) | (go_at_call 26; (with_reducible refine (sets_Find.calls kj18 _ _ l0 a2 t162 _ ?side1 ?side2 A54.out).mono ?_); (case side1 => repeat (first | exact (Kd.C_below HR0.out (by repeat (first | (with_reducible first | exact HB.out | apply below_alloc | apply pw_below_drewN | apply below_drew1) | exact HB.out))) | (with_reducible refine Kd.C_alloc ?_ _) | (with_reducible refine Kd.C_drewN ?_ _) | (with_reducible refine Kd.C_drew ?_))); (case side2 => exact HC0.out); rintro e w' ⟨rfl, ⟨nd, rfl⟩⟩) | (go_at_call 26; (with_reducible refine (sets_Find.calls kj18 _ _ l0 a4 t153 _ ?side1 ?side2 A56.out).mono ?_); (case side1 => repeat (first | exact (Kd.C_below HR0.out (by repeat (first | (with_reducible first | exact HB.out | apply below_alloc | apply pw_below_drewN | apply below_drew1) | exact HB.out))) | (with_reducible refine Kd.C_alloc ?_ _) | (with_reducible refine Kd.C_drewN ?_ _) | (with_reducible refine Kd.C_drew ?_))); (case side2 => exact HC0.out); rintro e w' ⟨rfl, ⟨nd, rfl⟩⟩) | (go_at_call 26; (with_reducible refine (sets_Find.calls kj18 _ _ l0 a1 t154 _ ?side1 ?side2 A57.out).mono ?_); (case side1 => repeat (first | exact (Kd.C_below HR0.out (by repeat (first | (with_reducible first | exact HB.out | apply below_alloc | apply pw_below_drewN | apply below_drew1) | exact HB.out))) | (with_reducible refine Kd.C_alloc ?_ _) | (with_reducible refine Kd.C_drewN ?_ _) | (with_reducible refine Kd.C_drew ?_))); (case side2 => exact HC0.out); rintro e w' ⟨rfl, ⟨nd, rfl⟩⟩) | (go_at_call 26; (with_reducible refine (sets_Find.calls kj18 _ _ l0 a4 t153 _ ?side1 ?side2 A66.out).mono ?_); (case side1 => repeat (first | exact (Kd.C_below HR0.out (by repeat (first | (with_reducible first | exact HB.out | apply below_alloc | apply pw_below_drewN | apply below_drew1) | exact HB.out))) | (with_reducible refine Kd.C_alloc ?_ _) | (with_reducible refine Kd.C_drewN ?_ _) | (with_reducible refine Kd.C_drew ?_))); (case side2 => exact HC0.out); rintro e w' ⟨rfl, ⟨nd, rfl⟩⟩) | (go_at_call 26; (with_reducible refine (sets_Find.calls kj18 _ _ l0 a2 t162 _ ?side1 ?side2 A67.out).mono ?_); (case side1 => repeat (first | exact (Kd.C_below HR0.out (by repeat (first | (with_reducible first | exact HB.out | apply below_alloc | apply pw_below_drewN | apply below_drew1) | exact HB.out))) | (with_reducible refine Kd.C_alloc ?_ _) | (with_reducible refine Kd.C_drewN ?_ _) | (with_reducible refine Kd.C_drew ?_))); (case side2 => exact HC0.out); rintro e w' ⟨rfl, ⟨nd, rfl⟩⟩) | ((with_reducible refine gate_callee (f := 25) rfl ?_); refine goesL_ (some 111) rfl rfl Try.func25 (by kernel_rfl) rfl #[.slice Ao74 t140.length co74] rfl (by (try simp only [List.map_toArray, List.map_cons, List.map_nil]); first | done | rfl | (simp only [List.length_drop, List.length_take]; rfl)) ?_; (with_reducible refine (sets_May.calls kj18 _ _ t140 true _ ?side1 ?side2 A68.out).mono ?_); (case side1 => repeat (first | exact (Kd.R_reads' HO_12.out).2.2 | (with_reducible refine Kd.C_alloc ?_ _) | (with_reducible refine Kd.C_drewN ?_ _) | (with_reducible refine Kd.C_drew ?_))); (case side2 => exact (Kd.R_reads' HO_12.out).2.1); rintro e w' ⟨rfl, ⟨nd, rfl⟩⟩; refine ⟨_, rfl, ?_⟩) | (go_at_call 26; (with_reducible refine (sets_Find.calls kj18 _ _ t140 a3 t167 _ ?side1 ?side2 A70.out).mono ?_); (case side1 => repeat (first | exact (Kd.R_reads' HO_12.out).2.2 | (with_reducible refine Kd.C_alloc ?_ _) | (with_reducible refine Kd.C_drewN ?_ _) | (with_reducible refine Kd.C_drew ?_))); (case side2 => exact (Kd.R_reads' HO_12.out).2.1); rintro e w' ⟨rfl, ⟨nd, rfl⟩⟩) | (go_at_call 26; (with_reducible refine (sets_Find.calls kj18 _ _ t140 a4 t168 _ ?side1 ?side2 A71.out).mono ?_); (case side1 => repeat (first | exact (Kd.R_reads' HO_12.out).2.2 | (with_reducible refine Kd.C_alloc ?_ _) | (with_reducible refine Kd.C_drewN ?_ _) | (with_reducible refine Kd.C_drew ?_))); (case side2 => exact (Kd.R_reads' HO_12.out).2.1); rintro e w' ⟨rfl, ⟨nd, rfl⟩⟩))
                        go_ret
                        exact ⟨by first | rfl | (simp [errW_none, errW_some] <;> rfl) | (simp [*, errW_none, errW_some] <;> rfl), by repeat (first | (with_reducible first | exact HB.out | apply below_alloc | apply pw_below_drewN | apply below_drew1) | exact HB.out)⟩
                    · replace c69 := Bool.eq_false_iff.mpr c69
                      subst c69
                      have H1 : (some false) = some r := by rw [if_neg (show ¬ (false = true) by decide)] at H; exact H
                      clear H
                      have H := H1
                      clear H1
                      exact absurd (HRT.out.symm.trans (Option.some.inj H).symm) (by decide)
                · rw [if_neg c55] at H
                  have c55b0 : (t152 == t162) = false := beq_eq_false_iff_ne.mpr c55
                  have c55b1 : (t152 != t162) = true := bne_iff_ne.mpr c55
                  replace H := Option.bind_eq_some_iff.mp H
                  obtain ⟨t169, A750, H⟩ := H
                  replace H : (if t169 = true then ((sets_Find.f kj18 t140 a3).bind fun t170 => ((sets_Find.f kj18 t140 a4).bind fun t171 => (if t152 = t153 then (some ((t170 == t171) == true)) else (some ((t170 == t171) == false))))) else (some false)) = some r := H
                  have A75 := Aside0.mk A750
                  clear A750
                  by_cases c76 : t169 = true
                  · subst c76
                    have H1 : ((sets_Find.f kj18 t140 a3).bind fun t170 => ((sets_Find.f kj18 t140 a4).bind fun t171 => (if t152 = t153 then (some ((t170 == t171) == true)) else (some ((t170 == t171) == false))))) = some r := by rw [if_pos rfl] at H; exact H
                    clear H
                    have H := H1
                    clear H1
                    replace H := Option.bind_eq_some_iff.mp H
                    obtain ⟨t170, A770, H⟩ := H
                    replace H : ((sets_Find.f kj18 t140 a4).bind fun t171 => (if t152 = t153 then (some ((t170 == t171) == true)) else (some ((t170 == t171) == false)))) = some r := H
                    have A77 := Aside0.mk A770
                    clear A770
                    replace H := Option.bind_eq_some_iff.mp H
                    obtain ⟨t171, A780, H⟩ := H
                    replace H : (if t152 = t153 then (some ((t170 == t171) == true)) else (some ((t170 == t171) == false))) = some r := H
                    have A78 := Aside0.mk A780
                    clear A780
                    by_cases c79 : t152 = t153
                    · rw [if_pos c79] at H
                      have c79b0 : (t152 == t153) = true := beq_iff_eq.mpr c79
                      have c79b1 : (t152 != t153) = false := bne_eq_false_iff_eq.mpr c79
                      clear c79
                      obtain rfl := Option.some.inj H
                      obtain ⟨Ao80, co80, eo80⟩ := Kd.R_slice HO_12.out
                      subst eo80
                      go_wp2_with (first | ((with_reducible refine gate_callee (f := 26) rfl ?_); refine goesL_ (some 71) rfl rfl Try.func26 (by kernel_rfl) rfl #[.slice A0 l0.length c0, .int .i64 a3] rfl (by (try simp only [List.map_toArray, List.map_cons, List.map_nil]); first | done | rfl | (simp only [List.length_drop, List.length_take]; rfl)) ?_; (with_reducible refine (sets_Find.calls kj18 _ _ l0 a3 t152 _ ?side1 ?side2 A29.out).mono ?_); (case side1 => repeat (first | exact (Kd.C_below HR0.out HB.out) | (with_reducible refine Kd.C_alloc ?_ _) | (with_reducible refine Kd.C_drewN ?_ _) | (with_reducible refine Kd.C_drew ?_))); (case side2 => exact HC0.out); rintro e w' ⟨rfl, ⟨nd, rfl⟩⟩; refine ⟨_, rfl, ?_⟩) | ((with_reducible refine gate_callee (f := 26) rfl ?_); refine goesL_ (some 74) rfl rfl Try.func26 (by kernel_rfl) rfl #[.slice A0 l0.length c0, .int .i64 a4] rfl (by (try simp only [List.map_toArray, List.map_cons, List.map_nil]); first | done | rfl | (simp only [List.length_drop, List.length_take]; rfl)) ?_; (with_reducible refine (sets_Find.calls kj18 _ _ l0 a4 t153 _ ?side1 ?side2 A30.out).mono ?_); (case side1 => repeat (first | exact (Kd.C_below HR0.out (by repeat (first | (with_reducible first | exact HB.out | apply below_alloc | apply pw_below_drewN | apply below_drew1) | exact HB.out))) | (with_reducible refine Kd.C_alloc ?_ _) | (with_reducible refine Kd.C_drewN ?_ _) | (with_reducible refine Kd.C_drew ?_))); (case side2 => exact HC0.out); rintro e w' ⟨rfl, ⟨nd, rfl⟩⟩; refine ⟨_, rfl, ?_⟩) | ((with_reducible refine gate_callee (f := 26) rfl ?_); refine goesL_ (some 78) rfl rfl Try.func26 (by kernel_rfl) rfl #[.slice A0 l0.length c0, .int .i64 a3] rfl (by (try simp only [List.map_toArray, List.map_cons, List.map_nil]); first | done | rfl | (simp only [List.length_drop, List.length_take]; rfl)) ?_; (with_reducible refine (sets_Find.calls kj18 _ _ l0 a3 t152 _ ?side1 ?side2 A31.out).mono ?_); (case side1 => repeat (first | exact (Kd.C_below HR0.out (by repeat (first | (with_reducible first | exact HB.out | apply below_alloc | apply pw_below_drewN | apply below_drew1) | exact HB.out))) | (with_reducible refine Kd.C_alloc ?_ _) | (with_reducible refine Kd.C_drewN ?_ _) | (with_reducible refine Kd.C_drew ?_))); (case side2 => exact HC0.out); rintro e w' ⟨rfl, ⟨nd, rfl⟩⟩; refine ⟨_, rfl, ?_⟩) | ((with_reducible refine gate_callee (f := 26) rfl ?_); refine goesL_ (some 81) rfl rfl Try.func26 (by kernel_rfl) rfl #[.slice A0 l0.length c0, .int .i64 a1] rfl (by (try simp only [List.map_toArray, List.map_cons, List.map_nil]); first | done | rfl | (simp only [List.length_drop, List.length_take]; rfl)) ?_; (with_reducible refine (sets_Find.calls kj18 _ _ l0 a1 t154 _ ?side1 ?side2 A32.out).mono ?_); (case side1 => repeat (first | exact (Kd.C_below HR0.out (by repeat (first | (with_reducible first | exact HB.out | apply below_alloc | apply pw_below_drewN | apply below_drew1) | exact HB.out))) | (with_reducible refine Kd.C_alloc ?_ _) | (with_reducible refine Kd.C_drewN ?_ _) | (with_reducible refine Kd.C_drew ?_))); (case side2 => exact HC0.out); rintro e w' ⟨rfl, ⟨nd, rfl⟩⟩; refine ⟨_, rfl, ?_⟩) | (go_at_call 26; (with_reducible refine (sets_Find.calls kj18 _ _ l0 a3 t152 _ ?side1 ?side2 A53.out).mono ?_); (case side1 => repeat (first | exact (Kd.C_below HR0.out (by repeat (first | (with_reducible first | exact HB.out | apply below_alloc | apply pw_below_drewN | apply below_drew1) | exact HB.out))) | (with_reducible refine Kd.C_alloc ?_ _) | (with_reducible refine Kd.C_drewN ?_ _) | (with_reducible refine Kd.C_drew ?_))); (case side2 => exact HC0.out); rintro e w' ⟨rfl, ⟨nd, rfl⟩⟩) | (go_at_call 26; (with_reducible refine (sets_Find.calls kj18 _ _ l0 a2 t162 _ ?side1 ?side2 A54.out).mono ?_); (case side1 => repeat (first | exact (Kd.C_below HR0.out (by repeat (first | (with_reducible first | exact HB.out | apply below_alloc | apply pw_below_drewN | apply below_drew1) | exact HB.out))) | (with_reducible refine Kd.C_alloc ?_ _) | (with_reducible refine Kd.C_drewN ?_ _) | (with_reducible refine Kd.C_drew ?_))); (case side2 => exact HC0.out); rintro e w' ⟨rfl, ⟨nd, rfl⟩⟩) | ((with_reducible refine gate_callee (f := 25) rfl ?_); refine goesL_ (some 111) rfl rfl Try.func25 (by kernel_rfl) rfl #[.slice Ao80 t140.length co80] rfl (by (try simp only [List.map_toArray, List.map_cons, List.map_nil]); first | done | rfl | (simp only [List.length_drop, List.length_take]; rfl)) ?_; (with_reducible refine (sets_May.calls kj18 _ _ t140 true _ ?side1 ?side2 A75.out).mono ?_); (case side1 => repeat (first | exact (Kd.R_reads' HO_12.out).2.2 | (with_reducible refine Kd.C_alloc ?_ _) | (with_reducible refine Kd.C_drewN ?_ _) | (with_reducible refine Kd.C_drew ?_))); (case side2 => exact (Kd.R_reads' HO_12.out).2.1); rintro e w' ⟨rfl, ⟨nd, rfl⟩⟩; refine ⟨_, rfl, ?_⟩) | (go_at_call 26; (with_reducible refine (sets_Find.calls kj18 _ _ t140 a3 t170 _ ?side1 ?side2 A77.out).mono ?_); (case side1 => repeat (first | exact (Kd.R_reads' HO_12.out).2.2 | (with_reducible refine Kd.C_alloc ?_ _) | (with_reducible refine Kd.C_drewN ?_ _) | (with_reducible refine Kd.C_drew ?_))); (case side2 => exact (Kd.R_reads' HO_12.out).2.1); rintro e w' ⟨rfl, ⟨nd, rfl⟩⟩) | (go_at_call 26; (with_reducible refine (sets_Find.calls kj18 _ _ t140 a4 t171 _ ?side1 ?side2 A78.out).mono ?_); (case side1 => repeat (first | exact (Kd.R_reads' HO_12.out).2.2 | (with_reducible refine Kd.C_alloc ?_ _) | (with_reducible refine Kd.C_drewN ?_ _) | (with_reducible refine Kd.C_drew ?_))); (case side2 => exact (Kd.R_reads' HO_12.out).2.1); rintro e w' ⟨rfl, ⟨nd, rfl⟩⟩))
                      go_ret
                      exact ⟨by first | rfl | (simp [errW_none, errW_some] <;> rfl) | (simp [*, errW_none, errW_some] <;> rfl), by repeat (first | (with_reducible first | exact HB.out | apply below_alloc | apply pw_below_drewN | apply below_drew1) | exact HB.out)⟩
                    · rw [if_neg c79] at H
                      have c79b0 : (t152 == t153) = false := beq_eq_false_iff_ne.mpr c79
                      have c79b1 : (t152 != t153) = true := bne_iff_ne.mpr c79
                      obtain rfl := Option.some.inj H
                      obtain ⟨Ao81, co81, eo81⟩ := Kd.R_slice HO_12.out
                      subst eo81
                      go_wp2_with (first | ((with_reducible refine gate_callee (f := 26) rfl ?_); refine goesL_ (some 71) rfl rfl Try.func26 (by kernel_rfl) rfl #[.slice A0 l0.length c0, .int .i64 a3] rfl (by (try simp only [List.map_toArray, List.map_cons, List.map_nil]); first | done | rfl | (simp only [List.length_drop, List.length_take]; rfl)) ?_; (with_reducible refine (sets_Find.calls kj18 _ _ l0 a3 t152 _ ?side1 ?side2 A29.out).mono ?_); (case side1 => repeat (first | exact (Kd.C_below HR0.out HB.out) | (with_reducible refine Kd.C_alloc ?_ _) | (with_reducible refine Kd.C_drewN ?_ _) | (with_reducible refine Kd.C_drew ?_))); (case side2 => exact HC0.out); rintro e w' ⟨rfl, ⟨nd, rfl⟩⟩; refine ⟨_, rfl, ?_⟩) | ((with_reducible refine gate_callee (f := 26) rfl ?_); refine goesL_ (some 74) rfl rfl Try.func26 (by kernel_rfl) rfl #[.slice A0 l0.length c0, .int .i64 a4] rfl (by (try simp only [List.map_toArray, List.map_cons, List.map_nil]); first | done | rfl | (simp only [List.length_drop, List.length_take]; rfl)) ?_; (with_reducible refine (sets_Find.calls kj18 _ _ l0 a4 t153 _ ?side1 ?side2 A30.out).mono ?_); (case side1 => repeat (first | exact (Kd.C_below HR0.out (by repeat (first | (with_reducible first | exact HB.out | apply below_alloc | apply pw_below_drewN | apply below_drew1) | exact HB.out))) | (with_reducible refine Kd.C_alloc ?_ _) | (with_reducible refine Kd.C_drewN ?_ _) | (with_reducible refine Kd.C_drew ?_))); (case side2 => exact HC0.out); rintro e w' ⟨rfl, ⟨nd, rfl⟩⟩; refine ⟨_, rfl, ?_⟩) | ((with_reducible refine gate_callee (f := 26) rfl ?_); refine goesL_ (some 78) rfl rfl Try.func26 (by kernel_rfl) rfl #[.slice A0 l0.length c0, .int .i64 a3] rfl (by (try simp only [List.map_toArray, List.map_cons, List.map_nil]); first | done | rfl | (simp only [List.length_drop, List.length_take]; rfl)) ?_; (with_reducible refine (sets_Find.calls kj18 _ _ l0 a3 t152 _ ?side1 ?side2 A31.out).mono ?_); (case side1 => repeat (first | exact (Kd.C_below HR0.out (by repeat (first | (with_reducible first | exact HB.out | apply below_alloc | apply pw_below_drewN | apply below_drew1) | exact HB.out))) | (with_reducible refine Kd.C_alloc ?_ _) | (with_reducible refine Kd.C_drewN ?_ _) | (with_reducible refine Kd.C_drew ?_))); (case side2 => exact HC0.out); rintro e w' ⟨rfl, ⟨nd, rfl⟩⟩; refine ⟨_, rfl, ?_⟩) | ((with_reducible refine gate_callee (f := 26) rfl ?_); refine goesL_ (some 81) rfl rfl Try.func26 (by kernel_rfl) rfl #[.slice A0 l0.length c0, .int .i64 a1] rfl (by (try simp only [List.map_toArray, List.map_cons, List.map_nil]); first | done | rfl | (simp only [List.length_drop, List.length_take]; rfl)) ?_; (with_reducible refine (sets_Find.calls kj18 _ _ l0 a1 t154 _ ?side1 ?side2 A32.out).mono ?_); (case side1 => repeat (first | exact (Kd.C_below HR0.out (by repeat (first | (with_reducible first | exact HB.out | apply below_alloc | apply pw_below_drewN | apply below_drew1) | exact HB.out))) | (with_reducible refine Kd.C_alloc ?_ _) | (with_reducible refine Kd.C_drewN ?_ _) | (with_reducible refine Kd.C_drew ?_))); (case side2 => exact HC0.out); rintro e w' ⟨rfl, ⟨nd, rfl⟩⟩; refine ⟨_, rfl, ?_⟩) | (go_at_call 26; (with_reducible refine (sets_Find.calls kj18 _ _ l0 a3 t152 _ ?side1 ?side2 A53.out).mono ?_); (case side1 => repeat (first | exact (Kd.C_below HR0.out (by repeat (first | (with_reducible first | exact HB.out | apply below_alloc | apply pw_below_drewN | apply below_drew1) | exact HB.out))) | (with_reducible refine Kd.C_alloc ?_ _) | (with_reducible refine Kd.C_drewN ?_ _) | (with_reducible refine Kd.C_drew ?_))); (case side2 => exact HC0.out); rintro e w' ⟨rfl, ⟨nd, rfl⟩⟩) | (go_at_call 26; (with_reducible refine (sets_Find.calls kj18 _ _ l0 a2 t162 _ ?side1 ?side2 A54.out).mono ?_); (case side1 => repeat (first | exact (Kd.C_below HR0.out (by repeat (first | (with_reducible first | exact HB.out | apply below_alloc | apply pw_below_drewN | apply below_drew1) | exact HB.out))) | (with_reducible refine Kd.C_alloc ?_ _) | (with_reducible refine Kd.C_drewN ?_ _) | (with_reducible refine Kd.C_drew ?_))); (case side2 => exact HC0.out); rintro e w' ⟨rfl, ⟨nd, rfl⟩⟩) | ((with_reducible refine gate_callee (f := 25) rfl ?_); refine goesL_ (some 111) rfl rfl Try.func25 (by kernel_rfl) rfl #[.slice Ao81 t140.length co81] rfl (by (try simp only [List.map_toArray, List.map_cons, List.map_nil]); first | done | rfl | (simp only [List.length_drop, List.length_take]; rfl)) ?_; (with_reducible refine (sets_May.calls kj18 _ _ t140 true _ ?side1 ?side2 A75.out).mono ?_); (case side1 => repeat (first | exact (Kd.R_reads' HO_12.out).2.2 | (with_reducible refine Kd.C_alloc ?_ _) | (with_reducible refine Kd.C_drewN ?_ _) | (with_reducible refine Kd.C_drew ?_))); (case side2 => exact (Kd.R_reads' HO_12.out).2.1); rintro e w' ⟨rfl, ⟨nd, rfl⟩⟩; refine ⟨_, rfl, ?_⟩) | (go_at_call 26; (with_reducible refine (sets_Find.calls kj18 _ _ t140 a3 t170 _ ?side1 ?side2 A77.out).mono ?_); (case side1 => repeat (first | exact (Kd.R_reads' HO_12.out).2.2 | (with_reducible refine Kd.C_alloc ?_ _) | (with_reducible refine Kd.C_drewN ?_ _) | (with_reducible refine Kd.C_drew ?_))); (case side2 => exact (Kd.R_reads' HO_12.out).2.1); rintro e w' ⟨rfl, ⟨nd, rfl⟩⟩) | (go_at_call 26; (with_reducible refine (sets_Find.calls kj18 _ _ t140 a4 t171 _ ?side1 ?side2 A78.out).mono ?_); (case side1 => repeat (first | exact (Kd.R_reads' HO_12.out).2.2 | (with_reducible refine Kd.C_alloc ?_ _) | (with_reducible refine Kd.C_drewN ?_ _) | (with_reducible refine Kd.C_drew ?_))); (case side2 => exact (Kd.R_reads' HO_12.out).2.1); rintro e w' ⟨rfl, ⟨nd, rfl⟩⟩))
                      go_ret
                      exact ⟨by first | rfl | (simp [errW_none, errW_some] <;> rfl) | (simp [*, errW_none, errW_some] <;> rfl), by repeat (first | (with_reducible first | exact HB.out | apply below_alloc | apply pw_below_drewN | apply below_drew1) | exact HB.out)⟩
                  · replace c76 := Bool.eq_false_iff.mpr c76
                    subst c76
                    have H1 : (some false) = some r := by rw [if_neg (show ¬ (false = true) by decide)] at H; exact H
                    clear H
                    have H := H1
                    clear H1
                    exact absurd (HRT.out.symm.trans (Option.some.inj H).symm) (by decide)

/-- THE ONE PURE STATEMENT of roadbooklaw15_SetsJoin: yours. -/
def roadbooklaw15_SetsJoin.Pure : Prop := ∀ (l0 : List Int) (a1 : Int) (a2 : Int) (a3 : Int) (a4 : Int), l0.length ≤ maxLen → l0.length * 8 ≤ 140737488351232 → (∀ x ∈ l0, (Lit.int .i64 x).wf = true) → (Lit.int .i64 a1).wf = true → (Lit.int .i64 a2).wf = true → (Lit.int .i64 a3).wf = true → (Lit.int .i64 a4).wf = true → ∃ k, roadbooklaw15_SetsJoin.f k l0 a1 a2 a3 a4 = some true
theorem roadbooklaw15_SetsJoin.walk (P : roadbooklaw15_SetsJoin.Pure) (a0 : Option Addr) (len0 cap0 : Nat) (z0 : List Int) (a1 : Int) (a2 : Int) (a3 : Int) (a4 : Int) (w : World) (w0 : (a0 = none ∧ len0 = 0 ∧ cap0 = 0 ∧ z0 = []) ∨ ∃ x, a0 = some x ∧ len0 ≤ cap0 ∧ cap0 ≤ maxLen ∧ z0.length = cap0 ∧ (∀ i, i < z0.length → w.cell? (x.add i) = some (.int .i64 (z0.getD i 0))) ∧ ∀ n ∈ z0, (Lit.int .i64 n).wf = true) (y0 : len0 * 8 ≤ 140737488351232) (w1 : (Lit.int .i64 a1).wf = true) (w2 : (Lit.int .i64 a2).wf = true) (w3 : (Lit.int .i64 a3).wf = true) (w4 : (Lit.int .i64 a4).wf = true) :
    Calls Try.prog 3 #[.slice a0 len0 cap0, .int .i64 a1, .int .i64 a2, .int .i64 a3, .int .i64 a4] w fun e w' => e = .returned (.bool true) ∧ Below w.heap.size w w' := by
  obtain ⟨l0, rfl, hr0, hm0, hw0, hc0⟩ := ReadsInt.ofRowC w0
  obtain ⟨k, h⟩ := P l0 a1 a2 a3 a4 hm0 y0 hw0 w1 w2 w3 w4
  refine (roadbooklaw15_SetsJoin.calls k _ _ l0 a1 a2 a3 a4 true w (Kd.C_of_reads (d := (0 : Int)) (h1 := fun _ => rfl) hr0) hc0 rfl h).mono ?_
  rintro e w' ⟨rfl, hd⟩
  exact ⟨rfl, hd⟩

end Go.Proofs.Ytkidnomkfdnciaa.All
