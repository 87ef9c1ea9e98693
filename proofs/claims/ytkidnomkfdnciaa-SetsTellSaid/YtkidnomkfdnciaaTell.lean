/- The document's Join on an argument that is only read: what came in may come back. -/
import Derived.Test.YtkidnomkfdnciaaAllx0
import Derived.Test.YtkidnomkfdnciaaAllx4
import Derived.Test.YtkidnomkfdnciaaAllx5
import Derived.Test.YtkidnomkfdnciaaAllx34
namespace Go.Proofs.Ytkidnomkfdnciaa.All
open Go.RowKit Go.Proofs.YtkidnomkfdnciaaW.PrintWords Go.Proofs.YtkidnomkfdnciaaW.PrintLast Go.Proofs.YtkidnomkfdnciaaW.PrintMore
attribute [local go_sem] max2_int min2_int max_two min_two max_three min_three max_four min_four   -- for this text's walks alone
set_option linter.unusedVariables false
set_option linter.unusedSimpArgs false
def tellM (x y z : Int) : Int := if z = x ∨ z = y then (if y < x then y else x) else z
def tellJoin.f (k : Nat) (l0 : List Int) (a b : Int) : Option (List Int × Bool) := (roadbookref15_Find.f k l0 a).bind fun x => (roadbookref15_Find.f k l0 b).bind fun y => if x < 0 then some (l0, false) else if y < 0 then some (l0, false) else (roadbookref15_Roots.f k l0).bind fun r => if r.length ≤ 400 then some (r.map (tellM x y), true) else none
theorem tellJoin.mono : ∀ a0 a1 a2 k, LeO (tellJoin.f k a0 a1 a2) (tellJoin.f (k + 1) a0 a1 a2) := by
  intro a0 a1 a2 k
  unfold tellJoin.f
  repeat' first
      | (with_reducible exact roadbookref15_Find.mono _ _ _)
      | (with_reducible exact roadbookref15_Roots.mono _ _)
      | (with_reducible exact LeO.refl _)
      | (with_reducible exact LeO.none _)
      | (with_reducible refine LeO.ite ?_ ?_)
      | (with_reducible refine LeO.bind ?_ (fun _ => ?_))
set_option maxHeartbeats 8000000 in
set_option maxRecDepth 100000 in
theorem tellJoin.no (k : Nat) (A0 : Option Addr) (c0 : Nat) (l0 : List Int) (a1 : Int) (a2 : Int) (x y : Int) (w : World) (hr0 : Kd.C (Kd.int .i64) w A0 l0.length l0) (hc0 : l0.length ≤ c0) (hx : roadbookref15_Find.f k l0 a1 = some x) (hy : roadbookref15_Find.f k l0 a2 = some y) (h : x < 0 ∨ y < 0) :
    Calls Try.prog 30 #[.slice A0 l0.length c0, .int .i64 a1, .int .i64 a2] w fun e w' => e = .returned (.tuple #[.slice A0 l0.length c0, .bool false]) ∧ Kd.C (Kd.int .i64) w' A0 l0.length l0 ∧ Below w.heap.size w w' := by
  have HR0 := Aside0.mk hr0
  have HC0 := Aside0.mk hc0
  have HX := Aside0.mk hx
  have HY := Aside0.mk hy
  have HB := Aside0.mk (Below.refl w.heap.size w)
  clear hr0 hc0 hx hy
  have e12 : (decide (x < 0) = true) ∨ (decide (x < 0) = false ∧ decide (y < 0) = true) := by
    rcases Decidable.em (x < 0) with g | g
    · exact .inl (decide_eq_true g)
    · exact .inr ⟨decide_eq_false g, decide_eq_true (h.resolve_left g)⟩
  clear h
  rcases e12 with e1 | ⟨e1, e2⟩
  all_goals
    go_enter Try.func30, Try.ntmps30
    go_wp2_with (first | (go_at_call 32; (with_reducible refine (roadbookref15_Find.calls k A0 c0 l0 a1 x _ (Kd.C_below HR0.out HB.out) HC0.out HX.out).mono ?_); rintro e w1 ⟨rfl, hd⟩; have n_ := Aside0.mk (HB.out.trans (hd.below.mono HB.out.size)); clear HB hd; have HB := n_; clear n_) | (go_at_call 32; (with_reducible refine (roadbookref15_Find.calls k A0 c0 l0 a2 y _ (Kd.C_below HR0.out HB.out) HC0.out HY.out).mono ?_); rintro e w1 ⟨rfl, hd⟩; have n_ := Aside0.mk (HB.out.trans (hd.below.mono HB.out.size)); clear HB hd; have HB := n_; clear n_))
    go_ret2
    exact ⟨rfl, Kd.C_below HR0.out HB.out, HB.out⟩
set_option maxHeartbeats 8000000 in
set_option maxRecDepth 100000 in
theorem tellJoin.yes (k : Nat) (A0 : Option Addr) (c0 : Nat) (l0 R0 : List Int) (a1 : Int) (a2 : Int) (x y : Int) (w : World) (hr0 : Kd.C (Kd.int .i64) w A0 l0.length l0) (hc0 : l0.length ≤ c0) (hx : roadbookref15_Find.f k l0 a1 = some x) (hy : roadbookref15_Find.f k l0 a2 = some y) (hrt : roadbookref15_Roots.f k l0 = some R0) (hlen : R0.length ≤ 400) (h1 : ¬ x < 0) (h2 : ¬ y < 0) :
    Calls Try.prog 30 #[.slice A0 l0.length c0, .int .i64 a1, .int .i64 a2] w fun e w' => ∃ A c, e = .returned (.tuple #[.slice A (R0.map (tellM x y)).length c, .bool true]) ∧ (R0.map (tellM x y)).length ≤ c ∧ Kd.C (Kd.int .i64) w' A (R0.map (tellM x y)).length (R0.map (tellM x y)) ∧ Below w.heap.size w w' := by
  have HR0 := Aside0.mk hr0
  have HC0 := Aside0.mk hc0
  have HX := Aside0.mk hx
  have HY := Aside0.mk hy
  have HRT := Aside0.mk hrt
  have HB := Aside0.mk (Below.refl w.heap.size w)
  have e1 : decide (x < 0) = false := decide_eq_false h1
  have e2 : decide (y < 0) = false := decide_eq_false h2
  clear hr0 hc0 hx hy hrt h1 h2
  obtain ⟨f, hf⟩ : ∃ f : Int → Int, f = tellM x y := ⟨_, rfl⟩
  rw [← hf]
  have HFF := Aside0.mk hf
  clear hf
  obtain ⟨lo, hlo⟩ : ∃ lo, lo = (if y < x then y else x) := ⟨_, rfl⟩
  have HLO := Aside0.mk hlo
  go_enter Try.func30, Try.ntmps30
  go_upto_if 29 with (first | (go_at_call 32; (with_reducible refine (roadbookref15_Find.calls k A0 c0 l0 a1 x _ (Kd.C_below HR0.out HB.out) HC0.out HX.out).mono ?_); rintro e w1 ⟨rfl, hd⟩; have n_ := Aside0.mk (HB.out.trans (hd.below.mono HB.out.size)); clear HB hd; have HB := n_; clear n_) | (go_at_call 32; (with_reducible refine (roadbookref15_Find.calls k A0 c0 l0 a2 y _ (Kd.C_below HR0.out HB.out) HC0.out HY.out).mono ?_); rintro e w1 ⟨rfl, hd⟩; have n_ := Aside0.mk (HB.out.trans (hd.below.mono HB.out.size)); clear HB hd; have HB := n_; clear n_))
  (try simp only [Act.put, List.setIfInBounds_toArray, List.set_cons_zero, List.set_cons_succ])
  go_cut [10] (fun v wc => v = .int .i64 lo ∧ Aside0 (Below w.heap.size w wc))
  case first =>
    by_cases c : y < x
    · rw [if_pos c] at hlo
      subst hlo
      have cb : decide (lo < x) = true := decide_eq_true c
      clear c
      rw [cb]
      go_wp2
      go_meet
      case rel => exact ⟨rfl, HB⟩
    · rw [if_neg c] at hlo
      subst hlo
      have cb : decide (y < lo) = false := decide_eq_false c
      clear c
      rw [cb]
      go_wp2
      go_meet
      case rel => exact ⟨rfl, HB⟩
  case rest =>
  clear HB hlo
  obtain ⟨rfl, HB⟩ := hcut
  go_wp2_with (go_at_call 34; refine (roadbookref15_Roots.calls k A0 c0 l0 R0 _ (Kd.C_below HR0.out HB.out) HC0.out HRT.out).mono ?_; rintro e w3 ⟨v3, rfl, ho3, hb3⟩; have HO3 := Aside0.mk (Kd.R_lower ho3 HB.out.size); have HB3 := Aside0.mk (HB.out.trans (hb3.mono HB.out.size)); clear ho3 hb3; obtain ⟨A2, c2, e3⟩ := Kd.R_slice HO3.out; subst e3)
  go_loopw [12] (fun i wr => ∃ k : Nat, k ≤ R0.length ∧ i = .int .i64 k ∧ Aside0 (Kd.R (Kd.int .i64) 3 wr w.heap.size (fun _ => True) (.slice A2 R0.length c2) (midF f R0 k)) ∧ Aside0 (Below w.heap.size w wr)) (fun i _ => R0.length - (intOf i).toNat)
  case atStart => exact ⟨0, Nat.zero_le _, rfl, ⟨by rw [midF_zero]; exact HO3.out⟩, HB3⟩
  case round =>
    obtain ⟨k, hk, rfl, HO, HBr⟩ := hrel
    by_cases hlt : k < R0.length
    · obtain ⟨g, c3, e3, hgb, hgl, _⟩ := Kd.R_form HO.out (by rw [midF_length]; omega)
      have e4 : A2 = some ⟨g, 0, none⟩ := by injection e3
      subst e4
      clear e3
      have hc1 := Kd.R_celln (0 : Int) HO.out (k : Int) (by omega) (by omega)
      have hmid := midF_at f R0 k k hlt
      rw [if_neg (by omega)] at hmid
      obtain ⟨r, hr⟩ : ∃ r, r = R0.getD k 0 := ⟨_, rfl⟩
      rw [← hr] at hmid
      simp only [rdOf, Int.toNat_natCast, hmid] at hc1
      obtain ⟨hc1, hf1⟩ := hc1
      by_cases he : r = x ∨ r = y
      · have eb : ((r == x) = true) ∨ ((r == x) = false ∧ (r == y) = true) := by
          rcases Decidable.em (r = x) with g | g
          · exact .inl (by rw [beq_iff_eq]; exact g)
          · exact .inr ⟨by rw [beq_eq_false_iff_ne]; exact g, by rw [beq_iff_eq]; exact he.resolve_left g⟩
        have hfr : f (R0.getD k 0) = lo := by rw [← hr, HFF.out, tellM, if_pos he]; exact HLO.out.symm
        have hp := Kd.R_putg HO.out (k : Int) lo
        rw [Int.toNat_natCast, ← hfr, midF_succ f R0 k hlt, hfr] at hp
        have HP := Aside0.mk hp
        have HS := Aside0.mk (show Below w.heap.size w (wr.setCell ⟨g, k, none⟩ (.int .i64 lo)) from below_set HBr.out hgb)
        clear hr hmid he hfr hp
        rcases eb with eb | ⟨eb, eb2⟩
        all_goals
          go_wp2
          go_roundw
          case rel => exact ⟨k + 1, by omega, by go_num, ⟨HP.out.1⟩, HS⟩
          case measure => simp [intOf]; omega
      · have eb : (r == x) = false := by rw [beq_eq_false_iff_ne]; exact fun h_ => he (.inl h_)
        have eb2 : (r == y) = false := by rw [beq_eq_false_iff_ne]; exact fun h_ => he (.inr h_)
        have hfr : f (R0.getD k 0) = R0.getD k 0 := by rw [← hr, HFF.out, tellM, if_neg he]
        have HSK := Aside0.mk (midF_skip f R0 k hlt hfr)
        clear hr hmid he hfr
        go_wp2
        go_roundw
        case rel => exact ⟨k + 1, by omega, by go_num, ⟨by rw [← HSK.out]; exact HO.out⟩, HBr⟩
        case measure => simp [intOf]; omega
    · obtain rfl : k = R0.length := by omega
      go_wp2
      go_ret2
      have hlm : (R0.map f).length = R0.length := List.length_map _
      have hz := HO.out
      rw [midF_all] at hz
      rw [hlm]
      have hz' := Kd.R_reads' hz
      rw [hlm] at hz'
      exact ⟨_, _, rfl, hz'.2.1, hz'.2.2, HBr.out⟩
theorem tellJoin.calls (k : Nat) (A0 : Option Addr) (c0 : Nat) (l0 : List Int) (a1 : Int) (a2 : Int) (r1 : List Int) (r2 : Bool) (w : World) (hr0 : Kd.C (Kd.int .i64) w A0 l0.length l0) (hc0 : l0.length ≤ c0) (h : tellJoin.f k l0 a1 a2 = some (r1, r2)) :
    Calls Try.prog 30 #[.slice A0 l0.length c0, .int .i64 a1, .int .i64 a2] w fun e w' => ∃ A c, e = .returned (.tuple #[.slice A r1.length c, .bool r2]) ∧ r1.length ≤ c ∧ Kd.C (Kd.int .i64) w' A r1.length r1 ∧ Below w.heap.size w w' := by
  unfold tellJoin.f at h
  obtain ⟨x, hx, h⟩ := Option.bind_eq_some_iff.mp h
  obtain ⟨y, hy, h⟩ := Option.bind_eq_some_iff.mp h
  by_cases h1 : x < 0
  · rw [if_pos h1] at h
    obtain ⟨rfl, rfl⟩ := Prod.mk.inj (Option.some.inj h)
    refine (tellJoin.no k A0 c0 l0 a1 a2 x y w hr0 hc0 hx hy (.inl h1)).mono ?_
    rintro e w' ⟨rfl, h2, h3⟩
    exact ⟨_, _, rfl, hc0, h2, h3⟩
  · rw [if_neg h1] at h
    by_cases h2 : y < 0
    · rw [if_pos h2] at h
      obtain ⟨rfl, rfl⟩ := Prod.mk.inj (Option.some.inj h)
      refine (tellJoin.no k A0 c0 l0 a1 a2 x y w hr0 hc0 hx hy (.inr h2)).mono ?_
      rintro e w' ⟨rfl, h2, h3⟩
      exact ⟨_, _, rfl, hc0, h2, h3⟩
    · rw [if_neg h2] at h
      obtain ⟨r, hr, h⟩ := Option.bind_eq_some_iff.mp h
      by_cases h3 : r.length ≤ 400
      · rw [if_pos h3] at h
        obtain ⟨rfl, rfl⟩ := Prod.mk.inj (Option.some.inj h)
        exact tellJoin.yes k A0 c0 l0 r a1 a2 x y w hr0 hc0 hx hy hr h3 h1 h2
      · rw [if_neg h3] at h; cases h
/-! ### roadbooklaw15_SetsTell: function 6 -/
mutual
def roadbooklaw15_SetsTell.j0 : Nat → List Int → List Int → Int → Int → Bool → Bool → Option (Bool)
  | 0, _, _, _, _, _, _ => none
  | k + 1, x0, x1, x2, x3, x9, x27 => if x27 = true then (some x9) else ((sets_Join.f k x0 x2 x3).bind fun bt177 => ((tellJoin.f k x0 x2 x3).bind fun bt181 => ((roadbookref02_Ints.f k bt177.1 bt181.1).bind fun t185 => (if t185 = true then (if (bt177.2 == bt181.2) = true then ((sets_May.f k x0).bind fun t186 => ((roadbookref15_May.f k x0).bind fun t187 => (if (t186 == t187) = true then ((sets_Find.f k x0 x2).bind fun t188 => ((roadbookref15_Find.f k x0 x2).bind fun t189 => (roadbooklaw15_SetsTell.j1 k x0 x1 x2 (t188 == t189)))) else (roadbooklaw15_SetsTell.j1 k x0 x1 x2 false)))) else (roadbooklaw15_SetsTell.j1 k x0 x1 x2 false)) else (roadbooklaw15_SetsTell.j1 k x0 x1 x2 false)))))
def roadbooklaw15_SetsTell.j1 : Nat → List Int → List Int → Int → Bool → Option (Bool)
  | 0, _, _, _, _ => none
  | k + 1, x0, x1, x2, x14 => if x14 = true then ((sets_Roots.f k x0).bind fun t190 => ((roadbookref15_Roots.f k x0).bind fun t193 => ((roadbookref02_Ints.f k t190 t193).bind fun t196 => (if t196 = true then ((sets_New.f k x2).bind fun t197 => ((roadbookref15_New.f k x2).bind fun t200 => ((roadbookref02_Ints.f k t197 t200).bind fun t203 => (if t203 = true then ((sets_Same.f k x0 x1).bind fun t204 => ((roadbookref15_Same.f k x0 x1).bind fun t205 => (some (t204 == t205)))) else (some false))))) else (some false))))) else (some false)
end
def roadbooklaw15_SetsTell.f (k : Nat) (l0 : List Int) (l1 : List Int) (a2 : Int) (a3 : Int) : Option (Bool) := (roadbooklaw15_awake.f k).bind fun t176 => (if t176 = true then (if (l0.length : Int) > 1000 then (roadbooklaw15_SetsTell.j0 k l0 l1 a2 a3 t176 true) else (roadbooklaw15_SetsTell.j0 k l0 l1 a2 a3 t176 (decide ((l1.length : Int) > 1000)))) else (roadbooklaw15_SetsTell.j0 k l0 l1 a2 a3 t176 true))
theorem roadbooklaw15_SetsTell.mono_l : ∀ k, (∀ y0 y1 y2 y3 y4 y5, LeO (roadbooklaw15_SetsTell.j0 k y0 y1 y2 y3 y4 y5) (roadbooklaw15_SetsTell.j0 (k + 1) y0 y1 y2 y3 y4 y5)) ∧ (∀ y0 y1 y2 y3, LeO (roadbooklaw15_SetsTell.j1 k y0 y1 y2 y3) (roadbooklaw15_SetsTell.j1 (k + 1) y0 y1 y2 y3))
  | 0 => ⟨fun _ _ _ _ _ _ r h => by simp [roadbooklaw15_SetsTell.j0] at h, fun _ _ _ _ r h => by simp [roadbooklaw15_SetsTell.j1] at h⟩
  | k + 1 => by
    obtain ⟨ih0, ih1⟩ := roadbooklaw15_SetsTell.mono_l k
    refine ⟨?_, ?_⟩
    · intro y0 y1 y2 y3 y4 y5
      unfold roadbooklaw15_SetsTell.j0
      repeat' first
      | (with_reducible exact ih0 _ _ _ _ _ _)
      | (with_reducible exact ih1 _ _ _ _)
      | (with_reducible exact roadbooklaw15_awake.mono _)
      | (with_reducible exact roadbookref02_Ints.mono _ _ _)
      | (with_reducible exact roadbookref15_Find.mono _ _ _)
      | (with_reducible exact tellJoin.mono _ _ _ _)
      | (with_reducible exact roadbookref15_May.mono _ _)
      | (with_reducible exact roadbookref15_New.mono _ _)
      | (with_reducible exact roadbookref15_Roots.mono _ _)
      | (with_reducible exact roadbookref15_Same.mono _ _ _)
      | (with_reducible exact sets_Find.mono _ _ _)
      | (with_reducible exact sets_Join.mono _ _ _ _)
      | (with_reducible exact sets_May.mono _ _)
      | (with_reducible exact sets_New.mono _ _)
      | (with_reducible exact sets_Roots.mono _ _)
      | (with_reducible exact sets_Same.mono _ _ _)
      | (with_reducible exact LeO.refl _)
      | (with_reducible exact LeO.none _)
      | (with_reducible refine LeO.ite ?_ ?_)
      | (with_reducible refine LeO.bind ?_ (fun _ => ?_))
      | exact ih0 _ _ _ _ _ _
      | exact ih1 _ _ _ _
      | exact roadbooklaw15_awake.mono _
      | exact roadbookref02_Ints.mono _ _ _
      | exact roadbookref15_Find.mono _ _ _
      | exact tellJoin.mono _ _ _ _
      | exact roadbookref15_May.mono _ _
      | exact roadbookref15_New.mono _ _
      | exact roadbookref15_Roots.mono _ _
      | exact roadbookref15_Same.mono _ _ _
      | exact sets_Find.mono _ _ _
      | exact sets_Join.mono _ _ _ _
      | exact sets_May.mono _ _
      | exact sets_New.mono _ _
      | exact sets_Roots.mono _ _
      | exact sets_Same.mono _ _ _
      | exact LeO.none _
      | refine LeO.ite ?_ ?_
      | refine LeO.bind ?_ (fun _ => ?_)
    · intro y0 y1 y2 y3
      unfold roadbooklaw15_SetsTell.j1
      repeat' first
      | (with_reducible exact ih0 _ _ _ _ _ _)
      | (with_reducible exact ih1 _ _ _ _)
      | (with_reducible exact roadbooklaw15_awake.mono _)
      | (with_reducible exact roadbookref02_Ints.mono _ _ _)
      | (with_reducible exact roadbookref15_Find.mono _ _ _)
      | (with_reducible exact tellJoin.mono _ _ _ _)
      | (with_reducible exact roadbookref15_May.mono _ _)
      | (with_reducible exact roadbookref15_New.mono _ _)
      | (with_reducible exact roadbookref15_Roots.mono _ _)
      | (with_reducible exact roadbookref15_Same.mono _ _ _)
      | (with_reducible exact sets_Find.mono _ _ _)
      | (with_reducible exact sets_Join.mono _ _ _ _)
      | (with_reducible exact sets_May.mono _ _)
      | (with_reducible exact sets_New.mono _ _)
      | (with_reducible exact sets_Roots.mono _ _)
      | (with_reducible exact sets_Same.mono _ _ _)
      | (with_reducible exact LeO.refl _)
      | (with_reducible exact LeO.none _)
      | (with_reducible refine LeO.ite ?_ ?_)
      | (with_reducible refine LeO.bind ?_ (fun _ => ?_))
      | exact ih0 _ _ _ _ _ _
      | exact ih1 _ _ _ _
      | exact roadbooklaw15_awake.mono _
      | exact roadbookref02_Ints.mono _ _ _
      | exact roadbookref15_Find.mono _ _ _
      | exact tellJoin.mono _ _ _ _
      | exact roadbookref15_May.mono _ _
      | exact roadbookref15_New.mono _ _
      | exact roadbookref15_Roots.mono _ _
      | exact roadbookref15_Same.mono _ _ _
      | exact sets_Find.mono _ _ _
      | exact sets_Join.mono _ _ _ _
      | exact sets_May.mono _ _
      | exact sets_New.mono _ _
      | exact sets_Roots.mono _ _
      | exact sets_Same.mono _ _ _
      | exact LeO.none _
      | refine LeO.ite ?_ ?_
      | refine LeO.bind ?_ (fun _ => ?_)
theorem roadbooklaw15_SetsTell.mono : ∀ a0 a1 a2 a3 k, LeO (roadbooklaw15_SetsTell.f k a0 a1 a2 a3) (roadbooklaw15_SetsTell.f (k + 1) a0 a1 a2 a3) := by
  intro a0 a1 a2 a3 k
  obtain ⟨ih0, ih1⟩ := roadbooklaw15_SetsTell.mono_l k
  unfold roadbooklaw15_SetsTell.f
  repeat' first
      | (with_reducible exact ih0 _ _ _ _ _ _)
      | (with_reducible exact ih1 _ _ _ _)
      | (with_reducible exact roadbooklaw15_awake.mono _)
      | (with_reducible exact roadbookref02_Ints.mono _ _ _)
      | (with_reducible exact roadbookref15_Find.mono _ _ _)
      | (with_reducible exact tellJoin.mono _ _ _ _)
      | (with_reducible exact roadbookref15_May.mono _ _)
      | (with_reducible exact roadbookref15_New.mono _ _)
      | (with_reducible exact roadbookref15_Roots.mono _ _)
      | (with_reducible exact roadbookref15_Same.mono _ _ _)
      | (with_reducible exact sets_Find.mono _ _ _)
      | (with_reducible exact sets_Join.mono _ _ _ _)
      | (with_reducible exact sets_May.mono _ _)
      | (with_reducible exact sets_New.mono _ _)
      | (with_reducible exact sets_Roots.mono _ _)
      | (with_reducible exact sets_Same.mono _ _ _)
      | (with_reducible exact LeO.refl _)
      | (with_reducible exact LeO.none _)
      | (with_reducible refine LeO.ite ?_ ?_)
      | (with_reducible refine LeO.bind ?_ (fun _ => ?_))
      | exact ih0 _ _ _ _ _ _
      | exact ih1 _ _ _ _
      | exact roadbooklaw15_awake.mono _
      | exact roadbookref02_Ints.mono _ _ _
      | exact roadbookref15_Find.mono _ _ _
      | exact tellJoin.mono _ _ _ _
      | exact roadbookref15_May.mono _ _
      | exact roadbookref15_New.mono _ _
      | exact roadbookref15_Roots.mono _ _
      | exact roadbookref15_Same.mono _ _ _
      | exact sets_Find.mono _ _ _
      | exact sets_Join.mono _ _ _ _
      | exact sets_May.mono _ _
      | exact sets_New.mono _ _
      | exact sets_Roots.mono _ _
      | exact sets_Same.mono _ _ _
      | exact LeO.none _
      | refine LeO.ite ?_ ?_
      | refine LeO.bind ?_ (fun _ => ?_)
set_option maxHeartbeats 8000000 in
set_option maxRecDepth 100000 in
theorem roadbooklaw15_SetsTell.calls (k : Nat) (A0 : Option Addr) (c0 : Nat) (l0 : List Int) (A1 : Option Addr) (c1 : Nat) (l1 : List Int) (a2 : Int) (a3 : Int) (r : Bool) (w : World) (hr0 : Kd.C (Kd.int .i64) w A0 l0.length l0) (hc0 : l0.length ≤ c0) (hr1 : Kd.C (Kd.int .i64) w A1 l1.length l1) (hc1 : l1.length ≤ c1) (hrt : r = true) (h : roadbooklaw15_SetsTell.f k l0 l1 a2 a3 = some r) :
    Calls Try.prog 6 #[.slice A0 l0.length c0, .slice A1 l1.length c1, .int .i64 a2, .int .i64 a3] w fun e w' => e = .returned (.bool r) ∧ Below w.heap.size w w' := by
  have HRT := Aside0.mk hrt
  clear hrt
  have HR0 := Aside0.mk hr0
  have HC0 := Aside0.mk hc0
  clear hr0 hc0
  have HR1 := Aside0.mk hr1
  have HC1 := Aside0.mk hc1
  clear hr1 hc1
  have HB := Aside0.mk (Below.refl w.heap.size w)
  have H : ((roadbooklaw15_awake.f k).bind fun t176 => (if t176 = true then (if (l0.length : Int) > 1000 then (roadbooklaw15_SetsTell.j0 k l0 l1 a2 a3 t176 true) else (roadbooklaw15_SetsTell.j0 k l0 l1 a2 a3 t176 (decide ((l1.length : Int) > 1000)))) else (roadbooklaw15_SetsTell.j0 k l0 l1 a2 a3 t176 true))) = some r := h
  clear h
  replace H := Option.bind_eq_some_iff.mp H
  obtain ⟨t176, A50, H⟩ := H
  replace H : (if t176 = true then (if (l0.length : Int) > 1000 then (roadbooklaw15_SetsTell.j0 k l0 l1 a2 a3 t176 true) else (roadbooklaw15_SetsTell.j0 k l0 l1 a2 a3 t176 (decide ((l1.length : Int) > 1000)))) else (roadbooklaw15_SetsTell.j0 k l0 l1 a2 a3 t176 true)) = some r := H
  have A5 := Aside0.mk A50
  clear A50
  have HC6 := Aside0.mk H
  clear H
  go_enter Try.func6, Try.ntmps6
  go_upto_region 2 with (first | ((with_reducible refine gate_callee (f := 23) rfl ?_); refine goesL_ (some 15) rfl rfl Try.func23 (by kernel_rfl) rfl #[] rfl (by (try simp only [List.map_toArray, List.map_cons, List.map_nil]); first | done | rfl | (simp only [List.length_drop, List.length_take]; rfl)) ?_; (with_reducible refine (roadbooklaw15_awake.calls k  t176 _ A5.out).mono ?_); rintro e w7 ⟨rfl, hb⟩; refine ⟨_, rfl, ?_⟩; have n0_ := Aside0.mk (below_step (by repeat (first | (with_reducible first | exact HB.out | apply below_alloc | apply pw_below_drewN | apply below_drew1) | exact HB.out)) hb); clear HB; have HB := n0_; clear n0_; (try clear hb); (try clear hb2); (try clear hk); (try clear hi)))
  (try simp only [Act.put, List.setIfInBounds_toArray, List.set_cons_zero, List.set_cons_succ])
  go_cut [27] (fun v27 wc => ∃ (kq : Nat) (x27_5 : Bool), v27 = .bool x27_5 ∧ Aside0 (roadbooklaw15_SetsTell.j0 kq l0 l1 a2 a3 t176 x27_5 = some r) ∧ Aside0 (kq ≤ k) ∧ Aside0 (Below w.heap.size w wc))
  case first =>
    have H := HC6.out
    clear HC6
    by_cases c8 : t176 = true
    · subst c8
      have H1 : (if (l0.length : Int) > 1000 then (roadbooklaw15_SetsTell.j0 k l0 l1 a2 a3 true true) else (roadbooklaw15_SetsTell.j0 k l0 l1 a2 a3 true (decide ((l1.length : Int) > 1000)))) = some r := by rw [if_pos rfl] at H; exact H
      clear H
      have H := H1
      clear H1
      by_cases c9 : (l0.length : Int) > 1000
      · rw [if_pos c9] at H
        have c9b0 : decide (1000 < (l0.length : Int)) = true := decide_eq_true c9
        have c9b1 : decide (1000 < l0.length) = true := decide_eq_true (by omega)
        clear c9
        (first | rw [c9b0] | (simp only [i64_w, i32_w]; rw [c9b0]) | skip)
        have H' := Aside0.mk H
        clear H
        go_wp2
        go_meet
        case rel => exact ⟨_, (true), (by first | rfl | (simp; done) | (simp [*]; done)), H', ⟨by first | omega | exact Nat.le_refl _⟩, ⟨by repeat (first | (with_reducible first | exact HB.out | apply below_alloc | apply pw_below_drewN | apply below_drew1) | exact HB.out)⟩⟩
      · rw [if_neg c9] at H
        have c9b0 : decide (1000 < (l0.length : Int)) = false := decide_eq_false c9
        have c9b1 : decide (1000 < l0.length) = false := decide_eq_false (by omega)
        clear c9
        (first | rw [c9b0] | (simp only [i64_w, i32_w]; rw [c9b0]) | skip)
        have H' := Aside0.mk H
        clear H
        go_wp2
        go_meet
        case rel => exact ⟨_, (decide ((l1.length : Int) > 1000)), (by first | rfl | (simp; done) | (simp [*]; done)), H', ⟨by first | omega | exact Nat.le_refl _⟩, ⟨by repeat (first | (with_reducible first | exact HB.out | apply below_alloc | apply pw_below_drewN | apply below_drew1) | exact HB.out)⟩⟩
    · replace c8 := Bool.eq_false_iff.mpr c8
      subst c8
      have H1 : (roadbooklaw15_SetsTell.j0 k l0 l1 a2 a3 false true) = some r := by rw [if_neg (show ¬ (false = true) by decide)] at H; exact H
      clear H
      have H := H1
      clear H1
      have H' := Aside0.mk H
      clear H
      go_wp2
      go_meet
      case rel => exact ⟨_, (true), (by first | rfl | (simp; done) | (simp [*]; done)), H', ⟨by first | omega | exact Nat.le_refl _⟩, ⟨by repeat (first | (with_reducible first | exact HB.out | apply below_alloc | apply pw_below_drewN | apply below_drew1) | exact HB.out)⟩⟩
  case rest =>
    clear HC6
    try clear c1
    try clear c2
    try clear p2
    try clear c6
    try clear c8
    try clear c9
    try clear c9b0
    try clear c9b1
    obtain ⟨kq, x27_5, rfl, HA, HJ5, HB⟩ := hcut
    cases kq with
    | zero => exact absurd HA.out (by simp [roadbooklaw15_SetsTell.j0])
    | succ kj5 =>
      have H := HA.out
      clear HA
      simp only [roadbooklaw15_SetsTell.j0] at H
      by_cases c10 : x27_5 = true
      · subst c10
        have H1 : (some t176) = some r := by rw [if_pos rfl] at H; exact H
        clear H
        have H := H1
        clear H1
        obtain rfl := Option.some.inj H
        go_wp2
        go_ret
        exact ⟨by first | rfl | (simp [errW_none, errW_some] <;> rfl) | (simp [*, errW_none, errW_some] <;> rfl), by repeat (first | (with_reducible first | exact HB.out | apply below_alloc | apply pw_below_drewN | apply below_drew1) | exact HB.out)⟩
      · replace c10 := Bool.eq_false_iff.mpr c10
        subst c10
        have H1 : ((sets_Join.f kj5 l0 a2 a3).bind fun bt177 => ((tellJoin.f kj5 l0 a2 a3).bind fun bt181 => ((roadbookref02_Ints.f kj5 bt177.1 bt181.1).bind fun t185 => (if t185 = true then (if (bt177.2 == bt181.2) = true then ((sets_May.f kj5 l0).bind fun t186 => ((roadbookref15_May.f kj5 l0).bind fun t187 => (if (t186 == t187) = true then ((sets_Find.f kj5 l0 a2).bind fun t188 => ((roadbookref15_Find.f kj5 l0 a2).bind fun t189 => (roadbooklaw15_SetsTell.j1 kj5 l0 l1 a2 (t188 == t189)))) else (roadbooklaw15_SetsTell.j1 kj5 l0 l1 a2 false)))) else (roadbooklaw15_SetsTell.j1 kj5 l0 l1 a2 false)) else (roadbooklaw15_SetsTell.j1 kj5 l0 l1 a2 false))))) = some r := by rw [if_neg (show ¬ (false = true) by decide)] at H; exact H
        clear H
        have H := H1
        clear H1
        replace H := Option.bind_eq_some_iff.mp H
        obtain ⟨⟨t177, t178⟩, A110, H⟩ := H
        replace H : ((tellJoin.f kj5 l0 a2 a3).bind fun bt181 => ((roadbookref02_Ints.f kj5 t177 bt181.1).bind fun t185 => (if t185 = true then (if (t178 == bt181.2) = true then ((sets_May.f kj5 l0).bind fun t186 => ((roadbookref15_May.f kj5 l0).bind fun t187 => (if (t186 == t187) = true then ((sets_Find.f kj5 l0 a2).bind fun t188 => ((roadbookref15_Find.f kj5 l0 a2).bind fun t189 => (roadbooklaw15_SetsTell.j1 kj5 l0 l1 a2 (t188 == t189)))) else (roadbooklaw15_SetsTell.j1 kj5 l0 l1 a2 false)))) else (roadbooklaw15_SetsTell.j1 kj5 l0 l1 a2 false)) else (roadbooklaw15_SetsTell.j1 kj5 l0 l1 a2 false)))) = some r := H
        have A11 := Aside0.mk A110
        clear A110
        replace H := Option.bind_eq_some_iff.mp H
        obtain ⟨⟨t181, t182⟩, A120, H⟩ := H
        replace H : ((roadbookref02_Ints.f kj5 t177 t181).bind fun t185 => (if t185 = true then (if (t178 == t182) = true then ((sets_May.f kj5 l0).bind fun t186 => ((roadbookref15_May.f kj5 l0).bind fun t187 => (if (t186 == t187) = true then ((sets_Find.f kj5 l0 a2).bind fun t188 => ((roadbookref15_Find.f kj5 l0 a2).bind fun t189 => (roadbooklaw15_SetsTell.j1 kj5 l0 l1 a2 (t188 == t189)))) else (roadbooklaw15_SetsTell.j1 kj5 l0 l1 a2 false)))) else (roadbooklaw15_SetsTell.j1 kj5 l0 l1 a2 false)) else (roadbooklaw15_SetsTell.j1 kj5 l0 l1 a2 false))) = some r := H
        have A12 := Aside0.mk A120
        clear A120
        have HC13 := Aside0.mk H
        clear H
        go_upto_region 6 with (first | ((with_reducible refine gate_callee (f := 24) rfl ?_); refine goesL_ (some 33) rfl rfl Try.func24 (by kernel_rfl) rfl #[.slice A0 l0.length c0, .int .i64 a2, .int .i64 a3] rfl (by (try simp only [List.map_toArray, List.map_cons, List.map_nil]); first | done | rfl | (simp only [List.length_drop, List.length_take]; rfl)) ?_; (with_reducible refine (sets_Join.calls kj5 _ _ l0 a2 a3 t177 t178 _ ?side1 ?side2 A11.out).mono ?_); (case side1 => repeat (first | exact (Kd.C_below HR0.out HB.out) | (with_reducible refine Kd.C_alloc ?_ _) | (with_reducible refine Kd.C_drewN ?_ _) | (with_reducible refine Kd.C_drew ?_))); (case side2 => exact HC0.out); rintro e w14 ⟨v179, rfl, ho0, hb⟩; refine ⟨_, rfl, ?_⟩; have n0_ := Aside0.mk (Kd.R_lower ho0 (below_size (by repeat (first | (with_reducible first | exact HB.out | apply below_alloc | apply pw_below_drewN | apply below_drew1) | exact HB.out)))); have n1_ := Aside0.mk (below_step (by repeat (first | (with_reducible first | exact HB.out | apply below_alloc | apply pw_below_drewN | apply below_drew1) | exact HB.out)) hb); clear HB; have HO180 := n0_; have HB := n1_; clear n0_ n1_; (try clear hb); (try clear hb2); (try clear hk); (try clear hi); (try clear ho0)) | ((with_reducible refine gate_callee (f := 30) rfl ?_); refine goesL_ (some 40) rfl rfl Try.func30 (by kernel_rfl) rfl #[.slice A0 l0.length c0, .int .i64 a2, .int .i64 a3] rfl (by (try simp only [List.map_toArray, List.map_cons, List.map_nil]); first | done | rfl | (simp only [List.length_drop, List.length_take]; rfl)) ?_; (with_reducible refine (tellJoin.calls kj5 _ _ l0 a2 a3 t181 t182 _ ?side1 ?side2 A12.out).mono ?_); (case side1 => repeat (first | exact (Kd.C_below HR0.out HB.out) | (with_reducible refine Kd.C_alloc ?_ _) | (with_reducible refine Kd.C_drewN ?_ _) | (with_reducible refine Kd.C_drew ?_))); (case side2 => exact HC0.out); rintro e w15 ⟨A183, c183, rfl, hq0, ho0, hb⟩; refine ⟨_, rfl, ?_⟩; have n0_ := Aside0.mk (Kd.R_mono (ok' := fun _ => True) (Kd.R_move (Kd.R_bound HO180.out) (fun k hk => hb.block k hk.2.2.1)) (fun _ _ => trivial)); have n1_ := Aside0.mk (And.intro hq0 ho0); have n2_ := Aside0.mk (below_step (by repeat (first | (with_reducible first | exact HB.out | apply below_alloc | apply pw_below_drewN | apply below_drew1) | exact HB.out)) hb); clear HO180; clear HB; have HO180 := n0_; have HO184 := n1_; have HB := n2_; clear n0_ n1_ n2_; (try clear hb); (try clear hb2); (try clear hk); (try clear hi); (try clear ho0)))
        (try simp only [Act.put, List.setIfInBounds_toArray, List.set_cons_zero, List.set_cons_succ])
        go_cut [14] (fun v14 wc => ∃ (kq : Nat) (x14_12 : Bool), v14 = .bool x14_12 ∧ Aside0 (roadbooklaw15_SetsTell.j1 kq l0 l1 a2 x14_12 = some r) ∧ Aside0 (kq ≤ kj5) ∧ Aside0 (Below w.heap.size w wc))
        case first =>
          have H := HC13.out
          clear HC13
          replace H := Option.bind_eq_some_iff.mp H
          obtain ⟨t185, A160, H⟩ := H
          replace H : (if t185 = true then (if (t178 == t182) = true then ((sets_May.f kj5 l0).bind fun t186 => ((roadbookref15_May.f kj5 l0).bind fun t187 => (if (t186 == t187) = true then ((sets_Find.f kj5 l0 a2).bind fun t188 => ((roadbookref15_Find.f kj5 l0 a2).bind fun t189 => (roadbooklaw15_SetsTell.j1 kj5 l0 l1 a2 (t188 == t189)))) else (roadbooklaw15_SetsTell.j1 kj5 l0 l1 a2 false)))) else (roadbooklaw15_SetsTell.j1 kj5 l0 l1 a2 false)) else (roadbooklaw15_SetsTell.j1 kj5 l0 l1 a2 false)) = some r := H
          have A16 := Aside0.mk A160
          clear A160
          by_cases c17 : t185 = true
          · subst c17
            have H1 : (if (t178 == t182) = true then ((sets_May.f kj5 l0).bind fun t186 => ((roadbookref15_May.f kj5 l0).bind fun t187 => (if (t186 == t187) = true then ((sets_Find.f kj5 l0 a2).bind fun t188 => ((roadbookref15_Find.f kj5 l0 a2).bind fun t189 => (roadbooklaw15_SetsTell.j1 kj5 l0 l1 a2 (t188 == t189)))) else (roadbooklaw15_SetsTell.j1 kj5 l0 l1 a2 false)))) else (roadbooklaw15_SetsTell.j1 kj5 l0 l1 a2 false)) = some r := by rw [if_pos rfl] at H; exact H
            clear H
            have H := H1
            clear H1
            by_cases c18 : (t178 == t182) = true
            · rw [if_pos c18] at H
              have c18b0 : (t178 == t182) = true := c18
              (try (have c18b1 : decide (t178 = t182) = true := by simpa using c18))
              (try (have c18b2 : (t178 == t182) = true := by simpa using c18))
              clear c18
              (first | rw [c18b0] | (simp only [i64_w, i32_w]; rw [c18b0]) | skip)
              replace H := Option.bind_eq_some_iff.mp H
              obtain ⟨t186, A190, H⟩ := H
              replace H : ((roadbookref15_May.f kj5 l0).bind fun t187 => (if (t186 == t187) = true then ((sets_Find.f kj5 l0 a2).bind fun t188 => ((roadbookref15_Find.f kj5 l0 a2).bind fun t189 => (roadbooklaw15_SetsTell.j1 kj5 l0 l1 a2 (t188 == t189)))) else (roadbooklaw15_SetsTell.j1 kj5 l0 l1 a2 false))) = some r := H
              have A19 := Aside0.mk A190
              clear A190
              replace H := Option.bind_eq_some_iff.mp H
              obtain ⟨t187, A200, H⟩ := H
              replace H : (if (t186 == t187) = true then ((sets_Find.f kj5 l0 a2).bind fun t188 => ((roadbookref15_Find.f kj5 l0 a2).bind fun t189 => (roadbooklaw15_SetsTell.j1 kj5 l0 l1 a2 (t188 == t189)))) else (roadbooklaw15_SetsTell.j1 kj5 l0 l1 a2 false)) = some r := H
              have A20 := Aside0.mk A200
              clear A200
              by_cases c21 : (t186 == t187) = true
              · rw [if_pos c21] at H
                have c21b0 : (t186 == t187) = true := c21
                (try (have c21b1 : decide (t186 = t187) = true := by simpa using c21))
                (try (have c21b2 : (t186 == t187) = true := by simpa using c21))
                clear c21
                replace H := Option.bind_eq_some_iff.mp H
                obtain ⟨t188, A220, H⟩ := H
                replace H : ((roadbookref15_Find.f kj5 l0 a2).bind fun t189 => (roadbooklaw15_SetsTell.j1 kj5 l0 l1 a2 (t188 == t189))) = some r := H
                have A22 := Aside0.mk A220
                clear A220
                replace H := Option.bind_eq_some_iff.mp H
                obtain ⟨t189, A230, H⟩ := H
                replace H : (roadbooklaw15_SetsTell.j1 kj5 l0 l1 a2 (t188 == t189)) = some r := H
                have A23 := Aside0.mk A230
                clear A230
                have H' := Aside0.mk H
                clear H
                obtain ⟨Ao24, co24, eo24⟩ := Kd.R_slice HO180.out
                subst eo24
                go_wp2_with (first | ((with_reducible refine gate_callee (f := 27) rfl ?_); refine goesL_ (some 45) rfl rfl Try.func27 (by kernel_rfl) rfl #[.slice Ao24 t177.length co24, .slice A183 t181.length c183] rfl (by (try simp only [List.map_toArray, List.map_cons, List.map_nil]); first | done | rfl | (simp only [List.length_drop, List.length_take]; rfl)) ?_; (with_reducible refine (roadbookref02_Ints.calls kj5 _ _ t177 _ _ t181 true _ ?side1 ?side2 ?side3 ?side4 A16.out).mono ?_); (case side1 => repeat (first | exact (Kd.R_reads' HO180.out).2.2 | (with_reducible refine Kd.C_alloc ?_ _) | (with_reducible refine Kd.C_drewN ?_ _) | (with_reducible refine Kd.C_drew ?_))); (case side2 => exact (Kd.R_reads' HO180.out).2.1); (case side3 => repeat (first | exact HO184.out.2 | (with_reducible refine Kd.C_alloc ?_ _) | (with_reducible refine Kd.C_drewN ?_ _) | (with_reducible refine Kd.C_drew ?_))); (case side4 => exact HO184.out.1); rintro e w' ⟨rfl, ⟨nd, rfl⟩⟩; refine ⟨_, rfl, ?_⟩) | (go_at_call 25; (with_reducible refine (sets_May.calls kj5 _ _ l0 t186 _ ?side1 ?side2 A19.out).mono ?_); (case side1 => repeat (first | exact (Kd.C_below HR0.out (by repeat (first | (with_reducible first | exact HB.out | apply below_alloc | apply pw_below_drewN | apply below_drew1) | exact HB.out))) | (with_reducible refine Kd.C_alloc ?_ _) | (with_reducible refine Kd.C_drewN ?_ _) | (with_reducible refine Kd.C_drew ?_))); (case side2 => exact HC0.out); rintro e w' ⟨rfl, ⟨nd, rfl⟩⟩) | (go_at_call 31; (with_reducible refine (roadbookref15_May.calls kj5 _ _ l0 t187 _ ?side1 ?side2 A20.out).mono ?_); (case side1 => repeat (first | exact (Kd.C_below HR0.out (by repeat (first | (with_reducible first | exact HB.out | apply below_alloc | apply pw_below_drewN | apply below_drew1) | exact HB.out))) | (with_reducible refine Kd.C_alloc ?_ _) | (with_reducible refine Kd.C_drewN ?_ _) | (with_reducible refine Kd.C_drew ?_))); (case side2 => exact HC0.out); rintro e w' ⟨rfl, ⟨nd, rfl⟩⟩) | (go_at_call 26; (with_reducible refine (sets_Find.calls kj5 _ _ l0 a2 t188 _ ?side1 ?side2 A22.out).mono ?_); (case side1 => repeat (first | exact (Kd.C_below HR0.out (by repeat (first | (with_reducible first | exact HB.out | apply below_alloc | apply pw_below_drewN | apply below_drew1) | exact HB.out))) | (with_reducible refine Kd.C_alloc ?_ _) | (with_reducible refine Kd.C_drewN ?_ _) | (with_reducible refine Kd.C_drew ?_))); (case side2 => exact HC0.out); rintro e w' ⟨rfl, ⟨nd, rfl⟩⟩) | (go_at_call 32; (with_reducible refine (roadbookref15_Find.calls kj5 _ _ l0 a2 t189 _ ?side1 ?side2 A23.out).mono ?_); (case side1 => repeat (first | exact (Kd.C_below HR0.out (by repeat (first | (with_reducible first | exact HB.out | apply below_alloc | apply pw_below_drewN | apply below_drew1) | exact HB.out))) | (with_reducible refine Kd.C_alloc ?_ _) | (with_reducible refine Kd.C_drewN ?_ _) | (with_reducible refine Kd.C_drew ?_))); (case side2 => exact HC0.out); rintro e w' ⟨rfl, ⟨nd, rfl⟩⟩))
                go_meet
                case rel => exact ⟨_, ((t188 == t189)), (by first | rfl | (simp; done) | (simp [*]; done)), H', ⟨by have := HJ5.out; first | omega | exact Nat.le_refl _⟩, ⟨by repeat (first | (with_reducible first | exact HB.out | apply below_alloc | apply pw_below_drewN | apply below_drew1) | exact HB.out)⟩⟩
              · rw [if_neg c21] at H
                have c21b0 : (t186 == t187) = false := by simpa using c21
                (try (have c21b1 : decide (t186 = t187) = false := by simpa using c21))
                (try (have c21b2 : (t186 == t187) = false := by simpa using c21))
                (try (have c21b3 : ¬ (t186 = t187) := by simpa using c21))
                clear c21
                have H' := Aside0.mk H
                clear H
                obtain ⟨Ao26, co26, eo26⟩ := Kd.R_slice HO180.out
                subst eo26
                go_wp2_with (first | ((with_reducible refine gate_callee (f := 27) rfl ?_); refine goesL_ (some 45) rfl rfl Try.func27 (by kernel_rfl) rfl #[.slice Ao26 t177.length co26, .slice A183 t181.length c183] rfl (by (try simp only [List.map_toArray, List.map_cons, List.map_nil]); first | done | rfl | (simp only [List.length_drop, List.length_take]; rfl)) ?_; (with_reducible refine (roadbookref02_Ints.calls kj5 _ _ t177 _ _ t181 true _ ?side1 ?side2 ?side3 ?side4 A16.out).mono ?_); (case side1 => repeat (first | exact (Kd.R_reads' HO180.out).2.2 | (with_reducible refine Kd.C_alloc ?_ _) | (with_reducible refine Kd.C_drewN ?_ _) | (with_reducible refine Kd.C_drew ?_))); (case side2 => exact (Kd.R_reads' HO180.out).2.1); (case side3 => repeat (first | exact HO184.out.2 | (with_reducible refine Kd.C_alloc ?_ _) | (with_reducible refine Kd.C_drewN ?_ _) | (with_reducible refine Kd.C_drew ?_))); (case side4 => exact HO184.out.1); rintro e w' ⟨rfl, ⟨nd, rfl⟩⟩; refine ⟨_, rfl, ?_⟩) | (go_at_call 25; (with_reducible refine (sets_May.calls kj5 _ _ l0 t186 _ ?side1 ?side2 A19.out).mono ?_); (case side1 => repeat (first | exact (Kd.C_below HR0.out (by repeat (first | (with_reducible first | exact HB.out | apply below_alloc | apply pw_below_drewN | apply below_drew1) | exact HB.out))) | (with_reducible refine Kd.C_alloc ?_ _) | (with_reducible refine Kd.C_drewN ?_ _) | (with_reducible refine Kd.C_drew ?_))); (case side2 => exact HC0.out); rintro e w' ⟨rfl, ⟨nd, rfl⟩⟩) | (go_at_call 31; (with_reducible refine (roadbookref15_May.calls kj5 _ _ l0 t187 _ ?side1 ?side2 A20.out).mono ?_); (case side1 => repeat (first | exact (Kd.C_below HR0.out (by repeat (first | (with_reducible first | exact HB.out | apply below_alloc | apply pw_below_drewN | apply below_drew1) | exact HB.out))) | (with_reducible refine Kd.C_alloc ?_ _) | (with_reducible refine Kd.C_drewN ?_ _) | (with_reducible refine Kd.C_drew ?_))); (case side2 => exact HC0.out); rintro e w' ⟨rfl, ⟨nd, rfl⟩⟩))
                go_meet
                case rel => exact ⟨_, (false), (by first | rfl | (simp; done) | (simp [*]; done)), H', ⟨by have := HJ5.out; first | omega | exact Nat.le_refl _⟩, ⟨by repeat (first | (with_reducible first | exact HB.out | apply below_alloc | apply pw_below_drewN | apply below_drew1) | exact HB.out)⟩⟩
            · rw [if_neg c18] at H
              have c18b0 : (t178 == t182) = false := by simpa using c18
              (try (have c18b1 : decide (t178 = t182) = false := by simpa using c18))
              (try (have c18b2 : (t178 == t182) = false := by simpa using c18))
              (try (have c18b3 : ¬ (t178 = t182) := by simpa using c18))
              clear c18
              (first | rw [c18b0] | (simp only [i64_w, i32_w]; rw [c18b0]) | skip)
              have H' := Aside0.mk H
              clear H
              obtain ⟨Ao28, co28, eo28⟩ := Kd.R_slice HO180.out
              subst eo28
              go_wp2_with (first | ((with_reducible refine gate_callee (f := 27) rfl ?_); refine goesL_ (some 45) rfl rfl Try.func27 (by kernel_rfl) rfl #[.slice Ao28 t177.length co28, .slice A183 t181.length c183] rfl (by (try simp only [List.map_toArray, List.map_cons, List.map_nil]); first | done | rfl | (simp only [List.length_drop, List.length_take]; rfl)) ?_; (with_reducible refine (roadbookref02_Ints.calls kj5 _ _ t177 _ _ t181 true _ ?side1 ?side2 ?side3 ?side4 A16.out).mono ?_); (case side1 => repeat (first | exact (Kd.R_reads' HO180.out).2.2 | (with_reducible refine Kd.C_alloc ?_ _) | (with_reducible refine Kd.C_drewN ?_ _) | (with_reducible refine Kd.C_drew ?_))); (case side2 => exact (Kd.R_reads' HO180.out).2.1); (case side3 => repeat (first | exact HO184.out.2 | (with_reducible refine Kd.C_alloc ?_ _) | (with_reducible refine Kd.C_drewN ?_ _) | (with_reducible refine Kd.C_drew ?_))); (case side4 => exact HO184.out.1); rintro e w' ⟨rfl, ⟨nd, rfl⟩⟩; refine ⟨_, rfl, ?_⟩))
              go_meet
              case rel => exact ⟨_, (false), (by first | rfl | (simp; done) | (simp [*]; done)), H', ⟨by have := HJ5.out; first | omega | exact Nat.le_refl _⟩, ⟨by repeat (first | (with_reducible first | exact HB.out | apply below_alloc | apply pw_below_drewN | apply below_drew1) | exact HB.out)⟩⟩
          · replace c17 := Bool.eq_false_iff.mpr c17
            subst c17
            have H1 : (roadbooklaw15_SetsTell.j1 kj5 l0 l1 a2 false) = some r := by rw [if_neg (show ¬ (false = true) by decide)] at H; exact H
            clear H
            have H := H1
            clear H1
            have H' := Aside0.mk H
            clear H
            obtain ⟨Ao30, co30, eo30⟩ := Kd.R_slice HO180.out
            subst eo30
            go_wp2_with (first | ((with_reducible refine gate_callee (f := 27) rfl ?_); refine goesL_ (some 45) rfl rfl Try.func27 (by kernel_rfl) rfl #[.slice Ao30 t177.length co30, .slice A183 t181.length c183] rfl (by (try simp only [List.map_toArray, List.map_cons, List.map_nil]); first | done | rfl | (simp only [List.length_drop, List.length_take]; rfl)) ?_; (with_reducible refine (roadbookref02_Ints.calls kj5 _ _ t177 _ _ t181 false _ ?side1 ?side2 ?side3 ?side4 A16.out).mono ?_); (case side1 => repeat (first | exact (Kd.R_reads' HO180.out).2.2 | (with_reducible refine Kd.C_alloc ?_ _) | (with_reducible refine Kd.C_drewN ?_ _) | (with_reducible refine Kd.C_drew ?_))); (case side2 => exact (Kd.R_reads' HO180.out).2.1); (case side3 => repeat (first | exact HO184.out.2 | (with_reducible refine Kd.C_alloc ?_ _) | (with_reducible refine Kd.C_drewN ?_ _) | (with_reducible refine Kd.C_drew ?_))); (case side4 => exact HO184.out.1); rintro e w' ⟨rfl, ⟨nd, rfl⟩⟩; refine ⟨_, rfl, ?_⟩))
            go_meet
            case rel => exact ⟨_, (false), (by first | rfl | (simp; done) | (simp [*]; done)), H', ⟨by have := HJ5.out; first | omega | exact Nat.le_refl _⟩, ⟨by repeat (first | (with_reducible first | exact HB.out | apply below_alloc | apply pw_below_drewN | apply below_drew1) | exact HB.out)⟩⟩
        case rest =>
          clear HC13
          try clear c1
          try clear c2
          try clear p2
          try clear c3
          try clear c6
          try clear c8
          try clear c9
          try clear c9b0
          try clear c9b1
          try clear c10
          try clear c17
          try clear c18
          try clear c18b0
          try clear c18b1
          try clear c18b2
          try clear c21
          try clear c21b0
          try clear c21b1
          try clear c21b2
          try clear c23
          try clear c24
          try clear c27
          try clear c30
          try clear p2
          obtain ⟨kq, x14_12, rfl, HA, HJ12, HB⟩ := hcut
          cases kq with
          | zero => exact absurd HA.out (by simp [roadbooklaw15_SetsTell.j1])
          | succ kj12 =>
            have H := HA.out
            clear HA
            simp only [roadbooklaw15_SetsTell.j1] at H
            by_cases c32 : x14_12 = true
            · subst c32
              have H1 : ((sets_Roots.f kj12 l0).bind fun t190 => ((roadbookref15_Roots.f kj12 l0).bind fun t193 => ((roadbookref02_Ints.f kj12 t190 t193).bind fun t196 => (if t196 = true then ((sets_New.f kj12 a2).bind fun t197 => ((roadbookref15_New.f kj12 a2).bind fun t200 => ((roadbookref02_Ints.f kj12 t197 t200).bind fun t203 => (if t203 = true then ((sets_Same.f kj12 l0 l1).bind fun t204 => ((roadbookref15_Same.f kj12 l0 l1).bind fun t205 => (some (t204 == t205)))) else (some false))))) else (some false))))) = some r := by rw [if_pos rfl] at H; exact H
              clear H
              have H := H1
              clear H1
              replace H := Option.bind_eq_some_iff.mp H
              obtain ⟨t190, A330, H⟩ := H
              replace H : ((roadbookref15_Roots.f kj12 l0).bind fun t193 => ((roadbookref02_Ints.f kj12 t190 t193).bind fun t196 => (if t196 = true then ((sets_New.f kj12 a2).bind fun t197 => ((roadbookref15_New.f kj12 a2).bind fun t200 => ((roadbookref02_Ints.f kj12 t197 t200).bind fun t203 => (if t203 = true then ((sets_Same.f kj12 l0 l1).bind fun t204 => ((roadbookref15_Same.f kj12 l0 l1).bind fun t205 => (some (t204 == t205)))) else (some false))))) else (some false)))) = some r := H
              have A33 := Aside0.mk A330
              clear A330
              replace H := Option.bind_eq_some_iff.mp H
              obtain ⟨t193, A340, H⟩ := H
              replace H : ((roadbookref02_Ints.f kj12 t190 t193).bind fun t196 => (if t196 = true then ((sets_New.f kj12 a2).bind fun t197 => ((roadbookref15_New.f kj12 a2).bind fun t200 => ((roadbookref02_Ints.f kj12 t197 t200).bind fun t203 => (if t203 = true then ((sets_Same.f kj12 l0 l1).bind fun t204 => ((roadbookref15_Same.f kj12 l0 l1).bind fun t205 => (some (t204 == t205)))) else (some false))))) else (some false))) = some r := H
              have A34 := Aside0.mk A340
              clear A340
              replace H := Option.bind_eq_some_iff.mp H
              obtain ⟨t196, A350, H⟩ := H
              replace H : (if t196 = true then ((sets_New.f kj12 a2).bind fun t197 => ((roadbookref15_New.f kj12 a2).bind fun t200 => ((roadbookref02_Ints.f kj12 t197 t200).bind fun t203 => (if t203 = true then ((sets_Same.f kj12 l0 l1).bind fun t204 => ((roadbookref15_Same.f kj12 l0 l1).bind fun t205 => (some (t204 == t205)))) else (some false))))) else (some false)) = some r := H
              have A35 := Aside0.mk A350
              clear A350
              by_cases c36 : t196 = true
              · subst c36
                have H1 : ((sets_New.f kj12 a2).bind fun t197 => ((roadbookref15_New.f kj12 a2).bind fun t200 => ((roadbookref02_Ints.f kj12 t197 t200).bind fun t203 => (if t203 = true then ((sets_Same.f kj12 l0 l1).bind fun t204 => ((roadbookref15_Same.f kj12 l0 l1).bind fun t205 => (some (t204 == t205)))) else (some false))))) = some r := by rw [if_pos rfl] at H; exact H
                clear H
                have H := H1
                clear H1
                replace H := Option.bind_eq_some_iff.mp H
                obtain ⟨t197, A370, H⟩ := H
                replace H : ((roadbookref15_New.f kj12 a2).bind fun t200 => ((roadbookref02_Ints.f kj12 t197 t200).bind fun t203 => (if t203 = true then ((sets_Same.f kj12 l0 l1).bind fun t204 => ((roadbookref15_Same.f kj12 l0 l1).bind fun t205 => (some (t204 == t205)))) else (some false)))) = some r := H
                have A37 := Aside0.mk A370
                clear A370
                replace H := Option.bind_eq_some_iff.mp H
                obtain ⟨t200, A380, H⟩ := H
                replace H : ((roadbookref02_Ints.f kj12 t197 t200).bind fun t203 => (if t203 = true then ((sets_Same.f kj12 l0 l1).bind fun t204 => ((roadbookref15_Same.f kj12 l0 l1).bind fun t205 => (some (t204 == t205)))) else (some false))) = some r := H
                have A38 := Aside0.mk A380
                clear A380
                replace H := Option.bind_eq_some_iff.mp H
                obtain ⟨t203, A390, H⟩ := H
                replace H : (if t203 = true then ((sets_Same.f kj12 l0 l1).bind fun t204 => ((roadbookref15_Same.f kj12 l0 l1).bind fun t205 => (some (t204 == t205)))) else (some false)) = some r := H
                have A39 := Aside0.mk A390
                clear A390
                by_cases c40 : t203 = true
                · subst c40
                  have H1 : ((sets_Same.f kj12 l0 l1).bind fun t204 => ((roadbookref15_Same.f kj12 l0 l1).bind fun t205 => (some (t204 == t205)))) = some r := by rw [if_pos rfl] at H; exact H
                  clear H
                  have H := H1
                  clear H1
                  replace H := Option.bind_eq_some_iff.mp H
                  obtain ⟨t204, A410, H⟩ := H
                  replace H : ((roadbookref15_Same.f kj12 l0 l1).bind fun t205 => (some (t204 == t205))) = some r := H
                  have A41 := Aside0.mk A410
                  clear A410
                  replace H := Option.bind_eq_some_iff.mp H
                  obtain ⟨t205, A420, H⟩ := H
                  replace H : (some (t204 == t205)) = some r := H
                  have A42 := Aside0.mk A420
                  clear A420
                  obtain rfl := Option.some.inj H
                  go_wp2_with (first | (go_at_call 33; (with_reducible refine (sets_Roots.calls kj12 _ _ l0 t190 _ ?side1 ?side2 A33.out).mono ?_); (case side1 => repeat (first | exact (Kd.C_below HR0.out HB.out) | (with_reducible refine Kd.C_alloc ?_ _) | (with_reducible refine Kd.C_drewN ?_ _) | (with_reducible refine Kd.C_drew ?_))); (case side2 => exact HC0.out); rintro e w43 ⟨v191, rfl, ho0, hb⟩; have n0_ := Aside0.mk (Kd.R_lower ho0 (below_size (by repeat (first | (with_reducible first | exact HB.out | apply below_alloc | apply pw_below_drewN | apply below_drew1) | exact HB.out)))); have n1_ := Aside0.mk (below_step (by repeat (first | (with_reducible first | exact HB.out | apply below_alloc | apply pw_below_drewN | apply below_drew1) | exact HB.out)) hb); clear HB; have HO192 := n0_; have HB := n1_; clear n0_ n1_; (try clear hb); (try clear hb2); (try clear hk); (try clear hi); (try clear ho0)) | (go_at_call 34; (with_reducible refine (roadbookref15_Roots.calls kj12 _ _ l0 t193 _ ?side1 ?side2 A34.out).mono ?_); (case side1 => repeat (first | exact (Kd.C_below HR0.out HB.out) | (with_reducible refine Kd.C_alloc ?_ _) | (with_reducible refine Kd.C_drewN ?_ _) | (with_reducible refine Kd.C_drew ?_))); (case side2 => exact HC0.out); rintro e w44 ⟨v194, rfl, ho0, hb⟩; have n0_ := Aside0.mk (Kd.R_elder' (by (with_reducible repeat (first | apply Kd.R_alloc | apply Kd.R_drewN | apply Kd.R_drew)); exact HO192.out) (Kd.R_base ho0) hb); have n1_ := Aside0.mk (Kd.R_lower (Kd.R_new' ho0 (Kd.R_lt (by (with_reducible repeat (first | apply Kd.R_alloc | apply Kd.R_drewN | apply Kd.R_drew)); exact HO192.out))) (below_size (by repeat (first | (with_reducible first | exact HB.out | apply below_alloc | apply pw_below_drewN | apply below_drew1) | exact HB.out)))); have n2_ := Aside0.mk (below_step (by repeat (first | (with_reducible first | exact HB.out | apply below_alloc | apply pw_below_drewN | apply below_drew1) | exact HB.out)) hb); clear HO192; clear HB; have HO192 := n0_; have HO195 := n1_; have HB := n2_; clear n0_ n1_ n2_; (try clear hb); (try clear hb2); (try clear hk); (try clear hi); (try clear ho0); obtain ⟨Ao45, co45, eo45⟩ := Kd.R_slice HO192.out; subst eo45; obtain ⟨Ao46, co46, eo46⟩ := Kd.R_slice HO195.out; subst eo46) | (go_at_call 27; (with_reducible refine (roadbookref02_Ints.calls kj12 _ _ t190 _ _ t193 true _ ?side1 ?side2 ?side3 ?side4 A35.out).mono ?_); (case side1 => repeat (first | exact (Kd.R_reads' HO192.out).2.2 | (with_reducible refine Kd.C_alloc ?_ _) | (with_reducible refine Kd.C_drewN ?_ _) | (with_reducible refine Kd.C_drew ?_))); (case side2 => exact (Kd.R_reads' HO192.out).2.1); (case side3 => repeat (first | exact (Kd.R_reads' HO195.out).2.2 | (with_reducible refine Kd.C_alloc ?_ _) | (with_reducible refine Kd.C_drewN ?_ _) | (with_reducible refine Kd.C_drew ?_))); (case side4 => exact (Kd.R_reads' HO195.out).2.1); rintro e w' ⟨rfl, ⟨nd, rfl⟩⟩) | (go_at_call 28; (with_reducible refine (sets_New.calls kj12 a2 t197 _ A37.out).mono ?_); rintro e w47 ⟨v198, rfl, ho0, hb⟩; have n0_ := Aside0.mk (Kd.R_elder' (by (with_reducible repeat (first | apply Kd.R_alloc | apply Kd.R_drewN | apply Kd.R_drew)); exact HO192.out) (Kd.R_base ho0) hb); have n1_ := Aside0.mk (Kd.R_elder' (by (with_reducible repeat (first | apply Kd.R_alloc | apply Kd.R_drewN | apply Kd.R_drew)); exact HO195.out) (Kd.R_base ho0) hb); have n2_ := Aside0.mk (Kd.R_lower (Kd.R_new' (Kd.R_new' ho0 (Kd.R_lt (by (with_reducible repeat (first | apply Kd.R_alloc | apply Kd.R_drewN | apply Kd.R_drew)); exact HO192.out))) (Kd.R_lt (by (with_reducible repeat (first | apply Kd.R_alloc | apply Kd.R_drewN | apply Kd.R_drew)); exact HO195.out))) (below_size (by repeat (first | (with_reducible first | exact HB.out | apply below_alloc | apply pw_below_drewN | apply below_drew1) | exact HB.out)))); have n3_ := Aside0.mk (below_step (by repeat (first | (with_reducible first | exact HB.out | apply below_alloc | apply pw_below_drewN | apply below_drew1) | exact HB.out)) hb); clear HO192; clear HO195; clear HB; have HO192 := n0_; have HO195 := n1_; have HO199 := n2_; have HB := n3_; clear n0_ n1_ n2_ n3_; (try clear hb); (try clear hb2); (try clear hk); (try clear hi); (try clear ho0)) | (go_at_call 35; (with_reducible refine (roadbookref15_New.calls kj12 a2 t200 _ A38.out).mono ?_); rintro e w48 ⟨v201, rfl, ho0, hb⟩; have n0_ := Aside0.mk (Kd.R_elder' (by (with_reducible repeat (first | apply Kd.R_alloc | apply Kd.R_drewN | apply Kd.R_drew)); exact HO192.out) (Kd.R_base ho0) hb); have n1_ := Aside0.mk (Kd.R_elder' (by (with_reducible repeat (first | apply Kd.R_alloc | apply Kd.R_drewN | apply Kd.R_drew)); exact HO195.out) (Kd.R_base ho0) hb); have n2_ := Aside0.mk (Kd.R_elder' (by (with_reducible repeat (first | apply Kd.R_alloc | apply Kd.R_drewN | apply Kd.R_drew)); exact HO199.out) (Kd.R_base ho0) hb); have n3_ := Aside0.mk (Kd.R_lower (Kd.R_new' (Kd.R_new' (Kd.R_new' ho0 (Kd.R_lt (by (with_reducible repeat (first | apply Kd.R_alloc | apply Kd.R_drewN | apply Kd.R_drew)); exact HO192.out))) (Kd.R_lt (by (with_reducible repeat (first | apply Kd.R_alloc | apply Kd.R_drewN | apply Kd.R_drew)); exact HO195.out))) (Kd.R_lt (by (with_reducible repeat (first | apply Kd.R_alloc | apply Kd.R_drewN | apply Kd.R_drew)); exact HO199.out))) (below_size (by repeat (first | (with_reducible first | exact HB.out | apply below_alloc | apply pw_below_drewN | apply below_drew1) | exact HB.out)))); have n4_ := Aside0.mk (below_step (by repeat (first | (with_reducible first | exact HB.out | apply below_alloc | apply pw_below_drewN | apply below_drew1) | exact HB.out)) hb); clear HO192; clear HO195; clear HO199; clear HB; have HO192 := n0_; have HO195 := n1_; have HO199 := n2_; have HO202 := n3_; have HB := n4_; clear n0_ n1_ n2_ n3_ n4_; (try clear hb); (try clear hb2); (try clear hk); (try clear hi); (try clear ho0); obtain ⟨Ao49, co49, eo49⟩ := Kd.R_slice HO199.out; subst eo49; obtain ⟨Ao50, co50, eo50⟩ := Kd.R_slice HO202.out; subst eo50) | (go_at_call 27; (with_reducible refine (roadbookref02_Ints.calls kj12 _ _ t197 _ _ t200 true _ ?side1 ?side2 ?side3 ?side4 A39.out).mono ?_); (case side1 => repeat (first | exact (Kd.R_reads' HO199.out).2.2 | (with_reducible refine Kd.C_alloc ?_ _) | (with_reducible refine Kd.C_drewN ?_ _) | (with_reducible refine Kd.C_drew ?_))); (case side2 => exact (Kd.R_reads' HO199.out).2.1); (case side3 => repeat (first | exact (Kd.R_reads' HO202.out).2.2 | (with_reducible refine Kd.C_alloc ?_ _) | (with_reducible refine Kd.C_drewN ?_ _) | (with_reducible refine Kd.C_drew ?_))); (case side4 => exact (Kd.R_reads' HO202.out).2.1); rintro e w' ⟨rfl, ⟨nd, rfl⟩⟩) | (go_at_call 36; (with_reducible refine (sets_Same.calls kj12 _ _ l0 _ _ l1 t204 _ ?side1 ?side2 ?side3 ?side4 A41.out).mono ?_); (case side1 => repeat (first | exact (Kd.C_below HR0.out (by repeat (first | (with_reducible first | exact HB.out | apply below_alloc | apply pw_below_drewN | apply below_drew1) | exact HB.out))) | (with_reducible refine Kd.C_alloc ?_ _) | (with_reducible refine Kd.C_drewN ?_ _) | (with_reducible refine Kd.C_drew ?_))); (case side2 => exact HC0.out); (case side3 => repeat (first | exact (Kd.C_below HR1.out (by repeat (first | (with_reducible first | exact HB.out | apply below_alloc | apply pw_below_drewN | apply below_drew1) | exact HB.out))) | (with_reducible refine Kd.C_alloc ?_ _) | (with_reducible refine Kd.C_drewN ?_ _) | (with_reducible refine Kd.C_drew ?_))); (case side4 => exact HC1.out); rintro e w51 ⟨rfl, hb⟩; have n0_ := Aside0.mk (Kd.R_below (by (with_reducible repeat (first | apply Kd.R_alloc | apply Kd.R_drewN | apply Kd.R_drew)); exact HO192.out) hb); have n1_ := Aside0.mk (Kd.R_below (by (with_reducible repeat (first | apply Kd.R_alloc | apply Kd.R_drewN | apply Kd.R_drew)); exact HO195.out) hb); have n2_ := Aside0.mk (Kd.R_below (by (with_reducible repeat (first | apply Kd.R_alloc | apply Kd.R_drewN | apply Kd.R_drew)); exact HO199.out) hb); have n3_ := Aside0.mk (Kd.R_below (by (with_reducible repeat (first | apply Kd.R_alloc | apply Kd.R_drewN | apply Kd.R_drew)); exact HO202.out) hb); have n4_ := Aside0.mk (below_step (by repeat (first | (with_reducible first | exact HB.out | apply below_alloc | apply pw_below_drewN | apply below_drew1) | exact HB.out)) hb); clear HO192; clear HO195; clear HO199; clear HO202; clear HB; have HO192 := n0_; have HO195 := n1_; have HO199 := n2_; have HO202 := n3_; have HB := n4_; clear n0_ n1_ n2_ n3_ n4_; (try clear hb); (try clear hb2); (try clear hk); (try clear hi)) | (go_at_call 37; (with_reducible refine (roadbookref15_Same.calls kj12 _ _ l0 _ _ l1 t205 _ ?side1 ?side2 ?side3 ?side4 A42.out).mono ?_); (case side1 => repeat (first | exact (Kd.C_below HR0.out HB.out) | (with_reducible refine Kd.C_alloc ?_ _) | (with_reducible refine Kd.C_drewN ?_ _) | (with_reducible refine Kd.C_drew ?_))); (case side2 => exact HC0.out); (case side3 => repeat (first | exact (Kd.C_below HR1.out HB.out) | (with_reducible refine Kd.C_alloc ?_ _) | (with_reducible refine Kd.C_drewN ?_ _) | (with_reducible refine Kd.C_drew ?_))); (case side4 => exact HC1.out); rintro e w52 ⟨rfl, hb⟩; have n0_ := Aside0.mk (Kd.R_below (by (with_reducible repeat (first | apply Kd.R_alloc | apply Kd.R_drewN | apply Kd.R_drew)); exact HO192.out) hb); have n1_ := Aside0.mk (Kd.R_below (by (with_reducible repeat (first | apply Kd.R_alloc | apply Kd.R_drewN | apply Kd.R_drew)); exact HO195.out) hb); have n2_ := Aside0.mk (Kd.R_below (by (with_reducible repeat (first | apply Kd.R_alloc | apply Kd.R_drewN | apply Kd.R_drew)); exact HO199.out) hb); have n3_ := Aside0.mk (Kd.R_below (by (with_reducible repeat (first | apply Kd.R_alloc | apply Kd.R_drewN | apply Kd.R_drew)); exact HO202.out) hb); have n4_ := Aside0.mk (below_step (by repeat (first | (with_reducible first | exact HB.out | apply below_alloc | apply pw_below_drewN | apply below_drew1) | exact HB.out)) hb); clear HO192; clear HO195; clear HO199; clear HO202; clear HB; have HO192 := n0_; have HO195 := n1_; have HO199 := n2_; have HO202 := n3_; have HB := n4_; clear n0_ n1_ n2_ n3_ n4_; (try clear hb); (try clear hb2); (try clear hk); (try clear hi)))
                  go_ret
                  exact ⟨by first | rfl | (simp [errW_none, errW_some] <;> rfl) | (simp [*, errW_none, errW_some] <;> rfl), by repeat (first | (with_reducible first | exact HB.out | apply below_alloc | apply pw_below_drewN | apply below_drew1) | exact HB.out)⟩
                · replace c40 := Bool.eq_false_iff.mpr c40
                  subst c40
                  have H1 : (some false) = some r := by rw [if_neg (show ¬ (false = true) by decide)] at H; exact H
                  clear H
                  have H := H1
                  clear H1
                  exact absurd (HRT.out.symm.trans (Option.some.inj H).symm) (by decide)
              · replace c36 := Bool.eq_false_iff.mpr c36
                subst c36
                have H1 : (some false) = some r := by rw [if_neg (show ¬ (false = true) by decide)] at H; exact H
                clear H
                have H := H1
                clear H1
                exact absurd (HRT.out.symm.trans (Option.some.inj H).symm) (by decide)
            · replace c32 := Bool.eq_false_iff.mpr c32
              subst c32
              have H1 : (some false) = some r := by rw [if_neg (show ¬ (false = true) by decide)] at H; exact H
              clear H
              have H := H1
              clear H1
              exact absurd (HRT.out.symm.trans (Option.some.inj H).symm) (by decide)

/-- THE ONE PURE STATEMENT of roadbooklaw15_SetsTell: yours. -/
def roadbooklaw15_SetsTell.Pure : Prop := ∀ (l0 : List Int) (l1 : List Int) (a2 : Int) (a3 : Int), l0.length ≤ maxLen → l0.length * 8 ≤ 140737488351232 → (∀ x ∈ l0, (Lit.int .i64 x).wf = true) → l1.length ≤ maxLen → l1.length * 8 ≤ 140737488351232 → (∀ x ∈ l1, (Lit.int .i64 x).wf = true) → (Lit.int .i64 a2).wf = true → (Lit.int .i64 a3).wf = true → ∃ k, roadbooklaw15_SetsTell.f k l0 l1 a2 a3 = some true
theorem roadbooklaw15_SetsTell.walk (P : roadbooklaw15_SetsTell.Pure) (a0 : Option Addr) (len0 cap0 : Nat) (z0 : List Int) (a1 : Option Addr) (len1 cap1 : Nat) (z1 : List Int) (a2 : Int) (a3 : Int) (w : World) (w0 : (a0 = none ∧ len0 = 0 ∧ cap0 = 0 ∧ z0 = []) ∨ ∃ x, a0 = some x ∧ len0 ≤ cap0 ∧ cap0 ≤ maxLen ∧ z0.length = cap0 ∧ (∀ i, i < z0.length → w.cell? (x.add i) = some (.int .i64 (z0.getD i 0))) ∧ ∀ n ∈ z0, (Lit.int .i64 n).wf = true) (y0 : len0 * 8 ≤ 140737488351232) (w1 : (a1 = none ∧ len1 = 0 ∧ cap1 = 0 ∧ z1 = []) ∨ ∃ x, a1 = some x ∧ len1 ≤ cap1 ∧ cap1 ≤ maxLen ∧ z1.length = cap1 ∧ (∀ i, i < z1.length → w.cell? (x.add i) = some (.int .i64 (z1.getD i 0))) ∧ ∀ n ∈ z1, (Lit.int .i64 n).wf = true) (y1 : len1 * 8 ≤ 140737488351232) (w2 : (Lit.int .i64 a2).wf = true) (w3 : (Lit.int .i64 a3).wf = true) :
    Calls Try.prog 6 #[.slice a0 len0 cap0, .slice a1 len1 cap1, .int .i64 a2, .int .i64 a3] w fun e w' => e = .returned (.bool true) ∧ Below w.heap.size w w' := by
  obtain ⟨l0, rfl, hr0, hm0, hw0, hc0⟩ := ReadsInt.ofRowC w0
  obtain ⟨l1, rfl, hr1, hm1, hw1, hc1⟩ := ReadsInt.ofRowC w1
  obtain ⟨k, h⟩ := P l0 l1 a2 a3 hm0 y0 hw0 hm1 y1 hw1 w2 w3
  refine (roadbooklaw15_SetsTell.calls k _ _ l0 _ _ l1 a2 a3 true w (Kd.C_of_reads (d := (0 : Int)) (h1 := fun _ => rfl) hr0) hc0 (Kd.C_of_reads (d := (0 : Int)) (h1 := fun _ => rfl) hr1) hc1 rfl h).mono ?_
  rintro e w' ⟨rfl, hd⟩
  exact ⟨rfl, hd⟩

end Go.Proofs.Ytkidnomkfdnciaa.All
