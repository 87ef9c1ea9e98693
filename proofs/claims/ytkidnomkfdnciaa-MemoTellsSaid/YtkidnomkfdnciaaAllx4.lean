/- Functions of the program as plain Lean functions, and proofs that the calls do what these say; written for this claim by a program of the session (wip/tools/mkprint.py), checked by Lean. -/
import Derived.Test.YtkidnomkfdnciaaSpec
import Derived.ScopeJumps
import Derived.WalkSpells
import Derived.Test.YtkidnomkfdnciaaAllx0
import Derived.Test.YtkidnomkfdnciaaAllx1
namespace Go.Proofs.Ytkidnomkfdnciaa.All
open Go.RowKit Go.Proofs.YtkidnomkfdnciaaW.PrintWords Go.Proofs.YtkidnomkfdnciaaW.PrintLast Go.Proofs.YtkidnomkfdnciaaW.PrintMore
attribute [local go_sem] max2_int min2_int max_two min_two max_three min_three max_four min_four   -- for this text's walks alone
set_option linter.unusedVariables false
set_option linter.unusedSimpArgs false

attribute [local go_sem high] eqA48
/-! ### sets_May: function 25 -/
def sets_May.l0 : Nat → List Int → List Int → Int → Int → Option (Bool)
 | 0, _, _, _, _ => none
 | k + 1, x0, x5, x6, x7 => if x7 < x6 then (if 0 ≤ x7 then (if x7 < (x5.length : Int) then (if (rd x5 x7) < 0 then (some false) else (if (rd x5 x7) > x7 then (some false) else (sets_May.l0 k x0 x5 x6 (wrap64 (x7 + 1))))) else (none)) else (none)) else (some (decide ((x0.length : Int) ≤ 400)))
def sets_May.f (k : Nat) (l0 : List Int) : Option (Bool) := sets_May.l0 k l0 l0 (l0.length : Int) 0
set_option maxHeartbeats 8000000 in
set_option maxRecDepth 100000 in
theorem sets_May.calls (k : Nat) (A0 : Option Addr) (c0 : Nat) (l0 : List Int) (r : Bool) (w : World) (hr0 : Kd.C (Kd.int .i64) w A0 l0.length l0) (hc0 : l0.length ≤ c0) (h : sets_May.f k l0 = some r) :
  Calls Try.prog 25 #[.slice A0 l0.length c0] w fun e w' => e = .returned (.bool r) ∧ Drawn0 w w' := by
 have HR0 := Aside0.mk hr0
 have HC0 := Aside0.mk hc0
 clear hr0 hc0
 have H : (sets_May.l0 k l0 l0 (l0.length : Int) 0) = some r := h
 clear h
 have H' := Aside0.mk H
 clear H
 go_enter Try.func25, Try.ntmps25
 go_wp2
 go_loopg [7] k (fun kq v7 w' => ∃ (x7_1 : Int), v7 = .int .i64 x7_1 ∧ Aside0 (sets_May.l0 kq l0 l0 (l0.length : Int) x7_1 = some r) ∧ Aside0 (kq ≤ k) ∧ Drawn0 w w')
 case atStart => exact ⟨(0), (by rfl), H', ⟨Nat.le_refl _⟩, by repeat (exact Drawn0.refl _)⟩
 case round =>
  clear H'
  obtain ⟨x7_1, rfl, HA, HK1, ⟨m1, rfl⟩⟩ := hrel
  cases gk with
  | zero => exact absurd HA.out (by simp [sets_May.l0])
  | succ k1 =>
   have H := HA.out
   clear HA
   simp only [sets_May.l0] at H
   by_cases c2 : x7_1 < (l0.length : Int)
   ·rw [if_pos c2] at H
    have c2b0 : decide (x7_1 < (l0.length : Int)) = true := decide_eq_true c2
    clear c2
    by_cases c3 : 0 ≤ x7_1
    ·rw [if_pos c3] at H
     have c3b0 : decide (0 ≤ x7_1) = true := decide_eq_true c3
     clear c3
     by_cases c4 : x7_1 < (l0.length : Int)
     ·rw [if_pos c4] at H
      have c4b0 : decide (x7_1 < (l0.length : Int)) = true := decide_eq_true c4
      clear c4
      by_cases c5 : (rd l0 x7_1) < 0
      ·rw [if_pos c5] at H
       have c5b0 : decide ((rd l0 x7_1) < 0) = true := decide_eq_true c5
       clear c5
       obtain rfl := Option.some.inj H
       have p11 : 0 ≤ (x7_1 : Int) := of_decide_eq_true (by (with_reducible assumption))
       have q11 : x7_1 < (l0.length : Int) := of_decide_eq_true (by (with_reducible assumption))
       obtain ⟨ad11, e11, hx11_0⟩ := Kd.at_int HR0.out x7_1 p11 q11
       cases e11
       replace p11 := eq_true p11
       replace q11 := eq_true q11
       go_wp2
       go_ret
       exact ⟨by rfl, by repeat (first | exact Drawn0.refl _ | apply Drawn0.step)⟩
      ·rw [if_neg c5] at H
       have c5b0 : decide ((rd l0 x7_1) < 0) = false := decide_eq_false c5
       clear c5
       by_cases c6 : (rd l0 x7_1) > x7_1
       ·rw [if_pos c6] at H
        have c6b0 : decide (x7_1 < (rd l0 x7_1)) = true := decide_eq_true c6
        clear c6
        obtain rfl := Option.some.inj H
        have p11 : 0 ≤ (x7_1 : Int) := of_decide_eq_true (by (with_reducible assumption))
        have q11 : x7_1 < (l0.length : Int) := of_decide_eq_true (by (with_reducible assumption))
        obtain ⟨ad11, e11, hx11_0⟩ := Kd.at_int HR0.out x7_1 p11 q11
        cases e11
        replace p11 := eq_true p11
        replace q11 := eq_true q11
        go_wp2
        go_ret
        exact ⟨by rfl, by repeat (first | exact Drawn0.refl _ | apply Drawn0.step)⟩
       ·rw [if_neg c6] at H
        have c6b0 : decide (x7_1 < (rd l0 x7_1)) = false := decide_eq_false c6
        clear c6
        have H' := Aside0.mk H
        clear H
        have p11 : 0 ≤ (x7_1 : Int) := of_decide_eq_true (by (with_reducible assumption))
        have q11 : x7_1 < (l0.length : Int) := of_decide_eq_true (by (with_reducible assumption))
        obtain ⟨ad11, e11, hx11_0⟩ := Kd.at_int HR0.out x7_1 p11 q11
        cases e11
        replace p11 := eq_true p11
        replace q11 := eq_true q11
        go_wp2
        go_roundg k1
        case measure => have := HK1.out; omega
        case rel => exact ⟨(wrap64 (x7_1 + 1)), (by rfl), H', ⟨by have := HK1.out; omega⟩, by repeat (first | exact Drawn0.refl _ | apply Drawn0.step)⟩
     ·rw [if_neg c4] at H
      exact absurd H (by simp)
    ·rw [if_neg c3] at H
     exact absurd H (by simp)
   ·rw [if_neg c2] at H
    have c2b0 : decide (x7_1 < (l0.length : Int)) = false := decide_eq_false c2
    clear c2
    obtain rfl := Option.some.inj H
    go_wp2
    go_ret
    exact ⟨by rfl, by repeat (first | exact Drawn0.refl _ | apply Drawn0.step)⟩

/-! ### sets_Find: function 26 -/
theorem wrap_in {x : Int} (h0 : -9223372036854775808 ≤ x) (h1 : x ≤ 9223372036854775807) : wrap64 x = x := by unfold wrap64; omega
theorem may_loop (p : List Int) (hp : p.length ≤ 9223372036854775807) (d : Nat) : ∀ (k i : Nat), i + d = p.length → d < k → (∀ j, j < i → 0 ≤ p.getD j 0 ∧ p.getD j 0 ≤ (j : Int)) →
  sets_May.l0 k p p (p.length : Int) (i : Int) = some (mayB p) := by
 induction d with
 | zero =>
  intro k i hi hk hj
  obtain ⟨k, rfl⟩ : ∃ m, k = m + 1 := ⟨k - 1, by omega⟩
  simp only [sets_May.l0]
  rw [if_neg (by omega)]
  congr 1
  rw [Bool.eq_iff_iff, decide_eq_true_eq]
  exact ⟨fun h => mayB_of (fun j h' => hj j (by omega)) (by omega), fun h => by have := mayB_len h; omega⟩
 | succ d ih =>
  intro k i hi hk hj
  obtain ⟨k, rfl⟩ : ∃ m, k = m + 1 := ⟨k - 1, by omega⟩
  simp only [sets_May.l0]
  have hr : rd p (i : Int) = p.getD i 0 := by simp [rd]
  rw [if_pos (by omega), if_pos (by omega), if_pos (by omega), hr]
  by_cases h1 : p.getD i 0 < 0
  ·rw [if_pos h1]
   cases hb : mayB p
   ·rfl
   ·have := mayB_at hb i (by omega); omega
  rw [if_neg h1]
  by_cases h2 : p.getD i 0 > (i : Int)
  ·rw [if_pos h2]
   cases hb : mayB p
   ·rfl
   ·have := mayB_at hb i (by omega); omega
  rw [if_neg h2, wrap_in (by omega) (by omega)]
  refine ih k (i + 1) (by omega) (by omega) fun j hj' => ?_
  rcases Nat.lt_or_ge j i with h | h
  ·exact hj j h
  ·obtain rfl : j = i := by omega
   omega
theorem may_some (p : List Int) (hp : p.length ≤ 9223372036854775807) : sets_May.f (p.length + 1) p = some (mayB p) := by
 unfold sets_May.f
 exact may_loop p hp p.length (p.length + 1) 0 (by omega) (by omega) (fun j hj => by omega)
theorem may_calls (A : Option Addr) (c : Nat) (p : List Int) (w : World) (hr : Kd.C (Kd.int .i64) w A p.length p) (hc : p.length ≤ c) :
  Calls Try.prog 25 #[.slice A p.length c] w fun e w' => e = .returned (.bool (mayB p)) ∧ Drawn0 w w' :=
 sets_May.calls _ A c p _ w hr hc (may_some p hr.2.1)

theorem upN_le (p : List Int) (hm : mayB p = true) : ∀ (f i : Nat), i < p.length → upN p f i ≤ i
 | 0, i, _ => Nat.le_refl _
 | f + 1, i, h => by
  have := mayB_at hm i h
  unfold upN
  split
  ·exact Nat.le_refl _
  ·have := upN_le p hm f (p.getD i 0).toNat (by omega)
   omega
theorem upN_fuel (p : List Int) (hm : mayB p = true) : ∀ (f g i : Nat), i < p.length → i ≤ f → i ≤ g → upN p f i = upN p g i
 | 0, g, i, h, hf, hg => by
  obtain rfl : i = 0 := by omega
  have h0 := mayB_at hm 0 h
  cases g with
  | zero => rfl
  | succ g => unfold upN; rw [if_pos (by omega)]
 | f + 1, 0, i, h, hf, hg => by
  obtain rfl : i = 0 := by omega
  have h0 := mayB_at hm 0 h
  unfold upN; rw [if_pos (by omega)]
 | f + 1, g + 1, i, h, hf, hg => by
  have h0 := mayB_at hm i h
  simp only [upN]
  split
  ·rfl
  ·exact upN_fuel p hm f g _ (by omega) (by omega) (by omega)
/-- One step up leads to the same. -/
theorem rootN_step (p : List Int) (hm : mayB p = true) (i : Nat) (hi : i < p.length) : rootN p i = if p.getD i 0 = (i : Int) then i else rootN p (p.getD i 0).toNat := by
 have h0 := mayB_at hm i hi
 unfold rootN
 cases i with
 | zero => rw [if_pos (by omega)]; rfl
 | succ i =>
  rw [upN]
  split
  ·rfl
  ·exact upN_fuel p hm _ _ _ (by omega) (by omega) (Nat.le_refl _)

def sets_Find.f (_ : Nat) (l0 : List Int) (a1 : Int) : Option Int := some (findS l0 a1)
/-- Not among the sets, or no sets: -1. -/
theorem find_no (A0 : Option Addr) (c0 : Nat) (l0 : List Int) (a1 : Int) (w : World) (hr0 : Kd.C (Kd.int .i64) w A0 l0.length l0) (hc0 : l0.length ≤ c0) (hno : (mayB l0 && inB l0 a1) = false) :
  Calls Try.prog 26 #[.slice A0 l0.length c0, .int .i64 a1] w fun e w' => e = .returned (.int .i64 (-1)) ∧ Drawn0 w w' := by
 have HR0 := Aside0.mk hr0
 have HC0 := Aside0.mk hc0
 clear hr0 hc0
 cases hm : mayB l0 with
 | false =>
  have HM := Aside0.mk hm
  clear hm hno
  go_enter Try.func26, Try.ntmps26
  go_wp2
  refine wp_scope_jumps 0 (fun _ _ => False) (fun _ _ => 0) rfl ?_ (fun _ _ h => h.elim)
  go_wp2_with (go_at_call 25; have mc := may_calls A0 c0 l0 w HR0.out HC0.out; rw [HM.out] at mc; refine mc.mono ?_; rintro e w' ⟨rfl, hd⟩; clear mc)
  simp only [Exit.jump]
  go_ret
  exact ⟨rfl, hd⟩
 | true =>
  have HM := Aside0.mk hm
  have hb : a1 < 0 ∨ (0 ≤ a1 ∧ (l0.length : Int) ≤ a1) := by
   rw [hm, Bool.true_and] at hno
   simp only [inB, Bool.and_eq_false_iff, decide_eq_false_iff_not] at hno
   omega
  clear hm hno
  have HMC := Aside0.mk (fun (w' : World) (hr : Kd.C (Kd.int .i64) w' A0 l0.length l0) => may_calls A0 c0 l0 w' hr HC0.out)
  rcases hb with h1 | ⟨h1, h2⟩
  ·go_enter Try.func26, Try.ntmps26
   go_wp2
   refine wp_scope_jumps 0 (fun _ _ => False) (fun _ _ => 0) rfl ?_ (fun _ _ h => h.elim)
   go_wp2_with (go_at_call 25; have mc := may_calls A0 c0 l0 w HR0.out HC0.out; rw [HM.out] at mc; refine mc.mono ?_; rintro e w' ⟨rfl, hd⟩; clear mc)
   simp only [Exit.jump]
   go_ret
   exact ⟨rfl, hd⟩
  ·go_enter Try.func26, Try.ntmps26
   go_wp2
   refine wp_scope_jumps 0 (fun _ _ => False) (fun _ _ => 0) rfl ?_ (fun _ _ h => h.elim)
   go_wp2_with (go_at_call 25; have mc := may_calls A0 c0 l0 w HR0.out HC0.out; rw [HM.out] at mc; refine mc.mono ?_; rintro e w' ⟨rfl, hd⟩; clear mc)
   simp only [Exit.jump]
   go_ret
   exact ⟨rfl, hd⟩
/-- Upwards: the code behind the label. -/
theorem find_yes (A0 : Option Addr) (c0 : Nat) (l0 : List Int) (i : Nat) (w : World) (hr0 : Kd.C (Kd.int .i64) w A0 l0.length l0) (hc0 : l0.length ≤ c0) (hm : mayB l0 = true) (hi : i < l0.length) :
  Calls Try.prog 26 #[.slice A0 l0.length c0, .int .i64 (i : Int)] w fun e w' => e = .returned (.int .i64 ((rootN l0 i : Nat) : Int)) ∧ Drawn0 w w' := by
 have HR0 := Aside0.mk hr0
 have HC0 := Aside0.mk hc0
 have HM := Aside0.mk hm
 have hmax : l0.length ≤ 400 := mayB_len hm
 clear hr0 hc0 hm
 have h1 : decide (l0.length ≤ i) = false := by simp; omega
 go_enter Try.func26, Try.ntmps26
 go_wp2
 refine wp_scope_jumps 0 (fun a' w' => Drawn0 w w' ∧ ∃ (m : Nat) (x6 x7 x8 x9 x10 x11 x12 x13 x14 x15 x16 x17 x18 x19 x20 x21 x22 x23 x24 x25 x26 x27 x28 : Value), a' = ⟨#[.slice A0 l0.length c0, .int .i64 (m : Int), undef, undef, .int .i64 0, .slice A0 l0.length c0, x6, x7, x8, x9, x10, x11, x12, x13, x14, x15, x16, x17, x18, x19, x20, x21, x22, x23, x24, x25, x26, x27, x28], []⟩ ∧ m < l0.length ∧ rootN l0 m = rootN l0 i) (fun a' _ => (intOf (a'.tmps.getD 1 undef)).toNat) rfl ?_ ?_
 ·go_wp2_with ((go_at_call 25; have mc := may_calls A0 c0 l0 w HR0.out HC0.out; rw [HM.out] at mc; refine mc.mono ?_; rintro e w' ⟨rfl, hd⟩; clear mc))
  go_step3
  have HD := Aside0.mk hd
  clear hd
  obtain ⟨ad, rfl, hc⟩ := Kd.at_int (Kd.C_below HR0.out HD.out.below) (i : Int) (by omega) (by omega)
  rw [Int.toNat_natCast] at hc
  have hb := mayB_at HM.out i (by omega)
  have hst := rootN_step l0 HM.out i (by omega)
  have hrd : rd l0 (i : Int) = l0.getD i 0 := by simp [rd]
  rw [hrd] at hc
  obtain ⟨q, hq⟩ := Int.eq_ofNat_of_zero_le hb.1
  rw [hq] at hc hb hst
  clear hrd hq
  by_cases he : q = i
  ·obtain rfl : i = q := he.symm
   rw [if_pos rfl] at hst
   have HE : Aside0 (rootN l0 i = i) := ⟨hst⟩
   clear hst
   go_wp2
   simp only [Exit.jump]
   go_ret
   exact ⟨by rw [HE.out]; rfl, HD.out⟩
  ·rw [if_neg (by omega), Int.toNat_natCast] at hst
   have HN : Aside0 (rootN l0 q = rootN l0 i) := ⟨hst.symm⟩
   have hq : q < l0.length := by omega
   have hqm : q < i := by omega
   clear hst hb
   have hne : ((q : Int) != (i : Int)) = true := by rw [bne_iff_ne]; omega
   go_wp2
   go_step3
   exact ⟨rfl, HD.out, q, _, _, _, _, _, _, _, _, _, _, _, _, _, _, _, _, _, _, _, _, _, _, _, rfl, hq, HN.out⟩
 ·rintro a' w' ⟨hd, m, x6, x7, x8, x9, x10, x11, x12, x13, x14, x15, x16, x17, x18, x19, x20, x21, x22, x23, x24, x25, x26, x27, x28, rfl, hml, hroot⟩
  have HD := Aside0.mk hd
  have HROOT := Aside0.mk hroot
  clear hd hroot
  obtain ⟨ad, rfl, hc⟩ := Kd.at_int (Kd.C_below HR0.out HD.out.below) (m : Int) (by omega) (by omega)
  rw [Int.toNat_natCast] at hc
  have hb := mayB_at HM.out m (by omega)
  have hst := rootN_step l0 HM.out m (by omega)
  have hrd : rd l0 (m : Int) = l0.getD m 0 := by simp [rd]
  rw [hrd] at hc
  obtain ⟨q, hq⟩ := Int.eq_ofNat_of_zero_le hb.1
  rw [hq] at hc hb hst
  clear hrd hq
  by_cases he : q = m
  ·obtain rfl : m = q := he.symm
   rw [if_pos rfl] at hst
   have HE : Aside0 (rootN l0 i = m) := ⟨HROOT.out.symm.trans hst⟩
   clear hst
   go_wp2
   simp only [Exit.jump]
   go_ret
   exact ⟨by rw [HE.out]; rfl, HD.out⟩
  ·rw [if_neg (by omega), Int.toNat_natCast] at hst
   have HN : Aside0 (rootN l0 q = rootN l0 i) := ⟨hst.symm.trans HROOT.out⟩
   have hq : q < l0.length := by omega
   have hqm : q < m := by omega
   clear hst hb
   have hne : ((q : Int) != (m : Int)) = true := by rw [bne_iff_ne]; omega
   go_wp2
   go_step3
   refine ⟨rfl, ⟨HD.out, q, _, _, _, _, _, _, _, _, _, _, _, _, _, _, _, _, _, _, _, _, _, _, _, rfl, hq, HN.out⟩, ?_⟩
   simp [intOf]; omega
theorem sets_Find.calls (k : Nat) (A0 : Option Addr) (c0 : Nat) (l0 : List Int) (a1 : Int) (r : Int) (w : World) (hr0 : Kd.C (Kd.int .i64) w A0 l0.length l0) (hc0 : l0.length ≤ c0) (h : sets_Find.f k l0 a1 = some r) :
  Calls Try.prog 26 #[.slice A0 l0.length c0, .int .i64 a1] w fun e w' => e = .returned (.int .i64 r) ∧ Drawn0 w w' := by
 obtain rfl := Option.some.inj h
 unfold findS
 split
 ·rename_i hh
  simp only [Bool.and_eq_true, inB, decide_eq_true_eq] at hh
  obtain ⟨i, rfl⟩ := Int.eq_ofNat_of_zero_le hh.2.1
  exact find_yes A0 c0 l0 i w hr0 hc0 hh.1 (by omega)
 ·rename_i hh
  exact find_no A0 c0 l0 a1 w hr0 hc0 (by simpa using hh)

/-! ### slices_Clone_int_int: function 72 -/
def slices_Clone_int_int.f (_ : Nat) (l0 : List Int) : Option (List Int) := if limI l0 = true then some l0 else none
set_option maxHeartbeats 4000000 in
set_option maxRecDepth 100000 in
theorem slices_Clone_int_int.yes (k : Nat) (A0 : Option Addr) (c0 : Nat) (l0 : List Int) (w : World) (hr0 : Kd.C (Kd.int .i64) w A0 l0.length l0) (hc0 : l0.length ≤ c0) (hl : l0.length * 8 ≤ 140737488355328) :
  Calls Try.prog 72 #[.slice A0 l0.length c0] w fun e w' => ∃ v0_ : Value, e = .returned (v0_) ∧ Kd.R (Kd.int .i64) 3 w' w.heap.size (fun _ => True) v0_ l0 ∧ Below w.heap.size w w' := by
 have hn := fun (W : World) (a : Option Addr) (n c : Nat) => Lib.run_eql_slice_nil (P := Try.prog) W 22 3 a n c 0 0 Try.underlying22
 rcases A0 with _ | ad
 ·have h0 : l0 = [] := by
   apply List.eq_nil_of_length_eq_zero
   rcases Nat.eq_zero_or_pos l0.length with h | h
   ·exact h
   ·obtain ⟨ad, ha, _⟩ := hr0.2.2 h
    cases ha
  subst h0
  clear hr0 hc0 hl
  go_enter Try.func72, Try.ntmps72
  go_wp2
  go_ret
  exact ⟨_, rfl, Kd.R_nil _ _ _ _ _, Below.refl _ _⟩
 ·have HR0 := Aside0.mk hr0
  have HL := Aside0.mk hl
  clear hr0 hc0 hl
  go_enter Try.func72, Try.ntmps72
  go_wp2_with (first
   | ((with_reducible refine gate_dst (N := 5) rfl ?_); refine Kd.R_lit (Kd.int .i64) w.heap.size 3 ?hg (N := 5) ?hd (xs := ([] : List Int)) (inner := []) (ok := fun _ => True) (okp := fun _ => True) ?hr (Reps.none _ _) (fun _ h => h) trivial (Below.refl _ _) (Nat.le_refl _) (by simp) ?_; (case hd => rfl); (case hg => rfl); (case hr => first | (go_simp; done) ); intro v1 w1 ho1 hb1 hg1 hat1; have HO1 := Aside0.mk ho1; have HB1 := Aside0.mk hb1; clear ho1 hb1 hg1 hat1)
   | ((with_reducible refine gate_builtin (b := .append) (xs := #[.tmp 5, .tmp 6]) rfl ?_); refine Kd.R_append_rows (Kd.int .i64) (w0 := w) w.heap.size rfl (.tmp 5) (.tmp 6) 22 3 (.int .i64 0) 8 rfl Try.underlying22 info3 rfl (by decide) (by omega) v1 [] l0 _ _ _ (fun _ => True) (fun _ => False) rfl rfl HO1.out (Kd.C_below HR0.out HB1.out) ?hkm (fun _ h => h.elim) (fun _ _ => trivial) HB1.out HB1.out.size (by simpa using HL.out) ?_; (case hkm => exact fun x cs h => h); intro v2 w2 ho2 hb2 hg2 hat2; have HO2 := Aside0.mk ho2; have HB2 := Aside0.mk hb2; clear ho2 hb2 hg2 hat2))
  go_ret
  exact ⟨_, rfl, HO2.out, HB2.out⟩
theorem slices_Clone_int_int.calls (k : Nat) (A0 : Option Addr) (c0 : Nat) (l0 : List Int) (r : List Int) (w : World) (hr0 : Kd.C (Kd.int .i64) w A0 l0.length l0) (hc0 : l0.length ≤ c0) (h : slices_Clone_int_int.f k l0 = some r) :
  Calls Try.prog 72 #[.slice A0 l0.length c0] w fun e w' => ∃ v0_ : Value, e = .returned (v0_) ∧ Kd.R (Kd.int .i64) 3 w' w.heap.size (fun _ => True) v0_ r ∧ Below w.heap.size w w' := by
 unfold slices_Clone_int_int.f at h
 split at h
 ·rename_i hl
  obtain rfl := Option.some.inj h
  simp only [limI, decide_eq_true_eq] at hl
  exact slices_Clone_int_int.yes k A0 c0 l0 w hr0 hc0 hl
 ·cases h

/-! ### sets_Roots: function 33 -/
/-- After k rounds: the first k are told, the others still lead upwards. -/
def midS (l0 : List Int) (k : Nat) : List Int := (List.range l0.length).map fun j => if j < k then ((rootN l0 j : Nat) : Int) else l0.getD j 0
theorem midS_length (l0 : List Int) (k : Nat) : (midS l0 k).length = l0.length := by simp [midS]
theorem midS_at (l0 : List Int) (k j : Nat) (hj : j < l0.length) : (midS l0 k).getD j 0 = if j < k then ((rootN l0 j : Nat) : Int) else l0.getD j 0 := by
 simp [midS, List.getD_eq_getElem?_getD, List.getElem?_map, List.getElem?_range hj]
theorem midS_zero (l0 : List Int) : midS l0 0 = l0 := by
 apply List.ext_getElem
 ·simp [midS]
 ·intro i h1 h2
  simp [midS, List.getD_eq_getElem?_getD, List.getElem?_eq_getElem h2]
theorem midS_all (l0 : List Int) (hm : mayB l0 = true) : midS l0 l0.length = rootsS l0 := by
 unfold midS rootsS
 rw [if_pos hm]
 apply List.map_congr_left
 intro j hj
 rw [if_pos (List.mem_range.1 hj)]
theorem midS_succ (l0 : List Int) (k : Nat) (hk : k < l0.length) : (midS l0 k).set k ((rootN l0 k : Nat) : Int) = midS l0 (k + 1) := by
 apply List.ext_getElem
 ·simp [midS]
 ·intro i h1 h2
  have hi : i < l0.length := by simpa [midS] using h2
  rw [List.getElem_set]
  split
  ·rename_i h; subst h; simp [midS]
  ·rename_i h
   simp only [midS, List.getElem_map, List.getElem_range]
   by_cases h3 : i < k
   ·rw [if_pos h3, if_pos (by omega)]
   ·rw [if_neg h3, if_neg (by omega)]
def sets_Roots.f (_ : Nat) (l0 : List Int) : Option (List Int) := some (rootsS l0)
set_option maxHeartbeats 4000000 in
set_option maxRecDepth 100000 in
theorem roots_no (A0 : Option Addr) (c0 : Nat) (l0 : List Int) (w : World) (hr0 : Kd.C (Kd.int .i64) w A0 l0.length l0) (hc0 : l0.length ≤ c0) (hm : mayB l0 = false) :
  Calls Try.prog 33 #[.slice A0 l0.length c0] w fun e w' => ∃ v0_ : Value, e = .returned (v0_) ∧ Kd.R (Kd.int .i64) 3 w' w.heap.size (fun _ => True) v0_ [] ∧ Below w.heap.size w w' := by
 have HR0 := Aside0.mk hr0
 have HC0 := Aside0.mk hc0
 have HM := Aside0.mk hm
 clear hr0 hc0 hm
 go_enter Try.func33, Try.ntmps33
 go_wp2_with (go_at_call 25; have mc := may_calls A0 c0 l0 w HR0.out HC0.out; rw [HM.out] at mc; refine mc.mono ?_; rintro e w' ⟨rfl, hd⟩; clear mc)
 go_ret
 exact ⟨_, rfl, Kd.R_nil _ _ _ _ _, hd.below⟩
set_option maxHeartbeats 8000000 in
set_option maxRecDepth 100000 in
theorem roots_yes (A0 : Option Addr) (c0 : Nat) (l0 : List Int) (w : World) (hr0 : Kd.C (Kd.int .i64) w A0 l0.length l0) (hc0 : l0.length ≤ c0) (hm : mayB l0 = true) :
  Calls Try.prog 33 #[.slice A0 l0.length c0] w fun e w' => ∃ v0_ : Value, e = .returned (v0_) ∧ Kd.R (Kd.int .i64) 3 w' w.heap.size (fun _ => True) v0_ (rootsS l0) ∧ Below w.heap.size w w' := by
 have hmax := mayB_len hm
 have HR0 := Aside0.mk hr0
 have HC0 := Aside0.mk hc0
 have HM := Aside0.mk hm
 have HF := Aside0.mk (show slices_Clone_int_int.f 0 l0 = some l0 from by unfold slices_Clone_int_int.f limI; rw [if_pos (by rw [decide_eq_true_eq]; omega)])
 clear hr0 hc0 hm
 go_enter Try.func33, Try.ntmps33
 go_wp2_with (first
  | (go_at_call 25; have mc := may_calls A0 c0 l0 w HR0.out HC0.out; rw [HM.out] at mc; refine mc.mono ?_; rintro e w1 ⟨rfl, hd⟩; clear mc; have HD := Aside0.mk hd; clear hd)
  | (go_at_call 72; refine (slices_Clone_int_int.calls 0 A0 c0 l0 l0 _ (Kd.C_below HR0.out HD.out.below) HC0.out HF.out).mono ?_; rintro e w2 ⟨v2, rfl, ho2, hb2⟩; have HO2 := Aside0.mk (Kd.R_lower ho2 HD.out.below.size); have HB2 := Aside0.mk (HD.out.below.trans (hb2.mono HD.out.below.size)); clear ho2 hb2; obtain ⟨A2, c2, e2⟩ := Kd.R_slice HO2.out; subst e2))
 go_loopw [13] (fun i wr => ∃ k : Nat, k ≤ l0.length ∧ i = .int .i64 k ∧ Aside0 (Kd.R (Kd.int .i64) 3 wr w.heap.size (fun _ => True) (.slice A2 l0.length c2) (midS l0 k)) ∧ Aside0 (Below w.heap.size w wr)) (fun i _ => l0.length - (intOf i).toNat)
 case atStart => exact ⟨0, Nat.zero_le _, rfl, ⟨by rw [midS_zero]; exact HO2.out⟩, HB2⟩
 case round =>
  obtain ⟨k, hk, rfl, HO, HB⟩ := hrel
  by_cases hlt : k < l0.length
  ·obtain ⟨g, c3, e3, hgb, hgl, _⟩ := Kd.R_form HO.out (by rw [midS_length]; omega)
   have e4 : A2 = some ⟨g, 0, none⟩ := by injection e3
   subst e4
   clear e3
   have hb := mayB_at HM.out k hlt
   have hst := rootN_step l0 HM.out k hlt
   obtain ⟨q, hq⟩ := Int.eq_ofNat_of_zero_le hb.1
   have hmid := midS_at l0 k k hlt
   rw [if_neg (by omega), hq] at hmid
   rw [hq] at hb hst
   have hq2 : (midS l0 k).getD q 0 = ((rootN l0 k : Nat) : Int) := by
    rw [midS_at l0 k q (by omega)]
    by_cases hqk : q < k
    ·rw [if_pos hqk, hst, if_neg (by omega), Int.toNat_natCast]
    ·obtain rfl : q = k := by omega
     rw [if_neg (by omega), hq, hst, if_pos rfl]
   have hc1 := Kd.R_celln (0 : Int) HO.out (k : Int) (by omega) (by omega)
   have hc2 := Kd.R_celln (0 : Int) HO.out (q : Int) (by omega) (by omega)
   have hql : q < l0.length := by omega
   have hp := Kd.R_putg HO.out (k : Int) ((rootN l0 k : Nat) : Int)
   rw [Int.toNat_natCast, midS_succ l0 k hlt] at hp
   simp only [rdOf, Int.toNat_natCast, hmid, hq2] at hc1 hc2
   obtain ⟨hc1, hf1⟩ := hc1
   obtain ⟨hc2, _⟩ := hc2
   have HP := Aside0.mk hp
   have HS := Aside0.mk (show Below w.heap.size w (wr.setCell ⟨g, k, none⟩ (.int .i64 ((rootN l0 k : Nat) : Int))) from below_set HB.out hgb)
   clear hq hst hmid hq2 hp
   go_wp2
   go_roundw
   case rel => exact ⟨k + 1, by omega, by go_num, ⟨HP.out.1⟩, HS⟩
   case measure => simp [intOf]; omega
  ·obtain rfl : k = l0.length := by omega
   go_wp2
   go_ret
   exact ⟨_, rfl, by rw [← midS_all l0 HM.out]; exact HO.out, HB.out⟩
theorem sets_Roots.calls (k : Nat) (A0 : Option Addr) (c0 : Nat) (l0 : List Int) (r : List Int) (w : World) (hr0 : Kd.C (Kd.int .i64) w A0 l0.length l0) (hc0 : l0.length ≤ c0) (h : sets_Roots.f k l0 = some r) :
  Calls Try.prog 33 #[.slice A0 l0.length c0] w fun e w' => ∃ v0_ : Value, e = .returned (v0_) ∧ Kd.R (Kd.int .i64) 3 w' w.heap.size (fun _ => True) v0_ r ∧ Below w.heap.size w w' := by
 obtain rfl := Option.some.inj h
 cases hm : mayB l0 with
 | true => exact roots_yes A0 c0 l0 w hr0 hc0 hm
 | false =>
  unfold rootsS
  rw [if_neg (by rw [hm]; decide)]
  exact roots_no A0 c0 l0 w hr0 hc0 hm

/-! ### sets_Join: function 24 -/
/-- After k rounds the first k are mapped. -/
def midF (f : Int → Int) (xs : List Int) (k : Nat) : List Int := (List.range xs.length).map fun j => if j < k then f (xs.getD j 0) else xs.getD j 0
theorem midF_length (f : Int → Int) (xs : List Int) (k : Nat) : (midF f xs k).length = xs.length := by simp [midF]
theorem midF_at (f : Int → Int) (xs : List Int) (k j : Nat) (hj : j < xs.length) : (midF f xs k).getD j 0 = if j < k then f (xs.getD j 0) else xs.getD j 0 := by
 simp [midF, List.getD_eq_getElem?_getD, List.getElem?_map, List.getElem?_range hj]
theorem midF_zero (f : Int → Int) (xs : List Int) : midF f xs 0 = xs := by
 apply List.ext_getElem
 ·simp [midF]
 ·intro i h1 h2
  simp [midF, List.getD_eq_getElem?_getD, List.getElem?_eq_getElem h2]
theorem midF_all (f : Int → Int) (xs : List Int) : midF f xs xs.length = xs.map f := by
 apply List.ext_getElem
 ·simp [midF]
 ·intro i h1 h2
  have hi : i < xs.length := by simpa [midF] using h1
  simp [midF, List.getD_eq_getElem?_getD, List.getElem?_eq_getElem hi, hi]
theorem midF_succ (f : Int → Int) (xs : List Int) (k : Nat) (hk : k < xs.length) : (midF f xs k).set k (f (xs.getD k 0)) = midF f xs (k + 1) := by
 apply List.ext_getElem
 ·simp [midF]
 ·intro i h1 h2
  rw [List.getElem_set]
  split
  ·rename_i h; subst h; simp [midF]
  ·rename_i h
   simp only [midF, List.getElem_map, List.getElem_range]
   by_cases h3 : i < k
   ·rw [if_pos h3, if_pos (by omega)]
   ·rw [if_neg h3, if_neg (by omega)]
theorem midF_skip (f : Int → Int) (xs : List Int) (k : Nat) (hk : k < xs.length) (h : f (xs.getD k 0) = xs.getD k 0) : midF f xs k = midF f xs (k + 1) := by
 unfold midF
 apply List.map_congr_left
 intro j hj
 by_cases h3 : j < k
 ·rw [if_pos h3, if_pos (by omega)]
 ·by_cases h4 : j = k
  ·subst h4; rw [if_neg h3, if_pos (by omega), h]
  ·rw [if_neg h3, if_neg (by omega)]
theorem mx_max (a b : Int) : mx a b = max a b := by unfold mx; split <;> omega
theorem mn_min (a b : Int) : mn a b = min a b := by unfold mn; split <;> omega
theorem rootsS_length (p : List Int) (hm : mayB p = true) : (rootsS p).length = p.length := by unfold rootsS; rw [if_pos hm]; simp
theorem findS_nonneg {p : List Int} {a : Int} (h : findS p a ≠ -1) : 0 ≤ findS p a ∧ mayB p = true := by
 unfold findS at h ⊢
 split at h
 ·rename_i hh
  rw [if_pos hh]
  simp only [Bool.and_eq_true] at hh
  exact ⟨by unfold rootZ; omega, hh.1⟩
 ·exact absurd rfl h
def sets_Join.f (_ : Nat) (l0 : List Int) (a1 : Int) (a2 : Int) : Option (List Int × Bool) := if (joinS l0 a1 a2).2 = true then some (joinS l0 a1 a2) else if limI l0 = true then some (l0, false) else none
set_option maxHeartbeats 8000000 in
set_option maxRecDepth 100000 in
theorem join_no (A0 : Option Addr) (c0 : Nat) (l0 : List Int) (a1 a2 : Int) (w : World) (hr0 : Kd.C (Kd.int .i64) w A0 l0.length l0) (hc0 : l0.length ≤ c0) (hl : limI l0 = true) (hno : findS l0 a1 = -1 ∨ (findS l0 a1 ≠ -1 ∧ findS l0 a2 = -1)) :
  Calls Try.prog 24 #[.slice A0 l0.length c0, .int .i64 a1, .int .i64 a2] w fun e w' => ∃ v0_ : Value, e = .returned (.tuple #[v0_, .bool false]) ∧ Kd.R (Kd.int .i64) 3 w' w.heap.size (fun _ => True) v0_ l0 ∧ Below w.heap.size w w' := by
 have HR0 := Aside0.mk hr0
 have HC0 := Aside0.mk hc0
 have HL := Aside0.mk (show slices_Clone_int_int.f 0 l0 = some l0 from by unfold slices_Clone_int_int.f; rw [if_pos hl])
 have HB := Aside0.mk (Below.refl w.heap.size w)
 obtain ⟨φ, hφ⟩ : ∃ φ : Int → Int, φ = findS l0 := ⟨_, rfl⟩
 rw [← hφ] at hno
 have HF := Aside0.mk (fun a : Int => show sets_Find.f 0 l0 a = some (φ a) from by rw [hφ]; rfl)
 clear hr0 hc0 hl hφ
 rcases hno with h | ⟨h1, h⟩
 ·have e1 : (φ a1 == (-1 : Int)) = true := by rw [h]; rfl
  clear h
  go_enter Try.func24, Try.ntmps24
  go_wp2_with (first | (go_at_call 26; refine (sets_Find.calls 0 A0 c0 l0 _ _ _ (Kd.C_below HR0.out HB.out) HC0.out (HF.out _)).mono ?_; rintro e w1 ⟨rfl, hd⟩; have n_ := Aside0.mk (HB.out.trans (hd.below.mono HB.out.size)); clear HB hd; have HB := n_; clear n_) | (go_at_call 72; refine (slices_Clone_int_int.calls 0 A0 c0 l0 l0 _ (Kd.C_below HR0.out HB.out) HC0.out HL.out).mono ?_; rintro e w3 ⟨v3, rfl, ho3, hb3⟩; have HO3 := Aside0.mk (Kd.R_lower ho3 HB.out.size); have HB3 := Aside0.mk (HB.out.trans (hb3.mono HB.out.size)); clear ho3 hb3))
  go_ret2
  exact ⟨_, rfl, HO3.out, HB3.out⟩
 ·have e1 : (φ a1 == (-1 : Int)) = false := by rw [beq_eq_false_iff_ne]; exact h1
  have e2 : (φ a2 == (-1 : Int)) = true := by rw [h]; rfl
  clear h h1
  go_enter Try.func24, Try.ntmps24
  go_wp2_with (first | (go_at_call 26; refine (sets_Find.calls 0 A0 c0 l0 _ _ _ (Kd.C_below HR0.out HB.out) HC0.out (HF.out _)).mono ?_; rintro e w1 ⟨rfl, hd⟩; have n_ := Aside0.mk (HB.out.trans (hd.below.mono HB.out.size)); clear HB hd; have HB := n_; clear n_) | (go_at_call 72; refine (slices_Clone_int_int.calls 0 A0 c0 l0 l0 _ (Kd.C_below HR0.out HB.out) HC0.out HL.out).mono ?_; rintro e w3 ⟨v3, rfl, ho3, hb3⟩; have HO3 := Aside0.mk (Kd.R_lower ho3 HB.out.size); have HB3 := Aside0.mk (HB.out.trans (hb3.mono HB.out.size)); clear ho3 hb3))
  go_ret2
  exact ⟨_, rfl, HO3.out, HB3.out⟩
set_option maxHeartbeats 8000000 in
set_option maxRecDepth 100000 in
theorem join_yes (A0 : Option Addr) (c0 : Nat) (l0 : List Int) (a1 a2 : Int) (w : World) (hr0 : Kd.C (Kd.int .i64) w A0 l0.length l0) (hc0 : l0.length ≤ c0) (h1 : findS l0 a1 ≠ -1) (h2 : findS l0 a2 ≠ -1) :
  Calls Try.prog 24 #[.slice A0 l0.length c0, .int .i64 a1, .int .i64 a2] w fun e w' => ∃ v0_ : Value, e = .returned (.tuple #[v0_, .bool true]) ∧ Kd.R (Kd.int .i64) 3 w' w.heap.size (fun _ => True) v0_ ((rootsS l0).map (fun r => if r = max (findS l0 a1) (findS l0 a2) then min (findS l0 a1) (findS l0 a2) else r)) ∧ Below w.heap.size w w' := by
 have hm := (findS_nonneg h1).2
 have hlen := rootsS_length l0 hm
 have hmax := mayB_len hm
 have HR0 := Aside0.mk hr0
 have HC0 := Aside0.mk hc0
 have HB := Aside0.mk (Below.refl w.heap.size w)
 obtain ⟨φ, hφ⟩ : ∃ φ : Int → Int, φ = findS l0 := ⟨_, rfl⟩
 rw [← hφ] at h1 h2 ⊢
 have HF := Aside0.mk (fun a : Int => show sets_Find.f 0 l0 a = some (φ a) from by rw [hφ]; rfl)
 obtain ⟨R0, hR0⟩ : ∃ R0, R0 = rootsS l0 := ⟨_, rfl⟩
 rw [← hR0] at hlen ⊢
 have HRT := Aside0.mk (show sets_Roots.f 0 l0 = some R0 from by rw [hR0]; rfl)
 obtain ⟨f, hf⟩ : ∃ f : Int → Int, f = fun r => if r = max (φ a1) (φ a2) then min (φ a1) (φ a2) else r := ⟨_, rfl⟩
 rw [← hf]
 have HFF := Aside0.mk hf
 have hR0l : R0.length ≤ 400 := by omega
 have e1 : (φ a1 == (-1 : Int)) = false := by rw [beq_eq_false_iff_ne]; exact h1
 have e2 : (φ a2 == (-1 : Int)) = false := by rw [beq_eq_false_iff_ne]; exact h2
 clear hr0 hc0 hφ h1 h2 hm hR0 hf hlen
 go_enter Try.func24, Try.ntmps24
 go_wp2_with (first | (go_at_call 26; refine (sets_Find.calls 0 A0 c0 l0 _ _ _ (Kd.C_below HR0.out HB.out) HC0.out (HF.out _)).mono ?_; rintro e w1 ⟨rfl, hd⟩; have n_ := Aside0.mk (HB.out.trans (hd.below.mono HB.out.size)); clear HB hd; have HB := n_; clear n_) | (go_at_call 33; refine (sets_Roots.calls 0 A0 c0 l0 R0 _ (Kd.C_below HR0.out HB.out) HC0.out HRT.out).mono ?_; rintro e w3 ⟨v3, rfl, ho3, hb3⟩; have HO3 := Aside0.mk (Kd.R_lower ho3 HB.out.size); have HB3 := Aside0.mk (HB.out.trans (hb3.mono HB.out.size)); clear ho3 hb3; obtain ⟨A2, c2, e3⟩ := Kd.R_slice HO3.out; subst e3))
 go_loopw [31] (fun i wr => ∃ k : Nat, k ≤ R0.length ∧ i = .int .i64 k ∧ Aside0 (Kd.R (Kd.int .i64) 3 wr w.heap.size (fun _ => True) (.slice A2 R0.length c2) (midF f R0 k)) ∧ Aside0 (Below w.heap.size w wr)) (fun i _ => R0.length - (intOf i).toNat)
 case atStart => exact ⟨0, Nat.zero_le _, rfl, ⟨by rw [midF_zero]; exact HO3.out⟩, HB3⟩
 case round =>
  obtain ⟨k, hk, rfl, HO, HBr⟩ := hrel
  by_cases hlt : k < R0.length
  ·obtain ⟨g, c3, e3, hgb, hgl, _⟩ := Kd.R_form HO.out (by rw [midF_length]; omega)
   have e4 : A2 = some ⟨g, 0, none⟩ := by injection e3
   subst e4
   clear e3
   have hc1 := Kd.R_celln (0 : Int) HO.out (k : Int) (by omega) (by omega)
   have hmid := midF_at f R0 k k hlt
   rw [if_neg (by omega)] at hmid
   obtain ⟨r, hr⟩ : ∃ r, r = R0.getD k 0 := ⟨_, rfl⟩
   rw [← hr] at hmid
   simp only [rdOf, Int.toNat_natCast, hmid] at hc1
   obtain ⟨hc1, hf1⟩ := hc1
   by_cases he : r = (if φ a1 < φ a2 then φ a2 else φ a1)
   ·have eb : (r == (if φ a1 < φ a2 then φ a2 else φ a1)) = true := by rw [beq_iff_eq]; exact he
    have hfr : f (R0.getD k 0) = (if φ a2 < φ a1 then φ a2 else φ a1) := by rw [← hr, HFF.out]; simp only; rw [if_pos (by rw [he]; exact mx_max _ _)]; exact (mn_min _ _).symm
    have hp := Kd.R_putg HO.out (k : Int) ((if φ a2 < φ a1 then φ a2 else φ a1))
    rw [Int.toNat_natCast, ← hfr, midF_succ f R0 k hlt, hfr] at hp
    have HP := Aside0.mk hp
    have HS := Aside0.mk (show Below w.heap.size w (wr.setCell ⟨g, k, none⟩ (.int .i64 ((if φ a2 < φ a1 then φ a2 else φ a1)))) from below_set HBr.out hgb)
    clear hr hmid he hfr hp
    go_wp2
    go_roundw
    case rel => exact ⟨k + 1, by omega, by go_num, ⟨HP.out.1⟩, HS⟩
    case measure => simp [intOf]; omega
   ·have eb : (r == (if φ a1 < φ a2 then φ a2 else φ a1)) = false := by rw [beq_eq_false_iff_ne]; exact he
    have hfr : f (R0.getD k 0) = R0.getD k 0 := by rw [← hr, HFF.out]; simp only; rw [if_neg (fun h_ => he (h_.trans (mx_max _ _).symm))]
    have HSK := Aside0.mk (midF_skip f R0 k hlt hfr)
    clear hr hmid he hfr
    go_wp2
    go_roundw
    case rel => exact ⟨k + 1, by omega, by go_num, ⟨by rw [← HSK.out]; exact HO.out⟩, HBr⟩
    case measure => simp [intOf]; omega
  ·obtain rfl : k = R0.length := by omega
   go_wp2
   go_ret2
   exact ⟨_, rfl, by rw [← midF_all f R0]; exact HO.out, HBr.out⟩
theorem sets_Join.calls (k : Nat) (A0 : Option Addr) (c0 : Nat) (l0 : List Int) (a1 : Int) (a2 : Int) (r1 : List Int) (r2 : Bool) (w : World) (hr0 : Kd.C (Kd.int .i64) w A0 l0.length l0) (hc0 : l0.length ≤ c0) (h : sets_Join.f k l0 a1 a2 = some (r1, r2)) :
  Calls Try.prog 24 #[.slice A0 l0.length c0, .int .i64 a1, .int .i64 a2] w fun e w' => ∃ v0_ : Value, e = .returned (.tuple #[v0_, .bool r2]) ∧ Kd.R (Kd.int .i64) 3 w' w.heap.size (fun _ => True) v0_ r1 ∧ Below w.heap.size w w' := by
 unfold sets_Join.f joinS at h
 by_cases h1 : findS l0 a1 = -1
 ·rw [if_pos h1, if_neg (by simp)] at h
  split at h
  ·rename_i hl
   have h := Option.some.inj h
   obtain ⟨rfl, rfl⟩ := Prod.mk.inj h
   exact join_no A0 c0 l0 a1 a2 w hr0 hc0 hl (.inl h1)
  ·cases h
 ·rw [if_neg h1] at h
  by_cases h2 : findS l0 a2 = -1
  ·rw [if_pos h2, if_neg (by simp)] at h
   split at h
   ·rename_i hl
    have h := Option.some.inj h
    obtain ⟨rfl, rfl⟩ := Prod.mk.inj h
    exact join_no A0 c0 l0 a1 a2 w hr0 hc0 hl (.inr ⟨h1, h2⟩)
   ·cases h
  ·rw [if_neg h2, if_pos rfl] at h
   have h := Option.some.inj h
   obtain ⟨rfl, rfl⟩ := Prod.mk.inj h
   exact join_yes A0 c0 l0 a1 a2 w hr0 hc0 h1 h2

/-! ### roadbookref02_Ints: function 27 -/
def roadbookref02_Ints.l0 : Nat → List Int → List Int → Int → Option (Bool)
 | 0, _, _, _ => none
 | k + 1, x0, x1, x5 => if x5 < (x0.length : Int) then (if 0 ≤ x5 then (if x5 < (x1.length : Int) then (if (rd x0 x5) = (rd x1 x5) then (roadbookref02_Ints.l0 k x0 x1 (wrap64 (x5 + 1))) else (some false)) else (none)) else (none)) else (some true)
def roadbookref02_Ints.f (k : Nat) (l0 : List Int) (l1 : List Int) : Option (Bool) := if (l0.length : Int) = (l1.length : Int) then (roadbookref02_Ints.l0 k l0 l1 0) else (some false)
set_option maxHeartbeats 8000000 in
set_option maxRecDepth 100000 in
theorem roadbookref02_Ints.calls (k : Nat) (A0 : Option Addr) (c0 : Nat) (l0 : List Int) (A1 : Option Addr) (c1 : Nat) (l1 : List Int) (r : Bool) (w : World) (hr0 : Kd.C (Kd.int .i64) w A0 l0.length l0) (hc0 : l0.length ≤ c0) (hr1 : Kd.C (Kd.int .i64) w A1 l1.length l1) (hc1 : l1.length ≤ c1) (h : roadbookref02_Ints.f k l0 l1 = some r) :
  Calls Try.prog 27 #[.slice A0 l0.length c0, .slice A1 l1.length c1] w fun e w' => e = .returned (.bool r) ∧ Drawn0 w w' := by
 have HR0 := Aside0.mk hr0
 have HC0 := Aside0.mk hc0
 clear hr0 hc0
 have HR1 := Aside0.mk hr1
 have HC1 := Aside0.mk hc1
 clear hr1 hc1
 have H : (if (l0.length : Int) = (l1.length : Int) then (roadbookref02_Ints.l0 k l0 l1 0) else (some false)) = some r := h
 clear h
 by_cases c3 : (l0.length : Int) = (l1.length : Int)
 ·rw [if_pos c3] at H
  have c3b0 : ((l0.length : Int) == (l1.length : Int)) = true := beq_iff_eq.mpr c3
  have c3b1 : ((l0.length : Int) != (l1.length : Int)) = false := bne_eq_false_iff_eq.mpr c3
  have c3b2 : (l0.length == l1.length) = true := by (simp at c3 ⊢; omega)
  clear c3
  have H' := Aside0.mk H
  clear H
  go_enter Try.func27, Try.ntmps27
  go_wp2
  repeat (go_quiet (fail); try go_wp2)
  go_loopg [5] k (fun kq v5 w' => ∃ (x5_1 : Int), v5 = .int .i64 x5_1 ∧ Aside0 (roadbookref02_Ints.l0 kq l0 l1 x5_1 = some r) ∧ Aside0 (kq ≤ k) ∧ Drawn0 w w')
  case atStart => exact ⟨(0), (by rfl), H', ⟨Nat.le_refl _⟩, by repeat (exact Drawn0.refl _)⟩
  case round =>
   clear H'
   try clear c3b0
   try clear c3b1
   try clear c3b2
   obtain ⟨x5_1, rfl, HA, HK1, ⟨m1, rfl⟩⟩ := hrel
   cases gk with
   | zero => exact absurd HA.out (by simp [roadbookref02_Ints.l0])
   | succ k1 =>
    have H := HA.out
    clear HA
    simp only [roadbookref02_Ints.l0] at H
    by_cases c4 : x5_1 < (l0.length : Int)
    ·rw [if_pos c4] at H
     have c4b0 : decide (x5_1 < (l0.length : Int)) = true := decide_eq_true c4
     clear c4
     by_cases c5 : 0 ≤ x5_1
     ·rw [if_pos c5] at H
      have c5b0 : decide (0 ≤ x5_1) = true := decide_eq_true c5
      clear c5
      by_cases c6 : x5_1 < (l1.length : Int)
      ·rw [if_pos c6] at H
       have c6b0 : decide (x5_1 < (l1.length : Int)) = true := decide_eq_true c6
       clear c6
       by_cases c7 : (rd l0 x5_1) = (rd l1 x5_1)
       ·rw [if_pos c7] at H
        have c7b0 : ((rd l0 x5_1) == (rd l1 x5_1)) = true := beq_iff_eq.mpr c7
        have c7b1 : ((rd l0 x5_1) != (rd l1 x5_1)) = false := bne_eq_false_iff_eq.mpr c7
        clear c7
        have H' := Aside0.mk H
        clear H
        have p11 : 0 ≤ (x5_1 : Int) := of_decide_eq_true (by (with_reducible assumption))
        have q11 : x5_1 < (l0.length : Int) := of_decide_eq_true (by (with_reducible assumption))
        obtain ⟨ad11, e11, hx11_0⟩ := Kd.at_int HR0.out x5_1 p11 q11
        cases e11
        replace p11 := eq_true p11
        replace q11 := eq_true q11
        have p12 : 0 ≤ (x5_1 : Int) := of_decide_eq_true (by (with_reducible assumption))
        have q12 : x5_1 < (l1.length : Int) := of_decide_eq_true (by (with_reducible assumption))
        obtain ⟨ad12, e12, hx12_0⟩ := Kd.at_int HR1.out x5_1 p12 q12
        cases e12
        replace p12 := eq_true p12
        replace q12 := eq_true q12
        go_wp2
        repeat (go_quiet (fail); try go_wp2)
        go_roundg k1
        case measure => have := HK1.out; omega
        case rel => exact ⟨(wrap64 (x5_1 + 1)), (by rfl), H', ⟨by have := HK1.out; omega⟩, by repeat (first | exact Drawn0.refl _ | apply Drawn0.step)⟩
       ·rw [if_neg c7] at H
        have c7b0 : ((rd l0 x5_1) == (rd l1 x5_1)) = false := beq_eq_false_iff_ne.mpr c7
        have c7b1 : ((rd l0 x5_1) != (rd l1 x5_1)) = true := bne_iff_ne.mpr c7
        obtain rfl := Option.some.inj H
        have p11 : 0 ≤ (x5_1 : Int) := of_decide_eq_true (by (with_reducible assumption))
        have q11 : x5_1 < (l0.length : Int) := of_decide_eq_true (by (with_reducible assumption))
        obtain ⟨ad11, e11, hx11_0⟩ := Kd.at_int HR0.out x5_1 p11 q11
        cases e11
        replace p11 := eq_true p11
        replace q11 := eq_true q11
        have p12 : 0 ≤ (x5_1 : Int) := of_decide_eq_true (by (with_reducible assumption))
        have q12 : x5_1 < (l1.length : Int) := of_decide_eq_true (by (with_reducible assumption))
        obtain ⟨ad12, e12, hx12_0⟩ := Kd.at_int HR1.out x5_1 p12 q12
        cases e12
        replace p12 := eq_true p12
        replace q12 := eq_true q12
        go_wp2
        repeat (go_quiet (fail); try go_wp2)
        go_ret
        exact ⟨by rfl, by repeat (first | exact Drawn0.refl _ | apply Drawn0.step)⟩
      ·rw [if_neg c6] at H
       exact absurd H (by simp)
     ·rw [if_neg c5] at H
      exact absurd H (by simp)
    ·rw [if_neg c4] at H
     have c4b0 : decide (x5_1 < (l0.length : Int)) = false := decide_eq_false c4
     clear c4
     obtain rfl := Option.some.inj H
     go_wp2
     repeat (go_quiet (fail); try go_wp2)
     go_ret
     exact ⟨by rfl, by repeat (first | exact Drawn0.refl _ | apply Drawn0.step)⟩
 ·rw [if_neg c3] at H
  have c3b0 : ((l0.length : Int) == (l1.length : Int)) = false := beq_eq_false_iff_ne.mpr c3
  have c3b1 : ((l0.length : Int) != (l1.length : Int)) = true := bne_iff_ne.mpr c3
  have c3b2 : (l0.length == l1.length) = false := by (simp at c3 ⊢; omega)
  obtain rfl := Option.some.inj H
  go_enter Try.func27, Try.ntmps27
  go_wp2
  repeat (go_quiet (fail); try go_wp2)
  go_ret
  exact ⟨by rfl, by repeat (exact Drawn0.refl _)⟩

/-! ### sets_New: function 28 -/
/-! ### slices_Equal_int_int: function 73 -/
def slices_Equal_int_int.l0 : Nat → List Int → List Int → Int → Int → Option (Bool)
 | 0, _, _, _, _ => none
 | k + 1, x0, x1, x12, x13 => if x13 < x12 then (if 0 ≤ x13 then (if x13 < (x0.length : Int) then (if x13 < (x1.length : Int) then (if (rd x0 x13) = (rd x1 x13) then (slices_Equal_int_int.l0 k x0 x1 x12 (wrap64 (x13 + 1))) else (some false)) else (none)) else (none)) else (none)) else (some true)
def slices_Equal_int_int.f (k : Nat) (l0 : List Int) (l1 : List Int) : Option (Bool) := if (l0.length : Int) = (l1.length : Int) then (slices_Equal_int_int.l0 k l0 l1 (l0.length : Int) 0) else (some false)
set_option maxHeartbeats 8000000 in
set_option maxRecDepth 100000 in
theorem slices_Equal_int_int.calls (k : Nat) (A0 : Option Addr) (c0 : Nat) (l0 : List Int) (A1 : Option Addr) (c1 : Nat) (l1 : List Int) (r : Bool) (w : World) (hr0 : Kd.C (Kd.int .i64) w A0 l0.length l0) (hc0 : l0.length ≤ c0) (hr1 : Kd.C (Kd.int .i64) w A1 l1.length l1) (hc1 : l1.length ≤ c1) (h : slices_Equal_int_int.f k l0 l1 = some r) :
  Calls Try.prog 73 #[.slice A0 l0.length c0, .slice A1 l1.length c1] w fun e w' => e = .returned (.bool r) ∧ Drawn0 w w' := by
 have HR0 := Aside0.mk hr0
 have HC0 := Aside0.mk hc0
 clear hr0 hc0
 have HR1 := Aside0.mk hr1
 have HC1 := Aside0.mk hc1
 clear hr1 hc1
 have H : (if (l0.length : Int) = (l1.length : Int) then (slices_Equal_int_int.l0 k l0 l1 (l0.length : Int) 0) else (some false)) = some r := h
 clear h
 by_cases c3 : (l0.length : Int) = (l1.length : Int)
 ·rw [if_pos c3] at H
  have c3b0 : ((l0.length : Int) == (l1.length : Int)) = true := beq_iff_eq.mpr c3
  have c3b1 : ((l0.length : Int) != (l1.length : Int)) = false := bne_eq_false_iff_eq.mpr c3
  have c3b2 : (l0.length == l1.length) = true := by (simp at c3 ⊢; omega)
  clear c3
  have H' := Aside0.mk H
  clear H
  go_enter Try.func73, Try.ntmps73
  go_wp2
  repeat (go_quiet (fail); try go_wp2)
  go_loopg [13] k (fun kq v13 w' => ∃ (x13_1 : Int), v13 = .int .i64 x13_1 ∧ Aside0 (slices_Equal_int_int.l0 kq l0 l1 (l0.length : Int) x13_1 = some r) ∧ Aside0 (kq ≤ k) ∧ Drawn0 w w')
  case atStart => exact ⟨(0), (by rfl), H', ⟨Nat.le_refl _⟩, by repeat (exact Drawn0.refl _)⟩
  case round =>
   clear H'
   try clear c3b0
   try clear c3b1
   try clear c3b2
   obtain ⟨x13_1, rfl, HA, HK1, ⟨m1, rfl⟩⟩ := hrel
   cases gk with
   | zero => exact absurd HA.out (by simp [slices_Equal_int_int.l0])
   | succ k1 =>
    have H := HA.out
    clear HA
    simp only [slices_Equal_int_int.l0] at H
    by_cases c4 : x13_1 < (l0.length : Int)
    ·rw [if_pos c4] at H
     have c4b0 : decide (x13_1 < (l0.length : Int)) = true := decide_eq_true c4
     clear c4
     by_cases c5 : 0 ≤ x13_1
     ·rw [if_pos c5] at H
      have c5b0 : decide (0 ≤ x13_1) = true := decide_eq_true c5
      clear c5
      by_cases c6 : x13_1 < (l0.length : Int)
      ·rw [if_pos c6] at H
       have c6b0 : decide (x13_1 < (l0.length : Int)) = true := decide_eq_true c6
       clear c6
       by_cases c7 : x13_1 < (l1.length : Int)
       ·rw [if_pos c7] at H
        have c7b0 : decide (x13_1 < (l1.length : Int)) = true := decide_eq_true c7
        clear c7
        by_cases c8 : (rd l0 x13_1) = (rd l1 x13_1)
        ·rw [if_pos c8] at H
         have c8b0 : ((rd l0 x13_1) == (rd l1 x13_1)) = true := beq_iff_eq.mpr c8
         have c8b1 : ((rd l0 x13_1) != (rd l1 x13_1)) = false := bne_eq_false_iff_eq.mpr c8
         clear c8
         have H' := Aside0.mk H
         clear H
         have p11 : 0 ≤ (x13_1 : Int) := of_decide_eq_true (by (with_reducible assumption))
         have q11 : x13_1 < (l0.length : Int) := of_decide_eq_true (by (with_reducible assumption))
         obtain ⟨ad11, e11, hx11_0⟩ := Kd.at_int HR0.out x13_1 p11 q11
         cases e11
         replace p11 := eq_true p11
         replace q11 := eq_true q11
         have p12 : 0 ≤ (x13_1 : Int) := of_decide_eq_true (by (with_reducible assumption))
         have q12 : x13_1 < (l1.length : Int) := of_decide_eq_true (by (with_reducible assumption))
         obtain ⟨ad12, e12, hx12_0⟩ := Kd.at_int HR1.out x13_1 p12 q12
         cases e12
         replace p12 := eq_true p12
         replace q12 := eq_true q12
         go_wp2
         repeat (go_quiet (fail); try go_wp2)
         go_roundg k1
         case measure => have := HK1.out; omega
         case rel => exact ⟨(wrap64 (x13_1 + 1)), (by rfl), H', ⟨by have := HK1.out; omega⟩, by repeat (first | exact Drawn0.refl _ | apply Drawn0.step)⟩
        ·rw [if_neg c8] at H
         have c8b0 : ((rd l0 x13_1) == (rd l1 x13_1)) = false := beq_eq_false_iff_ne.mpr c8
         have c8b1 : ((rd l0 x13_1) != (rd l1 x13_1)) = true := bne_iff_ne.mpr c8
         obtain rfl := Option.some.inj H
         have p11 : 0 ≤ (x13_1 : Int) := of_decide_eq_true (by (with_reducible assumption))
         have q11 : x13_1 < (l0.length : Int) := of_decide_eq_true (by (with_reducible assumption))
         obtain ⟨ad11, e11, hx11_0⟩ := Kd.at_int HR0.out x13_1 p11 q11
         cases e11
         replace p11 := eq_true p11
         replace q11 := eq_true q11
         have p12 : 0 ≤ (x13_1 : Int) := of_decide_eq_true (by (with_reducible assumption))
         have q12 : x13_1 < (l1.length : Int) := of_decide_eq_true (by (with_reducible assumption))
         obtain ⟨ad12, e12, hx12_0⟩ := Kd.at_int HR1.out x13_1 p12 q12
         cases e12
         replace p12 := eq_true p12
         replace q12 := eq_true q12
         go_wp2
         repeat (go_quiet (fail); try go_wp2)
         go_ret
         exact ⟨by rfl, by repeat (first | exact Drawn0.refl _ | apply Drawn0.step)⟩
       ·rw [if_neg c7] at H
        exact absurd H (by simp)
      ·rw [if_neg c6] at H
       exact absurd H (by simp)
     ·rw [if_neg c5] at H
      exact absurd H (by simp)
    ·rw [if_neg c4] at H
     have c4b0 : decide (x13_1 < (l0.length : Int)) = false := decide_eq_false c4
     clear c4
     obtain rfl := Option.some.inj H
     go_wp2
     repeat (go_quiet (fail); try go_wp2)
     go_ret
     exact ⟨by rfl, by repeat (first | exact Drawn0.refl _ | apply Drawn0.step)⟩
 ·rw [if_neg c3] at H
  have c3b0 : ((l0.length : Int) == (l1.length : Int)) = false := beq_eq_false_iff_ne.mpr c3
  have c3b1 : ((l0.length : Int) != (l1.length : Int)) = true := bne_iff_ne.mpr c3
  have c3b2 : (l0.length == l1.length) = false := by (simp at c3 ⊢; omega)
  obtain rfl := Option.some.inj H
  go_enter Try.func73, Try.ntmps73
  go_wp2
  repeat (go_quiet (fail); try go_wp2)
  go_ret
  exact ⟨by rfl, by repeat (exact Drawn0.refl _)⟩

/-! ### sets_Same: function 36 -/
def sets_Same.f (k : Nat) (l0 : List Int) (l1 : List Int) : Option (Bool) := (sets_May.f k l0).bind fun t11 => (if t11 = true then ((sets_May.f k l1).bind fun t12 => (if t12 = true then ((sets_Roots.f k l0).bind fun t13 => ((sets_Roots.f k l1).bind fun t16 => ((slices_Equal_int_int.f k t13 t16).bind fun t19 => (some t19)))) else (some false))) else (some false))
set_option maxHeartbeats 8000000 in
set_option maxRecDepth 100000 in
theorem sets_Same.calls (k : Nat) (A0 : Option Addr) (c0 : Nat) (l0 : List Int) (A1 : Option Addr) (c1 : Nat) (l1 : List Int) (r : Bool) (w : World) (hr0 : Kd.C (Kd.int .i64) w A0 l0.length l0) (hc0 : l0.length ≤ c0) (hr1 : Kd.C (Kd.int .i64) w A1 l1.length l1) (hc1 : l1.length ≤ c1) (h : sets_Same.f k l0 l1 = some r) :
  Calls Try.prog 36 #[.slice A0 l0.length c0, .slice A1 l1.length c1] w fun e w' => e = .returned (.bool r) ∧ Below w.heap.size w w' := by
 have HR0 := Aside0.mk hr0
 have HC0 := Aside0.mk hc0
 clear hr0 hc0
 have HR1 := Aside0.mk hr1
 have HC1 := Aside0.mk hc1
 clear hr1 hc1
 have HB := Aside0.mk (Below.refl w.heap.size w)
 have H : ((sets_May.f k l0).bind fun t11 => (if t11 = true then ((sets_May.f k l1).bind fun t12 => (if t12 = true then ((sets_Roots.f k l0).bind fun t13 => ((sets_Roots.f k l1).bind fun t16 => ((slices_Equal_int_int.f k t13 t16).bind fun t19 => (some t19)))) else (some false))) else (some false))) = some r := h
 clear h
 replace H := Option.bind_eq_some_iff.mp H
 obtain ⟨t11, A30, H⟩ := H
 have A3 := Aside0.mk A30
 clear A30
 by_cases c4 : t11 = true
 ·subst c4
  rw [if_pos rfl] at H
  replace H := Option.bind_eq_some_iff.mp H
  obtain ⟨t12, A50, H⟩ := H
  have A5 := Aside0.mk A50
  clear A50
  by_cases c6 : t12 = true
  ·subst c6
   rw [if_pos rfl] at H
   replace H := Option.bind_eq_some_iff.mp H
   obtain ⟨t13, A70, H⟩ := H
   have A7 := Aside0.mk A70
   clear A70
   replace H := Option.bind_eq_some_iff.mp H
   obtain ⟨t16, A80, H⟩ := H
   have A8 := Aside0.mk A80
   clear A80
   replace H := Option.bind_eq_some_iff.mp H
   obtain ⟨t19, A90, H⟩ := H
   have A9 := Aside0.mk A90
   clear A90
   obtain rfl := Option.some.inj H
   go_enter Try.func36, Try.ntmps36
   go_wp2_with (first | ((with_reducible refine gate_callee (f := 25) rfl ?_); refine goesL_ (some 6) rfl rfl Try.func25 (by kernel_rfl) rfl #[.slice A0 l0.length c0] rfl (by (try simp only [List.map_toArray, List.map_cons, List.map_nil]); first | rfl ) ?_; (with_reducible refine (sets_May.calls k _ _ l0 true _ ?side1 ?side2 A3.out).mono ?_); (case side1 => repeat (exact HR0.out)); (case side2 => exact HC0.out); rintro e w' ⟨rfl, ⟨nd, rfl⟩⟩; refine ⟨_, rfl, ?_⟩) | (go_at_call 25; (with_reducible refine (sets_May.calls k _ _ l1 true _ ?side1 ?side2 A5.out).mono ?_); (case side1 => repeat (exact HR1.out)); (case side2 => exact HC1.out); rintro e w' ⟨rfl, ⟨nd, rfl⟩⟩) | (go_at_call 33; (with_reducible refine (sets_Roots.calls k _ _ l0 t13 _ ?side1 ?side2 A7.out).mono ?_); (case side1 => repeat (exact HR0.out)); (case side2 => exact HC0.out); rintro e w10 ⟨v14, rfl, ho0, hb⟩; have HO15 := Aside0.mk (Kd.R_lower ho0 (below_size (by repeat ((with_reducible first | exact HB.out | apply pw_below_drewN ))))); replace HB := Aside0.mk (below_step (by repeat ((with_reducible first | exact HB.out | apply pw_below_drewN ))) hb); (try clear hb); (try clear ho0)) | (go_at_call 33; (with_reducible refine (sets_Roots.calls k _ _ l1 t16 _ ?side1 ?side2 A8.out).mono ?_); (case side1 => repeat (exact (Kd.C_below HR1.out HB.out))); (case side2 => exact HC1.out); rintro e w11 ⟨v17, rfl, ho0, hb⟩; have HO18 := Aside0.mk (Kd.R_lower (Kd.R_new' ho0 (Kd.R_lt (by (with_reducible repeat (first | apply Kd.R_alloc | apply Kd.R_drewN | apply Kd.R_drew)); exact HO15.out))) (below_size (by repeat ((with_reducible first | exact HB.out ))))); replace HO15 := Aside0.mk (Kd.R_elder' (by (with_reducible repeat (first | apply Kd.R_alloc | apply Kd.R_drewN | apply Kd.R_drew)); exact HO15.out) (Kd.R_base ho0) hb); replace HB := Aside0.mk (below_step (by repeat ((with_reducible first | exact HB.out ))) hb); (try clear hb); (try clear ho0); obtain ⟨Ao12, co12, eo12⟩ := Kd.R_slice HO15.out; subst eo12; obtain ⟨Ao13, co13, eo13⟩ := Kd.R_slice HO18.out; subst eo13) | (go_at_call 73; (with_reducible refine (slices_Equal_int_int.calls k _ _ t13 _ _ t16 t19 _ ?side1 ?side2 ?side3 ?side4 A9.out).mono ?_); (case side1 => repeat (exact (Kd.R_reads' HO15.out).2.2)); (case side2 => exact (Kd.R_reads' HO15.out).2.1); (case side3 => repeat (exact (Kd.R_reads' HO18.out).2.2)); (case side4 => exact (Kd.R_reads' HO18.out).2.1); rintro e w' ⟨rfl, ⟨nd, rfl⟩⟩))
   go_ret
   exact ⟨by rfl, by repeat ((with_reducible first | exact HB.out | apply pw_below_drewN ))⟩
  ·replace c6 := Bool.eq_false_iff.mpr c6
   subst c6
   rw [if_neg (show ¬ (false = true) by decide)] at H
   obtain rfl := Option.some.inj H
   go_enter Try.func36, Try.ntmps36
   go_wp2_with (first | ((with_reducible refine gate_callee (f := 25) rfl ?_); refine goesL_ (some 6) rfl rfl Try.func25 (by kernel_rfl) rfl #[.slice A0 l0.length c0] rfl (by (try simp only [List.map_toArray, List.map_cons, List.map_nil]); first | rfl ) ?_; (with_reducible refine (sets_May.calls k _ _ l0 true _ ?side1 ?side2 A3.out).mono ?_); (case side1 => repeat (exact HR0.out)); (case side2 => exact HC0.out); rintro e w' ⟨rfl, ⟨nd, rfl⟩⟩; refine ⟨_, rfl, ?_⟩) | (go_at_call 25; (with_reducible refine (sets_May.calls k _ _ l1 false _ ?side1 ?side2 A5.out).mono ?_); (case side1 => repeat (exact HR1.out)); (case side2 => exact HC1.out); rintro e w' ⟨rfl, ⟨nd, rfl⟩⟩))
   go_ret
   exact ⟨by rfl, by repeat ((with_reducible first | exact HB.out | apply pw_below_drewN ))⟩
 ·replace c4 := Bool.eq_false_iff.mpr c4
  subst c4
  rw [if_neg (show ¬ (false = true) by decide)] at H
  obtain rfl := Option.some.inj H
  go_enter Try.func36, Try.ntmps36
  go_wp2_with (((with_reducible refine gate_callee (f := 25) rfl ?_); refine goesL_ (some 6) rfl rfl Try.func25 (by kernel_rfl) rfl #[.slice A0 l0.length c0] rfl (by (try simp only [List.map_toArray, List.map_cons, List.map_nil]); first | rfl ) ?_; (with_reducible refine (sets_May.calls k _ _ l0 false _ ?side1 ?side2 A3.out).mono ?_); (case side1 => repeat (exact HR0.out)); (case side2 => exact HC0.out); rintro e w' ⟨rfl, ⟨nd, rfl⟩⟩; refine ⟨_, rfl, ?_⟩))
  go_ret
  exact ⟨by rfl, by repeat ((with_reducible first | exact HB.out | apply pw_below_drewN ))⟩

/-! ### api_Node_94: function 94 -/
def api_Node_94.f (_ : Nat) (l0 : List S48) : Option (List S48) := if limN l0 = true then some l0 else none
set_option maxHeartbeats 4000000 in
set_option maxRecDepth 100000 in
theorem api_Node_94.yes (k : Nat) (A0 : Option Addr) (c0 : Nat) (l0 : List S48) (w : World) (hr0 : Kd.C k48 w A0 l0.length l0) (hc0 : l0.length ≤ c0) (hl : l0.length * 32 ≤ 140737488355328) :
  Calls Try.prog 94 #[.slice A0 l0.length c0] w fun e w' => ∃ v0_ : Value, e = .returned (v0_) ∧ Kd.R k48 48 w' w.heap.size (fun _ => True) v0_ l0 ∧ Below w.heap.size w w' := by
 have hn := fun (W : World) (a : Option Addr) (n c : Nat) => Lib.run_eql_slice_nil (P := Try.prog) W 36 48 a n c 0 0 Try.underlying36
 rcases A0 with _ | ad
 ·have h0 : l0 = [] := by
   apply List.eq_nil_of_length_eq_zero
   rcases Nat.eq_zero_or_pos l0.length with h | h
   ·exact h
   ·obtain ⟨ad, ha, _⟩ := hr0.2.2 h
    cases ha
  subst h0
  clear hr0 hc0 hl
  go_enter Try.func94, Try.ntmps94
  go_wp2
  go_ret
  exact ⟨_, rfl, Kd.R_nil _ _ _ _ _, Below.refl _ _⟩
 ·have HR0 := Aside0.mk hr0
  have HL := Aside0.mk hl
  clear hr0 hc0 hl
  go_enter Try.func94, Try.ntmps94
  go_wp2_with (first
   | ((with_reducible refine gate_dst (N := 5) rfl ?_); refine Kd.R_lit k48 w.heap.size 48 ?hg (N := 5) ?hd (xs := ([] : List S48)) (inner := []) (ok := fun _ => True) (okp := fun _ => True) ?hr (Reps.none _ _) (fun _ h => h) trivial (Below.refl _ _) (Nat.le_refl _) (by simp) ?_; (case hd => rfl); (case hg => rfl); (case hr => first | (go_simp; done) ); intro v1 w1 ho1 hb1 hg1 hat1; have HO1 := Aside0.mk ho1; have HB1 := Aside0.mk hb1; clear ho1 hb1 hg1 hat1)
   | ((with_reducible refine gate_builtin (b := .append) (xs := #[.tmp 5, .tmp 6]) rfl ?_); refine Kd.R_append_rows k48 (w0 := w) w.heap.size rfl (.tmp 5) (.tmp 6) 36 48 (.agg #[(.bool false), (.int .i64 0), (.int .i64 0), (.int .i64 0)]) 32 rfl Try.underlying36 info48 rfl (by decide) (by omega) v1 [] l0 _ _ _ (fun _ => True) (fun _ => False) rfl rfl HO1.out (Kd.C_below HR0.out HB1.out) ?hkm (fun _ h => h.elim) (fun _ _ => trivial) HB1.out HB1.out.size (by simpa using HL.out) ?_; (case hkm => exact fun x cs h => by obtain rfl := k48_open h; exact k48_mkM _ _ _ x); intro v2 w2 ho2 hb2 hg2 hat2; have HO2 := Aside0.mk ho2; have HB2 := Aside0.mk hb2; clear ho2 hb2 hg2 hat2))
  go_ret
  exact ⟨_, rfl, HO2.out, HB2.out⟩
theorem api_Node_94.calls (k : Nat) (A0 : Option Addr) (c0 : Nat) (l0 : List S48) (r : List S48) (w : World) (hr0 : Kd.C k48 w A0 l0.length l0) (hc0 : l0.length ≤ c0) (h : api_Node_94.f k l0 = some r) :
  Calls Try.prog 94 #[.slice A0 l0.length c0] w fun e w' => ∃ v0_ : Value, e = .returned (v0_) ∧ Kd.R k48 48 w' w.heap.size (fun _ => True) v0_ r ∧ Below w.heap.size w w' := by
 unfold api_Node_94.f at h
 split at h
 ·rename_i hl
  obtain rfl := Option.some.inj h
  simp only [limN, decide_eq_true_eq] at hl
  exact api_Node_94.yes k A0 c0 l0 w hr0 hc0 hl
 ·cases h

/-! ### api_Node_80: function 80 -/
def api_Node_80.l0 : Nat → List (S48) → List (S48) → Int → Int → Option (Bool)
 | 0, _, _, _, _ => none
 | k + 1, x0, x1, x12, x13 => if x13 < x12 then (if 0 ≤ x13 then (if x13 < (x0.length : Int) then (if x13 < (x1.length : Int) then (if (!(((rd_T48 x0 x13).f0) == ((rd_T48 x1 x13).f0)) || (!(((rd_T48 x0 x13).f1) == ((rd_T48 x1 x13).f1)) || (!(((rd_T48 x0 x13).f2) == ((rd_T48 x1 x13).f2)) || (!(((rd_T48 x0 x13).f3) == ((rd_T48 x1 x13).f3)))))) = true then (some false) else (api_Node_80.l0 k x0 x1 x12 (wrap64 (x13 + 1)))) else (none)) else (none)) else (none)) else (some true)
def api_Node_80.f (k : Nat) (l0 : List (S48)) (l1 : List (S48)) : Option (Bool) := if (l0.length : Int) = (l1.length : Int) then (api_Node_80.l0 k l0 l1 (l0.length : Int) 0) else (some false)
set_option maxHeartbeats 8000000 in
set_option maxRecDepth 100000 in
theorem api_Node_80.calls (k : Nat) (A0 : Option Addr) (c0 : Nat) (l0 : List (S48)) (A1 : Option Addr) (c1 : Nat) (l1 : List (S48)) (r : Bool) (w : World) (hr0 : Kd.C k48 w A0 l0.length l0) (hc0 : l0.length ≤ c0) (hr1 : Kd.C k48 w A1 l1.length l1) (hc1 : l1.length ≤ c1) (h : api_Node_80.f k l0 l1 = some r) :
  Calls Try.prog 80 #[.slice A0 l0.length c0, .slice A1 l1.length c1] w fun e w' => e = .returned (.bool r) ∧ Drawn0 w w' := by
 have hu48 := Try.underlying48
 have HR0 := Aside0.mk hr0
 have HC0 := Aside0.mk hc0
 clear hr0 hc0
 have HR1 := Aside0.mk hr1
 have HC1 := Aside0.mk hc1
 clear hr1 hc1
 have H : (if (l0.length : Int) = (l1.length : Int) then (api_Node_80.l0 k l0 l1 (l0.length : Int) 0) else (some false)) = some r := h
 clear h
 by_cases c3 : (l0.length : Int) = (l1.length : Int)
 ·rw [if_pos c3] at H
  have c3b0 : ((l0.length : Int) == (l1.length : Int)) = true := beq_iff_eq.mpr c3
  have c3b1 : ((l0.length : Int) != (l1.length : Int)) = false := bne_eq_false_iff_eq.mpr c3
  have c3b2 : (l0.length == l1.length) = true := by (simp at c3 ⊢; omega)
  clear c3
  have H' := Aside0.mk H
  clear H
  go_enter Try.func80, Try.ntmps80
  go_wp2
  repeat (go_quiet (fail); try go_wp2)
  go_loopg [13] k (fun kq v13 w' => ∃ (x13_1 : Int), v13 = .int .i64 x13_1 ∧ Aside0 (api_Node_80.l0 kq l0 l1 (l0.length : Int) x13_1 = some r) ∧ Aside0 (kq ≤ k) ∧ Drawn0 w w')
  case atStart => exact ⟨(0), (by rfl), H', ⟨Nat.le_refl _⟩, by repeat (exact Drawn0.refl _)⟩
  case round =>
   clear H'
   try clear c3b0
   try clear c3b1
   try clear c3b2
   obtain ⟨x13_1, rfl, HA, HK1, ⟨m1, rfl⟩⟩ := hrel
   cases gk with
   | zero => exact absurd HA.out (by simp [api_Node_80.l0])
   | succ k1 =>
    have H := HA.out
    clear HA
    simp only [api_Node_80.l0] at H
    by_cases c4 : x13_1 < (l0.length : Int)
    ·rw [if_pos c4] at H
     have c4b0 : decide (x13_1 < (l0.length : Int)) = true := decide_eq_true c4
     clear c4
     by_cases c5 : 0 ≤ x13_1
     ·rw [if_pos c5] at H
      have c5b0 : decide (0 ≤ x13_1) = true := decide_eq_true c5
      clear c5
      by_cases c6 : x13_1 < (l0.length : Int)
      ·rw [if_pos c6] at H
       have c6b0 : decide (x13_1 < (l0.length : Int)) = true := decide_eq_true c6
       clear c6
       by_cases c7 : x13_1 < (l1.length : Int)
       ·rw [if_pos c7] at H
        have c7b0 : decide (x13_1 < (l1.length : Int)) = true := decide_eq_true c7
        clear c7
        by_cases c8 : (!(((rd_T48 l0 x13_1).f0) == ((rd_T48 l1 x13_1).f0)) || (!(((rd_T48 l0 x13_1).f1) == ((rd_T48 l1 x13_1).f1)) || (!(((rd_T48 l0 x13_1).f2) == ((rd_T48 l1 x13_1).f2)) || (!(((rd_T48 l0 x13_1).f3) == ((rd_T48 l1 x13_1).f3)))))) = true
        ·rw [if_pos c8] at H
         have c8b0 : (!(((rd_T48 l0 x13_1).f0) == ((rd_T48 l1 x13_1).f0)) || (!(((rd_T48 l0 x13_1).f1) == ((rd_T48 l1 x13_1).f1)) || (!(((rd_T48 l0 x13_1).f2) == ((rd_T48 l1 x13_1).f2)) || (!(((rd_T48 l0 x13_1).f3) == ((rd_T48 l1 x13_1).f3)))))) = true := c8
         clear c8
         obtain rfl := Option.some.inj H
         have p11 : 0 ≤ (x13_1 : Int) := of_decide_eq_true (by (with_reducible assumption))
         have q11 : x13_1 < (l0.length : Int) := of_decide_eq_true (by (with_reducible assumption))
         obtain ⟨ad11, e11, hx11_0, hx11_1, hx11_2, hx11_3⟩ := at_T48 HR0.out x13_1 p11 q11
         cases e11
         replace p11 := eq_true p11
         replace q11 := eq_true q11
         have p12 : 0 ≤ (x13_1 : Int) := of_decide_eq_true (by (with_reducible assumption))
         have q12 : x13_1 < (l1.length : Int) := of_decide_eq_true (by (with_reducible assumption))
         obtain ⟨ad12, e12, hx12_0, hx12_1, hx12_2, hx12_3⟩ := at_T48 HR1.out x13_1 p12 q12
         cases e12
         replace p12 := eq_true p12
         replace q12 := eq_true q12
         go_wp2
         repeat (go_quiet (fail); try go_wp2)
         go_ret
         exact ⟨by rfl, by repeat (first | exact Drawn0.refl _ | apply Drawn0.step)⟩
        ·rw [if_neg c8] at H
         have c8b0 : (!(((rd_T48 l0 x13_1).f0) == ((rd_T48 l1 x13_1).f0)) || (!(((rd_T48 l0 x13_1).f1) == ((rd_T48 l1 x13_1).f1)) || (!(((rd_T48 l0 x13_1).f2) == ((rd_T48 l1 x13_1).f2)) || (!(((rd_T48 l0 x13_1).f3) == ((rd_T48 l1 x13_1).f3)))))) = false := by simpa using c8
         clear c8
         have H' := Aside0.mk H
         clear H
         have p11 : 0 ≤ (x13_1 : Int) := of_decide_eq_true (by (with_reducible assumption))
         have q11 : x13_1 < (l0.length : Int) := of_decide_eq_true (by (with_reducible assumption))
         obtain ⟨ad11, e11, hx11_0, hx11_1, hx11_2, hx11_3⟩ := at_T48 HR0.out x13_1 p11 q11
         cases e11
         replace p11 := eq_true p11
         replace q11 := eq_true q11
         have p12 : 0 ≤ (x13_1 : Int) := of_decide_eq_true (by (with_reducible assumption))
         have q12 : x13_1 < (l1.length : Int) := of_decide_eq_true (by (with_reducible assumption))
         obtain ⟨ad12, e12, hx12_0, hx12_1, hx12_2, hx12_3⟩ := at_T48 HR1.out x13_1 p12 q12
         cases e12
         replace p12 := eq_true p12
         replace q12 := eq_true q12
         go_wp2
         repeat (go_quiet (fail); try go_wp2)
         go_roundg k1
         case measure => have := HK1.out; omega
         case rel => exact ⟨(wrap64 (x13_1 + 1)), (by rfl), H', ⟨by have := HK1.out; omega⟩, by repeat (first | exact Drawn0.refl _ | apply Drawn0.step)⟩
       ·rw [if_neg c7] at H
        exact absurd H (by simp)
      ·rw [if_neg c6] at H
       exact absurd H (by simp)
     ·rw [if_neg c5] at H
      exact absurd H (by simp)
    ·rw [if_neg c4] at H
     have c4b0 : decide (x13_1 < (l0.length : Int)) = false := decide_eq_false c4
     clear c4
     obtain rfl := Option.some.inj H
     go_wp2
     repeat (go_quiet (fail); try go_wp2)
     go_ret
     exact ⟨by rfl, by repeat (first | exact Drawn0.refl _ | apply Drawn0.step)⟩
 ·rw [if_neg c3] at H
  have c3b0 : ((l0.length : Int) == (l1.length : Int)) = false := beq_eq_false_iff_ne.mpr c3
  have c3b1 : ((l0.length : Int) != (l1.length : Int)) = true := bne_iff_ne.mpr c3
  have c3b2 : (l0.length == l1.length) = false := by (simp at c3 ⊢; omega)
  obtain rfl := Option.some.inj H
  go_enter Try.func80, Try.ntmps80
  go_wp2
  repeat (go_quiet (fail); try go_wp2)
  go_ret
  exact ⟨by rfl, by repeat (exact Drawn0.refl _)⟩

/-! ### api_Event_92: function 92 -/
end Go.Proofs.Ytkidnomkfdnciaa.All
