/- Functions of the program as plain Lean functions, and proofs that the calls do what these say; written for this claim by a program of the session (wip/tools/mkprint.py), checked by Lean. -/
import Derived.Test.YtkidnomkfdnciaaOrdB
import Derived.Test.YtkidnomkfdnciaaAllx0
import Derived.Test.YtkidnomkfdnciaaAllx4
import Derived.Test.YtkidnomkfdnciaaAllx9
namespace Go.Proofs.Ytkidnomkfdnciaa.All
open Go.RowKit Go.Proofs.YtkidnomkfdnciaaW.PrintWords Go.Proofs.YtkidnomkfdnciaaW.PrintLast Go.Proofs.YtkidnomkfdnciaaW.PrintMore
attribute [local go_sem] max2_int min2_int max_two min_two max_three min_three max_four min_four   -- for this text's walks alone
set_option linter.unusedVariables false
set_option linter.unusedSimpArgs false

/-! ### calls_Order: function 70 -/
def calls_Order.f (_ : Nat) (l : List S68) : Option (List S68) := if limE l = true then some (l.filter fun x => decide (x.f2 = 1)) else none
theorem Order_del {w0 w : World} {A : Option Addr} {c : Nat} {l : List S68} (hr : Kd.R k68 68 w w0.heap.size (fun _ => True) (.slice A l.length c) l) (hb : Below w0.heap.size w0 w) (hl : l.length ≤ 5864062014805) :
    Calls Try.prog 91 #[.slice A l.length c, .func (.func 93) #[] #[]] w fun e w' => ∃ v, e = .returned v ∧ Kd.R k68 68 w' w0.heap.size (fun _ => True) v (l.filter keepB) ∧ Below w0.heap.size w0 w' := by
  by_cases h : fidxN z68 delB l l.length 0 = -1
  · have hf : l.filter keepB = l := filter_all (fun q hq => fidx_no l.length 0 (by omega) h q (by omega) hq)
    rw [hf]
    exact del_no hr hb rfl h
  · obtain ⟨i, h1, h2, h3, h4, h5⟩ := fidx_yes l.length 0 (by omega) h
    obtain ⟨g, c', e, _⟩ := Kd.R_form hr (by omega)
    injection e with e1 _ e2
    subst e1; subst e2
    exact del_yes hr hb rfl h1 h3 hl (Del.start h3 h4 h5)
set_option maxHeartbeats 4000000 in
set_option maxRecDepth 100000 in
theorem calls_Order.calls (k : Nat) (A0 : Option Addr) (c0 : Nat) (l0 : List (S68)) (r : List (S68)) (w : World) (hr0 : Kd.C k68 w A0 l0.length l0) (hc0 : l0.length ≤ c0) (h : calls_Order.f k l0 = some r) :
    Calls Try.prog 70 #[.slice A0 l0.length c0] w fun e w' => ∃ v0_ : Value, e = .returned (v0_) ∧ Kd.R k68 68 w' w.heap.size (fun _ => True) v0_ r ∧ Below w.heap.size w w' := by
  unfold calls_Order.f at h
  by_cases hl : limE l0 = true
  · rw [if_pos hl] at h
    obtain rfl := Option.some.inj h
    have hll : l0.length ≤ 5864062014805 := by unfold limE at hl; have := of_decide_eq_true hl; omega
    have HE := Aside0.mk (api_Event_92.calls 0 A0 c0 l0 l0 w hr0 hc0 (by unfold api_Event_92.f; rw [if_pos hl]))
    have HD := Aside0.mk (fun (W : World) (A : Option Addr) (c : Nat) (hr : Kd.R k68 68 W w.heap.size (fun _ => True) (.slice A l0.length c) l0) (hb : Below w.heap.size w W) => Order_del hr hb hll)
    clear hr0 hc0 h hl hll
    go_enter Try.func70, Try.ntmps70
    go_wp2_with (first | (go_at_call 92; refine HE.out.mono ?_; rintro e w1 ⟨v1, rfl, ho1, hb1⟩; have HO1 := Aside0.mk ho1; have HB1 := Aside0.mk hb1; clear ho1 hb1; obtain ⟨A1, c1, e1⟩ := Kd.R_slice HO1.out; subst e1) | (go_at_call 91; refine (HD.out _ _ _ HO1.out HB1.out).mono ?_; rintro e w2 ⟨v2, rfl, ho2, hb2⟩; have HO2 := Aside0.mk ho2; have HB2 := Aside0.mk hb2; clear ho2 hb2))
    go_ret
    exact ⟨_, rfl, HO2.out, HB2.out⟩
  · rw [if_neg hl] at h; cases h

end Go.Proofs.Ytkidnomkfdnciaa.All
