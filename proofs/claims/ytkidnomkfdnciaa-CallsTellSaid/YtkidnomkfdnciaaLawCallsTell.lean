/- Any call is done, any calls one behind the other, and those of several at once, as the document says: for all memos, calls, lists of calls and scripts. No further condition. -/
import Derived.Test.YtkidnomkfdnciaaRows
import Derived.Test.YtkidnomkfdnciaaR20G
import Derived.Test.YtkidnomkfdnciaaOpen
import Derived.Test.YtkidnomkfdnciaaEnter
import Derived.Test.YtkidnomkfdnciaaPureCallsTell
import Derived.WalkKit
import Derived.ProofKit
import Derived.OpenShut
import Derived.ShutString
import Derived.ChangeOld
import Derived.Below
import Derived.SizedLaws
namespace Go.Proofs.Ytkidnomkfdnciaa.callsTell
open Go.ChangeShapes Go.WideShapes Go.ChangeAt Go.RowKit Go.Proofs.Ytkidnomkfdnciaa.All Go.Proofs.YtkidnomkfdnciaaW.PrintWords
set_option linter.unusedVariables false
theorem own : ownKnob Try.prog.godebug = none := by kernel_rfl
theorem laidOut : laidOutB Try.prog = true := by kernel_rfl
set_option maxRecDepth 100000 in
theorem lifted (os : Os) (started : os.Started) (H : Type) (enc : TypeId × Value → H) :
  ReturnsInHanded {} Try.checked os 21 .any (Rows.callsTellSpec.pre6 enc Try.prog Try.f21 Rows.callsTellRow.domain false) (Rows.callsTellSpec.post enc Try.prog Try.f21 false true false false) := by
 refine returnsInHanded_of_change_sized (C := Try.checked) own started (by as_aux_lemma => kernel_rfl) Try.func21
  (ChangeSpec.witness6 (enc := enc) (C := Try.checked) false ⟨#[], #[.agg #[.slice none 0 0, .slice none 0 0, .slice none 0 0], .agg #[.int .i64 0, .bool false, .int .i64 0, .int .i64 0, .int .i64 0, .int .i64 0, .int .i64 0], .slice none 0 0, .slice none 0 0], []⟩ 8 (by as_aux_lemma => kernel_rfl) (by as_aux_lemma => kernel_rfl) (by as_aux_lemma => kernel_rfl) (by as_aux_lemma => kernel_rfl)) ?_
 intro W base args ds gs before hval0 hW hcnd hsz0 _
 have hsz : (DataW.weightsEach Try.prog (Try.f21.params.toList ++ Rows.callsTellSpec.plain.varTypes Try.prog) (ds ++ gs)).all (· ≤ reachBytes) = true := hsz0
 have hval : ∀ (j : Nat) t v, Try.f21.params[j]? = some t → args[j]? = some v → Value.okWide Try.prog W .any base t v := hval0
 have hW' := hW
 obtain ⟨p, q, hA0, hV, rfl, hfz, hnd⟩ := hW
 have hA : DataW.TrodAll enc Try.prog W 0 (fun _ => true) true Try.f21.params.toList args.toList ds p := hA0
 rw [Try.params21] at hA hval hsz
 obtain ⟨v0, vs0, d0, ds0, p0, q0, hargs, rfl, rfl, h0, r0⟩ := trodAll_cons hA
 obtain ⟨v1, vs1, d1, ds1, p1, q1, rfl, rfl, rfl, h1, r1⟩ := trodAll_cons r0
 obtain ⟨v2, vs2, d2, ds2, p2, q2, rfl, rfl, rfl, h2, r2⟩ := trodAll_cons r1
 obtain ⟨v3, vs3, d3, ds3, p3, q3, rfl, rfl, rfl, h3, r3⟩ := trodAll_cons r2
 obtain ⟨rfl, rfl, rfl⟩ := trodAll_nil r3
 obtain rfl : args = #[v0, v1, v2, v3] := by cases args; simp_all
 obtain ⟨rfl, rfl⟩ := trodVars_none hV
 have k0 := h0
 have lt0 : ∀ x ∈ p0, x.block < W.heap.size := by obtain ⟨m, hm⟩ := k0; exact DataW.trod_lt m _ _ _ hm
 obtain ⟨A0, c0, N0, B0, d0', G0, C0, e0', P0, rfl, x0, y0, z0, X0, Y0, Z0, L0⟩ := open_memo (hval 0 38 v0 rfl rfl) h0
 have L0 := L0 (weights_le hsz (j := 0) rfl rfl)
 have k1 := h1
 have lt1 : ∀ x ∈ p1, x.block < W.heap.size := by obtain ⟨m, hm⟩ := k1; exact DataW.trod_lt m _ _ _ hm
 obtain ⟨n1, rfl⟩ := open_callv (hval 1 76 v1 rfl rfl) h1
 have k2 := h2
 have lt2 : ∀ x ∈ p2, x.block < W.heap.size := by obtain ⟨m, hm⟩ := k2; exact DataW.trod_lt m _ _ _ hm
 obtain ⟨A2, c2, l2, rfl, x2, X2, _⟩ := open_rowv Try.underlying60 cells66 (opens_slice Try.underlying66 cells76 opens_call 76) (hval 2 60 v2 rfl rfl) h2
 have k3 := h3
 have lt3 : ∀ x ∈ p3, x.block < W.heap.size := by obtain ⟨m, hm⟩ := k3; exact DataW.trod_lt m _ _ _ hm
 obtain ⟨A3, c3, l3, rfl, x3, X3, L3⟩ := open_rowv Try.underlying22 cells3 (opens_int Try.underlying3) (hval 3 22 v3 rfl rfl) h3
 have L3 := L3 (weights_le hsz (j := 3) rfl rfl)
 rw [bytes3] at L3
 clear hA0 hval0 hsz0 hsz
 obtain ⟨k, hk⟩ := Pure.CallsTell N0 G0 P0 ⟨L0.1, L0.2.1, L0.2.2⟩ n1 l2 X2.2.1 l3 L3
 refine (roadbooklaw20_CallsTell.calls k A0 c0 N0 B0 d0' G0 C0 e0' P0 n1.f0 n1.f1.f0 n1.f1.f1 n1.f1.f2 n1.f1.f3 n1.f2 n1.f3 A2 c2 l2 A3 c3 l3 true W X0 x0 Y0 y0 Z0 z0 X2 x2 X3 x3 rfl hk).mono fun e W' ⟨he, bel⟩ => ?_
 subst he
 exact ⟨_, rfl, _, _, _, [], _, [], hW', trodAll_mk1 (shut_bool Try.underlying4 _), (trodAll_cons_mk (Below.trod laidOut (by as_aux_lemma => kernel_rfl) (of_decide_eq_true (by as_aux_lemma => kernel_rfl)) k0 bel lt0) (trodAll_cons_mk (Below.trod laidOut (by as_aux_lemma => kernel_rfl) (of_decide_eq_true (by as_aux_lemma => kernel_rfl)) k1 bel lt1) (trodAll_cons_mk (Below.trod laidOut (by as_aux_lemma => kernel_rfl) (of_decide_eq_true (by as_aux_lemma => kernel_rfl)) k2 bel lt2) (trodAll_cons_mk (Below.trod laidOut (by as_aux_lemma => kernel_rfl) (of_decide_eq_true (by as_aux_lemma => kernel_rfl)) k3 bel lt3) trodAll_mk0)))), rfl, bel.frame _, fun h => by cases h⟩
theorem closed : joinedFacts Try.prog 21 Try.f21 Rows.callsTellSpec Rows.callsTellRow = true := by
 unfold joinedFacts
 rw [Enter.enter, Enter.make, Enter.lifts]
 kernel_rfl
set_option maxHeartbeats 4000000 in
theorem over : Rows.callsTellRow.holds Try.pinned (OpenSpec.ofChange Rows.callsTellSpec) :=
 OpenClaim.holds_of_wide 21 Try.f21 rfl rfl rfl rfl rfl rfl rfl ⟨rfl, rfl, rfl, rfl, rfl⟩ rfl rfl rfl rfl rfl (by as_aux_lemma => kernel_rfl) Try.func21 closed
  (of_decide_eq_true (by as_aux_lemma => kernel_rfl)) (by as_aux_lemma => (unfold Func.isWrapper; first | (rw [if_pos (by decide +kernel)]; kernel_rfl) | (rw [if_neg (by decide +kernel)]; exact ⟨rfl, rfl⟩)))
  (fun os started H enc _ => lifted os started H enc)
theorem proved : Rows.CallsTellSaid := over
#print axioms proved
end Go.Proofs.Ytkidnomkfdnciaa.callsTell
namespace Go.Proofs.Ytkidnomkfdnciaa
theorem callsTell_holds : Rows.CallsTellSaid := callsTell.proved
end Go.Proofs.Ytkidnomkfdnciaa
