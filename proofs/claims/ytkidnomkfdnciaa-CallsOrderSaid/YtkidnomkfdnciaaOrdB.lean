/- Order: what is deleted out of a row, in place. -/
import Derived.Test.YtkidnomkfdnciaaAllx26
import Derived.Test.YtkidnomkfdnciaaMv
import Derived.RegionTactic
import Derived.ChangeAlike
import Derived.Lib.Hide
import Derived.Deep.RegionLaw
import Derived.Lib.SliceRun
section
namespace Go.Proofs.Ytkidnomkfdnciaa.All
open Go.RowKit Go.Proofs.YtkidnomkfdnciaaW.PrintWords Go.Proofs.YtkidnomkfdnciaaW.PrintLast Go.Proofs.YtkidnomkfdnciaaW.PrintMore
set_option linter.unusedVariables false
set_option linter.unusedSimpArgs false
def delB (x : S68) : Bool := decide (x.f2 ≠ 1)
set_option maxHeartbeats 4000000 in
set_option maxRecDepth 100000 in
theorem del_calls (W : World) (x : S68) :
    Calls Try.prog 93 #[.agg #[.int .i64 x.f0, .int .i64 x.f1, .int .i64 x.f2]] W fun e w' => e = .returned (.bool (delB x)) ∧ Below W.heap.size W w' := by
  obtain ⟨a, b, c⟩ := x
  unfold delB
  dsimp only
  have hbx : (W.alloc (.cells #[.int .i64 a, .int .i64 b, .int .i64 c] 68)).cell? ⟨W.heap.size, 2, none⟩ = some (.int .i64 c) := (blk_cell (heap_alloc_new W _) 2).trans rfl
  by_cases h : c = 1
  · subst h
    go_enter Try.func93, Try.ntmps93
    go_wp2
    go_ret
    exact ⟨by simp, below_alloc (Below.refl _ _) _⟩
  · have h2 : (c = 1) = False := eq_false h
    have h3 : decide (c ≠ 1) = true := decide_eq_true h
    rw [h3]
    clear h3
    go_enter Try.func93, Try.ntmps93
    go_wp2
    go_ret
    exact ⟨by first | rfl | simp [h], below_alloc (Below.refl _ _) _⟩
set_option maxHeartbeats 8000000 in
set_option maxRecDepth 100000 in
theorem del_index {A : Option Addr} {c : Nat} {l : List S68} {fn : Value} (w : World) (hr : Kd.C k68 w A l.length l) (hc : l.length ≤ c) (hfn : fn = .func (.func 93) #[] #[]) :
    Calls Try.prog 101 #[.slice A l.length c, fn] w fun e w' => e = .returned (.int .i64 (fidxN z68 delB l l.length 0)) ∧ Below w.heap.size w w' := by
  subst hfn
  have hmax := hr.2.1
  have HR := Aside0.mk hr
  obtain ⟨v, hv⟩ : ∃ v, v = fidxN z68 delB l l.length 0 := ⟨_, rfl⟩
  rw [← hv]
  have HV := Aside0.mk hv.symm
  clear hr hc hv
  go_enter Try.func101, Try.ntmps101
  go_wp2
  go_loopw [8] (fun i wr => ∃ k : Nat, k ≤ l.length ∧ i = .int .i64 k ∧ Aside0 (fidxN z68 delB l (l.length - k) k = v) ∧ Aside0 (Below w.heap.size w wr)) (fun i _ => l.length - (intOf i).toNat)
  case atStart => exact ⟨0, Nat.zero_le _, rfl, ⟨HV.out⟩, ⟨Below.refl _ _⟩⟩
  case round =>
    obtain ⟨k, hk, rfl, HI, HB⟩ := hrel
    by_cases hlt : k < l.length
    · obtain ⟨ad, rfl, hc0, hc1, hc2⟩ := at_T68 (Kd.C_below HR.out HB.out) (k : Int) (by omega) (by omega)
      obtain ⟨x, hx⟩ : ∃ x, x = l.getD k z68 := ⟨_, rfl⟩
      have hstep : fidxN z68 delB l (l.length - k) k = if delB x = true then (k : Int) else fidxN z68 delB l (l.length - (k + 1)) (k + 1) := by
        rw [show l.length - k = (l.length - (k + 1)) + 1 by omega, fidxN, ← hx]
      rw [Int.toNat_natCast, show rd_T68 l (k : Int) = x from by rw [hx]; simp [rd_T68]] at hc0 hc1 hc2
      have HCF := Aside0.mk (del_calls wr x)
      rw [HI.out] at hstep
      cases hfx : delB x with
      | true =>
        rw [hfx] at hstep HCF
        rw [if_pos rfl] at hstep
        have HS := Aside0.mk hstep
        clear hstep hfx hx
        go_wp2_with (go_at_call 93; refine HCF.out.mono ?_; rintro e w1 ⟨rfl, hb1⟩; have HB1 := Aside0.mk (below_then HB.out HB.out.size hb1); clear hb1)
        go_ret
        exact ⟨by rw [HS.out]; rfl, HB1.out⟩
      | false =>
        rw [hfx] at hstep HCF
        rw [if_neg (by decide)] at hstep
        have HS := Aside0.mk hstep
        clear hstep hfx hx
        go_wp2_with (go_at_call 93; refine HCF.out.mono ?_; rintro e w1 ⟨rfl, hb1⟩; have HB1 := Aside0.mk (below_then HB.out HB.out.size hb1); clear hb1)
        go_roundw
        case rel => exact ⟨k + 1, by omega, by go_num, ⟨HS.out.symm⟩, HB1⟩
        case measure => simp [intOf]; omega
    · obtain rfl : k = l.length := by omega
      have HE := Aside0.mk (show v = -1 from by rw [← HI.out, Nat.sub_self]; rfl)
      go_wp2
      go_ret
      exact ⟨by rw [HE.out]; rfl, HB.out⟩
end Go.Proofs.Ytkidnomkfdnciaa.All
end
section
namespace Go.Proofs.Ytkidnomkfdnciaa.All
open Go.RowKit Go.Proofs.YtkidnomkfdnciaaW.PrintWords Go.Proofs.YtkidnomkfdnciaaW.PrintLast Go.Proofs.YtkidnomkfdnciaaW.PrintMore
set_option linter.unusedVariables false
set_option linter.unusedSimpArgs false
def keepB (x : S68) : Bool := decide (x.f2 = 1)
theorem del_keep (x : S68) : delB x = !keepB x := by unfold delB keepB; by_cases h : x.f2 = 1 <;> simp [h]
theorem fidx_no {l : List S68} : ∀ (d k : Nat), k + d = l.length → fidxN z68 delB l d k = -1 → ∀ q, k ≤ q → q < l.length → keepB (l.getD q z68) = true
  | 0, k, hk, h, q, h1, h2 => by omega
  | d + 1, k, hk, h, q, h1, h2 => by
    rw [fidxN] at h
    by_cases hd : delB (l.getD k z68) = true
    · rw [if_pos hd] at h; omega
    · rw [if_neg hd] at h
      by_cases e : q = k
      · subst e
        rw [del_keep] at hd
        simpa using hd
      · exact fidx_no d (k + 1) (by omega) h q (by omega) h2
theorem fidx_yes {l : List S68} : ∀ (d k : Nat), k + d = l.length → fidxN z68 delB l d k ≠ -1 → ∃ i : Nat, fidxN z68 delB l d k = (i : Int) ∧ k ≤ i ∧ i < l.length ∧ keepB (l.getD i z68) = false ∧ ∀ q, k ≤ q → q < i → keepB (l.getD q z68) = true
  | 0, k, hk, h => absurd rfl h
  | d + 1, k, hk, h => by
    rw [fidxN] at h ⊢
    by_cases hd : delB (l.getD k z68) = true
    · rw [if_pos hd]
      rw [del_keep] at hd
      exact ⟨k, rfl, Nat.le_refl _, by omega, by simpa using hd, fun q h1 h2 => by omega⟩
    · rw [if_neg hd] at h ⊢
      obtain ⟨i, h1, h2, h3, h4, h5⟩ := fidx_yes d (k + 1) (by omega) h
      refine ⟨i, h1, by omega, h3, h4, fun q h6 h7 => ?_⟩
      by_cases e : q = k
      · subst e
        rw [del_keep] at hd
        simpa using hd
      · exact h5 q (by omega) h7
theorem filter_all {l : List S68} (h : ∀ q, q < l.length → keepB (l.getD q z68) = true) : l.filter keepB = l := by
  refine List.filter_eq_self.2 fun x hx => ?_
  obtain ⟨i, hi, rfl⟩ := List.getElem_of_mem hx
  have := h i hi
  rwa [List.getD_eq_getElem?_getD, List.getElem?_eq_getElem hi] at this
/-- After j: the first i are what is kept of the first j; from j on all is as it was. -/
structure Del (l xs : List S68) (i j : Nat) : Prop where
  len : xs.length = l.length
  lt : i < j
  le : j ≤ l.length
  head : xs.take i = (l.take j).filter keepB
  tail : ∀ q, j ≤ q → q < l.length → xs.getD q z68 = l.getD q z68
theorem take_succ_D {l : List S68} {j : Nat} (h : j < l.length) : l.take (j + 1) = l.take j ++ [l.getD j z68] := by
  rw [List.take_succ_eq_append_getElem h, List.getD_eq_getElem?_getD, List.getElem?_eq_getElem h]; rfl
theorem Del.start {l : List S68} {i : Nat} (hi : i < l.length) (h : keepB (l.getD i z68) = false) (hq : ∀ q, 0 ≤ q → q < i → keepB (l.getD q z68) = true) : Del l l i (i + 1) := by
  refine ⟨rfl, by omega, hi, ?_, fun _ _ _ => rfl⟩
  rw [take_succ_D hi, List.filter_append, List.filter_cons, h]
  have : (l.take i).filter keepB = l.take i := by
    refine filter_all fun q hq' => ?_
    have hqi : q < i := by simp at hq'; omega
    have := hq q (by omega) hqi
    rw [List.getD_eq_getElem?_getD, List.getElem?_take_of_lt hqi, ← List.getD_eq_getElem?_getD]; exact this
  rw [this]; simp
theorem Del.drop {l xs : List S68} {i j : Nat} (d : Del l xs i j) (hj : j < l.length) (h : keepB (l.getD j z68) = false) : Del l xs i (j + 1) := by
  refine ⟨d.len, by have := d.lt; omega, hj, ?_, fun q h1 h2 => d.tail q (by omega) h2⟩
  rw [take_succ_D hj, List.filter_append, List.filter_cons, h, d.head]; simp
theorem Del.keep {l xs : List S68} {i j : Nat} (d : Del l xs i j) (hj : j < l.length) (h : keepB (l.getD j z68) = true) : Del l (xs.set i (l.getD j z68)) (i + 1) (j + 1) := by
  have h1 := d.lt
  have h2 := d.len
  refine ⟨by simp [d.len], by omega, hj, ?_, fun q h3 h4 => ?_⟩
  · rw [take_succ_D hj, List.filter_append, List.filter_cons, h, ← d.head, List.take_succ_eq_append_getElem (by simp; omega), List.take_set_of_le (Nat.le_refl i)]; simp
  · rw [← d.tail q (by omega) h4, List.getD_eq_getElem?_getD, List.getElem?_set_ne (by omega), ← List.getD_eq_getElem?_getD]
/-- What lies behind a row's end is written: the row is as it was. -/
theorem R_tail {α : Type} {d : Kd α} {e : Nat} {W : World} {base : Nat} {ok : Nat → Prop} {g n cap : Nat} {xs : List α} (h : d.R e W base ok (.slice (some ⟨g, 0, none⟩) n cap) xs) (o : Nat) (vs : List Value) (ho : n * d.sz ≤ o) (hc : o + vs.length ≤ cap * d.sz) : d.R e (W.setCells g o vs) base ok (.slice (some ⟨g, 0, none⟩) n cap) xs := by
  obtain ⟨rfl, _⟩ := Kd.R_reads' h
  obtain ⟨h0, inner, hw, hr⟩ := h
  obtain ⟨hl, hw⟩ := hw
  rcases hw with ⟨hv, _⟩ | ⟨g', cap', cur, hv, hb, hh, hnc, hcm, hcs, ht⟩
  · cases hv
  injection hv with ha _ hcc
  injection ha with ha
  injection ha with hg
  subst hg; subst hcc
  obtain ⟨cur', h3, h4, h5⟩ := setCells_row vs o W cur hh (by omega)
  refine ⟨h0, inner, ⟨hl, .inr ⟨g, cap, cur', rfl, hb, h3, hnc, hcm, by omega, ?_⟩⟩, hr.imp_ (fun _ _ hp => d.M_move (fun k hk => ?_) hp)⟩
  · rw [h5, List.append_assoc, List.take_append_of_le_length (by simp; omega), List.take_take, Nat.min_eq_left ho, ht]
  · exact setCells_far vs o k (fun e => hk.2 (by rw [e]; rfl))
theorem R_cells68 {W : World} {base : Nat} {ok : Nat → Prop} {g n cap : Nat} {xs : List S68} (h : Kd.R k68 68 W base ok (.slice (some ⟨g, 0, none⟩) n cap) xs) (i : Nat) (hi : i < n) :
    W.cell? ⟨g, i * 3, none⟩ = some (.int .i64 (xs.getD i z68).f0) ∧ W.cell? ⟨g, i * 3 + 1, none⟩ = some (.int .i64 (xs.getD i z68).f1) ∧ W.cell? ⟨g, i * 3 + 2, none⟩ = some (.int .i64 (xs.getD i z68).f2) ∧ W.frozen? ⟨g, i * 3, none⟩ = false ∧ W.frozen? ⟨g, i * 3 + 1, none⟩ = false ∧ W.frozen? ⟨g, i * 3 + 2, none⟩ = false := by
  obtain ⟨c, hcl, hM, hc, hf⟩ := Kd.R_elem h z68 (i : Int) (by omega) (by omega)
  rw [Int.toNat_natCast] at hM hc hf
  have := k68_openM hM
  subst this
  exact ⟨hc 0 _ rfl, hc 1 _ rfl, hc 2 _ rfl, hf 0, hf 1, hf 2⟩
theorem R_put68 {W : World} {base : Nat} {ok : Nat → Prop} {g n cap : Nat} {xs : List S68} (h : Kd.R k68 68 W base ok (.slice (some ⟨g, 0, none⟩) n cap) xs) (i : Nat) (hi : i < n) (x : S68) :
    Kd.R k68 68 (((W.setCell ⟨g, i * 3, none⟩ (.int .i64 x.f0)).setCell ⟨g, i * 3 + 1, none⟩ (.int .i64 x.f1)).setCell ⟨g, i * 3 + 2, none⟩ (.int .i64 x.f2)) base ok (.slice (some ⟨g, 0, none⟩) n cap) (xs.set i x) := by
  obtain ⟨c, hcl, hM, hc, hf⟩ := Kd.R_elem h z68 (i : Int) (by omega) (by omega)
  have := k68_openM hM
  subst this
  exact (Kd.R_seg h (i : Int) (by omega) (by omega) (seg := [.int .i64 x.f0, .int .i64 x.f1, .int .i64 x.f2]) (j := 0) hcl hc (Nat.le_refl 3) (x' := x) (okp := fun _ => False) (k68_mkM _ _ _ x) (fun _ h => h.elim)).1
theorem R_all68 {W : World} {base : Nat} {ok : Nat → Prop} {g n cap : Nat} {xs : List S68} (h : Kd.R k68 68 W base ok (.slice (some ⟨g, 0, none⟩) n cap) xs) (q : Nat) (hq : q < n * 3) : (W.cell? ⟨g, q, none⟩).isSome = true ∧ W.frozen? ⟨g, q, none⟩ = false := by
  obtain ⟨rfl, _⟩ := Kd.R_reads' h
  obtain ⟨inner, hl, hw⟩ := Kd.R_own h
  rcases hw with ⟨hv, _⟩ | ⟨g', cap', cur, hv, hb, hh, hnc, hcm, hcs, ht⟩
  · cases hv
  injection hv with ha _ hcc
  injection ha with ha
  injection ha with hg
  subst hg; subst hcc
  refine ⟨?_, blk_frozen hh q⟩
  have hcs : cur.size = cap * 3 := hcs
  rw [blk_cell hh q, Array.getElem?_eq_getElem (by omega)]
  rfl
/-- 'clear' on n elements of three whole numbers each. -/
theorem clear68 (w : World) (ty : TypeId) (b o n c : Nat) (hn : 0 < n) (hc : ∀ j, j < n * 3 → (w.cell? ⟨b, o + j, none⟩).isSome = true) (hf : ∀ j, j < n * 3 → w.frozen? ⟨b, o + j, none⟩ = false) :
    (Builtin.clear_ #[63] ty #[.slice (some ⟨b, o, none⟩) n c]).run Try.prog w = .ok (.tuple #[]) (w.setCells b o (List.replicate (n * 3) (.int .i64 0))) := by
  have hv : ∀ w, (zeroValue 68).run Try.prog w = .ok (.agg #[.int .i64 0, .int .i64 0, .int .i64 0]) w := fun w => by kernel_rfl
  have hzc : (Builtin.zeroCells (Value.agg #[.int .i64 0, .int .i64 0, .int .i64 0]).cells n).toList = List.replicate (n * 3) (.int .i64 0) := by
    have : (Value.agg #[.int .i64 0, .int .i64 0, .int .i64 0]).cells = #[.int .i64 0, .int .i64 0, .int .i64 0] := by kernel_rfl
    rw [this]
    apply List.ext_getElem
    · simp [Builtin.zeroCells]
    · intro i h1 h2
      have h3 : i % 3 = 0 ∨ i % 3 = 1 ∨ i % 3 = 2 := by omega
      rcases h3 with h3 | h3 | h3 <;> simp [Builtin.zeroCells, h3]
  have hst := run_storeCells_cells (P := Try.prog) b o (List.replicate (n * 3) (.int .i64 0)) 0 w (by simpa using hc) (by simpa using hf) (by intro v hv'; rw [List.eq_of_mem_replicate hv']; rfl)
  simp only [Nat.add_zero] at hst
  obtain ⟨m, rfl⟩ : ∃ m, n = m + 1 := ⟨n - 1, by omega⟩
  simp [Builtin.clear_, run_underlying Try.underlying63, hv, hzc, hst]
set_option maxHeartbeats 8000000 in
set_option maxRecDepth 100000 in
theorem del_no {w0 w : World} {A : Option Addr} {c : Nat} {l : List S68} {fn : Value} (hr : Kd.R k68 68 w w0.heap.size (fun _ => True) (.slice A l.length c) l) (hb : Below w0.heap.size w0 w) (hfn : fn = .func (.func 93) #[] #[]) (hix : fidxN z68 delB l l.length 0 = -1) :
    Calls Try.prog 91 #[.slice A l.length c, fn] w fun e w' => ∃ v, e = .returned v ∧ Kd.R k68 68 w' w0.heap.size (fun _ => True) v l ∧ Below w0.heap.size w0 w' := by
  have hrr := Kd.R_reads' hr
  have HC := Aside0.mk (del_index w hrr.2.2 hrr.2.1 hfn)
  rw [hix] at HC
  have HR := Aside0.mk hr
  have HB := Aside0.mk hb
  clear hr hrr hb hix hfn
  go_enter Try.func91, Try.ntmps91
  go_wp2_with (go_at_call 101; refine HC.out.mono ?_; rintro e w1 ⟨rfl, hb1⟩; have HB1 := Aside0.mk hb1; clear hb1)
  go_ret
  exact ⟨_, rfl, Kd.R_below HR.out HB1.out, below_then HB.out HB.out.size HB1.out⟩
set_option maxHeartbeats 8000000 in
set_option maxRecDepth 100000 in
theorem del_yes {w0 w : World} {g c : Nat} {l : List S68} {fn : Value} (hr : Kd.R k68 68 w w0.heap.size (fun _ => True) (.slice (some ⟨g, 0, none⟩) l.length c) l) (hb : Below w0.heap.size w0 w) (hfn : fn = .func (.func 93) #[] #[]) {i0 : Nat} (hix : fidxN z68 delB l l.length 0 = (i0 : Int)) (hi0 : i0 < l.length) (hl : l.length ≤ 5864062014805) (hd : Del l l i0 (i0 + 1)) :
    Calls Try.prog 91 #[.slice (some ⟨g, 0, none⟩) l.length c, fn] w fun e w' => ∃ v, e = .returned v ∧ Kd.R k68 68 w' w0.heap.size (fun _ => True) v (l.filter keepB) ∧ Below w0.heap.size w0 w' := by
  have hrr := Kd.R_reads' hr
  have HC := Aside0.mk (del_index w hrr.2.2 hrr.2.1 hfn)
  rw [hix] at HC
  have HR := Aside0.mk hr
  have HB := Aside0.mk hb
  have HD := Aside0.mk hd
  have HLC := Aside0.mk hrr.2.1
  have HG := Aside0.mk (Kd.R_base hr g (by simp [Value.ownBlock]))
  subst hfn
  clear hr hrr hb hix hd
  have hne : ((i0 : Int) == -1) = false := by rw [beq_eq_false_iff_ne]; omega
  go_enter Try.func91, Try.ntmps91
  go_wp2_with (go_at_call 101; refine HC.out.mono ?_; rintro e w1 ⟨rfl, hb1⟩; have HB1 := Aside0.mk hb1; clear hb1)
  go_loopw [5, 6] (fun vi vj wr => ∃ (xs : List S68) (i j : Nat), vi = .int .i64 i ∧ vj = .int .i64 j ∧ Aside0 (Del l xs i j) ∧ Aside0 (Kd.R k68 68 wr w0.heap.size (fun _ => True) (.slice (some ⟨g, 0, none⟩) l.length c) xs) ∧ Aside0 (Below w0.heap.size w0 wr)) (fun _ vj _ => l.length - (intOf vj).toNat)
  case atStart => exact ⟨l, i0, i0 + 1, rfl, by go_num, HD, ⟨Kd.R_below HR.out HB1.out⟩, ⟨below_then HB.out HB.out.size HB1.out⟩⟩
  case round =>
    obtain ⟨xs, i, j, rfl, rfl, HD, HR, HB⟩ := hrel
    have hij := HD.out.lt
    have hjl := HD.out.le
    by_cases hlt : j < l.length
    · obtain ⟨hc0, hc1, hc2, _⟩ := R_cells68 HR.out j hlt
      rw [HD.out.tail j (Nat.le_refl _) hlt] at hc0 hc1 hc2
      obtain ⟨x, hx⟩ : ∃ x, x = l.getD j z68 := ⟨_, rfl⟩
      rw [← hx] at hc0 hc1 hc2
      have HX := Aside0.mk hx
      clear hx
      have HCF := Aside0.mk (fun W => del_calls W x)
      have hbx := heap_alloc_new wr (.cells #[.int .i64 x.f0, .int .i64 x.f1, .int .i64 x.f2] 68)
      have hba : Below wr.heap.size wr (wr.alloc (.cells #[.int .i64 x.f0, .int .i64 x.f1, .int .i64 x.f2] 68)) := below_alloc (Below.refl _ _) _
      have HBX := Aside0.mk hbx
      have HBA := Aside0.mk hba
      rw [del_keep] at HCF
      clear hbx hba
      cases hk : keepB x with
      | true =>
        rw [hk] at HCF
        have hdk := HD.out.keep hlt (by rw [← HX.out]; exact hk)
        rw [← HX.out] at hdk
        have HDK := Aside0.mk hdk
        have HK := Aside0.mk hk
        clear hdk hk
        go_wp2_with (first | (go_at_call 93; refine (HCF.out _).mono ?_; rintro e w2 ⟨rfl, hb2⟩; have HR2 := Aside0.mk (Kd.R_below HR.out (HBA.out.trans (hb2.mono HBA.out.size))); have HB2 := Aside0.mk (below_then HB.out HB.out.size (HBA.out.trans (hb2.mono HBA.out.size))); have hbx2 := (hb2.block _ (blk_lt HBX.out)).trans HBX.out; have hv0 : w2.cell? ⟨wr.heap.size, 0, none⟩ = some (.int .i64 x.f0) := (blk_cell hbx2 0).trans rfl; have hv1 : w2.cell? ⟨wr.heap.size, 1, none⟩ = some (.int .i64 x.f1) := (blk_cell hbx2 1).trans rfl; have hv2 : w2.cell? ⟨wr.heap.size, 2, none⟩ = some (.int .i64 x.f2) := (blk_cell hbx2 2).trans rfl; obtain ⟨ht0, ht1, ht2, hf0, hf1, hf2⟩ := R_cells68 HR2.out i (by omega); clear hb2 hbx2))
        go_roundw
        case rel => exact ⟨xs.set i x, i + 1, j + 1, by go_num, by go_num, HDK, ⟨R_put68 HR2.out i (by omega) x⟩, ⟨below_set (below_set (below_set HB2.out HG.out) HG.out) HG.out⟩⟩
        case measure => simp [intOf]; omega
      | false =>
        rw [hk] at HCF
        have hdk := HD.out.drop hlt (by rw [← HX.out]; exact hk)
        have HDK := Aside0.mk hdk
        clear hdk hk
        go_wp2_with (go_at_call 93; refine (HCF.out _).mono ?_; rintro e w2 ⟨rfl, hb2⟩; have HR2 := Aside0.mk (Kd.R_below HR.out (HBA.out.trans (hb2.mono HBA.out.size))); have HB2 := Aside0.mk (below_then HB.out HB.out.size (HBA.out.trans (hb2.mono HBA.out.size))); clear hb2)
        go_roundw
        case rel => exact ⟨xs, i, j + 1, rfl, by go_num, HDK, HR2, HB2⟩
        case measure => simp [intOf]; omega
    · obtain rfl : j = l.length := by omega
      have hil : i < l.length := hij
      have hcap := HLC.out
      have hcl : ∀ ty, (Builtin.clear_ #[63] ty #[.slice (some ⟨g, i * 3, none⟩) (l.length - i) (c - i)]).run Try.prog wr = .ok (.tuple #[]) (wr.setCells g (i * 3) (List.replicate ((l.length - i) * 3) (.int .i64 0))) := fun ty => clear68 wr ty g (i * 3) (l.length - i) (c - i) (by omega) (fun q hq => (R_all68 HR.out (i * 3 + q) (by omega)).1) (fun q hq => (R_all68 HR.out (i * 3 + q) (by omega)).2)
      have HN := Aside0.mk (Kd.R_mono (R_tail (Kd.R_take HR.out (m := i) (by rw [HD.out.len]; omega)) (i * 3) (List.replicate ((l.length - i) * 3) (.int .i64 0)) (Nat.le_refl _) (by rw [List.length_replicate]; show _ ≤ c * 3; omega)) (fun _ _ => trivial))
      have HF := Aside0.mk (show xs.take i = l.filter keepB by rw [HD.out.head, List.take_length])
      have HS := Aside0.mk (show Below w0.heap.size w0 (wr.setCells g (i * 3) (List.replicate ((l.length - i) * 3) (.int .i64 0))) by
        obtain ⟨s1, s2, s3, s4⟩ := setCells_same g (List.replicate ((l.length - i) * 3) (.int .i64 0)) (i * 3) wr
        exact ⟨s1.trans HB.out.os, s2.trans HB.out.tape, s3.trans HB.out.output, by rw [s4]; exact HB.out.size, fun k hk => (setCells_far _ _ k (Nat.ne_of_lt (Nat.lt_of_lt_of_le hk HG.out))).trans (HB.out.block k hk)⟩)
      go_wp2
      go_ret
      exact ⟨_, rfl, by rw [← HF.out]; exact HN.out, HS.out⟩
end Go.Proofs.Ytkidnomkfdnciaa.All
end
