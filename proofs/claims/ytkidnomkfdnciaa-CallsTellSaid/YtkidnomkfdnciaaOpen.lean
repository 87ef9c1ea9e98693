/- What an argument of a row reads as: nodes, calls, memos, slices of these; how long its slices may be. Nothing is proved of the program here but its types. -/
import Derived.Test.YtkidnomkfdnciaaSets2
import Derived.Test.YtkidnomkfdnciaaW
import Derived.ChangeArms
import Derived.OpenShut
import Derived.ProofKit
import Derived.ChangeOld
import Derived.WalkKit
import Derived.DataReads
import Derived.SizedLaws
namespace Go.Proofs.Ytkidnomkfdnciaa.All
open Go.ChangeShapes Go.WideShapes Go.ChangeAt Go.RowKit Go.Proofs.YtkidnomkfdnciaaW.PrintWords
def Opens {α : Type} {H : Type} (enc : TypeId × Value → H) (w : World) (base : Nat) (spare : Nat → Bool) (held : Bool) (t : TypeId) (d : Kd α) : Prop :=
 ∀ fuel cs x, DataW.trod enc Try.prog w base spare held fuel t cs = some x → ∃ y : α, d.K w y cs
section
variable {H : Type} {enc : TypeId × Value → H} {w : World} {base : Nat} {spare : Nat → Bool} {held : Bool}
theorem opens_int {t : TypeId} {k : IntKind} (h : Try.prog.underlying t = some (.int k)) : Opens enc w base spare held t (Kd.int k) := by
 intro fuel cs x hx
 obtain ⟨n, rfl, _, _⟩ := DataW.trod_int h hx
 exact ⟨n, rfl⟩
theorem opens_bool {t : TypeId} (h : Try.prog.underlying t = some .bool) : Opens enc w base spare held t Kd.bool := by
 intro fuel cs x hx
 obtain ⟨b, rfl, _⟩ := DataW.trod_bool h hx
 exact ⟨b, rfl⟩
theorem opens_field {α : Type} {t : TypeId} {d : Kd α} (h : Opens enc w base spare held t d) {n : Nat} {cs : List Value} {xs : List (DataW H × List MemPlace)} {i : Nat} (hi : i < xs.length) (hx : DataW.trod enc Try.prog w base spare held n t cs = xs[i]?) : ∃ y : α, d.K w y cs := by
 rw [List.getElem?_eq_getElem hi] at hx
 exact h n cs _ hx
theorem list4 {α : Type} {l : List α} (h : l.length = 4) : ∃ a b c d, l = [a, b, c, d] := by
 match l, h with
 | [a, b, c, d], _ => exact ⟨a, b, c, d, rfl⟩
theorem list7 {α : Type} {l : List α} (h : l.length = 7) : ∃ a b c d e f g, l = [a, b, c, d, e, f, g] := by
 match l, h with
 | [a, b, c, d, e, f, g], _ => exact ⟨a, b, c, d, e, f, g, rfl⟩
theorem list3 {α : Type} {l : List α} (h : l.length = 3) : ∃ a b c, l = [a, b, c] := by
 match l, h with
 | [a, b, c], _ => exact ⟨a, b, c, rfl⟩
theorem cells48 : Try.prog.cellsOf 48 = 4 := by kernel_rfl
theorem cells76 : Try.prog.cellsOf 76 = 7 := by kernel_rfl
theorem cells3 : Try.prog.cellsOf 3 = 1 := by kernel_rfl
theorem cells4 : Try.prog.cellsOf 4 = 1 := by kernel_rfl
theorem cells22 : Try.prog.cellsOf 22 = 1 := by kernel_rfl
theorem cells36 : Try.prog.cellsOf 36 = 1 := by kernel_rfl
theorem cells66 : Try.prog.cellsOf 66 = 1 := by kernel_rfl
theorem cells38 : Try.prog.cellsOf 38 = 3 := by kernel_rfl
theorem bytes48 : Try.prog.bytesOf 48 = 32 := by kernel_rfl
theorem bytes3 : Try.prog.bytesOf 3 = 8 := by kernel_rfl
theorem opens_node : Opens enc w base spare held 48 k48 := by
 intro fuel cs x hx
 obtain ⟨xs, n, _, _, hl, hxl, hf⟩ := DataW.trod_struct Try.underlying48 hx
 rw [cells48] at hl
 obtain ⟨a, b, c, d, rfl⟩ := list4 hl
 have hxl : xs.length = 4 := hxl
 obtain ⟨y0, h0⟩ := opens_field (opens_bool Try.underlying4) (by omega) (hf 0 _ rfl)
 obtain ⟨y1, h1⟩ := opens_field (opens_int Try.underlying3) (by omega) (hf 1 _ rfl)
 obtain ⟨y2, h2⟩ := opens_field (opens_int Try.underlying3) (by omega) (hf 2 _ rfl)
 obtain ⟨y3, h3⟩ := opens_field (opens_int Try.underlying3) (by omega) (hf 3 _ rfl)
 have h0 : Kd.bool.K w y0 (([a, b, c, d].drop 0).take (Try.prog.cellsOf 4)) := h0
 have h1 : (Kd.int .i64).K w y1 (([a, b, c, d].drop 1).take (Try.prog.cellsOf 3)) := h1
 have h2 : (Kd.int .i64).K w y2 (([a, b, c, d].drop 2).take (Try.prog.cellsOf 3)) := h2
 have h3 : (Kd.int .i64).K w y3 (([a, b, c, d].drop 3).take (Try.prog.cellsOf 3)) := h3
 rw [cells4] at h0
 rw [cells3] at h1 h2 h3
 obtain rfl : a = .bool y0 := by simpa [Kd.bool, Kd.scalar] using h0
 obtain rfl : b = .int .i64 y1 := by simpa [Kd.int, Kd.scalar] using h1
 obtain rfl : c = .int .i64 y2 := by simpa [Kd.int, Kd.scalar] using h2
 obtain rfl : d = .int .i64 y3 := by simpa [Kd.int, Kd.scalar] using h3
 exact ⟨⟨y0, y1, y2, y3⟩, k48_mk _ _⟩
theorem opens_call : Opens enc w base spare held 76 k76 := by
 intro fuel cs x hx
 obtain ⟨xs, n, _, _, hl, hxl, hf⟩ := DataW.trod_struct Try.underlying76 hx
 rw [cells76] at hl
 obtain ⟨a, b, c, d, e, f, g, rfl⟩ := list7 hl
 have hxl : xs.length = 4 := hxl
 obtain ⟨y0, h0⟩ := opens_field (opens_int Try.underlying3) (by omega) (hf 0 _ rfl)
 obtain ⟨y1, h1⟩ := opens_field opens_node (by omega) (hf 1 _ rfl)
 obtain ⟨y2, h2⟩ := opens_field (opens_int Try.underlying3) (by omega) (hf 2 _ rfl)
 obtain ⟨y3, h3⟩ := opens_field (opens_int Try.underlying3) (by omega) (hf 3 _ rfl)
 have h0 : (Kd.int .i64).K w y0 (([a, b, c, d, e, f, g].drop 0).take (Try.prog.cellsOf 3)) := h0
 have h1 : k48.K w y1 (([a, b, c, d, e, f, g].drop 1).take (Try.prog.cellsOf 48)) := h1
 have h2 : (Kd.int .i64).K w y2 (([a, b, c, d, e, f, g].drop 5).take (Try.prog.cellsOf 3)) := h2
 have h3 : (Kd.int .i64).K w y3 (([a, b, c, d, e, f, g].drop 6).take (Try.prog.cellsOf 3)) := h3
 rw [cells48] at h1
 rw [cells3] at h0 h2 h3
 obtain rfl : a = .int .i64 y0 := by simpa [Kd.int, Kd.scalar] using h0
 have h1 := k48_open h1
 simp only [List.drop_succ_cons, List.drop_zero, List.take_succ_cons, List.take_zero, List.cons.injEq, and_true] at h1
 obtain ⟨rfl, rfl, rfl, rfl⟩ := h1
 obtain rfl : f = .int .i64 y2 := by simpa [Kd.int, Kd.scalar] using h2
 obtain rfl : g = .int .i64 y3 := by simpa [Kd.int, Kd.scalar] using h3
 exact ⟨⟨y0, y1, y2, y3⟩, k76_mk _ _⟩
theorem list_of {α : Type} {p : Nat → α → Prop} : ∀ n, (∀ i, i < n → ∃ x, p i x) → ∃ l : List α, l.length = n ∧ ∀ j x, l[j]? = some x → p j x
 | 0, _ => ⟨[], rfl, fun j x h => (by simp at h)⟩
 | n + 1, h => by
  obtain ⟨l, hl, hp⟩ := list_of n (fun i hi => h i (by omega))
  obtain ⟨x, hx⟩ := h n (by omega)
  refine ⟨l ++ [x], by simp [hl], fun j y hj => ?_⟩
  rcases Nat.lt_or_ge j l.length with h1 | h1
  ·rw [List.getElem?_append_left h1] at hj; exact hp j y hj
  ·have h2 := (List.getElem?_eq_some_iff.1 hj).1
   simp at h2
   obtain rfl : j = l.length := by omega
   simp at hj
   subst hj
   rw [hl]; exact hx
theorem addr_add (a : Addr) (i j : Nat) : (a.add i).add j = a.add (i + j) := by
 unfold Addr.add
 by_cases hi : i = 0 <;> by_cases hj : j = 0 <;> simp [hi, hj, Nat.add_assoc]
theorem opens_row {α : Type} {t e : TypeId} {d : Kd α} (ht : Try.prog.underlying t = some (.slice e)) (hs : Try.prog.cellsOf e = d.sz) (h : Opens enc w base spare held e d) {fuel : Nat} {cs : List Value} {x : DataW H × List MemPlace} (hx : DataW.trod enc Try.prog w base spare held fuel t cs = some x) :
  ∃ A c, ∃ l : List α, cs = [.slice A l.length c] ∧ l.length ≤ c ∧ d.C w A l.length l ∧ ((x.1 = .nil ∧ l.length = 0) ∨ ∃ es sp, x.1 = .slice es sp ∧ es.length = l.length) := by
 rcases DataW.trod_slice ht hx with ⟨rfl, rfl⟩ | ⟨a, len, cap, elems, rest, n, _, rfl, rfl, hb, hl, hm, hlen, hel, _⟩
 ·exact ⟨none, 0, [], rfl, Nat.le_refl _, ⟨rfl, Nat.zero_le _, fun h => absurd h (Nat.lt_irrefl _)⟩, .inl ⟨rfl, rfl⟩⟩
 ·obtain ⟨l, hll, hat⟩ := list_of (p := fun i (y : α) => ∃ cs', w.cells? base (a.add (i * Try.prog.cellsOf e)) (Try.prog.cellsOf e) = some cs' ∧ d.K w y cs') len (fun i hi => by
   have he := hel i hi
   rw [List.getElem?_eq_getElem (by omega)] at he
   obtain ⟨cs', h1, h2⟩ := Option.bind_eq_some_iff.1 he
   obtain ⟨y, hy⟩ := h _ _ _ h2
   exact ⟨y, cs', h1, hy⟩)
  subst hll
  refine ⟨some a, cap, l, rfl, hl, ⟨rfl, by unfold maxLen at hm; omega, fun _ => ⟨a, rfl, fun j y hj => ?_⟩⟩, .inr ⟨_, _, rfl, by rw [List.length_map, hlen]⟩⟩
  obtain ⟨cs', h1, h2⟩ := hat j y hj
  obtain ⟨_, hcl, hcell⟩ := World.cells?_some h1
  rw [hs] at hcl hcell
  refine ⟨cs', hcl, h2, fun i u hu => ?_⟩
  have hi := (List.getElem?_eq_some_iff.1 hu).1
  have := hcell i (by omega)
  rw [addr_add] at this
  rw [this, hu]
theorem opens_slice {α : Type} {t e : TypeId} {d : Kd α} (ht : Try.prog.underlying t = some (.slice e)) (hs : Try.prog.cellsOf e = d.sz) (h : Opens enc w base spare held e d) (q : Nat) : Opens enc w base spare held t (Kd.slice q d) := by
 intro fuel cs x hx
 obtain ⟨A, c, l, rfl, hl, hC, _⟩ := opens_row ht hs h hx
 exact ⟨l, A, c, rfl, hl, hC⟩
theorem weight_slice {t e : TypeId} {es sp : List (DataW H)} (ht : Try.prog.underlying t = some (.slice e)) : (es.length + sp.length) * Try.prog.bytesOf e ∈ (DataW.slice es sp).weights Try.prog t := by
 simp [DataW.weights, ht]
theorem row_fits {t e : TypeId} {d : DataW H} {n : Nat} (ht : Try.prog.underlying t = some (.slice e)) (h : (d = .nil ∧ n = 0) ∨ ∃ es sp, d = .slice es sp ∧ es.length = n) (hw : ∀ m ∈ d.weights Try.prog t, m ≤ reachBytes) : n * Try.prog.bytesOf e ≤ 140737488351232 := by
 rcases h with ⟨_, rfl⟩ | ⟨es, sp, rfl, rfl⟩
 ·rw [Nat.zero_mul]; omega
 ·have h1 := hw _ (weight_slice ht)
  have h2 : es.length * Try.prog.bytesOf e ≤ (es.length + sp.length) * Try.prog.bytesOf e := Nat.mul_le_mul_right _ (by omega)
  have h3 : reachBytes = 140737488351232 := by decide
  omega
set_option maxRecDepth 100000 in
theorem open_memo {r : Reach} {b0 : Nat} {v : Value} {d : DataW H} {ps : List MemPlace} (hval : Value.okWide Try.prog w r b0 38 v) (h : DataW.Trod enc Try.prog w base spare held 38 v d ps) :
  ∃ AN cN N AG cG G AP cP P, v = .agg #[.slice AN (N : List S48).length cN, .slice AG (G : List Int).length cG, .slice AP (P : List Int).length cP] ∧ N.length ≤ cN ∧ G.length ≤ cG ∧ P.length ≤ cP ∧ Kd.C k48 w AN N.length N ∧ Kd.C (Kd.int .i64) w AG G.length G ∧ Kd.C (Kd.int .i64) w AP P.length P ∧
   ((∀ m ∈ d.weights Try.prog 38, m ≤ reachBytes) → N.length * 32 ≤ 140737488351232 ∧ G.length * 8 ≤ 140737488351232 ∧ P.length * 8 ≤ 140737488351232) := by
 obtain ⟨cs, rfl, hsz⟩ := okWide_struct Try.underlying38 hval
 obtain ⟨fuel, hf⟩ := h
 obtain ⟨xs, n, _, hx, hl, hxl, hf⟩ := DataW.trod_struct Try.underlying38 hf
 rw [cells38] at hsz
 have hxl : xs.length = 3 := hxl
 obtain ⟨l⟩ := cs
 obtain ⟨a, b, c, rfl⟩ := list3 hsz
 obtain ⟨x0, x1, x2, rfl⟩ := list3 hxl
 have ha := hf 0 _ rfl
 have hb := hf 1 _ rfl
 have hc := hf 2 _ rfl
 have ha : DataW.trod enc Try.prog w base spare held n 36 (([a, b, c].drop 0).take (Try.prog.cellsOf 36)) = some x0 := ha
 have hb : DataW.trod enc Try.prog w base spare held n 22 (([a, b, c].drop 1).take (Try.prog.cellsOf 22)) = some x1 := hb
 have hc : DataW.trod enc Try.prog w base spare held n 22 (([a, b, c].drop 2).take (Try.prog.cellsOf 22)) = some x2 := hc
 rw [cells36] at ha
 rw [cells22] at hb hc
 obtain ⟨AN, cN, N, e0, l0, C0, z0⟩ := opens_row Try.underlying36 cells48 opens_node ha
 obtain ⟨AG, cG, G, e1, l1, C1, z1⟩ := opens_row Try.underlying22 cells3 (opens_int Try.underlying3) hb
 obtain ⟨AP, cP, P, e2, l2, C2, z2⟩ := opens_row Try.underlying22 cells3 (opens_int Try.underlying3) hc
 obtain rfl : a = _ := by simpa using e0
 obtain rfl : b = _ := by simpa using e1
 obtain rfl : c = _ := by simpa using e2
 refine ⟨AN, cN, N, AG, cG, G, AP, cP, P, rfl, l0, l1, l2, C0, C1, C2, fun hw => ?_⟩
 obtain rfl : d = .agg [x0.1, x1.1, x2.1] := by simpa using congrArg Prod.fst hx
 have hW : ∀ m, m ∈ x0.1.weights Try.prog 36 ∨ m ∈ x1.1.weights Try.prog 22 ∨ m ∈ x2.1.weights Try.prog 22 → m ≤ reachBytes := fun m hm => hw m (by
  simp only [DataW.weights, Try.underlying38, DataW.weightsEach, List.map_cons, List.map_nil, List.mem_append]
  rcases hm with h | h | h
  ·exact .inl h
  ·exact .inr (.inl h)
  ·exact .inr (.inr (.inl h)))
 have r0 := row_fits Try.underlying36 z0 (fun m hm => hW m (.inl hm))
 have r1 := row_fits Try.underlying22 z1 (fun m hm => hW m (.inr (.inl hm)))
 have r2 := row_fits Try.underlying22 z2 (fun m hm => hW m (.inr (.inr hm)))
 rw [bytes48] at r0
 rw [bytes3] at r1 r2
 exact ⟨r0, r1, r2⟩
set_option maxRecDepth 100000 in
theorem open_rowv {α : Type} {r : Reach} {b0 : Nat} {t e : TypeId} {k : Kd α} {v : Value} {d : DataW H} {ps : List MemPlace} (ht : Try.prog.underlying t = some (.slice e)) (hs : Try.prog.cellsOf e = k.sz) (ho : Opens enc w base spare held e k)
  (hval : Value.okWide Try.prog w r b0 t v) (h : DataW.Trod enc Try.prog w base spare held t v d ps) :
  ∃ A c, ∃ l : List α, v = .slice A l.length c ∧ l.length ≤ c ∧ k.C w A l.length l ∧ ((∀ m ∈ d.weights Try.prog t, m ≤ reachBytes) → l.length * Try.prog.bytesOf e ≤ 140737488351232) := by
 obtain ⟨a, len, cap, rfl⟩ := okWide_slice ht hval
 obtain ⟨fuel, hf⟩ := h
 obtain ⟨A, c, l, e0, l0, C0, z0⟩ := opens_row ht hs ho hf
 simp only [Value.cells, List.cons.injEq, Value.slice.injEq, and_true] at e0
 obtain ⟨rfl, rfl, rfl⟩ := e0
 exact ⟨_, _, l, rfl, l0, C0, fun hw => row_fits ht z0 hw⟩
set_option maxRecDepth 100000 in
theorem open_node {r : Reach} {b0 : Nat} {v : Value} {d : DataW H} {ps : List MemPlace} (hval : Value.okWide Try.prog w r b0 48 v) (h : DataW.Trod enc Try.prog w base spare held 48 v d ps) : ∃ n : S48, v = .agg #[.bool n.f0, .int .i64 n.f1, .int .i64 n.f2, .int .i64 n.f3] := by
 obtain ⟨cs, rfl, _⟩ := okWide_struct Try.underlying48 hval
 obtain ⟨fuel, hf⟩ := h
 obtain ⟨n, hn⟩ := opens_node _ _ _ hf
 refine ⟨n, ?_⟩
 have := k48_open hn
 simp only [Value.cells] at this
 rw [← this]
set_option maxRecDepth 100000 in
theorem open_callv {r : Reach} {b0 : Nat} {v : Value} {d : DataW H} {ps : List MemPlace} (hval : Value.okWide Try.prog w r b0 76 v) (h : DataW.Trod enc Try.prog w base spare held 76 v d ps) :
  ∃ n : S76, v = .agg #[.int .i64 n.f0, .bool n.f1.f0, .int .i64 n.f1.f1, .int .i64 n.f1.f2, .int .i64 n.f1.f3, .int .i64 n.f2, .int .i64 n.f3] := by
 obtain ⟨cs, rfl, _⟩ := okWide_struct Try.underlying76 hval
 obtain ⟨fuel, hf⟩ := h
 obtain ⟨n, hn⟩ := opens_call _ _ _ hf
 refine ⟨n, ?_⟩
 have := k76_open hn
 simp only [Value.cells] at this
 rw [← this]
theorem weights_le {ts : List TypeId} {ds : List (DataW H)} {j : Nat} {t : TypeId} {d : DataW H} (hsz : (DataW.weightsEach Try.prog ts ds).all (· ≤ reachBytes) = true) (ht : ts[j]? = some t) (hd : ds[j]? = some d) : ∀ m ∈ d.weights Try.prog t, m ≤ reachBytes := fun m hm => by
 simpa using List.all_eq_true.1 hsz m (DataW.weights_mem_each ht hd m hm)
end
end Go.Proofs.Ytkidnomkfdnciaa.All
