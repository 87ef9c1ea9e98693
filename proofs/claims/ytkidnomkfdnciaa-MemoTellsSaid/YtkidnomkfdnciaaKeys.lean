/- A node as a map's key, at this program: what it reads as, and what a map that the call itself made says at it. -/
import Derived.Test.YtkidnomkfdnciaaSpec
import Derived.Maps.Own
import Derived.Maps.Views
import Derived.Maps.OwnSet
import Derived.DeepKeys4
import Derived.Laws.AppendOwn
namespace Go.Proofs.Ytkidnomkfdnciaa.All
open Go.RowKit Go.Proofs.YtkidnomkfdnciaaW.PrintWords
open Go.Maps (Keyed IsMap)

theorem laidOutK : laidOutB Try.prog = true := by kernel_rfl
theorem typesK : Try.prog.types.size + 1 + 1 ≤ 10000 := of_decide_eq_true (by kernel_rfl)
theorem rowK : 48 < Try.prog.types.size := of_decide_eq_true (by kernel_rfl)
theorem keyTypeK : Try.prog.keyTypeAt (Try.prog.types.size + 1) 48 = true := by kernel_rfl
theorem keyTypeK' : Try.prog.keyType 48 = true := keyTypeK
theorem wideK : (match Try.prog.underlying 48 with | some (.array _ _) | some (.struct _) => true | _ => false) = true := by kernel_rfl
set_option maxRecDepth 1000000 in
theorem nodeLaw : Keyed Try.prog 48 := Keyed.of_law (deep_law_laid laidOutK typesK rowK keyTypeK wideK)
theorem cells48K : Try.prog.cellsOf 48 = 4 := by kernel_rfl
theorem cells3K : Try.prog.cellsOf 3 = 1 := by kernel_rfl
theorem cells4K : Try.prog.cellsOf 4 = 1 := by kernel_rfl
theorem zero3 (w : World) : (zeroValue 3).run Try.prog w = .ok (.int .i64 0) w := by kernel_rfl

/-- A node's value. -/
def NV (x : S48) : Value := .agg #[.bool x.f0, .int .i64 x.f1, .int .i64 x.f2, .int .i64 x.f3]
/-- Its numbers are of their kind. -/
def wfN (x : S48) : Bool := (Lit.int .i64 x.f1).wf && (Lit.int .i64 x.f2).wf && (Lit.int .i64 x.f3).wf
theorem NV_inj {x y : S48} (h : NV x = NV y) : x = y := by
  obtain ⟨a, b, c, d⟩ := x
  obtain ⟨a', b', c', d'⟩ := y
  simp only [NV, Value.agg.injEq, Array.mk.injEq, List.cons.injEq, Value.bool.injEq, Value.int.injEq, and_true, true_and] at h
  obtain ⟨rfl, rfl, rfl, rfl⟩ := h
  rfl
theorem lits_bool (d : Nat) (b : Bool) : Try.prog.keyLits (d + 1) 4 [.bool b] = some [.bool b] := by
  simp only [Program.keyLits, Try.underlying4]
theorem lits_int (d : Nat) (n : Int) (h : (Lit.int .i64 n).wf = true) : Try.prog.keyLits (d + 1) 3 [.int .i64 n] = some [.int .i64 n] := by
  simp only [Program.keyLits, Try.underlying3, h, and_self, if_true]
theorem key_some (x : S48) (h : wfN x = true) : ∃ l, keyOf Try.prog 48 (NV x) = some l := by
  simp only [wfN, Bool.and_eq_true] at h
  obtain ⟨⟨h1, h2⟩, h3⟩ := h
  have hf : (NV x).formed Try.prog 48 = true := by
    simp only [NV, Value.formed, Try.underlying48, cells48K]
    rfl
  have hl : ∃ ls, Try.prog.keyLits (Try.prog.types.size + 1) 48 (NV x).cells.toList = some ls := by
    obtain ⟨d, hd⟩ : ∃ d, Try.prog.types.size = d + 1 := ⟨Try.prog.types.size - 1, by have := rowK; omega⟩
    rw [hd]
    unfold Program.keyLits
    simp only [Try.underlying48, NV, Value.cells, cells48K]
    rw [if_pos ⟨rfl, by decide +kernel⟩]
    simp [lits_bool, lits_int, h1, h2, h3, List.mapM_cons, cells3K, cells4K]
  obtain ⟨ls, hl⟩ := hl
  refine ⟨.string (keyBytes ls), ?_⟩
  unfold keyOf
  rw [Try.underlying48]
  simp only [keyTypeK', hf, Bool.and_self, if_true, hl, Option.map_some]

theorem lit_inj {a c : Int} (h : (DataW.lit (.int .i64 a) : DataW Empty) = .lit (.int .i64 c)) : a = c := (Lit.int.inj (DataW.lit.inj h)).2
/-- Block b is a map of at most n nodes: f tells the number that stands at a node, if one does. -/
def NMap (w : World) (b : Nat) (f : S48 → Option Nat) (n : Nat) : Prop :=
  ∃ D : DataW Empty, w.ownsMap Try.prog 48 (plainElem Try.prog 3) b n D ∧ IsMap D ∧
    ∀ x l, wfN x = true → keyOf Try.prog 48 (NV x) = some l → Maps.has D l = (f x).isSome ∧ ∀ i, f x = some i → ∀ z, D.atKey l z = .lit (.int .i64 (i : Int))
def atN (f : S48 → Option Nat) (x : S48) : Int := match f x with | some i => (i : Int) | none => 0
theorem NMap.lt {w : World} {b n : Nat} {f : S48 → Option Nat} (h : NMap w b f n) : b < w.heap.size := by
  obtain ⟨D, h, _⟩ := h
  exact h.lt
theorem NMap.below {w w' : World} {b n : Nat} {f : S48 → Option Nat} (h : NMap w b f n) (hb : Below w.heap.size w w') : NMap w' b f n := by
  obtain ⟨D, h, r⟩ := h
  exact ⟨D, h.kept (grown_of_below hb none) (by simp), r⟩
theorem NMap.new (w : World) : NMap (w.alloc (.map #[] 0)) w.heap.size (fun _ => none) 0 :=
  ⟨.map [], World.ownsMap_made w _ _ _, Go.Maps.isMap_empty, fun x l _ _ => ⟨rfl, fun i h => by cases h⟩⟩
theorem NMap.congr {w : World} {b n : Nat} {f g : S48 → Option Nat} (h : NMap w b f n) (e : ∀ x, wfN x = true → f x = g x) : NMap w b g n := by
  obtain ⟨D, h, hm, r⟩ := h
  exact ⟨D, h, hm, fun x l hw hl => by rw [← e x hw]; exact r x l hw hl⟩
section
variable {ops : Array Oper} {rest : List Oper} {o : Oper} {a : Act} {Q : Exit → Act → World → Prop}
theorem NMap.look_ok {w : World} {b n : Nat} {f : S48 → Option Nat} (h : NMap w b f n) (hg : o.guard = none) (m x : Operand) (hop : o.op = Op.lookup 90 m x true) (hm : a.eval m = .map (some b)) (key : S48) (hx : a.eval x = NV key) (hw : wfN key = true)
    (hK : wpList Try.prog ops Q rest (a.put o.dst (.tuple #[.int .i64 (atN f key), .bool (f key).isSome])) w) : wpList Try.prog ops Q (o :: rest) a w := by
  obtain ⟨D, ho, hD, r⟩ := h
  obtain ⟨l, hl⟩ := key_some key hw
  obtain ⟨r1, r2⟩ := r key l hw hl
  refine Go.wpList_lookup_own_ok_int w hg m x 90 hop 48 3 .i64 nodeLaw Try.underlying90 Try.underlying3 (zero3 w) b n D hm ho (NV key) l hx hl ?_
  intro c hc _
  rw [r1]
  have : c = atN f key := by
    unfold atN
    cases hf : f key with
    | some i => rw [r2 i hf] at hc; exact (lit_inj hc).symm
    | none =>
      rw [Go.Maps.atKey_of_not_has (by rw [r1, hf]; rfl)] at hc
      exact (lit_inj hc).symm
  rw [this]
  exact hK
theorem NMap.look_run {w : World} {b n : Nat} {f : S48 → Option Nat} (h : NMap w b f n) (key : S48) (hw : wfN key = true) :
    (Instr.lookup 90 (.map (some b)) (NV key) false).run Try.prog w = .ok (.int .i64 (atN f key)) w := by
  obtain ⟨D, ho, hD, r⟩ := h
  obtain ⟨l, hl⟩ := key_some key hw
  obtain ⟨r1, r2⟩ := r key l hw hl
  obtain ⟨c, hrun, hc, _⟩ := ho.lookup_int nodeLaw Try.underlying90 Try.underlying3 (zero3 w) hl
  have : c = atN f key := by
    unfold atN
    cases hf : f key with
    | some i => rw [r2 i hf] at hc; exact (lit_inj hc).symm
    | none =>
      rw [Go.Maps.atKey_of_not_has (by rw [r1, hf]; rfl)] at hc
      exact (lit_inj hc).symm
  rw [← this]
  exact hrun
theorem NMap.put_ {w : World} {b n : Nat} {f : S48 → Option Nat} (h : NMap w b f n) (hg : o.guard = none) (m x v : Operand) (hop : o.op = Op.mapUpdate 90 m x v) (hm : a.eval m = .map (some b)) (key : S48) (hx : a.eval x = NV key) (hw : wfN key = true)
    (i : Nat) (hv : a.eval v = .int .i64 (i : Int)) (hi : i < 1000000) (hn : n < 1000000)
    (hK : ∀ w', NMap w' b (fun y => if y = key then some i else f y) (n + 1) → w.grownBy w' (some b) → wpList Try.prog ops Q rest (a.put o.dst undef) w') : wpList Try.prog ops Q (o :: rest) a w := by
  obtain ⟨D, ho, hD, r⟩ := h
  obtain ⟨l, hl⟩ := key_some key hw
  refine Go.wpList_mapUpdate_own w hg m x v 90 hop 48 3 nodeLaw Try.underlying90 (plainElem Try.prog 3) b n D hm ho (by simp only [maxLen]; omega) (NV key) (.int .i64 (i : Int)) l hx hv hl (.lit (.int .i64 (i : Int))) []
    (plainElem_int Try.underlying3 (by simp [Lit.wf, IntKind.min, IntKind.max, IntKind.signed, IntKind.bits]; omega)) ?_
  intro w' ho' hg'
  refine hK w' ⟨_, ho', hD.put _ _, fun y ly hwy hly => ?_⟩ hg'
  by_cases he : y = key
  · subst he
    obtain rfl : l = ly := by rw [hl] at hly; exact Option.some.inj hly
    dsimp only
    rw [if_pos rfl]
    refine ⟨Go.Maps.has_put_same hD (nodeLaw.key hl) _, fun j hj z => ?_⟩
    obtain rfl := Option.some.inj hj
    exact Go.Maps.atKey_put_same hD (nodeLaw.key hl) _ _
  · have hne : ly ≠ l := fun e => he (NV_inj (nodeLaw.inj (e ▸ hly) hl))
    dsimp only
    rw [if_neg he]
    obtain ⟨r1, r2⟩ := r y ly hwy hly
    exact ⟨by rw [Go.Maps.has_put_other hne]; exact r1, fun j hj z => by rw [Go.Maps.atKey_put_other hne]; exact r2 j hj z⟩
end
end Go.Proofs.Ytkidnomkfdnciaa.All
