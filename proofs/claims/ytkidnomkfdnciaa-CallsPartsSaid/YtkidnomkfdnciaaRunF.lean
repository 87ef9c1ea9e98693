/- What Run computes, and its rows of rows. -/
import Derived.Test.YtkidnomkfdnciaaRunD
import Derived.Test.YtkidnomkfdnciaaRunE
namespace Go.Proofs.Ytkidnomkfdnciaa.All
open Go.RowKit Go.Proofs.YtkidnomkfdnciaaW.PrintWords Go.Proofs.YtkidnomkfdnciaaW.PrintLast Go.Proofs.YtkidnomkfdnciaaW.PrintMore
set_option linter.unusedVariables false
set_option linter.unusedSimpArgs false
/-! ### what Run computes -/
def scriptO (k n : Nat) : List Int → St → Option St
  | [], s => some s
  | x :: t, s => if 0 ≤ x ∧ 0 < n then (stepO k s (x.toNat % n)).bind (scriptO k n t) else scriptO k n t s
def finO (k i : Nat) : Nat → St → Option St
  | 0, _ => none
  | f + 1, s => if (s.ones.getD i zOne).at_ < (s.ones.getD i zOne).l.length then (stepO k s i).bind (finO k i f) else some s
def lastO (k : Nat) : Nat → Nat → St → Option St
  | 0, _, s => some s
  | d + 1, i, s => (finO k i k s).bind (lastO k d (i + 1))
theorem bump_keeps (o : One) : (bump o).l = o.l := (bump_l o).1
/-- The lists stay. -/
def Keeps (s s' : St) : Prop := s'.ones.length = s.ones.length ∧ ∀ j, (s'.ones.getD j zOne).l = (s.ones.getD j zOne).l
theorem Keeps.refl (s : St) : Keeps s s := ⟨rfl, fun _ => rfl⟩
theorem Keeps.trans {a b c : St} (h : Keeps a b) (h' : Keeps b c) : Keeps a c := ⟨h'.1.trans h.1, fun j => (h'.2 j).trans (h.2 j)⟩
theorem Keeps.set {s : St} {N : List S48} {G P : List Int} {ev : List S68} {i : Nat} {o : One} (ho : o.l = (s.ones.getD i zOne).l) : Keeps s { N := N, G := G, P := P, ev := ev, ones := s.ones.set i o } := by
  refine ⟨by simp, fun j => ?_⟩
  dsimp only
  rw [set_getD]
  split
  · rename_i h
    rw [h.1]; exact ho
  · rfl
theorem midO_keeps {k i : Nat} {s s' : St} (h : midO k s i = some s') : Keeps s s' := by
  unfold midO at h
  split at h
  · obtain rfl := Option.some.inj h
    exact Keeps.refl _
  · split at h
    · obtain ⟨r, _, h⟩ := Option.bind_eq_some_iff.1 h
      obtain rfl := Option.some.inj h
      exact Keeps.set rfl
    · split at h
      · obtain rfl := Option.some.inj h
        exact Keeps.set rfl
      · cases h
theorem stepO_keeps {k i : Nat} {s s' : St} (h : stepO k s i = some s') : Keeps s s' := by
  unfold stepO at h
  split at h
  · obtain ⟨s1, h1, h⟩ := Option.bind_eq_some_iff.1 h
    split at h
    · obtain rfl := Option.some.inj h
      exact (midO_keeps h1).trans (Keeps.set (bump_keeps _))
    · cases h
  · obtain rfl := Option.some.inj h
    exact Keeps.refl _
/-! ### the rows of rows -/
section
variable {w0 W W' : World} {bh : Nat} {bos : List Nat} {vN vG vP vA vE : Value} {vD : Nat → Value} {LA : Nat → Option Addr} {LC : Nat → Nat} {s : St} {bs : List Nat}
theorem HInv.grow (h : HInv w0 W bh bos vN vG vP vA vE vD LA LC s) (i : Mv W W' bs) (hbs : ∀ b, b ∈ bs → ∃ cells, W.heap[b]? = some (.cells cells 71 (0, 0))) (hb : Below w0.heap.size w0 W') : HInv w0 W' bh bos vN vG vP vA vE vD LA LC s := by
  have far : ∀ {α : Type} {d : Kd α} {e base : Nat} {ok : Nat → Prop} {v : Value} {xs : List α}, d.R e W base ok v xs → e ≠ 71 → ∀ b, b ∈ bs → some b ≠ v.ownBlock := by
    intro α d e base ok v xs hr he b hb
    obtain ⟨c, hc⟩ := hbs b hb
    exact Kd.R_ne hr hc he
  have fbox : ∀ {g t : Nat} {cells : Array Value}, W.heap[g]? = some (.cells cells t (0, 0)) → t ≠ 71 → ∀ b, b ∈ bs → g ≠ b := by
    intro g t cells hc ht b hb e
    subst e
    obtain ⟨c, hc'⟩ := hbs g hb
    rw [hc] at hc'
    injection hc' with hc'
    injection hc' with _ hc'
    exact ht hc'
  exact ⟨hb, h.b0, blk_mv h.hall i (fbox h.hall (by decide)), R_mv h.n i (far h.n (by decide)), R_mv h.g i (far h.g (by decide)), R_mv h.p i (far h.p (by decide)), h.gp, R_mv h.e i (far h.e (by decide)), R_mv h.a i (far h.a (by decide)), h.len, fun j hj => blk_mv (h.box j hj) i (fbox (h.box j hj) (by decide)), h.old, fun j hj => R_mv (h.d j hj) i (far (h.d j hj) (by decide)), h.dd, h.inj, h.l⟩
end
theorem S_of_raw {w : World} {base : Nat} {ok : Nat → Prop} {v : Value} {u : Nat → Value} {xs : List (List S73)} (h : (Kd.raw 1).R 71 w base ok v ((List.range xs.length).map fun j => [u j]))
    (hd : ∀ j, j < xs.length → Kd.R k73 73 w base (tight (u j)) (u j) (xs.getD j [])) (dd : ∀ a b, a < xs.length → b < xs.length → a ≠ b → ∀ k, some k = (u a).ownBlock → some k ≠ (u b).ownBlock) :
    Kd.S (Kd.slice 73 k73) 71 w base (fun _ => True) v xs := by
  classical
  have hty := own_typed (Kd.R_own h).choose_spec
  obtain ⟨h0, inner, ho, hr⟩ := h
  have hl : ((List.range xs.length).map fun j => [u j]).length = xs.length := by simp
  let f : Nat → Nat := fun k => if hk : ∃ j, j < xs.length ∧ some k = (u j).ownBlock then hk.choose else 0
  have hf : ∀ j k, j < xs.length → some k = (u j).ownBlock → f k = j := by
    intro j k hj hk
    have hex : ∃ j, j < xs.length ∧ some k = (u j).ownBlock := ⟨j, hj, hk⟩
    show (if hk : ∃ j, j < xs.length ∧ some k = (u j).ownBlock then hk.choose else 0) = j
    rw [dif_pos hex]
    obtain ⟨h1, h2⟩ := hex.choose_spec
    by_cases e : hex.choose = j
    · exact e
    · exact absurd hk (dd _ _ h1 hj e k h2)
  refine ⟨f, fun k hk => trivial, inner, ?_, ?_, fun j p hj => ?_⟩
  · rw [List.length_zipIdx]; rw [hl] at ho; exact ho
  · rw [List.length_zipIdx]; have := hr.1; rw [hl] at this; exact this
  · obtain ⟨hjl, hp⟩ := List.getElem?_eq_some_iff.1 hj
    rw [List.length_zipIdx] at hjl
    have hp : p = (xs.getD j [], j) := by
      rw [← hp, List.getElem_zipIdx, List.getD_eq_getElem?_getD, List.getElem?_eq_getElem hjl]; simp
    subst hp
    have hu := hr.2 j [u j] (by simp [hjl])
    have hu : _ = [u j] ∧ _ := hu
    refine ⟨u j, hu.1, Kd.R_mono (hd j hjl) (fun k hk => ⟨⟨trivial, fun e => ?_⟩, hf j k hjl hk⟩)⟩
    obtain ⟨c, hc⟩ := hty k e.symm
    exact Kd.R_ne (hd j hjl) hc (by decide) hk
end Go.Proofs.Ytkidnomkfdnciaa.All
