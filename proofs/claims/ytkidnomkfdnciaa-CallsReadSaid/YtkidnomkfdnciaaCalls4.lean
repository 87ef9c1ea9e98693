/- What a run comes to, by the order in which its calls are done. Nothing is proved of the program here. -/
import Derived.Test.YtkidnomkfdnciaaCalls3
namespace Go.Proofs.Ytkidnomkfdnciaa.Pure
open Go.RowKit Go.Proofs.Ytkidnomkfdnciaa.All Go.Proofs.YtkidnomkfdnciaaW.PrintWords
def isDone (x : S68) : Bool := decide (x.f2 = 1)
def callAt (L : List (List S76)) (x : S68) : S76 := (L.getD x.f0.toNat []).getD x.f1.toNat z76
def backAt (s : St) (x : S68) : S73 := (res (nth s x.f0.toNat)).getD x.f1.toNat z73
def isOf (w : Nat) (x : S68) : Bool := decide (x.f0 = (w : Int))
def mkD (w a : Nat) : S68 := ⟨(w : Int), (a : Int), 1⟩
theorem all_one (N : List S48) (G P : List Int) (c : S76) : allT N G P [c] = ((doT N G P c).1, (doT N G P c).2.1, (doT N G P c).2.2.1, [⟨(doT N G P c).2.2.2.1, (doT N G P c).2.2.2.2⟩]) := rfl
section
variable {L : List (List S76)} {s : St} {i : Nat} {N : List S48} {G P : List Int}
theorem step_res (g : Good L s) (hi : i < L.length) (hl : left s i) (w : Nat) : res (nth (stepT s i) w) = if w = i ∧ (nth s i).st = 1 then res (nth s i) ++ [⟨(doing s i).2.2.2.1, (doing s i).2.2.2.2⟩] else res (nth s w) := by
  rw [step_nth (g.il hi) hl]
  by_cases e : w = i
  · subst e
    rw [if_pos rfl, next_res (g.st w hi)]
    by_cases h1 : (nth s w).st = 1
    · rw [if_pos h1, if_pos ⟨rfl, h1⟩]
    · rw [if_neg h1, if_neg (fun h => h1 h.2)]
  · rw [if_neg e, if_neg (fun h => e h.1)]
theorem step_done (hl : left s i) : (stepT s i).ev.filter isDone = if (nth s i).st = 1 then s.ev.filter isDone ++ [mkD i (nth s i).at_] else s.ev.filter isDone := by
  unfold stepT
  rw [if_pos hl]
  dsimp only
  rw [List.filter_append]
  by_cases h1 : (nth s i).st = 1
  · rw [if_pos h1, h1]; rfl
  · rw [if_neg h1]
    have : isDone ⟨(i : Int), ((nth s i).at_ : Int), ((nth s i).st : Int)⟩ = false := decide_eq_false (by dsimp only; omega)
    rw [List.filter_cons, this]; simp
theorem memo_eq {s' : St} {N' : List S48} {G' P' : List Int} (h : (s'.N, s'.G, s'.P) = (N', G', P')) : s'.N = N' ∧ s'.G = G' ∧ s'.P = P' := by
  injection h with h1 h; injection h with h2 h3; exact ⟨h1, h2, h3⟩
structure OrdI (N : List S48) (G P : List Int) (L : List (List S76)) (s : St) : Prop where
  all : allT N G P ((s.ev.filter isDone).map (callAt L)) = (s.N, s.G, s.P, (s.ev.filter isDone).map (backAt s))
  cnt : ∀ w, w < L.length → ((s.ev.filter isDone).filter (isOf w)).length = (res (nth s w)).length
  who : ∀ j, j < (s.ev.filter isDone).length → ∃ w a, w < L.length ∧ a < (res (nth s w)).length ∧ (s.ev.filter isDone).getD j z68 = mkD w a ∧ (((s.ev.filter isDone).take j).filter (isOf w)).length = a
theorem OrdI.start (L : List (List S76)) : OrdI N G P L (start N G P L) :=
  ⟨rfl, fun w hw => by rw [start_nth N G P L hw]; rfl, fun j h => absurd h (Nat.not_lt_zero _)⟩
theorem mem_getD {α : Type} {l : List α} {x z : α} (h : x ∈ l) : ∃ j, j < l.length ∧ l.getD j z = x := by
  obtain ⟨j, hj, e⟩ := List.getElem_of_mem h
  exact ⟨j, hj, by rw [List.getD_eq_getElem?_getD, List.getElem?_eq_getElem hj, ← e]; rfl⟩
theorem OrdI.step (g : Good L s) (hi : i < L.length) (hl : left s i) (o : OrdI N G P L s) : OrdI N G P L (stepT s i) := by
  have hr := step_res g hi hl
  have hd := step_done hl
  have hm := step_memo hl
  by_cases h1 : (nth s i).st = 1
  · rw [if_pos h1] at hd hm
    obtain ⟨m1, m2, m3⟩ := memo_eq hm
    have hrl : (res (nth s i)).length = (nth s i).at_ := by rw [g.res_len hi, if_neg (by omega)]
    have ri : res (nth (stepT s i) i) = res (nth s i) ++ [⟨(doing s i).2.2.2.1, (doing s i).2.2.2.2⟩] := by rw [hr i, if_pos ⟨rfl, h1⟩]
    have rw_ : ∀ w, w ≠ i → res (nth (stepT s i) w) = res (nth s w) := fun w h => by rw [hr w, if_neg (fun q => h q.1)]
    have up : ∀ w, (res (nth s w)).length ≤ (res (nth (stepT s i) w)).length := fun w => by
      by_cases e : w = i
      · rw [e, ri]; simp
      · rw [rw_ w e]; exact Nat.le_refl _
    refine ⟨?_, fun w hw => ?_, fun j hj => ?_⟩
    · rw [hd, List.map_append, List.map_append, all_app, o.all, m1, m2, m3]
      have hc : callAt L (mkD i (nth s i).at_) = (nth s i).l.getD (nth s i).at_ z76 := by
        unfold callAt mkD
        rw [g.l i hi]; simp
      have hb : backAt (stepT s i) (mkD i (nth s i).at_) = ⟨(doing s i).2.2.2.1, (doing s i).2.2.2.2⟩ := by
        unfold backAt mkD
        simp only [Int.toNat_natCast]
        rw [ri, getD_snoc', if_neg (by omega), if_pos hrl.symm]
      have ho : (s.ev.filter isDone).map (backAt (stepT s i)) = (s.ev.filter isDone).map (backAt s) := by
        refine List.map_congr_left fun x hx => ?_
        obtain ⟨j, hj, rfl⟩ := mem_getD (z := z68) hx
        obtain ⟨w, a, hw, ha, e, _⟩ := o.who j hj
        rw [e]
        unfold backAt mkD
        simp only [Int.toNat_natCast]
        by_cases h : w = i
        · subst h; rw [ri, getD_snoc', if_pos ha]
        · rw [rw_ w h]
      simp only [List.map_cons, List.map_nil]
      rw [hc, hb, ho, all_one]
      rfl
    · rw [hd, List.filter_append, List.length_append, o.cnt w hw]
      by_cases e : w = i
      · subst e
        have : isOf w (mkD w (nth s w).at_) = true := decide_eq_true rfl
        rw [ri, List.filter_cons, this]; simp
      · have : isOf w (mkD i (nth s i).at_) = false := decide_eq_false (by unfold mkD; dsimp only; omega)
        rw [rw_ w e, List.filter_cons, this]; simp
    · rw [hd] at hj ⊢
      rw [List.length_append, List.length_singleton] at hj
      by_cases h : j < (s.ev.filter isDone).length
      · obtain ⟨w, a, hw, ha, e, hc⟩ := o.who j h
        refine ⟨w, a, hw, Nat.lt_of_lt_of_le ha (up w), by rw [getD_snoc', if_pos h]; exact e, ?_⟩
        rw [List.take_append_of_le_length (Nat.le_of_lt h)]; exact hc
      · obtain rfl : j = (s.ev.filter isDone).length := by omega
        refine ⟨i, (nth s i).at_, hi, by rw [ri]; simp; omega, by rw [getD_snoc', if_neg (by omega), if_pos rfl], ?_⟩
        rw [List.take_left, o.cnt i hi, hrl]
  · rw [if_neg h1] at hd hm
    obtain ⟨m1, m2, m3⟩ := memo_eq hm
    have hr : ∀ w, res (nth (stepT s i) w) = res (nth s w) := fun w => by rw [hr w, if_neg (fun h => h1 h.2)]
    refine ⟨?_, fun w hw => ?_, fun j hj => ?_⟩
    · rw [hd, m1, m2, m3, o.all]
      have : backAt (stepT s i) = backAt s := by funext x; unfold backAt; rw [hr]
      rw [this]
    · rw [hd, hr w]; exact o.cnt w hw
    · rw [hd] at hj ⊢
      obtain ⟨w, a, hw, ha, q⟩ := o.who j hj
      exact ⟨w, a, hw, by rw [hr w]; exact ha, q⟩
/-! ### calls that only read -/
def backR (N : List S48) (G P : List Int) (c : S76) : S73 := ⟨(doT N G P c).2.2.2.1, (doT N G P c).2.2.2.2⟩
theorem do_read {c : S76} (h : c.f0 = 2 ∨ c.f0 = 3) (N : List S48) (G P : List Int) : doT N G P c = (N, G, P, (backR N G P c).f0, (backR N G P c).f1) := by
  have : (doT N G P c).1 = N ∧ (doT N G P c).2.1 = G ∧ (doT N G P c).2.2.1 = P := by
    unfold doT
    rcases h with h | h
    · rw [if_neg (by omega), if_neg (by omega), if_pos h]; exact ⟨rfl, rfl, rfl⟩
    · rw [if_neg (by omega), if_neg (by omega), if_neg (by omega), if_pos h]; exact ⟨rfl, rfl, rfl⟩
  obtain ⟨a, b, d⟩ := this
  unfold backR
  generalize doT N G P c = r at *
  obtain ⟨r1, r2, r3, r4, r5⟩ := r
  dsimp only at *
  subst a; subst b; subst d
  rfl
theorem all_read (N : List S48) (G P : List Int) : ∀ (l : List S76), (∀ c, c ∈ l → c.f0 = 2 ∨ c.f0 = 3) → allT N G P l = (N, G, P, l.map (backR N G P))
  | [], _ => rfl
  | c :: t, h => by
    have h1 := do_read (h c (by simp)) N G P
    have h2 := all_read N G P t (fun x hx => h x (by simp [hx]))
    unfold allT
    rw [show (doT N G P c).1 = N by rw [h1], show (doT N G P c).2.1 = G by rw [h1], show (doT N G P c).2.2.1 = P by rw [h1], h2]
    rfl
structure ReadI (N : List S48) (G P : List Int) (L : List (List S76)) (s : St) : Prop where
  n : s.N = N
  g : s.G = G
  p : s.P = P
  back : ∀ w, w < L.length → ∀ a, a < (res (nth s w)).length → (res (nth s w)).getD a z73 = backR N G P ((L.getD w []).getD a z76)
theorem Reach.read (h : Reach N G P L s) (hL : ∀ w, w < L.length → ∀ a, a < (L.getD w []).length → ((L.getD w []).getD a z76).f0 = 2 ∨ ((L.getD w []).getD a z76).f0 = 3) : ReadI N G P L s := by
  refine h.ind _ ⟨rfl, rfl, rfl, fun w hw a ha => ?_⟩ (fun s i g hi hl q => ?_)
  · rw [start_nth N G P L hw] at ha; exact absurd ha (Nat.not_lt_zero _)
  · have hr := step_res g hi hl
    have hm := step_memo hl
    by_cases h1 : (nth s i).st = 1
    · rw [if_pos h1] at hm
      obtain ⟨m1, m2, m3⟩ := memo_eq hm
      have hrl : (Pure.res (nth s i)).length = (nth s i).at_ := by rw [g.res_len hi, if_neg (by omega)]
      have hlt := (g.left_iff hi).1 hl
      have hc := hL i hi _ hlt
      have hdo : doing s i = (N, G, P, (backR N G P ((L.getD i []).getD (nth s i).at_ z76)).f0, (backR N G P ((L.getD i []).getD (nth s i).at_ z76)).f1) := by
        unfold doing
        rw [g.l i hi, q.n, q.g, q.p]
        exact do_read hc N G P
      rw [hdo] at m1 m2 m3
      refine ⟨m1, m2, m3, fun w hw a ha => ?_⟩
      rw [hr w] at ha ⊢
      by_cases e : w = i
      · subst e
        rw [if_pos ⟨rfl, h1⟩] at ha ⊢
        rw [List.length_append, List.length_singleton] at ha
        rw [getD_snoc']
        by_cases h2 : a < (Pure.res (nth s w)).length
        · rw [if_pos h2]; exact q.back w hw a h2
        · obtain rfl : a = (nth s w).at_ := by omega
          rw [if_neg h2, if_pos hrl.symm, hdo]
      · rw [if_neg (fun h => e h.1)] at ha ⊢
        exact q.back w hw a ha
    · rw [if_neg h1] at hm
      obtain ⟨m1, m2, m3⟩ := memo_eq hm
      refine ⟨m1.trans q.n, m2.trans q.g, m3.trans q.p, fun w hw a ha => ?_⟩
      rw [hr w, if_neg (fun h => h1 h.2)] at ha ⊢
      exact q.back w hw a ha
/-! ### one alone -/
end
end Go.Proofs.Ytkidnomkfdnciaa.Pure
