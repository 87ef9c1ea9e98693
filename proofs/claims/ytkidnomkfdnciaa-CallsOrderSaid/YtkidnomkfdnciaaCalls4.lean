/- What a run comes to, by the order in which its calls are done. Nothing is proved of the program here. -/
import Derived.Test.YtkidnomkfdnciaaCalls1
import Derived.Test.YtkidnomkfdnciaaAllx24
section
namespace Go.Proofs.Ytkidnomkfdnciaa.Pure
open Go.RowKit Go.Proofs.Ytkidnomkfdnciaa.All Go.Proofs.YtkidnomkfdnciaaW.PrintWords
theorem do_bad {N : List S48} {G P : List Int} (hm : mayMB N G P = false) (c : S76) : (doT N G P c).1 = N ∧ (doT N G P c).2.1 = G ∧ (doT N G P c).2.2.1 = P := by
  unfold doT
  by_cases h0 : c.f0 = 0
  · simp only [if_pos h0]
    have h := put_cases N G P c.f1 c.f2
    by_cases he : (putT N G P c.f1 c.f2).2.2.2.2 = 0
    · have := (h.ok he).was
      rw [hm] at this; cases this
    · exact ⟨(h.no he).2.1, (h.no he).2.2.1, (h.no he).2.2.2⟩
  · simp only [if_neg h0]
    by_cases h1 : c.f0 = 1
    · simp only [if_pos h1]
      rcases mer_cases N G P c.f2 c.f3 with h | ⟨h, e⟩
      · rw [h]; simp
      · have := h.may
        rw [hm] at this; cases this
    · simp only [if_neg h1]
      split
      · exact ⟨rfl, rfl, rfl⟩
      · split <;> exact ⟨rfl, rfl, rfl⟩
theorem do_lim {N : List S48} {G P : List Int} (h : Lim N G P) (c : S76) : Lim (doT N G P c).1 (doT N G P c).2.1 (doT N G P c).2.2.1 := by
  cases hm : mayMB N G P with
  | true => exact may_Lim (do_may hm c)
  | false =>
    obtain ⟨a, b, d⟩ := do_bad hm c
    rw [a, b, d]; exact h
/-! ### a step -/
def nth (s : St) (i : Nat) : One := s.ones.getD i zOne
def rank (o : One) : Nat := 3 * o.at_ + o.st
def doing (s : St) (i : Nat) : List S48 × List Int × List Int × Int × Int := doT s.N s.G s.P ((nth s i).l.getD (nth s i).at_ z76)
def nextOne (s : St) (i : Nat) : One :=
  if (nth s i).st = 0 then { nth s i with st := 1 }
  else if (nth s i).st = 1 then { nth s i with g := (doing s i).2.2.2.1, e := (doing s i).2.2.2.2, st := 2 }
  else { nth s i with ended := (nth s i).ended ++ [⟨(nth s i).g, (nth s i).e⟩], at_ := (nth s i).at_ + 1, st := 0 }
def left (s : St) (i : Nat) : Prop := (nth s i).at_ < (nth s i).l.length
instance (s : St) (i : Nat) : Decidable (left s i) := by unfold left; infer_instance
def stepT (s : St) (i : Nat) : St :=
  if left s i then
    { N := if (nth s i).st = 1 then (doing s i).1 else s.N
      G := if (nth s i).st = 1 then (doing s i).2.1 else s.G
      P := if (nth s i).st = 1 then (doing s i).2.2.1 else s.P
      ev := s.ev ++ [⟨(i : Int), ((nth s i).at_ : Int), ((nth s i).st : Int)⟩]
      ones := s.ones.set i (nextOne s i) }
  else s
def Small (L : List (List S76)) : Prop := L.length ≤ 12 ∧ ∀ i, i < L.length → (L.getD i []).length ≤ 12
structure Good (L : List (List S76)) (s : St) : Prop where
  len : s.ones.length = L.length
  l : ∀ i, i < L.length → (nth s i).l = L.getD i []
  st : ∀ i, i < L.length → (nth s i).st ≤ 2
  at_ : ∀ i, i < L.length → (nth s i).at_ ≤ (L.getD i []).length
  z : ∀ i, i < L.length → (nth s i).at_ = (L.getD i []).length → (nth s i).st = 0
  ended : ∀ i, i < L.length → (nth s i).ended.length = (nth s i).at_
  ev : s.ev.length = (s.ones.map rank).sum
  lim : Lim s.N s.G s.P
theorem sum_set (f : One → Nat) : ∀ (l : List One) (i : Nat) (o : One), i < l.length → ((l.set i o).map f).sum + f (l.getD i zOne) = (l.map f).sum + f o
  | [], i, o, h => by simp at h
  | x :: t, 0, o, _ => by simp [List.sum_cons]; omega
  | x :: t, i + 1, o, h => by
    have := sum_set f t i o (by simpa using h)
    simp only [List.set_cons_succ, List.map_cons, List.sum_cons, List.getD_cons_succ]
    omega
theorem sum_le (f : One → Nat) (m : Nat) : ∀ (l : List One), (∀ i, i < l.length → f (l.getD i zOne) ≤ m) → (l.map f).sum ≤ m * l.length
  | [], _ => by simp
  | x :: t, h => by
    have h0 := h 0 (by simp)
    have := sum_le f m t (fun i hi => h (i + 1) (by simpa using hi))
    simp only [List.map_cons, List.sum_cons, List.length_cons, Nat.mul_add, List.getD_cons_zero] at *
    omega
theorem next_l (s : St) (i : Nat) : (nextOne s i).l = (nth s i).l := by
  unfold nextOne
  split
  · rfl
  · split <;> rfl
section
variable {L : List (List S76)} {s : St} {i : Nat}
theorem Good.il (g : Good L s) (hi : i < L.length) : i < s.ones.length := by rw [g.len]; exact hi
theorem Good.left_iff (g : Good L s) (hi : i < L.length) : left s i ↔ (nth s i).at_ < (L.getD i []).length := by
  unfold left
  rw [g.l i hi]
theorem next_rank (h : (nth s i).st ≤ 2) : rank (nextOne s i) = rank (nth s i) + 1 := by
  unfold nextOne rank
  split
  · rename_i e; simp only; omega
  · split
    · rename_i e; simp only; omega
    · simp only; omega
theorem nth_set (j : Nat) (o : One) {s' : St} (e : s'.ones = s.ones.set i o) (hi : i < s.ones.length) : nth s' j = if j = i then o else nth s j := by
  unfold nth
  rw [e, set_getD]
  by_cases hj : j = i
  · rw [if_pos ⟨hj, hi⟩, if_pos hj]
  · rw [if_neg (fun h => hj h.1), if_neg hj]
theorem step_nth (hi : i < s.ones.length) (hl : left s i) (j : Nat) : nth (stepT s i) j = if j = i then nextOne s i else nth s j :=
  nth_set j _ (by unfold stepT; rw [if_pos hl]) hi
theorem step_no (hl : ¬ left s i) : stepT s i = s := by unfold stepT; rw [if_neg hl]
theorem Good.ev_le (g : Good L s) (hs : Small L) : s.ev.length ≤ 500 := by
  rw [g.ev]
  have := sum_le rank 38 s.ones (fun i hi => by
    have hi : i < L.length := by rw [← g.len]; exact hi
    have h1 := g.at_ i hi
    have h2 := g.st i hi
    have h3 := hs.2 i hi
    unfold nth at h1 h2
    unfold rank
    omega)
  have h2 := hs.1
  rw [← g.len] at h2
  omega
theorem step_good (g : Good L s) (hi : i < L.length) : Good L (stepT s i) := by
  by_cases hl : left s i
  · have hil := g.il hi
    have hst := g.st i hi
    have hlt := (g.left_iff hi).1 hl
    have hn := step_nth hil hl
    refine ⟨?_, fun j hj => ?_, fun j hj => ?_, fun j hj => ?_, fun j hj => ?_, fun j hj => ?_, ?_, ?_⟩
    · unfold stepT; rw [if_pos hl]; simp [g.len]
    · rw [hn j]
      split
      · rename_i e; subst e; rw [next_l]; exact g.l j hj
      · exact g.l j hj
    · rw [hn j]
      split
      · unfold nextOne
        split
        · simp
        · split <;> simp
      · exact g.st j hj
    · rw [hn j]
      split
      · rename_i e; subst e
        unfold nextOne
        split
        · exact Nat.le_of_lt hlt
        · split
          · exact Nat.le_of_lt hlt
          · exact hlt
      · exact g.at_ j hj
    · rw [hn j]
      split
      · rename_i e; subst e
        unfold nextOne
        split
        · intro e; simp only at e; omega
        · split
          · intro e; simp only at e; omega
          · intro _; rfl
      · exact g.z j hj
    · rw [hn j]
      split
      · rename_i e; subst e
        have := g.ended j hj
        unfold nextOne
        split
        · exact this
        · split
          · exact this
          · simp [this]
      · exact g.ended j hj
    · have h1 := sum_set rank s.ones i (nextOne s i) hil
      have h2 : rank (nextOne s i) = rank (s.ones.getD i zOne) + 1 := next_rank hst
      have h3 := g.ev
      unfold stepT
      rw [if_pos hl]
      simp only [List.length_append, List.length_singleton]
      omega
    · unfold stepT
      rw [if_pos hl]
      by_cases h1 : (nth s i).st = 1
      · simp only [if_pos h1]
        exact do_lim g.lim _
      · simp only [if_neg h1]
        exact g.lim
  · rw [step_no hl]; exact g
theorem stepO_T (g : Good L s) (hs : Small L) (hi : i < L.length) {k : Nat} (hk : 500 ≤ k) : stepO k s i = some (stepT s i) := by
  have hil := g.il hi
  have hst := g.st i hi
  have hev := g.ev_le hs
  have hen := g.ended i hi
  have hat := g.at_ i hi
  have hsm := hs.2 i hi
  unfold stepO
  by_cases hl : left s i
  · rw [if_pos (show (s.ones.getD i zOne).at_ < (s.ones.getD i zOne).l.length from hl)]
    unfold stepT
    rw [if_pos hl]
    unfold midO
    change (nth s i).st ≤ 2 at hst
    change ((if (nth s i).st = 0 then some s else if (nth s i).st = 1 then _ else if (nth s i).st = 2 ∧ (nth s i).ended.length ≤ 1000 then _ else none) : Option St).bind _ = _
    by_cases h0 : (nth s i).st = 0
    · rw [if_pos h0]
      simp only [Option.bind_some]
      rw [if_pos (by omega)]
      have hb : bump (s.ones.getD i zOne) = nextOne s i := by
        show bump (nth s i) = _
        unfold bump nextOne
        rw [if_pos h0, if_neg (show ¬ (nth s i).st = 2 by omega), h0]
      rw [hb, if_neg (by omega), if_neg (by omega), if_neg (by omega)]
      rfl
    · rw [if_neg h0]
      by_cases h1 : (nth s i).st = 1
      · rw [if_pos h1]
        have hd : runDo k s.N s.G s.P ((s.ones.getD i zOne).l.getD (s.ones.getD i zOne).at_ z76) = some (doing s i) := do_k g.lim _ hk
        rw [hd]
        simp only [Option.bind_some]
        rw [if_pos (by omega), if_pos h1, if_pos h1, if_pos h1]
        have hn : nextOne s i = bump { nth s i with g := (doing s i).2.2.2.1, e := (doing s i).2.2.2.2 } := by
          unfold nextOne bump
          rw [if_neg h0, if_pos h1, if_neg (show ¬ (nth s i).st = 2 by omega), h1]
        rw [hn]
        simp only [List.set_set, set_getD, hil, and_self, if_true]
        rfl
      · rw [if_neg h1, if_pos ⟨by omega, by omega⟩]
        simp only [Option.bind_some]
        rw [if_pos (by omega), if_neg h1, if_neg h1, if_neg h1]
        have h2 : (nth s i).st = 2 := by omega
        have hn : nextOne s i = bump { nth s i with ended := (nth s i).ended ++ [⟨(nth s i).g, (nth s i).e⟩] } := by
          unfold nextOne bump
          simp only [if_neg h0, if_neg h1, if_pos h2]
        rw [hn]
        simp only [List.set_set, set_getD, hil, and_self, if_true]
        rfl
  · rw [if_neg (show ¬ (s.ones.getD i zOne).at_ < (s.ones.getD i zOne).l.length from hl), step_no hl]
/-! ### all steps -/
theorem fold_good (is : List Nat) : ∀ {s : St}, Good L s → (∀ i, i ∈ is → i < L.length) → Good L (is.foldl stepT s) := by
  induction is with
  | nil => intro s g _; exact g
  | cons i t ih => intro s g h; exact ih (step_good g (h i (by simp))) (fun j hj => h j (by simp [hj]))
theorem fold_ind (Q : St → Prop) (hQ : ∀ s i, Good L s → i < L.length → left s i → Q s → Q (stepT s i)) (is : List Nat) : ∀ {s : St}, Good L s → (∀ i, i ∈ is → i < L.length) → Q s → Q (is.foldl stepT s) := by
  induction is with
  | nil => intro s _ _ q; exact q
  | cons i t ih =>
    intro s g h q
    refine ih (step_good g (h i (by simp))) (fun j hj => h j (by simp [hj])) ?_
    by_cases hl : left s i
    · exact hQ s i g (h i (by simp)) hl q
    · rw [step_no hl]; exact q
theorem script_is (hs : Small L) {k : Nat} (hk : 500 ≤ k) : ∀ (sc : List Int) {s : St}, Good L s → ∃ is : List Nat, (∀ i, i ∈ is → i < L.length) ∧ scriptO k L.length sc s = some (is.foldl stepT s)
  | [], s, _ => ⟨[], fun _ h => absurd h List.not_mem_nil, rfl⟩
  | x :: t, s, g => by
    rw [scriptO]
    by_cases hx : 0 ≤ x ∧ 0 < L.length
    · have hi : x.toNat % L.length < L.length := Nat.mod_lt _ hx.2
      rw [if_pos hx, stepO_T g hs hi hk]
      obtain ⟨is, h1, h2⟩ := script_is hs hk t (step_good g hi)
      refine ⟨(x.toNat % L.length) :: is, fun j hj => ?_, h2⟩
      rcases List.mem_cons.1 hj with h | h
      · rw [h]; exact hi
      · exact h1 j h
    · rw [if_neg hx]; exact script_is hs hk t g
theorem fin_is (hs : Small L) (hi : i < L.length) {k : Nat} (hk : 500 ≤ k) : ∀ (f : Nat) {s : St}, Good L s → 3 * (L.getD i []).length < rank (nth s i) + f → ∃ is : List Nat, (∀ j, j ∈ is → j = i) ∧ finO k i f s = some (is.foldl stepT s) ∧ ¬ left (is.foldl stepT s) i
  | 0, s, g, h => by
    have h1 := g.at_ i hi
    have h2 := g.st i hi
    have h3 := g.z i hi
    unfold rank at h
    by_cases e : (nth s i).at_ = (L.getD i []).length
    · have := h3 e; omega
    · omega
  | f + 1, s, g, h => by
    rw [finO]
    by_cases hl : left s i
    · rw [if_pos (show (s.ones.getD i zOne).at_ < (s.ones.getD i zOne).l.length from hl), stepO_T g hs hi hk]
      have hr : rank (nth (stepT s i) i) = rank (nth s i) + 1 := by rw [step_nth (g.il hi) hl, if_pos rfl]; exact next_rank (g.st i hi)
      obtain ⟨is, h1, h2, h3⟩ := fin_is hs hi hk f (step_good g hi) (by omega)
      refine ⟨i :: is, fun j hj => ?_, h2, h3⟩
      rcases List.mem_cons.1 hj with h | h
      · exact h
      · exact h1 j h
    · rw [if_neg (show ¬ (s.ones.getD i zOne).at_ < (s.ones.getD i zOne).l.length from hl)]; exact ⟨[], fun _ h => absurd h List.not_mem_nil, rfl, hl⟩
theorem done_keeps (is : List Nat) {j : Nat} : ∀ {s : St}, Good L s → (∀ i, i ∈ is → i < L.length) → ¬ left s j → ¬ left (is.foldl stepT s) j := fun {s} g h q =>
  fold_ind (fun s => ¬ left s j) (fun s i g hi hl q => by
    unfold left
    rw [step_nth (g.il hi) hl]
    by_cases e : j = i
    · subst e; exact absurd hl q
    · rw [if_neg e]; exact q) is g h q
theorem last_is (hs : Small L) {k : Nat} (hk : 500 ≤ k) : ∀ (d i : Nat) {s : St}, i + d = L.length → Good L s → (∀ j, j < i → ¬ left s j) → ∃ is : List Nat, (∀ j, j ∈ is → j < L.length) ∧ lastO k d i s = some (is.foldl stepT s) ∧ ∀ j, j < L.length → ¬ left (is.foldl stepT s) j
  | 0, i, s, hd, g, h => ⟨[], fun _ h => absurd h List.not_mem_nil, rfl, fun j hj => h j (by omega)⟩
  | d + 1, i, s, hd, g, h => by
    have hi : i < L.length := by omega
    have := hs.2 i hi
    obtain ⟨is, h1, h2, h3⟩ := fin_is hs hi hk k g (by omega)
    have h1' : ∀ j, j ∈ is → j < L.length := fun j hj => by rw [h1 j hj]; exact hi
    obtain ⟨is', h4, h5, h6⟩ := last_is hs hk d (i + 1) (by omega) (fold_good is g h1') (fun j hj => by
      by_cases e : j = i
      · rw [e]; exact h3
      · exact done_keeps is g h1' (h j (by omega)))
    rw [lastO, h2]
    refine ⟨is ++ is', fun j hj => ?_, ?_, ?_⟩
    · rcases List.mem_append.1 hj with h | h
      · exact h1' j h
      · exact h4 j h
    · rw [List.foldl_append]; exact h5
    · rw [List.foldl_append]; exact h6
end
def start (N : List S48) (G P : List Int) (L : List (List S76)) : St := ⟨N, G, P, [], L.map mkOne⟩
theorem start_nth (N : List S48) (G P : List Int) (L : List (List S76)) {i : Nat} (hi : i < L.length) : nth (start N G P L) i = mkOne (L.getD i []) := by
  unfold nth start
  simp [List.getD_eq_getElem?_getD, List.getElem?_map, List.getElem?_eq_getElem hi]
theorem start_good {N : List S48} {G P : List Int} (h : Lim N G P) (L : List (List S76)) : Good L (start N G P L) := by
  refine ⟨by simp [start], fun i hi => ?_, fun i hi => ?_, fun i hi => ?_, fun i hi => ?_, fun i hi => ?_, ?_, h⟩
  · rw [start_nth N G P L hi]; rfl
  · rw [start_nth N G P L hi]; simp [mkOne]
  · rw [start_nth N G P L hi]; simp [mkOne]
  · intro _; rw [start_nth N G P L hi]; rfl
  · rw [start_nth N G P L hi]; rfl
  · have : ∀ l : List (List S76), ((l.map mkOne).map rank).sum = 0 := fun l => by
      induction l with
      | nil => rfl
      | cons x t ih => simp only [List.map_cons, List.sum_cons, ih]; rfl
    exact (this L).symm
/-- What holds of a run's end. -/
structure Reach (N : List S48) (G P : List Int) (L : List (List S76)) (s : St) : Prop where
  good : Good L s
  done : ∀ j, j < L.length → (nth s j).at_ = (L.getD j []).length
  ind : ∀ Q : St → Prop, Q (start N G P L) → (∀ s i, Good L s → i < L.length → left s i → Q s → Q (stepT s i)) → Q s
theorem run_T0 {N : List S48} {G P : List Int} {L : List (List S76)} (hL : Lim N G P) (hs : Small L) (sc : List Int) {k : Nat} (hk : 500 ≤ k) : ∃ s, calls_Run.f k N G P L sc = some (s.N, s.G, s.P, s.ones.map One.ended, s.ev) ∧ Reach N G P L s := by
  have g0 := start_good hL L
  obtain ⟨is, h1, h2⟩ := script_is hs hk sc g0
  have g1 := fold_good is g0 h1
  obtain ⟨is', h3, h4, h5⟩ := last_is hs hk L.length 0 (by omega) g1 (fun j hj => by omega)
  have g2 := fold_good is' g1 h3
  refine ⟨is'.foldl stepT (is.foldl stepT (start N G P L)), ?_, g2, fun j hj => ?_, fun Q q0 hQ => fold_ind Q hQ is' g1 h3 (fold_ind Q hQ is g0 h1 q0)⟩
  · unfold calls_Run.f
    rw [if_pos hL.lim3, if_neg]
    · unfold runS
      have h2' : scriptO k L.length sc ⟨N, G, P, [], L.map mkOne⟩ = _ := h2
      rw [h2']
      simp only [Option.bind_some]
      rw [h4]
      rfl
    · rintro (h | h)
      · have := hs.1; omega
      · obtain ⟨x, hx, hm⟩ := List.any_eq_true.1 h
        obtain ⟨i, hi, rfl⟩ := List.getElem_of_mem hx
        have := hs.2 i hi
        rw [List.getD_eq_getElem?_getD, List.getElem?_eq_getElem hi] at this
        unfold manyB at hm
        simp at hm this
        omega
  · have a := g2.at_ j hj
    have b := mt (g2.left_iff hj).2 (h5 j hj)
    omega
theorem run_T {N : List S48} {G P : List Int} {L : List (List S76)} (hL : Lim N G P) (hs : Small L) (sc : List Int) : ∃ s, (∀ k, 500 ≤ k → calls_Run.f k N G P L sc = some (s.N, s.G, s.P, s.ones.map One.ended, s.ev)) ∧ Reach N G P L s := by
  obtain ⟨s, h, hr⟩ := run_T0 hL hs sc (k := 500) (by omega)
  refine ⟨s, fun k hk => ?_, hr⟩
  obtain ⟨d, rfl⟩ : ∃ d, k = 500 + d := ⟨k - 500, by omega⟩
  clear hk
  induction d with
  | zero => exact h
  | succ d ih => exact calls_Run.mono _ _ _ _ _ _ _ ih
end Go.Proofs.Ytkidnomkfdnciaa.Pure
end
section
namespace Go.Proofs.Ytkidnomkfdnciaa.Pure
open Go.RowKit Go.Proofs.Ytkidnomkfdnciaa.All Go.Proofs.YtkidnomkfdnciaaW.PrintWords
def mkE (w r : Nat) : S68 := ⟨(w : Int), ((r / 3 : Nat) : Int), ((r % 3 : Nat) : Int)⟩
theorem mkE_inj {w r w' r' : Nat} (h : mkE w r = mkE w' r') : w = w' ∧ r = r' := by
  unfold mkE at h
  injection h with h1 h2 h3
  have h1 := Int.ofNat.inj h1
  have h2 := Int.ofNat.inj h2
  have h3 := Int.ofNat.inj h3
  omega
theorem getD_snoc' {α : Type} (l : List α) (x z : α) (i : Nat) : (l ++ [x]).getD i z = if i < l.length then l.getD i z else if i = l.length then x else z := getD_snoc l x z i
/-- What came back of one so far. -/
def res (o : One) : List S73 := if o.st = 2 then o.ended ++ [⟨o.g, o.e⟩] else o.ended
section
variable {L : List (List S76)} {s : St} {i : Nat}
theorem step_ev (hl : left s i) (hst : (nth s i).st ≤ 2) : (stepT s i).ev = s.ev ++ [mkE i (rank (nth s i))] := by
  unfold stepT mkE rank
  rw [if_pos hl]
  have a : (3 * (nth s i).at_ + (nth s i).st) / 3 = (nth s i).at_ := by omega
  have b : (3 * (nth s i).at_ + (nth s i).st) % 3 = (nth s i).st := by omega
  rw [a, b]
structure EvI (L : List (List S76)) (s : St) : Prop where
  a : ∀ j, j < s.ev.length → ∃ w r, w < L.length ∧ r < rank (nth s w) ∧ s.ev.getD j z68 = mkE w r
  b : ∀ j j' w r r', j < j' → j' < s.ev.length → s.ev.getD j z68 = mkE w r → s.ev.getD j' z68 = mkE w r' → r < r'
  c : ∀ w, w < L.length → ∀ r, r < rank (nth s w) → ∃ j, j < s.ev.length ∧ s.ev.getD j z68 = mkE w r
theorem EvI.start (N : List S48) (G P : List Int) (L : List (List S76)) : EvI L (start N G P L) :=
  ⟨fun j h => absurd h (Nat.not_lt_zero _), fun j j' w r r' _ h => absurd h (Nat.not_lt_zero _), fun w hw r hr => by
    rw [start_nth N G P L hw] at hr
    exact absurd hr (Nat.not_lt_zero _)⟩
theorem EvI.step (g : Good L s) (hi : i < L.length) (hl : left s i) (e : EvI L s) : EvI L (stepT s i) := by
  have hn := step_nth (g.il hi) hl
  have hst := g.st i hi
  have hev := step_ev hl hst
  have hr := next_rank (s := s) hst
  have hlen : (stepT s i).ev.length = s.ev.length + 1 := by rw [hev]; simp
  have up : ∀ w, rank (nth s w) ≤ rank (nth (stepT s i) w) := fun w => by
    rw [hn w]
    split
    · rename_i h; subst h; omega
    · exact Nat.le_refl _
  have old : ∀ j, j < s.ev.length → (stepT s i).ev.getD j z68 = s.ev.getD j z68 := fun j hj => by rw [hev, getD_snoc', if_pos hj]
  have new : (stepT s i).ev.getD s.ev.length z68 = mkE i (rank (nth s i)) := by rw [hev, getD_snoc', if_neg (by omega), if_pos rfl]
  refine ⟨fun j hj => ?_, fun j j' w r r' hjj hj' h h' => ?_, fun w hw r hwr => ?_⟩
  · by_cases h : j < s.ev.length
    · obtain ⟨w, r, h1, h2, h3⟩ := e.a j h
      exact ⟨w, r, h1, Nat.lt_of_lt_of_le h2 (up w), by rw [old j h]; exact h3⟩
    · obtain rfl : j = s.ev.length := by omega
      exact ⟨i, _, hi, by rw [hn i, if_pos rfl]; omega, new⟩
  · rw [old j (by omega)] at h
    by_cases h1 : j' < s.ev.length
    · rw [old j' h1] at h'
      exact e.b j j' w r r' hjj h1 h h'
    · obtain rfl : j' = s.ev.length := by omega
      rw [new] at h'
      obtain ⟨rfl, rfl⟩ := mkE_inj h'
      obtain ⟨w0, r0, _, h2, h3⟩ := e.a j (by omega)
      rw [h] at h3
      obtain ⟨rfl, rfl⟩ := mkE_inj h3
      exact h2
  · rw [hn w] at hwr
    by_cases h : w = i
    · rw [if_pos h] at hwr
      subst h
      by_cases h2 : r < rank (nth s w)
      · obtain ⟨j, h3, h4⟩ := e.c w hw r h2
        exact ⟨j, by omega, by rw [old j h3]; exact h4⟩
      · obtain rfl : r = rank (nth s w) := by omega
        exact ⟨s.ev.length, by omega, new⟩
    · rw [if_neg h] at hwr
      obtain ⟨j, h3, h4⟩ := e.c w hw r hwr
      exact ⟨j, by omega, by rw [old j h3]; exact h4⟩
theorem Reach.rank {N : List S48} {G P : List Int} (h : Reach N G P L s) {w : Nat} (hw : w < L.length) : rank (nth s w) = 3 * (L.getD w []).length := by
  have a := h.done w hw
  have b := h.good.z w hw a
  unfold Pure.rank
  omega
/-! ### what came back -/
theorem next_res (hst : (nth s i).st ≤ 2) : res (nextOne s i) = if (nth s i).st = 1 then res (nth s i) ++ [⟨(doing s i).2.2.2.1, (doing s i).2.2.2.2⟩] else res (nth s i) := by
  unfold nextOne res
  by_cases h0 : (nth s i).st = 0
  · simp [h0]
  · by_cases h1 : (nth s i).st = 1
    · simp [h1]
    · have h2 : (nth s i).st = 2 := by omega
      simp [h2]
theorem step_memo (hl : left s i) : ((stepT s i).N, (stepT s i).G, (stepT s i).P) = if (nth s i).st = 1 then ((doing s i).1, (doing s i).2.1, (doing s i).2.2.1) else (s.N, s.G, s.P) := by
  unfold stepT
  rw [if_pos hl]
  split <;> rfl
theorem Good.res_len (g : Good L s) (hi : i < L.length) : (res (nth s i)).length = if (nth s i).st = 2 then (nth s i).at_ + 1 else (nth s i).at_ := by
  have := g.ended i hi
  unfold res
  split
  · simp [this]
  · exact this
theorem Reach.res {N : List S48} {G P : List Int} (h : Reach N G P L s) {w : Nat} (hw : w < L.length) : (nth s w).ended = res (nth s w) := by
  have a := h.good.z w hw (h.done w hw)
  unfold Pure.res
  rw [if_neg (by omega)]
theorem Reach.backs {N : List S48} {G P : List Int} (h : Reach N G P L s) {w : Nat} (hw : w < L.length) : (s.ones.map One.ended).getD w [] = Pure.res (nth s w) := by
  rw [← h.res hw]
  have := h.good.il hw
  unfold nth
  simp [List.getD_eq_getElem?_getD, List.getElem?_map, List.getElem?_eq_getElem this]
theorem Reach.res_len {N : List S48} {G P : List Int} (h : Reach N G P L s) {w : Nat} (hw : w < L.length) : (Pure.res (nth s w)).length = (L.getD w []).length := by
  rw [← h.res hw, h.good.ended w hw, h.done w hw]
end
/-! ### what is kept -/
/-- A group that comes back is one of the memo; else there is none. -/
def BackOk (P : List Int) (b : S73) : Prop := (b.f1 = 0 → inB P b.f0 = true) ∧ (b.f1 ≠ 0 → b.f0 = -1)
structure Later (N : List S48) (G P : List Int) (N' : List S48) (G' P' : List Int) : Prop where
  may : mayMB N' G' P' = true
  n : N.length ≤ N'.length
  p : P.length ≤ P'.length
  ns : ∀ j, j < N.length → N'.getD j z48 = N.getD j z48
  gs : ∀ j, j < N.length → G'.getD j 0 = G.getD j 0
  one : ∀ a b, inB P a = true → inB P b = true → findS P a = findS P b → findS P' a = findS P' b
theorem Later.refl {N : List S48} {G P : List Int} (h : mayMB N G P = true) : Later N G P N G P := ⟨h, Nat.le_refl _, Nat.le_refl _, fun _ _ => rfl, fun _ _ => rfl, fun _ _ _ _ e => e⟩
theorem inB_up {P P' : List Int} (h : P.length ≤ P'.length) {a : Int} (ha : inB P a = true) : inB P' a = true := by
  have := inB_iff.1 ha
  exact inB_iff.2 ⟨this.1, by omega⟩
theorem Later.trans {N N1 N2 : List S48} {G P G1 P1 G2 P2 : List Int} (h : Later N G P N1 G1 P1) (h' : Later N1 G1 P1 N2 G2 P2) : Later N G P N2 G2 P2 :=
  ⟨h'.may, Nat.le_trans h.n h'.n, Nat.le_trans h.p h'.p, fun j hj => (h'.ns j (Nat.lt_of_lt_of_le hj h.n)).trans (h.ns j hj), fun j hj => (h'.gs j (Nat.lt_of_lt_of_le hj h.n)).trans (h.gs j hj),
    fun a b ha hb e => h'.one a b (inB_up h.p ha) (inB_up h.p hb) (h.one a b ha hb e)⟩
theorem BackOk.up {P P' : List Int} (h : P.length ≤ P'.length) {b : S73} (k : BackOk P b) : BackOk P' b := ⟨fun e => inB_up h (k.1 e), k.2⟩
theorem there_ok {P : List Int} {x : Int} (h : x = -1 ∨ inB P x = true) : BackOk P ⟨(thereT x).1, (thereT x).2⟩ := by
  unfold thereT
  by_cases hx : x = -1
  · rw [if_pos hx]; exact ⟨fun e => absurd (show (2 : Int) = 0 from e) (by decide), fun _ => rfl⟩
  · rw [if_neg hx]; exact ⟨fun _ => h.resolve_left hx, fun e => absurd rfl e⟩
theorem do_later {N : List S48} {G P : List Int} (hm : mayMB N G P = true) (c : S76) : Later N G P (doT N G P c).1 (doT N G P c).2.1 (doT N G P c).2.2.1 ∧ BackOk (doT N G P c).2.2.1 ⟨(doT N G P c).2.2.2.1, (doT N G P c).2.2.2.2⟩ := by
  have hP := may_P hm
  unfold doT
  by_cases h0 : c.f0 = 0
  · simp only [if_pos h0]
    have h := put_cases N G P c.f1 c.f2
    by_cases he : (putT N G P c.f1 c.f2).2.2.2.2 = 0
    · have k := h.ok he
      obtain ⟨i, hi, _, hh⟩ := k.at_
      refine ⟨⟨k.may, k.n0, k.p0, k.ns, k.gs, k.one⟩, fun _ => ?_, fun e => absurd he e⟩
      show inB _ (putT N G P c.f1 c.f2).2.2.2.1 = true
      rw [hh]
      exact (find_bd (may_P k.may) (form_G (may_form k.may) hi)).1
    · obtain ⟨a, b, d, e⟩ := h.no he
      rw [b, d, e]
      exact ⟨Later.refl hm, fun e => absurd e he, fun _ => a⟩
  · simp only [if_neg h0]
    by_cases h1 : c.f0 = 1
    · simp only [if_pos h1]
      rcases mer_cases N G P c.f2 c.f3 with h | ⟨h, e⟩
      · rw [h]; exact ⟨Later.refl hm, fun e => absurd (show (1 : Int) = 0 from e) (by decide), fun _ => rfl⟩
      · rw [e]
        refine ⟨⟨h.after, Nat.le_refl _, Nat.le_of_eq h.len.symm, fun _ _ => rfl, fun _ _ => rfl, fun a b ha hb e => h.spec.le.same hP h.spec.may ha hb e⟩, fun _ => ?_, fun e => absurd rfl e⟩
        exact (find_bd h.spec.may (by rw [h.inB]; exact h.a)).1
    · simp only [if_neg h1]
      by_cases h2 : c.f0 = 2
      · simp only [if_pos h2]
        refine ⟨Later.refl hm, there_ok ?_⟩
        by_cases e : findS P c.f2 = -1
        · exact .inl e
        · exact .inr (find_bd hP (find_ne e).2).1
      · simp only [if_neg h2]
        by_cases h3 : c.f0 = 3
        · simp only [if_pos h3]
          refine ⟨Later.refl hm, there_ok ?_⟩
          rcases look_cases N G P c.f1 with ⟨h, _⟩ | ⟨_, _, i, hi, _, h⟩
          · rw [h]; exact .inl rfl
          · rw [h]; exact .inr (find_bd hP (form_G (may_form hm) hi)).1
        · simp only [if_neg h3]
          exact ⟨Later.refl hm, fun e => absurd (show (1 : Int) = 0 from e) (by decide), fun _ => rfl⟩
structure Keep (N : List S48) (G P : List Int) (s : St) : Prop where
  later : Later N G P s.N s.G s.P
  back : ∀ i b, b ∈ res (nth s i) → BackOk s.P b
theorem Reach.keep {N : List S48} {G P : List Int} {L : List (List S76)} {s : St} (h : Reach N G P L s) (hm : mayMB N G P = true) : Keep N G P s := by
  refine h.ind (Keep N G P) ⟨Later.refl hm, fun i b hb => ?_⟩ (fun s i g hi hl q => ?_)
  · exfalso
    by_cases hi : i < L.length
    · rw [start_nth N G P L hi] at hb; exact absurd hb List.not_mem_nil
    · have : nth (start N G P L) i = zOne := by
        unfold nth start
        rw [List.getD_eq_getElem?_getD, List.getElem?_eq_none (by simp; omega)]; rfl
      rw [this] at hb; exact absurd hb List.not_mem_nil
  · have hn := step_nth (g.il hi) hl
    have hst := g.st i hi
    have hm := step_memo hl
    by_cases h1 : (nth s i).st = 1
    · rw [if_pos h1] at hm
      injection hm with m1 hm
      injection hm with m2 m3
      obtain ⟨k, kb⟩ := do_later q.later.may ((nth s i).l.getD (nth s i).at_ z76)
      refine ⟨by rw [m1, m2, m3]; exact q.later.trans k, fun j b hb => ?_⟩
      rw [m3]
      rw [hn j] at hb
      by_cases e : j = i
      · rw [if_pos e, next_res hst, if_pos h1] at hb
        rcases List.mem_append.1 hb with h | h
        · exact (q.back i b h).up k.p
        · rw [List.mem_singleton.1 h]; exact kb
      · rw [if_neg e] at hb
        exact (q.back j b hb).up k.p
    · rw [if_neg h1] at hm
      injection hm with m1 hm
      injection hm with m2 m3
      refine ⟨by rw [m1, m2, m3]; exact q.later, fun j b hb => ?_⟩
      rw [m3]
      rw [hn j] at hb
      by_cases e : j = i
      · rw [if_pos e, next_res hst, if_neg h1] at hb
        exact q.back i b hb
      · rw [if_neg e] at hb
        exact q.back j b hb
end Go.Proofs.Ytkidnomkfdnciaa.Pure
end
section
namespace Go.Proofs.Ytkidnomkfdnciaa.Pure
open Go.RowKit Go.Proofs.Ytkidnomkfdnciaa.All Go.Proofs.YtkidnomkfdnciaaW.PrintWords
def isDone (x : S68) : Bool := decide (x.f2 = 1)
def callAt (L : List (List S76)) (x : S68) : S76 := (L.getD x.f0.toNat []).getD x.f1.toNat z76
def backAt (s : St) (x : S68) : S73 := (res (nth s x.f0.toNat)).getD x.f1.toNat z73
def isOf (w : Nat) (x : S68) : Bool := decide (x.f0 = (w : Int))
def mkD (w a : Nat) : S68 := ⟨(w : Int), (a : Int), 1⟩
theorem all_one (N : List S48) (G P : List Int) (c : S76) : allT N G P [c] = ((doT N G P c).1, (doT N G P c).2.1, (doT N G P c).2.2.1, [⟨(doT N G P c).2.2.2.1, (doT N G P c).2.2.2.2⟩]) := rfl
section
variable {L : List (List S76)} {s : St} {i : Nat} {N : List S48} {G P : List Int}
theorem step_res (g : Good L s) (hi : i < L.length) (hl : left s i) (w : Nat) : res (nth (stepT s i) w) = if w = i ∧ (nth s i).st = 1 then res (nth s i) ++ [⟨(doing s i).2.2.2.1, (doing s i).2.2.2.2⟩] else res (nth s w) := by
  rw [step_nth (g.il hi) hl]
  by_cases e : w = i
  · subst e
    rw [if_pos rfl, next_res (g.st w hi)]
    by_cases h1 : (nth s w).st = 1
    · rw [if_pos h1, if_pos ⟨rfl, h1⟩]
    · rw [if_neg h1, if_neg (fun h => h1 h.2)]
  · rw [if_neg e, if_neg (fun h => e h.1)]
theorem step_done (hl : left s i) : (stepT s i).ev.filter isDone = if (nth s i).st = 1 then s.ev.filter isDone ++ [mkD i (nth s i).at_] else s.ev.filter isDone := by
  unfold stepT
  rw [if_pos hl]
  dsimp only
  rw [List.filter_append]
  by_cases h1 : (nth s i).st = 1
  · rw [if_pos h1, h1]; rfl
  · rw [if_neg h1]
    have : isDone ⟨(i : Int), ((nth s i).at_ : Int), ((nth s i).st : Int)⟩ = false := decide_eq_false (by dsimp only; omega)
    rw [List.filter_cons, this]; simp
theorem memo_eq {s' : St} {N' : List S48} {G' P' : List Int} (h : (s'.N, s'.G, s'.P) = (N', G', P')) : s'.N = N' ∧ s'.G = G' ∧ s'.P = P' := by
  injection h with h1 h; injection h with h2 h3; exact ⟨h1, h2, h3⟩
structure OrdI (N : List S48) (G P : List Int) (L : List (List S76)) (s : St) : Prop where
  all : allT N G P ((s.ev.filter isDone).map (callAt L)) = (s.N, s.G, s.P, (s.ev.filter isDone).map (backAt s))
  cnt : ∀ w, w < L.length → ((s.ev.filter isDone).filter (isOf w)).length = (res (nth s w)).length
  who : ∀ j, j < (s.ev.filter isDone).length → ∃ w a, w < L.length ∧ a < (res (nth s w)).length ∧ (s.ev.filter isDone).getD j z68 = mkD w a ∧ (((s.ev.filter isDone).take j).filter (isOf w)).length = a
theorem OrdI.start (L : List (List S76)) : OrdI N G P L (start N G P L) :=
  ⟨rfl, fun w hw => by rw [start_nth N G P L hw]; rfl, fun j h => absurd h (Nat.not_lt_zero _)⟩
theorem mem_getD {α : Type} {l : List α} {x z : α} (h : x ∈ l) : ∃ j, j < l.length ∧ l.getD j z = x := by
  obtain ⟨j, hj, e⟩ := List.getElem_of_mem h
  exact ⟨j, hj, by rw [List.getD_eq_getElem?_getD, List.getElem?_eq_getElem hj, ← e]; rfl⟩
theorem OrdI.step (g : Good L s) (hi : i < L.length) (hl : left s i) (o : OrdI N G P L s) : OrdI N G P L (stepT s i) := by
  have hr := step_res g hi hl
  have hd := step_done hl
  have hm := step_memo hl
  by_cases h1 : (nth s i).st = 1
  · rw [if_pos h1] at hd hm
    obtain ⟨m1, m2, m3⟩ := memo_eq hm
    have hrl : (res (nth s i)).length = (nth s i).at_ := by rw [g.res_len hi, if_neg (by omega)]
    have ri : res (nth (stepT s i) i) = res (nth s i) ++ [⟨(doing s i).2.2.2.1, (doing s i).2.2.2.2⟩] := by rw [hr i, if_pos ⟨rfl, h1⟩]
    have rw_ : ∀ w, w ≠ i → res (nth (stepT s i) w) = res (nth s w) := fun w h => by rw [hr w, if_neg (fun q => h q.1)]
    have up : ∀ w, (res (nth s w)).length ≤ (res (nth (stepT s i) w)).length := fun w => by
      by_cases e : w = i
      · rw [e, ri]; simp
      · rw [rw_ w e]; exact Nat.le_refl _
    refine ⟨?_, fun w hw => ?_, fun j hj => ?_⟩
    · rw [hd, List.map_append, List.map_append, all_app, o.all, m1, m2, m3]
      have hc : callAt L (mkD i (nth s i).at_) = (nth s i).l.getD (nth s i).at_ z76 := by
        unfold callAt mkD
        rw [g.l i hi]; simp
      have hb : backAt (stepT s i) (mkD i (nth s i).at_) = ⟨(doing s i).2.2.2.1, (doing s i).2.2.2.2⟩ := by
        unfold backAt mkD
        simp only [Int.toNat_natCast]
        rw [ri, getD_snoc', if_neg (by omega), if_pos hrl.symm]
      have ho : (s.ev.filter isDone).map (backAt (stepT s i)) = (s.ev.filter isDone).map (backAt s) := by
        refine List.map_congr_left fun x hx => ?_
        obtain ⟨j, hj, rfl⟩ := mem_getD (z := z68) hx
        obtain ⟨w, a, hw, ha, e, _⟩ := o.who j hj
        rw [e]
        unfold backAt mkD
        simp only [Int.toNat_natCast]
        by_cases h : w = i
        · subst h; rw [ri, getD_snoc', if_pos ha]
        · rw [rw_ w h]
      simp only [List.map_cons, List.map_nil]
      rw [hc, hb, ho, all_one]
      rfl
    · rw [hd, List.filter_append, List.length_append, o.cnt w hw]
      by_cases e : w = i
      · subst e
        have : isOf w (mkD w (nth s w).at_) = true := decide_eq_true rfl
        rw [ri, List.filter_cons, this]; simp
      · have : isOf w (mkD i (nth s i).at_) = false := decide_eq_false (by unfold mkD; dsimp only; omega)
        rw [rw_ w e, List.filter_cons, this]; simp
    · rw [hd] at hj ⊢
      rw [List.length_append, List.length_singleton] at hj
      by_cases h : j < (s.ev.filter isDone).length
      · obtain ⟨w, a, hw, ha, e, hc⟩ := o.who j h
        refine ⟨w, a, hw, Nat.lt_of_lt_of_le ha (up w), by rw [getD_snoc', if_pos h]; exact e, ?_⟩
        rw [List.take_append_of_le_length (Nat.le_of_lt h)]; exact hc
      · obtain rfl : j = (s.ev.filter isDone).length := by omega
        refine ⟨i, (nth s i).at_, hi, by rw [ri]; simp; omega, by rw [getD_snoc', if_neg (by omega), if_pos rfl], ?_⟩
        rw [List.take_left, o.cnt i hi, hrl]
  · rw [if_neg h1] at hd hm
    obtain ⟨m1, m2, m3⟩ := memo_eq hm
    have hr : ∀ w, res (nth (stepT s i) w) = res (nth s w) := fun w => by rw [hr w, if_neg (fun h => h1 h.2)]
    refine ⟨?_, fun w hw => ?_, fun j hj => ?_⟩
    · rw [hd, m1, m2, m3, o.all]
      have : backAt (stepT s i) = backAt s := by funext x; unfold backAt; rw [hr]
      rw [this]
    · rw [hd, hr w]; exact o.cnt w hw
    · rw [hd] at hj ⊢
      obtain ⟨w, a, hw, ha, q⟩ := o.who j hj
      exact ⟨w, a, hw, by rw [hr w]; exact ha, q⟩
theorem Reach.ord (h : Reach N G P L s) : OrdI N G P L s := h.ind _ (OrdI.start L) (fun _ _ g hi hl q => q.step g hi hl)
/-! ### calls that only read -/
def backR (N : List S48) (G P : List Int) (c : S76) : S73 := ⟨(doT N G P c).2.2.2.1, (doT N G P c).2.2.2.2⟩
structure ReadI (N : List S48) (G P : List Int) (L : List (List S76)) (s : St) : Prop where
  n : s.N = N
  g : s.G = G
  p : s.P = P
  back : ∀ w, w < L.length → ∀ a, a < (res (nth s w)).length → (res (nth s w)).getD a z73 = backR N G P ((L.getD w []).getD a z76)
/-! ### one alone -/
theorem Reach.alone {l : List S76} (h : Reach N G P [l] s) : allT N G P l = (s.N, s.G, s.P, Pure.res (nth s 0)) := by
  have key : allT N G P (l.take (Pure.res (nth s 0)).length) = (s.N, s.G, s.P, Pure.res (nth s 0)) := by
    refine h.ind (fun s => allT N G P (l.take (Pure.res (nth s 0)).length) = (s.N, s.G, s.P, Pure.res (nth s 0))) ?_ (fun s i g hi hl q => ?_)
    · rw [start_nth N G P [l] (by simp)]; rfl
    · obtain rfl : i = 0 := by simpa using hi
      have hr := step_res g hi hl 0
      have hm := step_memo hl
      by_cases h1 : (nth s 0).st = 1
      · rw [if_pos h1] at hm
        obtain ⟨m1, m2, m3⟩ := memo_eq hm
        rw [if_pos ⟨rfl, h1⟩] at hr
        have hrl : (Pure.res (nth s 0)).length = (nth s 0).at_ := by rw [g.res_len hi, if_neg (by omega)]
        have hlt : (nth s 0).at_ < l.length := (g.left_iff hi).1 hl
        rw [hr, m1, m2, m3, List.length_append, List.length_singleton, hrl, List.take_succ_eq_append_getElem hlt, all_app]
        rw [hrl] at q
        rw [q, all_one]
        have hc : l[(nth s 0).at_] = (nth s 0).l.getD (nth s 0).at_ z76 := by
          rw [g.l 0 hi]
          simp [List.getD_eq_getElem?_getD, List.getElem?_eq_getElem hlt]
        rw [hc]
        rfl
      · rw [if_neg h1] at hm
        obtain ⟨m1, m2, m3⟩ := memo_eq hm
        rw [if_neg (fun h => h1 h.2)] at hr
        rw [hr, m1, m2, m3]; exact q
  have := h.res_len (w := 0) (by simp)
  rw [this] at key
  have e : l.take (List.getD [l] 0 []).length = l := List.take_length
  rw [e] at key
  exact key
end
end Go.Proofs.Ytkidnomkfdnciaa.Pure
end
