/- What Run comes to: steps, one behind the other; what holds through all of them. Nothing is proved of the program here. -/
import Derived.Test.YtkidnomkfdnciaaCalls1
import Derived.Test.YtkidnomkfdnciaaAllx24
namespace Go.Proofs.Ytkidnomkfdnciaa.Pure
open Go.RowKit Go.Proofs.Ytkidnomkfdnciaa.All Go.Proofs.YtkidnomkfdnciaaW.PrintWords
theorem do_bad {N : List S48} {G P : List Int} (hm : mayMB N G P = false) (c : S76) : (doT N G P c).1 = N ∧ (doT N G P c).2.1 = G ∧ (doT N G P c).2.2.1 = P := by
  unfold doT
  by_cases h0 : c.f0 = 0
  · simp only [if_pos h0]
    have h := put_cases N G P c.f1 c.f2
    by_cases he : (putT N G P c.f1 c.f2).2.2.2.2 = 0
    · have := (h.ok he).was
      rw [hm] at this; cases this
    · exact ⟨(h.no he).2.1, (h.no he).2.2.1, (h.no he).2.2.2⟩
  · simp only [if_neg h0]
    by_cases h1 : c.f0 = 1
    · simp only [if_pos h1]
      rcases mer_cases N G P c.f2 c.f3 with h | ⟨h, e⟩
      · rw [h]; simp
      · have := h.may
        rw [hm] at this; cases this
    · simp only [if_neg h1]
      split
      · exact ⟨rfl, rfl, rfl⟩
      · split <;> exact ⟨rfl, rfl, rfl⟩
theorem do_lim {N : List S48} {G P : List Int} (h : Lim N G P) (c : S76) : Lim (doT N G P c).1 (doT N G P c).2.1 (doT N G P c).2.2.1 := by
  cases hm : mayMB N G P with
  | true => exact may_Lim (do_may hm c)
  | false =>
    obtain ⟨a, b, d⟩ := do_bad hm c
    rw [a, b, d]; exact h
/-! ### a step -/
def nth (s : St) (i : Nat) : One := s.ones.getD i zOne
def rank (o : One) : Nat := 3 * o.at_ + o.st
def doing (s : St) (i : Nat) : List S48 × List Int × List Int × Int × Int := doT s.N s.G s.P ((nth s i).l.getD (nth s i).at_ z76)
def nextOne (s : St) (i : Nat) : One :=
  if (nth s i).st = 0 then { nth s i with st := 1 }
  else if (nth s i).st = 1 then { nth s i with g := (doing s i).2.2.2.1, e := (doing s i).2.2.2.2, st := 2 }
  else { nth s i with ended := (nth s i).ended ++ [⟨(nth s i).g, (nth s i).e⟩], at_ := (nth s i).at_ + 1, st := 0 }
def left (s : St) (i : Nat) : Prop := (nth s i).at_ < (nth s i).l.length
instance (s : St) (i : Nat) : Decidable (left s i) := by unfold left; infer_instance
def stepT (s : St) (i : Nat) : St :=
  if left s i then
    { N := if (nth s i).st = 1 then (doing s i).1 else s.N
      G := if (nth s i).st = 1 then (doing s i).2.1 else s.G
      P := if (nth s i).st = 1 then (doing s i).2.2.1 else s.P
      ev := s.ev ++ [⟨(i : Int), ((nth s i).at_ : Int), ((nth s i).st : Int)⟩]
      ones := s.ones.set i (nextOne s i) }
  else s
def Small (L : List (List S76)) : Prop := L.length ≤ 12 ∧ ∀ i, i < L.length → (L.getD i []).length ≤ 12
structure Good (L : List (List S76)) (s : St) : Prop where
  len : s.ones.length = L.length
  l : ∀ i, i < L.length → (nth s i).l = L.getD i []
  st : ∀ i, i < L.length → (nth s i).st ≤ 2
  at_ : ∀ i, i < L.length → (nth s i).at_ ≤ (L.getD i []).length
  z : ∀ i, i < L.length → (nth s i).at_ = (L.getD i []).length → (nth s i).st = 0
  ended : ∀ i, i < L.length → (nth s i).ended.length = (nth s i).at_
  ev : s.ev.length = (s.ones.map rank).sum
  lim : Lim s.N s.G s.P
theorem sum_set (f : One → Nat) : ∀ (l : List One) (i : Nat) (o : One), i < l.length → ((l.set i o).map f).sum + f (l.getD i zOne) = (l.map f).sum + f o
  | [], i, o, h => by simp at h
  | x :: t, 0, o, _ => by simp [List.sum_cons]; omega
  | x :: t, i + 1, o, h => by
    have := sum_set f t i o (by simpa using h)
    simp only [List.set_cons_succ, List.map_cons, List.sum_cons, List.getD_cons_succ]
    omega
theorem sum_le (f : One → Nat) (m : Nat) : ∀ (l : List One), (∀ i, i < l.length → f (l.getD i zOne) ≤ m) → (l.map f).sum ≤ m * l.length
  | [], _ => by simp
  | x :: t, h => by
    have h0 := h 0 (by simp)
    have := sum_le f m t (fun i hi => h (i + 1) (by simpa using hi))
    simp only [List.map_cons, List.sum_cons, List.length_cons, Nat.mul_add, List.getD_cons_zero] at *
    omega
theorem next_l (s : St) (i : Nat) : (nextOne s i).l = (nth s i).l := by
  unfold nextOne
  split
  · rfl
  · split <;> rfl
section
variable {L : List (List S76)} {s : St} {i : Nat}
theorem Good.il (g : Good L s) (hi : i < L.length) : i < s.ones.length := by rw [g.len]; exact hi
theorem Good.left_iff (g : Good L s) (hi : i < L.length) : left s i ↔ (nth s i).at_ < (L.getD i []).length := by
  unfold left
  rw [g.l i hi]
theorem next_rank (h : (nth s i).st ≤ 2) : rank (nextOne s i) = rank (nth s i) + 1 := by
  unfold nextOne rank
  split
  · rename_i e; simp only; omega
  · split
    · rename_i e; simp only; omega
    · simp only; omega
theorem nth_set (j : Nat) (o : One) {s' : St} (e : s'.ones = s.ones.set i o) (hi : i < s.ones.length) : nth s' j = if j = i then o else nth s j := by
  unfold nth
  rw [e, set_getD]
  by_cases hj : j = i
  · rw [if_pos ⟨hj, hi⟩, if_pos hj]
  · rw [if_neg (fun h => hj h.1), if_neg hj]
theorem step_nth (hi : i < s.ones.length) (hl : left s i) (j : Nat) : nth (stepT s i) j = if j = i then nextOne s i else nth s j :=
  nth_set j _ (by unfold stepT; rw [if_pos hl]) hi
theorem step_no (hl : ¬ left s i) : stepT s i = s := by unfold stepT; rw [if_neg hl]
theorem Good.ev_le (g : Good L s) (hs : Small L) : s.ev.length ≤ 500 := by
  rw [g.ev]
  have := sum_le rank 38 s.ones (fun i hi => by
    have hi : i < L.length := by rw [← g.len]; exact hi
    have h1 := g.at_ i hi
    have h2 := g.st i hi
    have h3 := hs.2 i hi
    unfold nth at h1 h2
    unfold rank
    omega)
  have h2 := hs.1
  rw [← g.len] at h2
  omega
theorem step_good (g : Good L s) (hi : i < L.length) : Good L (stepT s i) := by
  by_cases hl : left s i
  · have hil := g.il hi
    have hst := g.st i hi
    have hlt := (g.left_iff hi).1 hl
    have hn := step_nth hil hl
    refine ⟨?_, fun j hj => ?_, fun j hj => ?_, fun j hj => ?_, fun j hj => ?_, fun j hj => ?_, ?_, ?_⟩
    · unfold stepT; rw [if_pos hl]; simp [g.len]
    · rw [hn j]
      split
      · rename_i e; subst e; rw [next_l]; exact g.l j hj
      · exact g.l j hj
    · rw [hn j]
      split
      · unfold nextOne
        split
        · simp
        · split <;> simp
      · exact g.st j hj
    · rw [hn j]
      split
      · rename_i e; subst e
        unfold nextOne
        split
        · exact Nat.le_of_lt hlt
        · split
          · exact Nat.le_of_lt hlt
          · exact hlt
      · exact g.at_ j hj
    · rw [hn j]
      split
      · rename_i e; subst e
        unfold nextOne
        split
        · intro e; simp only at e; omega
        · split
          · intro e; simp only at e; omega
          · intro _; rfl
      · exact g.z j hj
    · rw [hn j]
      split
      · rename_i e; subst e
        have := g.ended j hj
        unfold nextOne
        split
        · exact this
        · split
          · exact this
          · simp [this]
      · exact g.ended j hj
    · have h1 := sum_set rank s.ones i (nextOne s i) hil
      have h2 : rank (nextOne s i) = rank (s.ones.getD i zOne) + 1 := next_rank hst
      have h3 := g.ev
      unfold stepT
      rw [if_pos hl]
      simp only [List.length_append, List.length_singleton]
      omega
    · unfold stepT
      rw [if_pos hl]
      by_cases h1 : (nth s i).st = 1
      · simp only [if_pos h1]
        exact do_lim g.lim _
      · simp only [if_neg h1]
        exact g.lim
  · rw [step_no hl]; exact g
theorem stepO_T (g : Good L s) (hs : Small L) (hi : i < L.length) {k : Nat} (hk : 500 ≤ k) : stepO k s i = some (stepT s i) := by
  have hil := g.il hi
  have hst := g.st i hi
  have hev := g.ev_le hs
  have hen := g.ended i hi
  have hat := g.at_ i hi
  have hsm := hs.2 i hi
  unfold stepO
  by_cases hl : left s i
  · rw [if_pos (show (s.ones.getD i zOne).at_ < (s.ones.getD i zOne).l.length from hl)]
    unfold stepT
    rw [if_pos hl]
    unfold midO
    change (nth s i).st ≤ 2 at hst
    change ((if (nth s i).st = 0 then some s else if (nth s i).st = 1 then _ else if (nth s i).st = 2 ∧ (nth s i).ended.length ≤ 1000 then _ else none) : Option St).bind _ = _
    by_cases h0 : (nth s i).st = 0
    · rw [if_pos h0]
      simp only [Option.bind_some]
      rw [if_pos (by omega)]
      have hb : bump (s.ones.getD i zOne) = nextOne s i := by
        show bump (nth s i) = _
        unfold bump nextOne
        rw [if_pos h0, if_neg (show ¬ (nth s i).st = 2 by omega), h0]
      rw [hb, if_neg (by omega), if_neg (by omega), if_neg (by omega)]
      rfl
    · rw [if_neg h0]
      by_cases h1 : (nth s i).st = 1
      · rw [if_pos h1]
        have hd : runDo k s.N s.G s.P ((s.ones.getD i zOne).l.getD (s.ones.getD i zOne).at_ z76) = some (doing s i) := do_k g.lim _ hk
        rw [hd]
        simp only [Option.bind_some]
        rw [if_pos (by omega), if_pos h1, if_pos h1, if_pos h1]
        have hn : nextOne s i = bump { nth s i with g := (doing s i).2.2.2.1, e := (doing s i).2.2.2.2 } := by
          unfold nextOne bump
          rw [if_neg h0, if_pos h1, if_neg (show ¬ (nth s i).st = 2 by omega), h1]
        rw [hn]
        simp only [List.set_set, set_getD, hil, and_self, if_true]
        rfl
      · rw [if_neg h1, if_pos ⟨by omega, by omega⟩]
        simp only [Option.bind_some]
        rw [if_pos (by omega), if_neg h1, if_neg h1, if_neg h1]
        have h2 : (nth s i).st = 2 := by omega
        have hn : nextOne s i = bump { nth s i with ended := (nth s i).ended ++ [⟨(nth s i).g, (nth s i).e⟩] } := by
          unfold nextOne bump
          simp only [if_neg h0, if_neg h1, if_pos h2]
        rw [hn]
        simp only [List.set_set, set_getD, hil, and_self, if_true]
        rfl
  · rw [if_neg (show ¬ (s.ones.getD i zOne).at_ < (s.ones.getD i zOne).l.length from hl), step_no hl]
/-! ### all steps -/
theorem fold_good (is : List Nat) : ∀ {s : St}, Good L s → (∀ i, i ∈ is → i < L.length) → Good L (is.foldl stepT s) := by
  induction is with
  | nil => intro s g _; exact g
  | cons i t ih => intro s g h; exact ih (step_good g (h i (by simp))) (fun j hj => h j (by simp [hj]))
theorem fold_ind (Q : St → Prop) (hQ : ∀ s i, Good L s → i < L.length → left s i → Q s → Q (stepT s i)) (is : List Nat) : ∀ {s : St}, Good L s → (∀ i, i ∈ is → i < L.length) → Q s → Q (is.foldl stepT s) := by
  induction is with
  | nil => intro s _ _ q; exact q
  | cons i t ih =>
    intro s g h q
    refine ih (step_good g (h i (by simp))) (fun j hj => h j (by simp [hj])) ?_
    by_cases hl : left s i
    · exact hQ s i g (h i (by simp)) hl q
    · rw [step_no hl]; exact q
theorem script_is (hs : Small L) {k : Nat} (hk : 500 ≤ k) : ∀ (sc : List Int) {s : St}, Good L s → ∃ is : List Nat, (∀ i, i ∈ is → i < L.length) ∧ scriptO k L.length sc s = some (is.foldl stepT s)
  | [], s, _ => ⟨[], fun _ h => absurd h List.not_mem_nil, rfl⟩
  | x :: t, s, g => by
    rw [scriptO]
    by_cases hx : 0 ≤ x ∧ 0 < L.length
    · have hi : x.toNat % L.length < L.length := Nat.mod_lt _ hx.2
      rw [if_pos hx, stepO_T g hs hi hk]
      obtain ⟨is, h1, h2⟩ := script_is hs hk t (step_good g hi)
      refine ⟨(x.toNat % L.length) :: is, fun j hj => ?_, h2⟩
      rcases List.mem_cons.1 hj with h | h
      · rw [h]; exact hi
      · exact h1 j h
    · rw [if_neg hx]; exact script_is hs hk t g
theorem fin_is (hs : Small L) (hi : i < L.length) {k : Nat} (hk : 500 ≤ k) : ∀ (f : Nat) {s : St}, Good L s → 3 * (L.getD i []).length < rank (nth s i) + f → ∃ is : List Nat, (∀ j, j ∈ is → j = i) ∧ finO k i f s = some (is.foldl stepT s) ∧ ¬ left (is.foldl stepT s) i
  | 0, s, g, h => by
    have h1 := g.at_ i hi
    have h2 := g.st i hi
    have h3 := g.z i hi
    unfold rank at h
    by_cases e : (nth s i).at_ = (L.getD i []).length
    · have := h3 e; omega
    · omega
  | f + 1, s, g, h => by
    rw [finO]
    by_cases hl : left s i
    · rw [if_pos (show (s.ones.getD i zOne).at_ < (s.ones.getD i zOne).l.length from hl), stepO_T g hs hi hk]
      have hr : rank (nth (stepT s i) i) = rank (nth s i) + 1 := by rw [step_nth (g.il hi) hl, if_pos rfl]; exact next_rank (g.st i hi)
      obtain ⟨is, h1, h2, h3⟩ := fin_is hs hi hk f (step_good g hi) (by omega)
      refine ⟨i :: is, fun j hj => ?_, h2, h3⟩
      rcases List.mem_cons.1 hj with h | h
      · exact h
      · exact h1 j h
    · rw [if_neg (show ¬ (s.ones.getD i zOne).at_ < (s.ones.getD i zOne).l.length from hl)]; exact ⟨[], fun _ h => absurd h List.not_mem_nil, rfl, hl⟩
theorem done_keeps (is : List Nat) {j : Nat} : ∀ {s : St}, Good L s → (∀ i, i ∈ is → i < L.length) → ¬ left s j → ¬ left (is.foldl stepT s) j := fun {s} g h q =>
  fold_ind (fun s => ¬ left s j) (fun s i g hi hl q => by
    unfold left
    rw [step_nth (g.il hi) hl]
    by_cases e : j = i
    · subst e; exact absurd hl q
    · rw [if_neg e]; exact q) is g h q
theorem last_is (hs : Small L) {k : Nat} (hk : 500 ≤ k) : ∀ (d i : Nat) {s : St}, i + d = L.length → Good L s → (∀ j, j < i → ¬ left s j) → ∃ is : List Nat, (∀ j, j ∈ is → j < L.length) ∧ lastO k d i s = some (is.foldl stepT s) ∧ ∀ j, j < L.length → ¬ left (is.foldl stepT s) j
  | 0, i, s, hd, g, h => ⟨[], fun _ h => absurd h List.not_mem_nil, rfl, fun j hj => h j (by omega)⟩
  | d + 1, i, s, hd, g, h => by
    have hi : i < L.length := by omega
    have := hs.2 i hi
    obtain ⟨is, h1, h2, h3⟩ := fin_is hs hi hk k g (by omega)
    have h1' : ∀ j, j ∈ is → j < L.length := fun j hj => by rw [h1 j hj]; exact hi
    obtain ⟨is', h4, h5, h6⟩ := last_is hs hk d (i + 1) (by omega) (fold_good is g h1') (fun j hj => by
      by_cases e : j = i
      · rw [e]; exact h3
      · exact done_keeps is g h1' (h j (by omega)))
    rw [lastO, h2]
    refine ⟨is ++ is', fun j hj => ?_, ?_, ?_⟩
    · rcases List.mem_append.1 hj with h | h
      · exact h1' j h
      · exact h4 j h
    · rw [List.foldl_append]; exact h5
    · rw [List.foldl_append]; exact h6
end
def start (N : List S48) (G P : List Int) (L : List (List S76)) : St := ⟨N, G, P, [], L.map mkOne⟩
theorem start_nth (N : List S48) (G P : List Int) (L : List (List S76)) {i : Nat} (hi : i < L.length) : nth (start N G P L) i = mkOne (L.getD i []) := by
  unfold nth start
  simp [List.getD_eq_getElem?_getD, List.getElem?_map, List.getElem?_eq_getElem hi]
theorem start_good {N : List S48} {G P : List Int} (h : Lim N G P) (L : List (List S76)) : Good L (start N G P L) := by
  refine ⟨by simp [start], fun i hi => ?_, fun i hi => ?_, fun i hi => ?_, fun i hi => ?_, fun i hi => ?_, ?_, h⟩
  · rw [start_nth N G P L hi]; rfl
  · rw [start_nth N G P L hi]; simp [mkOne]
  · rw [start_nth N G P L hi]; simp [mkOne]
  · intro _; rw [start_nth N G P L hi]; rfl
  · rw [start_nth N G P L hi]; rfl
  · have : ∀ l : List (List S76), ((l.map mkOne).map rank).sum = 0 := fun l => by
      induction l with
      | nil => rfl
      | cons x t ih => simp only [List.map_cons, List.sum_cons, ih]; rfl
    exact (this L).symm
/-- What holds of a run's end. -/
structure Reach (N : List S48) (G P : List Int) (L : List (List S76)) (s : St) : Prop where
  good : Good L s
  done : ∀ j, j < L.length → (nth s j).at_ = (L.getD j []).length
  ind : ∀ Q : St → Prop, Q (start N G P L) → (∀ s i, Good L s → i < L.length → left s i → Q s → Q (stepT s i)) → Q s
theorem run_T0 {N : List S48} {G P : List Int} {L : List (List S76)} (hL : Lim N G P) (hs : Small L) (sc : List Int) {k : Nat} (hk : 500 ≤ k) : ∃ s, calls_Run.f k N G P L sc = some (s.N, s.G, s.P, s.ones.map One.ended, s.ev) ∧ Reach N G P L s := by
  have g0 := start_good hL L
  obtain ⟨is, h1, h2⟩ := script_is hs hk sc g0
  have g1 := fold_good is g0 h1
  obtain ⟨is', h3, h4, h5⟩ := last_is hs hk L.length 0 (by omega) g1 (fun j hj => by omega)
  have g2 := fold_good is' g1 h3
  refine ⟨is'.foldl stepT (is.foldl stepT (start N G P L)), ?_, g2, fun j hj => ?_, fun Q q0 hQ => fold_ind Q hQ is' g1 h3 (fold_ind Q hQ is g0 h1 q0)⟩
  · unfold calls_Run.f
    rw [if_pos hL.lim3, if_neg]
    · unfold runS
      have h2' : scriptO k L.length sc ⟨N, G, P, [], L.map mkOne⟩ = _ := h2
      rw [h2']
      simp only [Option.bind_some]
      rw [h4]
      rfl
    · rintro (h | h)
      · have := hs.1; omega
      · obtain ⟨x, hx, hm⟩ := List.any_eq_true.1 h
        obtain ⟨i, hi, rfl⟩ := List.getElem_of_mem hx
        have := hs.2 i hi
        rw [List.getD_eq_getElem?_getD, List.getElem?_eq_getElem hi] at this
        unfold manyB at hm
        simp at hm this
        omega
  · have a := g2.at_ j hj
    have b := mt (g2.left_iff hj).2 (h5 j hj)
    omega
theorem run_T {N : List S48} {G P : List Int} {L : List (List S76)} (hL : Lim N G P) (hs : Small L) (sc : List Int) : ∃ s, (∀ k, 500 ≤ k → calls_Run.f k N G P L sc = some (s.N, s.G, s.P, s.ones.map One.ended, s.ev)) ∧ Reach N G P L s := by
  obtain ⟨s, h, hr⟩ := run_T0 hL hs sc (k := 500) (by omega)
  refine ⟨s, fun k hk => ?_, hr⟩
  obtain ⟨d, rfl⟩ : ∃ d, k = 500 + d := ⟨k - 500, by omega⟩
  clear hk
  induction d with
  | zero => exact h
  | succ d ih => exact calls_Run.mono _ _ _ _ _ _ _ ih
end Go.Proofs.Ytkidnomkfdnciaa.Pure
