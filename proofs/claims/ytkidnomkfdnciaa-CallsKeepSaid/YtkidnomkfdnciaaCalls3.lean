/- What holds of the events of a run, and of what comes back. Nothing is proved of the program here. -/
import Derived.Test.YtkidnomkfdnciaaCalls2
namespace Go.Proofs.Ytkidnomkfdnciaa.Pure
open Go.RowKit Go.Proofs.Ytkidnomkfdnciaa.All Go.Proofs.YtkidnomkfdnciaaW.PrintWords
def mkE (w r : Nat) : S68 := ⟨(w : Int), ((r / 3 : Nat) : Int), ((r % 3 : Nat) : Int)⟩
theorem mkE_inj {w r w' r' : Nat} (h : mkE w r = mkE w' r') : w = w' ∧ r = r' := by
  unfold mkE at h
  injection h with h1 h2 h3
  have h1 := Int.ofNat.inj h1
  have h2 := Int.ofNat.inj h2
  have h3 := Int.ofNat.inj h3
  omega
theorem getD_snoc' {α : Type} (l : List α) (x z : α) (i : Nat) : (l ++ [x]).getD i z = if i < l.length then l.getD i z else if i = l.length then x else z := getD_snoc l x z i
/-- What came back of one so far. -/
def res (o : One) : List S73 := if o.st = 2 then o.ended ++ [⟨o.g, o.e⟩] else o.ended
section
variable {L : List (List S76)} {s : St} {i : Nat}
theorem step_ev (hl : left s i) (hst : (nth s i).st ≤ 2) : (stepT s i).ev = s.ev ++ [mkE i (rank (nth s i))] := by
  unfold stepT mkE rank
  rw [if_pos hl]
  have a : (3 * (nth s i).at_ + (nth s i).st) / 3 = (nth s i).at_ := by omega
  have b : (3 * (nth s i).at_ + (nth s i).st) % 3 = (nth s i).st := by omega
  rw [a, b]
structure EvI (L : List (List S76)) (s : St) : Prop where
  a : ∀ j, j < s.ev.length → ∃ w r, w < L.length ∧ r < rank (nth s w) ∧ s.ev.getD j z68 = mkE w r
  b : ∀ j j' w r r', j < j' → j' < s.ev.length → s.ev.getD j z68 = mkE w r → s.ev.getD j' z68 = mkE w r' → r < r'
  c : ∀ w, w < L.length → ∀ r, r < rank (nth s w) → ∃ j, j < s.ev.length ∧ s.ev.getD j z68 = mkE w r
theorem EvI.start (N : List S48) (G P : List Int) (L : List (List S76)) : EvI L (start N G P L) :=
  ⟨fun j h => absurd h (Nat.not_lt_zero _), fun j j' w r r' _ h => absurd h (Nat.not_lt_zero _), fun w hw r hr => by
    rw [start_nth N G P L hw] at hr
    exact absurd hr (Nat.not_lt_zero _)⟩
theorem EvI.step (g : Good L s) (hi : i < L.length) (hl : left s i) (e : EvI L s) : EvI L (stepT s i) := by
  have hn := step_nth (g.il hi) hl
  have hst := g.st i hi
  have hev := step_ev hl hst
  have hr := next_rank (s := s) hst
  have hlen : (stepT s i).ev.length = s.ev.length + 1 := by rw [hev]; simp
  have up : ∀ w, rank (nth s w) ≤ rank (nth (stepT s i) w) := fun w => by
    rw [hn w]
    split
    · rename_i h; subst h; omega
    · exact Nat.le_refl _
  have old : ∀ j, j < s.ev.length → (stepT s i).ev.getD j z68 = s.ev.getD j z68 := fun j hj => by rw [hev, getD_snoc', if_pos hj]
  have new : (stepT s i).ev.getD s.ev.length z68 = mkE i (rank (nth s i)) := by rw [hev, getD_snoc', if_neg (by omega), if_pos rfl]
  refine ⟨fun j hj => ?_, fun j j' w r r' hjj hj' h h' => ?_, fun w hw r hwr => ?_⟩
  · by_cases h : j < s.ev.length
    · obtain ⟨w, r, h1, h2, h3⟩ := e.a j h
      exact ⟨w, r, h1, Nat.lt_of_lt_of_le h2 (up w), by rw [old j h]; exact h3⟩
    · obtain rfl : j = s.ev.length := by omega
      exact ⟨i, _, hi, by rw [hn i, if_pos rfl]; omega, new⟩
  · rw [old j (by omega)] at h
    by_cases h1 : j' < s.ev.length
    · rw [old j' h1] at h'
      exact e.b j j' w r r' hjj h1 h h'
    · obtain rfl : j' = s.ev.length := by omega
      rw [new] at h'
      obtain ⟨rfl, rfl⟩ := mkE_inj h'
      obtain ⟨w0, r0, _, h2, h3⟩ := e.a j (by omega)
      rw [h] at h3
      obtain ⟨rfl, rfl⟩ := mkE_inj h3
      exact h2
  · rw [hn w] at hwr
    by_cases h : w = i
    · rw [if_pos h] at hwr
      subst h
      by_cases h2 : r < rank (nth s w)
      · obtain ⟨j, h3, h4⟩ := e.c w hw r h2
        exact ⟨j, by omega, by rw [old j h3]; exact h4⟩
      · obtain rfl : r = rank (nth s w) := by omega
        exact ⟨s.ev.length, by omega, new⟩
    · rw [if_neg h] at hwr
      obtain ⟨j, h3, h4⟩ := e.c w hw r hwr
      exact ⟨j, by omega, by rw [old j h3]; exact h4⟩
theorem Reach.events {N : List S48} {G P : List Int} (h : Reach N G P L s) : EvI L s := h.ind (EvI L) (EvI.start N G P L) (fun _ _ g hi hl q => q.step g hi hl)
theorem Reach.rank {N : List S48} {G P : List Int} (h : Reach N G P L s) {w : Nat} (hw : w < L.length) : rank (nth s w) = 3 * (L.getD w []).length := by
  have a := h.done w hw
  have b := h.good.z w hw a
  unfold Pure.rank
  omega
/-! ### what came back -/
theorem next_res (hst : (nth s i).st ≤ 2) : res (nextOne s i) = if (nth s i).st = 1 then res (nth s i) ++ [⟨(doing s i).2.2.2.1, (doing s i).2.2.2.2⟩] else res (nth s i) := by
  unfold nextOne res
  by_cases h0 : (nth s i).st = 0
  · simp [h0]
  · by_cases h1 : (nth s i).st = 1
    · simp [h1]
    · have h2 : (nth s i).st = 2 := by omega
      simp [h2]
theorem step_memo (hl : left s i) : ((stepT s i).N, (stepT s i).G, (stepT s i).P) = if (nth s i).st = 1 then ((doing s i).1, (doing s i).2.1, (doing s i).2.2.1) else (s.N, s.G, s.P) := by
  unfold stepT
  rw [if_pos hl]
  split <;> rfl
theorem Good.res_len (g : Good L s) (hi : i < L.length) : (res (nth s i)).length = if (nth s i).st = 2 then (nth s i).at_ + 1 else (nth s i).at_ := by
  have := g.ended i hi
  unfold res
  split
  · simp [this]
  · exact this
theorem Reach.res {N : List S48} {G P : List Int} (h : Reach N G P L s) {w : Nat} (hw : w < L.length) : (nth s w).ended = res (nth s w) := by
  have a := h.good.z w hw (h.done w hw)
  unfold Pure.res
  rw [if_neg (by omega)]
theorem Reach.backs {N : List S48} {G P : List Int} (h : Reach N G P L s) {w : Nat} (hw : w < L.length) : (s.ones.map One.ended).getD w [] = Pure.res (nth s w) := by
  rw [← h.res hw]
  have := h.good.il hw
  unfold nth
  simp [List.getD_eq_getElem?_getD, List.getElem?_map, List.getElem?_eq_getElem this]
theorem Reach.res_len {N : List S48} {G P : List Int} (h : Reach N G P L s) {w : Nat} (hw : w < L.length) : (Pure.res (nth s w)).length = (L.getD w []).length := by
  rw [← h.res hw, h.good.ended w hw, h.done w hw]
end
/-! ### what is kept -/
/-- A group that comes back is one of the memo; else there is none. -/
def BackOk (P : List Int) (b : S73) : Prop := (b.f1 = 0 → inB P b.f0 = true) ∧ (b.f1 ≠ 0 → b.f0 = -1)
structure Later (N : List S48) (G P : List Int) (N' : List S48) (G' P' : List Int) : Prop where
  may : mayMB N' G' P' = true
  n : N.length ≤ N'.length
  p : P.length ≤ P'.length
  ns : ∀ j, j < N.length → N'.getD j z48 = N.getD j z48
  gs : ∀ j, j < N.length → G'.getD j 0 = G.getD j 0
  one : ∀ a b, inB P a = true → inB P b = true → findS P a = findS P b → findS P' a = findS P' b
theorem Later.refl {N : List S48} {G P : List Int} (h : mayMB N G P = true) : Later N G P N G P := ⟨h, Nat.le_refl _, Nat.le_refl _, fun _ _ => rfl, fun _ _ => rfl, fun _ _ _ _ e => e⟩
theorem inB_up {P P' : List Int} (h : P.length ≤ P'.length) {a : Int} (ha : inB P a = true) : inB P' a = true := by
  have := inB_iff.1 ha
  exact inB_iff.2 ⟨this.1, by omega⟩
theorem Later.trans {N N1 N2 : List S48} {G P G1 P1 G2 P2 : List Int} (h : Later N G P N1 G1 P1) (h' : Later N1 G1 P1 N2 G2 P2) : Later N G P N2 G2 P2 :=
  ⟨h'.may, Nat.le_trans h.n h'.n, Nat.le_trans h.p h'.p, fun j hj => (h'.ns j (Nat.lt_of_lt_of_le hj h.n)).trans (h.ns j hj), fun j hj => (h'.gs j (Nat.lt_of_lt_of_le hj h.n)).trans (h.gs j hj),
    fun a b ha hb e => h'.one a b (inB_up h.p ha) (inB_up h.p hb) (h.one a b ha hb e)⟩
theorem BackOk.up {P P' : List Int} (h : P.length ≤ P'.length) {b : S73} (k : BackOk P b) : BackOk P' b := ⟨fun e => inB_up h (k.1 e), k.2⟩
theorem there_ok {P : List Int} {x : Int} (h : x = -1 ∨ inB P x = true) : BackOk P ⟨(thereT x).1, (thereT x).2⟩ := by
  unfold thereT
  by_cases hx : x = -1
  · rw [if_pos hx]; exact ⟨fun e => absurd (show (2 : Int) = 0 from e) (by decide), fun _ => rfl⟩
  · rw [if_neg hx]; exact ⟨fun _ => h.resolve_left hx, fun e => absurd rfl e⟩
theorem do_later {N : List S48} {G P : List Int} (hm : mayMB N G P = true) (c : S76) : Later N G P (doT N G P c).1 (doT N G P c).2.1 (doT N G P c).2.2.1 ∧ BackOk (doT N G P c).2.2.1 ⟨(doT N G P c).2.2.2.1, (doT N G P c).2.2.2.2⟩ := by
  have hP := may_P hm
  unfold doT
  by_cases h0 : c.f0 = 0
  · simp only [if_pos h0]
    have h := put_cases N G P c.f1 c.f2
    by_cases he : (putT N G P c.f1 c.f2).2.2.2.2 = 0
    · have k := h.ok he
      obtain ⟨i, hi, _, hh⟩ := k.at_
      refine ⟨⟨k.may, k.n0, k.p0, k.ns, k.gs, k.one⟩, fun _ => ?_, fun e => absurd he e⟩
      show inB _ (putT N G P c.f1 c.f2).2.2.2.1 = true
      rw [hh]
      exact (find_bd (may_P k.may) (form_G (may_form k.may) hi)).1
    · obtain ⟨a, b, d, e⟩ := h.no he
      rw [b, d, e]
      exact ⟨Later.refl hm, fun e => absurd e he, fun _ => a⟩
  · simp only [if_neg h0]
    by_cases h1 : c.f0 = 1
    · simp only [if_pos h1]
      rcases mer_cases N G P c.f2 c.f3 with h | ⟨h, e⟩
      · rw [h]; exact ⟨Later.refl hm, fun e => absurd (show (1 : Int) = 0 from e) (by decide), fun _ => rfl⟩
      · rw [e]
        refine ⟨⟨h.after, Nat.le_refl _, Nat.le_of_eq h.len.symm, fun _ _ => rfl, fun _ _ => rfl, fun a b ha hb e => h.spec.le.same hP h.spec.may ha hb e⟩, fun _ => ?_, fun e => absurd rfl e⟩
        exact (find_bd h.spec.may (by rw [h.inB]; exact h.a)).1
    · simp only [if_neg h1]
      by_cases h2 : c.f0 = 2
      · simp only [if_pos h2]
        refine ⟨Later.refl hm, there_ok ?_⟩
        by_cases e : findS P c.f2 = -1
        · exact .inl e
        · exact .inr (find_bd hP (find_ne e).2).1
      · simp only [if_neg h2]
        by_cases h3 : c.f0 = 3
        · simp only [if_pos h3]
          refine ⟨Later.refl hm, there_ok ?_⟩
          rcases look_cases N G P c.f1 with ⟨h, _⟩ | ⟨_, _, i, hi, _, h⟩
          · rw [h]; exact .inl rfl
          · rw [h]; exact .inr (find_bd hP (form_G (may_form hm) hi)).1
        · simp only [if_neg h3]
          exact ⟨Later.refl hm, fun e => absurd (show (1 : Int) = 0 from e) (by decide), fun _ => rfl⟩
structure Keep (N : List S48) (G P : List Int) (s : St) : Prop where
  later : Later N G P s.N s.G s.P
  back : ∀ i b, b ∈ res (nth s i) → BackOk s.P b
theorem Reach.keep {N : List S48} {G P : List Int} {L : List (List S76)} {s : St} (h : Reach N G P L s) (hm : mayMB N G P = true) : Keep N G P s := by
  refine h.ind (Keep N G P) ⟨Later.refl hm, fun i b hb => ?_⟩ (fun s i g hi hl q => ?_)
  · exfalso
    by_cases hi : i < L.length
    · rw [start_nth N G P L hi] at hb; exact absurd hb List.not_mem_nil
    · have : nth (start N G P L) i = zOne := by
        unfold nth start
        rw [List.getD_eq_getElem?_getD, List.getElem?_eq_none (by simp; omega)]; rfl
      rw [this] at hb; exact absurd hb List.not_mem_nil
  · have hn := step_nth (g.il hi) hl
    have hst := g.st i hi
    have hm := step_memo hl
    by_cases h1 : (nth s i).st = 1
    · rw [if_pos h1] at hm
      injection hm with m1 hm
      injection hm with m2 m3
      obtain ⟨k, kb⟩ := do_later q.later.may ((nth s i).l.getD (nth s i).at_ z76)
      refine ⟨by rw [m1, m2, m3]; exact q.later.trans k, fun j b hb => ?_⟩
      rw [m3]
      rw [hn j] at hb
      by_cases e : j = i
      · rw [if_pos e, next_res hst, if_pos h1] at hb
        rcases List.mem_append.1 hb with h | h
        · exact (q.back i b h).up k.p
        · rw [List.mem_singleton.1 h]; exact kb
      · rw [if_neg e] at hb
        exact (q.back j b hb).up k.p
    · rw [if_neg h1] at hm
      injection hm with m1 hm
      injection hm with m2 m3
      refine ⟨by rw [m1, m2, m3]; exact q.later, fun j b hb => ?_⟩
      rw [m3]
      rw [hn j] at hb
      by_cases e : j = i
      · rw [if_pos e, next_res hst, if_neg h1] at hb
        exact q.back i b hb
      · rw [if_neg e] at hb
        exact q.back j b hb
end Go.Proofs.Ytkidnomkfdnciaa.Pure
