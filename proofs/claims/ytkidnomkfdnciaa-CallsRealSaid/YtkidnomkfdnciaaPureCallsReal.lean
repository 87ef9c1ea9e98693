/- A call that ended ahead of when another began was done ahead of it, and each call's events stand in their order: for all memos, lists and scripts. No further condition. -/
import Derived.Test.YtkidnomkfdnciaaFew
import Derived.Test.YtkidnomkfdnciaaAllx70
namespace Go.Proofs.Ytkidnomkfdnciaa.Pure
open Go.RowKit Go.Proofs.Ytkidnomkfdnciaa.All Go.Proofs.YtkidnomkfdnciaaW.PrintWords
def CallsRealPure : Prop := ∀ (N0 : List S48) (G0 P0 : List Int), Lim N0 G0 P0 → ∀ l1 : List (List S76), l1.length ≤ 9223372036854775807 → ∀ l2 : List Int, l2.length * 8 ≤ 140737488351232 → ∃ k, roadbooklaw20_CallsReal.f k N0 G0 P0 l1 l2 = some true
theorem place_loop {ev : List S68} {x : S68} {j : Nat} (hj : j < ev.length) (e : ev.getD j z68 = x) (hl : ev.length < 1000) : ∀ (d i k : Nat), i + d = ev.length → i ≤ j → d < k → ∃ p : Nat, roadbooklaw20_place.l0 k ev (i : Int) x.f0 x.f1 x.f2 = some (p : Int) ∧ p < ev.length ∧ ev.getD p z68 = x
  | 0, i, k, hi, hij, hk => by omega
  | d + 1, i, k, hi, hij, hk => by
    obtain ⟨k, rfl⟩ : ∃ j, k = j + 1 := ⟨k - 1, by omega⟩
    rw [roadbooklaw20_place.l0, if_pos (by omega), if_pos (by omega)]
    have hr : rd_T68 ev (i : Int) = ev.getD i z68 := by unfold rd_T68; rw [Int.toNat_natCast]
    rw [hr]
    by_cases h : ev.getD i z68 = x
    · rw [if_pos (by rw [h]; simp)]
      exact ⟨i, rfl, by omega, h⟩
    · have hb : ((ev.getD i z68).f0 == x.f0 && ((ev.getD i z68).f1 == x.f1 && (ev.getD i z68).f2 == x.f2)) = false := by
        rw [Bool.eq_false_iff]
        intro q
        simp only [Bool.and_eq_true, beq_iff_eq] at q
        apply h
        generalize ev.getD i z68 = y at q
        obtain ⟨a, b, c⟩ := y
        obtain ⟨a', b', c'⟩ := x
        obtain ⟨rfl, rfl, rfl⟩ := q
        rfl
      rw [if_neg (by rw [hb]; decide), up1 (by omega)]
      refine place_loop hj e hl d (i + 1) k (by omega) ?_ (by omega)
      by_cases h2 : i = j
      · subst h2; exact absurd e h
      · omega
theorem place_k {ev : List S68} {x : S68} {j : Nat} (hj : j < ev.length) (e : ev.getD j z68 = x) (hl : ev.length < 1000) {k : Nat} (hk : 1000 ≤ k) : ∃ p : Nat, roadbooklaw20_place.f k ev x.f0 x.f1 x.f2 = some (p : Int) ∧ p < ev.length ∧ ev.getD p z68 = x :=
  place_loop hj e hl ev.length 0 k (by omega) (by omega) (by omega)
def Evt (g : Nat → Option Bool) : Prop := ∃ k0, ∀ k, k0 ≤ k → g k = some true
section
variable {L : List (List S76)} {s : St} {N : List S48} {G P : List Int}
theorem real_l2 (h : Reach N G P L s) (hl : s.ev.length < 1000) {i : Nat} (hi : i < s.ev.length) (h2 : (s.ev.getD i z68).f2 = 2) (hn : Evt fun k => roadbooklaw20_CallsReal.l1 k s.ev ((i + 1 : Nat) : Int)) :
    ∀ (d j : Nat), j + d = s.ev.length → i < j → Evt fun k => roadbooklaw20_CallsReal.l2 k s.ev (i : Int) (j : Int)
  | 0, j, hj, hij => by
    obtain ⟨k0, hk⟩ := hn
    refine ⟨k0 + 1, fun k h => ?_⟩
    obtain ⟨k, rfl⟩ : ∃ j, k = j + 1 := ⟨k - 1, by omega⟩
    dsimp only
    rw [roadbooklaw20_CallsReal.l2, if_neg (by omega), up1 (by omega)]
    exact hk k (by omega)
  | d + 1, j, hj, hij => by
    obtain ⟨k0, hk⟩ := real_l2 h hl hi h2 hn d (j + 1) (by omega) (by omega)
    refine ⟨k0 + 1002, fun k hkk => ?_⟩
    obtain ⟨k, rfl⟩ : ∃ j, k = j + 2 := ⟨k - 2, by omega⟩
    have E := h.events
    have hri : rd_T68 s.ev (i : Int) = s.ev.getD i z68 := by unfold rd_T68; rw [Int.toNat_natCast]
    have hrj : rd_T68 s.ev (j : Int) = s.ev.getD j z68 := by unfold rd_T68; rw [Int.toNat_natCast]
    obtain ⟨w, r, hw, hr, ei⟩ := E.a i hi
    obtain ⟨w', r', hw', hr', ej⟩ := E.a j (by omega)
    rw [h.rank hw] at hr
    rw [h.rank hw'] at hr'
    have r2 : r % 3 = 2 := by rw [ei] at h2; exact Int.ofNat.inj h2
    have j4 : roadbooklaw20_CallsReal.j4 (k + 1) s.ev (i : Int) (j : Int) false = some true := by
      rw [roadbooklaw20_CallsReal.j4, if_neg (by decide), if_pos (by omega), if_pos (by omega), hrj, hri]
      by_cases h0 : (s.ev.getD j z68).f2 = 0
      · have r0 : r' % 3 = 0 := by rw [ej] at h0; exact Int.ofNat.inj h0
        rw [if_pos h0, if_pos (by omega), if_pos (by omega)]
        obtain ⟨pa, hpa, ea⟩ := E.c w hw (r - 1) (by rw [h.rank hw]; omega)
        obtain ⟨pb, hpb, eb⟩ := E.c w' hw' (r' + 1) (by rw [h.rank hw']; omega)
        obtain ⟨a, ha, ha1, ha2⟩ := place_k hpa ea hl (k := k) (by omega)
        obtain ⟨b, hb, hb1, hb2⟩ := place_k hpb eb hl (k := k) (by omega)
        have ma : mkE w (r - 1) = ⟨(s.ev.getD i z68).f0, (s.ev.getD i z68).f1, 1⟩ := by
          rw [ei]; unfold mkE
          have a1 : (r - 1) / 3 = r / 3 := by omega
          have a2 : (r - 1) % 3 = 1 := by omega
          rw [a1, a2]; rfl
        have mb : mkE w' (r' + 1) = ⟨(s.ev.getD j z68).f0, (s.ev.getD j z68).f1, 1⟩ := by
          rw [ej]; unfold mkE
          have a1 : (r' + 1) / 3 = r' / 3 := by omega
          have a2 : (r' + 1) % 3 = 1 := by omega
          rw [a1, a2]; rfl
        rw [ma] at ha
        rw [mb] at hb
        rw [ha, hb]
        simp only [Option.bind_some]
        have c1 : a ≤ i := by
          rcases Nat.lt_trichotomy a i with q | q | q
          · omega
          · omega
          · have := E.b i a w r (r - 1) q ha1 ei ha2; omega
        have c2 : j ≤ b := by
          rcases Nat.lt_trichotomy b j with q | q | q
          · have := E.b b j w' (r' + 1) r' q (by omega) hb2 ej; omega
          · omega
          · omega
        rw [if_neg (by omega), if_neg (by omega), if_neg (by omega), if_neg (by omega), up1 (by omega)]
        exact hk k (by omega)
      · rw [if_neg h0, up1 (by omega)]
        exact hk k (by omega)
    dsimp only
    rw [roadbooklaw20_CallsReal.l2, if_pos (by omega), if_pos (by omega), if_pos (by omega), if_pos (by omega), hri, hrj]
    by_cases h1 : (s.ev.getD j z68).f0 = (s.ev.getD i z68).f0
    · rw [if_pos h1]
      have hne : ((s.ev.getD j z68).f1 == (s.ev.getD i z68).f1) = false := by
        rw [beq_eq_false_iff_ne]
        intro q
        rw [ei, ej] at h1 q
        have h1 := Int.ofNat.inj h1
        have q := Int.ofNat.inj q
        subst h1
        have := E.b i j w' r r' hij (by omega) ei ej
        omega
      rw [hne]; exact j4
    · rw [if_neg h1]; exact j4
theorem real_l1 (h : Reach N G P L s) (hl : s.ev.length < 1000) : ∀ (d i : Nat), i + d = s.ev.length → Evt fun k => roadbooklaw20_CallsReal.l1 k s.ev (i : Int)
  | 0, i, hi => by
    refine ⟨1, fun k h => ?_⟩
    obtain ⟨k, rfl⟩ : ∃ j, k = j + 1 := ⟨k - 1, by omega⟩
    dsimp only
    rw [roadbooklaw20_CallsReal.l1, if_neg (by omega)]
  | d + 1, i, hi => by
    have ih := real_l1 h hl d (i + 1) (by omega)
    have hri : rd_T68 s.ev (i : Int) = s.ev.getD i z68 := by unfold rd_T68; rw [Int.toNat_natCast]
    by_cases h2 : (s.ev.getD i z68).f2 = 2
    · obtain ⟨k0, hk⟩ := real_l2 h hl (by omega) h2 ih (s.ev.length - (i + 1)) (i + 1) (by omega) (by omega)
      refine ⟨k0 + 1, fun k h => ?_⟩
      obtain ⟨k, rfl⟩ : ∃ j, k = j + 1 := ⟨k - 1, by omega⟩
      dsimp only
      rw [roadbooklaw20_CallsReal.l1, if_pos (by omega), if_pos (by omega), hri, if_pos h2, up1 (by omega)]
      exact hk k (by omega)
    · obtain ⟨k0, hk⟩ := ih
      refine ⟨k0 + 1, fun k h => ?_⟩
      obtain ⟨k, rfl⟩ : ∃ j, k = j + 1 := ⟨k - 1, by omega⟩
      dsimp only
      rw [roadbooklaw20_CallsReal.l1, if_pos (by omega), if_pos (by omega), hri, if_neg h2, up1 (by omega)]
      exact hk k (by omega)
def tot (L : List (List S76)) : Nat := (L.map fun x => 3 * x.length).sum
theorem tot_drop (L : List (List S76)) {i : Nat} (hi : i < L.length) : tot (L.drop i) = 3 * (L.getD i []).length + tot (L.drop (i + 1)) := by
  unfold tot
  rw [List.drop_eq_getElem_cons hi, List.map_cons, List.sum_cons, List.getD_eq_getElem?_getD, List.getElem?_eq_getElem hi]
  rfl
theorem real_l0 (hs : Small L) (ev : List S68) : ∀ (d i acc k : Nat), i + d = L.length → acc ≤ 36 * i → roadbooklaw20_CallsReal.l0 (k + d + 1) L ev (acc : Int) (i : Int) = if ev.length = acc + tot (L.drop i) then roadbooklaw20_CallsReal.l1 k ev 0 else some false
  | 0, i, acc, k, hi, ha => by
    rw [roadbooklaw20_CallsReal.l0, if_neg (by omega), List.drop_eq_nil_of_le (by omega)]
    by_cases e : ev.length = acc
    · rw [if_pos (by omega), if_pos (show ev.length = acc + tot [] from e)]
    · rw [if_neg (by omega), if_neg (show ¬ ev.length = acc + tot [] from e)]
  | d + 1, i, acc, k, hi, ha => by
    have h1 := hs.1
    have h2 := hs.2 i (by omega)
    rw [show k + (d + 1) + 1 = (k + d + 1) + 1 by omega, roadbooklaw20_CallsReal.l0, if_pos (by omega), if_pos (by omega)]
    have hr : rd_L5 L (i : Int) = L.getD i [] := by unfold rd_L5; rw [Int.toNat_natCast]
    rw [hr, up1 (by omega), wrap_in (x := 3 * ((L.getD i []).length : Int)) (by omega) (by omega), wrap_in (by omega) (by omega)]
    have := real_l0 hs ev d (i + 1) (acc + 3 * (L.getD i []).length) k (by omega) (by omega)
    rw [show ((acc + 3 * (L.getD i []).length : Nat) : Int) = (acc : Int) + 3 * ((L.getD i []).length : Int) by omega] at this
    rw [this, tot_drop L (i := i) (by omega), Nat.add_assoc]
theorem Reach.total (h : Reach N G P L s) : s.ev.length = tot L := by
  rw [h.good.ev]
  unfold tot
  congr 1
  refine List.ext_getElem (by simp [h.good.len]) fun i h1 h2 => ?_
  simp only [List.length_map] at h1 h2
  have := h.rank h2
  unfold nth at this
  rw [List.getD_eq_getElem?_getD, List.getElem?_eq_getElem h1, List.getD_eq_getElem?_getD, List.getElem?_eq_getElem h2] at this
  simpa using this
end
theorem CallsReal : CallsRealPure := by
  intro N G P hL L _ sc _
  have triv : ∀ k, roadbooklaw20_CallsReal.j0 (k + 1) L sc true true N G P = some true := fun k => by rw [roadbooklaw20_CallsReal.j0, if_pos rfl]
  obtain ⟨b, hb, hs⟩ := few20_k L sc
  have main : ∀ k, 20 ≤ k → (b = true → fewB N G P 20 = true → roadbooklaw20_CallsReal.j0 k L sc true false N G P = some true) → roadbooklaw20_CallsReal.f k N G P L sc = some true := by
    intro k hk h
    obtain ⟨k', rfl⟩ : ∃ j, k = j + 1 := ⟨k - 1, by omega⟩
    unfold roadbooklaw20_CallsReal.f roadbooklaw20_awake.f
    rw [far_k, hb _ hk]
    simp only [Option.bind_some, if_true]
    cases b with
    | false => exact triv k'
    | true =>
      cases hc : fewB N G P 20 with
      | false => exact triv k'
      | true => exact h rfl hc
  cases b with
  | false => exact ⟨20, main 20 (by omega) (fun e => by cases e)⟩
  | true =>
    obtain ⟨_, hs⟩ := hs rfl
    obtain ⟨s, hr, h⟩ := run_T hL hs sc
    have hev := h.good.ev_le hs
    obtain ⟨k0, hk⟩ := real_l1 h (by omega) s.ev.length 0 (by omega)
    refine ⟨k0 + 600 + L.length + 1 + 1, main _ (by omega) (fun _ _ => ?_)⟩
    rw [roadbooklaw20_CallsReal.j0, if_neg (by decide), hr _ (by omega)]
    simp only [Option.bind_some]
    have := real_l0 hs s.ev L.length 0 0 (k0 + 600) (by omega) (by omega)
    rw [List.drop_zero, Nat.zero_add, if_pos h.total] at this
    have e : ((0 : Nat) : Int) = 0 := rfl
    rw [e] at this
    rw [this]
    exact hk _ (by omega)
end Go.Proofs.Ytkidnomkfdnciaa.Pure
