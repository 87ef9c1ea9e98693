/- Calls that only find, or look up, change nothing, and come back the same in any order: for all memos, calls and scripts. No further condition. -/
import Derived.Test.YtkidnomkfdnciaaCalls4
import Derived.Test.YtkidnomkfdnciaaAllx72
namespace Go.Proofs.Ytkidnomkfdnciaa.Pure
open Go.RowKit Go.Proofs.Ytkidnomkfdnciaa.All Go.Proofs.YtkidnomkfdnciaaW.PrintWords
def CallsReadPure : Prop := ∀ (N0 : List S48) (G0 P0 : List Int), Lim N0 G0 P0 → ∀ l1 : List S76, l1.length ≤ 9223372036854775807 → ∀ l2 : List Int, l2.length * 8 ≤ 140737488351232 → ∃ k, roadbooklaw20_CallsRead.f k N0 G0 P0 l1 l2 = some true
theorem up1 {i : Nat} (h : i < 1000000) : wrap64 ((i : Int) + 1) = ((i + 1 : Nat) : Int) := by
  rw [wrap_in (by omega) (by omega)]; simp
def Evt (g : Nat → Option Bool) : Prop := ∃ k0, ∀ k, k0 ≤ k → g k = some true
def sg (c : S76) : List S76 := [c]
section
variable {N : List S48} {G P : List Int} {l : List S76} {sc : List Int}
theorem read_l1 {B : List (List S73)} {C : List S73} (hl : l.length ≤ 12) (hB : B.length = l.length) (hC : C.length = l.length) (h : ∀ w, w < l.length → B.getD w [] = [C.getD w z73]) :
    ∀ (d i : Nat), i + d = l.length → ∀ k, d < k → roadbooklaw20_CallsRead.l1 k l B C (i : Int) = some true
  | 0, i, hi, k, hk => by
    obtain ⟨k, rfl⟩ : ∃ j, k = j + 1 := ⟨k - 1, by omega⟩
    rw [roadbooklaw20_CallsRead.l1, if_neg (by omega)]
  | d + 1, i, hi, k, hk => by
    obtain ⟨k, rfl⟩ : ∃ j, k = j + 1 := ⟨k - 1, by omega⟩
    have hr : rd_L6 B (i : Int) = [C.getD i z73] := by unfold rd_L6; rw [Int.toNat_natCast]; exact h i (by omega)
    have hr2 : rd_T73 C (i : Int) = C.getD i z73 := by unfold rd_T73; rw [Int.toNat_natCast]
    have hr3 : rd_T73 [C.getD i z73] 0 = C.getD i z73 := rfl
    rw [roadbooklaw20_CallsRead.l1, if_pos (by omega), if_pos (by omega), if_pos (by omega), hr, if_pos (by simp), if_pos (by simp), if_pos (by omega), hr2, hr3, if_neg (by simp), up1 (by omega)]
    exact read_l1 hl hB hC h d (i + 1) (by omega) k (by omega)
theorem read_end (hm : mayMB N G P = true) (hl : l.length ≤ 12) (hr : ∀ j, j < l.length → (l.getD j z76).f0 = 2 ∨ (l.getD j z76).f0 = 3) : ∀ k, 3000 ≤ k → roadbooklaw20_CallsRead.l0 (k + 1) l sc (l.map sg) (l.length : Int) N G P = some true := by
  intro k hk
  have hlen : ∀ w, w < l.length → (l.map sg).getD w [] = [l.getD w z76] := fun w hw => by
    simp [List.getD_eq_getElem?_getD, List.getElem?_map, List.getElem?_eq_getElem hw, sg]
  have hs : Small (l.map sg) := ⟨by simpa using hl, fun i hi => by
    rw [hlen i (by simpa using hi)]; simp⟩
  obtain ⟨s, hrun, h⟩ := run_T (may_Lim hm) hs sc
  have q := h.read (fun w hw a ha => by
    have hw : w < l.length := by simpa using hw
    rw [hlen w hw] at ha ⊢
    obtain rfl : a = 0 := by simpa using ha
    exact hr w hw)
  have hA := all_read N G P l (fun c hc => by
    obtain ⟨j, hj, rfl⟩ := mem_getD (z := z76) hc
    exact hr j hj)
  have hBl : (s.ones.map One.ended).length = l.length := by rw [List.length_map, h.good.len]; simp
  have hB : ∀ w, w < l.length → (s.ones.map One.ended).getD w [] = [(l.map (backR N G P)).getD w z73] := fun w hw => by
    have hw' : w < (l.map sg).length := by simpa using hw
    rw [h.backs hw']
    have e1 := h.res_len hw'
    rw [hlen w hw] at e1
    have e2 := q.back w hw' 0 (by rw [e1]; simp)
    rw [hlen w hw] at e2
    have e3 : (l.map (backR N G P)).getD w z73 = backR N G P (l.getD w z76) := by
      simp [List.getD_eq_getElem?_getD, List.getElem?_map, List.getElem?_eq_getElem hw]
    rw [e3]
    obtain ⟨x, hx⟩ := List.length_eq_one_iff.1 e1
    rw [hx] at e2 ⊢
    exact congrArg (fun y => [y]) e2
  have n1 := may_lenN hm
  have n2 := may_lenG hm
  have n3 := may_lenP hm
  rw [roadbooklaw20_CallsRead.l0, if_neg (by omega), hrun k (by omega), all_k hm (by omega) (by omega), hA]
  simp only [Option.bind_some]
  rw [q.n, q.g, q.p, msame_k (by omega) (by omega) (by omega) (by omega) (by omega), same_refl (may_P hm)]
  simp only [Option.bind_some, if_true]
  rw [if_pos (by omega)]
  obtain ⟨k, rfl⟩ : ∃ j, k = j + 1 := ⟨k - 1, by omega⟩
  have e : (((l.map (backR N G P)).length : Int) != (l.length : Int)) = false := by simp
  rw [e, roadbooklaw20_CallsRead.j2, if_neg (by decide)]
  exact read_l1 hl hBl (by simp) hB l.length 0 (by omega) k (by omega)
theorem read_l0 (hm : mayMB N G P = true) (hl : l.length ≤ 12) : ∀ (d i : Nat), i + d = l.length → (∀ j, j < i → (l.getD j z76).f0 = 2 ∨ (l.getD j z76).f0 = 3) → ∀ k, 3000 + d < k → roadbooklaw20_CallsRead.l0 k l sc ((l.take i).map sg) (i : Int) N G P = some true
  | 0, i, hi, h, k, hk => by
    obtain ⟨k, rfl⟩ : ∃ j, k = j + 1 := ⟨k - 1, by omega⟩
    obtain rfl : i = l.length := by omega
    rw [List.take_length]
    exact read_end hm hl h k (by omega)
  | d + 1, i, hi, h, k, hk => by
    obtain ⟨k, rfl⟩ : ∃ j, k = j + 1 := ⟨k - 1, by omega⟩
    have hlt : i < l.length := by omega
    have hr : rd_T76 l (i : Int) = l.getD i z76 := by unfold rd_T76; rw [Int.toNat_natCast]
    have hx : (l.take i).map sg ++ [[l.getD i z76]] = (l.take (i + 1)).map sg := by
      rw [List.take_succ_eq_append_getElem hlt, List.map_append, List.getD_eq_getElem?_getD, List.getElem?_eq_getElem hlt]; rfl
    have hlen : ((l.take i).map sg).length < 5864062014805 := by simp; omega
    rw [roadbooklaw20_CallsRead.l0, if_pos (by omega), if_pos (by omega), hr, up1 (by omega)]
    by_cases h2 : (l.getD i z76).f0 = 2
    · rw [if_pos h2, if_pos hlen]
      have := read_l0 hm hl d (i + 1) (by omega) (fun j hj => by
        by_cases e : j < i
        · exact h j e
        · obtain rfl : j = i := by omega
          exact .inl h2) k (by omega)
      rw [← hx] at this
      exact this
    · rw [if_neg h2]
      by_cases h3 : (l.getD i z76).f0 = 3
      · rw [if_pos h3, if_pos hlen]
        have := read_l0 hm hl d (i + 1) (by omega) (fun j hj => by
          by_cases e : j < i
          · exact h j e
          · obtain rfl : j = i := by omega
            exact .inr h3) k (by omega)
        rw [← hx] at this
        exact this
      · rw [if_neg h3]
end
theorem CallsRead : CallsReadPure := by
  intro N G P hL l _ sc _
  refine ⟨5001, ?_⟩
  obtain ⟨k, hk⟩ : ∃ k : Nat, k = 5000 := ⟨_, rfl⟩
  rw [show 5001 = k + 1 by omega]
  have triv : roadbooklaw20_CallsRead.j0 (k + 1) l sc true true N G P = some true := by rw [roadbooklaw20_CallsRead.j0, if_pos rfl]
  unfold roadbooklaw20_CallsRead.f roadbooklaw20_awake.f memo_May.f
  rw [far_k]
  simp only [Option.bind_some, if_true]
  by_cases h1 : (l.length : Int) > 12
  · rw [if_pos h1]; exact triv
  · rw [if_neg h1]
    by_cases h2 : (sc.length : Int) > 200
    · rw [if_pos h2]; exact triv
    · rw [if_neg h2]
      cases hf : fewB N G P 20 with
      | false => exact triv
      | true =>
        simp only [if_true]
        cases hm : mayMB N G P with
        | false => exact triv
        | true =>
          rw [Bool.not_true, roadbooklaw20_CallsRead.j0, if_neg (by decide)]
          have := read_l0 (l := l) (sc := sc) hm (by omega) l.length 0 (by omega) (fun j hj => by omega) k (by omega)
          exact this
end Go.Proofs.Ytkidnomkfdnciaa.Pure
