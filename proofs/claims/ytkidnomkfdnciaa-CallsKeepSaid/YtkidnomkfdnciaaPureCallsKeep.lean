/- Whatever several call, nodes that were there stay, and groups that were one, and a group that comes back is one of the memo at last: for all memos, lists, scripts and groups. No further condition. -/
import Derived.Test.YtkidnomkfdnciaaFew
import Derived.Test.YtkidnomkfdnciaaAllx71
namespace Go.Proofs.Ytkidnomkfdnciaa.Pure
open Go.RowKit Go.Proofs.Ytkidnomkfdnciaa.All Go.Proofs.YtkidnomkfdnciaaW.PrintWords
def CallsKeepPure : Prop := ∀ (N0 : List S48) (G0 P0 : List Int), Lim N0 G0 P0 → ∀ l1 : List (List S76), l1.length ≤ 9223372036854775807 → ∀ l2 : List Int, l2.length * 8 ≤ 140737488351232 → ∀ a3 : Int, (Lit.int .i64 a3).wf = true → ∀ a4 : Int, (Lit.int .i64 a4).wf = true → ∃ k, roadbooklaw20_CallsKeep.f k N0 G0 P0 l1 l2 a3 a4 = some true
def Evt (g : Nat → Option Bool) : Prop := ∃ k0, ∀ k, k0 ≤ k → g k = some true
theorem find_k (k : Nat) (N : List S48) (G P : List Int) (g : Int) : memo_Find.f k N G P g = some (findS P g) := by
  unfold memo_Find.f sets_Find.f; rfl
theorem in_pos {P : List Int} (hm : mayB P = true) {g : Int} (h : inB P g = true) : ¬ findS P g < 0 := by
  rw [find_in hm h]; omega
section
variable {N : List S48} {G P : List Int} {N' : List S48} {G' P' : List Int} {B : List (List S73)} {a b : Int}
theorem keep_end (h : Later N G P N' G' P') (k : Nat) {x : Nat} (hx : B.length ≤ x) : roadbooklaw20_CallsKeep.l1 (k + 1) a b B (x : Int) N G P N' G' P' = some true := by
  rw [roadbooklaw20_CallsKeep.l1, if_neg (by omega)]
  simp only [find_k, Option.bind_some]
  by_cases h1 : findS P a < 0
  · rw [if_pos h1]
  · rw [if_neg h1]
    by_cases h2 : findS P a = findS P b
    · rw [if_pos h2]
      have ha := (find_ne (P := P) (g := a) (by omega)).2
      have hb := (find_ne (P := P) (g := b) (by omega)).2
      rw [h.one a b ha hb h2, beq_self_eq_true]
    · rw [if_neg h2]
theorem keep_l2 (hm' : mayB P' = true) (hB : ∀ w, w < B.length → (B.getD w []).length ≤ 1000 ∧ ∀ c, c ∈ B.getD w [] → BackOk P' c) {w : Nat} (hw : w < B.length) (hl : B.length ≤ 1000) (hn : Evt fun k => roadbooklaw20_CallsKeep.l1 k a b B ((w + 1 : Nat) : Int) N G P N' G' P') :
    ∀ (d j : Nat), j + d = (B.getD w []).length → Evt fun k => roadbooklaw20_CallsKeep.l2 k a b B (w : Int) (j : Int) N G P N' G' P'
  | 0, j, hj => by
    obtain ⟨k0, hk⟩ := hn
    refine ⟨k0 + 1, fun k h => ?_⟩
    obtain ⟨k, rfl⟩ : ∃ j, k = j + 1 := ⟨k - 1, by omega⟩
    have hr : rd_L6 B (w : Int) = B.getD w [] := by unfold rd_L6; rw [Int.toNat_natCast]
    dsimp only
    rw [roadbooklaw20_CallsKeep.l2, if_pos (by omega), if_pos (by omega), hr, if_neg (by omega), up1 (by omega)]
    exact hk k (by omega)
  | d + 1, j, hj => by
    obtain ⟨k0, hk⟩ := keep_l2 hm' hB hw hl hn d (j + 1) (by omega)
    refine ⟨k0 + 1, fun k h => ?_⟩
    obtain ⟨k, rfl⟩ : ∃ j, k = j + 1 := ⟨k - 1, by omega⟩
    have hr : rd_L6 B (w : Int) = B.getD w [] := by unfold rd_L6; rw [Int.toNat_natCast]
    obtain ⟨hl2, hb⟩ := hB w hw
    have hjl : j < (B.getD w []).length := by omega
    have hr2 : rd_T73 (B.getD w []) (j : Int) = (B.getD w [])[j] := by
      unfold rd_T73; rw [Int.toNat_natCast, List.getD_eq_getElem?_getD, List.getElem?_eq_getElem hjl]; rfl
    have hok := hb _ (List.getElem_mem hjl)
    dsimp only
    rw [roadbooklaw20_CallsKeep.l2, if_pos (by omega), if_pos (by omega), hr, if_pos (by omega), if_pos (by omega), hr2, up1 (by omega)]
    by_cases he : ((B.getD w [])[j]).f1 = 0
    · rw [if_pos he, find_k, Option.bind_some, if_neg (in_pos hm' (hok.1 he))]
      exact hk k (by omega)
    · rw [if_neg he, if_pos (hok.2 he)]
      exact hk k (by omega)
theorem keep_l1 (h : Later N G P N' G' P') (hm : mayMB N G P = true) (hB : ∀ w, w < B.length → (B.getD w []).length ≤ 1000 ∧ ∀ c, c ∈ B.getD w [] → BackOk P' c) (hl : B.length ≤ 1000) :
    ∀ (d w : Nat), w + d = B.length → Evt fun k => roadbooklaw20_CallsKeep.l1 k a b B (w : Int) N G P N' G' P'
  | 0, w, hw => ⟨1, fun k hk => by
    obtain ⟨k, rfl⟩ : ∃ j, k = j + 1 := ⟨k - 1, by omega⟩
    exact keep_end h k (by omega)⟩
  | d + 1, w, hw => by
    obtain ⟨k0, hk⟩ := keep_l2 (may_P h.may) hB (by omega) hl (keep_l1 h hm hB hl d (w + 1) (by omega)) (B.getD w []).length 0 (by omega)
    refine ⟨k0 + 1, fun k h => ?_⟩
    obtain ⟨k, rfl⟩ : ∃ j, k = j + 1 := ⟨k - 1, by omega⟩
    dsimp only
    rw [roadbooklaw20_CallsKeep.l1, if_pos (by omega)]
    exact hk k (by omega)
theorem keep_l0 (h : Later N G P N' G' P') (hm : mayMB N G P = true) (hn : Evt fun k => roadbooklaw20_CallsKeep.l1 k a b B 0 N G P N' G' P') :
    ∀ (d j : Nat), j + d = N.length → Evt fun k => roadbooklaw20_CallsKeep.l0 k a b B (j : Int) N G P N' G' P'
  | 0, j, hj => by
    obtain ⟨k0, hk⟩ := hn
    refine ⟨k0 + 1, fun k h => ?_⟩
    obtain ⟨k, rfl⟩ : ∃ j, k = j + 1 := ⟨k - 1, by omega⟩
    dsimp only
    rw [roadbooklaw20_CallsKeep.l0, if_neg (by omega)]
    exact hk k (by omega)
  | d + 1, j, hj => by
    obtain ⟨k0, hk⟩ := keep_l0 h hm hn d (j + 1) (by omega)
    refine ⟨k0 + 1, fun k hk' => ?_⟩
    obtain ⟨k, rfl⟩ : ∃ j, k = j + 1 := ⟨k - 1, by omega⟩
    have h1 := h.n
    have h2 := may_lenN hm
    have h3 := may_lenG hm
    have h4 := may_lenG h.may
    have e1 : rd_T48 N' (j : Int) = rd_T48 N (j : Int) := by unfold rd_T48; rw [Int.toNat_natCast]; exact h.ns j (by omega)
    have e2 : rd G' (j : Int) = rd G (j : Int) := by unfold rd; rw [Int.toNat_natCast]; exact h.gs j (by omega)
    dsimp only
    rw [roadbooklaw20_CallsKeep.l0, if_pos (by omega), if_pos (by omega), if_pos (by omega), e1, if_neg (by simp), if_pos (by omega), if_pos (by omega), if_pos e2, up1 (by omega)]
    exact hk k (by omega)
end
theorem CallsKeep : CallsKeepPure := by
  intro N G P hL L _ sc _ a _ b _
  have triv : ∀ k, roadbooklaw20_CallsKeep.j0 (k + 1) L sc a b true true N G P = some true := fun k => by rw [roadbooklaw20_CallsKeep.j0, if_pos rfl]
  obtain ⟨b', hb, hs⟩ := few20_k L sc
  have main : ∀ k, 20 ≤ k → (b' = true → mayMB N G P = true → roadbooklaw20_CallsKeep.j0 k L sc a b true false N G P = some true) → roadbooklaw20_CallsKeep.f k N G P L sc a b = some true := by
    intro k hk h
    obtain ⟨k', rfl⟩ : ∃ j, k = j + 1 := ⟨k - 1, by omega⟩
    unfold roadbooklaw20_CallsKeep.f roadbooklaw20_awake.f memo_May.f
    rw [far_k, hb _ hk]
    simp only [Option.bind_some, if_true]
    cases b' with
    | false => exact triv k'
    | true =>
      cases hc : fewB N G P 20 with
      | false => exact triv k'
      | true =>
        simp only [if_true]
        cases hm : mayMB N G P with
        | false => exact triv k'
        | true => exact h rfl hm
  cases hbb : b' with
  | false => exact ⟨20, main 20 (by omega) (fun e => by rw [hbb] at e; cases e)⟩
  | true =>
    obtain ⟨_, hs⟩ := hs hbb
    cases hm : mayMB N G P with
    | false => exact ⟨20, main 20 (by omega) (fun _ e => by rw [hm] at e; cases e)⟩
    | true =>
      obtain ⟨s, hr, h⟩ := run_T hL hs sc
      have kp := h.keep hm
      have hlB : (s.ones.map One.ended).length = L.length := by rw [List.length_map]; exact h.good.len
      have hB : ∀ w, w < (s.ones.map One.ended).length → ((s.ones.map One.ended).getD w []).length ≤ 1000 ∧ ∀ c, c ∈ (s.ones.map One.ended).getD w [] → BackOk s.P c := by
        intro w hw
        rw [hlB] at hw
        rw [h.backs hw]
        have := h.res_len hw
        have := hs.2 w hw
        exact ⟨by omega, fun c hc => kp.back w c hc⟩
      have h12 := hs.1
      obtain ⟨k0, hk⟩ := keep_l0 (a := a) (b := b) kp.later hm (keep_l1 kp.later hm hB (by omega) (s.ones.map One.ended).length 0 (by omega)) N.length 0 (by omega)
      refine ⟨k0 + 600, main _ (by omega) (fun _ _ => ?_)⟩
      rw [roadbooklaw20_CallsKeep.j0, if_neg (by decide), hr _ (by omega)]
      simp only [Option.bind_some]
      have l1 := kp.later.n
      have l2 := kp.later.p
      rw [if_neg (by omega), if_neg (by omega)]
      unfold memo_May.f
      rw [kp.later.may]
      simp only [Option.bind_some, Bool.not_true]
      rw [roadbooklaw20_CallsKeep.j1, if_neg (by decide)]
      exact hk _ (by omega)
end Go.Proofs.Ytkidnomkfdnciaa.Pure
