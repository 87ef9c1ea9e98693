/- Whatever the script, what several calls come to is what all their calls come to, one behind the other, in the order in which they are done: for all memos, lists and scripts. No further condition. -/
import Derived.Test.YtkidnomkfdnciaaFew
import Derived.Test.YtkidnomkfdnciaaCalls4
import Derived.Test.YtkidnomkfdnciaaAllx76
namespace Go.Proofs.Ytkidnomkfdnciaa.Pure
open Go.RowKit Go.Proofs.Ytkidnomkfdnciaa.All Go.Proofs.YtkidnomkfdnciaaW.PrintWords
def CallsOrderPure : Prop := ∀ (N0 : List S48) (G0 P0 : List Int), Lim N0 G0 P0 → ∀ l1 : List (List S76), l1.length ≤ 9223372036854775807 → ∀ l2 : List Int, l2.length * 8 ≤ 140737488351232 → ∃ k, roadbooklaw20_CallsOrder.f k N0 G0 P0 l1 l2 = some true
theorem all_k2 {N : List S48} {G P : List Int} (hm : mayMB N G P = true) {l : List S76} (hl : l.length ≤ 500) {k : Nat} (hk : 1100 ≤ k) : calls_All.f k N G P l = some (allT N G P l) := by
  unfold calls_All.f
  rw [cown_k k (may_Lim hm).lim3]
  simp only [Option.bind_some]
  have := all_loop l.length 0 k l [] N G P (by omega) (by omega) hm (by simp; omega) (by omega)
  rw [List.drop_zero, List.nil_append] at this
  exact this
def ord (s : St) : List S68 := s.ev.filter isDone
/-- How many of each are done among the first i. -/
def nextL (n : Nat) (O : List S68) (i : Nat) : List Int := (List.range n).map fun w => (((O.take i).filter (isOf w)).length : Int)
theorem nextL_len (n : Nat) (O : List S68) (i : Nat) : (nextL n O i).length = n := by simp [nextL]
theorem nextL_at {n : Nat} {O : List S68} {i w : Nat} (h : w < n) : rd (nextL n O i) (w : Int) = (((O.take i).filter (isOf w)).length : Int) := by
  unfold rd nextL
  simp [List.getD_eq_getElem?_getD, h]
theorem getD_at {α : Type} {l : List α} {i : Nat} {z : α} (h : i < l.length) : l.getD i z = l[i] := by
  rw [List.getD_eq_getElem?_getD, List.getElem?_eq_getElem h]; rfl
theorem nextL_set {n : Nat} {O : List S68} {i w a : Nat} (hi : i < O.length) (e : O.getD i z68 = mkD w a) (hc : ((O.take i).filter (isOf w)).length = a) : (nextL n O i).set w ((a + 1 : Nat) : Int) = nextL n O (i + 1) := by
  refine List.ext_getElem (by simp [nextL]) fun j h1 h2 => ?_
  have hj : j < n := by simpa [nextL] using h2
  rw [getD_at hi] at e
  rw [List.getElem_set]
  have ht : O.take (i + 1) = O.take i ++ [mkD w a] := by rw [List.take_succ_eq_append_getElem hi, e]
  by_cases h : w = j
  · subst h
    rw [if_pos rfl]
    have : isOf w (mkD w a) = true := decide_eq_true rfl
    simp [nextL, ht, List.filter_append, List.filter_cons, this, hc]
  · rw [if_neg h]
    have : isOf j (mkD w a) = false := decide_eq_false (by unfold mkD; dsimp only; omega)
    simp [nextL, ht, List.filter_append, List.filter_cons, this]
section
variable {L : List (List S76)} {s : St} {N : List S48} {G P : List Int}
theorem ord_len (h : Reach N G P L s) (hs : Small L) : (ord s).length ≤ 500 := Nat.le_trans (List.length_filter_le _ _) (h.good.ev_le hs)
theorem rdO (O : List S68) (i : Nat) : rd_T68 O (i : Int) = O.getD i z68 := by unfold rd_T68; rw [Int.toNat_natCast]
theorem rdL (L : List (List S76)) (i : Nat) : rd_L5 L (i : Int) = L.getD i [] := by unfold rd_L5; rw [Int.toNat_natCast]
theorem rdB (B : List (List S73)) (i : Nat) : rd_L6 B (i : Int) = B.getD i [] := by unfold rd_L6; rw [Int.toNat_natCast]
theorem order_l2 (h : Reach N G P L s) (hs : Small L) : ∀ (d i : Nat), i + d = (ord s).length → ∀ k, d < k → roadbooklaw20_CallsOrder.l2 k (s.ones.map One.ended) (ord s) ((ord s).map (backAt s)) (i : Int) = some true
  | 0, i, hi, k, hk => by
    obtain ⟨k, rfl⟩ : ∃ j, k = j + 1 := ⟨k - 1, by omega⟩
    rw [roadbooklaw20_CallsOrder.l2, if_neg (by omega)]
  | d + 1, i, hi, k, hk => by
    obtain ⟨k, rfl⟩ : ∃ j, k = j + 1 := ⟨k - 1, by omega⟩
    have hol := ord_len h hs
    have hil : i < (ord s).length := by omega
    obtain ⟨w, a, hw, ha, e, _⟩ := h.ord.who i hil
    have hBl : (s.ones.map One.ended).length = L.length := by rw [List.length_map]; exact h.good.len
    have hx : rd_T73 ((ord s).map (backAt s)) (i : Int) = (res (nth s w)).getD a z73 := by
      unfold rd_T73
      rw [Int.toNat_natCast, getD_at (by simpa using hil), List.getElem_map, ← getD_at (z := z68) hil]
      change backAt s ((s.ev.filter isDone).getD i z68) = _
      rw [e]
      unfold backAt mkD
      simp only [Int.toNat_natCast]
    have e' : rd_T68 (ord s) (i : Int) = mkD w a := by rw [rdO]; exact e
    have f0 : (mkD w a).f0 = (w : Int) := rfl
    have f1 : (mkD w a).f1 = (a : Int) := rfl
    have hy : rd_T73 (res (nth s w)) (a : Int) = (res (nth s w)).getD a z73 := by unfold rd_T73; rw [Int.toNat_natCast]
    rw [roadbooklaw20_CallsOrder.l2, if_pos (by omega), if_pos (by omega), e', f0, f1, if_pos (by omega), if_pos (by omega), if_pos (by omega), rdB, h.backs hw, if_pos (by omega), if_pos (by simp; omega), hx, hy, if_neg (by simp), up1 (by omega)]
    exact order_l2 h hs d (i + 1) (by omega) k (by omega)
theorem order_l1 (h : Reach N G P L s) (hs : Small L) {M : Nat} (hM : (ord s).length < M) : ∀ (d w : Nat), w + d = L.length → ∀ k, d + M < k → roadbooklaw20_CallsOrder.l1 k L (s.ones.map One.ended) (ord s) (nextL L.length (ord s) (ord s).length) ((ord s).map (backAt s)) (w : Int) = some true
  | 0, w, hw, k, hk => by
    obtain ⟨k, rfl⟩ : ∃ j, k = j + 1 := ⟨k - 1, by omega⟩
    rw [roadbooklaw20_CallsOrder.l1, if_neg (by omega)]
    exact order_l2 h hs (ord s).length 0 (by omega) k (by omega)
  | d + 1, w, hw, k, hk => by
    obtain ⟨k, rfl⟩ : ∃ j, k = j + 1 := ⟨k - 1, by omega⟩
    have hwl : w < L.length := by omega
    have hBl : (s.ones.map One.ended).length = L.length := by rw [List.length_map]; exact h.good.len
    have h12 := hs.1
    have hnl := nextL_len L.length (ord s) (ord s).length
    have hc := h.ord.cnt w hwl
    have hrl := h.res_len hwl
    have hnx : rd (nextL L.length (ord s) (ord s).length) (w : Int) = ((L.getD w []).length : Int) := by
      rw [nextL_at hwl, List.take_length]
      have : ((ord s).filter (isOf w)).length = (L.getD w []).length := hc.trans hrl
      omega
    rw [roadbooklaw20_CallsOrder.l1, if_pos (by omega), if_pos (by omega), if_pos (by omega), hnx, rdL, if_pos rfl, if_pos (by omega), rdB, h.backs hwl, if_pos (by omega), up1 (by omega)]
    exact order_l1 h hs hM d (w + 1) (by omega) k (by omega)
theorem order_l0 (h : Reach N G P L s) (hm : mayMB N G P = true) (hs : Small L) : ∀ (d i : Nat), i + d = (ord s).length → ∀ k, 4000 + d < k → roadbooklaw20_CallsOrder.l0 k L (s.ones.map One.ended) (ord s) (((ord s).take i).map (callAt L)) (nextL L.length (ord s) i) (i : Int) N G P s.N s.G s.P = some true
  | 0, i, hi, k, hk => by
    obtain ⟨k, rfl⟩ : ∃ j, k = j + 2 := ⟨k - 2, by omega⟩
    obtain rfl : i = (ord s).length := by omega
    have hol := ord_len h hs
    have hm' := (h.keep hm).later.may
    have hBl : (s.ones.map One.ended).length = L.length := by rw [List.length_map]; exact h.good.len
    have n1 := may_lenN hm'
    have n2 := may_lenG hm'
    have n3 := may_lenP hm'
    have hA : allT N G P ((ord s).map (callAt L)) = (s.N, s.G, s.P, (ord s).map (backAt s)) := h.ord.all
    have h12 := hs.1
    rw [roadbooklaw20_CallsOrder.l0, if_neg (by omega), List.take_length, all_k2 hm (by simpa using hol) (by omega), hA]
    simp only [Option.bind_some]
    rw [msame_k (by omega) (by omega) (by omega) (by omega) (by omega), same_refl (may_P hm')]
    simp only [Option.bind_some, if_true]
    have e : ((((ord s).map (backAt s)).length : Int) != ((ord s).length : Int)) = false := by simp
    rw [if_pos (by omega), e, roadbooklaw20_CallsOrder.j2, if_neg (by decide)]
    exact order_l1 h hs (M := 501) (by omega) L.length 0 (by omega) k (by omega)
  | d + 1, i, hi, k, hk => by
    obtain ⟨k, rfl⟩ : ∃ j, k = j + 1 := ⟨k - 1, by omega⟩
    have hol := ord_len h hs
    have hil : i < (ord s).length := by omega
    obtain ⟨w, a, hw, ha, e, hc⟩ := h.ord.who i hil
    have hrl := h.res_len hw
    have h12 := hs.1
    have hsw := hs.2 w hw
    have hnl := nextL_len L.length (ord s) i
    have e' : rd_T68 (ord s) (i : Int) = mkD w a := by rw [rdO]; exact e
    have f0 : (mkD w a).f0 = (w : Int) := rfl
    have f1 : (mkD w a).f1 = (a : Int) := rfl
    have hnx : rd (nextL L.length (ord s) i) (w : Int) = (a : Int) := by rw [nextL_at hw]; exact congrArg Int.ofNat hc
    have hx : ((ord s).take i).map (callAt L) ++ [rd_T76 (L.getD w []) (a : Int)] = ((ord s).take (i + 1)).map (callAt L) := by
      have ei : (ord s)[i] = mkD w a := (getD_at hil).symm.trans e
      rw [List.take_succ_eq_append_getElem hil, List.map_append, ei]
      unfold callAt mkD rd_T76
      simp only [List.map_cons, List.map_nil, Int.toNat_natCast]
    have hlen : (((ord s).take i).map (callAt L)).length < 2513169434916 := by simp; omega
    have hst := nextL_set (n := L.length) hil e hc
    rw [roadbooklaw20_CallsOrder.l0, if_pos (by omega), if_pos (by omega), e', f0, f1, if_neg (by omega), if_neg (by omega), if_pos (by omega), if_pos (by omega), hnx, if_pos rfl, if_pos (by omega), rdL, if_neg (by omega), if_pos (by omega), if_pos (by omega), if_pos hlen, up1 (by omega), up1 (by omega), Int.toNat_natCast, hst]
    have := order_l0 h hm hs d (i + 1) (by omega) k (by omega)
    rw [← hx] at this
    exact this
end
theorem CallsOrder : CallsOrderPure := by
  intro N G P hL L _ sc _
  have triv : ∀ k, roadbooklaw20_CallsOrder.j0 (k + 1) L sc true true N G P = some true := fun k => by rw [roadbooklaw20_CallsOrder.j0, if_pos rfl]
  obtain ⟨b', hb, hs⟩ := few20_k L sc
  have main : ∀ k, 20 ≤ k → (b' = true → mayMB N G P = true → roadbooklaw20_CallsOrder.j0 k L sc true false N G P = some true) → roadbooklaw20_CallsOrder.f k N G P L sc = some true := by
    intro k hk h
    obtain ⟨k', rfl⟩ : ∃ j, k = j + 1 := ⟨k - 1, by omega⟩
    unfold roadbooklaw20_CallsOrder.f roadbooklaw20_awake.f memo_May.f
    rw [far_k, hb _ hk]
    simp only [Option.bind_some, if_true]
    cases b' with
    | false => exact triv k'
    | true =>
      cases hc : fewB N G P 20 with
      | false => exact triv k'
      | true =>
        simp only [if_true]
        cases hm : mayMB N G P with
        | false => exact triv k'
        | true => exact h rfl hm
  cases hbb : b' with
  | false => exact ⟨20, main 20 (by omega) (fun e => by rw [hbb] at e; cases e)⟩
  | true =>
    obtain ⟨_, hs⟩ := hs hbb
    cases hm : mayMB N G P with
    | false => exact ⟨20, main 20 (by omega) (fun _ e => by rw [hm] at e; cases e)⟩
    | true =>
      obtain ⟨s, hr, h⟩ := run_T hL hs sc
      have hol := ord_len h hs
      have hev := h.good.ev_le hs
      have h12 := hs.1
      obtain ⟨k, hk⟩ : ∃ k : Nat, k = 9000 := ⟨_, rfl⟩
      refine ⟨k + 1, main _ (by omega) (fun _ _ => ?_)⟩
      rw [roadbooklaw20_CallsOrder.j0, if_neg (by decide), hr _ (by omega)]
      simp only [Option.bind_some]
      have hO : calls_Order.f k s.ev = some (ord s) := by
        unfold calls_Order.f
        rw [if_pos (by unfold limE; exact decide_eq_true (by omega))]
        rfl
      rw [hO]
      simp only [Option.bind_some, Int.toNat_natCast]
      rw [if_pos (by omega), if_pos (by omega)]
      have h0 : nextL L.length (ord s) 0 = List.replicate L.length 0 := by
        refine List.ext_getElem (by simp [nextL]) fun j h1 h2 => ?_
        simp [nextL]
      have := order_l0 h hm hs (ord s).length 0 (by omega) k (by omega)
      rw [h0] at this
      exact this
end Go.Proofs.Ytkidnomkfdnciaa.Pure
