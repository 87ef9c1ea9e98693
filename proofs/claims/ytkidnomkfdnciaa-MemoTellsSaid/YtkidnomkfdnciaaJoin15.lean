/- The document's Join on an argument that is only read: what came in may come back. -/
import Derived.Test.YtkidnomkfdnciaaAllx0
import Derived.Test.YtkidnomkfdnciaaAllx4
import Derived.Test.YtkidnomkfdnciaaAllx5
namespace Go.Proofs.Ytkidnomkfdnciaa.All
open Go.RowKit Go.Proofs.YtkidnomkfdnciaaW.PrintWords Go.Proofs.YtkidnomkfdnciaaW.PrintLast Go.Proofs.YtkidnomkfdnciaaW.PrintMore
attribute [local go_sem] max2_int min2_int max_two min_two max_three min_three max_four min_four   -- for this text's walks alone
set_option linter.unusedVariables false
set_option linter.unusedSimpArgs false
def tellM (x y z : Int) : Int := if z = x ∨ z = y then (if y < x then y else x) else z
def tellJoin.f (k : Nat) (l0 : List Int) (a b : Int) : Option (List Int × Bool) := (roadbookref15_Find.f k l0 a).bind fun x => (roadbookref15_Find.f k l0 b).bind fun y => if x < 0 then some (l0, false) else if y < 0 then some (l0, false) else (roadbookref15_Roots.f k l0).bind fun r => if r.length ≤ 400 then some (r.map (tellM x y), true) else none
theorem tellJoin.mono : ∀ a0 a1 a2 k, LeO (tellJoin.f k a0 a1 a2) (tellJoin.f (k + 1) a0 a1 a2) := by
  intro a0 a1 a2 k
  unfold tellJoin.f
  repeat' first
      | (with_reducible exact roadbookref15_Find.mono _ _ _)
      | (with_reducible exact roadbookref15_Roots.mono _ _)
      | (with_reducible exact LeO.refl _)
      | (with_reducible exact LeO.none _)
      | (with_reducible refine LeO.ite ?_ ?_)
      | (with_reducible refine LeO.bind ?_ (fun _ => ?_))
set_option maxHeartbeats 8000000 in
set_option maxRecDepth 100000 in
theorem tellJoin.no (k : Nat) (A0 : Option Addr) (c0 : Nat) (l0 : List Int) (a1 : Int) (a2 : Int) (x y : Int) (w : World) (hr0 : Kd.C (Kd.int .i64) w A0 l0.length l0) (hc0 : l0.length ≤ c0) (hx : roadbookref15_Find.f k l0 a1 = some x) (hy : roadbookref15_Find.f k l0 a2 = some y) (h : x < 0 ∨ y < 0) :
    Calls Try.prog 30 #[.slice A0 l0.length c0, .int .i64 a1, .int .i64 a2] w fun e w' => e = .returned (.tuple #[.slice A0 l0.length c0, .bool false]) ∧ Kd.C (Kd.int .i64) w' A0 l0.length l0 ∧ Below w.heap.size w w' := by
  have HR0 := Aside0.mk hr0
  have HC0 := Aside0.mk hc0
  have HX := Aside0.mk hx
  have HY := Aside0.mk hy
  have HB := Aside0.mk (Below.refl w.heap.size w)
  clear hr0 hc0 hx hy
  have e12 : (decide (x < 0) = true) ∨ (decide (x < 0) = false ∧ decide (y < 0) = true) := by
    rcases Decidable.em (x < 0) with g | g
    · exact .inl (decide_eq_true g)
    · exact .inr ⟨decide_eq_false g, decide_eq_true (h.resolve_left g)⟩
  clear h
  rcases e12 with e1 | ⟨e1, e2⟩
  all_goals
    go_enter Try.func30, Try.ntmps30
    go_wp2_with (first | (go_at_call 32; (with_reducible refine (roadbookref15_Find.calls k A0 c0 l0 a1 x _ (Kd.C_below HR0.out HB.out) HC0.out HX.out).mono ?_); rintro e w1 ⟨rfl, hd⟩; have n_ := Aside0.mk (HB.out.trans (hd.below.mono HB.out.size)); clear HB hd; have HB := n_; clear n_) | (go_at_call 32; (with_reducible refine (roadbookref15_Find.calls k A0 c0 l0 a2 y _ (Kd.C_below HR0.out HB.out) HC0.out HY.out).mono ?_); rintro e w1 ⟨rfl, hd⟩; have n_ := Aside0.mk (HB.out.trans (hd.below.mono HB.out.size)); clear HB hd; have HB := n_; clear n_))
    go_ret2
    exact ⟨rfl, Kd.C_below HR0.out HB.out, HB.out⟩
/-- A row that is handed back: it is the one that came in, or it lies in a new block. -/
def Hand {α : Type} (s : Nat) (A : Option Addr) (l : List α) (A' : Option Addr) (l' : List α) : Prop := (A' = A ∧ l' = l) ∨ ∀ ad, A' = some ad → s ≤ ad.block
theorem Hand.mono {α : Type} {s t : Nat} {A A' : Option Addr} {l l' : List α} (h : Hand s A l A' l') (hs : t ≤ s) : Hand t A l A' l' := h.imp id fun h ad e => Nat.le_trans hs (h ad e)
theorem Hand.trans {α : Type} {s : Nat} {A B C : Option Addr} {l m n : List α} (h : Hand s A l B m) (h2 : Hand s B m C n) : Hand s A l C n := by
  rcases h2 with ⟨rfl, rfl⟩ | h2
  · exact h
  · exact .inr h2
theorem Hand.refl {α : Type} (s : Nat) (A : Option Addr) (l : List α) : Hand s A l A l := .inl ⟨rfl, rfl⟩
theorem row_fresh {α : Type} {d : Kd α} {w : World} {base e n c : Nat} {ok : Nat → Prop} {A : Option Addr} {xs : List α} (h : Kd.R d e w base ok (.slice A n c) xs) : ∀ ad, A = some ad → base ≤ ad.block := by
  rintro ad rfl
  exact Kd.R_base h ad.block (by simp [Value.ownBlock])
set_option maxHeartbeats 8000000 in
set_option maxRecDepth 100000 in
theorem tellJoin.yes (k : Nat) (A0 : Option Addr) (c0 : Nat) (l0 R0 : List Int) (a1 : Int) (a2 : Int) (x y : Int) (w : World) (hr0 : Kd.C (Kd.int .i64) w A0 l0.length l0) (hc0 : l0.length ≤ c0) (hx : roadbookref15_Find.f k l0 a1 = some x) (hy : roadbookref15_Find.f k l0 a2 = some y) (hrt : roadbookref15_Roots.f k l0 = some R0) (hlen : R0.length ≤ 400) (h1 : ¬ x < 0) (h2 : ¬ y < 0) :
    Calls Try.prog 30 #[.slice A0 l0.length c0, .int .i64 a1, .int .i64 a2] w fun e w' => ∃ A c, e = .returned (.tuple #[.slice A (R0.map (tellM x y)).length c, .bool true]) ∧ (R0.map (tellM x y)).length ≤ c ∧ Kd.C (Kd.int .i64) w' A (R0.map (tellM x y)).length (R0.map (tellM x y)) ∧ (∀ ad, A = some ad → w.heap.size ≤ ad.block) ∧ Below w.heap.size w w' := by
  have HR0 := Aside0.mk hr0
  have HC0 := Aside0.mk hc0
  have HX := Aside0.mk hx
  have HY := Aside0.mk hy
  have HRT := Aside0.mk hrt
  have HB := Aside0.mk (Below.refl w.heap.size w)
  have e1 : decide (x < 0) = false := decide_eq_false h1
  have e2 : decide (y < 0) = false := decide_eq_false h2
  clear hr0 hc0 hx hy hrt h1 h2
  obtain ⟨f, hf⟩ : ∃ f : Int → Int, f = tellM x y := ⟨_, rfl⟩
  rw [← hf]
  have HFF := Aside0.mk hf
  clear hf
  obtain ⟨lo, hlo⟩ : ∃ lo, lo = (if y < x then y else x) := ⟨_, rfl⟩
  have HLO := Aside0.mk hlo
  go_enter Try.func30, Try.ntmps30
  go_upto_if 29 with (first | (go_at_call 32; (with_reducible refine (roadbookref15_Find.calls k A0 c0 l0 a1 x _ (Kd.C_below HR0.out HB.out) HC0.out HX.out).mono ?_); rintro e w1 ⟨rfl, hd⟩; have n_ := Aside0.mk (HB.out.trans (hd.below.mono HB.out.size)); clear HB hd; have HB := n_; clear n_) | (go_at_call 32; (with_reducible refine (roadbookref15_Find.calls k A0 c0 l0 a2 y _ (Kd.C_below HR0.out HB.out) HC0.out HY.out).mono ?_); rintro e w1 ⟨rfl, hd⟩; have n_ := Aside0.mk (HB.out.trans (hd.below.mono HB.out.size)); clear HB hd; have HB := n_; clear n_))
  (try simp only [Act.put, List.setIfInBounds_toArray, List.set_cons_zero, List.set_cons_succ])
  go_cut [10] (fun v wc => v = .int .i64 lo ∧ Aside0 (Below w.heap.size w wc))
  case first =>
    by_cases c : y < x
    · rw [if_pos c] at hlo
      subst hlo
      have cb : decide (lo < x) = true := decide_eq_true c
      clear c
      rw [cb]
      go_wp2
      go_meet
      case rel => exact ⟨rfl, HB⟩
    · rw [if_neg c] at hlo
      subst hlo
      have cb : decide (y < lo) = false := decide_eq_false c
      clear c
      rw [cb]
      go_wp2
      go_meet
      case rel => exact ⟨rfl, HB⟩
  case rest =>
  clear HB hlo
  obtain ⟨rfl, HB⟩ := hcut
  go_wp2_with (go_at_call 34; refine (roadbookref15_Roots.calls k A0 c0 l0 R0 _ (Kd.C_below HR0.out HB.out) HC0.out HRT.out).mono ?_; rintro e w3 ⟨v3, rfl, ho3, hb3⟩; have HO3 := Aside0.mk (Kd.R_lower ho3 HB.out.size); have HB3 := Aside0.mk (HB.out.trans (hb3.mono HB.out.size)); clear ho3 hb3; obtain ⟨A2, c2, e3⟩ := Kd.R_slice HO3.out; subst e3)
  go_loopw [12] (fun i wr => ∃ k : Nat, k ≤ R0.length ∧ i = .int .i64 k ∧ Aside0 (Kd.R (Kd.int .i64) 3 wr w.heap.size (fun _ => True) (.slice A2 R0.length c2) (midF f R0 k)) ∧ Aside0 (Below w.heap.size w wr)) (fun i _ => R0.length - (intOf i).toNat)
  case atStart => exact ⟨0, Nat.zero_le _, rfl, ⟨by rw [midF_zero]; exact HO3.out⟩, HB3⟩
  case round =>
    obtain ⟨k, hk, rfl, HO, HBr⟩ := hrel
    by_cases hlt : k < R0.length
    · obtain ⟨g, c3, e3, hgb, hgl, _⟩ := Kd.R_form HO.out (by rw [midF_length]; omega)
      have e4 : A2 = some ⟨g, 0, none⟩ := by injection e3
      subst e4
      clear e3
      have hc1 := Kd.R_celln (0 : Int) HO.out (k : Int) (by omega) (by omega)
      have hmid := midF_at f R0 k k hlt
      rw [if_neg (by omega)] at hmid
      obtain ⟨r, hr⟩ : ∃ r, r = R0.getD k 0 := ⟨_, rfl⟩
      rw [← hr] at hmid
      simp only [rdOf, Int.toNat_natCast, hmid] at hc1
      obtain ⟨hc1, hf1⟩ := hc1
      by_cases he : r = x ∨ r = y
      · have eb : ((r == x) = true) ∨ ((r == x) = false ∧ (r == y) = true) := by
          rcases Decidable.em (r = x) with g | g
          · exact .inl (by rw [beq_iff_eq]; exact g)
          · exact .inr ⟨by rw [beq_eq_false_iff_ne]; exact g, by rw [beq_iff_eq]; exact he.resolve_left g⟩
        have hfr : f (R0.getD k 0) = lo := by rw [← hr, HFF.out, tellM, if_pos he]; exact HLO.out.symm
        have hp := Kd.R_putg HO.out (k : Int) lo
        rw [Int.toNat_natCast, ← hfr, midF_succ f R0 k hlt, hfr] at hp
        have HP := Aside0.mk hp
        have HS := Aside0.mk (show Below w.heap.size w (wr.setCell ⟨g, k, none⟩ (.int .i64 lo)) from below_set HBr.out hgb)
        clear hr hmid he hfr hp
        rcases eb with eb | ⟨eb, eb2⟩
        all_goals
          go_wp2
          go_roundw
          case rel => exact ⟨k + 1, by omega, by go_num, ⟨HP.out.1⟩, HS⟩
          case measure => simp [intOf]; omega
      · have eb : (r == x) = false := by rw [beq_eq_false_iff_ne]; exact fun h_ => he (.inl h_)
        have eb2 : (r == y) = false := by rw [beq_eq_false_iff_ne]; exact fun h_ => he (.inr h_)
        have hfr : f (R0.getD k 0) = R0.getD k 0 := by rw [← hr, HFF.out, tellM, if_neg he]
        have HSK := Aside0.mk (midF_skip f R0 k hlt hfr)
        clear hr hmid he hfr
        go_wp2
        go_roundw
        case rel => exact ⟨k + 1, by omega, by go_num, ⟨by rw [← HSK.out]; exact HO.out⟩, HBr⟩
        case measure => simp [intOf]; omega
    · obtain rfl : k = R0.length := by omega
      go_wp2
      go_ret2
      have hlm : (R0.map f).length = R0.length := List.length_map _
      have hz := HO.out
      rw [midF_all] at hz
      rw [hlm]
      have hz' := Kd.R_reads' hz
      rw [hlm] at hz'
      exact ⟨_, _, rfl, hz'.2.1, hz'.2.2, row_fresh hz, HBr.out⟩
theorem tellJoin.hand (k : Nat) (A0 : Option Addr) (c0 : Nat) (l0 : List Int) (a1 : Int) (a2 : Int) (r1 : List Int) (r2 : Bool) (w : World) (hr0 : Kd.C (Kd.int .i64) w A0 l0.length l0) (hc0 : l0.length ≤ c0) (h : tellJoin.f k l0 a1 a2 = some (r1, r2)) :
    Calls Try.prog 30 #[.slice A0 l0.length c0, .int .i64 a1, .int .i64 a2] w fun e w' => ∃ A c, e = .returned (.tuple #[.slice A r1.length c, .bool r2]) ∧ r1.length ≤ c ∧ Kd.C (Kd.int .i64) w' A r1.length r1 ∧ Hand w.heap.size A0 l0 A r1 ∧ Below w.heap.size w w' := by
  unfold tellJoin.f at h
  obtain ⟨x, hx, h⟩ := Option.bind_eq_some_iff.mp h
  obtain ⟨y, hy, h⟩ := Option.bind_eq_some_iff.mp h
  by_cases h1 : x < 0
  · rw [if_pos h1] at h
    obtain ⟨rfl, rfl⟩ := Prod.mk.inj (Option.some.inj h)
    refine (tellJoin.no k A0 c0 l0 a1 a2 x y w hr0 hc0 hx hy (.inl h1)).mono ?_
    rintro e w' ⟨rfl, h2, h3⟩
    exact ⟨_, _, rfl, hc0, h2, Hand.refl _ _ _, h3⟩
  · rw [if_neg h1] at h
    by_cases h2 : y < 0
    · rw [if_pos h2] at h
      obtain ⟨rfl, rfl⟩ := Prod.mk.inj (Option.some.inj h)
      refine (tellJoin.no k A0 c0 l0 a1 a2 x y w hr0 hc0 hx hy (.inr h2)).mono ?_
      rintro e w' ⟨rfl, h2, h3⟩
      exact ⟨_, _, rfl, hc0, h2, Hand.refl _ _ _, h3⟩
    · rw [if_neg h2] at h
      obtain ⟨r, hr, h⟩ := Option.bind_eq_some_iff.mp h
      by_cases h3 : r.length ≤ 400
      · rw [if_pos h3] at h
        obtain ⟨rfl, rfl⟩ := Prod.mk.inj (Option.some.inj h)
        exact (tellJoin.yes k A0 c0 l0 r a1 a2 x y w hr0 hc0 hx hy hr h3 h1 h2).mono fun e w' ⟨A, c, he, hl, hC, hn, hb⟩ => ⟨A, c, he, hl, hC, .inr hn, hb⟩
      · rw [if_neg h3] at h; cases h
theorem tellJoin.calls (k : Nat) (A0 : Option Addr) (c0 : Nat) (l0 : List Int) (a1 : Int) (a2 : Int) (r1 : List Int) (r2 : Bool) (w : World) (hr0 : Kd.C (Kd.int .i64) w A0 l0.length l0) (hc0 : l0.length ≤ c0) (h : tellJoin.f k l0 a1 a2 = some (r1, r2)) :
    Calls Try.prog 30 #[.slice A0 l0.length c0, .int .i64 a1, .int .i64 a2] w fun e w' => ∃ A c, e = .returned (.tuple #[.slice A r1.length c, .bool r2]) ∧ r1.length ≤ c ∧ Kd.C (Kd.int .i64) w' A r1.length r1 ∧ Below w.heap.size w w' :=
  (tellJoin.hand k A0 c0 l0 a1 a2 r1 r2 w hr0 hc0 h).mono fun e w' ⟨A, c, he, hl, hC, _, hb⟩ => ⟨A, c, he, hl, hC, hb⟩
end Go.Proofs.Ytkidnomkfdnciaa.All
