/- The document's Run: a contract that only reads. -/
import Derived.Test.YtkidnomkfdnciaaR20D
import Derived.Test.YtkidnomkfdnciaaR20C
import Derived.Test.YtkidnomkfdnciaaQCall
import Derived.Test.YtkidnomkfdnciaaCalls2
import Derived.Test.YtkidnomkfdnciaaSets2
import Derived.Test.YtkidnomkfdnciaaR16B
namespace Go.Proofs.Ytkidnomkfdnciaa.All
open Go.RowKit Go.Proofs.Ytkidnomkfdnciaa.Pure Go.Proofs.YtkidnomkfdnciaaW.PrintWords Go.Proofs.YtkidnomkfdnciaaW.PrintLast Go.Proofs.YtkidnomkfdnciaaW.PrintMore
set_option linter.unusedVariables false
set_option linter.unusedSimpArgs false
section
variable {w : World} {AN AG AP A1 A2 : Option Addr} {cN cG cP c1 c2 : Nat} {N : List S48} {G P : List Int} {L : List (List S76)} {sc : List Int}
def totI (L : List (List S76)) (j : Nat) : Int := ((tot (L.take j) : Nat) : Int)
theorem tot_take {L : List (List S76)} {j : Nat} (h : j < L.length) : tot (L.take (j + 1)) = tot (L.take j) + 3 * (L.getD j []).length := by
 unfold tot
 rw [List.take_add_one, List.map_append, List.sum_append, List.getD_eq_getElem?_getD, List.getElem?_eq_getElem h]
 simp
theorem tot_le {L : List (List S76)} (hs : Small L) : ∀ j, j ≤ L.length → tot (L.take j) ≤ 36 * j
 | 0, _ => by simp [tot]
 | j + 1, h => by
  have := tot_le hs j (by omega)
  have h2 := hs.2 j (by omega)
  rw [tot_take (by omega)]
  omega
theorem RBox.is (n : Nat) {W : World} (h : W = ((((w.alloc (.cells #[.slice AN N.length cN, .slice AG G.length cG, .slice AP P.length cP] 38)).alloc (.cells #[.slice none 0 0, .slice none 0 0, .slice none 0 0] 38)).alloc (.cells (madeCells #[.int .i64 0] (n * 1)) 3)).alloc (.cells (madeCells #[.int .i64 0, .int .i64 0] (n * 2)) 73)).alloc (.cells (madeCells #[.slice none 0 0] (n * 1)) 71)) (hm : MemoAt w AN cN N AG cG G AP cP P) :
  RBox w W n AN cN N AG cG G AP cP P (.slice none 0 0) (fun _ => .slice none 0 0) [] (fun _ => 0) (fun _ => ⟨0, 0⟩) (fun _ => []) := h ▸ RBox.new hm n
theorem rank_div {o : One} {q m : Nat} (h : o.st ≤ 2) (hq : q = rank o) (hm : m = o.at_) : (q : Int) / 3 = (m : Int) := by rw [hq, hm]; unfold rank; omega
theorem rank_mod {o : One} {q : Nat} (h : o.st ≤ 2) (hq : q = rank o) : (q : Int) % 3 = (o.st : Int) := by rw [hq]; unfold rank; omega
theorem wrap_q {q : Nat} (h : q ≤ 40) : wrap64 ((q : Int) + 1) = ((q + 1 : Nat) : Int) := by rw [wrap_in (by omega) (by omega)]; rfl
theorem wrap_m {q m : Nat} (h : q ≤ 40) (hm : (q : Int) / 3 = (m : Int)) : wrap64 (m : Int) = (m : Int) := by rw [← hm]; exact wrap_in (by omega) (by omega)
theorem ev_lim {n : Nat} (h : n ≤ 500) : (n + 1) * 24 ≤ 140737488355328 := by omega
theorem end_lim {n m k : Nat} (h : n = m) (h2 : m ≤ k) (h3 : k ≤ 12) : (n + 1) * 16 ≤ 140737488355328 := by omega
theorem upto2 {S : Nat} (h : S ≤ 2) : S = 0 ∨ S = 1 ∨ S = 2 := by omega
def RSt (w W : World) (n : Nat) (AN : Option Addr) (cN : Nat) (AG : Option Addr) (cG : Nat) (AP : Option Addr) (cP : Nat) (vE : Value) (vD : Nat → Value) (s : St) : Prop :=
 RBox w W n AN cN s.N AG cG s.G AP cP s.P vE vD s.ev (fun j => ((rank (nth s j) : Nat) : Int)) (fun j => ⟨(nth s j).g, (nth s j).e⟩) (fun j => (nth s j).ended)
theorem picked_at {W : World} {cA cB a : Nat} {A B : Option Addr} {vE : Value} {vD : Nat → Value} {s : St} {p : Option Nat} (h : RSt w W L.length AN cN AG cG AP cP vE vD s) (hL : Kd.C (Kd.slice 76 k76) W A L.length L) (hc : L.length ≤ cA) (hs : Kd.C (Kd.int .i64) W B sc.length sc) (hd : sc.length ≤ cB) (g : Pure.Good L s) (hS : Small L) (hp : p = pickN L.length s sc a) :
  Calls Try.prog 90 #[.slice A L.length cA, .slice (some ⟨w.heap.size + 2, 0, none⟩) L.length L.length, .slice B sc.length cB, .int .i64 (a : Int)] W fun e w' => e = .returned (.int .i64 (pickI p)) ∧ Below W.heap.size W w' := by
 have hl := farL_len g
 have hC := h.farC hl (by have := hS.1; omega) (fun j hj => by
  have := g.il hj
  unfold farL nth
  simp [List.getD_eq_getElem?_getD, List.getElem?_map, List.getElem?_eq_getElem this])
 have := roadbookref20_picked.calls 100 _ _ _ _ L.length _ _ _ _ _ _ W hL hc (hl.symm ▸ hC) (by omega) hs hd (picked_k (sc := sc) (a := a) g hS (k := 100) (Nat.le_refl _))
 rw [hl] at this
 rw [hp]
 exact this.mono fun e w' ⟨he, hb⟩ => ⟨he, hb.below⟩
theorem RBox.st {W : World} {n : Nat} {vE : Value} {vD : Nat → Value} {ev : List S68} {F : Nat → Int} {B : Nat → S73} {E : Nat → List S73} {s' : St} (h : RBox w W n AN cN N AG cG G AP cP P vE vD ev F B E) (hN : s'.N = N) (hG : s'.G = G) (hP : s'.P = P) (hv : s'.ev = ev) (hF : ∀ j, j < n → ((rank (nth s' j) : Nat) : Int) = F j) (hB : ∀ j, j < n → (⟨(nth s' j).g, (nth s' j).e⟩ : S73) = B j) (hE : ∀ j, j < n → (nth s' j).ended = E j) : RSt w W n AN cN AG cG AP cP vE vD s' := by
 subst hN hG hP hv
 exact h.congr hF hB hE
theorem RBox.step0 {W : World} {vE : Value} {vD : Nat → Value} {s : St} {i : Nat} {q m : Nat} (g : Pure.Good L s) (hi : i < L.length) (hl : left s i) (h0 : (nth s i).st = 0) (hq : q = rank (nth s i)) (hm : m = (nth s i).at_) (h : RBox w W L.length AN cN s.N AG cG s.G AP cP s.P vE vD (s.ev ++ [⟨(i : Int), (m : Int), 0⟩]) (fun j => if j = i then ((q + 1 : Nat) : Int) else ((rank (nth s j) : Nat) : Int)) (fun j => ⟨(nth s j).g, (nth s j).e⟩) (fun j => (nth s j).ended)) :
  RSt w W L.length AN cN AG cG AP cP vE vD (Pure.stepT s i) := by
 have hn := step_nth (g.il hi) hl
 subst hq hm
 have e0 : nextOne s i = { nth s i with st := 1 } := by unfold nextOne; rw [if_pos h0]
 refine h.st ?_ ?_ ?_ ?_ (fun j hj => ?_) (fun j hj => ?_) (fun j hj => ?_)
 ·unfold Pure.stepT; rw [if_pos hl]; simp [h0]
 ·unfold Pure.stepT; rw [if_pos hl]; simp [h0]
 ·unfold Pure.stepT; rw [if_pos hl]; simp [h0]
 ·unfold Pure.stepT; rw [if_pos hl]; simp [h0]
 ·rw [hn j]
  by_cases e : j = i
  ·rw [if_pos e, if_pos e, next_rank (g.st i hi)]
  ·rw [if_neg e, if_neg e]
 ·rw [hn j]
  by_cases e : j = i
  ·rw [if_pos e, e0, e]
  ·rw [if_neg e]
 ·rw [hn j]
  by_cases e : j = i
  ·rw [if_pos e, e0, e]
  ·rw [if_neg e]
theorem RBox.step1 {W : World} {vE : Value} {vD : Nat → Value} {s : St} {i : Nat} {q m : Nat} {r : List S48 × List Int × List Int × Int × Int} (g : Pure.Good L s) (hi : i < L.length) (hl : left s i) (h1 : (nth s i).st = 1) (hr : r = doing s i) (hq : q = rank (nth s i)) (hm : m = (nth s i).at_) (h : RBox w W L.length AN cN r.1 AG cG r.2.1 AP cP r.2.2.1 vE vD (s.ev ++ [⟨(i : Int), (m : Int), 1⟩]) (fun j => if j = i then ((q + 1 : Nat) : Int) else ((rank (nth s j) : Nat) : Int)) (fun j => if j = i then ⟨r.2.2.2.1, r.2.2.2.2⟩ else ⟨(nth s j).g, (nth s j).e⟩) (fun j => (nth s j).ended)) :
  RSt w W L.length AN cN AG cG AP cP vE vD (Pure.stepT s i) := by
 have hn := step_nth (g.il hi) hl
 subst hq hm
 subst hr
 have e0 : nextOne s i = { nth s i with g := (doing s i).2.2.2.1, e := (doing s i).2.2.2.2, st := 2 } := by unfold nextOne; rw [if_neg (by omega), if_pos h1]
 refine h.st ?_ ?_ ?_ ?_ (fun j hj => ?_) (fun j hj => ?_) (fun j hj => ?_)
 ·unfold Pure.stepT; rw [if_pos hl]; simp [h1]
 ·unfold Pure.stepT; rw [if_pos hl]; simp [h1]
 ·unfold Pure.stepT; rw [if_pos hl]; simp [h1]
 ·unfold Pure.stepT; rw [if_pos hl]; simp [h1]
 ·rw [hn j]
  by_cases e : j = i
  ·rw [if_pos e, if_pos e, next_rank (g.st i hi)]
  ·rw [if_neg e, if_neg e]
 ·rw [hn j]
  by_cases e : j = i
  ·rw [if_pos e, if_pos e, e0]
  ·rw [if_neg e, if_neg e]
 ·rw [hn j]
  by_cases e : j = i
  ·rw [if_pos e, e0, e]
  ·rw [if_neg e]
theorem RBox.step2 {W : World} {vE : Value} {vD : Nat → Value} {s : St} {i : Nat} {q m : Nat} (g : Pure.Good L s) (hi : i < L.length) (hl : left s i) (h2 : (nth s i).st = 2) (hq : q = rank (nth s i)) (hm : m = (nth s i).at_) (h : RBox w W L.length AN cN s.N AG cG s.G AP cP s.P vE vD (s.ev ++ [⟨(i : Int), (m : Int), 2⟩]) (fun j => if j = i then ((q + 1 : Nat) : Int) else ((rank (nth s j) : Nat) : Int)) (fun j => ⟨(nth s j).g, (nth s j).e⟩) (fun j => if j = i then (nth s i).ended ++ [⟨(nth s i).g, (nth s i).e⟩] else (nth s j).ended)) :
  RSt w W L.length AN cN AG cG AP cP vE vD (Pure.stepT s i) := by
 have hn := step_nth (g.il hi) hl
 subst hq hm
 have e0 : nextOne s i = { nth s i with ended := (nth s i).ended ++ [⟨(nth s i).g, (nth s i).e⟩], at_ := (nth s i).at_ + 1, st := 0 } := by unfold nextOne; rw [if_neg (by omega), if_neg (by omega)]
 refine h.st ?_ ?_ ?_ ?_ (fun j hj => ?_) (fun j hj => ?_) (fun j hj => ?_)
 ·unfold Pure.stepT; rw [if_pos hl]; simp [h2]
 ·unfold Pure.stepT; rw [if_pos hl]; simp [h2]
 ·unfold Pure.stepT; rw [if_pos hl]; simp [h2]
 ·unfold Pure.stepT; rw [if_pos hl]; simp [h2]
 ·rw [hn j]
  by_cases e : j = i
  ·rw [if_pos e, if_pos e, next_rank (g.st i hi)]
  ·rw [if_neg e, if_neg e]
 ·rw [hn j]
  by_cases e : j = i
  ·rw [if_pos e, e0, e]
  ·rw [if_neg e]
 ·rw [hn j]
  by_cases e : j = i
  ·rw [if_pos e, if_pos e, e0]
  ·rw [if_neg e, if_neg e]
theorem outC {W : World} {b n : Nat} {vD : Nat → Value} {E : Nat → List S73} {base : Nat} {ok : Nat → Nat → Prop} (hout : ∀ j, j < n → W.cell? ⟨b, j, none⟩ = some (vD j)) (hd : ∀ j, j < n → Kd.R k73 73 W base (ok j) (vD j) (E j)) {l : List (List S73)} (hl : l.length = n) (hm : n ≤ 1000) (he : ∀ j, j < n → l.getD j [] = E j) : Kd.C (Kd.slice 73 k73) W (some ⟨b, 0, none⟩) n l := by
 refine ⟨hl, by show n ≤ 9223372036854775807; omega, fun _ => ⟨_, rfl, fun j y hj => ?_⟩⟩
 obtain ⟨hj1, hj2⟩ := List.getElem?_eq_some_iff.1 hj
 have hy : E j = y := by rw [← he j (by omega), List.getD_eq_getElem?_getD, hj]; rfl
 obtain ⟨A, c, e, hle, hC⟩ := Kd.R_reads (hd j (by omega))
 rw [hy] at e hle hC
 refine ⟨[.slice A y.length c], rfl, ⟨A, c, rfl, hle, hC⟩, fun i u hi => ?_⟩
 have hi0 : i = 0 := by
  rcases i with _ | i
  ·rfl
  ·simp at hi
 subst hi0
 obtain rfl : Value.slice A y.length c = u := by simpa using hi
 have e3 : (⟨b, 0, none⟩ : Addr).add (j * (Kd.slice 73 k73).sz + 0) = ⟨b, j, none⟩ := by
  have e2 : j * (Kd.slice 73 k73).sz + 0 = j := by show j * 1 + 0 = j; omega
  rw [e2]
  unfold Addr.add
  split
  ·rename_i h0; rw [h0]
  ·simp
 rw [e3, ← e]
 exact hout j (by omega)
theorem RSt.last {W : World} {vD : Nat → Value} {s : St} {A4 : Option Addr} {c4 : Nat} (h : RSt w W L.length AN cN AG cG AP cP (.slice A4 s.ev.length c4) vD s) (g : Pure.Good L s) (hS : Small L) {F : World} (hF : F = ((W.setCell ⟨w.heap.size + 1, 0, none⟩ (.slice AN s.N.length cN)).setCell ⟨w.heap.size + 1, 1, none⟩ (.slice AG s.G.length cG)).setCell ⟨w.heap.size + 1, 2, none⟩ (.slice AP s.P.length cP)) :
  MemoAt F AN cN s.N AG cG s.G AP cP s.P ∧ (Kd.C (Kd.slice 73 k73) F (some ⟨w.heap.size + 4, 0, none⟩) L.length (s.ones.map One.ended) ∧ L.length ≤ L.length) ∧ (Kd.C k68 F A4 s.ev.length s.ev ∧ s.ev.length ≤ c4) ∧ Below w.heap.size w F := by
 have i : Mv W F [w.heap.size + 1, w.heap.size + 1, w.heap.size + 1] := by rw [hF]; infer_instance
 have m3 : ∀ b, b ∈ [w.heap.size + 1, w.heap.size + 1, w.heap.size + 1] → b = w.heap.size + 1 := fun b hb => by simp at hb; exact hb
 have hev := R_mv h.ev i (fun b hb e => by have := h.fe b e; have := m3 b hb; omega)
 refine ⟨h.mem.mv i (h.off.mono (fun k hk => .inl (by have := m3 k hk; omega))), ⟨outC (fun j hj => cell_mv (h.out j hj) i (fun hb => by have := m3 _ hb; simp at this)) (fun j hj => R_mv (h.d j hj) i (fun b hb e => by have := h.fresh j hj b e; have := m3 b hb; omega)) (by rw [List.length_map, g.len]) (by have := hS.1; omega) (fun j hj => ?_), Nat.le_refl _⟩, ⟨(Kd.R_reads' hev).2.2, (Kd.R_reads' hev).2.1⟩, wX h.bel i (fun b hb => by have := m3 b hb; omega)⟩
 have := g.il hj
 unfold nth
 simp [List.getD_eq_getElem?_getD, List.getElem?_map, List.getElem?_eq_getElem this]
set_option maxHeartbeats 16000000 in
set_option maxRecDepth 100000 in
theorem rrun_at {s : St} (h : MemoAt w AN cN N AG cG G AP cP P) (hl : Kd.C (Kd.slice 76 k76) w A1 L.length L) (hc : L.length ≤ c1) (hsr : Kd.C (Kd.int .i64) w A2 sc.length sc) (hsc : sc.length ≤ c2) (hL : Lim N G P) (hS : Small L) (h2 : sc.length ≤ 200) (he : s = rds L.length sc (sc.length + tot L) 0 (Pure.start N G P L)) :
  Calls Try.prog 65 #[.agg #[.slice AN N.length cN, .slice AG G.length cG, .slice AP P.length cP], .slice A1 L.length c1, .slice A2 sc.length c2] w fun e w' => ∃ A0 c0 A1 c1 A2 c2 A3 c3 A4 c4, e = .returned (.tuple #[.agg #[.slice A0 s.N.length c0, .slice A1 s.G.length c1, .slice A2 s.P.length c2], .slice A3 L.length c3, .slice A4 s.ev.length c4]) ∧ MemoAt w' A0 c0 s.N A1 c1 s.G A2 c2 s.P ∧ (Kd.C (Kd.slice 73 k73) w' A3 L.length (s.ones.map One.ended) ∧ L.length ≤ c3) ∧ (Kd.C k68 w' A4 s.ev.length s.ev ∧ s.ev.length ≤ c4) ∧ Below w.heap.size w w' := by
 obtain ⟨hx, hz, hbb⟩ := res_new w AN cN N AG cG G AP cP P
 have HH := Aside0.mk h
 have HLw := Aside0.mk hl
 have HSw := Aside0.mk hsr
 have HCs := Aside0.mk (And.intro hc hsc)
 have HLi := Aside0.mk hL
 have HSm := Aside0.mk hS
 have HE := Aside0.mk he
 have n12 := hS.1
 have HLc := Aside0.mk (Kd.C_below hl hbb)
 clear h hl hc hsr hsc hL hS he hx hz hbb
 go_enter Try.func65, Try.ntmps65
 obtain ⟨W0, hW0⟩ : ∃ W0, W0 = (w.alloc (.cells #[.slice AN N.length cN, .slice AG G.length cG, .slice AP P.length cP] 38)).alloc (.cells #[.slice none 0 0, .slice none 0 0, .slice none 0 0] 38) := ⟨_, rfl⟩
 go_wp2
 rw [← hW0] at HLc ⊢
 have HW0 := Aside0.mk hW0
 clear hW0
 go_loopw [9, 10] (fun v i wr => ∃ j : Nat, j ≤ L.length ∧ i = .int .i64 j ∧ v = .int .i64 (totI L j) ∧ wr = W0) (fun _ i _ => L.length - (intOf i).toNat)
 case atStart => exact ⟨0, Nat.zero_le _, rfl, rfl, rfl⟩
 case round =>
  obtain ⟨j, hj, rfl, rfl, rfl⟩ := hrel
  by_cases hlt : j < L.length
  ·obtain ⟨ad, B1, d1, rfl, hcell, hl1, hi1⟩ := at_L5 HLc.out (j : Int) (by omega) (by omega)
   have hrd : rd_L5 L (j : Int) = L.getD j [] := by simp [rd_L5]
   rw [hrd, Int.toNat_natCast] at hcell
   obtain ⟨q, hq⟩ : ∃ q, q = (L.getD j []).length := ⟨_, rfl⟩
   rw [← hq] at hcell
   have q12 := HSm.out.2 j hlt
   rw [← hq] at q12
   have d50 : ¬ (50 : Int) < (q : Int) := by omega
   have d64 : ¬ (64 : Int) < (L.length : Int) := by omega
   have htk := tot_take hlt
   rw [← hq] at htk
   have htl := tot_le HSm.out j hj
   obtain ⟨t, ht⟩ : ∃ t, t = totI L j := ⟨_, rfl⟩
   rw [← ht]
   have HT := Aside0.mk (show totI L (j + 1) = t + 3 * (q : Int) ∧ 0 ≤ t ∧ t ≤ 500 by rw [ht]; unfold totI; rw [htk]; refine ⟨by push_cast; rfl, by omega, by omega⟩)
   clear hl1 hi1 hrd hq htk htl ht
   go_wp2
   go_roundw
   case rel => exact ⟨j + 1, by omega, by go_num, by obtain ⟨h1, h3, h4⟩ := HT.out; rw [h1, wrap_in (by omega) (by omega)], trivial⟩
   case measure => simp [intOf]; omega
  ·obtain rfl : j = L.length := by omega
   have htt : totI L L.length = ((tot L : Nat) : Int) := by unfold totI; rw [List.take_length]
   have htl := tot_le HSm.out L.length (Nat.le_refl _)
   rw [List.take_length] at htl
   rw [htt]
   obtain ⟨T, hT⟩ : ∃ T, T = tot L := ⟨_, rfl⟩
   rw [← hT] at htl HE ⊢
   clear htt hT hj hlt
   go_wp2_with (first
    | ((with_reducible refine gate_dst (N := 49) rfl ?_); refine makeL_ (N := 49) rfl rfl 22 3 (.tmp 48) (.tmp 48) rfl L.length rfl rfl Try.underlying22 (.int .i64 0) 1 8 info3 (by decide) (by omega) ?_)
    | ((with_reducible refine gate_dst (N := 52) rfl ?_); refine makeL_ (N := 52) rfl rfl 71 73 (.tmp 51) (.tmp 51) rfl L.length rfl rfl Try.underlying71 (.agg #[.int .i64 0, .int .i64 0]) 2 16 info73 (by decide) (by omega) ?_)
    | ((with_reducible refine gate_dst (N := 55) rfl ?_); refine makeL_ (N := 55) rfl rfl 62 71 (.tmp 54) (.tmp 54) rfl L.length rfl rfl Try.underlying62 (.slice none 0 0) 1 24 info71 (by decide) (by omega) ?_))
   obtain ⟨Wa, hWa⟩ : ∃ W, W = ((wr.alloc (.cells (madeCells #[.int .i64 0] L.length) 3)).alloc (.cells (madeCells #[.int .i64 0, .int .i64 0] (L.length * 2)) 73)).alloc (.cells (madeCells #[.slice none 0 0] L.length) 71) := ⟨_, rfl⟩
   rw [← hWa]
   have hsz : wr.heap.size = w.heap.size + 2 := by rw [HW0.out, rfl_size]
   have HB0 := Aside0.mk (RBox.is L.length (W := Wa) (by rw [hWa, HW0.out, Nat.mul_one]) HH.out)
   rw [hsz, show w.heap.size + 2 + 1 = w.heap.size + 3 from rfl, show w.heap.size + 3 + 1 = w.heap.size + 4 from rfl]
   clear hWa hsz HW0 HLc
   go_loopw [14, 15] (fun vE i wr => ∃ a : Nat, a ≤ sc.length + T ∧ i = .int .i64 a ∧ ∃ (sj : St) (AN : Option Addr) (cN : Nat) (AG : Option Addr) (cG : Nat) (AP : Option Addr) (cP : Nat) (vD : Nat → Value), Aside0 (RSt w wr L.length AN cN AG cG AP cP vE vD sj) ∧ Aside0 (Pure.Good L sj) ∧ Aside0 (s = rds L.length sc (sc.length + T - a) a sj)) (fun _ i _ => sc.length + T - (intOf i).toNat)
   case atStart =>
    refine ⟨0, Nat.zero_le _, rfl, Pure.start N G P L, _, _, _, _, _, _, _, ⟨HB0.out.congr (fun j hj => ?_) (fun j hj => ?_) (fun j hj => ?_)⟩, ⟨start_good HLi.out L⟩, HE⟩
    all_goals (rw [start_nth N G P L hj]; rfl)
   case round =>
    clear HB0 HE HLi HH
    obtain ⟨a, ha, rfl, sj, AN, cN, AG, cG, AP, cP, vD, HI, HG, HQ⟩ := hrel
    by_cases hlt : a < sc.length + T
    ·have hlt' : (a : Int) < (sc.length : Int) + (T : Int) := by omega
     obtain ⟨p, hp⟩ : ∃ p, p = pickN L.length sj sc a := ⟨_, rfl⟩
     have HP := Aside0.mk (picked_at HI.out (Kd.C_below HLw.out HI.out.bel) HCs.out.1 (Kd.C_below HSw.out HI.out.bel) HCs.out.2 HG.out HSm.out hp)
     have hq := HQ.out
     rw [show sc.length + T - a = (sc.length + T - (a + 1)) + 1 by omega, rds] at hq
     unfold roundT at hq
     rw [← hp] at hq
     cases p with
     | none =>
      dsimp only [pickI] at hq HP
      have HQ1 := Aside0.mk hq
      clear hq hp HQ
      go_wp2_with (go_at_call 90; refine HP.out.mono ?_; rintro e w1 ⟨rfl, hb⟩; have HI1 := Aside0.mk (RBox.below HI.out hb); clear hb)
      go_roundw
      case rel => exact ⟨a + 1, by omega, by go_num, sj, _, _, _, _, _, _, _, HI1, HG, HQ1⟩
      case measure => simp [intOf]; omega
     | some i =>
      obtain ⟨hi, hl⟩ := pickN_some hp.symm
      dsimp only [pickI] at hq HP
      have HQ1 := Aside0.mk hq
      have HL := Aside0.mk hl
      clear hq hp HQ hl
      have hi0 : ¬ (i : Int) < 0 := by omega
      have hst := HG.out.st i hi
      have hrk := HG.out.rank_le hi
      have hs12 := HSm.out.2 i hi
      obtain ⟨q, hq⟩ : ∃ q, q = rank (nth sj i) := ⟨_, rfl⟩
      obtain ⟨m, hm⟩ : ∃ m, m = (nth sj i).at_ := ⟨_, rfl⟩
      have HEV := Aside0.mk (HG.out.ev_le HSm.out)
      have hq40 : q ≤ 40 := by omega
      have hqd : (q : Int) / 3 = (m : Int) := rank_div hst hq hm
      have hqm : (q : Int) % 3 = ((nth sj i).st : Int) := rank_mod hst hq
      have hwq : wrap64 ((q : Int) + 1) = ((q + 1 : Nat) : Int) := wrap_q hq40
      have hwA : wrap64 (m : Int) = (m : Int) := wrap_m hq40 hqd
      have HQE := Aside0.mk (And.intro hq hm)
      clear hrk hs12
      obtain ⟨S, hS⟩ : ∃ S, S = (nth sj i).st := ⟨_, rfl⟩
      rw [← hS] at hst hqm
      have HP2 := Aside0.mk (HP.out.mono fun e w' ⟨he, hb⟩ => (⟨he, by rw [hq]; exact (RBox.below HI.out hb).far i hi, RBox.below HI.out hb⟩ : e = _ ∧ w'.cell? ⟨w.heap.size + 2, i, none⟩ = some (Value.int .i64 (q : Int)) ∧ RSt w w' L.length AN cN AG cG AP cP u14 vD sj))
      have hml : m < (L.getD i []).length := by rw [hm]; exact (HG.out.left_iff hi).1 HL.out
      rcases upto2 hst with rfl | rfl | rfl
      ·have HS0 := Aside0.mk hS.symm
       have hqm0 : (q : Int) % 3 = 0 := hqm
       clear hst hS hqm hq hm HP hml
       go_wp2_with (first | (go_at_call 90; refine HP2.out.mono ?_; rintro e w1 ⟨rfl, hfar, hI1⟩; have HI1 := Aside0.mk hI1; clear hI1) | ((with_reducible refine gate_builtin (b := .append) (xs := #[.tmp 115, .tmp 120]) rfl ?_); at_builtin; refine Kd.R_append k68 (w0 := w) w.heap.size rfl (.tmp 115) (.tmp 120) 63 68 (.agg #[.int .i64 0, .int .i64 0, .int .i64 0]) 24 rfl Try.underlying63 info68 rfl (by decide) (by omega) u14 sj.ev ⟨(i : Int), (m : Int), 0⟩ [.int .i64 (i : Int), .int .i64 (m : Int), .int .i64 0] (fun _ => True) (fun _ => False) rfl (by go_simp; done) (k68_mkM _ _ _ ⟨(i : Int), (m : Int), 0⟩) (fun _ hk => hk.elim) (fun _ _ => trivial) (Kd.R_mono HI1.out.ev (fun _ _ => trivial)) HI1.out.bel HI1.out.bel.size (ev_lim HEV.out) ?_; intro v7 w7 h1 h2 h3 h4; have HI7 := Aside0.mk (RBox.grow HI1.out h1 h2 h3 h4); have hf7 : w7.cell? ⟨w.heap.size + 2, i, none⟩ = some (Value.int .i64 (q : Int)) := (by rw [HQE.out.1]; exact HI7.out.far i hi); obtain ⟨cf, hcf⟩ := HI7.out.hf; have hz7 := blk_frozen hcf i; clear h1 h2 h3 h4 hcf))
       go_roundw
       case rel => exact ⟨a + 1, by omega, by go_num, Pure.stepT sj i, _, _, _, _, _, _, _, ⟨RBox.step0 HG.out hi HL.out HS0.out HQE.out.1 HQE.out.2 (HI7.out.farput hi _)⟩, ⟨step_good HG.out hi⟩, HQ1⟩
       case measure => simp [intOf]; omega
      ·have HS1 := Aside0.mk hS.symm
       have hqm0 : (q : Int) % 3 = 1 := hqm
       clear hst hS hqm hq hm HP
       go_wp2_with (first | (go_at_call 90; refine HP2.out.mono ?_; rintro e w1 ⟨rfl, hfar, hI1⟩; have HI1 := Aside0.mk hI1; clear hI1))
       obtain ⟨ad, B1, d1, eA1, hcell, hl1, hi1⟩ := at_L5 (Kd.C_below HLw.out HI1.out.bel) (i : Int) (by omega) (by omega)
       have hrd : rd_L5 L (i : Int) = L.getD i [] := rd_len i
       rw [hrd, Int.toNat_natCast] at hcell
       rw [hrd] at hi1
       obtain ⟨l, hll⟩ : ∃ l, l = L.getD i [] := ⟨_, rfl⟩
       rw [← hll] at hcell hi1 hml
       obtain ⟨ad2, e2, hx0, hx1, hx2, hx3, hx4, hx5, hx6⟩ := at_T76 hi1 (m : Int) (by omega) (by omega)
       simp only [Int.toNat_natCast] at hx0 hx1 hx2 hx3 hx4 hx5 hx6
       obtain ⟨c, hcd⟩ : ∃ c, c = rd_T76 l (m : Int) := ⟨_, rfl⟩
       rw [← hcd] at hx0 hx1 hx2 hx3 hx4 hx5 hx6
       rw [e2] at hcell
       subst eA1
       have HX := Aside0.mk (And.intro hcell (And.intro hx0 (And.intro hx1 (And.intro hx2 (And.intro hx3 (And.intro hx4 (And.intro hx5 hx6)))))))
       have HCD := Aside0.mk (show doT sj.N sj.G sj.P c = doing sj i by
        unfold doing
        rw [HG.out.l i hi, ← hll, ← HQE.out.2, hcd]
        simp [rd_T76])
       have hmlI : (m : Int) < (l.length : Int) := by omega
       clear hcell hx0 hx1 hx2 hx3 hx4 hx5 hx6 hcd hll hrd hl1 hi1 e2 hfar
       refine start_ (n := 16) (S := fun w' => Below w1.drew.heap.size w1.drew w') (ds := [14, 15]) #[false, false, false, false, false, false, false, false, false, false, false, false, false, false, false, false] (by kernel_rfl) rfl rfl (Below.refl _ _) (fun _ => ?_)
       have HAd := Aside0.mk (show RSt w w1.drew L.length AN cN AG cG AP cP u14 vD sj from RBox.below HI1.out (below_drew (Below.refl _ _)))
       have HXd := Aside0.mk (fun (w' : World) (hs : Below w1.drew.heap.size w1.drew w') => And.intro (pw_cell_below hs HX.out.1) (And.intro (pw_cell_below hs HX.out.2.1) (And.intro (pw_cell_below hs HX.out.2.2.1) (And.intro (pw_cell_below hs HX.out.2.2.2.1) (And.intro (pw_cell_below hs HX.out.2.2.2.2.1) (And.intro (pw_cell_below hs HX.out.2.2.2.2.2.1) (And.intro (pw_cell_below hs HX.out.2.2.2.2.2.2.1) (pw_cell_below hs HX.out.2.2.2.2.2.2.2))))))))
       clear HI1 HX
       refine take_ (i := 0) (N := some 84) (v := ?_) (a' := ?_) #[true, false, false, false, false, false, false, false, false, false, false, false, false, false, false, false] rfl rfl (by kernel_rfl) (fun _ _ _ h => h) (Or.inl ⟨by rfl, ?_⟩) (Below.refl _ _) ?_ ?_
       rotate_left
       ·intro w' hs; obtain ⟨s0, s1, s2⟩ := (RBox.below HAd.out hs).box.cells; clear hs; go_simp; with_reducible rfl
       rotate_left
       ·simp only [Act.put, List.setIfInBounds_toArray, List.set_cons_zero, List.set_cons_succ, i64_w, i32_w]; rfl
       refine pure_ (i := 1) (N := some 85) (v := ?_) (a' := ?_) #[true, true, false, false, false, false, false, false, false, false, false, false, false, false, false, false] rfl rfl (by kernel_rfl) (fun _ _ _ h => h) (Or.inl ⟨by rfl, ?_⟩) ?_ ?_
       rotate_left
       ·intro w'; go_simp; with_reducible rfl
       rotate_left
       ·simp only [Act.put, List.setIfInBounds_toArray, List.set_cons_zero, List.set_cons_succ, i64_w, i32_w]; rfl
       refine pure_ (i := 2) (N := some 86) (v := ?_) (a' := ?_) #[true, true, true, false, false, false, false, false, false, false, false, false, false, false, false, false] rfl rfl (by kernel_rfl) (fun _ _ _ h => h) (Or.inl ⟨by rfl, ?_⟩) ?_ ?_
       rotate_left
       ·intro w'; go_simp; with_reducible rfl
       rotate_left
       ·simp only [Act.put, List.setIfInBounds_toArray, List.set_cons_zero, List.set_cons_succ, i64_w, i32_w]; rfl
       refine pure_ (i := 3) (N := some 87) (v := ?_) (a' := ?_) #[true, true, true, true, false, false, false, false, false, false, false, false, false, false, false, false] rfl rfl (by kernel_rfl) (fun _ _ _ h => h) (Or.inl ⟨by rfl, ?_⟩) ?_ ?_
       rotate_left
       ·intro w'; go_simp; with_reducible rfl
       rotate_left
       ·simp only [Act.put, List.setIfInBounds_toArray, List.set_cons_zero, List.set_cons_succ, i64_w, i32_w]; rfl
       refine take_ (i := 4) (N := some 88) (v := ?_) (a' := ?_) #[true, true, true, true, true, false, false, false, false, false, false, false, false, false, false, false] rfl rfl (by kernel_rfl) (fun _ _ _ h => h) (Or.inl ⟨by rfl, ?_⟩) (Below.refl _ _) ?_ ?_
       rotate_left
       ·intro w' hs; obtain ⟨s0, s1, s2, s3, s4, s5, s6, s7⟩ := HXd.out _ hs; clear hs; go_simp; with_reducible rfl
       rotate_left
       ·simp only [Act.put, List.setIfInBounds_toArray, List.set_cons_zero, List.set_cons_succ, i64_w, i32_w]; rfl
       refine pure_ (i := 5) (N := some 89) (v := ?_) (a' := ?_) #[true, true, true, true, true, true, false, false, false, false, false, false, false, false, false, false] rfl rfl (by kernel_rfl) (fun _ _ _ h => h) (Or.inl ⟨by rfl, ?_⟩) ?_ ?_
       rotate_left
       ·intro w'; go_simp; with_reducible rfl
       rotate_left
       ·simp only [Act.put, List.setIfInBounds_toArray, List.set_cons_zero, List.set_cons_succ, i64_w, i32_w]; rfl
       refine pure_ (i := 6) (N := some 90) (v := ?_) (a' := ?_) #[true, true, true, true, true, true, true, false, false, false, false, false, false, false, false, false] rfl rfl (by kernel_rfl) (fun _ _ _ h => h) (Or.inl ⟨by rfl, ?_⟩) ?_ ?_
       rotate_left
       ·intro w'; go_simp; with_reducible rfl
       rotate_left
       ·simp only [Act.put, List.setIfInBounds_toArray, List.set_cons_zero, List.set_cons_succ, i64_w, i32_w]; rfl
       refine take_ (i := 7) (N := some 91) (v := ?_) (a' := ?_) #[true, true, true, true, true, true, true, true, false, false, false, false, false, false, false, false] rfl rfl (by kernel_rfl) (fun _ _ _ h => h) (Or.inl ⟨by rfl, ?_⟩) (Below.refl _ _) ?_ ?_
       rotate_left
       ·intro w' hs; obtain ⟨s0, s1, s2, s3, s4, s5, s6, s7⟩ := HXd.out _ hs; clear hs; go_simp; with_reducible rfl
       rotate_left
       ·simp only [Act.put, List.setIfInBounds_toArray, List.set_cons_zero, List.set_cons_succ, i64_w, i32_w]; rfl
       refine QR.do3 (va := didA sj.N sj.G sj.P c) (vb := fun _ => didB sj.N sj.G sj.P c) (G := Did sj.N sj.G sj.P AN AG AP c) (w0 := w1.drew) (fuel := 2) (c := 8) (m := 9) (x := 10) (y := 11) (p := 12) (q := 13) (N := 92) (M := 83) (X := 93) (Y := 94) (TP := 19) (TQ := 20)
        (args := #[.agg #[.slice AN sj.N.length cN, .slice AG sj.G.length cG, .slice AP sj.P.length cP], .agg #[.int .i64 c.f0, .bool c.f1.f0, .int .i64 c.f1.f1, .int .i64 c.f1.f2, .int .i64 c.f1.f3, .int .i64 c.f2, .int .i64 c.f3]])
        Try.func64 (by kernel_rfl) rfl rfl rfl rfl rfl ⟨⟨_, rfl, rfl, rfl, rfl⟩, ⟨_, rfl, rfl, rfl, rfl⟩, ⟨_, rfl, rfl, rfl, rfl⟩⟩ ⟨_, rfl, rfl, rfl, fun ev w => run_alloc38 ev w _ _ _⟩ ⟨_, rfl, rfl, rfl, fun ev w => run_alloc73 ev w _ _ _⟩
        (by refine ⟨?_, ?_, ?_⟩ <;> simp) (by decide) (by decide) (by decide) (by decide) (by simp only [Act.put, List.setIfInBounds_toArray, List.set_cons_zero, List.set_cons_succ, List.map_toArray, List.map_cons, List.map_nil]; rfl) (fun u => by simp only [Act.put, List.setIfInBounds_toArray, List.set_cons_zero, List.set_cons_succ, List.map_toArray, List.map_cons, List.map_nil]; rfl) (fun u => by simp only [Act.put, List.setIfInBounds_toArray, List.set_cons_zero, List.set_cons_succ, List.map_toArray, List.map_cons, List.map_nil]; rfl) (fun u v => by simp only [Act.put, List.setIfInBounds_toArray, List.set_cons_zero, List.set_cons_succ, List.map_toArray, List.map_cons, List.map_nil]; rfl) (by kernel_rfl) (fun _ _ _ _ _ h => h)
        (fun W1 hb => rdo_did c (RBox.below HAd.out hb).mem) (Below.refl _ _) ?_
       intro z gp gq v1 v2 v3 q1 q2 q3 q4 q5 q6 q7 q8 q9 q10 q11
       obtain ⟨v4, hv4⟩ : ∃ F, F = ((((v3.setCell ⟨gp, 0, none⟩ (.slice z.1 (doT sj.N sj.G sj.P c).1.length z.2.1)).setCell ⟨gp, 1, none⟩ (.slice z.2.2.1 (doT sj.N sj.G sj.P c).2.1.length z.2.2.2.1)).setCell ⟨gp, 2, none⟩ (.slice z.2.2.2.2.1 (doT sj.N sj.G sj.P c).2.2.1.length z.2.2.2.2.2)).setCell ⟨gq, 0, none⟩ (.int .i64 (doT sj.N sj.G sj.P c).2.2.2.1)).setCell ⟨gq, 1, none⟩ (.int .i64 (doT sj.N sj.G sj.P c).2.2.2.2) := ⟨_, rfl⟩
       have HM := Aside0.mk (RBox.mid HAd.out q1 q2 q3 q4 q5 q6 q7 q8 q9 q10 q11 hv4)
       obtain ⟨hs0, hs1, hs2, hf0, hf1, hf2⟩ := bk3 q5
       obtain ⟨hi0', hi1', hg0, hg1⟩ := bk2 q6
       have q7' := q7.symm
       clear HAd HXd q1 q2 q3 q4 q5 q6 q8 q9 q10 q11
       rw [show QR.L3 #[true, true, true, true, true, true, true, true, false, false, false, false, false, false, false, false] [8, 9, 10, 11, 12, 13] = #[true, true, true, true, true, true, true, true, true, true, true, true, true, true, false, false] from rfl]
       refine norm_ (a' := ?_) ?_ ?_
       rotate_left
       ·simp only [QR.fill, QR.ptr, Act.put, List.setIfInBounds_toArray, List.set_cons_zero, List.set_cons_succ]; rfl
       unfold didA didB at *
       refine last_ (i := 14) (N := none) #[true, true, true, true, true, true, true, true, true, true, true, true, true, true, true, false] rfl rfl (by kernel_rfl) (by decide) (fun K hK => ?_)
       refine skip_ (w1 := ?_) (by rfl) rfl ?_ ?_
       rotate_left
       ·go_simp; rfl
       refine hK.out _ _ ?_
       clear hK K
       refine last_ (i := 15) (N := none) #[true, true, true, true, true, true, true, true, true, true, true, true, true, true, true, true] rfl rfl (by kernel_rfl) (by decide) (fun K hK => ?_)
       refine skip_ (w1 := ?_) (by rfl) rfl ?_ ?_
       rotate_left
       ·go_simp; rfl
       refine hK.out _ _ ?_
       clear hK K
       refine done_ (by kernel_rfl) ?_
       rw [← hv4]
       obtain ⟨sA, z1, sB, z2, sC, z3⟩ := z
       obtain ⟨⟨N1, G1, P1, x, y⟩, hd⟩ : ∃ r, r = doT sj.N sj.G sj.P c := ⟨_, rfl⟩
       have HCD1 := Aside0.mk (hd.trans HCD.out)
       rw [← hd] at HM ⊢
       dsimp only at HM ⊢
       clear hs0 hs1 hs2 hf0 hf1 hf2 hi0' hi1' hg0 hg1 q7 q7' hv4 hd HCD
       obtain ⟨ha0, ha1, ha2⟩ := HM.out.2.1.cells
       obtain ⟨hs0, hs1, hs2, hf0, hf1, hf2⟩ := bk3 HM.out.1.box
       have HM5 := Aside0.mk (HM.out.1.boxput HM.out.2.2.2.1 HM.out.2.2.2.2.1)
       have hgq : gq ≠ w.heap.size := by have := HM.out.2.2.2.2.2; omega
       obtain ⟨hi0', hi1', hg0, hg1⟩ := bk2 (kF (W := ((v4.setCell ⟨w.heap.size, 0, none⟩ (.slice sA N1.length z1)).setCell ⟨w.heap.size, 1, none⟩ (.slice sB G1.length z2)).setCell ⟨w.heap.size, 2, none⟩ (.slice sC P1.length z3)) HM.out.2.2.1 hgq)
       have hb0 := HM5.out.bg i hi
       obtain ⟨cb, hcb⟩ := HM5.out.hb
       have hb1 := blk_frozen hcb (i * 2)
       have hb2 := cell_put (u := .int .i64 x) (HM5.out.be i hi) (at_ne (b := w.heap.size + 3) (j := i * 2) (.inr (Nat.ne_of_lt (Nat.lt_succ_self _))))
       have hb3 := blk_frozen (blk_put hcb (i * 2) (.int .i64 x) rfl) (i * 2 + 1)
       have HI6 := Aside0.mk (HM5.out.backput hi x y)
       clear hcb hgq
       go_wp2_with ((with_reducible refine gate_builtin (b := .append) (xs := #[.tmp 115, .tmp 120]) rfl ?_); at_builtin; refine Kd.R_append k68 (w0 := w) w.heap.size rfl (.tmp 115) (.tmp 120) 63 68 (.agg #[.int .i64 0, .int .i64 0, .int .i64 0]) 24 rfl Try.underlying63 info68 rfl (by decide) (by omega) u14 sj.ev ⟨(i : Int), (m : Int), 1⟩ [.int .i64 (i : Int), .int .i64 (m : Int), .int .i64 1] (fun _ => True) (fun _ => False) rfl (by go_simp; done) (k68_mkM _ _ _ ⟨(i : Int), (m : Int), 1⟩) (fun _ hk => hk.elim) (fun _ _ => trivial) (Kd.R_mono HI6.out.ev (fun _ _ => trivial)) HI6.out.bel HI6.out.bel.size (ev_lim HEV.out) ?_; intro v7 w7 h1 h2 h3 h4; have HI7 := Aside0.mk (RBox.grow HI6.out h1 h2 h3 h4); have hf7 : w7.cell? ⟨w.heap.size + 2, i, none⟩ = some (Value.int .i64 (q : Int)) := (by rw [HQE.out.1]; exact HI7.out.far i hi); obtain ⟨cf, hcf⟩ := HI7.out.hf; have hz7 := blk_frozen hcf i; clear h1 h2 h3 h4 hcf)
       go_roundw
       case rel => exact ⟨a + 1, by omega, by go_num, Pure.stepT sj i, _, _, _, _, _, _, _, ⟨RBox.step1 HG.out hi HL.out HS1.out HCD1.out HQE.out.1 HQE.out.2 (HI7.out.farput hi _)⟩, ⟨step_good HG.out hi⟩, HQ1⟩
       case measure => simp [intOf]; omega
      ·have HS2 := Aside0.mk hS.symm
       have hqm0 : (q : Int) % 3 = 2 := hqm
       clear hst hS hqm hq hm HP hml
       go_wp2_with (first | (go_at_call 90; refine HP2.out.mono ?_; rintro e w1 ⟨rfl, hfar, hI1⟩; have HI1 := Aside0.mk hI1; clear hI1))
       clear hfar
       refine start_ (n := 14) (S := fun w' => Below w1.drew.heap.size w1.drew w') (ds := [11, 12, 13]) #[false, false, false, false, false, false, false, false, false, false, false, false, false, false] (by kernel_rfl) rfl rfl (Below.refl _ _) (fun _ => ?_)
       have HAd := Aside0.mk (show RSt w w1.drew L.length AN cN AG cG AP cP u14 vD sj from RBox.below HI1.out (below_drew (Below.refl _ _)))
       clear HI1
       refine pure_ (i := 0) (N := some 102) (v := ?_) (a' := ?_) #[true, false, false, false, false, false, false, false, false, false, false, false, false, false] rfl rfl (by kernel_rfl) (fun _ _ _ h => h) (Or.inl ⟨by rfl, ?_⟩) ?_ ?_
       rotate_left
       ·intro w'; go_simp; with_reducible rfl
       rotate_left
       ·simp only [Act.put, List.setIfInBounds_toArray, List.set_cons_zero, List.set_cons_succ, i64_w, i32_w]; rfl
       refine pure_ (i := 1) (N := some 103) (v := ?_) (a' := ?_) #[true, true, false, false, false, false, false, false, false, false, false, false, false, false] rfl rfl (by kernel_rfl) (fun _ _ _ h => h) (Or.inl ⟨by rfl, ?_⟩) ?_ ?_
       rotate_left
       ·intro w'; go_simp; with_reducible rfl
       rotate_left
       ·simp only [Act.put, List.setIfInBounds_toArray, List.set_cons_zero, List.set_cons_succ, i64_w, i32_w]; rfl
       refine pure_ (i := 2) (N := some 104) (v := ?_) (a' := ?_) #[true, true, true, false, false, false, false, false, false, false, false, false, false, false] rfl rfl (by kernel_rfl) (fun _ _ _ h => h) (Or.inl ⟨by rfl, ?_⟩) ?_ ?_
       rotate_left
       ·intro w'; go_simp; with_reducible rfl
       rotate_left
       ·simp only [Act.put, List.setIfInBounds_toArray, List.set_cons_zero, List.set_cons_succ, i64_w, i32_w]; rfl
       refine pure_ (i := 3) (N := some 105) (v := ?_) (a' := ?_) #[true, true, true, true, false, false, false, false, false, false, false, false, false, false] rfl rfl (by kernel_rfl) (fun _ _ _ h => h) (Or.inl ⟨by rfl, ?_⟩) ?_ ?_
       rotate_left
       ·intro w'; go_simp; with_reducible rfl
       rotate_left
       ·simp only [Act.put, List.setIfInBounds_toArray, List.set_cons_zero, List.set_cons_succ, i64_w, i32_w]; rfl
       refine pure_ (i := 4) (N := some 106) (v := ?_) (a' := ?_) #[true, true, true, true, true, false, false, false, false, false, false, false, false, false] rfl rfl (by kernel_rfl) (fun _ _ _ h => h) (Or.inl ⟨by rfl, ?_⟩) ?_ ?_
       rotate_left
       ·intro w'; go_simp; with_reducible rfl
       rotate_left
       ·simp only [Act.put, List.setIfInBounds_toArray, List.set_cons_zero, List.set_cons_succ, i64_w, i32_w]; rfl
       refine take_ (i := 5) (N := some 107) (v := ?_) (a' := ?_) #[true, true, true, true, true, true, false, false, false, false, false, false, false, false] rfl rfl (by kernel_rfl) (fun _ _ _ h => h) (Or.inl ⟨by rfl, ?_⟩) (Below.refl _ _) ?_ ?_
       rotate_left
       ·intro w' hs; have s0 := (RBox.below HAd.out hs).out i hi; clear hs; go_simp; with_reducible rfl
       rotate_left
       ·simp only [Act.put, List.setIfInBounds_toArray, List.set_cons_zero, List.set_cons_succ, i64_w, i32_w]; rfl
       refine pure_ (i := 6) (N := some 108) (v := ?_) (a' := ?_) #[true, true, true, true, true, true, true, false, false, false, false, false, false, false] rfl rfl (by kernel_rfl) (fun _ _ _ h => h) (Or.inl ⟨by rfl, ?_⟩) ?_ ?_
       rotate_left
       ·intro w'; go_simp; with_reducible rfl
       rotate_left
       ·simp only [Act.put, List.setIfInBounds_toArray, List.set_cons_zero, List.set_cons_succ, i64_w, i32_w]; rfl
       refine pure_ (i := 7) (N := some 109) (v := ?_) (a' := ?_) #[true, true, true, true, true, true, true, true, false, false, false, false, false, false] rfl rfl (by kernel_rfl) (fun _ _ _ h => h) (Or.inl ⟨by rfl, ?_⟩) ?_ ?_
       rotate_left
       ·intro w'; go_simp; with_reducible rfl
       rotate_left
       ·simp only [Act.put, List.setIfInBounds_toArray, List.set_cons_zero, List.set_cons_succ, i64_w, i32_w]; rfl
       refine pure_ (i := 8) (N := some 110) (v := ?_) (a' := ?_) #[true, true, true, true, true, true, true, true, true, false, false, false, false, false] rfl rfl (by kernel_rfl) (fun _ _ _ h => h) (Or.inl ⟨by rfl, ?_⟩) ?_ ?_
       rotate_left
       ·intro w'; go_simp; with_reducible rfl
       rotate_left
       ·simp only [Act.put, List.setIfInBounds_toArray, List.set_cons_zero, List.set_cons_succ, i64_w, i32_w]; rfl
       refine take_ (i := 9) (N := some 111) (v := ?_) (a' := ?_) #[true, true, true, true, true, true, true, true, true, true, false, false, false, false] rfl rfl (by kernel_rfl) (fun _ _ _ h => h) (Or.inl ⟨by rfl, ?_⟩) (Below.refl _ _) ?_ ?_
       rotate_left
       ·intro w' hs; have s0 := (RBox.below HAd.out hs).bg i hi; have s1 := (RBox.below HAd.out hs).be i hi; clear hs; go_simp; with_reducible rfl
       rotate_left
       ·simp only [Act.put, List.setIfInBounds_toArray, List.set_cons_zero, List.set_cons_succ, i64_w, i32_w]; rfl
       refine one_ (i := 10) (N := some 112) #[true, true, true, true, true, true, true, true, true, true, true, false, false, false] rfl rfl (by kernel_rfl) (by decide) (fun K hK => ?_)
       refine value_ (v := .slice (some ⟨w1.drew.heap.size, 0, none⟩) 1 1) (w1 := w1.drew.alloc (.cells #[.int .i64 (nth sj i).g, .int .i64 (nth sj i).e] 73)) (by rfl) rfl (by go_simp; done) ?_
       refine hK.out _ _ (below_alloc (Below.refl _ _) _) (fun _ => ?_)
       clear hK K
       refine norm_ (a' := ?_) ?_ ?_
       rotate_left
       ·show Act.put _ (some 112) _ = _
        simp only [Act.put, List.setIfInBounds_toArray, List.set_cons_zero, List.set_cons_succ, i64_w, i32_w]; rfl
       refine last_ (i := 11) (N := some 113) #[true, true, true, true, true, true, true, true, true, true, true, true, false, false] rfl rfl (by kernel_rfl) (by decide) (fun K hK => ?_)
       refine Kd.R_append_step k73 (w0 := w) (W := w1.drew) w.heap.size (by rfl) (.tmp 107) (.tmp 112) 71 73 (.agg #[.int .i64 0, .int .i64 0]) 16 rfl Try.underlying71 info73 rfl (by decide) (by omega) (vD i) (nth sj i).ended ⟨(nth sj i).g, (nth sj i).e⟩ [.int .i64 (nth sj i).g, .int .i64 (nth sj i).e] (fun _ => True) (fun _ => False) rfl rfl (k73_mkM _ _ _ ⟨(nth sj i).g, (nth sj i).e⟩) (fun _ hk => hk.elim) (fun _ _ => trivial) (Kd.R_mono (HAd.out.d i hi) (fun _ _ => trivial)) HAd.out.bel HAd.out.bel.size (end_lim (HG.out.ended i hi) (HG.out.at_ i hi) (HSm.out.2 i hi)) ?_
       intro v7 w7 h1 h2 h3 h4
       obtain ⟨A7, c7, e7⟩ := Kd.R_slice h1
       simp only [List.length_append, List.length_singleton] at e7
       have HO7 := Aside0.mk (HAd.out.outgrow hi h1 h2 h3 h4)
       obtain ⟨co, hco⟩ := HAd.out.ho
       have hco7 := blk_grown hco h3 (fun e => by have := HAd.out.fresh i hi _ e; omega)
       have ho0 : w7.cell? ⟨w.heap.size + 4, i, none⟩ = some (vD i) := (blk_cell hco7 i).trans ((blk_cell hco i).symm.trans (HAd.out.out i hi))
       have ho1 := blk_frozen hco7 i
       subst e7
       refine hK.out _ _ ?_
       clear hK K h1 h2 h3 h4 hco hco7 HAd
       refine norm_ (a' := ?_) ?_ ?_
       rotate_left
       ·show Act.put _ (some 113) _ = _
        simp only [Act.put, List.setIfInBounds_toArray, List.set_cons_zero, List.set_cons_succ, i64_w, i32_w]; rfl
       refine pure_ (i := 12) (N := some 114) (v := ?_) (a' := ?_) #[true, true, true, true, true, true, true, true, true, true, true, true, true, false] rfl rfl (by kernel_rfl) (fun _ _ _ h => h) (Or.inl ⟨by rfl, ?_⟩) ?_ ?_
       rotate_left
       ·intro w'; go_simp; with_reducible rfl
       rotate_left
       ·simp only [Act.put, List.setIfInBounds_toArray, List.set_cons_zero, List.set_cons_succ, i64_w, i32_w]; rfl
       refine last_ (i := 13) (N := none) #[true, true, true, true, true, true, true, true, true, true, true, true, true, true] rfl rfl (by kernel_rfl) (by decide) (fun K hK => ?_)
       refine skip_ (w1 := ?_) (by rfl) rfl ?_ ?_
       rotate_left
       ·go_simp; rfl
       refine hK.out _ _ ?_
       clear hK K
       refine done_ (by kernel_rfl) ?_
       obtain ⟨w8, hw8⟩ : ∃ W, W = w7.setCell ⟨w.heap.size + 4, i, none⟩ (.slice A7 ((nth sj i).ended.length + 1) c7) := ⟨_, rfl⟩
       rw [← hw8] at HO7 ⊢
       clear hw8 ho0 ho1
       go_wp2_with ((with_reducible refine gate_builtin (b := .append) (xs := #[.tmp 115, .tmp 120]) rfl ?_); at_builtin; refine Kd.R_append k68 (w0 := w) w.heap.size rfl (.tmp 115) (.tmp 120) 63 68 (.agg #[.int .i64 0, .int .i64 0, .int .i64 0]) 24 rfl Try.underlying63 info68 rfl (by decide) (by omega) u14 sj.ev ⟨(i : Int), (m : Int), 2⟩ [.int .i64 (i : Int), .int .i64 (m : Int), .int .i64 2] (fun _ => True) (fun _ => False) rfl (by go_simp; done) (k68_mkM _ _ _ ⟨(i : Int), (m : Int), 2⟩) (fun _ hk => hk.elim) (fun _ _ => trivial) (Kd.R_mono HO7.out.ev (fun _ _ => trivial)) HO7.out.bel HO7.out.bel.size (ev_lim HEV.out) ?_; intro v9 w9 h1 h2 h3 h4; have HI7 := Aside0.mk (RBox.grow HO7.out h1 h2 h3 h4); have hf7 : w9.cell? ⟨w.heap.size + 2, i, none⟩ = some (Value.int .i64 (q : Int)) := (by rw [HQE.out.1]; exact HI7.out.far i hi); obtain ⟨cf, hcf⟩ := HI7.out.hf; have hz7 := blk_frozen hcf i; clear h1 h2 h3 h4 hcf)
       go_roundw
       case rel => exact ⟨a + 1, by omega, by go_num, Pure.stepT sj i, _, _, _, _, _, _, _, ⟨RBox.step2 HG.out hi HL.out HS2.out HQE.out.1 HQE.out.2 (HI7.out.farput hi _)⟩, ⟨step_good HG.out hi⟩, HQ1⟩
       case measure => simp [intOf]; omega
    ·obtain rfl : a = sc.length + T := by omega
     have hq := HQ.out
     rw [Nat.sub_self, rds] at hq
     subst hq
     obtain ⟨A4, c4, e4⟩ := Kd.R_slice HI.out.ev
     subst e4
     obtain ⟨ha0, ha1, ha2⟩ := HI.out.box.cells
     obtain ⟨hs0, hs1, hs2, hf0, hf1, hf2⟩ := bk3 HI.out.res
     clear HQ hlt
     go_wp2
     have hlast := RSt.last HI.out HG.out HSm.out rfl
     exact bodyPost_ret (results_ctt rfl _ _ (w.heap.size + 1) 38 #[.slice AN s.N.length cN, .slice AG s.G.length cG, .slice AP s.P.length cP] (0, 0) _ rfl (kP HI.out.res) Try.underlying38 rfl (by kernel_rfl)) rfl ⟨_, _, _, _, _, _, _, _, _, _, rfl, hlast⟩
end
section
variable {w W W' : World} {AN AG AP AN' AG' AP' A1 : Option Addr} {cN cG cP cN' cG' cP' c1 : Nat} {N N' : List S48} {G P G' P' : List Int} {l : List S76} {vO : Value} {out : List S73}
theorem memo_own_at {v0 v1 v2 : Value} {base : Nat} {o0 o1 o2 : Nat → Prop} (h0 : Kd.R k48 48 w base o0 v0 N) (h1 : Kd.R (Kd.int .i64) 3 w base o1 v1 G) (h2 : Kd.R (Kd.int .i64) 3 w base o2 v2 P) :
  ∃ A0 c0 A1 c1 A2 c2, v0 = .slice A0 N.length c0 ∧ v1 = .slice A1 G.length c1 ∧ v2 = .slice A2 P.length c2 ∧ MemoAt w A0 c0 N A1 c1 G A2 c2 P ∧ MOff A0 N A1 G A2 P (fun k => k < base) := by
 obtain ⟨A0, c0, rfl, l0, r0⟩ := Kd.R_reads h0
 obtain ⟨A1, c1, rfl, l1, r1⟩ := Kd.R_reads h1
 obtain ⟨A2, c2, rfl, l2, r2⟩ := Kd.R_reads h2
 exact ⟨A0, c0, A1, c1, A2, c2, rfl, rfl, rfl, ⟨r0, l0, r1, l1, r2, l2⟩, ⟨fun _ ad e => Nat.not_lt.2 (row_fresh h0 ad e), fun _ ad e => Nat.not_lt.2 (row_fresh h1 ad e), fun _ ad e => Nat.not_lt.2 (row_fresh h2 ad e)⟩⟩
theorem own_at (hL : Lim N G P) (h : MemoAt w AN cN N AG cG G AP cP P) :
  Calls Try.prog 86 #[.agg #[.slice AN N.length cN, .slice AG G.length cG, .slice AP P.length cP]] w fun e w' => ∃ A0 c0 A1 c1 A2 c2, e = .returned (.agg #[.slice A0 N.length c0, .slice A1 G.length c1, .slice A2 P.length c2]) ∧ MemoAt w' A0 c0 N A1 c1 G A2 c2 P ∧ MOff A0 N A1 G A2 P (fun k => k < w.heap.size) ∧ Below w.heap.size w w' :=
 (calls_own.calls 0 _ _ _ _ _ _ _ _ _ _ _ _ _ h.n h.nc h.g h.gc h.p h.pc (cown_k 0 hL.lim3)).mono fun e w' ⟨v0, v1, v2, he, h0, h1, h2, hb⟩ => by
  obtain ⟨A0, c0, A1, c1, A2, c2, rfl, rfl, rfl, hm, ho⟩ := memo_own_at h0 h1 h2
  exact ⟨_, _, _, _, _, _, he, hm, ho, hb⟩
theorem Do_own {r : List S48 × List Int × List Int × Int × Int} (c : S76) (hL : Lim N G P) (h : MemoAt w AN cN N AG cG G AP cP P) (hr : r = doT N G P c) :
  Calls Try.prog 63 #[.agg #[.slice AN N.length cN, .slice AG G.length cG, .slice AP P.length cP], .agg #[.int .i64 c.f0, .bool c.f1.f0, .int .i64 c.f1.f1, .int .i64 c.f1.f2, .int .i64 c.f1.f3, .int .i64 c.f2, .int .i64 c.f3]] w fun e w' => ∃ A0 c0 A1 c1 A2 c2, e = .returned (.tuple #[.agg #[.slice A0 r.1.length c0, .slice A1 r.2.1.length c1, .slice A2 r.2.2.1.length c2], .agg #[.int .i64 r.2.2.2.1, .int .i64 r.2.2.2.2]]) ∧ MemoAt w' A0 c0 r.1 A1 c1 r.2.1 A2 c2 r.2.2.1 ∧ MOff A0 r.1 A1 r.2.1 A2 r.2.2.1 (fun k => k < w.heap.size) ∧ Below w.heap.size w w' := by
 subst hr
 exact (calls_Do.calls 500 _ _ _ _ _ _ _ _ _ _ _ _ _ _ _ _ _ _ _ _ _ _ h.n h.nc h.g h.gc h.p h.pc (do_k hL c (Nat.le_refl _))).mono fun e w' ⟨v0, v1, v2, he, h0, h1, h2, hb⟩ => by
  obtain ⟨A0, c0, A1, c1, A2, c2, rfl, rfl, rfl, hm, ho⟩ := memo_own_at h0 h1 h2
  exact ⟨_, _, _, _, _, _, he, hm, ho, hb⟩
structure MB (W : World) (b : Nat) (AN : Option Addr) (cN : Nat) (N : List S48) (AG : Option Addr) (cG : Nat) (G : List Int) (AP : Option Addr) (cP : Nat) (P : List Int) : Prop where
 b : MBox W b AN cN N AG cG G AP cP P
 m : MemoAt W AN cN N AG cG G AP cP P
theorem MB.below {b : Nat} (h : MB W b AN cN N AG cG G AP cP P) (hb : Below W.heap.size W W') : MB W' b AN cN N AG cG G AP cP P := ⟨h.b.below hb, h.m.below hb⟩
structure BB (W : World) (b : Nat) (x y : Int) : Prop where
 b : W.heap[b]? = some (.cells #[.int .i64 x, .int .i64 y] 73 (0, 0))
theorem BB.below {b : Nat} {x y : Int} (h : BB W b x y) (hb : Below W.heap.size W W') : BB W' b x y := ⟨blk_below h.b hb⟩
theorem row_below {α : Type} {d : Kd α} {A : Option Addr} {c : Nat} {xs : List α} (h : d.C W A xs.length xs ∧ xs.length ≤ c) (hb : Below W.heap.size W W') : d.C W' A xs.length xs ∧ xs.length ≤ c := ⟨Kd.C_below h.1 hb, h.2⟩
theorem one_new (h : MemoAt w AN cN N AG cG G AP cP P) (hw : Below W.heap.size W w) : MB (w.alloc (.cells #[.slice AN N.length cN, .slice AG G.length cG, .slice AP P.length cP] 38)) w.heap.size AN cN N AG cG G AP cP P ∧ Below W.heap.size W (w.alloc (.cells #[.slice AN N.length cN, .slice AG G.length cG, .slice AP P.length cP] 38)) :=
 have b := below_alloc (Below.refl w.heap.size w) (.cells #[.slice AN N.length cN, .slice AG G.length cG, .slice AP P.length cP] 38)
 ⟨⟨box_new w AN cN N AG cG G AP cP P, h.below b⟩, hw.trans (b.mono hw.size)⟩
theorem pair_new (h : MemoAt w AN cN N AG cG G AP cP P) (hw : Below W.heap.size W w) (x y : Int) : MB ((w.alloc (.cells #[.slice AN N.length cN, .slice AG G.length cG, .slice AP P.length cP] 38)).alloc (.cells #[.int .i64 x, .int .i64 y] 73)) w.heap.size AN cN N AG cG G AP cP P ∧ BB ((w.alloc (.cells #[.slice AN N.length cN, .slice AG G.length cG, .slice AP P.length cP] 38)).alloc (.cells #[.int .i64 x, .int .i64 y] 73)) (w.heap.size + 1) x y ∧ Below W.heap.size W ((w.alloc (.cells #[.slice AN N.length cN, .slice AG G.length cG, .slice AP P.length cP] 38)).alloc (.cells #[.int .i64 x, .int .i64 y] 73)) := by
 obtain ⟨h1, h2⟩ := one_new h hw
 have b := below_alloc (Below.refl _ (w.alloc (.cells #[.slice AN N.length cN, .slice AG G.length cG, .slice AP P.length cP] 38))) (.cells #[.int .i64 x, .int .i64 y] 73)
 have hn := heap_alloc_new (w.alloc (.cells #[.slice AN N.length cN, .slice AG G.length cG, .slice AP P.length cP] 38)) (.cells #[.int .i64 x, .int .i64 y] 73)
 rw [alloc_size1] at hn
 exact ⟨h1.below b, ⟨hn⟩, h2.trans (b.mono h2.size)⟩
theorem ABox.boxput (h : ABox w W AN cN N AG cG G AP cP P vO out) (hm : MemoAt W AN' cN' N' AG' cG' G' AP' cP' P') (ho : MOff AN' N' AG' G' AP' P' (ownA w.heap.size vO)) :
  ABox w (((W.setCell ⟨w.heap.size, 0, none⟩ (.slice AN' N'.length cN')).setCell ⟨w.heap.size, 1, none⟩ (.slice AG' G'.length cG')).setCell ⟨w.heap.size, 2, none⟩ (.slice AP' P'.length cP')) AN' cN' N' AG' cG' G' AP' cP' P' vO out := by
 obtain ⟨F, hF⟩ : ∃ F, F = ((W.setCell ⟨w.heap.size, 0, none⟩ (.slice AN' N'.length cN')).setCell ⟨w.heap.size, 1, none⟩ (.slice AG' G'.length cG')).setCell ⟨w.heap.size, 2, none⟩ (.slice AP' P'.length cP') := ⟨_, rfl⟩
 rw [← hF]
 have i : Mv W F [w.heap.size, w.heap.size, w.heap.size] := by rw [hF]; infer_instance
 have m3 : ∀ b, b ∈ [w.heap.size, w.heap.size, w.heap.size] → b = w.heap.size := fun b hb => by simp at hb; exact hb
 refine ⟨wX h.bel i (fun b hb => by rw [m3 b hb]; exact Nat.le_refl _), ?_, blk_mv h.res i (fun b hb => by rw [m3 b hb]; omega), hm.mv i (ho.mono (fun k hk => .inl (m3 k hk))), ho, R_mv h.out i (fun b hb => by rw [m3 b hb]; exact Kd.R_ne h.out h.box (by decide))⟩
 rw [hF]
 exact blk_put (blk_put (blk_put h.box 0 _ rfl) 1 _ rfl) 2 _ rfl
theorem ABox.old {k : Nat} (h : ABox w W AN cN N AG cG G AP cP P vO out) (hk : ownA w.heap.size vO k) : k < W.heap.size := by
 have := blk_lt h.res
 rcases hk with rfl | rfl | hk
 ·omega
 ·exact this
 ·exact own_lt h.out hk
set_option maxHeartbeats 16000000 in
set_option maxRecDepth 100000 in
theorem all_at {R : List S48 × List Int × List Int × List S73} (hL : Lim N G P) (h : MemoAt w AN cN N AG cG G AP cP P) (hl : k76.C w A1 l.length l) (hc : l.length ≤ c1) (hb : l.length ≤ 1000) (hR : R = allT N G P l) :
  Calls Try.prog 61 #[.agg #[.slice AN N.length cN, .slice AG G.length cG, .slice AP P.length cP], .slice A1 l.length c1] w fun e w' => ∃ A0 c0 A1 c1 A2 c2 A3 c3, e = .returned (.tuple #[.agg #[.slice A0 R.1.length c0, .slice A1 R.2.1.length c1, .slice A2 R.2.2.1.length c2], .slice A3 R.2.2.2.length c3]) ∧ MemoAt w' A0 c0 R.1 A1 c1 R.2.1 A2 c2 R.2.2.1 ∧ (Kd.C k73 w' A3 R.2.2.2.length R.2.2.2 ∧ R.2.2.2.length ≤ c3) ∧ Below w.heap.size w w' := by
 have HA := Aside0.mk (ABox.new h)
 have HL := Aside0.mk hl
 have HBd := Aside0.mk hb
 have HR := Aside0.mk hR
 have HLi := Aside0.mk hL
 have HO := Aside0.mk (own_at hL (ABox.new h).mem)
 have hmax : l.length ≤ 9223372036854775807 := by omega
 obtain ⟨hs0, hs1, hs2, hf0, hf1, hf2⟩ := bk3 HA.out.box
 clear h hl hc hb hR hL
 go_enter Try.func61, Try.ntmps61
 go_wp2_with (go_at_call 86; refine HO.out.mono ?_; rintro e w1 ⟨B0, b0, B1, b1, B2, b2, rfl, hm, ho, hb⟩; have HA1 := Aside0.mk ((HA.out.below hb).boxput hm (ho.mono (fun k hk => HA.out.old hk))); obtain ⟨ht0, ht1, ht2, hg0, hg1, hg2⟩ := bk3 (HA.out.below hb).box; clear hb hm ho)
 clear hs0 hs1 hs2 hf0 hf1 hf2 ht0 ht1 ht2 hg0 hg1 hg2 HO HA
 obtain ⟨w2, hw2⟩ : ∃ W, W = ((w1.setCell ⟨w.heap.size, 0, none⟩ (.slice B0 N.length b0)).setCell ⟨w.heap.size, 1, none⟩ (.slice B1 G.length b1)).setCell ⟨w.heap.size, 2, none⟩ (.slice B2 P.length b2) := ⟨_, rfl⟩
 rw [← hw2] at HA1 ⊢
 clear hw2
 go_loopw [6, 15] (fun vO i wr => ∃ j : Nat, j ≤ l.length ∧ i = .int .i64 j ∧ ∃ (AN : Option Addr) (cN : Nat) (N : List S48) (AG : Option Addr) (cG : Nat) (G : List Int) (AP : Option Addr) (cP : Nat) (P : List Int) (out : List S73), Aside0 (ABox w wr AN cN N AG cG G AP cP P vO out) ∧ Aside0 (Lim N G P) ∧ Aside0 (R = ((allT N G P (l.drop j)).1, (allT N G P (l.drop j)).2.1, (allT N G P (l.drop j)).2.2.1, out ++ (allT N G P (l.drop j)).2.2.2) ∧ out.length = j)) (fun _ i _ => l.length - (intOf i).toNat)
 case atStart => exact ⟨0, Nat.zero_le _, rfl, _, _, _, _, _, _, _, _, _, _, HA1, HLi, ⟨by rw [HR.out]; rfl, rfl⟩⟩
 case round =>
  clear HA1 HR HLi
  obtain ⟨j, hj, rfl, AN, cN, N, AG, cG, G, AP, cP, P, out, HA, HLi, HQ⟩ := hrel
  by_cases hlt : j < l.length
  ·obtain ⟨ad, e1, hx0, hx1, hx2, hx3, hx4, hx5, hx6⟩ := at_T76 (Kd.C_below HL.out HA.out.bel) (j : Int) (by omega) (by omega)
   subst e1
   simp only [Int.toNat_natCast] at hx0 hx1 hx2 hx3 hx4 hx5 hx6
   obtain ⟨c, hcd⟩ : ∃ c, c = rd_T76 l (j : Int) := ⟨_, rfl⟩
   rw [← hcd] at hx0 hx1 hx2 hx3 hx4 hx5 hx6
   have hq := HQ.out.1
   rw [List.drop_eq_getElem_cons hlt, show l[j] = c by rw [hcd]; simp [rd_T76, List.getD_eq_getElem?_getD, List.getElem?_eq_getElem hlt], allT] at hq
   obtain ⟨⟨N1, G1, P1, x, y⟩, hd⟩ : ∃ r, r = doT N G P c := ⟨_, rfl⟩
   rw [← hd] at hq
   dsimp only at hq
   have HQ1 := Aside0.mk (show R = ((allT N1 G1 P1 (l.drop (j + 1))).1, (allT N1 G1 P1 (l.drop (j + 1))).2.1, (allT N1 G1 P1 (l.drop (j + 1))).2.2.1, (out ++ [(⟨x, y⟩ : S73)]) ++ (allT N1 G1 P1 (l.drop (j + 1))).2.2.2) ∧ (out ++ [(⟨x, y⟩ : S73)]).length = j + 1 by rw [List.append_assoc]; exact ⟨hq, by rw [List.length_append, HQ.out.2]; rfl⟩)
   have HL1 := Aside0.mk (show Lim N1 G1 P1 by have := do_lim HLi.out c; rw [← hd] at this; exact this)
   have hol := HQ.out.2
   have HDo := Aside0.mk (fun (W : World) (h : MemoAt W AN cN N AG cG G AP cP P) => Do_own c HLi.out h hd)
   have HAw := Aside0.mk (HA.out.below (below_alloc (Below.refl wr.heap.size wr) (.cells #[.int .i64 c.f0, .bool c.f1.f0, .int .i64 c.f1.f1, .int .i64 c.f1.f2, .int .i64 c.f1.f3, .int .i64 c.f2, .int .i64 c.f3] 76)))
   obtain ⟨ha0, ha1, ha2⟩ := HAw.out.box.cells
   clear hcd hq hd HQ
   go_wp2_with (first
    | (go_at_call 63; refine (HDo.out _ HAw.out.mem).mono ?_; rintro e w2 ⟨D0, d0, D1, d1, D2, d2, rfl, hm, ho, hb⟩; obtain ⟨p1, p2, p3⟩ := pair_new hm hb x y; have HA2 := Aside0.mk (HAw.out.below p3); have HM5 := Aside0.mk (HA2.out.boxput p1.m (ho.mono (fun k hk => HAw.out.old hk))); obtain ⟨hc0, hc1, hc2⟩ := p1.b.cells; obtain ⟨hs0, hs1, hs2, hf0, hf1, hf2⟩ := bk3 HA2.out.box; have hgq : w2.heap.size + 1 ≠ w.heap.size := (by have := HAw.out.bel.size; have := hb.size; omega); obtain ⟨hi0, hi1, hg0, hg1⟩ := bk2 (kF (W := ((((w2.alloc (.cells #[.slice D0 N1.length d0, .slice D1 G1.length d1, .slice D2 P1.length d2] 38)).alloc (.cells #[.int .i64 x, .int .i64 y] 73)).setCell ⟨w.heap.size, 0, none⟩ (.slice D0 N1.length d0)).setCell ⟨w.heap.size, 1, none⟩ (.slice D1 G1.length d1)).setCell ⟨w.heap.size, 2, none⟩ (.slice D2 P1.length d2)) p2.b hgq); clear hm ho hb p1 p2 p3 hgq)
    | ((with_reducible refine gate_builtin (b := .append) (xs := #[.tmp 26, .tmp 28]) rfl ?_); at_builtin; refine Kd.R_append k73 (w0 := w) w.heap.size rfl (.tmp 26) (.tmp 28) 71 73 (.agg #[.int .i64 0, .int .i64 0]) 16 rfl Try.underlying71 info73 rfl (by decide) (by omega) u6 out ⟨x, y⟩ [.int .i64 x, .int .i64 y] (fun _ => True) (fun _ => False) rfl (by go_simp; done) (k73_mkM _ _ _ ⟨x, y⟩) (fun _ hk => hk.elim) (fun _ _ => trivial) (Kd.R_mono HM5.out.out (fun _ _ => trivial)) HM5.out.bel HM5.out.bel.size (by have := HBd.out; omega) ?_; intro v7 w7 h1 h2 h3 h4; have HA7 := Aside0.mk (HM5.out.grow h1 h2 h3 h4); clear h1 h2 h3 h4))
   go_roundw
   case rel => exact ⟨j + 1, by omega, by go_num, _, _, _, _, _, _, _, _, _, _, HA7, HL1, HQ1⟩
   case measure => simp [intOf]; omega
  ·obtain rfl : j = l.length := by omega
   have hq := HQ.out.1
   rw [List.drop_length] at hq
   dsimp only [allT] at hq
   rw [List.append_nil] at hq
   obtain ⟨ha0, ha1, ha2⟩ := HA.out.box.cells
   obtain ⟨hs0, hs1, hs2, hf0, hf1, hf2⟩ := bk3 HA.out.res
   subst hq
   obtain ⟨A3, c3, e3⟩ := Kd.R_slice HA.out.out
   subst e3
   clear HQ hlt
   go_wp2
   have hl := HA.out.last
   exact bodyPost_ret (results_ct rfl _ _ (w.heap.size + 1) 38 #[.slice AN N.length cN, .slice AG G.length cG, .slice AP P.length cP] (0, 0) _ rfl (kP HA.out.res) Try.underlying38 rfl (by kernel_rfl)) rfl ⟨_, _, _, _, _, _, _, _, rfl, hl⟩
end
end Go.Proofs.Ytkidnomkfdnciaa.All
namespace Go.Proofs.Ytkidnomkfdnciaa.All
open Go.RowKit Go.Proofs.YtkidnomkfdnciaaW.PrintWords Go.Proofs.YtkidnomkfdnciaaW.PrintLast Go.Proofs.YtkidnomkfdnciaaW.PrintMore
attribute [local go_sem] max2_int min2_int max_two min_two max_three min_three max_four min_four
set_option linter.unusedVariables false
set_option linter.unusedSimpArgs false
theorem eqA68 (d : Nat) (w : World) (x0 y0 : Int) (x1 y1 : Int) (x2 y2 : Int) :
  (Op.equalIn (d + 2) 68 (.agg #[.int .i64 x0, .int .i64 x1, .int .i64 x2]) (.agg #[.int .i64 y0, .int .i64 y1, .int .i64 y2])).run Try.prog w = .ok (x0 == y0 && (x1 == y1 && (x2 == y2))) w := by
 refine eqA_of Try.underlying68 (by kernel_rfl) ?_
 refine eqf_cons (by rfl) (by go_simp; rfl) (by go_simp; rfl) (by go_simp) ?_
 refine eqf_cons (by rfl) (by go_simp; rfl) (by go_simp; rfl) (by go_simp) ?_
 exact eqf_last (by rfl) (by go_simp; rfl) (by go_simp; rfl) (by go_simp)
end Go.Proofs.Ytkidnomkfdnciaa.All
namespace Go.Proofs.Ytkidnomkfdnciaa.All
open Go.RowKit Go.Proofs.YtkidnomkfdnciaaW.PrintWords Go.Proofs.YtkidnomkfdnciaaW.PrintLast Go.Proofs.YtkidnomkfdnciaaW.PrintMore
attribute [local go_sem] QR.Oq QR.Yq QR.Cls
attribute [local go_sem high] eqA68 eqA73
set_option linter.unusedVariables false
set_option linter.unusedSimpArgs false
section
variable {w : World}
set_option maxHeartbeats 8000000 in
set_option maxRecDepth 100000 in
theorem Backs_same {A0 A1 : Option Addr} {c0 c1 : Nat} {a : List S73} (h : k73.C w A0 a.length a ∧ a.length ≤ c0) (h' : k73.C w A1 a.length a ∧ a.length ≤ c1) (ha : a.length < 1000) :
    Calls Try.prog 62 #[.slice A0 a.length c0, .slice A1 a.length c1] w fun e w' => e = .returned (.bool true) ∧ Below w.heap.size w w' := by
  have HA := Aside0.mk h.1
  have HB := Aside0.mk h'.1
  clear h h'
  go_enter Try.func62, Try.ntmps62
  go_wp2
  go_loopw [5] (fun i wr => ∃ j : Nat, j ≤ a.length ∧ i = .int .i64 j ∧ Aside0 (Below w.heap.size w wr)) (fun i _ => a.length - (intOf i).toNat)
  case atStart => exact ⟨0, Nat.zero_le _, rfl, ⟨Below.refl _ _⟩⟩
  case round =>
   obtain ⟨j, hj, rfl, HL⟩ := hrel
   by_cases hlt : j < a.length
   · obtain ⟨ad, eA, x0, x1⟩ := at_T73 (Kd.C_below HA.out HL.out) (j : Int) (by omega) (by omega)
     obtain ⟨bd, eB, y0, y1⟩ := at_T73 (Kd.C_below HB.out HL.out) (j : Int) (by omega) (by omega)
     subst eA eB
     obtain ⟨x, hx⟩ : ∃ x, x = rd_T73 a (j : Int) := ⟨_, rfl⟩
     rw [← hx] at x0 x1 y0 y1
     simp only [Int.toNat_natCast] at x0 x1 y0 y1
     clear hx
     go_wp2
     have p0 := fun d os => cell_regrown x0 d os
     have q0 := fun d os => cell_regrown y0 d os
     have p1 := fun d os => cell_regrown x1 d os
     have q1 := fun d os => cell_regrown y1 d os
     refine QR.region_all (by first | assumption | kernel_rfl) (by kernel_rfl) ?_
     repeat (refine QR.txt_step (fun K hK => ?_); have HK := Aside0.mk hK; clear hK; go_simp; first | (refine HK.out _ ?_; clear HK K) | (apply Exists.intro; refine ⟨fun _ => ?_, HK.out _ ?_⟩; (fail); clear HK K))
     refine QR.txt_nil ?_
     intro w2 hw2
     have HW := Aside0.mk (HL.out.trans (hw2.below.mono HL.out.size))
     clear hw2 p0 q0 p1 q1
     go_wp2
     go_roundw
     case rel => exact ⟨j + 1, by omega, by go_num, HW⟩
     case measure => simp [intOf]; omega
   · obtain rfl : j = a.length := by omega
     go_wp2
     go_ret
     exact ⟨rfl, HL.out⟩
set_option maxHeartbeats 8000000 in
set_option maxRecDepth 100000 in
theorem Events_at {A0 A1 : Option Addr} {c0 c1 : Nat} {a : List S68} (h : k68.C w A0 a.length a ∧ a.length ≤ c0) (h' : k68.C w A1 a.length a ∧ a.length ≤ c1) (ha : a.length < 1000) :
    Calls Try.prog 68 #[.slice A0 a.length c0, .slice A1 a.length c1] w fun e w' => e = .returned (.bool true) ∧ Below w.heap.size w w' := by
  have HA := Aside0.mk h.1
  have HB := Aside0.mk h'.1
  clear h h'
  go_enter Try.func68, Try.ntmps68
  go_wp2
  go_loopw [5] (fun i wr => ∃ j : Nat, j ≤ a.length ∧ i = .int .i64 j ∧ Aside0 (Below w.heap.size w wr)) (fun i _ => a.length - (intOf i).toNat)
  case atStart => exact ⟨0, Nat.zero_le _, rfl, ⟨Below.refl _ _⟩⟩
  case round =>
   obtain ⟨j, hj, rfl, HL⟩ := hrel
   by_cases hlt : j < a.length
   · obtain ⟨ad, eA, x0, x1, x2⟩ := at_T68 (Kd.C_below HA.out HL.out) (j : Int) (by omega) (by omega)
     obtain ⟨bd, eB, y0, y1, y2⟩ := at_T68 (Kd.C_below HB.out HL.out) (j : Int) (by omega) (by omega)
     subst eA eB
     obtain ⟨x, hx⟩ : ∃ x, x = rd_T68 a (j : Int) := ⟨_, rfl⟩
     rw [← hx] at x0 x1 x2 y0 y1 y2
     simp only [Int.toNat_natCast] at x0 x1 x2 y0 y1 y2
     clear hx
     go_wp2
     have p0 := fun d os => cell_regrown x0 d os
     have q0 := fun d os => cell_regrown y0 d os
     have p1 := fun d os => cell_regrown x1 d os
     have q1 := fun d os => cell_regrown y1 d os
     have p2 := fun d os => cell_regrown x2 d os
     have q2 := fun d os => cell_regrown y2 d os
     refine QR.region_all (by first | assumption | kernel_rfl) (by kernel_rfl) ?_
     repeat (refine QR.txt_step (fun K hK => ?_); have HK := Aside0.mk hK; clear hK; go_simp; first | (refine HK.out _ ?_; clear HK K) | (apply Exists.intro; refine ⟨fun _ => ?_, HK.out _ ?_⟩; (fail); clear HK K))
     refine QR.txt_nil ?_
     intro w2 hw2
     have HW := Aside0.mk (HL.out.trans (hw2.below.mono HL.out.size))
     clear hw2 p0 q0 p1 q1 p2 q2
     go_wp2
     go_roundw
     case rel => exact ⟨j + 1, by omega, by go_num, HW⟩
     case measure => simp [intOf]; omega
   · obtain rfl : j = a.length := by omega
     go_wp2
     go_ret
     exact ⟨rfl, HL.out⟩
set_option maxHeartbeats 8000000 in
set_option maxRecDepth 100000 in
theorem Lists_at {A0 A1 : Option Addr} {c0 c1 : Nat} {a : List (List S73)} (h : Kd.C (Kd.slice 73 k73) w A0 a.length a ∧ a.length ≤ c0) (h' : Kd.C (Kd.slice 73 k73) w A1 a.length a ∧ a.length ≤ c1) (ha : a.length < 1000) (hb : ∀ i, i < a.length → (a.getD i []).length < 1000) :
    Calls Try.prog 67 #[.slice A0 a.length c0, .slice A1 a.length c1] w fun e w' => e = .returned (.bool true) ∧ Below w.heap.size w w' := by
  have HA := Aside0.mk h.1
  have HB := Aside0.mk h'.1
  have HN := Aside0.mk hb
  clear h h' hb
  go_enter Try.func67, Try.ntmps67
  go_wp2
  go_loopw [5] (fun i wr => ∃ j : Nat, j ≤ a.length ∧ i = .int .i64 j ∧ Aside0 (Below w.heap.size w wr)) (fun i _ => a.length - (intOf i).toNat)
  case atStart => exact ⟨0, Nat.zero_le _, rfl, ⟨Below.refl _ _⟩⟩
  case round =>
   obtain ⟨j, hj, rfl, HL⟩ := hrel
   by_cases hlt : j < a.length
   · obtain ⟨ad, B0, d0, eA, x0, lx, hx⟩ := at_L6 (Kd.C_below HA.out HL.out) (j : Int) (by omega) (by omega)
     obtain ⟨bd, B1, d1, eB, y0, ly, hy⟩ := at_L6 (Kd.C_below HB.out HL.out) (j : Int) (by omega) (by omega)
     subst eA eB
     have hr : rd_L6 a (j : Int) = a.getD j [] := by simp [rd_L6]
     obtain ⟨x, hxx⟩ : ∃ x, x = a.getD j [] := ⟨_, rfl⟩
     have hn := HN.out j hlt
     rw [hr, ← hxx] at hx hy lx ly
     rw [hr, ← hxx, Int.toNat_natCast] at x0 y0
     rw [← hxx] at hn
     have p0 := fun d os => cell_regrown x0 d os
     have q0 := fun d os => cell_regrown y0 d os
     have cF := fun d os => QR.bel (Backs_same ⟨Kd.C_below hx (below_regrown wr d os), lx⟩ ⟨Kd.C_below hy (below_regrown wr d os), ly⟩ hn)
     clear hr hxx hn hx hy lx ly
     go_wp2
     refine QR.region 9 (by first | assumption | kernel_rfl) (by kernel_rfl) ?_
     simp only [List.take_succ_cons, List.take_zero, List.drop_succ_cons, List.drop_zero]
     repeat (refine QR.txt_step (fun K hK => ?_); have HK := Aside0.mk hK; clear hK; go_simp; first | (refine HK.out _ ?_; clear HK K) | (apply Exists.intro; refine ⟨fun _ => ?_, HK.out _ ?_⟩; (with_reducible exact cF _ _); clear HK K))
     refine QR.txt_nil ?_
     intro w2 hw2
     have HW := Aside0.mk (HL.out.trans (hw2.below.mono HL.out.size))
     clear hw2 p0 q0 cF
     go_wp2
     go_roundw
     case rel => exact ⟨j + 1, by omega, by go_num, HW⟩
     case measure => simp [intOf]; omega
   · obtain rfl : j = a.length := by omega
     go_wp2
     go_ret
     exact ⟨rfl, HL.out⟩
set_option maxHeartbeats 8000000 in
set_option maxRecDepth 100000 in
theorem rOrder_at {A0 : Option Addr} {c0 : Nat} {a b : List S68} (h : k68.C w A0 a.length a ∧ a.length ≤ c0) (ha : a.length < 1000) (hb : b = a.filter fun x => decide (x.f2 = 1)) :
    Calls Try.prog 71 #[.slice A0 a.length c0] w fun e w' => ∃ A1 c1, e = .returned (.slice A1 b.length c1) ∧ (k68.C w' A1 b.length b ∧ b.length ≤ c1) ∧ Below w.heap.size w w' := by
  have HA := Aside0.mk h.1
  have HBq := Aside0.mk hb
  clear h hb
  go_enter Try.func71, Try.ntmps71
  go_wp2
  go_loopw [3, 4] (fun v i wr => ∃ j : Nat, j ≤ a.length ∧ i = .int .i64 j ∧ ∃ l : List S68, Aside0 (Kd.R k68 68 wr w.heap.size (fun _ => True) v l) ∧ Aside0 (Below w.heap.size w wr) ∧ Aside0 (b = l ++ (a.drop j).filter (fun x => decide (x.f2 = 1)) ∧ l.length ≤ j)) (fun _ i _ => a.length - (intOf i).toNat)
  case atStart => exact ⟨0, Nat.zero_le _, rfl, [], ⟨Kd.R_nil _ _ _ _ _⟩, ⟨Below.refl _ _⟩, ⟨by rw [HBq.out]; rfl, Nat.le_refl _⟩⟩
  case round =>
   obtain ⟨j, hj, rfl, l, HR, HL, HQ⟩ := hrel
   by_cases hlt : j < a.length
   · obtain ⟨ad, eA, x0, x1, x2⟩ := at_T68 (Kd.C_below HA.out HL.out) (j : Int) (by omega) (by omega)
     subst eA
     obtain ⟨x, hx⟩ : ∃ x, x = rd_T68 a (j : Int) := ⟨_, rfl⟩
     rw [← hx] at x0 x1 x2
     simp only [Int.toNat_natCast] at x0 x1 x2
     have hd : a.drop j = x :: a.drop (j + 1) := by
       rw [List.drop_eq_getElem_cons hlt, hx]; simp [rd_T68, List.getD_eq_getElem?_getD, List.getElem?_eq_getElem hlt]
     have hq := HQ.out
     rw [hd, List.filter_cons] at hq
     have hll : (l.length + 1) * 24 ≤ 140737488355328 := by have := HQ.out.2; omega
     have HLL := Aside0.mk hll
     clear hx hd HQ hll
     obtain ⟨y0, y1, y2⟩ := x
     dsimp only at x0 x1 x2 hq
     by_cases h1 : y2 = 1
     · rw [if_pos (decide_eq_true h1)] at hq
       subst h1
       have HQ1 := Aside0.mk (show b = (l ++ [⟨y0, y1, 1⟩]) ++ (a.drop (j + 1)).filter (fun x => decide (x.f2 = 1)) ∧ (l ++ [(⟨y0, y1, 1⟩ : S68)]).length ≤ j + 1 from ⟨by rw [hq.1, List.append_assoc]; rfl, by simp; exact hq.2⟩)
       clear hq
       go_wp2_with ((with_reducible refine gate_builtin (b := .append) (xs := #[.tmp 17, .tmp 22]) rfl ?_); at_builtin; refine Kd.R_append k68 (w0 := w) w.heap.size rfl (.tmp 17) (.tmp 22) 63 68 (.agg #[.int .i64 0, .int .i64 0, .int .i64 0]) 24 rfl Try.underlying63 info68 rfl (by decide) (by omega) u3 l ⟨y0, y1, 1⟩ [.int .i64 y0, .int .i64 y1, .int .i64 1] (fun _ => True) (fun _ => False) rfl (by go_simp; done) (k68_mkM _ _ _ ⟨y0, y1, 1⟩) (fun _ hk => hk.elim) (fun _ _ => trivial) HR.out HL.out HL.out.size HLL.out ?_; intro v7 w7 g1 g2 g3 g4; have HR7 := Aside0.mk g1; have HL7 := Aside0.mk g2; clear g1 g2 g3 g4)
       go_roundw
       case rel => exact ⟨j + 1, by omega, by go_num, _, HR7, HL7, HQ1⟩
       case measure => simp [intOf]; omega
     · rw [if_neg (by rw [decide_eq_false h1]; decide)] at hq
       have HQ1 := Aside0.mk (And.intro hq.1 (Nat.le_succ_of_le hq.2))
       clear hq
       go_wp2
       go_roundw
       case rel => exact ⟨j + 1, by omega, by go_num, _, HR, HL, HQ1⟩
       case measure => simp [intOf]; omega
   · obtain rfl : j = a.length := by omega
     have hq := HQ.out.1
     rw [List.drop_length, List.filter_nil, List.append_nil] at hq
     subst hq
     obtain ⟨A, c, e, hl, hC⟩ := Kd.R_reads HR.out
     subst e
     have HC := Aside0.mk (And.intro hC hl)
     clear hC hl HQ hlt
     go_wp2
     go_ret
     exact ⟨A, c, rfl, HC.out, HL.out⟩
end
end Go.Proofs.Ytkidnomkfdnciaa.All
namespace Go.Proofs.Ytkidnomkfdnciaa.All
open Go.RowKit Go.Proofs.YtkidnomkfdnciaaW.PrintWords Go.Proofs.YtkidnomkfdnciaaW.PrintLast Go.Proofs.YtkidnomkfdnciaaW.PrintMore
attribute [local go_sem] QR.Oq QR.Yq QR.Cls
attribute [local go_sem high] eqA48
set_option linter.unusedVariables false
set_option linter.unusedSimpArgs false
section
variable {w : World} {AN AG AP AN' AG' AP' : Option Addr} {cN cG cP cN' cG' cP' : Nat} {N N' : List S48} {G P G' P' : List Int}
theorem box22_new (w : World) (AN : Option Addr) (cN : Nat) (N : List S48) (AG : Option Addr) (cG : Nat) (G : List Int) (AP : Option Addr) (cP : Nat) (P : List Int) (AN' : Option Addr) (cN' : Nat) (N' : List S48) (AG' : Option Addr) (cG' : Nat) (G' : List Int) (AP' : Option Addr) (cP' : Nat) (P' : List Int) :
  MBox ((w.alloc (.cells #[.slice AN N.length cN, .slice AG G.length cG, .slice AP P.length cP] 38)).alloc (.cells #[.slice AN' N'.length cN', .slice AG' G'.length cG', .slice AP' P'.length cP'] 38)) w.heap.size AN cN N AG cG G AP cP P ∧ MBox ((w.alloc (.cells #[.slice AN N.length cN, .slice AG G.length cG, .slice AP P.length cP] 38)).alloc (.cells #[.slice AN' N'.length cN', .slice AG' G'.length cG', .slice AP' P'.length cP'] 38)) (w.heap.size + 1) AN' cN' N' AG' cG' G' AP' cP' P' ∧ Below w.heap.size w ((w.alloc (.cells #[.slice AN N.length cN, .slice AG G.length cG, .slice AP P.length cP] 38)).alloc (.cells #[.slice AN' N'.length cN', .slice AG' G'.length cG', .slice AP' P'.length cP'] 38)) := by
 refine ⟨(box_new w AN cN N AG cG G AP cP P).below (below_alloc (Below.refl _ _) _), ?_, below_alloc (below_alloc (Below.refl _ _) _) _⟩
 have := box_new (w.alloc (.cells #[.slice AN N.length cN, .slice AG G.length cG, .slice AP P.length cP] 38)) AN' cN' N' AG' cG' G' AP' cP' P'
 rw [alloc_size1] at this
 exact this
set_option maxHeartbeats 8000000 in
set_option maxRecDepth 100000 in
theorem rsame_no (h : MemoAt w AN cN N AG cG G AP cP P) (h' : MemoAt w AN' cN' N' AG' cG' G' AP' cP' P') (hno : N.length ≠ N'.length ∨ N.length = N'.length ∧ G.length ≠ G'.length) :
  Calls Try.prog 49 #[.agg #[.slice AN N.length cN, .slice AG G.length cG, .slice AP P.length cP], .agg #[.slice AN' N'.length cN', .slice AG' G'.length cG', .slice AP' P'.length cP']] w fun e w' => e = .returned (.bool false) ∧ Below w.heap.size w w' := by
 have m1 := h.n.2.1
 have m2 := h.g.2.1
 have m3 := h'.n.2.1
 have m4 := h'.g.2.1
 clear h h'
 rcases hno with h1 | ⟨h1, h2⟩
 ·have e1 : ((N.length : Int) != (N'.length : Int)) = true := by rw [bne_iff_ne]; omega
  go_enter Try.func49, Try.ntmps49
  go_wp2
  go_ret
  exact ⟨rfl, below_alloc (below_alloc (Below.refl _ _) _) _⟩
 ·have e1 : ((N.length : Int) != (N'.length : Int)) = false := by rw [bne_eq_false_iff_eq]; omega
  have e2 : ((G.length : Int) != (G'.length : Int)) = true := by rw [bne_iff_ne]; omega
  clear h1
  go_enter Try.func49, Try.ntmps49
  go_wp2
  go_ret
  exact ⟨rfl, below_alloc (below_alloc (Below.refl _ _) _) _⟩
set_option maxHeartbeats 16000000 in
set_option maxRecDepth 100000 in
theorem rsame_yes (h : MemoAt w AN cN N AG cG G AP cP P) (h' : MemoAt w AN' cN' N' AG' cG' G' AP' cP' P') (h1 : N.length = N'.length) (h2 : G.length = G'.length) (hp : P.length ≤ 4611686018427387904) (hp' : P'.length ≤ 4611686018427387904) :
  Calls Try.prog 49 #[.agg #[.slice AN N.length cN, .slice AG G.length cG, .slice AP P.length cP], .agg #[.slice AN' N'.length cN', .slice AG' G'.length cG', .slice AP' P'.length cP']] w fun e w' => e = .returned (.bool (sameM N G P N' G' P')) ∧ Below w.heap.size w w' := by
 obtain ⟨hx, hy, hb⟩ := box22_new w AN cN N AG cG G AP cP P AN' cN' N' AG' cG' G' AP' cP' P'
 have m1 := h.n.2.1
 have m2 := h.g.2.1
 have HX := Aside0.mk hx
 have HY := Aside0.mk hy
 have HB := Aside0.mk hb
 have HH := Aside0.mk (h.below hb)
 have HH' := Aside0.mk (h'.below hb)
 have H1 := Aside0.mk h1
 have H2 := Aside0.mk h2
 have e1 : ((N.length : Int) != (N'.length : Int)) = false := by rw [bne_eq_false_iff_eq]; omega
 have e2 : ((G.length : Int) != (G'.length : Int)) = false := by rw [bne_eq_false_iff_eq]; omega
 have HC := Aside0.mk (fun (W : World) (h : MemoAt W AN cN N AG cG G AP cP P) (h' : MemoAt W AN' cN' N' AG' cG' G' AP' cP' P') => same15_at h.p h.pc h'.p h'.pc hp hp')
 obtain ⟨v, hv⟩ : ∃ v, v = sameM N G P N' G' P' := ⟨_, rfl⟩
 rw [← hv]
 have HV := Aside0.mk hv
 obtain ⟨sp, hsp⟩ : ∃ s, s = sameB P P' := ⟨_, rfl⟩
 rw [← hsp] at HC
 have HSP := Aside0.mk hsp
 clear h h' h1 h2 hx hy hb hv hsp hp hp'
 go_enter Try.func49, Try.ntmps49
 go_wp2
 go_loopw [5] (fun i wr => ∃ k : Nat, k ≤ N.length ∧ i = .int .i64 k ∧ Aside0 (∀ q, q < k → N.getD q z48 = N'.getD q z48) ∧ Aside0 (Below ((w.alloc (.cells #[.slice AN N.length cN, .slice AG G.length cG, .slice AP P.length cP] 38)).alloc (.cells #[.slice AN' N'.length cN', .slice AG' G'.length cG', .slice AP' P'.length cP'] 38)).heap.size ((w.alloc (.cells #[.slice AN N.length cN, .slice AG G.length cG, .slice AP P.length cP] 38)).alloc (.cells #[.slice AN' N'.length cN', .slice AG' G'.length cG', .slice AP' P'.length cP'] 38)) wr)) (fun i _ => N.length - (intOf i).toNat)
 case atStart => exact ⟨0, Nat.zero_le _, rfl, ⟨fun q hq => absurd hq (Nat.not_lt_zero _)⟩, ⟨Below.refl _ _⟩⟩
 case round =>
  obtain ⟨k, hk, rfl, HQ, HL⟩ := hrel
  obtain ⟨hc0, hc1, hc2⟩ := (HX.out.below HL.out).cells
  obtain ⟨hd0, hd1, hd2⟩ := (HY.out.below HL.out).cells
  by_cases hlt : k < N.length
  ·obtain ⟨ad, eA, he0, he1, he2, he3⟩ := at_T48 (HH.out.below HL.out).n (k : Int) (by omega) (by omega)
   subst eA
   obtain ⟨bd, eB, hf0, hf1, hf2, hf3⟩ := at_T48 (HH'.out.below HL.out).n (k : Int) (by omega) (by have := H1.out; omega)
   subst eB
   obtain ⟨x, hx⟩ : ∃ x, x = N.getD k z48 := ⟨_, rfl⟩
   obtain ⟨y, hy⟩ : ∃ x, x = N'.getD k z48 := ⟨_, rfl⟩
   rw [Int.toNat_natCast, show rd_T48 N (k : Int) = x from by rw [hx]; simp [rd_T48]] at he0 he1 he2 he3
   rw [Int.toNat_natCast, show rd_T48 N' (k : Int) = y from by rw [hy]; simp [rd_T48]] at hf0 hf1 hf2 hf3
   have HXX := Aside0.mk hx
   have HYY := Aside0.mk hy
   have l0 : (k : Int) < N'.length := by have := H1.out; omega
   clear hx hy
   go_wp2
   have p0 := fun d os => cell_regrown hc0 d os
   have p1 := fun d os => cell_regrown hd0 d os
   have q0 := fun d os => cell_regrown he0 d os
   have q1 := fun d os => cell_regrown he1 d os
   have q2 := fun d os => cell_regrown he2 d os
   have q3 := fun d os => cell_regrown he3 d os
   have r0 := fun d os => cell_regrown hf0 d os
   have r1 := fun d os => cell_regrown hf1 d os
   have r2 := fun d os => cell_regrown hf2 d os
   have r3 := fun d os => cell_regrown hf3 d os
   by_cases hxy : x = y
   ·have HQN := Aside0.mk (show ∀ q, q < k + 1 → N.getD q z48 = N'.getD q z48 from fun q hq => by
     by_cases e : q < k
     ·exact HQ.out q e
     ·obtain rfl : q = k := by omega
      rw [← HXX.out, ← HYY.out, hxy])
    subst hxy
    refine QR.region_all (by first | assumption | kernel_rfl) (by kernel_rfl) ?_
    repeat (refine QR.txt_step (fun K hK => ?_); have HK := Aside0.mk hK; clear hK; go_simp; first | (refine HK.out _ ?_; clear HK K) | (apply Exists.intro; refine ⟨fun _ => ?_, HK.out _ ?_⟩; (fail); clear HK K))
    refine QR.txt_nil ?_
    intro w2 hw2
    have HW := Aside0.mk (HL.out.trans (hw2.below.mono HL.out.size))
    clear hw2 p0 p1 q0 q1 q2 q3 r0 r1 r2 r3
    go_wp2
    go_roundw
    case rel => exact ⟨k + 1, by omega, by go_num, HQN, HW⟩
    case measure => simp [intOf]; omega
   ·have HVF := Aside0.mk (show v = false by
     rw [HV.out]; unfold sameM
     rw [decide_eq_false (fun e => hxy (by rw [HXX.out, HYY.out, e])), Bool.false_and])
    have eb : ((x.f0 == y.f0) && ((x.f1 == y.f1) && ((x.f2 == y.f2) && (x.f3 == y.f3)))) = false := by rw [eq48]; exact decide_eq_false hxy
    clear hxy
    refine QR.region_all (by first | assumption | kernel_rfl) (by kernel_rfl) ?_
    repeat (refine QR.txt_step (fun K hK => ?_); have HK := Aside0.mk hK; clear hK; go_simp; first | (refine HK.out _ ?_; clear HK K) | (apply Exists.intro; refine ⟨fun _ => ?_, HK.out _ ?_⟩; (fail); clear HK K))
    refine QR.txt_nil ?_
    intro w2 hw2
    have HW := Aside0.mk (HL.out.trans (hw2.below.mono HL.out.size))
    clear hw2 p0 p1 q0 q1 q2 q3 r0 r1 r2 r3 eb
    go_wp2
    go_ret
    exact ⟨by rw [HVF.out]; rfl, below_then HB.out HB.out.size HW.out⟩
  ·obtain rfl : k = N.length := by omega
   have HN := Aside0.mk (show N = N' from List.ext_getElem H1.out fun i a b => by
    have := HQ.out i a
    rwa [List.getD_eq_getElem?_getD, List.getElem?_eq_getElem a, List.getD_eq_getElem?_getD, List.getElem?_eq_getElem b] at this)
   obtain ⟨wo, hwo⟩ : ∃ wo : World, wo = wr := ⟨_, rfl⟩
   rw [← hwo] at HL hc0 hc1 hc2 hd0 hd1 hd2 ⊢
   clear hwo
   go_wp2
   clear hc0 hc1 hc2 hd0 hd1 hd2
   go_loopw [6] (fun i wi => ∃ k : Nat, k ≤ G.length ∧ i = .int .i64 k ∧ Aside0 (∀ q, q < k → G.getD q 0 = G'.getD q 0) ∧ Aside0 (Below ((w.alloc (.cells #[.slice AN N.length cN, .slice AG G.length cG, .slice AP P.length cP] 38)).alloc (.cells #[.slice AN' N'.length cN', .slice AG' G'.length cG', .slice AP' P'.length cP'] 38)).heap.size ((w.alloc (.cells #[.slice AN N.length cN, .slice AG G.length cG, .slice AP P.length cP] 38)).alloc (.cells #[.slice AN' N'.length cN', .slice AG' G'.length cG', .slice AP' P'.length cP'] 38)) wi)) (fun i _ => G.length - (intOf i).toNat)
   case atStart => exact ⟨0, Nat.zero_le _, rfl, ⟨fun q hq => absurd hq (Nat.not_lt_zero _)⟩, HL⟩
   case round =>
    obtain ⟨k, hk, rfl, HQ, HM⟩ := hrel
    obtain ⟨hc0, hc1, hc2⟩ := (HX.out.below HM.out).cells
    obtain ⟨hd0, hd1, hd2⟩ := (HY.out.below HM.out).cells
    by_cases hlt : k < G.length
    ·obtain ⟨ag, eA, hg⟩ := Kd.at_int (HH.out.below HM.out).g (k : Int) (by omega) (by omega)
     subst eA
     obtain ⟨bg, eB, hg'⟩ := Kd.at_int (HH'.out.below HM.out).g (k : Int) (by omega) (by have := H2.out; omega)
     subst eB
     obtain ⟨x, hx⟩ : ∃ x, x = rd G (k : Int) := ⟨_, rfl⟩
     obtain ⟨y, hy⟩ : ∃ x, x = rd G' (k : Int) := ⟨_, rfl⟩
     rw [← hx, Int.toNat_natCast] at hg
     rw [← hy, Int.toNat_natCast] at hg'
     have HXX := Aside0.mk (show x = G.getD k 0 by rw [hx, rd, Int.toNat_natCast])
     have HYY := Aside0.mk (show y = G'.getD k 0 by rw [hy, rd, Int.toNat_natCast])
     have l0 : (0 : Int) ≤ (k : Int) := by omega
     have l1 : (k : Int) < G.length := by omega
     have l2 : (k : Int) < G'.length := by have := H2.out; omega
     clear hx hy
     go_wp2
     have p0 := fun d os => cell_regrown hc1 d os
     have p1 := fun d os => cell_regrown hd1 d os
     have q0 := fun d os => cell_regrown hg d os
     have q1 := fun d os => cell_regrown hg' d os
     by_cases hxy : x = y
     ·have HQN := Aside0.mk (show ∀ q, q < k + 1 → G.getD q 0 = G'.getD q 0 from fun q hq => by
       by_cases e : q < k
       ·exact HQ.out q e
       ·obtain rfl : q = k := by omega
        rw [← HXX.out, ← HYY.out, hxy])
      have eb : (x != y) = false := bne_eq_false_iff_eq.mpr hxy
      clear hxy
      refine QR.region_all (by first | assumption | kernel_rfl) (by kernel_rfl) ?_
      repeat (refine QR.txt_step (fun K hK => ?_); have HK := Aside0.mk hK; clear hK; go_simp; first | (refine HK.out _ ?_; clear HK K) | (apply Exists.intro; refine ⟨fun _ => ?_, HK.out _ ?_⟩; (fail); clear HK K))
      refine QR.txt_nil ?_
      intro w2 hw2
      have HW := Aside0.mk (HM.out.trans (hw2.below.mono HM.out.size))
      clear hw2 p0 p1 q0 q1
      go_wp2
      go_roundw
      case rel => exact ⟨k + 1, by omega, by go_num, HQN, HW⟩
      case measure => simp [intOf]; omega
     ·have HVF := Aside0.mk (show v = false by
       rw [HV.out]; unfold sameM
       rw [decide_eq_false (fun (e : G = G') => hxy (by rw [HXX.out, HYY.out, e])), Bool.false_and, Bool.and_false])
      have eb : (x != y) = true := bne_iff_ne.mpr hxy
      clear hxy
      refine QR.region_all (by first | assumption | kernel_rfl) (by kernel_rfl) ?_
      repeat (refine QR.txt_step (fun K hK => ?_); have HK := Aside0.mk hK; clear hK; go_simp; first | (refine HK.out _ ?_; clear HK K) | (apply Exists.intro; refine ⟨fun _ => ?_, HK.out _ ?_⟩; (fail); clear HK K))
      refine QR.txt_nil ?_
      intro w2 hw2
      have HW := Aside0.mk (HM.out.trans (hw2.below.mono HM.out.size))
      clear hw2 p0 p1 q0 q1
      go_wp2
      go_ret
      exact ⟨by rw [HVF.out]; rfl, below_then HB.out HB.out.size HW.out⟩
    ·obtain rfl : k = G.length := by omega
     have HG := Aside0.mk (show G = G' from List.ext_getElem H2.out fun i a b => by
      have := HQ.out i a
      rwa [List.getD_eq_getElem?_getD, List.getElem?_eq_getElem a, List.getD_eq_getElem?_getD, List.getElem?_eq_getElem b] at this)
     have HVT := Aside0.mk (show v = sp by
      rw [HV.out]; unfold sameM
      rw [decide_eq_true HN.out, decide_eq_true HG.out, HSP.out]; rfl)
     go_wp2_with (go_at_call 37; refine (HC.out _ (HH.out.below HM.out) (HH'.out.below HM.out)).mono ?_; rintro e w3 ⟨rfl, hb3⟩; have HB3 := Aside0.mk (HM.out.trans (hb3.mono HM.out.size)); clear hb3)
     go_ret
     exact ⟨by rw [HVT.out]; rfl, below_then HB.out HB.out.size HB3.out⟩
theorem rsame_at (h : MemoAt w AN cN N AG cG G AP cP P) (h' : MemoAt w AN' cN' N' AG' cG' G' AP' cP' P') (hp : P.length ≤ 4611686018427387904) (hp' : P'.length ≤ 4611686018427387904) :
  Calls Try.prog 49 #[.agg #[.slice AN N.length cN, .slice AG G.length cG, .slice AP P.length cP], .agg #[.slice AN' N'.length cN', .slice AG' G'.length cG', .slice AP' P'.length cP']] w fun e w' => e = .returned (.bool (sameM N G P N' G' P')) ∧ Below w.heap.size w w' := by
 by_cases h1 : N.length = N'.length
 ·by_cases h2 : G.length = G'.length
  ·exact rsame_yes h h' h1 h2 hp hp'
  ·have e : sameM N G P N' G' P' = false := by
    unfold sameM
    rw [decide_eq_false (fun (e : G = G') => h2 (by rw [e])), Bool.false_and, Bool.and_false]
   rw [e]; exact rsame_no h h' (.inr ⟨h1, h2⟩)
 ·have e : sameM N G P N' G' P' = false := by
   unfold sameM
   rw [decide_eq_false (fun (e : N = N') => h1 (by rw [e])), Bool.false_and]
  rw [e]; exact rsame_no h h' (.inl h1)
end
end Go.Proofs.Ytkidnomkfdnciaa.All
