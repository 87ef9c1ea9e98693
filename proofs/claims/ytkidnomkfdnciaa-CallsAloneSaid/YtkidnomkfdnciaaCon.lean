/- Contracts of calls once more, for memos as they lie in memory. -/
import Derived.Test.YtkidnomkfdnciaaMemo3
import Derived.Test.YtkidnomkfdnciaaBk
import Derived.Test.YtkidnomkfdnciaaAllx18
import Derived.Test.YtkidnomkfdnciaaAllx24
import Derived.Test.YtkidnomkfdnciaaAllx27
import Derived.Test.YtkidnomkfdnciaaAllx40
import Derived.Test.YtkidnomkfdnciaaAllx50
import Derived.Test.YtkidnomkfdnciaaAllx56
namespace Go.Proofs.Ytkidnomkfdnciaa.All
open Go.RowKit Go.Proofs.YtkidnomkfdnciaaW.PrintWords Go.Proofs.YtkidnomkfdnciaaW.PrintLast Go.Proofs.YtkidnomkfdnciaaW.PrintMore
set_option linter.unusedVariables false
section
variable {w w' : World} {base : Nat} {AN AG AP : Option Addr} {cN cG cP : Nat} {N : List S48} {G P : List Int} {v0 v1 v2 : Value} {o0 o1 o2 : Nat → Prop} {N' : List S48} {G' P' : List Int}
theorem memo_at (h0 : Kd.R k48 48 w base o0 v0 N) (h1 : Kd.R (Kd.int .i64) 3 w base o1 v1 G) (h2 : Kd.R (Kd.int .i64) 3 w base o2 v2 P) :
    ∃ A0 c0 A1 c1 A2 c2, v0 = .slice A0 N.length c0 ∧ v1 = .slice A1 G.length c1 ∧ v2 = .slice A2 P.length c2 ∧ MemoAt w A0 c0 N A1 c1 G A2 c2 P := by
  obtain ⟨A0, c0, e0, l0, r0⟩ := Kd.R_reads h0
  obtain ⟨A1, c1, e1, l1, r1⟩ := Kd.R_reads h1
  obtain ⟨A2, c2, e2, l2, r2⟩ := Kd.R_reads h2
  exact ⟨A0, c0, A1, c1, A2, c2, e0, e1, e2, ⟨r0, l0, r1, l1, r2, l2⟩⟩
/-- A row of rows with one row that came in. -/
theorem row_one {g : Nat} {A : Option Addr} {c : Nat} {l : List S76} (h : w.heap[g]? = some (.cells #[.slice A l.length c] 66 (0, 0))) (hl : l.length ≤ c) (hr : k76.C w A l.length l) : Kd.C (Kd.slice 76 k76) w (some ⟨g, 0, none⟩) [l].length [l] := by
  refine ⟨rfl, by simp, fun _ => ⟨⟨g, 0, none⟩, rfl, fun j p hj => ?_⟩⟩
  have hj0 : j = 0 := by
    rcases j with _ | j
    · rfl
    · simp at hj
  subst hj0
  obtain rfl : l = p := by simpa using hj
  refine ⟨[.slice A l.length c], rfl, ⟨A, c, rfl, hl, hr⟩, fun i u hi => ?_⟩
  have hi0 : i = 0 := by
    rcases i with _ | i
    · rfl
    · simp at hi
  subst hi0
  obtain rfl : Value.slice A l.length c = u := by simpa using hi
  exact (blk_cell h 0).trans rfl
theorem Run_at {A1 A2 : Option Addr} {c1 c2 k : Nat} {L : List (List S76)} {sc : List Int} {B : List (List S73)} {ev : List S68} (h : MemoAt w AN cN N AG cG G AP cP P) (hl : Kd.C (Kd.slice 76 k76) w A1 L.length L) (hc : L.length ≤ c1) (hs : Kd.C (Kd.int .i64) w A2 sc.length sc) (hd : sc.length ≤ c2) (hf : calls_Run.f k N G P L sc = some (N', G', P', B, ev)) :
    Calls Try.prog 59 #[.agg #[.slice AN N.length cN, .slice AG G.length cG, .slice AP P.length cP], .slice A1 L.length c1, .slice A2 sc.length c2] w fun e w' => ∃ A0 c0 A1 c1 A2 c2 A3 c3 A4 c4, e = .returned (.tuple #[.agg #[.slice A0 N'.length c0, .slice A1 G'.length c1, .slice A2 P'.length c2], .slice A3 B.length c3, .slice A4 ev.length c4]) ∧ MemoAt w' A0 c0 N' A1 c1 G' A2 c2 P' ∧ (Kd.C (Kd.slice 73 k73) w' A3 B.length B ∧ B.length ≤ c3) ∧ (Kd.C k68 w' A4 ev.length ev ∧ ev.length ≤ c4) ∧ Below w.heap.size w w' :=
  (calls_Run.calls k _ _ _ _ _ _ _ _ _ _ _ _ _ _ _ _ _ _ _ _ _ h.n h.nc h.g h.gc h.p h.pc hl hc hs hd hf).mono fun e w' ⟨v0, v1, v2, v3, v4, he, h0, h1, h2, h3, h4, hb⟩ => by
    obtain ⟨A0, c0, A1, c1, A2, c2, rfl, rfl, rfl, hm⟩ := memo_at h0 h1 h2
    obtain ⟨A3, c3, rfl, l3, r3⟩ := Kd.R_reads (Kd.S_R h3)
    obtain ⟨A4, c4, rfl, l4, r4⟩ := Kd.R_reads h4
    exact ⟨_, _, _, _, _, _, _, _, _, _, he, hm, ⟨r3, l3⟩, ⟨r4, l4⟩, hb⟩
theorem All_at {A1 : Option Addr} {c1 k : Nat} {l : List S76} {b : List S73} (h : MemoAt w AN cN N AG cG G AP cP P) (hl : Kd.C k76 w A1 l.length l) (hc : l.length ≤ c1) (hf : calls_All.f k N G P l = some (N', G', P', b)) :
    Calls Try.prog 61 #[.agg #[.slice AN N.length cN, .slice AG G.length cG, .slice AP P.length cP], .slice A1 l.length c1] w fun e w' => ∃ A0 c0 A1 c1 A2 c2 A3 c3, e = .returned (.tuple #[.agg #[.slice A0 N'.length c0, .slice A1 G'.length c1, .slice A2 P'.length c2], .slice A3 b.length c3]) ∧ MemoAt w' A0 c0 N' A1 c1 G' A2 c2 P' ∧ (Kd.C k73 w' A3 b.length b ∧ b.length ≤ c3) ∧ Below w.heap.size w w' :=
  (calls_All.calls k _ _ _ _ _ _ _ _ _ _ _ _ _ _ _ _ _ h.n h.nc h.g h.gc h.p h.pc hl hc hf).mono fun e w' ⟨v0, v1, v2, v3, he, h0, h1, h2, h3, hb⟩ => by
    obtain ⟨A0, c0, A1, c1, A2, c2, rfl, rfl, rfl, hm⟩ := memo_at h0 h1 h2
    obtain ⟨A3, c3, rfl, l3, r3⟩ := Kd.R_reads h3
    exact ⟨_, _, _, _, _, _, _, _, he, hm, ⟨r3, l3⟩, hb⟩
theorem Same_at {AN' AG' AP' : Option Addr} {cN' cG' cP' k : Nat} {r : Bool} (h : MemoAt w AN cN N AG cG G AP cP P) (h' : MemoAt w AN' cN' N' AG' cG' G' AP' cP' P') (hf : memo_Same.f k N G P N' G' P' = some r) :
    Calls Try.prog 46 #[.agg #[.slice AN N.length cN, .slice AG G.length cG, .slice AP P.length cP], .agg #[.slice AN' N'.length cN', .slice AG' G'.length cG', .slice AP' P'.length cP']] w fun e w' => e = .returned (.bool r) ∧ Below w.heap.size w w' :=
  memo_Same.calls k _ _ _ _ _ _ _ _ _ _ _ _ _ _ _ _ _ _ _ _ h.n h.nc h.g h.gc h.p h.pc h'.n h'.nc h'.g h'.gc h'.p h'.pc hf
theorem Far_at {m r : Int} (h : MemoAt w AN cN N AG cG G AP cP P) (hf : roadbooklaw16_Far.f N G P m = some r) :
    Calls Try.prog 58 #[.agg #[.slice AN N.length cN, .slice AG G.length cG, .slice AP P.length cP], .int .i64 m] w fun e w' => e = .returned (.int .i64 r) ∧ Below w.heap.size w w' :=
  roadbooklaw16_Far.calls _ _ _ _ _ _ _ _ _ _ _ _ h.n h.nc h.g h.gc h.p h.pc hf
theorem Backs_at {A0 A1 : Option Addr} {c0 c1 k : Nat} {a b : List S73} {r : Bool} (h : Kd.C k73 w A0 a.length a ∧ a.length ≤ c0) (h' : Kd.C k73 w A1 b.length b ∧ b.length ≤ c1) (hf : roadbookref20_Backs.f k a b = some r) :
    Calls Try.prog 62 #[.slice A0 a.length c0, .slice A1 b.length c1] w fun e w' => e = .returned (.bool r) ∧ Below w.heap.size w w' :=
  (roadbookref20_Backs.calls k _ _ _ _ _ _ _ _ h.1 h.2 h'.1 h'.2 hf).mono fun e w' ⟨he, hd⟩ => ⟨he, hd.below⟩
end
end Go.Proofs.Ytkidnomkfdnciaa.All
