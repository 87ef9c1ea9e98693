/- The law on one alone: its walk, with what it comes to. -/
import Derived.Test.YtkidnomkfdnciaaCon
import Derived.Test.YtkidnomkfdnciaaCalls4
namespace Go.Proofs.Ytkidnomkfdnciaa.All
open Go.RowKit Go.Proofs.YtkidnomkfdnciaaW.PrintWords Go.Proofs.YtkidnomkfdnciaaW.PrintLast Go.Proofs.YtkidnomkfdnciaaW.PrintMore
set_option linter.unusedVariables false
set_option linter.unusedSimpArgs false
section
variable {w : World} {AN AG AP A1 A2 : Option Addr} {cN cG cP c1 c2 : Nat} {N : List S48} {G P : List Int} {l : List S76} {sc : List Int}
set_option maxHeartbeats 8000000 in
set_option maxRecDepth 100000 in
theorem Alone_long (h : MemoAt w AN cN N AG cG G AP cP P) (hl : 12 < l.length) (hm : l.length ≤ 9223372036854775807) :
    Calls Try.prog 20 #[.agg #[.slice AN N.length cN, .slice AG G.length cG, .slice AP P.length cP], .slice A1 l.length c1, .slice A2 sc.length c2] w fun e w' => e = .returned (.bool true) ∧ Below w.heap.size w w' := by
  have HBX := Aside0.mk (box_new w AN cN N AG cG G AP cP P)
  have HBB := Aside0.mk (below_alloc (Below.refl w.heap.size w) (.cells #[.slice AN N.length cN, .slice AG G.length cG, .slice AP P.length cP] 38))
  have HU := Aside0.mk (fun W => roadbooklaw20_awake.calls 0 true W rfl)
  clear h
  go_enter Try.func20, Try.ntmps20
  go_wp2_with (go_at_call 56; refine (HU.out _).mono ?_; rintro e w1 ⟨rfl, hb1⟩; have HB1 := Aside0.mk hb1; clear hb1)
  go_ret
  exact ⟨rfl, below_then HBB.out HBB.out.size HB1.out⟩
set_option maxHeartbeats 8000000 in
set_option maxRecDepth 100000 in
theorem Alone_script (h : MemoAt w AN cN N AG cG G AP cP P) (hl : l.length ≤ 12) (hs : 200 < sc.length) (hm : sc.length ≤ 9223372036854775807) :
    Calls Try.prog 20 #[.agg #[.slice AN N.length cN, .slice AG G.length cG, .slice AP P.length cP], .slice A1 l.length c1, .slice A2 sc.length c2] w fun e w' => e = .returned (.bool true) ∧ Below w.heap.size w w' := by
  have HBX := Aside0.mk (box_new w AN cN N AG cG G AP cP P)
  have HBB := Aside0.mk (below_alloc (Below.refl w.heap.size w) (.cells #[.slice AN N.length cN, .slice AG G.length cG, .slice AP P.length cP] 38))
  have HU := Aside0.mk (fun W => roadbooklaw20_awake.calls 0 true W rfl)
  have hl' : ¬ 12 < l.length := by omega
  clear h
  go_enter Try.func20, Try.ntmps20
  go_wp2_with (go_at_call 56; refine (HU.out _).mono ?_; rintro e w1 ⟨rfl, hb1⟩; have HB1 := Aside0.mk hb1; clear hb1)
  go_ret
  exact ⟨rfl, below_then HBB.out HBB.out.size HB1.out⟩
set_option maxHeartbeats 8000000 in
set_option maxRecDepth 100000 in
theorem Alone_far (h : MemoAt w AN cN N AG cG G AP cP P) (hl : l.length ≤ 12) (hs : sc.length ≤ 200) (hf : roadbooklaw16_Far.f N G P 20 = some 1) :
    Calls Try.prog 20 #[.agg #[.slice AN N.length cN, .slice AG G.length cG, .slice AP P.length cP], .slice A1 l.length c1, .slice A2 sc.length c2] w fun e w' => e = .returned (.bool true) ∧ Below w.heap.size w w' := by
  have HBX := Aside0.mk (box_new w AN cN N AG cG G AP cP P)
  have HBB := Aside0.mk (below_alloc (Below.refl w.heap.size w) (.cells #[.slice AN N.length cN, .slice AG G.length cG, .slice AP P.length cP] 38))
  have HU := Aside0.mk (fun W => roadbooklaw20_awake.calls 0 true W rfl)
  have HM := Aside0.mk (h.below HBB.out)
  have HF := Aside0.mk (fun (W : World) (h : MemoAt W AN cN N AG cG G AP cP P) => Far_at h hf)
  have hl' : ¬ 12 < l.length := by omega
  have hs' : ¬ 200 < sc.length := by omega
  clear h hf
  go_enter Try.func20, Try.ntmps20
  go_wp2_with (first | (go_at_call 56; refine (HU.out _).mono ?_; rintro e w1 ⟨rfl, hb1⟩; have HB1 := Aside0.mk hb1; obtain ⟨ha0, ha1, ha2⟩ := (HBX.out.below hb1).cells; clear hb1) | (go_at_call 58; refine (HF.out _ (HM.out.below HB1.out)).mono ?_; rintro e w2 ⟨rfl, hb2⟩; have HB2 := Aside0.mk (HB1.out.trans (hb2.mono HB1.out.size)); clear hb2))
  go_ret
  exact ⟨rfl, below_then HBB.out HBB.out.size HB2.out⟩
set_option maxHeartbeats 8000000 in
set_option maxRecDepth 100000 in
theorem Alone_bad (h : MemoAt w AN cN N AG cG G AP cP P) (hl : l.length ≤ 12) (hs : sc.length ≤ 200) (hf : roadbooklaw16_Far.f N G P 20 = some 0) (hm : mayMB N G P = false) :
    Calls Try.prog 20 #[.agg #[.slice AN N.length cN, .slice AG G.length cG, .slice AP P.length cP], .slice A1 l.length c1, .slice A2 sc.length c2] w fun e w' => e = .returned (.bool true) ∧ Below w.heap.size w w' := by
  have HBX := Aside0.mk (box_new w AN cN N AG cG G AP cP P)
  have HBB := Aside0.mk (below_alloc (Below.refl w.heap.size w) (.cells #[.slice AN N.length cN, .slice AG G.length cG, .slice AP P.length cP] 38))
  have HU := Aside0.mk (fun W => roadbooklaw20_awake.calls 0 true W rfl)
  have HM := Aside0.mk (h.below HBB.out)
  have HF := Aside0.mk (fun (W : World) (h : MemoAt W AN cN N AG cG G AP cP P) => Far_at h hf)
  have HY := Aside0.mk (fun (W : World) (h : MemoAt W AN cN N AG cG G AP cP P) => mmay_calls h)
  rw [hm] at HY
  have hl' : ¬ 12 < l.length := by omega
  have hs' : ¬ 200 < sc.length := by omega
  clear h hf hm
  go_enter Try.func20, Try.ntmps20
  go_wp2_with (first | (go_at_call 56; refine (HU.out _).mono ?_; rintro e w1 ⟨rfl, hb1⟩; have HB1 := Aside0.mk hb1; obtain ⟨ha0, ha1, ha2⟩ := (HBX.out.below hb1).cells; clear hb1) | (go_at_call 58; refine (HF.out _ (HM.out.below HB1.out)).mono ?_; rintro e w2 ⟨rfl, hb2⟩; have HB2 := Aside0.mk (HB1.out.trans (hb2.mono HB1.out.size)); obtain ⟨hc0, hc1, hc2⟩ := (HBX.out.below HB2.out).cells; clear hb2) | (go_at_call 41; refine (HY.out _ (HM.out.below HB2.out)).mono ?_; rintro e w3 ⟨rfl, hb3⟩; have HB3 := Aside0.mk (HB2.out.trans (hb3.mono HB2.out.size)); clear hb3))
  go_ret
  exact ⟨rfl, below_then HBB.out HBB.out.size HB3.out⟩
set_option maxHeartbeats 16000000 in
set_option maxRecDepth 100000 in
theorem Alone_main {k : Nat} {N' : List S48} {G' P' : List Int} {b : List S73} {ev : List S68} (h : MemoAt w AN cN N AG cG G AP cP P) (hlr : k76.C w A1 l.length l) (hlc : l.length ≤ c1) (hsr : Kd.C (Kd.int .i64) w A2 sc.length sc) (hsc : sc.length ≤ c2)
    (hl : l.length ≤ 12) (hs : sc.length ≤ 200) (hf : roadbooklaw16_Far.f N G P 20 = some 0) (hm : mayMB N G P = true)
    (hrun : calls_Run.f k N G P [l] sc = some (N', G', P', [b], ev)) (hev : ev.length = 3 * l.length) (hall : calls_All.f k N G P l = some (N', G', P', b)) (hnil : calls_Run.f k N G P [] sc = some (N, G, P, [], []))
    (hbk : roadbookref20_Backs.f k b b = some true) (hs1 : memo_Same.f k N' G' P' N' G' P' = some true) (hs2 : memo_Same.f k N G P N G P = some true) :
    Calls Try.prog 20 #[.agg #[.slice AN N.length cN, .slice AG G.length cG, .slice AP P.length cP], .slice A1 l.length c1, .slice A2 sc.length c2] w fun e w' => e = .returned (.bool true) ∧ Below w.heap.size w w' := by
  have HBX := Aside0.mk (box_new w AN cN N AG cG G AP cP P)
  have HBB := Aside0.mk (below_alloc (Below.refl w.heap.size w) (.cells #[.slice AN N.length cN, .slice AG G.length cG, .slice AP P.length cP] 38))
  have HU := Aside0.mk (fun W => roadbooklaw20_awake.calls 0 true W rfl)
  have HM := Aside0.mk (h.below HBB.out)
  have HL := Aside0.mk (show k76.C _ A1 l.length l ∧ l.length ≤ c1 from ⟨Kd.C_below hlr HBB.out, hlc⟩)
  have HS := Aside0.mk (show Kd.C (Kd.int .i64) _ A2 sc.length sc ∧ sc.length ≤ c2 from ⟨Kd.C_below hsr HBB.out, hsc⟩)
  have HF := Aside0.mk (fun (W : World) (h : MemoAt W AN cN N AG cG G AP cP P) => Far_at h hf)
  have HY := Aside0.mk (fun (W : World) (h : MemoAt W AN cN N AG cG G AP cP P) => mmay_calls h)
  rw [hm] at HY
  have HR := Aside0.mk (fun (W : World) (h : MemoAt W AN cN N AG cG G AP cP P) (g : Nat) (hg : W.heap[g]? = some (.cells #[.slice A1 l.length c1] 66 (0, 0))) (hl : k76.C W A1 l.length l ∧ l.length ≤ c1) (hs : Kd.C (Kd.int .i64) W A2 sc.length sc ∧ sc.length ≤ c2) => Run_at (c1 := 1) (k := k) h (row_one hg hl.2 hl.1) (Nat.le_refl 1) hs.1 hs.2 hrun)
  have HA := Aside0.mk (fun (W : World) (h : MemoAt W AN cN N AG cG G AP cP P) (hl : k76.C W A1 l.length l ∧ l.length ≤ c1) => All_at h hl.1 hl.2 hall)
  have HZ := Aside0.mk (fun (W : World) (h : MemoAt W AN cN N AG cG G AP cP P) (hs : Kd.C (Kd.int .i64) W A2 sc.length sc ∧ sc.length ≤ c2) => Run_at (A1 := none) (c1 := 0) (k := k) (L := []) h ⟨rfl, Nat.zero_le _, fun h => absurd h (Nat.lt_irrefl 0)⟩ (Nat.le_refl 0) hs.1 hs.2 hnil)
  have HBK := Aside0.mk (fun (W : World) (A0 A1 : Option Addr) (c0 c1 : Nat) (h : Kd.C k73 W A0 b.length b ∧ b.length ≤ c0) (h' : Kd.C k73 W A1 b.length b ∧ b.length ≤ c1) => Backs_at h h' hbk)
  have HS1 := Aside0.mk hs1
  have HS2 := Aside0.mk hs2
  have HEV := Aside0.mk hev
  have hl' : ¬ 12 < l.length := by omega
  have hs' : ¬ 200 < sc.length := by omega
  clear h hf hm hlr hlc hsr hsc hrun hall hnil hbk hs1 hs2
  go_enter Try.func20, Try.ntmps20
  go_wp2_with (first
    | (go_at_call 56; refine (HU.out _).mono ?_; rintro e w1 ⟨rfl, hb1⟩; have HB1 := Aside0.mk hb1; obtain ⟨ha0, ha1, ha2⟩ := (HBX.out.below hb1).cells; clear hb1)
    | (go_at_call 58; refine (HF.out _ (HM.out.below HB1.out)).mono ?_; rintro e w2 ⟨rfl, hb2⟩; have HB2 := Aside0.mk (HB1.out.trans (hb2.mono HB1.out.size)); obtain ⟨hc0, hc1, hc2⟩ := (HBX.out.below HB2.out).cells; clear hb2)
    | (go_at_call 41; refine (HY.out _ (HM.out.below HB2.out)).mono ?_; rintro e w3 ⟨rfl, hb3⟩; have HB3 := Aside0.mk (HB2.out.trans (hb3.mono HB2.out.size)); obtain ⟨hd0, hd1, hd2⟩ := (HBX.out.below HB3.out).cells; clear hb3)
    | (go_at_call 59; refine (HZ.out _ (HM.out.below HB7.out) ⟨Kd.C_below HS.out.1 HB7.out, HS.out.2⟩).mono ?_; rintro e w6 ⟨Cx, ex, Cy, ey, Cz, ez, AB6, cB6, AE6, cE6, rfl, hmz, hB6, hE6, hb6⟩; have HB8 := Aside0.mk (HB7.out.trans (hb6.mono HB7.out.size)); have h56 := (below_alloc (Below.refl w5.heap.size w5) (.cells #[.slice Bx N'.length dx, .slice By G'.length dy, .slice Bz P'.length dz] 38)).trans (hb6.mono (by simp)); have HMX6 := Aside0.mk (HMX5.out.below h56); have HMY6 := Aside0.mk (HMY.out.below h56); have HX6 := Aside0.mk (HX5.out.below h56); have HY6 := Aside0.mk (HY5.out.below hb6); have HBB6 := Aside0.mk (show Kd.C (Kd.slice 73 k73) w6 AB [b].length [b] ∧ [b].length ≤ cB from ⟨Kd.C_below HBB5.out.1 h56, HBB5.out.2⟩); have HC6 := Aside0.mk (show Kd.C k73 w6 Ac b.length b ∧ b.length ≤ cc from ⟨Kd.C_below HC5.out.1 h56, HC5.out.2⟩); have HMZ := Aside0.mk hmz; have HZ6 := Aside0.mk (box_new w6 Cx ex N Cy ey G Cz ez P); have HB9 := Aside0.mk (HB8.out.trans ((below_alloc (Below.refl w6.heap.size w6) (.cells #[.slice Cx N.length ex, .slice Cy G.length ey, .slice Cz P.length ez] 38)).mono HB8.out.size)); obtain ⟨ad, A0, c0, eAB, hab, hac, har⟩ := at_L6 (Kd.C_below HBB6.out.1 (below_alloc (Below.refl w6.heap.size w6) (.cells #[.slice Cx N.length ex, .slice Cy G.length ey, .slice Cz P.length ez] 38))) 0 (by decide) (by simp); subst eAB; have HAR := Aside0.mk (show k73.C _ A0 b.length b ∧ b.length ≤ c0 from ⟨har, hac⟩); have hrd : rd_L6 [b] 0 = b := rfl; rw [hrd] at hab; have hab1 : (w6.alloc (.cells #[.slice Cx N.length ex, .slice Cy G.length ey, .slice Cz P.length ez] 38)).cell? ad = some (.slice A0 b.length c0) := hab; have hab2 : (w6.alloc (.cells #[.slice Cx N.length ex, .slice Cy G.length ey, .slice Cz P.length ez] 38)).cell? (ad.add 0) = some (.slice A0 b.length c0) := hab; clear hmz hB6 hE6 hb6 h56 har hac hrd)
    | (go_at_call 59; refine (HR.out _ ((HM.out.below HB3.out).below (below_alloc (Below.refl _ _) _)) _ (heap_alloc_new _ _) ⟨Kd.C_below (Kd.C_below HL.out.1 HB3.out) (below_alloc (Below.refl _ _) _), HL.out.2⟩ ⟨Kd.C_below (Kd.C_below HS.out.1 HB3.out) (below_alloc (Below.refl _ _) _), HS.out.2⟩).mono ?_; rintro e w4 ⟨Ax, cx, Ay, cy, Az, cz, AB, cB, AE, cE, rfl, hmx, hB, hE, hb4⟩; have HB4 := Aside0.mk (HB3.out.trans (((below_alloc (Below.refl _ _) _).trans (hb4.mono (by simp))).mono HB3.out.size)); have HMX := Aside0.mk hmx; have HBB4 := Aside0.mk hB; have hbx := box_new w4 Ax cx N' Ay cy G' Az cz P'; have HX := Aside0.mk hbx; have HB5 := Aside0.mk (HB4.out.trans ((below_alloc (Below.refl w4.heap.size w4) (.cells #[.slice Ax N'.length cx, .slice Ay G'.length cy, .slice Az P'.length cz] 38)).mono HB4.out.size)); obtain ⟨he0, he1, he2⟩ := (HBX.out.below HB5.out).cells; clear hmx hB hE hb4 hbx)
    | (go_at_call 61; refine (HA.out _ (HM.out.below HB5.out) ⟨Kd.C_below HL.out.1 HB5.out, HL.out.2⟩).mono ?_; rintro e w5 ⟨Bx, dx, By, dy, Bz, dz, Ac, cc, rfl, hmy, hC, hb5⟩; have HB6 := Aside0.mk (HB5.out.trans (hb5.mono HB5.out.size)); have HMY := Aside0.mk hmy; have HC5 := Aside0.mk hC; have HMX5 := Aside0.mk ((HMX.out.below (below_alloc (Below.refl _ _) _)).below hb5); have HX5 := Aside0.mk (HX.out.below hb5); have HBB5 := Aside0.mk (show Kd.C (Kd.slice 73 k73) w5 AB [b].length [b] ∧ [b].length ≤ cB from ⟨Kd.C_below (Kd.C_below HBB4.out.1 (below_alloc (Below.refl _ _) _)) hb5, HBB4.out.2⟩); have HY5 := Aside0.mk (box_new w5 Bx dx N' By dy G' Bz dz P'); have HB7 := Aside0.mk (HB6.out.trans ((below_alloc (Below.refl w5.heap.size w5) (.cells #[.slice Bx N'.length dx, .slice By G'.length dy, .slice Bz P'.length dz] 38)).mono HB6.out.size)); obtain ⟨hf0, hf1, hf2⟩ := (HBX.out.below HB7.out).cells; clear hmy hC hb5)
    | (go_at_call 62; refine (HBK.out _ _ _ _ _ HAR.out ⟨Kd.C_below HC6.out.1 (below_alloc (Below.refl _ _) _), HC6.out.2⟩).mono ?_; rintro e w7 ⟨rfl, hb7⟩; have HB10 := Aside0.mk (HB9.out.trans (hb7.mono HB9.out.size)); have h67 := (below_alloc (Below.refl w6.heap.size w6) (.cells #[.slice Cx N.length ex, .slice Cy G.length ey, .slice Cz P.length ez] 38)).trans (hb7.mono (by simp)); have HMX7 := Aside0.mk (HMX6.out.below h67); have HMY7 := Aside0.mk (HMY6.out.below h67); have HMZ7 := Aside0.mk (HMZ.out.below h67); have HZ7 := Aside0.mk (HZ6.out.below hb7); obtain ⟨hg0, hg1, hg2⟩ := (HX6.out.below h67).cells; obtain ⟨hh0, hh1, hh2⟩ := (HY6.out.below h67).cells; clear hb7 h67)
    | (go_at_call 46; refine (Same_at (HMZ7.out.below HB11.out) ((HM.out.below HB10.out).below HB11.out) HS2.out).mono ?_; rintro e w9 ⟨rfl, hb9⟩; have HB12 := Aside0.mk (HB10.out.trans ((HB11.out.trans (hb9.mono HB11.out.size)).mono HB10.out.size)); clear hb9)
    | (go_at_call 46; refine (Same_at HMX7.out HMY7.out HS1.out).mono ?_; rintro e w8 ⟨rfl, hb8⟩; have HB11 := Aside0.mk hb8; obtain ⟨hi0, hi1, hi2⟩ := (HZ7.out.below hb8).cells; obtain ⟨hj0, hj1, hj2⟩ := ((HBX.out.below HB10.out).below hb8).cells; clear hb8))
  go_ret
  exact ⟨rfl, below_then HBB.out HBB.out.size HB12.out⟩
theorem alone_true (h : MemoAt w AN cN N AG cG G AP cP P) (hlr : k76.C w A1 l.length l) (hlc : l.length ≤ c1) (hsr : Kd.C (Kd.int .i64) w A2 sc.length sc) (hsc : sc.length ≤ c2) (hL : Lim N G P) :
    Calls Try.prog 20 #[.agg #[.slice AN N.length cN, .slice AG G.length cG, .slice AP P.length cP], .slice A1 l.length c1, .slice A2 sc.length c2] w fun e w' => e = .returned (.bool true) ∧ Below w.heap.size w w' := by
  by_cases hl : 12 < l.length
  · exact Alone_long h hl hlr.2.1
  · by_cases hs : 200 < sc.length
    · exact Alone_script h (by omega) hs hsr.2.1
    · have hf := Pure.far_k N G P 20
      cases hw : fewB N G P 20 with
      | false => rw [hw] at hf; exact Alone_far h (by omega) (by omega) hf
      | true =>
        rw [hw] at hf
        cases hm : mayMB N G P with
        | false => exact Alone_bad h (by omega) (by omega) hf hm
        | true =>
          have hsm : Pure.Small [l] := ⟨by simp, fun i hi => by
            obtain rfl : i = 0 := by simpa using hi
            show l.length ≤ 12
            omega⟩
          obtain ⟨s, hr, hR⟩ := Pure.run_T hL hsm sc
          obtain ⟨s0, hr0, hR0⟩ := Pure.run_T (L := []) hL ⟨by simp, fun i hi => absurd hi (Nat.not_lt_zero _)⟩ sc
          have e0 : s0 = Pure.start N G P [] := hR0.ind (fun s => s = Pure.start N G P []) rfl (fun s i _ hi => absurd hi (Nat.not_lt_zero _))
          have hone : s.ones = [Pure.nth s 0] := by
            obtain ⟨o, ho⟩ := List.length_eq_one_iff.1 hR.good.len
            rw [ho]
            unfold Pure.nth
            rw [ho]; rfl
          have hres := hR.res (w := 0) (by simp)
          have hB : s.ones.map One.ended = [Pure.res (Pure.nth s 0)] := by
            rw [hone, List.map_cons, List.map_nil, hres]
          have hrl := hR.res_len (w := 0) (by simp)
          have hrl : (Pure.res (Pure.nth s 0)).length = l.length := hrl
          have hev : s.ev.length = 3 * l.length := by
            have a := hR.good.ev
            have b := hR.rank (w := 0) (by simp)
            rw [hone] at a
            simp only [List.map_cons, List.map_nil, List.sum_cons, List.sum_nil, Nat.add_zero] at a
            rw [a, b]; rfl
          have hm' := (hR.keep hm).later.may
          have hall := Pure.all_k hm (l := l) (by omega) (k := 3000) (by omega)
          rw [hR.alone] at hall
          have hrun := hr 3000 (by omega)
          rw [hB] at hrun
          have hnil := hr0 3000 (by omega)
          rw [e0] at hnil
          have n1 := may_lenN hm
          have n2 := may_lenG hm
          have n3 := may_lenP hm
          have m1 := may_lenN hm'
          have m2 := may_lenG hm'
          have m3 := may_lenP hm'
          refine Alone_main h hlr hlc hsr hsc (by omega) (by omega) hf hm hrun hev hall hnil (Pure.backs_k (by omega) (by omega)) ?_ ?_
          · rw [msame_k (by omega) (by omega) (by omega) (by omega) (by omega), same_refl (may_P hm')]
          · rw [msame_k (by omega) (by omega) (by omega) (by omega) (by omega), same_refl (may_P hm)]
end
def limB (N : List S48) (G P : List Int) : Bool := decide (N.length * 32 ≤ 140737488351232) && (decide (G.length * 8 ≤ 140737488351232) && decide (P.length * 8 ≤ 140737488351232))
theorem limB_iff {N : List S48} {G P : List Int} : limB N G P = true ↔ Lim N G P := by
  unfold limB
  simp only [Bool.and_eq_true, decide_eq_true_eq]
  exact ⟨fun h => ⟨h.1, h.2.1, h.2.2⟩, fun h => ⟨h.n, h.g, h.p⟩⟩
def roadbooklaw20_CallsAlone.f (_ : Nat) (N : List S48) (G P : List Int) (_ : List S76) (_ : List Int) : Option Bool := if limB N G P = true then some true else none
theorem roadbooklaw20_CallsAlone.calls (k : Nat) (A0_0 : Option Addr) (c0_0 : Nat) (l0_0 : List (S48)) (A0_1 : Option Addr) (c0_1 : Nat) (l0_1 : List Int) (A0_2 : Option Addr) (c0_2 : Nat) (l0_2 : List Int) (A1 : Option Addr) (c1 : Nat) (l1 : List (S76)) (A2 : Option Addr) (c2 : Nat) (l2 : List Int) (r : Bool) (w : World) (hr0_0 : Kd.C k48 w A0_0 l0_0.length l0_0) (hc0_0 : l0_0.length ≤ c0_0) (hr0_1 : Kd.C (Kd.int .i64) w A0_1 l0_1.length l0_1) (hc0_1 : l0_1.length ≤ c0_1) (hr0_2 : Kd.C (Kd.int .i64) w A0_2 l0_2.length l0_2) (hc0_2 : l0_2.length ≤ c0_2) (hr1 : Kd.C k76 w A1 l1.length l1) (hc1 : l1.length ≤ c1) (hr2 : Kd.C (Kd.int .i64) w A2 l2.length l2) (hc2 : l2.length ≤ c2) (hrt : r = true) (h : roadbooklaw20_CallsAlone.f k l0_0 l0_1 l0_2 l1 l2 = some r) :
    Calls Try.prog 20 #[.agg #[.slice A0_0 l0_0.length c0_0, .slice A0_1 l0_1.length c0_1, .slice A0_2 l0_2.length c0_2], .slice A1 l1.length c1, .slice A2 l2.length c2] w fun e w' => e = .returned (.bool r) ∧ Below w.heap.size w w' := by
  subst hrt
  unfold roadbooklaw20_CallsAlone.f at h
  by_cases hl : limB l0_0 l0_1 l0_2 = true
  · exact alone_true ⟨hr0_0, hc0_0, hr0_1, hc0_1, hr0_2, hc0_2⟩ hr1 hc1 hr2 hc2 (limB_iff.1 hl)
  · rw [if_neg hl] at h; cases h
end Go.Proofs.Ytkidnomkfdnciaa.All
