/- The walk of Run. -/
import Derived.Test.YtkidnomkfdnciaaRunD
import Derived.Test.YtkidnomkfdnciaaRunE
import Derived.Deep.RegionHeld3
section
namespace Go.Proofs.Ytkidnomkfdnciaa.All
open Go.RowKit Go.Proofs.YtkidnomkfdnciaaW.PrintWords Go.Proofs.YtkidnomkfdnciaaW.PrintLast Go.Proofs.YtkidnomkfdnciaaW.PrintMore
set_option linter.unusedVariables false
set_option linter.unusedSimpArgs false
/-! ### what Run computes -/
def scriptO (k n : Nat) : List Int → St → Option St
  | [], s => some s
  | x :: t, s => if 0 ≤ x ∧ 0 < n then (stepO k s (x.toNat % n)).bind (scriptO k n t) else scriptO k n t s
def finO (k i : Nat) : Nat → St → Option St
  | 0, _ => none
  | f + 1, s => if (s.ones.getD i zOne).at_ < (s.ones.getD i zOne).l.length then (stepO k s i).bind (finO k i f) else some s
def lastO (k : Nat) : Nat → Nat → St → Option St
  | 0, _, s => some s
  | d + 1, i, s => (finO k i k s).bind (lastO k d (i + 1))
theorem bump_keeps (o : One) : (bump o).l = o.l := (bump_l o).1
/-- The lists stay. -/
def Keeps (s s' : St) : Prop := s'.ones.length = s.ones.length ∧ ∀ j, (s'.ones.getD j zOne).l = (s.ones.getD j zOne).l
theorem Keeps.refl (s : St) : Keeps s s := ⟨rfl, fun _ => rfl⟩
theorem Keeps.trans {a b c : St} (h : Keeps a b) (h' : Keeps b c) : Keeps a c := ⟨h'.1.trans h.1, fun j => (h'.2 j).trans (h.2 j)⟩
theorem Keeps.set {s : St} {N : List S48} {G P : List Int} {ev : List S68} {i : Nat} {o : One} (ho : o.l = (s.ones.getD i zOne).l) : Keeps s { N := N, G := G, P := P, ev := ev, ones := s.ones.set i o } := by
  refine ⟨by simp, fun j => ?_⟩
  dsimp only
  rw [set_getD]
  split
  · rename_i h
    rw [h.1]; exact ho
  · rfl
theorem midO_keeps {k i : Nat} {s s' : St} (h : midO k s i = some s') : Keeps s s' := by
  unfold midO at h
  split at h
  · obtain rfl := Option.some.inj h
    exact Keeps.refl _
  · split at h
    · obtain ⟨r, _, h⟩ := Option.bind_eq_some_iff.1 h
      obtain rfl := Option.some.inj h
      exact Keeps.set rfl
    · split at h
      · obtain rfl := Option.some.inj h
        exact Keeps.set rfl
      · cases h
theorem stepO_keeps {k i : Nat} {s s' : St} (h : stepO k s i = some s') : Keeps s s' := by
  unfold stepO at h
  split at h
  · obtain ⟨s1, h1, h⟩ := Option.bind_eq_some_iff.1 h
    split at h
    · obtain rfl := Option.some.inj h
      exact (midO_keeps h1).trans (Keeps.set (bump_keeps _))
    · cases h
  · obtain rfl := Option.some.inj h
    exact Keeps.refl _
/-! ### the rows of rows -/
section
variable {w0 W W' : World} {bh : Nat} {bos : List Nat} {vN vG vP vA vE : Value} {vD : Nat → Value} {LA : Nat → Option Addr} {LC : Nat → Nat} {s : St} {bs : List Nat}
theorem HInv.grow (h : HInv w0 W bh bos vN vG vP vA vE vD LA LC s) (i : Mv W W' bs) (hbs : ∀ b, b ∈ bs → ∃ cells, W.heap[b]? = some (.cells cells 71 (0, 0))) (hb : Below w0.heap.size w0 W') : HInv w0 W' bh bos vN vG vP vA vE vD LA LC s := by
  have far : ∀ {α : Type} {d : Kd α} {e base : Nat} {ok : Nat → Prop} {v : Value} {xs : List α}, d.R e W base ok v xs → e ≠ 71 → ∀ b, b ∈ bs → some b ≠ v.ownBlock := by
    intro α d e base ok v xs hr he b hb
    obtain ⟨c, hc⟩ := hbs b hb
    exact Kd.R_ne hr hc he
  have fbox : ∀ {g t : Nat} {cells : Array Value}, W.heap[g]? = some (.cells cells t (0, 0)) → t ≠ 71 → ∀ b, b ∈ bs → g ≠ b := by
    intro g t cells hc ht b hb e
    subst e
    obtain ⟨c, hc'⟩ := hbs g hb
    rw [hc] at hc'
    injection hc' with hc'
    injection hc' with _ hc'
    exact ht hc'
  exact ⟨hb, h.b0, blk_mv h.hall i (fbox h.hall (by decide)), R_mv h.n i (far h.n (by decide)), R_mv h.g i (far h.g (by decide)), R_mv h.p i (far h.p (by decide)), h.gp, R_mv h.e i (far h.e (by decide)), R_mv h.a i (far h.a (by decide)), h.len, fun j hj => blk_mv (h.box j hj) i (fbox (h.box j hj) (by decide)), h.old, fun j hj => R_mv (h.d j hj) i (far (h.d j hj) (by decide)), h.dd, h.inj, h.l⟩
end
theorem S_of_raw {w : World} {base : Nat} {ok : Nat → Prop} {v : Value} {u : Nat → Value} {xs : List (List S73)} (h : (Kd.raw 1).R 71 w base ok v ((List.range xs.length).map fun j => [u j]))
    (hd : ∀ j, j < xs.length → Kd.R k73 73 w base (tight (u j)) (u j) (xs.getD j [])) (dd : ∀ a b, a < xs.length → b < xs.length → a ≠ b → ∀ k, some k = (u a).ownBlock → some k ≠ (u b).ownBlock) :
    Kd.S (Kd.slice 73 k73) 71 w base (fun _ => True) v xs := by
  classical
  have hty := own_typed (Kd.R_own h).choose_spec
  obtain ⟨h0, inner, ho, hr⟩ := h
  have hl : ((List.range xs.length).map fun j => [u j]).length = xs.length := by simp
  let f : Nat → Nat := fun k => if hk : ∃ j, j < xs.length ∧ some k = (u j).ownBlock then hk.choose else 0
  have hf : ∀ j k, j < xs.length → some k = (u j).ownBlock → f k = j := by
    intro j k hj hk
    have hex : ∃ j, j < xs.length ∧ some k = (u j).ownBlock := ⟨j, hj, hk⟩
    show (if hk : ∃ j, j < xs.length ∧ some k = (u j).ownBlock then hk.choose else 0) = j
    rw [dif_pos hex]
    obtain ⟨h1, h2⟩ := hex.choose_spec
    by_cases e : hex.choose = j
    · exact e
    · exact absurd hk (dd _ _ h1 hj e k h2)
  refine ⟨f, fun k hk => trivial, inner, ?_, ?_, fun j p hj => ?_⟩
  · rw [List.length_zipIdx]; rw [hl] at ho; exact ho
  · rw [List.length_zipIdx]; have := hr.1; rw [hl] at this; exact this
  · obtain ⟨hjl, hp⟩ := List.getElem?_eq_some_iff.1 hj
    rw [List.length_zipIdx] at hjl
    have hp : p = (xs.getD j [], j) := by
      rw [← hp, List.getElem_zipIdx, List.getD_eq_getElem?_getD, List.getElem?_eq_getElem hjl]; simp
    subst hp
    have hu := hr.2 j [u j] (by simp [hjl])
    have hu : _ = [u j] ∧ _ := hu
    refine ⟨u j, hu.1, Kd.R_mono (hd j hjl) (fun k hk => ⟨⟨trivial, fun e => ?_⟩, hf j k hjl hk⟩)⟩
    obtain ⟨c, hc⟩ := hty k e.symm
    exact Kd.R_ne (hd j hjl) hc (by decide) hk
end Go.Proofs.Ytkidnomkfdnciaa.All
end
section
namespace Go.Proofs.Ytkidnomkfdnciaa.All
open Go.RowKit Go.Proofs.YtkidnomkfdnciaaW.PrintWords Go.Proofs.YtkidnomkfdnciaaW.PrintLast Go.Proofs.YtkidnomkfdnciaaW.PrintMore
set_option linter.unusedVariables false
set_option linter.unusedSimpArgs false
theorem info105' : (Try.prog.info? 105).map (fun i => (i.zero, i.size, i.bytes)) = some (some (.pointer none), 1, 8) := by kernel_rfl
theorem kptr_mkM (w : World) (base : Nat) (ok : Nat → Prop) (x : Nat) : kptr.M w base ok x [.pointer (some ⟨x, 0, none⟩)] := rfl
/-- What holds in the first loop. -/
def In1 (w wr : World) (bh : Nat) (N : List S48) (G P : List Int) (l : List (List S76)) : Prop := ∃ bos vN vG vP vA vE vD LA LC, HInv w wr bh bos vN vG vP vA vE vD LA LC ⟨N, G, P, [], l.map mkOne⟩
theorem HInv.start {w W : World} {v0 v1 v2 : Value} {N : List S48} {G P : List Int} (hb : Below w.heap.size w W) (h0 : Kd.R k48 48 W w.heap.size (fun _ => True) v0 N) (h1 : Kd.R (Kd.int .i64) 3 W w.heap.size (fun k => some k ≠ v2.ownBlock) v1 G) (h2 : Kd.R (Kd.int .i64) 3 W w.heap.size (fun k => some k ≠ v1.ownBlock) v2 P) :
    HInv w (W.alloc (.cells #[v0, v1, v2, .slice none 0 0, .slice none 0 0] 104)) W.heap.size [] v0 v1 v2 (.slice none 0 0) (.slice none 0 0) (fun _ => .slice none 0 0) (fun _ => none) (fun _ => 0) ⟨N, G, P, [], []⟩ := by
  have ha := below_alloc (Below.refl W.heap.size W) (.cells #[v0, v1, v2, .slice none 0 0, .slice none 0 0] 104)
  refine ⟨below_alloc hb _, hb.size, heap_alloc_new _ _, R_tight' rfl (Kd.R_below h0 ha), R_tight' rfl (Kd.R_below h1 ha), R_tight' rfl (Kd.R_below h2 ha), fun k hk => h1.1 k hk.symm, Kd.R_nil _ _ _ _ _, Kd.R_nil _ _ _ _ _, rfl, fun i hi => ?_, fun i hi => ?_, fun i hi => ?_, fun a b ha => ?_, fun a b ha => ?_, fun i hi => ?_⟩
  all_goals (simp at *)
theorem take_one {l : List (List S76)} {j : Nat} (h : j < l.length) : (l.take (j + 1)).map mkOne = (l.take j).map mkOne ++ [mkOne (l.getD j [])] := by
  rw [List.take_add_one, List.map_append, List.getD_eq_getElem?_getD, List.getElem?_eq_getElem h]; rfl
/-- What holds in the later loops. -/
def In3 (w wr : World) (bh : Nat) (bos : List Nat) (vA : Value) (LA : Nat → Option Addr) (LC : Nat → Nat) (vD : Nat → Value) (s : St) : Prop := ∃ vN vG vP vE, HInv w wr bh bos vN vG vP vA vE vD LA LC s
theorem step_go (k : Nat) {w W : World} {bh : Nat} {bos : List Nat} {vA : Value} {LA : Nat → Option Addr} {LC : Nat → Nat} {vD : Nat → Value} {s s' : St} {i : Nat} {N : List S48} {G P : List Int} {l : List (List S76)} (h : In3 w W bh bos vA LA LC vD s) (hk : Keeps ⟨N, G, P, [], l.map mkOne⟩ s) (h50 : ∀ j, (l.getD j []).length ≤ 50) (h64 : l.length ≤ 64) (hi : i < l.length) (hs : stepO k s i = some s') :
    Calls Try.prog 87 #[.pointer (some ⟨bh, 0, none⟩), .int .i64 (i : Int)] W fun e w' => e = .returned (.tuple #[]) ∧ ∃ vD', (∀ j, j ≠ i → vD' j = vD j) ∧ In3 w w' bh bos vA LA LC vD' s' ∧ K71 W w' := by
  obtain ⟨vN, vG, vP, vE, h⟩ := h
  have hl1 : s.ones.length = l.length := by have := hk.1; simpa using this
  have hl2 : (s.ones.getD i zOne).l = l.getD i [] := by
    rw [hk.2 i]
    dsimp only
    rw [List.getD_eq_getElem?_getD, List.getElem?_map, List.getElem?_eq_getElem hi, List.getD_eq_getElem?_getD, List.getElem?_eq_getElem hi]; rfl
  refine (step_inv k h (by omega) (by omega) (by rw [hl2]; have := h50 i; omega) hs).mono fun e w' ⟨he, vE', ⟨vN', vG', vP', vD', hD, h'⟩, hk'⟩ => ⟨he, vD', hD, ⟨vN', vG', vP', vE', h'⟩, hk'⟩
theorem In3.below {w W W' : World} {bh : Nat} {bos : List Nat} {vA : Value} {LA : Nat → Option Addr} {LC : Nat → Nat} {vD : Nat → Value} {s : St} (h : In3 w W bh bos vA LA LC vD s) (hb : Below W.heap.size W W') : In3 w W' bh bos vA LA LC vD s := by
  obtain ⟨vN, vG, vP, vE, h⟩ := h
  exact ⟨vN, vG, vP, vE, h.below hb⟩
theorem In3.grow {w W W' : World} {bh : Nat} {bos : List Nat} {vA : Value} {LA : Nat → Option Addr} {LC : Nat → Nat} {vD : Nat → Value} {s : St} {base : Nat} {ok : Nat → Prop} {v : Value} {xs : List (List Value)} (h : In3 w W bh bos vA LA LC vD s) (hr : (Kd.raw 1).R 71 W base ok v xs) (hg : W.grownBy W' v.ownBlock) (hb : Below w.heap.size w W') : In3 w W' bh bos vA LA LC vD s := by
  obtain ⟨vN, vG, vP, vE, h⟩ := h
  refine ⟨vN, vG, vP, vE, h.grow (Mv.of_grown hg) (fun b hb => ?_) hb⟩
  obtain ⟨i, o⟩ := Kd.R_own hr
  exact own_typed o b (mem_own hb).symm
theorem Keeps.at {s : St} {i : Nat} {N : List S48} {G P : List Int} {l : List (List S76)} (hk : Keeps ⟨N, G, P, [], l.map mkOne⟩ s) (hi : i < l.length) : i < s.ones.length ∧ (s.ones.getD i zOne).l = l.getD i [] := by
  refine ⟨by rw [hk.1]; simpa using hi, ?_⟩
  rw [hk.2 i]
  dsimp only
  rw [List.getD_eq_getElem?_getD, List.getElem?_map, List.getElem?_eq_getElem hi, List.getD_eq_getElem?_getD, List.getElem?_eq_getElem hi]; rfl
/-- The result's cells are written at last. -/
theorem put_S {f : Nat → Nat} {wr : World} {base b : Nat} {x0 x1 x2 v0 v1 v2 v : Value} {ok : Nat → Prop} {xs : List (List S73 × Nat)} (h6 : wr.heap[b]? = some (.cells #[x0, x1, x2] 38 (0, 0))) (h : (Kd.tag f (Kd.slice 73 k73)).R 71 wr base ok v xs) :
    (Kd.tag f (Kd.slice 73 k73)).R 71 (((wr.setCell ⟨b, 0, none⟩ v0).setCell ⟨b, 1, none⟩ v1).setCell ⟨b, 2, none⟩ v2).drew base ok v xs := by
  have t1 := blk_put h6 0 v0 rfl
  have t2 := blk_put t1 1 v1 rfl
  have hE : ∀ q, q ∈ 71 :: (Kd.slice 73 k73).E → q ≠ 38 := by decide
  exact Kd.R_drew (Kd.R_set (Kd.R_set (Kd.R_set h h6 hE _ _) t1 hE _ _) t2 hE _ _)
theorem put_E {wr : World} {base b : Nat} {x0 x1 x2 v0 v1 v2 v : Value} {ok : Nat → Prop} {xs : List S68} (h6 : wr.heap[b]? = some (.cells #[x0, x1, x2] 38 (0, 0))) (h : Kd.R k68 68 wr base ok v xs) :
    Kd.R k68 68 (((wr.setCell ⟨b, 0, none⟩ v0).setCell ⟨b, 1, none⟩ v1).setCell ⟨b, 2, none⟩ v2).drew base ok v xs := by
  have t1 := blk_put h6 0 v0 rfl
  have t2 := blk_put t1 1 v1 rfl
  exact Kd.R_drew (Kd.R_set (Kd.R_set (Kd.R_set h h6 (by decide) _ _) t1 (by decide) _ _) t2 (by decide) _ _)
theorem ended_at {s : St} {n : Nat} (hl : s.ones.length = n) {j : Nat} (hj : j < n) : (s.ones.map One.ended).getD j [] = (s.ones.getD j zOne).ended := by
  subst hl
  rw [List.getD_eq_getElem?_getD, List.getElem?_map, List.getElem?_eq_getElem hj, List.getD_eq_getElem?_getD, List.getElem?_eq_getElem hj]; rfl
theorem raw_k71 {w w' : World} {base : Nat} {ok : Nat → Prop} {v : Value} {xs : List (List Value)} (h : (Kd.raw 1).R 71 w base ok v xs) (hk : K71 w w') : (Kd.raw 1).R 71 w' base ok v xs := by
  obtain ⟨h0, inner, ho, hr⟩ := h
  refine ⟨h0, inner, own_move ho (fun k hk' => ?_), hr⟩
  obtain ⟨c, hc⟩ := own_typed ho k hk'
  rw [hc]
  exact hk k 71 c (.inl rfl) hc
theorem range_agree {vD vD' : Nat → Value} {i : Nat} (h : ∀ j, j ≠ i → vD' j = vD j) : ((List.range i).map fun a => [vD' a]) = (List.range i).map fun a => [vD a] :=
  List.map_congr_left fun a ha => by rw [h a (by have := List.mem_range.1 ha; omega)]
set_option maxHeartbeats 16000000 in
set_option maxRecDepth 100000 in
theorem Run_yes (k : Nat) {w : World} {AN AG AP : Option Addr} {cN cG cP : Nat} {N : List S48} {G P : List Int} {A1 A2 : Option Addr} {c1 c2 : Nat} {l : List (List S76)} {sc : List Int} (h : MemoAt w AN cN N AG cG G AP cP P) (hL : Kd.C (Kd.slice 76 k76) w A1 l.length l) (hc : l.length ≤ c1) (hS : Kd.C (Kd.int .i64) w A2 sc.length sc) (hl : lim3 N G P = true) (h64 : ¬ 64 < l.length) (hany : l.any manyB = false) {s1 s2 : St} (hs : scriptO k l.length sc ⟨N, G, P, [], l.map mkOne⟩ = some s1) (hf : lastO k l.length 0 s1 = some s2) :
    Calls Try.prog 59 #[.agg #[.slice AN N.length cN, .slice AG G.length cG, .slice AP P.length cP], .slice A1 l.length c1, .slice A2 sc.length c2] w fun e w' => ∃ v0_ v1_ v2_ v3_ v4_ : Value, e = .returned (.tuple #[.agg #[v0_, v1_, v2_], v3_, v4_]) ∧ Kd.R k48 48 w' w.heap.size (fun _ => True) v0_ s2.N ∧ Kd.R (Kd.int .i64) 3 w' w.heap.size (fun k_ => some k_ ≠ (v2_ : Value).ownBlock) v1_ s2.G ∧ Kd.R (Kd.int .i64) 3 w' w.heap.size (fun k_ => some k_ ≠ (v1_ : Value).ownBlock) v2_ s2.P ∧ Kd.S (Kd.slice 73 k73) 71 w' w.heap.size (fun _ => True) v3_ (s2.ones.map One.ended) ∧ Kd.R k68 68 w' w.heap.size (fun _ => True) v4_ s2.ev ∧ Below w.heap.size w w' := by
  obtain ⟨hb, hn, hbb⟩ := res_new w AN cN N AG cG G AP cP P
  obtain ⟨hd0, hd1, hd2⟩ := hb.cells
  have HBX := Aside0.mk hb
  have HNX := Aside0.mk hn
  have HM := Aside0.mk (h.below hbb)
  have HBB := Aside0.mk hbb
  have hmax := hL.2.1
  have hmax2 := hS.2.1
  have HC := Aside0.mk (many_contains _ (Kd.C_below hL hbb) hc rfl)
  rw [hany] at HC
  have HO := Aside0.mk (fun (W : World) (h : MemoAt W AN cN N AG cG G AP cP P) => cown_calls h hl)
  have HL := Aside0.mk hL
  have HS := Aside0.mk hS
  have HS1 := Aside0.mk hs
  have HS2 := Aside0.mk hf
  have hm50 : ∀ j, (l.getD j []).length ≤ 50 := by
    intro j
    by_cases hj : j < l.length
    · have := List.any_eq_false.1 hany (l.getD j []) (by rw [List.getD_eq_getElem?_getD, List.getElem?_eq_getElem hj]; exact List.getElem_mem _)
      unfold manyB at this
      simp only [decide_eq_true_eq] at this
      omega
    · rw [List.getD_eq_getElem?_getD, List.getElem?_eq_none (by omega)]; simp
  have H50 := Aside0.mk hm50
  have d1 : decide ((64 : Int) < (l.length : Int)) = false := decide_eq_false (by omega)
  have H64 := Aside0.mk (show l.length ≤ 64 by omega)
  have hu := Try.underlying107
  have hu1 := Try.underlying104
  clear h hb hn hbb hl hL hc hS hs hf hany hm50 h64
  go_enter Try.func59, Try.ntmps59
  go_wp2_with (first | (go_at_call 85; refine HC.out.mono ?_; rintro e w1 ⟨rfl, hb1⟩; have HB1 := Aside0.mk hb1; obtain ⟨ha0, ha1, ha2⟩ := (HBX.out.below hb1).cells; clear hb1) | (go_at_call 86; (refine (HO.out _ (HM.out.below HB1.out)).mono ?_; rintro e w4 ⟨v0, v1, v2, rfl, hr0, hr1, hr2, hb4⟩; obtain ⟨B0, d0, e0⟩ := Kd.R_slice hr0; obtain ⟨B1, d1, e1⟩ := Kd.R_slice hr1; obtain ⟨B2, d2, e2⟩ := Kd.R_slice hr2; subst e0 e1 e2; have HR0 := Aside0.mk hr0; have HR1 := Aside0.mk hr1; have HR2 := Aside0.mk hr2; have HB4 := Aside0.mk hb4; have h6 := (((HB1.out.trans (hb4.mono HB1.out.size)).block _ (blk_lt HNX.out)).trans HNX.out); have H6 := Aside0.mk h6; clear hr0 hr1 hr2 hb4 h6)))
  go_loopw [34] (fun i wr => ∃ j : Nat, j ≤ l.length ∧ i = .int .i64 j ∧ Aside0 (In1 w wr w4.heap.size N G P (l.take j)) ∧ Aside0 (wr.heap[w.heap.size + 1]? = some (.cells #[.slice none 0 0, .slice none 0 0, .slice none 0 0] 38 (0, 0)))) (fun i _ => l.length - (intOf i).toNat)
  case atStart =>
    have hbw : Below w.heap.size w w4 := below_then HBB.out HBB.out.size (HB1.out.trans (HB4.out.mono HB1.out.size))
    have hs1 : w.heap.size ≤ w1.heap.size := by have := HB1.out.size; have := HBB.out.size; omega
    exact ⟨0, Nat.zero_le _, rfl, ⟨_, _, _, _, _, _, _, _, _, HInv.start hbw (Kd.R_lower HR0.out hs1) (Kd.R_lower HR1.out hs1) (Kd.R_lower HR2.out hs1)⟩, ⟨((below_alloc (Below.refl _ _) _).block _ (blk_lt H6.out)).trans H6.out⟩⟩
  case round =>
    have HNE := Aside0.mk (blk_lt H6.out)
    clear HB4 H6 HR0 HR1 HR2 HB1 HC HO HM HBX HNX hd0 hd1 hd2 ha0 ha1 ha2
    obtain ⟨j, hj, rfl, HI, HX⟩ := hrel
    by_cases hlt : j < l.length
    · obtain ⟨bos, vN, vG, vP, vA, vE, vD, LA, LC, hi⟩ := HI.out
      obtain ⟨ad, A3, c3, rfl, hcell, hl1, hi1⟩ := at_L5 HL.out (j : Int) (by omega) (by omega)
      replace hcell := (hi.bel.cell (World.block_lt_of_cell? w _ hcell)).trans hcell
      obtain ⟨x, hx⟩ : ∃ x, x = l.getD j [] := ⟨_, rfl⟩
      have hrx : rd_L5 l (j : Int) = x := by rw [hx]; simp [rd_L5]
      rw [hrx] at hcell hl1 hi1
      rw [Int.toNat_natCast] at hcell
      obtain ⟨AA, cA, eA⟩ := Kd.R_slice hi.a
      subst eA
      have x3 : wr.cell? ⟨w4.heap.size, 3, none⟩ = some (.slice AA bos.length cA) := (blk_cell hi.hall 3).trans rfl
      have HH := Aside0.mk hi
      have HHA := Aside0.mk (show wr.heap[w4.heap.size]? = _ from hi.hall)
      have HXX := Aside0.mk hi1
      have HXC := Aside0.mk hl1
      have HTK := Aside0.mk (take_one hlt)
      rw [← hx] at HTK
      have hbl : bos.length ≤ 64 := by have := hi.len; have := H64.out; simp at *; omega
      have HBL := Aside0.mk hbl
      clear hi hi1 hl1 hx hrx HI hbl
      go_wp2_with ((with_reducible refine gate_builtin (b := .append) (xs := #[.tmp 42, .tmp 46]) rfl ?_); at_builtin; refine Kd.R_append kptr (w0 := w) w.heap.size rfl (.tmp 42) (.tmp 46) 102 105 (.pointer none) 8 rfl Try.underlying102 info105' rfl (by decide) (by omega) (.slice AA bos.length cA) bos wr.heap.size [.pointer (some ⟨wr.heap.size, 0, none⟩)] (fun _ => True) (fun _ => False) rfl (congrArg (fun n => Value.slice (some ⟨n, 0, none⟩) 1 1) (alloc_size1 wr _).symm) ?aP (fun _ hk => hk.elim) (fun _ _ => trivial) ?aO ?aB ?aS ?aL ?_; (case aP => exact kptr_mkM _ _ _ _); (case aO => exact Kd.R_mono (Kd.R_alloc HH.out.a _) (fun _ _ => trivial)); (case aB => exact below_alloc HH.out.bel _); (case aS => exact (below_alloc HH.out.bel _).size); (case aL => have := HBL.out; omega); intro v5 w5 h1 h2 h3 h4; obtain ⟨B5, d5, e5⟩ := Kd.R_slice h1; subst e5; have hk5 := blk_grown (kM (W := wr.alloc (.cells #[.slice A3 x.length c3, .int .i64 0, .int .i64 0, .int .i64 0, .int .i64 0, .slice none 0 0] 107)) HHA.out) h3 (Kd.R_ne HH.out.a HHA.out (by decide)); have g3 : w5.cell? ⟨w4.heap.size, 3, none⟩ = some (.slice AA bos.length cA) := (blk_cell hk5 3).trans rfl; have g4 : w5.frozen? ⟨w4.heap.size, 3, none⟩ = false := blk_frozen hk5 3)
      go_roundw
      case rel =>
        refine ⟨j + 1, by omega, by go_num, ⟨?_⟩, ⟨blk_far (blk_grown (kM (W := wr.alloc (.cells #[.slice A3 x.length c3, .int .i64 0, .int .i64 0, .int .i64 0, .int .i64 0, .slice none 0 0] 107)) HX.out) h3 (Kd.R_ne HH.out.a HX.out (by decide))) (Nat.ne_of_lt HNE.out) _⟩⟩
        have := HInv.add HH.out HXX.out HXC.out h2 h1 h3
        rw [List.length_append] at this
        unfold In1
        rw [HTK.out]
        exact ⟨_, _, _, _, _, _, _, _, _, this⟩
      case measure => simp [intOf]; omega
    · obtain rfl : j = l.length := by omega
      obtain ⟨bos, vN, vG, vP, vA, vE, vD, LA, LC, hi⟩ := HI.out
      rw [List.take_length] at hi
      have HH := Aside0.mk hi
      clear hi HI hj hlt
      have hkp0 := Aside0.mk (Keeps.refl ⟨N, G, P, [], l.map mkOne⟩)
      go_wp2
      go_loopw [53] (fun i wr => ∃ j : Nat, j ≤ sc.length ∧ i = .int .i64 j ∧ ∃ (s' : St) (vD : Nat → Value), Aside0 (In3 w wr w4.heap.size bos vA LA LC vD s') ∧ Aside0 (Keeps ⟨N, G, P, [], l.map mkOne⟩ s') ∧ Aside0 (scriptO k l.length (sc.drop j) s' = some s1) ∧ Aside0 (wr.heap[w.heap.size + 1]? = some (.cells #[.slice none 0 0, .slice none 0 0, .slice none 0 0] 38 (0, 0)))) (fun i _ => sc.length - (intOf i).toNat)
      case atStart => exact ⟨0, Nat.zero_le _, rfl, _, vD, ⟨_, _, _, _, HH.out⟩, hkp0, HS1, HX⟩
      case round =>
        clear HH HS1 HX hkp0
        obtain ⟨j, hj, rfl, s', vD', HI, HK, HSC, HX⟩ := hrel
        by_cases hlt : j < sc.length
        · obtain ⟨vN1, vG1, vP1, vE1, hi⟩ := HI.out
          obtain ⟨ad, rfl, hcell⟩ := Kd.at_int HS.out (j : Int) (by omega) (by omega)
          replace hcell := (hi.bel.cell (World.block_lt_of_cell? w _ hcell)).trans hcell
          obtain ⟨x, hx⟩ : ∃ x, x = sc.getD j 0 := ⟨_, rfl⟩
          have hrx : rd sc (j : Int) = x := by rw [hx]; simp [rd]
          rw [hrx, Int.toNat_natCast] at hcell
          have hdrop : sc.drop j = x :: sc.drop (j + 1) := by
            rw [List.drop_eq_getElem_cons hlt, hx, List.getD_eq_getElem?_getD, List.getElem?_eq_getElem hlt]; rfl
          have hsc := HSC.out
          rw [hdrop, scriptO] at hsc
          clear hi hdrop hx hrx HSC
          by_cases hx0 : 0 ≤ x
          · have dx : decide ((0 : Int) ≤ x) = true := decide_eq_true hx0
            by_cases hl0 : 0 < l.length
            · have dl : decide ((0 : Int) < (l.length : Int)) = true := decide_eq_true (by omega)
              have dl2 : (0 < l.length) = True := eq_true hl0
              rw [if_pos ⟨hx0, hl0⟩] at hsc
              obtain ⟨s'', hst, hsc⟩ := Option.bind_eq_some_iff.1 hsc
              obtain ⟨m, hm⟩ : ∃ m, m = x.toNat % l.length := ⟨_, rfl⟩
              rw [← hm] at hst
              have hmod : x.tmod (l.length : Int) = (m : Int) := by
                rw [hm, Int.tmod_eq_emod_of_nonneg hx0, Int.natCast_emod, Int.toNat_of_nonneg hx0]
              have hz : ((l.length : Int) = 0) = False := eq_false (by omega)
              have HG := Aside0.mk (step_go k HI.out HK.out H50.out H64.out (by rw [hm]; exact Nat.mod_lt _ hl0) hst)
              have HMD := Aside0.mk hmod
              clear hmod
              have HK2 := Aside0.mk (HK.out.trans (stepO_keeps hst))
              have HSC := Aside0.mk hsc
              clear hsc hst hx0 hm
              go_wp2_with (go_at_call 87; rw [HMD.out]; refine HG.out.mono ?_; rintro e w5 ⟨rfl, vD5, _, hI5, hk5⟩; have HI5 := Aside0.mk hI5; have HX5 := Aside0.mk (hk5 (w.heap.size + 1) 38 _ (Or.inr rfl) HX.out); clear hI5 hk5)
              all_goals try (exfalso; exact absurd hl0 (by assumption))
              go_roundw
              case rel => exact ⟨j + 1, by omega, by go_num, s'', vD5, HI5, HK2, HSC, HX5⟩
              case measure => simp [intOf]; omega
            · have dl : decide ((0 : Int) < (l.length : Int)) = false := decide_eq_false (by omega)
              have dl2 : (0 < l.length) = False := eq_false hl0
              rw [if_neg (fun h => hl0 h.2)] at hsc
              have HSC := Aside0.mk hsc
              clear hsc hx0
              go_wp2_with (go_at_call 87; exfalso; exact hl0 (by assumption))
              go_roundw
              case rel => exact ⟨j + 1, by omega, by go_num, s', vD', HI, HK, HSC, HX⟩
              case measure => simp [intOf]; omega
          · have dx : decide ((0 : Int) ≤ x) = false := decide_eq_false hx0
            rw [if_neg (fun h => hx0 h.1)] at hsc
            have HSC := Aside0.mk hsc
            clear hsc hx0
            go_wp2
            go_roundw
            case rel => exact ⟨j + 1, by omega, by go_num, s', vD', HI, HK, HSC, HX⟩
            case measure => simp [intOf]; omega
        · obtain rfl : j = sc.length := by omega
          have hsc := HSC.out
          rw [List.drop_length, scriptO] at hsc
          obtain rfl := Option.some.inj hsc
          clear hsc HSC hj hlt
          obtain ⟨vN1, vG1, vP1, vE1, hi⟩ := HI.out
          obtain ⟨AA, cA, eA⟩ := Kd.R_slice hi.a
          subst eA
          have x3 : wr.cell? ⟨w4.heap.size, 3, none⟩ = some (.slice AA bos.length cA) := (blk_cell hi.hall 3).trans rfl
          have hbl : bos.length = l.length := by rw [hi.len, HK.out.1]; simp
          have hx := hi.a
          clear hi hx
          go_wp2
          go_loopw [15, 76] (fun vO i wr => ∃ j : Nat, j ≤ l.length ∧ i = .int .i64 j ∧ ∃ (s' : St) (vD : Nat → Value), Aside0 (In3 w wr w4.heap.size bos (.slice AA bos.length cA) LA LC vD s') ∧ Aside0 (Keeps ⟨N, G, P, [], l.map mkOne⟩ s') ∧ Aside0 (lastO k (l.length - j) j s' = some s2) ∧ Aside0 ((Kd.raw 1).R 71 wr w.heap.size (fun _ => True) vO ((List.range j).map fun a => [vD a])) ∧ Aside0 (wr.heap[w.heap.size + 1]? = some (.cells #[.slice none 0 0, .slice none 0 0, .slice none 0 0] 38 (0, 0)))) (fun _ i _ => l.length - (intOf i).toNat)
          case atStart => exact ⟨0, Nat.zero_le _, rfl, s', vD', HI, HK, HS2, ⟨Kd.R_nil _ _ _ _ _⟩, HX⟩
          case round =>
            clear HI HK HX HS2 x3
            obtain ⟨j, hj, rfl, s3, vD3, HI, HK, HS2, HR, HX⟩ := hrel
            by_cases hlt : j < l.length
            · have hs2 := HS2.out
              rw [show l.length - j = (l.length - (j + 1)) + 1 by omega, lastO] at hs2
              obtain ⟨s4, hf4, hs2⟩ := Option.bind_eq_some_iff.1 hs2
              have HF4 := Aside0.mk hf4
              have HS4 := Aside0.mk hs2
              obtain ⟨vN1, vG1, vP1, vE1, hi⟩ := HI.out
              obtain ⟨ad, c, hA, _, hK, hc⟩ := Kd.C_get (Kd.R_reads' hi.a).2.2 0 (j : Int) (by omega) (by omega)
              subst hA
              have hp : wr.cell? (ad.add j) = some (.pointer (some ⟨bos.getD j 0, 0, none⟩)) := by
                rw [Int.toNat_natCast] at hK hc
                have hK : c = [.pointer (some ⟨bos.getD j 0, 0, none⟩)] := hK
                have := hc 0 (.pointer (some ⟨bos.getD j 0, 0, none⟩)) (by rw [hK]; rfl)
                have e : j * kptr.sz + 0 = j := by show j * 1 + 0 = j; omega
                rw [e] at this
                exact this
              obtain ⟨bo, hbo⟩ : ∃ bo, bo = bos.getD j 0 := ⟨_, rfl⟩
              rw [← hbo] at hp
              have q1 : (j : Int) < (bos.length : Int) := by omega
              have HBO := Aside0.mk hbo
              have HBL := Aside0.mk hbl
              clear hs2 hf4 HS2 hi hc hK hbo
              go_wp2
              go_loopg [] k (fun g wr => ∃ (s5 : St) (vD5 : Nat → Value), Aside0 (In3 w wr w4.heap.size bos (.slice (some ad) bos.length cA) LA LC vD5 s5) ∧ Aside0 (Keeps ⟨N, G, P, [], l.map mkOne⟩ s5) ∧ Aside0 (finO k j g s5 = some s4) ∧ Aside0 ((Kd.raw 1).R 71 wr w.heap.size (fun _ => True) u15 ((List.range j).map fun a => [vD5 a])) ∧ Aside0 (wr.heap[w.heap.size + 1]? = some (.cells #[.slice none 0 0, .slice none 0 0, .slice none 0 0] 38 (0, 0))))
              case atStart => exact ⟨s3, vD3, HI, HK, HF4, HR, HX⟩
              case round =>
                clear HI HK HX HF4 HR
                obtain ⟨s5, vD5, HI, HK, HF, HR, HX⟩ := hrel
                cases gk with
                | zero => exact absurd HF.out (by simp [finO])
                | succ g =>
                  have hf := HF.out
                  rw [finO] at hf
                  clear HF
                  obtain ⟨hj5, hl5⟩ := HK.out.at hlt
                  have hn5 : (s5.ones.getD j zOne).l.length ≤ 1000 := by rw [hl5]; have := H50.out j; omega
                  obtain ⟨vN5, vG5, vP5, vE5, hi⟩ := HI.out
                  have hbx := hi.box j hj5
                  rw [← HBO.out] at hbx
                  have HLc := Aside0.mk (left_calls hbx hn5)
                  by_cases hat : (s5.ones.getD j zOne).at_ < (s5.ones.getD j zOne).l.length
                  · rw [if_pos hat] at hf
                    rw [decide_eq_true hat] at HLc
                    obtain ⟨s6, hst, hf⟩ := Option.bind_eq_some_iff.1 hf
                    have HG := Aside0.mk (fun (W' : World) (hb : Below wr.heap.size wr W') => step_go k (HI.out.below hb) HK.out H50.out H64.out hlt hst)
                    have HK2 := Aside0.mk (HK.out.trans (stepO_keeps hst))
                    have HF := Aside0.mk hf
                    clear hf hst hat hbx hi hn5 hj5 hl5
                    go_wp2_with (first | (go_at_call 88; refine HLc.out.mono ?_; rintro e w1 ⟨rfl, ⟨q, rfl⟩⟩) | (go_at_call 87; refine (HG.out _ (pw_below_drewN (Below.refl _ _) _)).mono ?_; rintro e w5 ⟨rfl, vD6, hD6, hI6, hk6⟩; have HI6 := Aside0.mk hI6; have hkk := ((K71.refl wr).below (pw_below_drewN (Below.refl _ _) _)).trans hk6; have HR6 := Aside0.mk (raw_k71 HR.out hkk); rw [← range_agree hD6] at HR6; have HX6 := Aside0.mk (hkk (w.heap.size + 1) 38 _ (Or.inr rfl) HX.out); clear hI6 hk6 hkk hD6))
                    go_roundg g
                    case measure => omega
                    case rel => exact ⟨s6, vD6, HI6, HK2, HF, HR6, HX6⟩
                  · rw [if_neg hat] at hf
                    rw [decide_eq_false hat] at HLc
                    obtain rfl := Option.some.inj hf
                    obtain ⟨AD, cD, eD⟩ := Kd.R_slice (hi.d j hj5)
                    have HED := Aside0.mk eD
                    rw [eD] at hbx
                    have x5 : ∀ q, (wr.drewN q).cell? ⟨bo, 5, none⟩ = some (.slice AD (s5.ones.getD j zOne).ended.length cD) := fun q => (blk_cell (kM (W := wr.drewN q) (show wr.heap[bo]? = _ from hbx)) 5).trans rfl
                    obtain ⟨nD, hnD⟩ : ∃ nD, nD = (s5.ones.getD j zOne).ended.length := ⟨_, rfl⟩
                    rw [← hnD] at HED x5
                    have HBel := Aside0.mk hi.bel
                    clear hf hat hbx hi hn5 hj5 hl5 eD hnD
                    go_wp2_with (first | (go_at_call 88; refine HLc.out.mono ?_; rintro e w1 ⟨rfl, ⟨q, rfl⟩⟩) | ((with_reducible refine gate_builtin (b := .append) (xs := #[.tmp 86, .tmp 91]) rfl ?_); at_builtin; refine Kd.R_append (Kd.raw 1) (w0 := w) w.heap.size rfl (.tmp 86) (.tmp 91) 62 71 (.slice none 0 0) 24 rfl Try.underlying62 info71 rfl (by decide) (by omega) u15 ((List.range j).map fun a => [vD5 a]) [.slice AD nD cD] [.slice AD nD cD] (fun _ => True) (fun _ => False) rfl rfl ?aP (fun _ hk => hk.elim) (fun _ _ => trivial) ?aO ?aB ?aS ?aL ?_; (case aP => exact ⟨rfl, rfl, fun u hu => by rw [List.mem_singleton.1 hu]; rfl⟩); (case aO => exact Kd.R_drewN HR.out _); (case aB => exact pw_below_drewN HBel.out _); (case aS => exact (pw_below_drewN HBel.out _).size); (case aL => have := H64.out; simp; omega); intro v7 w7 h1 h2 h3 h4; have HR7 := Aside0.mk h1; have HI7 := Aside0.mk (In3.grow (HI.out.below (pw_below_drewN (Below.refl _ _) _)) (Kd.R_drewN HR.out _) h3 h2); have HX7 := Aside0.mk (blk_grown (kM (W := wr.drewN q) HX.out) h3 (Kd.R_ne HR.out HX.out (by decide))); clear h1 h2 h3 h4))
                    go_roundw
                    case rel =>
                      refine ⟨j + 1, by omega, by go_num, s5, vD5, HI7, HK, HS4, ⟨?_⟩, HX7⟩
                      rw [List.range_succ, List.map_append, List.map_singleton, HED.out]
                      exact HR7.out
                    case measure => simp [intOf]; omega
            · obtain rfl : j = l.length := by omega
              have hs2 := HS2.out
              rw [Nat.sub_self, lastO] at hs2
              obtain rfl := Option.some.inj hs2
              obtain ⟨vN, vG, vP, vE, hi⟩ := HI.out
              obtain ⟨B0, d0, e0⟩ := Kd.R_slice hi.n
              obtain ⟨B1, d1, e1⟩ := Kd.R_slice hi.g
              obtain ⟨B2, d2, e2⟩ := Kd.R_slice hi.p
              obtain ⟨B3, d3, e3⟩ := Kd.R_slice hi.e
              subst e0 e1 e2 e3
              have x0 : wr.cell? ⟨w4.heap.size, 0, none⟩ = some (.slice B0 s3.N.length d0) := (blk_cell hi.hall 0).trans rfl
              have x1 : wr.cell? ⟨w4.heap.size, 1, none⟩ = some (.slice B1 s3.G.length d1) := (blk_cell hi.hall 1).trans rfl
              have x2 : wr.cell? ⟨w4.heap.size, 2, none⟩ = some (.slice B2 s3.P.length d2) := (blk_cell hi.hall 2).trans rfl
              have x4 : wr.cell? ⟨w4.heap.size, 4, none⟩ = some (.slice B3 s3.ev.length d3) := (blk_cell hi.hall 4).trans rfl
              have y0 : wr.cell? ⟨w.heap.size + 1, 0, none⟩ = some (.slice none 0 0) := (blk_cell HX.out 0).trans rfl
              have y1 : wr.cell? ⟨w.heap.size + 1, 1, none⟩ = some (.slice none 0 0) := (blk_cell HX.out 1).trans rfl
              have y2 : wr.cell? ⟨w.heap.size + 1, 2, none⟩ = some (.slice none 0 0) := (blk_cell HX.out 2).trans rfl
              have z0 : wr.frozen? ⟨w.heap.size + 1, 0, none⟩ = false := blk_frozen HX.out 0
              have z1 : wr.frozen? ⟨w.heap.size + 1, 1, none⟩ = false := blk_frozen HX.out 1
              have z2 : wr.frozen? ⟨w.heap.size + 1, 2, none⟩ = false := blk_frozen HX.out 2
              have HH := Aside0.mk hi
              have hne1 : w.heap.size + 1 ≠ w4.heap.size := Nat.ne_of_lt HNE.out
              have hne2 : w4.heap.size ≠ w.heap.size + 1 := fun e => hne1 e.symm
              clear hs2 HS2 hj hlt hi
              go_wp2
              go_region
              all_goals
                go_wp2
                have hR := res_put (w := w) (v0 := .slice B0 s3.N.length d0) (v1 := .slice B1 s3.G.length d1) (v2 := .slice B2 s3.P.length d2) HX.out (Nat.le_succ _) HH.out.bel (Kd.R_mono HH.out.n (fun _ _ => trivial)) (Kd.R_mono HH.out.g (fun k hk => HH.out.gp k hk)) (Kd.R_mono HH.out.p (fun k hk e => HH.out.gp k e hk))
                have hl3 : s3.ones.length = l.length := by rw [HK.out.1]; simp
                have hS : Kd.S (Kd.slice 73 k73) 71 wr w.heap.size (fun _ => True) u15 (s3.ones.map One.ended) := by
                  refine S_of_raw (ok := fun _ => True) (u := vD3) (by rw [List.length_map, hl3]; exact HR.out) (fun j hj => ?_) (fun a b ha hb => ?_)
                  · rw [List.length_map] at hj
                    rw [ended_at hl3 (by omega)]
                    exact HH.out.d j hj
                  · rw [List.length_map] at ha hb
                    exact HH.out.dd a b ha hb
                obtain ⟨f, hS⟩ := hS
                exact bodyPost_ret (v := .tuple #[.agg #[.slice B0 s3.N.length d0, .slice B1 s3.G.length d1, .slice B2 s3.P.length d2], u15, .slice B3 s3.ev.length d3]) (by simp [results, Try.results59, go_sem, y0, y1, y2]) rfl ⟨_, _, _, _, _, rfl, Kd.R_drew hR.1, Kd.R_drew hR.2.1, Kd.R_drew hR.2.2.1, ⟨f, put_S HX.out hS⟩, put_E HX.out (Kd.R_mono HH.out.e (fun _ _ => trivial)), below_drew hR.2.2.2⟩
end Go.Proofs.Ytkidnomkfdnciaa.All
end
