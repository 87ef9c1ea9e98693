/- What holds of the hall in memory between two steps; no walk is here. -/
import Derived.Test.YtkidnomkfdnciaaRunA
namespace Go.Proofs.Ytkidnomkfdnciaa.All
open Go.RowKit Go.Proofs.YtkidnomkfdnciaaW.PrintWords Go.Proofs.YtkidnomkfdnciaaW.PrintLast Go.Proofs.YtkidnomkfdnciaaW.PrintMore
set_option linter.unusedVariables false
set_option linter.unusedSimpArgs false
/-! ### all of them in memory, apart -/
def kptr : Kd Nat := Kd.scalar (fun b => Value.pointer (some ⟨b, 0, none⟩)) (fun _ => rfl)
def tight (v : Value) (k : Nat) : Prop := some k = v.ownBlock
structure One where
  l : List S76
  at_ : Nat
  st : Nat
  g : Int
  e : Int
  ended : List S73
def zOne : One := ⟨[], 0, 0, 0, 0, []⟩
structure St where
  N : List S48
  G : List Int
  P : List Int
  ev : List S68
  ones : List One
section
variable {α β : Type} {d : Kd α} {d' : Kd β} {e e' base base' : Nat} {ok ok' : Nat → Prop} {v u : Value} {xs : List α} {ys : List β} {W W' : World} {bs : List Nat} {g : Nat}
theorem R_tight' (hE : d.E = []) (h : d.R e W base ok v xs) : d.R e W base (tight v) v xs := Kd.R_mono (Kd.R_tight hE h) (fun _ hk => hk)
theorem R_mv (h : d.R e W base (tight v) v xs) (i : Mv W W' bs) (hn : ∀ b, b ∈ bs → some b ≠ v.ownBlock) : d.R e W' base (tight v) v xs := Kd.R_step h (fun k hk hl => i.mv k hl (fun b hb e => hn b hb (e ▸ hk)))
theorem blk_mv {o : Obj} (h : W.heap[g]? = some o) (i : Mv W W' bs) (hn : ∀ b, b ∈ bs → g ≠ b) : W'.heap[g]? = some o := (i.mv g (blk_lt h) hn).trans h
theorem Mv.of_grown {row : Option Nat} (h : W.grownBy W' row) : Mv W W' row.toList := ⟨h.os, h.tape, h.output, h.size, fun k hk hn => h.block k hk (fun e => by
  subst e
  exact hn k (by simp) rfl)⟩
theorem Mv.of_below (h : Below W.heap.size W W') : Mv W W' [] := (Mv.same W).below h
theorem R_apart (h1 : d.R e W base ok v xs) (h2 : d'.R e' W base' ok' u ys) (hne : e ≠ e') (k : Nat) (hk : some k = v.ownBlock) : some k ≠ u.ownBlock := fun hk2 => by
  obtain ⟨i1, o1⟩ := Kd.R_own h1
  obtain ⟨i2, o2⟩ := Kd.R_own h2
  obtain ⟨c1, e1⟩ := own_typed o1 k hk.symm
  obtain ⟨c2, e2⟩ := own_typed o2 k hk2.symm
  rw [e1] at e2
  injection e2 with e2
  injection e2 with _ e3
  exact hne e3
theorem R_old (h : d.R e W base ok v xs) (k : Nat) (hk : some k = v.ownBlock) : k < W.heap.size := Kd.R_lt h k hk.symm
end
/-- What holds between two steps. -/
structure HInv (w0 W : World) (bh : Nat) (bos : List Nat) (vN vG vP vA vE : Value) (vD : Nat → Value) (LA : Nat → Option Addr) (LC : Nat → Nat) (s : St) : Prop where
  bel : Below w0.heap.size w0 W
  b0 : w0.heap.size ≤ bh
  hall : HBox W bh vN vG vP vA vE
  n : Kd.R k48 48 W w0.heap.size (tight vN) vN s.N
  g : Kd.R (Kd.int .i64) 3 W w0.heap.size (tight vG) vG s.G
  p : Kd.R (Kd.int .i64) 3 W w0.heap.size (tight vP) vP s.P
  gp : ∀ k, some k = vG.ownBlock → some k ≠ vP.ownBlock
  e : Kd.R k68 68 W w0.heap.size (tight vE) vE s.ev
  a : Kd.R kptr 105 W w0.heap.size (tight vA) vA bos
  len : bos.length = s.ones.length
  box : ∀ i, i < s.ones.length → OBox W (bos.getD i 0) (LA i) (s.ones.getD i zOne).l.length (LC i) (s.ones.getD i zOne).at_ (s.ones.getD i zOne).st (s.ones.getD i zOne).g (s.ones.getD i zOne).e (vD i)
  old : ∀ i, i < s.ones.length → w0.heap.size ≤ bos.getD i 0
  d : ∀ i, i < s.ones.length → Kd.R k73 73 W w0.heap.size (tight (vD i)) (vD i) (s.ones.getD i zOne).ended
  dd : ∀ i j, i < s.ones.length → j < s.ones.length → i ≠ j → ∀ k, some k = (vD i).ownBlock → some k ≠ (vD j).ownBlock
  inj : ∀ i j, i < s.ones.length → j < s.ones.length → i ≠ j → bos.getD i 0 ≠ bos.getD j 0
  l : ∀ i, i < s.ones.length → k76.C w0 (LA i) (s.ones.getD i zOne).l.length (s.ones.getD i zOne).l ∧ (s.ones.getD i zOne).l.length ≤ LC i
section
variable {w0 W W' : World} {bh : Nat} {bos : List Nat} {vN vG vP vA vE : Value} {vD : Nat → Value} {LA : Nat → Option Addr} {LC : Nat → Nat} {s : St} {bs : List Nat}
theorem HInv.ne (h : HInv w0 W bh bos vN vG vP vA vE vD LA LC s) {i : Nat} (hi : i < s.ones.length) : bh ≠ bos.getD i 0 := fun e => by
  have h1 := h.hall
  have h2 := h.box i hi
  rw [← e] at h2
  unfold HBox at h1
  unfold OBox at h2
  rw [h1] at h2
  injection h2 with h2
  injection h2 with _ h3
  exact absurd h3 (by decide)
theorem HInv.below (h : HInv w0 W bh bos vN vG vP vA vE vD LA LC s) (hb : Below W.heap.size W W') : HInv w0 W' bh bos vN vG vP vA vE vD LA LC s :=
  ⟨below_then h.bel h.bel.size hb, h.b0, (hb.block _ (blk_lt h.hall)).trans h.hall, Kd.R_below h.n hb, Kd.R_below h.g hb, Kd.R_below h.p hb, h.gp, Kd.R_below h.e hb, Kd.R_below h.a hb, h.len, fun i hi => (hb.block _ (blk_lt (h.box i hi))).trans (h.box i hi), h.old, fun i hi => Kd.R_below (h.d i hi) hb, h.dd, h.inj, h.l⟩
/-- The rows' blocks are none of the boxes. -/
theorem HInv.nbox {α : Type} {d : Kd α} {e base : Nat} {ok : Nat → Prop} {v : Value} {xs : List α} (h : HInv w0 W bh bos vN vG vP vA vE vD LA LC s) (hr : d.R e W base ok v xs) (he : e ≠ 104 ∧ e ≠ 107) : some bh ≠ v.ownBlock ∧ ∀ i, i < s.ones.length → some (bos.getD i 0) ≠ v.ownBlock :=
  ⟨Kd.R_ne hr h.hall he.1, fun i hi => Kd.R_ne hr (h.box i hi) he.2⟩
end
theorem set_getD (l : List One) (i j : Nat) (o : One) : (l.set i o).getD j zOne = if j = i ∧ i < l.length then o else l.getD j zOne := by
  rw [List.getD_eq_getElem?_getD, List.getD_eq_getElem?_getD, List.getElem?_set]
  by_cases h : i = j
  · subst h
    by_cases h2 : i < l.length
    · simp [h2]
    · simp [h2]
  · rw [if_neg h, if_neg (by omega)]
/-- The memo, and what came back, are stored. -/
theorem HInv.act {w0 W w1 : World} {bh : Nat} {bos : List Nat} {vN vG vP vA vE : Value} {vD : Nat → Value} {LA : Nat → Option Addr} {LC : Nat → Nat} {s : St} (h : HInv w0 W bh bos vN vG vP vA vE vD LA LC s) {i : Nat} (hi : i < s.ones.length) {v0 v1 v2 : Value} {N' : List S48} {G' P' : List Int} {r4 r5 : Int} {q : Nat}
    (hb : Below W.heap.size W w1) (h0 : Kd.R k48 48 w1 W.heap.size (fun _ => True) v0 N') (h1 : Kd.R (Kd.int .i64) 3 w1 W.heap.size (fun k_ => some k_ ≠ (v2 : Value).ownBlock) v1 G') (h2 : Kd.R (Kd.int .i64) 3 w1 W.heap.size (fun k_ => some k_ ≠ (v1 : Value).ownBlock) v2 P') :
    HInv w0 ((((((w1.setCell ⟨bh, 0, none⟩ v0).setCell ⟨bh, 1, none⟩ v1).setCell ⟨bh, 2, none⟩ v2).setCell ⟨bos.getD i 0, 3, none⟩ (.int .i64 r4)).setCell ⟨bos.getD i 0, 4, none⟩ (.int .i64 r5)).drewN q) bh bos v0 v1 v2 vA vE vD LA LC
      { s with N := N', G := G', P := P', ones := s.ones.set i { s.ones.getD i zOne with g := r4, e := r5 } } := by
  obtain ⟨bo, hbo⟩ : ∃ bo, bo = bos.getD i 0 := ⟨_, rfl⟩
  rw [← hbo]
  have hne := h.ne hi
  rw [← hbo] at hne
  have h' := h.below hb
  have hs := h.bel.size
  have i1 : Mv w1 ((((((w1.setCell ⟨bh, 0, none⟩ v0).setCell ⟨bh, 1, none⟩ v1).setCell ⟨bh, 2, none⟩ v2).setCell ⟨bo, 3, none⟩ (.int .i64 r4)).setCell ⟨bo, 4, none⟩ (.int .i64 r5)).drewN q) [bo, bo, bh, bh, bh] := inferInstance
  have far : ∀ {α : Type} {d : Kd α} {e base : Nat} {ok : Nat → Prop} {v : Value} {xs : List α}, d.R e w1 base ok v xs → e ≠ 104 ∧ e ≠ 107 → ∀ b, b ∈ [bo, bo, bh, bh, bh] → some b ≠ v.ownBlock := by
    intro α d e base ok v xs hr he b hb
    obtain ⟨x, y⟩ := h'.nbox hr he
    have y := y i hi
    rw [← hbo] at y
    simp only [List.mem_cons, List.not_mem_nil, or_false] at hb
    rcases hb with rfl | rfl | rfl | rfl | rfl
    · exact y
    · exact y
    · exact x
    · exact x
    · exact x
  have hat : ∀ j, j < s.ones.length → (s.ones.set i { s.ones.getD i zOne with g := r4, e := r5 }).getD j zOne = if j = i then { s.ones.getD i zOne with g := r4, e := r5 } else s.ones.getD j zOne := fun j hj => by
    rw [set_getD]
    by_cases e : j = i
    · rw [if_pos e, if_pos ⟨e, hi⟩]
    · rw [if_neg e, if_neg (fun x => e x.1)]
  refine ⟨wX h'.bel i1 (fun b hb => ?_), h.b0, ?_, R_mv (R_tight' rfl (Kd.R_lower h0 hs)) i1 (far h0 (by decide)), R_mv (R_tight' rfl (Kd.R_lower h1 hs)) i1 (far h1 (by decide)), R_mv (R_tight' rfl (Kd.R_lower h2 hs)) i1 (far h2 (by decide)), fun k hk => h1.1 k hk.symm, R_mv h'.e i1 (far h'.e (by decide)), R_mv h'.a i1 (far h'.a (by decide)), by simp [h.len], fun j hj => ?_, fun j hj => ?_, fun j hj => ?_, fun a b ha hb' => ?_, fun a b ha hb' => ?_, fun j hj => ?_⟩
  · have := h.old i hi
    rw [← hbo] at this
    simp only [List.mem_cons, List.not_mem_nil, or_false] at hb
    rcases hb with rfl | rfl | rfl | rfl | rfl
    · exact this
    · exact this
    · exact h.b0
    · exact h.b0
    · exact h.b0
  · exact blk_drewN (blk_far (blk_far (blk_put (blk_put (blk_put h'.hall 0 v0 rfl) 1 v1 rfl) 2 v2 rfl) hne _) hne _) q
  · simp only [List.length_set] at hj
    dsimp only
    rw [hat j hj]
    by_cases e : j = i
    · subst e
      rw [if_pos rfl]
      have hx := h'.box j hj
      rw [← hbo] at hx ⊢
      have hne' : bo ≠ bh := fun e => hne e.symm
      exact blk_drewN (blk_put (blk_put (blk_far (blk_far (blk_far hx hne' _) hne' _) hne' _) 3 _ rfl) 4 _ rfl) q
    · rw [if_neg e]
      have h3 := h.inj j i hj hi e
      have h4 := fun e => h.ne hj (Eq.symm e)
      rw [← hbo] at h3
      exact blk_drewN (blk_far (blk_far (blk_far (blk_far (blk_far (h'.box j hj) h4 _) h4 _) h4 _) h3 _) h3 _) q
  · simp only [List.length_set] at hj; exact h.old j hj
  · simp only [List.length_set] at hj
    dsimp only
    rw [hat j hj]
    have := R_mv (h'.d j hj) i1 (far (h'.d j hj) (by decide))
    by_cases e : j = i
    · subst e; rw [if_pos rfl]; exact this
    · rw [if_neg e]; exact this
  · simp only [List.length_set] at ha hb'; exact h.dd a b ha hb'
  · simp only [List.length_set] at ha hb'; exact h.inj a b ha hb'
  · simp only [List.length_set] at hj
    dsimp only
    rw [hat j hj]
    by_cases e : j = i
    · subst e; rw [if_pos rfl]; exact h.l j hj
    · rw [if_neg e]; exact h.l j hj
theorem mem_own {v : Value} {b : Nat} (h : b ∈ v.ownBlock.toList) : some b = v.ownBlock := by
  cases hv : v.ownBlock with
  | none => rw [hv] at h; simp at h
  | some k => rw [hv] at h; simp at h; rw [h]
/-- What ended is told. -/
theorem HInv.end_ {w0 W w1 : World} {bh : Nat} {bos : List Nat} {vN vG vP vA vE : Value} {vD : Nat → Value} {LA : Nat → Option Addr} {LC : Nat → Nat} {s : St} (h : HInv w0 W bh bos vN vG vP vA vE vD LA LC s) {i : Nat} (hi : i < s.ones.length) {v1 : Value} {x : S73} {ok : Nat → Prop}
    (h1 : Kd.R k73 73 w1 w0.heap.size ok v1 ((s.ones.getD i zOne).ended ++ [x])) (hg : W.grownBy w1 (vD i).ownBlock) (hv : v1.ownBlock = (vD i).ownBlock ∨ ∃ b, v1.ownBlock = some b ∧ W.heap.size ≤ b) (hb : Below w0.heap.size w0 w1) :
    HInv w0 (w1.setCell ⟨bos.getD i 0, 5, none⟩ v1) bh bos vN vG vP vA vE (fun j => if j = i then v1 else vD j) LA LC
      { s with ones := s.ones.set i { s.ones.getD i zOne with ended := (s.ones.getD i zOne).ended ++ [x] } } := by
  obtain ⟨bo, hbo⟩ : ∃ bo, bo = bos.getD i 0 := ⟨_, rfl⟩
  rw [← hbo]
  have hne := h.ne hi
  rw [← hbo] at hne
  have hbx := h.box i hi
  rw [← hbo] at hbx
  have i0 : Mv W w1 (vD i).ownBlock.toList := Mv.of_grown hg
  have i1 : Mv W (w1.setCell ⟨bo, 5, none⟩ v1) (bo :: (vD i).ownBlock.toList) := inferInstance
  have hdi := h.d i hi
  have far : ∀ {α : Type} {d : Kd α} {e base : Nat} {ok : Nat → Prop} {v : Value} {xs : List α}, d.R e W base ok v xs → e ≠ 104 ∧ e ≠ 107 → (∀ k, some k = v.ownBlock → some k ≠ (vD i).ownBlock) → ∀ b, b ∈ bo :: (vD i).ownBlock.toList → some b ≠ v.ownBlock := by
    intro α d e base ok v xs hr he hn b hb
    have y := (h.nbox hr he).2 i hi
    rw [← hbo] at y
    rcases List.mem_cons.1 hb with rfl | hb
    · exact y
    · exact fun e => hn b e (mem_own hb)
  have fbox : ∀ {g t : Nat} {cells : Array Value}, W.heap[g]? = some (.cells cells t (0, 0)) → t ≠ 73 → g ≠ bo → ∀ b, b ∈ bo :: (vD i).ownBlock.toList → g ≠ b := by
    intro g t cells hc ht hgb b hb
    rcases List.mem_cons.1 hb with rfl | hb
    · exact hgb
    · intro e
      subst e
      exact Kd.R_ne hdi hc (fun e => ht e.symm) (mem_own hb)
  have hat : ∀ j, j < s.ones.length → (s.ones.set i { s.ones.getD i zOne with ended := (s.ones.getD i zOne).ended ++ [x] }).getD j zOne = if j = i then { s.ones.getD i zOne with ended := (s.ones.getD i zOne).ended ++ [x] } else s.ones.getD j zOne := fun j hj => by
    rw [set_getD]
    by_cases e : j = i
    · rw [if_pos e, if_pos ⟨e, hi⟩]
    · rw [if_neg e, if_neg (fun x => e x.1)]
  have hb0 : w0.heap.size ≤ bo := by rw [hbo]; exact h.old i hi
  have b1 : w1.heap[bo]? = _ := blk_mv hbx i0 (fun b hb e => by
    subst e
    exact Kd.R_ne hdi hbx (by decide) (mem_own hb))
  have i2 : Mv w1 (w1.setCell ⟨bo, 5, none⟩ v1) [bo] := inferInstance
  refine ⟨wX hb i2 (fun b hb => ?_), h.b0, blk_mv h.hall i1 (fbox h.hall (by decide) hne), R_mv h.n i1 (far h.n (by decide) (R_apart h.n hdi (by decide))), R_mv h.g i1 (far h.g (by decide) (R_apart h.g hdi (by decide))), R_mv h.p i1 (far h.p (by decide) (R_apart h.p hdi (by decide))), h.gp, R_mv h.e i1 (far h.e (by decide) (R_apart h.e hdi (by decide))), R_mv h.a i1 (far h.a (by decide) (R_apart h.a hdi (by decide))), by simp [h.len], fun j hj => ?_, fun j hj => ?_, fun j hj => ?_, fun a b ha hb' hab k hk => ?_, fun a b ha hb' => ?_, fun j hj => ?_⟩
  · simp only [List.mem_cons, List.not_mem_nil, or_false] at hb
    rw [hb]; exact hb0
  · simp only [List.length_set] at hj
    (try dsimp only)
    rw [hat j hj]
    by_cases e : j = i
    · subst e
      rw [if_pos rfl, if_pos rfl, ← hbo]
      exact blk_put b1 5 v1 rfl
    · rw [if_neg e, if_neg e]
      have h3 := h.inj j i hj hi e
      rw [← hbo] at h3
      exact blk_mv (h.box j hj) i1 (fbox (h.box j hj) (by decide) h3)
  · simp only [List.length_set] at hj; exact h.old j hj
  · simp only [List.length_set] at hj
    (try dsimp only)
    rw [hat j hj]
    by_cases e : j = i
    · subst e
      rw [if_pos rfl, if_pos rfl]
      exact R_mv (R_tight' rfl h1) i2 (fun b hb => by
        simp only [List.mem_cons, List.not_mem_nil, or_false] at hb
        rw [hb]
        exact Kd.R_ne h1 b1 (by decide))
    · rw [if_neg e, if_neg e]
      exact R_mv (h.d j hj) i1 (far (h.d j hj) (by decide) (h.dd j i hj hi e))
  · simp only [List.length_set] at ha hb'
    (try dsimp only at hk ⊢)
    by_cases ea : a = i
    · rw [if_pos ea] at hk
      rw [if_neg (fun e => hab (ea.trans e.symm))]
      rcases hv with hv | ⟨c, hv, hc⟩
      · rw [hv] at hk; exact h.dd i b hi hb' (fun e => hab (ea.trans e)) k hk
      · intro e
        have := R_old (h.d b hb') k e
        rw [hv] at hk
        have := Option.some.inj hk
        omega
    · rw [if_neg ea] at hk
      by_cases eb : b = i
      · rw [if_pos eb]
        rcases hv with hv | ⟨c, hv, hc⟩
        · rw [hv]; exact h.dd a i ha hi ea k hk
        · intro e
          have := R_old (h.d a ha) k hk
          rw [hv] at e
          have := Option.some.inj e
          omega
      · rw [if_neg eb]; exact h.dd a b ha hb' hab k hk
  · simp only [List.length_set] at ha hb'; exact h.inj a b ha hb'
  · simp only [List.length_set] at hj
    (try dsimp only)
    rw [hat j hj]
    by_cases e : j = i
    · subst e; rw [if_pos rfl]; exact h.l j hj
    · rw [if_neg e]; exact h.l j hj
/-- One at its next step. -/
def bump (o : One) : One := if o.st = 2 then { o with at_ := o.at_ + 1, st := 0 } else { o with st := o.st + 1 }
theorem bump_l (o : One) : (bump o).l = o.l ∧ (bump o).ended = o.ended ∧ (bump o).g = o.g ∧ (bump o).e = o.e := by
  unfold bump
  split <;> exact ⟨rfl, rfl, rfl, rfl⟩
/-- The event is told, and the step's number is the next one. -/
theorem HInv.fin {w0 w2 w3 w' : World} {bh : Nat} {bos : List Nat} {vN vG vP vA vE : Value} {vD : Nat → Value} {LA : Nat → Option Addr} {LC : Nat → Nat} {s : St} (h : HInv w0 w2 bh bos vN vG vP vA vE vD LA LC s) {i : Nat} (hi : i < s.ones.length) {v1 : Value} {x : S68} {ok : Nat → Prop} {q : Nat}
    (h1 : Kd.R k68 68 w3 w0.heap.size ok v1 (s.ev ++ [x])) (hb : Below w0.heap.size w0 w3) (hg : w2.grownBy w3 vE.ownBlock)
    (hw : w' = if (s.ones.getD i zOne).st = 2 then ((((w3.setCell ⟨bh, 4, none⟩ v1).setCell ⟨bos.getD i 0, 2, none⟩ (.int .i64 3)).setCell ⟨bos.getD i 0, 1, none⟩ (.int .i64 (((s.ones.getD i zOne).at_ : Int) + 1))).setCell ⟨bos.getD i 0, 2, none⟩ (.int .i64 0)).drewN q
      else ((w3.setCell ⟨bh, 4, none⟩ v1).setCell ⟨bos.getD i 0, 2, none⟩ (.int .i64 (((s.ones.getD i zOne).st : Int) + 1))).drewN q) :
    HInv w0 w' bh bos vN vG vP vA v1 vD LA LC { s with ev := s.ev ++ [x], ones := s.ones.set i (bump (s.ones.getD i zOne)) } := by
  obtain ⟨bo, hbo⟩ : ∃ bo, bo = bos.getD i 0 := ⟨_, rfl⟩
  rw [← hbo] at hw
  have hne := h.ne hi
  rw [← hbo] at hne
  have hbx := h.box i hi
  rw [← hbo] at hbx
  have i0 : Mv w2 w3 vE.ownBlock.toList := Mv.of_grown hg
  have he := h.e
  have hb0 : w0.heap.size ≤ bo := by rw [hbo]; exact h.old i hi
  have nbE : ∀ {g t : Nat} {cells : Array Value}, w2.heap[g]? = some (.cells cells t (0, 0)) → t ≠ 68 → ∀ b, b ∈ vE.ownBlock.toList → g ≠ b := by
    intro g t cells hc ht b hb e
    subst e
    exact Kd.R_ne he hc (fun e => ht e.symm) (mem_own hb)
  have c0 : w3.heap[bh]? = _ := blk_mv h.hall i0 (nbE h.hall (by decide))
  have b1 : w3.heap[bo]? = _ := blk_mv hbx i0 (nbE hbx (by decide))
  have hl := h.l
  -- what the stores leave
  have main : ∃ bs, Mv w3 w' bs ∧ (∀ b, b ∈ bs → b = bh ∨ b = bo) ∧ HBox w' bh vN vG vP vA v1 ∧ OBox w' bo (LA i) (s.ones.getD i zOne).l.length (LC i) (bump (s.ones.getD i zOne)).at_ (bump (s.ones.getD i zOne)).st (s.ones.getD i zOne).g (s.ones.getD i zOne).e (vD i) := by
    have hne2 : bo ≠ bh := fun e => hne e.symm
    by_cases hst : (s.ones.getD i zOne).st = 2
    · rw [if_pos hst] at hw
      refine ⟨[bo, bo, bo, bh], by rw [hw]; exact inferInstance, fun b hb => ?_, ?_, ?_⟩
      · simp only [List.mem_cons, List.not_mem_nil, or_false] at hb
        omega
      · rw [hw]; exact blk_drewN (blk_far (blk_far (blk_far (blk_put c0 4 v1 rfl) hne _) hne _) hne _) q
      · rw [hw]
        unfold bump
        rw [if_pos hst]
        exact blk_drewN (blk_put (blk_put (blk_put (blk_far b1 hne2 _) 2 _ rfl) 1 _ rfl) 2 _ rfl) q
    · rw [if_neg hst] at hw
      refine ⟨[bo, bh], by rw [hw]; exact inferInstance, fun b hb => ?_, ?_, ?_⟩
      · simp only [List.mem_cons, List.not_mem_nil, or_false] at hb
        omega
      · rw [hw]; exact blk_drewN (blk_far (blk_put c0 4 v1 rfl) hne _) q
      · rw [hw]
        unfold bump
        rw [if_neg hst]
        exact blk_drewN (blk_put (blk_far b1 hne2 _) 2 _ rfl) q
  obtain ⟨bs, i1, hbs, hh, hob⟩ := main
  have far : ∀ {α : Type} {d : Kd α} {e base : Nat} {ok : Nat → Prop} {v : Value} {xs : List α}, d.R e w2 base ok v xs → e ≠ 104 ∧ e ≠ 107 → ∀ b, b ∈ bs → some b ≠ v.ownBlock := by
    intro α d e base ok v xs hr he b hb
    obtain ⟨x, y⟩ := h.nbox hr he
    have y := y i hi
    rw [← hbo] at y
    rcases hbs b hb with rfl | rfl
    · exact x
    · exact y
  have mvR : ∀ {α : Type} {d : Kd α} {e : Nat} {v : Value} {xs : List α}, d.R e w2 w0.heap.size (tight v) v xs → e ≠ 104 ∧ e ≠ 107 → e ≠ 68 → d.R e w' w0.heap.size (tight v) v xs := by
    intro α d e v xs hr he h68
    exact R_mv (R_mv hr i0 (fun b hb e' => R_apart hr h.e h68 b e' (mem_own hb))) i1 (far hr he)
  have hat : ∀ j, j < s.ones.length → (s.ones.set i (bump (s.ones.getD i zOne))).getD j zOne = if j = i then bump (s.ones.getD i zOne) else s.ones.getD j zOne := fun j hj => by
    rw [set_getD]
    by_cases e : j = i
    · rw [if_pos e, if_pos ⟨e, hi⟩]
    · rw [if_neg e, if_neg (fun x => e x.1)]
  obtain ⟨q1, q2, q3, q4⟩ := bump_l (s.ones.getD i zOne)
  refine ⟨wX hb i1 (fun b hb => by rcases hbs b hb with rfl | rfl; exact h.b0; exact hb0), h.b0, hh, mvR h.n (by decide) (by decide), mvR h.g (by decide) (by decide), mvR h.p (by decide) (by decide), h.gp, R_mv (R_tight' rfl h1) i1 (fun b hb => ?_), mvR h.a (by decide) (by decide), by simp [h.len], fun j hj => ?_, fun j hj => ?_, fun j hj => ?_, fun a b ha hb' hab k hk => ?_, fun a b ha hb' => ?_, fun j hj => ?_⟩
  · rcases hbs b hb with rfl | rfl
    · exact Kd.R_ne h1 c0 (by decide)
    · exact Kd.R_ne h1 b1 (by decide)
  · simp only [List.length_set] at hj
    (try dsimp only)
    rw [hat j hj]
    by_cases e : j = i
    · subst e
      rw [if_pos rfl, ← hbo, q1, q3, q4]
      exact hob
    · rw [if_neg e]
      have h3 := h.inj j i hj hi e
      rw [← hbo] at h3
      have h4 := fun e => h.ne hj (Eq.symm e)
      exact blk_mv (blk_mv (h.box j hj) i0 (nbE (h.box j hj) (by decide))) i1 (fun b hb => by rcases hbs b hb with rfl | rfl; exact h4; exact h3)
  · simp only [List.length_set] at hj; exact h.old j hj
  · simp only [List.length_set] at hj
    (try dsimp only)
    rw [hat j hj]
    have := mvR (h.d j hj) (by decide) (by decide)
    by_cases e : j = i
    · subst e; rw [if_pos rfl, q2]; exact this
    · rw [if_neg e]; exact this
  · simp only [List.length_set] at ha hb'; exact h.dd a b ha hb' hab k hk
  · simp only [List.length_set] at ha hb'; exact h.inj a b ha hb'
  · simp only [List.length_set] at hj
    (try dsimp only)
    rw [hat j hj]
    by_cases e : j = i
    · subst e; rw [if_pos rfl, q1]; exact h.l j hj
    · rw [if_neg e]; exact h.l j hj
end Go.Proofs.Ytkidnomkfdnciaa.All
