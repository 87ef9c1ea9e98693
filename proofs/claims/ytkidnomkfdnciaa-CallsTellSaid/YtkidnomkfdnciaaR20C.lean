/- What holds of the hall in memory between two steps; no walk is here. -/
import Derived.Test.YtkidnomkfdnciaaRunA
import Derived.Test.YtkidnomkfdnciaaR20B
namespace Go.Proofs.Ytkidnomkfdnciaa.All
open Go.RowKit Go.Proofs.YtkidnomkfdnciaaW.PrintWords Go.Proofs.YtkidnomkfdnciaaW.PrintLast Go.Proofs.YtkidnomkfdnciaaW.PrintMore
set_option linter.unusedVariables false
set_option linter.unusedSimpArgs false
def kptr : Kd Nat := Kd.scalar (fun b => Value.pointer (some ⟨b, 0, none⟩)) (fun _ => rfl)
def tight (v : Value) (k : Nat) : Prop := some k = v.ownBlock
structure One where
 l : List S76
 at_ : Nat
 st : Nat
 g : Int
 e : Int
 ended : List S73
def zOne : One := ⟨[], 0, 0, 0, 0, []⟩
structure St where
 N : List S48
 G : List Int
 P : List Int
 ev : List S68
 ones : List One
section
variable {α β : Type} {d : Kd α} {d' : Kd β} {e e' base base' : Nat} {ok ok' : Nat → Prop} {v u : Value} {xs : List α} {ys : List β} {W W' : World} {bs : List Nat} {g : Nat}
theorem R_tight' (hE : d.E = []) (h : d.R e W base ok v xs) : d.R e W base (tight v) v xs := Kd.R_mono (Kd.R_tight hE h) (fun _ hk => hk)
theorem R_mv (h : d.R e W base (tight v) v xs) (i : Mv W W' bs) (hn : ∀ b, b ∈ bs → some b ≠ v.ownBlock) : d.R e W' base (tight v) v xs := Kd.R_step h (fun k hk hl => i.mv k hl (fun b hb e => hn b hb (e ▸ hk)))
theorem blk_mv {o : Obj} (h : W.heap[g]? = some o) (i : Mv W W' bs) (hn : ∀ b, b ∈ bs → g ≠ b) : W'.heap[g]? = some o := (i.mv g (blk_lt h) hn).trans h
theorem Mv.of_grown {row : Option Nat} (h : W.grownBy W' row) : Mv W W' row.toList := ⟨h.os, h.tape, h.output, h.size, fun k hk hn => h.block k hk (fun e => by
 subst e
 exact hn k (by simp) rfl)⟩
theorem Mv.of_below (h : Below W.heap.size W W') : Mv W W' [] := (Mv.same W).below h
theorem R_apart (h1 : d.R e W base ok v xs) (h2 : d'.R e' W base' ok' u ys) (hne : e ≠ e') (k : Nat) (hk : some k = v.ownBlock) : some k ≠ u.ownBlock := fun hk2 => by
 obtain ⟨i1, o1⟩ := Kd.R_own h1
 obtain ⟨i2, o2⟩ := Kd.R_own h2
 obtain ⟨c1, e1⟩ := own_typed o1 k hk.symm
 obtain ⟨c2, e2⟩ := own_typed o2 k hk2.symm
 rw [e1] at e2
 injection e2 with e2
 injection e2 with _ e3
 exact hne e3
theorem R_old (h : d.R e W base ok v xs) (k : Nat) (hk : some k = v.ownBlock) : k < W.heap.size := Kd.R_lt h k hk.symm
end
structure HInv (w0 W : World) (bh : Nat) (bos : List Nat) (vN vG vP vA vE : Value) (vD : Nat → Value) (LA : Nat → Option Addr) (LC : Nat → Nat) (s : St) : Prop where
 bel : Below w0.heap.size w0 W
 b0 : w0.heap.size ≤ bh
 hall : HBox W bh vN vG vP vA vE
 n : Kd.R k48 48 W w0.heap.size (tight vN) vN s.N
 g : Kd.R (Kd.int .i64) 3 W w0.heap.size (tight vG) vG s.G
 p : Kd.R (Kd.int .i64) 3 W w0.heap.size (tight vP) vP s.P
 gp : ∀ k, some k = vG.ownBlock → some k ≠ vP.ownBlock
 e : Kd.R k68 68 W w0.heap.size (tight vE) vE s.ev
 a : Kd.R kptr 105 W w0.heap.size (tight vA) vA bos
 len : bos.length = s.ones.length
 box : ∀ i, i < s.ones.length → OBox W (bos.getD i 0) (LA i) (s.ones.getD i zOne).l.length (LC i) (s.ones.getD i zOne).at_ (s.ones.getD i zOne).st (s.ones.getD i zOne).g (s.ones.getD i zOne).e (vD i)
 old : ∀ i, i < s.ones.length → w0.heap.size ≤ bos.getD i 0
 d : ∀ i, i < s.ones.length → Kd.R k73 73 W w0.heap.size (tight (vD i)) (vD i) (s.ones.getD i zOne).ended
 dd : ∀ i j, i < s.ones.length → j < s.ones.length → i ≠ j → ∀ k, some k = (vD i).ownBlock → some k ≠ (vD j).ownBlock
 inj : ∀ i j, i < s.ones.length → j < s.ones.length → i ≠ j → bos.getD i 0 ≠ bos.getD j 0
 l : ∀ i, i < s.ones.length → k76.C w0 (LA i) (s.ones.getD i zOne).l.length (s.ones.getD i zOne).l ∧ (s.ones.getD i zOne).l.length ≤ LC i
section
variable {w0 W W' : World} {bh : Nat} {bos : List Nat} {vN vG vP vA vE : Value} {vD : Nat → Value} {LA : Nat → Option Addr} {LC : Nat → Nat} {s : St} {bs : List Nat}
theorem HInv.ne (h : HInv w0 W bh bos vN vG vP vA vE vD LA LC s) {i : Nat} (hi : i < s.ones.length) : bh ≠ bos.getD i 0 := fun e => by
 have h1 := h.hall
 have h2 := h.box i hi
 rw [← e] at h2
 unfold HBox at h1
 unfold OBox at h2
 rw [h1] at h2
 injection h2 with h2
 injection h2 with _ h3
 exact absurd h3 (by decide)
theorem HInv.below (h : HInv w0 W bh bos vN vG vP vA vE vD LA LC s) (hb : Below W.heap.size W W') : HInv w0 W' bh bos vN vG vP vA vE vD LA LC s :=
 ⟨below_then h.bel h.bel.size hb, h.b0, (hb.block _ (blk_lt h.hall)).trans h.hall, Kd.R_below h.n hb, Kd.R_below h.g hb, Kd.R_below h.p hb, h.gp, Kd.R_below h.e hb, Kd.R_below h.a hb, h.len, fun i hi => (hb.block _ (blk_lt (h.box i hi))).trans (h.box i hi), h.old, fun i hi => Kd.R_below (h.d i hi) hb, h.dd, h.inj, h.l⟩
theorem HInv.nbox {α : Type} {d : Kd α} {e base : Nat} {ok : Nat → Prop} {v : Value} {xs : List α} (h : HInv w0 W bh bos vN vG vP vA vE vD LA LC s) (hr : d.R e W base ok v xs) (he : e ≠ 104 ∧ e ≠ 107) : some bh ≠ v.ownBlock ∧ ∀ i, i < s.ones.length → some (bos.getD i 0) ≠ v.ownBlock :=
 ⟨Kd.R_ne hr h.hall he.1, fun i hi => Kd.R_ne hr (h.box i hi) he.2⟩
end
theorem set_getD (l : List One) (i j : Nat) (o : One) : (l.set i o).getD j zOne = if j = i ∧ i < l.length then o else l.getD j zOne := by
 rw [List.getD_eq_getElem?_getD, List.getD_eq_getElem?_getD, List.getElem?_set]
 by_cases h : i = j
 ·subst h
  by_cases h2 : i < l.length
  ·simp [h2]
  ·simp [h2]
 ·rw [if_neg h, if_neg (by omega)]
theorem HInv.act {w0 W w1 : World} {bh : Nat} {bos : List Nat} {vN vG vP vA vE : Value} {vD : Nat → Value} {LA : Nat → Option Addr} {LC : Nat → Nat} {s : St} (h : HInv w0 W bh bos vN vG vP vA vE vD LA LC s) {i : Nat} (hi : i < s.ones.length) {v0 v1 v2 : Value} {N' : List S48} {G' P' : List Int} {r4 r5 : Int} {q : Nat}
  (hb : Below W.heap.size W w1) (h0 : Kd.R k48 48 w1 W.heap.size (fun _ => True) v0 N') (h1 : Kd.R (Kd.int .i64) 3 w1 W.heap.size (fun k_ => some k_ ≠ (v2 : Value).ownBlock) v1 G') (h2 : Kd.R (Kd.int .i64) 3 w1 W.heap.size (fun k_ => some k_ ≠ (v1 : Value).ownBlock) v2 P') :
  HInv w0 ((((((w1.setCell ⟨bh, 0, none⟩ v0).setCell ⟨bh, 1, none⟩ v1).setCell ⟨bh, 2, none⟩ v2).setCell ⟨bos.getD i 0, 3, none⟩ (.int .i64 r4)).setCell ⟨bos.getD i 0, 4, none⟩ (.int .i64 r5)).drewN q) bh bos v0 v1 v2 vA vE vD LA LC
   { s with N := N', G := G', P := P', ones := s.ones.set i { s.ones.getD i zOne with g := r4, e := r5 } } := by
 obtain ⟨bo, hbo⟩ : ∃ bo, bo = bos.getD i 0 := ⟨_, rfl⟩
 rw [← hbo]
 have hne := h.ne hi
 rw [← hbo] at hne
 have h' := h.below hb
 have hs := h.bel.size
 have i1 : Mv w1 ((((((w1.setCell ⟨bh, 0, none⟩ v0).setCell ⟨bh, 1, none⟩ v1).setCell ⟨bh, 2, none⟩ v2).setCell ⟨bo, 3, none⟩ (.int .i64 r4)).setCell ⟨bo, 4, none⟩ (.int .i64 r5)).drewN q) [bo, bo, bh, bh, bh] := inferInstance
 have far : ∀ {α : Type} {d : Kd α} {e base : Nat} {ok : Nat → Prop} {v : Value} {xs : List α}, d.R e w1 base ok v xs → e ≠ 104 ∧ e ≠ 107 → ∀ b, b ∈ [bo, bo, bh, bh, bh] → some b ≠ v.ownBlock := by
  intro α d e base ok v xs hr he b hb
  obtain ⟨x, y⟩ := h'.nbox hr he
  have y := y i hi
  rw [← hbo] at y
  simp only [List.mem_cons, List.not_mem_nil, or_false] at hb
  rcases hb with rfl | rfl | rfl | rfl | rfl
  ·exact y
  ·exact y
  ·exact x
  ·exact x
  ·exact x
 have hat : ∀ j, j < s.ones.length → (s.ones.set i { s.ones.getD i zOne with g := r4, e := r5 }).getD j zOne = if j = i then { s.ones.getD i zOne with g := r4, e := r5 } else s.ones.getD j zOne := fun j hj => by
  rw [set_getD]
  by_cases e : j = i
  ·rw [if_pos e, if_pos ⟨e, hi⟩]
  ·rw [if_neg e, if_neg (fun x => e x.1)]
 refine ⟨wX h'.bel i1 (fun b hb => ?_), h.b0, ?_, R_mv (R_tight' rfl (Kd.R_lower h0 hs)) i1 (far h0 (by decide)), R_mv (R_tight' rfl (Kd.R_lower h1 hs)) i1 (far h1 (by decide)), R_mv (R_tight' rfl (Kd.R_lower h2 hs)) i1 (far h2 (by decide)), fun k hk => h1.1 k hk.symm, R_mv h'.e i1 (far h'.e (by decide)), R_mv h'.a i1 (far h'.a (by decide)), by simp [h.len], fun j hj => ?_, fun j hj => ?_, fun j hj => ?_, fun a b ha hb' => ?_, fun a b ha hb' => ?_, fun j hj => ?_⟩
 ·have := h.old i hi
  rw [← hbo] at this
  simp only [List.mem_cons, List.not_mem_nil, or_false] at hb
  rcases hb with rfl | rfl | rfl | rfl | rfl
  ·exact this
  ·exact this
  ·exact h.b0
  ·exact h.b0
  ·exact h.b0
 ·exact blk_drewN (blk_far (blk_far (blk_put (blk_put (blk_put h'.hall 0 v0 rfl) 1 v1 rfl) 2 v2 rfl) hne _) hne _) q
 ·simp only [List.length_set] at hj
  dsimp only
  rw [hat j hj]
  by_cases e : j = i
  ·subst e
   rw [if_pos rfl]
   have hx := h'.box j hj
   rw [← hbo] at hx ⊢
   have hne' : bo ≠ bh := fun e => hne e.symm
   exact blk_drewN (blk_put (blk_put (blk_far (blk_far (blk_far hx hne' _) hne' _) hne' _) 3 _ rfl) 4 _ rfl) q
  ·rw [if_neg e]
   have h3 := h.inj j i hj hi e
   have h4 := fun e => h.ne hj (Eq.symm e)
   rw [← hbo] at h3
   exact blk_drewN (blk_far (blk_far (blk_far (blk_far (blk_far (h'.box j hj) h4 _) h4 _) h4 _) h3 _) h3 _) q
 ·simp only [List.length_set] at hj; exact h.old j hj
 ·simp only [List.length_set] at hj
  dsimp only
  rw [hat j hj]
  have := R_mv (h'.d j hj) i1 (far (h'.d j hj) (by decide))
  by_cases e : j = i
  ·subst e; rw [if_pos rfl]; exact this
  ·rw [if_neg e]; exact this
 ·simp only [List.length_set] at ha hb'; exact h.dd a b ha hb'
 ·simp only [List.length_set] at ha hb'; exact h.inj a b ha hb'
 ·simp only [List.length_set] at hj
  dsimp only
  rw [hat j hj]
  by_cases e : j = i
  ·subst e; rw [if_pos rfl]; exact h.l j hj
  ·rw [if_neg e]; exact h.l j hj
theorem mem_own {v : Value} {b : Nat} (h : b ∈ v.ownBlock.toList) : some b = v.ownBlock := by
 cases hv : v.ownBlock with
 | none => rw [hv] at h; simp at h
 | some k => rw [hv] at h; simp at h; rw [h]
theorem HInv.end_ {w0 W w1 : World} {bh : Nat} {bos : List Nat} {vN vG vP vA vE : Value} {vD : Nat → Value} {LA : Nat → Option Addr} {LC : Nat → Nat} {s : St} (h : HInv w0 W bh bos vN vG vP vA vE vD LA LC s) {i : Nat} (hi : i < s.ones.length) {v1 : Value} {x : S73} {ok : Nat → Prop}
  (h1 : Kd.R k73 73 w1 w0.heap.size ok v1 ((s.ones.getD i zOne).ended ++ [x])) (hg : W.grownBy w1 (vD i).ownBlock) (hv : v1.ownBlock = (vD i).ownBlock ∨ ∃ b, v1.ownBlock = some b ∧ W.heap.size ≤ b) (hb : Below w0.heap.size w0 w1) :
  HInv w0 (w1.setCell ⟨bos.getD i 0, 5, none⟩ v1) bh bos vN vG vP vA vE (fun j => if j = i then v1 else vD j) LA LC
   { s with ones := s.ones.set i { s.ones.getD i zOne with ended := (s.ones.getD i zOne).ended ++ [x] } } := by
 obtain ⟨bo, hbo⟩ : ∃ bo, bo = bos.getD i 0 := ⟨_, rfl⟩
 rw [← hbo]
 have hne := h.ne hi
 rw [← hbo] at hne
 have hbx := h.box i hi
 rw [← hbo] at hbx
 have i0 : Mv W w1 (vD i).ownBlock.toList := Mv.of_grown hg
 have i1 : Mv W (w1.setCell ⟨bo, 5, none⟩ v1) (bo :: (vD i).ownBlock.toList) := inferInstance
 have hdi := h.d i hi
 have far : ∀ {α : Type} {d : Kd α} {e base : Nat} {ok : Nat → Prop} {v : Value} {xs : List α}, d.R e W base ok v xs → e ≠ 104 ∧ e ≠ 107 → (∀ k, some k = v.ownBlock → some k ≠ (vD i).ownBlock) → ∀ b, b ∈ bo :: (vD i).ownBlock.toList → some b ≠ v.ownBlock := by
  intro α d e base ok v xs hr he hn b hb
  have y := (h.nbox hr he).2 i hi
  rw [← hbo] at y
  rcases List.mem_cons.1 hb with rfl | hb
  ·exact y
  ·exact fun e => hn b e (mem_own hb)
 have fbox : ∀ {g t : Nat} {cells : Array Value}, W.heap[g]? = some (.cells cells t (0, 0)) → t ≠ 73 → g ≠ bo → ∀ b, b ∈ bo :: (vD i).ownBlock.toList → g ≠ b := by
  intro g t cells hc ht hgb b hb
  rcases List.mem_cons.1 hb with rfl | hb
  ·exact hgb
  ·intro e
   subst e
   exact Kd.R_ne hdi hc (fun e => ht e.symm) (mem_own hb)
 have hat : ∀ j, j < s.ones.length → (s.ones.set i { s.ones.getD i zOne with ended := (s.ones.getD i zOne).ended ++ [x] }).getD j zOne = if j = i then { s.ones.getD i zOne with ended := (s.ones.getD i zOne).ended ++ [x] } else s.ones.getD j zOne := fun j hj => by
  rw [set_getD]
  by_cases e : j = i
  ·rw [if_pos e, if_pos ⟨e, hi⟩]
  ·rw [if_neg e, if_neg (fun x => e x.1)]
 have hb0 : w0.heap.size ≤ bo := by rw [hbo]; exact h.old i hi
 have b1 : w1.heap[bo]? = _ := blk_mv hbx i0 (fun b hb e => by
  subst e
  exact Kd.R_ne hdi hbx (by decide) (mem_own hb))
 have i2 : Mv w1 (w1.setCell ⟨bo, 5, none⟩ v1) [bo] := inferInstance
 refine ⟨wX hb i2 (fun b hb => ?_), h.b0, blk_mv h.hall i1 (fbox h.hall (by decide) hne), R_mv h.n i1 (far h.n (by decide) (R_apart h.n hdi (by decide))), R_mv h.g i1 (far h.g (by decide) (R_apart h.g hdi (by decide))), R_mv h.p i1 (far h.p (by decide) (R_apart h.p hdi (by decide))), h.gp, R_mv h.e i1 (far h.e (by decide) (R_apart h.e hdi (by decide))), R_mv h.a i1 (far h.a (by decide) (R_apart h.a hdi (by decide))), by simp [h.len], fun j hj => ?_, fun j hj => ?_, fun j hj => ?_, fun a b ha hb' hab k hk => ?_, fun a b ha hb' => ?_, fun j hj => ?_⟩
 ·simp only [List.mem_cons, List.not_mem_nil, or_false] at hb
  rw [hb]; exact hb0
 ·simp only [List.length_set] at hj
  (try dsimp only)
  rw [hat j hj]
  by_cases e : j = i
  ·subst e
   rw [if_pos rfl, if_pos rfl, ← hbo]
   exact blk_put b1 5 v1 rfl
  ·rw [if_neg e, if_neg e]
   have h3 := h.inj j i hj hi e
   rw [← hbo] at h3
   exact blk_mv (h.box j hj) i1 (fbox (h.box j hj) (by decide) h3)
 ·simp only [List.length_set] at hj; exact h.old j hj
 ·simp only [List.length_set] at hj
  (try dsimp only)
  rw [hat j hj]
  by_cases e : j = i
  ·subst e
   rw [if_pos rfl, if_pos rfl]
   exact R_mv (R_tight' rfl h1) i2 (fun b hb => by
    simp only [List.mem_cons, List.not_mem_nil, or_false] at hb
    rw [hb]
    exact Kd.R_ne h1 b1 (by decide))
  ·rw [if_neg e, if_neg e]
   exact R_mv (h.d j hj) i1 (far (h.d j hj) (by decide) (h.dd j i hj hi e))
 ·simp only [List.length_set] at ha hb'
  (try dsimp only at hk ⊢)
  by_cases ea : a = i
  ·rw [if_pos ea] at hk
   rw [if_neg (fun e => hab (ea.trans e.symm))]
   rcases hv with hv | ⟨c, hv, hc⟩
   ·rw [hv] at hk; exact h.dd i b hi hb' (fun e => hab (ea.trans e)) k hk
   ·intro e
    have := R_old (h.d b hb') k e
    rw [hv] at hk
    have := Option.some.inj hk
    omega
  ·rw [if_neg ea] at hk
   by_cases eb : b = i
   ·rw [if_pos eb]
    rcases hv with hv | ⟨c, hv, hc⟩
    ·rw [hv]; exact h.dd a i ha hi ea k hk
    ·intro e
     have := R_old (h.d a ha) k hk
     rw [hv] at e
     have := Option.some.inj e
     omega
   ·rw [if_neg eb]; exact h.dd a b ha hb' hab k hk
 ·simp only [List.length_set] at ha hb'; exact h.inj a b ha hb'
 ·simp only [List.length_set] at hj
  (try dsimp only)
  rw [hat j hj]
  by_cases e : j = i
  ·subst e; rw [if_pos rfl]; exact h.l j hj
  ·rw [if_neg e]; exact h.l j hj
def bump (o : One) : One := if o.st = 2 then { o with at_ := o.at_ + 1, st := 0 } else { o with st := o.st + 1 }
theorem bump_l (o : One) : (bump o).l = o.l ∧ (bump o).ended = o.ended ∧ (bump o).g = o.g ∧ (bump o).e = o.e := by
 unfold bump
 split <;> exact ⟨rfl, rfl, rfl, rfl⟩
theorem HInv.fin {w0 w2 w3 w' : World} {bh : Nat} {bos : List Nat} {vN vG vP vA vE : Value} {vD : Nat → Value} {LA : Nat → Option Addr} {LC : Nat → Nat} {s : St} (h : HInv w0 w2 bh bos vN vG vP vA vE vD LA LC s) {i : Nat} (hi : i < s.ones.length) {v1 : Value} {x : S68} {ok : Nat → Prop} {q : Nat}
  (h1 : Kd.R k68 68 w3 w0.heap.size ok v1 (s.ev ++ [x])) (hb : Below w0.heap.size w0 w3) (hg : w2.grownBy w3 vE.ownBlock)
  (hw : w' = if (s.ones.getD i zOne).st = 2 then ((((w3.setCell ⟨bh, 4, none⟩ v1).setCell ⟨bos.getD i 0, 2, none⟩ (.int .i64 3)).setCell ⟨bos.getD i 0, 1, none⟩ (.int .i64 (((s.ones.getD i zOne).at_ : Int) + 1))).setCell ⟨bos.getD i 0, 2, none⟩ (.int .i64 0)).drewN q
   else ((w3.setCell ⟨bh, 4, none⟩ v1).setCell ⟨bos.getD i 0, 2, none⟩ (.int .i64 (((s.ones.getD i zOne).st : Int) + 1))).drewN q) :
  HInv w0 w' bh bos vN vG vP vA v1 vD LA LC { s with ev := s.ev ++ [x], ones := s.ones.set i (bump (s.ones.getD i zOne)) } := by
 obtain ⟨bo, hbo⟩ : ∃ bo, bo = bos.getD i 0 := ⟨_, rfl⟩
 rw [← hbo] at hw
 have hne := h.ne hi
 rw [← hbo] at hne
 have hbx := h.box i hi
 rw [← hbo] at hbx
 have i0 : Mv w2 w3 vE.ownBlock.toList := Mv.of_grown hg
 have he := h.e
 have hb0 : w0.heap.size ≤ bo := by rw [hbo]; exact h.old i hi
 have nbE : ∀ {g t : Nat} {cells : Array Value}, w2.heap[g]? = some (.cells cells t (0, 0)) → t ≠ 68 → ∀ b, b ∈ vE.ownBlock.toList → g ≠ b := by
  intro g t cells hc ht b hb e
  subst e
  exact Kd.R_ne he hc (fun e => ht e.symm) (mem_own hb)
 have c0 : w3.heap[bh]? = _ := blk_mv h.hall i0 (nbE h.hall (by decide))
 have b1 : w3.heap[bo]? = _ := blk_mv hbx i0 (nbE hbx (by decide))
 have hl := h.l
 have main : ∃ bs, Mv w3 w' bs ∧ (∀ b, b ∈ bs → b = bh ∨ b = bo) ∧ HBox w' bh vN vG vP vA v1 ∧ OBox w' bo (LA i) (s.ones.getD i zOne).l.length (LC i) (bump (s.ones.getD i zOne)).at_ (bump (s.ones.getD i zOne)).st (s.ones.getD i zOne).g (s.ones.getD i zOne).e (vD i) := by
  have hne2 : bo ≠ bh := fun e => hne e.symm
  by_cases hst : (s.ones.getD i zOne).st = 2
  ·rw [if_pos hst] at hw
   refine ⟨[bo, bo, bo, bh], by rw [hw]; exact inferInstance, fun b hb => ?_, ?_, ?_⟩
   ·simp only [List.mem_cons, List.not_mem_nil, or_false] at hb
    omega
   ·rw [hw]; exact blk_drewN (blk_far (blk_far (blk_far (blk_put c0 4 v1 rfl) hne _) hne _) hne _) q
   ·rw [hw]
    unfold bump
    rw [if_pos hst]
    exact blk_drewN (blk_put (blk_put (blk_put (blk_far b1 hne2 _) 2 _ rfl) 1 _ rfl) 2 _ rfl) q
  ·rw [if_neg hst] at hw
   refine ⟨[bo, bh], by rw [hw]; exact inferInstance, fun b hb => ?_, ?_, ?_⟩
   ·simp only [List.mem_cons, List.not_mem_nil, or_false] at hb
    omega
   ·rw [hw]; exact blk_drewN (blk_far (blk_put c0 4 v1 rfl) hne _) q
   ·rw [hw]
    unfold bump
    rw [if_neg hst]
    exact blk_drewN (blk_put (blk_far b1 hne2 _) 2 _ rfl) q
 obtain ⟨bs, i1, hbs, hh, hob⟩ := main
 have far : ∀ {α : Type} {d : Kd α} {e base : Nat} {ok : Nat → Prop} {v : Value} {xs : List α}, d.R e w2 base ok v xs → e ≠ 104 ∧ e ≠ 107 → ∀ b, b ∈ bs → some b ≠ v.ownBlock := by
  intro α d e base ok v xs hr he b hb
  obtain ⟨x, y⟩ := h.nbox hr he
  have y := y i hi
  rw [← hbo] at y
  rcases hbs b hb with rfl | rfl
  ·exact x
  ·exact y
 have mvR : ∀ {α : Type} {d : Kd α} {e : Nat} {v : Value} {xs : List α}, d.R e w2 w0.heap.size (tight v) v xs → e ≠ 104 ∧ e ≠ 107 → e ≠ 68 → d.R e w' w0.heap.size (tight v) v xs := by
  intro α d e v xs hr he h68
  exact R_mv (R_mv hr i0 (fun b hb e' => R_apart hr h.e h68 b e' (mem_own hb))) i1 (far hr he)
 have hat : ∀ j, j < s.ones.length → (s.ones.set i (bump (s.ones.getD i zOne))).getD j zOne = if j = i then bump (s.ones.getD i zOne) else s.ones.getD j zOne := fun j hj => by
  rw [set_getD]
  by_cases e : j = i
  ·rw [if_pos e, if_pos ⟨e, hi⟩]
  ·rw [if_neg e, if_neg (fun x => e x.1)]
 obtain ⟨q1, q2, q3, q4⟩ := bump_l (s.ones.getD i zOne)
 refine ⟨wX hb i1 (fun b hb => by rcases hbs b hb with rfl | rfl; exact h.b0; exact hb0), h.b0, hh, mvR h.n (by decide) (by decide), mvR h.g (by decide) (by decide), mvR h.p (by decide) (by decide), h.gp, R_mv (R_tight' rfl h1) i1 (fun b hb => ?_), mvR h.a (by decide) (by decide), by simp [h.len], fun j hj => ?_, fun j hj => ?_, fun j hj => ?_, fun a b ha hb' hab k hk => ?_, fun a b ha hb' => ?_, fun j hj => ?_⟩
 ·rcases hbs b hb with rfl | rfl
  ·exact Kd.R_ne h1 c0 (by decide)
  ·exact Kd.R_ne h1 b1 (by decide)
 ·simp only [List.length_set] at hj
  (try dsimp only)
  rw [hat j hj]
  by_cases e : j = i
  ·subst e
   rw [if_pos rfl, ← hbo, q1, q3, q4]
   exact hob
  ·rw [if_neg e]
   have h3 := h.inj j i hj hi e
   rw [← hbo] at h3
   have h4 := fun e => h.ne hj (Eq.symm e)
   exact blk_mv (blk_mv (h.box j hj) i0 (nbE (h.box j hj) (by decide))) i1 (fun b hb => by rcases hbs b hb with rfl | rfl; exact h4; exact h3)
 ·simp only [List.length_set] at hj; exact h.old j hj
 ·simp only [List.length_set] at hj
  (try dsimp only)
  rw [hat j hj]
  have := mvR (h.d j hj) (by decide) (by decide)
  by_cases e : j = i
  ·subst e; rw [if_pos rfl, q2]; exact this
  ·rw [if_neg e]; exact this
 ·simp only [List.length_set] at ha hb'; exact h.dd a b ha hb' hab k hk
 ·simp only [List.length_set] at ha hb'; exact h.inj a b ha hb'
 ·simp only [List.length_set] at hj
  (try dsimp only)
  rw [hat j hj]
  by_cases e : j = i
  ·subst e; rw [if_pos rfl, q1]; exact h.l j hj
  ·rw [if_neg e]; exact h.l j hj
end Go.Proofs.Ytkidnomkfdnciaa.All
namespace Go.Proofs.Ytkidnomkfdnciaa.All
open Go.RowKit Go.Proofs.Ytkidnomkfdnciaa.Pure Go.Proofs.YtkidnomkfdnciaaW.PrintWords Go.Proofs.YtkidnomkfdnciaaW.PrintLast Go.Proofs.YtkidnomkfdnciaaW.PrintMore
set_option linter.unusedVariables false
set_option linter.unusedSimpArgs false
section
variable {w W W' w1 w2 w3 : World} {AN AG AP A1 : Option Addr} {cN cG cP c1 : Nat} {N : List S48} {G P : List Int} {l : List S76} {vO vO' : Value} {out out' : List S73} {bs : List Nat}
def ownA (b : Nat) (vO : Value) (k : Nat) : Prop := k = b ∨ k = b + 1 ∨ some k = vO.ownBlock
structure ABox (w W : World) (AN : Option Addr) (cN : Nat) (N : List S48) (AG : Option Addr) (cG : Nat) (G : List Int) (AP : Option Addr) (cP : Nat) (P : List Int) (vO : Value) (out : List S73) : Prop where
 bel : Below w.heap.size w W
 box : MBox W w.heap.size AN cN N AG cG G AP cP P
 res : W.heap[w.heap.size + 1]? = some (.cells #[.slice none 0 0, .slice none 0 0, .slice none 0 0] 38 (0, 0))
 mem : MemoAt W AN cN N AG cG G AP cP P
 off : MOff AN N AG G AP P (ownA w.heap.size vO)
 out : Kd.R k73 73 W w.heap.size (tight vO) vO out
theorem ABox.below (h : ABox w W AN cN N AG cG G AP cP P vO out) (hb : Below W.heap.size W W') : ABox w W' AN cN N AG cG G AP cP P vO out :=
 ⟨below_then h.bel h.bel.size hb, h.box.below hb, blk_below h.res hb, h.mem.below hb, h.off, Kd.R_below h.out hb⟩
theorem ABox.new (h : MemoAt w AN cN N AG cG G AP cP P) : ABox w ((w.alloc (.cells #[.slice AN N.length cN, .slice AG G.length cG, .slice AP P.length cP] 38)).alloc (.cells #[.slice none 0 0, .slice none 0 0, .slice none 0 0] 38)) AN cN N AG cG G AP cP P (.slice none 0 0) [] := by
 obtain ⟨hx, hz, hb⟩ := res_new w AN cN N AG cG G AP cP P
 refine ⟨hb, hx, hz, h.below hb, h.lt.mono (fun k hk => ?_), Kd.R_nil _ _ _ _ _⟩
 rcases hk with rfl | rfl | hk
 ·exact Nat.le_refl _
 ·exact Nat.le_succ _
 ·cases hk
theorem own_lt {α : Type} {d : Kd α} {e base k : Nat} {ok : Nat → Prop} {v : Value} {xs : List α} (h : d.R e W base ok v xs) (hk : some k = v.ownBlock) : k < W.heap.size := by
 obtain ⟨i, o⟩ := Kd.R_own h
 obtain ⟨c, hc⟩ := own_typed o k hk.symm
 exact blk_lt hc
structure AMid (w W : World) (gp gq : Nat) (AN : Option Addr) (cN : Nat) (N : List S48) (AG : Option Addr) (cG : Nat) (G : List Int) (AP : Option Addr) (cP : Nat) (P : List Int) (x y : Int) (vO : Value) (out : List S73) : Prop where
 bel : Below w.heap.size w W
 box : ∃ a b c, W.heap[w.heap.size]? = some (.cells #[a, b, c] 38 (0, 0))
 res : W.heap[w.heap.size + 1]? = some (.cells #[.slice none 0 0, .slice none 0 0, .slice none 0 0] 38 (0, 0))
 hp : MBox W gp AN cN N AG cG G AP cP P
 hq : W.heap[gq]? = some (.cells #[.int .i64 x, .int .i64 y] 73 (0, 0))
 mem : MemoAt W AN cN N AG cG G AP cP P
 off : MOff AN N AG G AP P (ownA w.heap.size vO)
 out : Kd.R k73 73 W w.heap.size (tight vO) vO out
 ne : w.heap.size + 1 < gq
theorem ABox.mid {s : Option Addr × Nat × Option Addr × Nat × Option Addr × Nat} {c : S76} {gp gq : Nat} (h : ABox w W AN cN N AG cG G AP cP P vO out) (q1 : Below W.heap.size W w1) (q2 : Did N G P AN AG AP c s w1 w2) (q3 : Below w1.heap.size w1 w2) (q4 : Below w2.heap.size w2 w3)
  (q5 : w3.heap[gp]? = some (.cells #[.slice none 0 0, .slice none 0 0, .slice none 0 0] 38)) (q6 : w3.heap[gq]? = some (.cells #[.int .i64 0, .int .i64 0] 73)) (q7 : gp ≠ gq) (q8 : W.heap.size ≤ gp) (q9 : W.heap.size ≤ gq) (q10 : gp < w1.heap.size ∨ w2.heap.size ≤ gp) (q11 : gq < w1.heap.size ∨ w2.heap.size ≤ gq) :
  AMid w (((((w3.setCell ⟨gp, 0, none⟩ (.slice s.1 (doT N G P c).1.length s.2.1)).setCell ⟨gp, 1, none⟩ (.slice s.2.2.1 (doT N G P c).2.1.length s.2.2.2.1)).setCell ⟨gp, 2, none⟩ (.slice s.2.2.2.2.1 (doT N G P c).2.2.1.length s.2.2.2.2.2)).setCell ⟨gq, 0, none⟩ (.int .i64 (doT N G P c).2.2.2.1)).setCell ⟨gq, 1, none⟩ (.int .i64 (doT N G P c).2.2.2.2)) gp gq
   s.1 s.2.1 (doT N G P c).1 s.2.2.1 s.2.2.2.1 (doT N G P c).2.1 s.2.2.2.2.1 s.2.2.2.2.2 (doT N G P c).2.2.1 (doT N G P c).2.2.2.1 (doT N G P c).2.2.2.2 vO out := by
 obtain ⟨F, hF⟩ : ∃ F, F = ((((w3.setCell ⟨gp, 0, none⟩ (.slice s.1 (doT N G P c).1.length s.2.1)).setCell ⟨gp, 1, none⟩ (.slice s.2.2.1 (doT N G P c).2.1.length s.2.2.2.1)).setCell ⟨gp, 2, none⟩ (.slice s.2.2.2.2.1 (doT N G P c).2.2.1.length s.2.2.2.2.2)).setCell ⟨gq, 0, none⟩ (.int .i64 (doT N G P c).2.2.2.1)).setCell ⟨gq, 1, none⟩ (.int .i64 (doT N G P c).2.2.2.2) := ⟨_, rfl⟩
 rw [← hF]
 have i : Mv w3 F [gq, gq, gp, gp, gp] := by rw [hF]; infer_instance
 have hb3 : Below W.heap.size W w3 := (q1.trans (q3.mono q1.size)).trans (q4.mono (Nat.le_trans q1.size q3.size))
 have h3 := h.below hb3
 have s1 := blk_lt h.res
 have mem5 : ∀ b, b ∈ [gq, gq, gp, gp, gp] → b = gq ∨ b = gp := fun b hb => by simp at hb; omega
 have fresh : ∀ b, b ∈ [gq, gq, gp, gp, gp] → w.heap.size + 1 < b := fun b hb => by rcases mem5 b hb with rfl | rfl <;> omega
 have off : MOff s.1 (doT N G P c).1 s.2.2.1 (doT N G P c).2.1 s.2.2.2.2.1 (doT N G P c).2.2.1 (fun k => ownA w.heap.size vO k ∨ k = gp ∨ k = gq) := by
  refine q2.off ?_ (fun k k1 k2 hk => ?_)
  ·have o1 := h.off
   have o2 := h.mem.lt
   exact ⟨fun hn ad e hk => hk.elim (o1.n hn ad e) (fun hk => o2.n hn ad e (by omega)), fun hn ad e hk => hk.elim (o1.g hn ad e) (fun hk => o2.g hn ad e (by omega)), fun hn ad e hk => hk.elim (o1.p hn ad e) (fun hk => o2.p hn ad e (by omega))⟩
  ·have := q1.size
   rcases hk with (rfl | rfl | hk) | rfl | rfl
   ·omega
   ·omega
   ·have := own_lt h.out hk; omega
   ·omega
   ·omega
 have vne : ∀ b, b ∈ [gq, gq, gp, gp, gp] → some b ≠ vO.ownBlock := fun b hb e => by
  have := own_lt h.out e
  rcases mem5 b hb with rfl | rfl <;> omega
 refine ⟨wX h3.bel i (fun b hb => by have := fresh b hb; omega), ⟨_, _, _, blk_mv h3.box i (fun b hb => by have := fresh b hb; omega)⟩, blk_mv h3.res i (fun b hb => by have := fresh b hb; omega), ?_, ?_, (q2.m.below q4).mv i (off.mono (fun k hk => (mem5 k hk).elim (fun e => .inr (.inr e)) (fun e => .inr (.inl e)))), off.mono (fun k hk => .inl hk), R_mv h3.out i vne, by omega⟩
 ·rw [hF]
  exact (Below.heap_setCell _ _ _ _ q7).trans ((Below.heap_setCell _ _ _ _ q7).trans (blk_put (blk_put (blk_put q5 0 _ rfl) 1 _ rfl) 2 _ rfl))
 ·rw [hF]
  exact blk_put (blk_put ((Below.heap_setCell _ _ _ _ q7.symm).trans ((Below.heap_setCell _ _ _ _ q7.symm).trans ((Below.heap_setCell _ _ _ _ q7.symm).trans q6))) 0 _ rfl) 1 _ rfl
theorem AMid.put {gp gq : Nat} {x y : Int} (h : AMid w W gp gq AN cN N AG cG G AP cP P x y vO out) :
  ABox w (((W.setCell ⟨w.heap.size, 0, none⟩ (.slice AN N.length cN)).setCell ⟨w.heap.size, 1, none⟩ (.slice AG G.length cG)).setCell ⟨w.heap.size, 2, none⟩ (.slice AP P.length cP)) AN cN N AG cG G AP cP P vO out ∧
  (((W.setCell ⟨w.heap.size, 0, none⟩ (.slice AN N.length cN)).setCell ⟨w.heap.size, 1, none⟩ (.slice AG G.length cG)).setCell ⟨w.heap.size, 2, none⟩ (.slice AP P.length cP)).heap[gq]? = some (.cells #[.int .i64 x, .int .i64 y] 73 (0, 0)) := by
 obtain ⟨a, b, c, hbx⟩ := h.box
 obtain ⟨F, hF⟩ : ∃ F, F = ((W.setCell ⟨w.heap.size, 0, none⟩ (.slice AN N.length cN)).setCell ⟨w.heap.size, 1, none⟩ (.slice AG G.length cG)).setCell ⟨w.heap.size, 2, none⟩ (.slice AP P.length cP) := ⟨_, rfl⟩
 rw [← hF]
 have i : Mv W F [w.heap.size, w.heap.size, w.heap.size] := by rw [hF]; infer_instance
 have m3 : ∀ b, b ∈ [w.heap.size, w.heap.size, w.heap.size] → b = w.heap.size := fun b hb => by simp at hb; exact hb
 have := h.ne
 refine ⟨⟨wX h.bel i (fun b hb => by rw [m3 b hb]; exact Nat.le_refl _), ?_, blk_mv h.res i (fun b hb => by rw [m3 b hb]; omega), h.mem.mv i (h.off.mono (fun k hk => .inl (m3 k hk))), h.off, R_mv h.out i (fun b hb => by rw [m3 b hb]; exact Kd.R_ne h.out hbx (by decide))⟩, blk_mv h.hq i (fun b hb => by rw [m3 b hb]; omega)⟩
 rw [hF]
 exact blk_put (blk_put (blk_put hbx 0 _ rfl) 1 _ rfl) 2 _ rfl
theorem ABox.grow (h : ABox w W AN cN N AG cG G AP cP P vO out) (h1 : Kd.R k73 73 W' w.heap.size (fun _ => True) vO' out') (h2 : Below w.heap.size w W') (h3 : W.grownBy W' vO.ownBlock) (h4 : vO'.ownBlock = vO.ownBlock ∨ ∃ b, vO'.ownBlock = some b ∧ W.heap.size ≤ b) : ABox w W' AN cN N AG cG G AP cP P vO' out' := by
 have i : Mv W W' vO.ownBlock.toList := Mv.of_grown h3
 have o2 := h.mem.lt
 refine ⟨h2, blk_grown h.box h3 (Kd.R_ne h.out h.box (by decide)), blk_grown h.res h3 (Kd.R_ne h.out h.res (by decide)), h.mem.mv i (h.off.mono (fun k hk => .inr (.inr (mem_own hk)))), ?_, R_tight' rfl h1⟩
 have up : ∀ k, ownA w.heap.size vO' k → ownA w.heap.size vO k ∨ W.heap.size ≤ k := fun k hk => by
  rcases hk with hk | hk | hk
  ·exact .inl (.inl hk)
  ·exact .inl (.inr (.inl hk))
  ·rcases h4 with h4 | ⟨b, h4, hb⟩
   ·exact .inl (.inr (.inr (hk.trans h4)))
   ·rw [h4] at hk; cases hk; exact .inr hb
 exact ⟨fun hn ad e hk => (up _ hk).elim (h.off.n hn ad e) (o2.n hn ad e), fun hn ad e hk => (up _ hk).elim (h.off.g hn ad e) (o2.g hn ad e), fun hn ad e hk => (up _ hk).elim (h.off.p hn ad e) (o2.p hn ad e)⟩
theorem ABox.last {A3 : Option Addr} {c3 : Nat} (h : ABox w W AN cN N AG cG G AP cP P (.slice A3 out.length c3) out) :
  MemoAt (((W.setCell ⟨w.heap.size + 1, 0, none⟩ (.slice AN N.length cN)).setCell ⟨w.heap.size + 1, 1, none⟩ (.slice AG G.length cG)).setCell ⟨w.heap.size + 1, 2, none⟩ (.slice AP P.length cP)) AN cN N AG cG G AP cP P ∧
  (k73.C (((W.setCell ⟨w.heap.size + 1, 0, none⟩ (.slice AN N.length cN)).setCell ⟨w.heap.size + 1, 1, none⟩ (.slice AG G.length cG)).setCell ⟨w.heap.size + 1, 2, none⟩ (.slice AP P.length cP)) A3 out.length out ∧ out.length ≤ c3) ∧
  Below w.heap.size w (((W.setCell ⟨w.heap.size + 1, 0, none⟩ (.slice AN N.length cN)).setCell ⟨w.heap.size + 1, 1, none⟩ (.slice AG G.length cG)).setCell ⟨w.heap.size + 1, 2, none⟩ (.slice AP P.length cP)) := by
 obtain ⟨F, hF⟩ : ∃ F, F = ((W.setCell ⟨w.heap.size + 1, 0, none⟩ (.slice AN N.length cN)).setCell ⟨w.heap.size + 1, 1, none⟩ (.slice AG G.length cG)).setCell ⟨w.heap.size + 1, 2, none⟩ (.slice AP P.length cP) := ⟨_, rfl⟩
 rw [← hF]
 have i : Mv W F [w.heap.size + 1, w.heap.size + 1, w.heap.size + 1] := by rw [hF]; infer_instance
 have m3 : ∀ b, b ∈ [w.heap.size + 1, w.heap.size + 1, w.heap.size + 1] → b = w.heap.size + 1 := fun b hb => by simp at hb; exact hb
 have hr := R_mv h.out i (fun b hb => by rw [m3 b hb]; exact Kd.R_ne h.out h.res (by decide))
 exact ⟨h.mem.mv i (h.off.mono (fun k hk => .inr (.inl (m3 k hk)))), ⟨(Kd.R_reads' hr).2.2, (Kd.R_reads' hr).2.1⟩, wX h.bel i (fun b hb => by rw [m3 b hb]; exact Nat.le_succ _)⟩
set_option maxHeartbeats 16000000 in
set_option maxRecDepth 100000 in
theorem rall_at {R : List S48 × List Int × List Int × List S73} (h : MemoAt w AN cN N AG cG G AP cP P) (hl : k76.C w A1 l.length l) (hc : l.length ≤ c1) (hb : l.length ≤ 1000) (hR : R = allT N G P l) :
  Calls Try.prog 69 #[.agg #[.slice AN N.length cN, .slice AG G.length cG, .slice AP P.length cP], .slice A1 l.length c1] w fun e w' => ∃ A0 c0 A1 c1 A2 c2 A3 c3, e = .returned (.tuple #[.agg #[.slice A0 R.1.length c0, .slice A1 R.2.1.length c1, .slice A2 R.2.2.1.length c2], .slice A3 R.2.2.2.length c3]) ∧ MemoAt w' A0 c0 R.1 A1 c1 R.2.1 A2 c2 R.2.2.1 ∧ (Kd.C k73 w' A3 R.2.2.2.length R.2.2.2 ∧ R.2.2.2.length ≤ c3) ∧ Below w.heap.size w w' := by
 have HA := Aside0.mk (ABox.new h)
 have HL := Aside0.mk hl
 have HBd := Aside0.mk hb
 have HR := Aside0.mk hR
 have hmax : l.length ≤ 9223372036854775807 := by omega
 clear h hl hc hb hR
 go_enter Try.func69, Try.ntmps69
 go_wp2
 go_loopw [6, 7] (fun vO i wr => ∃ j : Nat, j ≤ l.length ∧ i = .int .i64 j ∧ ∃ (AN : Option Addr) (cN : Nat) (N : List S48) (AG : Option Addr) (cG : Nat) (G : List Int) (AP : Option Addr) (cP : Nat) (P : List Int) (out : List S73), Aside0 (ABox w wr AN cN N AG cG G AP cP P vO out) ∧ Aside0 (R = ((allT N G P (l.drop j)).1, (allT N G P (l.drop j)).2.1, (allT N G P (l.drop j)).2.2.1, out ++ (allT N G P (l.drop j)).2.2.2) ∧ out.length = j)) (fun _ i _ => l.length - (intOf i).toNat)
 case atStart => exact ⟨0, Nat.zero_le _, rfl, _, _, _, _, _, _, _, _, _, _, HA, ⟨by rw [HR.out]; rfl, rfl⟩⟩
 case round =>
  clear HA HR
  obtain ⟨j, hj, rfl, AN, cN, N, AG, cG, G, AP, cP, P, out, HA, HQ⟩ := hrel
  by_cases hlt : j < l.length
  ·obtain ⟨ha0, ha1, ha2⟩ := HA.out.box.cells
   obtain ⟨ad, e1, hx0, hx1, hx2, hx3, hx4, hx5, hx6⟩ := at_T76 (Kd.C_below HL.out HA.out.bel) (j : Int) (by omega) (by omega)
   subst e1
   simp only [Int.toNat_natCast] at hx0 hx1 hx2 hx3 hx4 hx5 hx6
   obtain ⟨c, hcd⟩ : ∃ c, c = rd_T76 l (j : Int) := ⟨_, rfl⟩
   rw [← hcd] at hx0 hx1 hx2 hx3 hx4 hx5 hx6
   have HX := Aside0.mk (And.intro hx0 (And.intro hx1 (And.intro hx2 (And.intro hx3 (And.intro hx4 (And.intro hx5 hx6))))))
   have HCD := Aside0.mk hcd
   clear hx0 hx1 hx2 hx3 hx4 hx5 hx6 hcd
   go_wp2
   clear ha0 ha1 ha2
   refine start_ (n := 13) (S := fun w' => Below wr.drew.heap.size wr.drew w') (ds := [11, 12]) #[false, false, false, false, false, false, false, false, false, false, false, false, false] (by kernel_rfl) rfl rfl (Below.refl _ _) (fun _ => ?_)
   have HAd := Aside0.mk (HA.out.below (below_drew (Below.refl _ _)))
   have HXd := Aside0.mk (fun (w' : World) (hs : Below wr.drew.heap.size wr.drew w') => And.intro (pw_cell_below hs HX.out.1) (And.intro (pw_cell_below hs HX.out.2.1) (And.intro (pw_cell_below hs HX.out.2.2.1) (And.intro (pw_cell_below hs HX.out.2.2.2.1) (And.intro (pw_cell_below hs HX.out.2.2.2.2.1) (And.intro (pw_cell_below hs HX.out.2.2.2.2.2.1) (pw_cell_below hs HX.out.2.2.2.2.2.2)))))))
   clear HA HX
   refine take_ (i := 0) (N := some 17) (v := ?_) (a' := ?_) #[true, false, false, false, false, false, false, false, false, false, false, false, false] rfl rfl (by kernel_rfl) (fun _ _ _ h => h) (Or.inl ⟨by rfl, ?_⟩) (Below.refl _ _) ?_ ?_
   rotate_left
   ·intro w' hs; obtain ⟨s0, s1, s2⟩ := (HAd.out.below hs).box.cells; clear hs; go_simp; with_reducible rfl
   rotate_left
   ·simp only [Act.put, List.setIfInBounds_toArray, List.set_cons_zero, List.set_cons_succ, i64_w, i32_w]; rfl
   refine pure_ (i := 1) (N := some 18) (v := ?_) (a' := ?_) #[true, true, false, false, false, false, false, false, false, false, false, false, false] rfl rfl (by kernel_rfl) (fun _ _ _ h => h) (Or.inl ⟨by rfl, ?_⟩) ?_ ?_
   rotate_left
   ·intro w'; go_simp; with_reducible rfl
   rotate_left
   ·simp only [Act.put, List.setIfInBounds_toArray, List.set_cons_zero, List.set_cons_succ, i64_w, i32_w]; rfl
   refine pure_ (i := 2) (N := some 19) (v := ?_) (a' := ?_) #[true, true, true, false, false, false, false, false, false, false, false, false, false] rfl rfl (by kernel_rfl) (fun _ _ _ h => h) (Or.inl ⟨by rfl, ?_⟩) ?_ ?_
   rotate_left
   ·intro w'; go_simp; with_reducible rfl
   rotate_left
   ·simp only [Act.put, List.setIfInBounds_toArray, List.set_cons_zero, List.set_cons_succ, i64_w, i32_w]; rfl
   refine pure_ (i := 3) (N := some 20) (v := ?_) (a' := ?_) #[true, true, true, true, false, false, false, false, false, false, false, false, false] rfl rfl (by kernel_rfl) (fun _ _ _ h => h) (Or.inl ⟨by rfl, ?_⟩) ?_ ?_
   rotate_left
   ·intro w'; go_simp; with_reducible rfl
   rotate_left
   ·simp only [Act.put, List.setIfInBounds_toArray, List.set_cons_zero, List.set_cons_succ, i64_w, i32_w]; rfl
   refine take_ (i := 4) (N := some 21) (v := ?_) (a' := ?_) #[true, true, true, true, true, false, false, false, false, false, false, false, false] rfl rfl (by kernel_rfl) (fun _ _ _ h => h) (Or.inl ⟨by rfl, ?_⟩) (Below.refl _ _) ?_ ?_
   rotate_left
   ·intro w' hs; obtain ⟨s0, s1, s2, s3, s4, s5, s6⟩ := HXd.out _ hs; clear hs; go_simp; with_reducible rfl
   rotate_left
   ·simp only [Act.put, List.setIfInBounds_toArray, List.set_cons_zero, List.set_cons_succ, i64_w, i32_w]; rfl
   refine QR.do3 (va := didA N G P c) (vb := fun _ => didB N G P c) (G := Did N G P AN AG AP c) (w0 := wr.drew) (fuel := 2) (c := 5) (m := 6) (x := 7) (y := 8) (p := 9) (q := 10) (N := 22) (M := 16) (X := 23) (Y := 24) (TP := 8) (TQ := 9)
    (args := #[.agg #[.slice AN N.length cN, .slice AG G.length cG, .slice AP P.length cP], .agg #[.int .i64 c.f0, .bool c.f1.f0, .int .i64 c.f1.f1, .int .i64 c.f1.f2, .int .i64 c.f1.f3, .int .i64 c.f2, .int .i64 c.f3]])
    Try.func64 (by kernel_rfl) rfl rfl rfl rfl rfl ⟨⟨_, rfl, rfl, rfl, rfl⟩, ⟨_, rfl, rfl, rfl, rfl⟩, ⟨_, rfl, rfl, rfl, rfl⟩⟩ ⟨_, rfl, rfl, rfl, fun ev w => run_alloc38 ev w _ _ _⟩ ⟨_, rfl, rfl, rfl, fun ev w => run_alloc73 ev w _ _ _⟩
    (by refine ⟨?_, ?_, ?_⟩ <;> simp) (by decide) (by decide) (by decide) (by decide) (by simp only [Act.put, List.setIfInBounds_toArray, List.set_cons_zero, List.set_cons_succ, List.map_toArray, List.map_cons, List.map_nil]; rfl) (fun u => by simp only [Act.put, List.setIfInBounds_toArray, List.set_cons_zero, List.set_cons_succ, List.map_toArray, List.map_cons, List.map_nil]; rfl) (fun u => by simp only [Act.put, List.setIfInBounds_toArray, List.set_cons_zero, List.set_cons_succ, List.map_toArray, List.map_cons, List.map_nil]; rfl) (fun u v => by simp only [Act.put, List.setIfInBounds_toArray, List.set_cons_zero, List.set_cons_succ, List.map_toArray, List.map_cons, List.map_nil]; rfl) (by kernel_rfl) (fun _ _ _ _ _ h => h)
    (fun W1 hb => rdo_did c (HAd.out.below hb).mem) (Below.refl _ _) ?_
   intro s gp gq v1 v2 v3 q1 q2 q3 q4 q5 q6 q7 q8 q9 q10 q11
   have HM := Aside0.mk (HAd.out.mid q1 q2 q3 q4 q5 q6 q7 q8 q9 q10 q11)
   obtain ⟨hs0, hs1, hs2, hf0, hf1, hf2⟩ := bk3 q5
   obtain ⟨hi0, hi1, hg0, hg1⟩ := bk2 q6
   have q7' := q7.symm
   clear HAd HXd q1 q2 q3 q4 q5 q6 q8 q9 q10 q11
   rw [show QR.L3 #[true, true, true, true, true, false, false, false, false, false, false, false, false] [5, 6, 7, 8, 9, 10] = #[true, true, true, true, true, true, true, true, true, true, true, false, false] from rfl]
   refine norm_ (a' := ?_) ?_ ?_
   rotate_left
   ·simp only [QR.fill, QR.ptr, Act.put, List.setIfInBounds_toArray, List.set_cons_zero, List.set_cons_succ]; rfl
   unfold didA didB at *
   refine last_ (i := 11) (N := none) #[true, true, true, true, true, true, true, true, true, true, true, true, false] rfl rfl (by kernel_rfl) (by decide) (fun K hK => ?_)
   refine skip_ (w1 := ?_) (by rfl) rfl ?_ ?_
   rotate_left
   ·go_simp; rfl
   refine hK.out _ _ ?_
   clear hK K
   refine last_ (i := 12) (N := none) #[true, true, true, true, true, true, true, true, true, true, true, true, true] rfl rfl (by kernel_rfl) (by decide) (fun K hK => ?_)
   refine skip_ (w1 := ?_) (by rfl) rfl ?_ ?_
   rotate_left
   ·go_simp; rfl
   refine hK.out _ _ ?_
   clear hK K
   refine done_ (by kernel_rfl) ?_
   obtain ⟨v4, hv4⟩ : ∃ F, F = ((((v3.setCell ⟨gp, 0, none⟩ (.slice s.1 (doT N G P c).1.length s.2.1)).setCell ⟨gp, 1, none⟩ (.slice s.2.2.1 (doT N G P c).2.1.length s.2.2.2.1)).setCell ⟨gp, 2, none⟩ (.slice s.2.2.2.2.1 (doT N G P c).2.2.1.length s.2.2.2.2.2)).setCell ⟨gq, 0, none⟩ (.int .i64 (doT N G P c).2.2.2.1)).setCell ⟨gq, 1, none⟩ (.int .i64 (doT N G P c).2.2.2.2) := ⟨_, rfl⟩
   rw [← hv4] at HM ⊢
   have hq := HQ.out.1
   rw [List.drop_eq_getElem_cons hlt, show l[j] = c by rw [HCD.out]; simp [rd_T76, List.getD_eq_getElem?_getD, List.getElem?_eq_getElem hlt], allT] at hq
   obtain ⟨sA, sc, sB, sd, sC, se⟩ := s
   obtain ⟨⟨N1, G1, P1, x, y⟩, hd⟩ : ∃ r, r = doT N G P c := ⟨_, rfl⟩
   rw [← hd] at HM hq ⊢
   dsimp only at HM hq ⊢
   have HQ1 := Aside0.mk (show R = ((allT N1 G1 P1 (l.drop (j + 1))).1, (allT N1 G1 P1 (l.drop (j + 1))).2.1, (allT N1 G1 P1 (l.drop (j + 1))).2.2.1, (out ++ [(⟨x, y⟩ : S73)]) ++ (allT N1 G1 P1 (l.drop (j + 1))).2.2.2) ∧ (out ++ [(⟨x, y⟩ : S73)]).length = j + 1 by rw [List.append_assoc]; exact ⟨hq, by rw [List.length_append, HQ.out.2]; rfl⟩)
   have hol := HQ.out.2
   clear hs0 hs1 hs2 hf0 hf1 hf2 hi0 hi1 hg0 hg1 q7 q7' hv4 hq hd HQ
   obtain ⟨ha0, ha1, ha2⟩ := HM.out.hp.cells
   obtain ⟨_, _, _, hbx⟩ := HM.out.box
   obtain ⟨hs0, hs1, hs2, hf0, hf1, hf2⟩ := bk3 hbx
   have HM5 := Aside0.mk HM.out.put
   obtain ⟨hi0, hi1, hg0, hg1⟩ := bk2 HM5.out.2
   clear hbx
   go_wp2_with ((with_reducible refine gate_builtin (b := .append) (xs := #[.tmp 26, .tmp 28]) rfl ?_); at_builtin; refine Kd.R_append k73 (w0 := w) w.heap.size rfl (.tmp 26) (.tmp 28) 71 73 (.agg #[.int .i64 0, .int .i64 0]) 16 rfl Try.underlying71 info73 rfl (by decide) (by omega) u6 out ⟨x, y⟩ [.int .i64 x, .int .i64 y] (fun _ => True) (fun _ => False) rfl (by go_simp; done) (k73_mkM _ _ _ ⟨x, y⟩) (fun _ hk => hk.elim) (fun _ _ => trivial) (Kd.R_mono HM5.out.1.out (fun _ _ => trivial)) HM5.out.1.bel HM5.out.1.bel.size (by have := HBd.out; omega) ?_; intro v7 w7 h1 h2 h3 h4; have HA7 := Aside0.mk (HM5.out.1.grow h1 h2 h3 h4); clear h1 h2 h3 h4)
   go_roundw
   case rel => exact ⟨j + 1, by omega, by go_num, _, _, _, _, _, _, _, _, _, _, HA7, HQ1⟩
   case measure => simp [intOf]; omega
  ·obtain rfl : j = l.length := by omega
   have hq := HQ.out.1
   rw [List.drop_length] at hq
   dsimp only [allT] at hq
   rw [List.append_nil] at hq
   obtain ⟨ha0, ha1, ha2⟩ := HA.out.box.cells
   obtain ⟨hs0, hs1, hs2, hf0, hf1, hf2⟩ := bk3 HA.out.res
   subst hq
   obtain ⟨A3, c3, e3⟩ := Kd.R_slice HA.out.out
   subst e3
   clear HQ hlt
   go_wp2
   have hl := HA.out.last
   exact bodyPost_ret (results_ct rfl _ _ (w.heap.size + 1) 38 #[.slice AN N.length cN, .slice AG G.length cG, .slice AP P.length cP] (0, 0) _ rfl (kP HA.out.res) Try.underlying38 rfl (by kernel_rfl)) rfl ⟨_, _, _, _, _, _, _, _, rfl, hl⟩
end
end Go.Proofs.Ytkidnomkfdnciaa.All
