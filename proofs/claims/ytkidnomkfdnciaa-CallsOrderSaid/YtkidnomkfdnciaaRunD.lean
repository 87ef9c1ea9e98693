/- The hall's invariant through one more of them and through a step. -/
import Derived.Test.YtkidnomkfdnciaaRunB
import Derived.Test.YtkidnomkfdnciaaRunC
namespace Go.Proofs.Ytkidnomkfdnciaa.All
open Go.RowKit Go.Proofs.YtkidnomkfdnciaaW.PrintWords Go.Proofs.YtkidnomkfdnciaaW.PrintLast Go.Proofs.YtkidnomkfdnciaaW.PrintMore
set_option linter.unusedVariables false
set_option linter.unusedSimpArgs false
def mkOne (l : List S76) : One := ⟨l, 0, 0, 0, 0, []⟩
theorem snoc_getD1 (l : List One) (x : One) (i : Nat) : (l ++ [x]).getD i zOne = if i < l.length then l.getD i zOne else if i = l.length then x else zOne := by
  by_cases h : i < l.length
  · rw [if_pos h, List.getD_eq_getElem?_getD, List.getElem?_append_left h, List.getD_eq_getElem?_getD]
  · rw [if_neg h, List.getD_eq_getElem?_getD, List.getElem?_append_right (by omega)]
    by_cases h2 : i = l.length
    · rw [if_pos h2, h2]; simp
    · rw [if_neg h2, List.getElem?_eq_none (by simp; omega)]; rfl
theorem snoc_getDn (l : List Nat) (x : Nat) (i : Nat) : (l ++ [x]).getD i 0 = if i < l.length then l.getD i 0 else if i = l.length then x else 0 := by
  by_cases h : i < l.length
  · rw [if_pos h, List.getD_eq_getElem?_getD, List.getElem?_append_left h, List.getD_eq_getElem?_getD]
  · rw [if_neg h, List.getD_eq_getElem?_getD, List.getElem?_append_right (by omega)]
    by_cases h2 : i = l.length
    · rw [if_pos h2, h2]; simp
    · rw [if_neg h2, List.getElem?_eq_none (by simp; omega)]; rfl
/-- One more of them. -/
theorem HInv.add {w0 W w1 : World} {bh : Nat} {bos : List Nat} {vN vG vP vA vE : Value} {vD : Nat → Value} {LA : Nat → Option Addr} {LC : Nat → Nat} {s : St} (h : HInv w0 W bh bos vN vG vP vA vE vD LA LC s) {A : Option Addr} {c : Nat} {l : List S76} {v1 : Value} {ok : Nat → Prop}
    (hl : k76.C w0 A l.length l) (hc : l.length ≤ c) (hb : Below w0.heap.size w0 w1) (h1 : Kd.R kptr 105 w1 w0.heap.size ok v1 (bos ++ [W.heap.size]))
    (hg : (W.alloc (.cells #[.slice A l.length c, .int .i64 0, .int .i64 0, .int .i64 0, .int .i64 0, .slice none 0 0] 107)).grownBy w1 vA.ownBlock) :
    HInv w0 (w1.setCell ⟨bh, 3, none⟩ v1) bh (bos ++ [W.heap.size]) vN vG vP v1 vE (fun j => if j = s.ones.length then .slice none 0 0 else vD j) (fun j => if j = s.ones.length then A else LA j) (fun j => if j = s.ones.length then c else LC j)
      { s with ones := s.ones ++ [mkOne l] } := by
  obtain ⟨o, ho⟩ : ∃ o : Obj, o = .cells #[.slice A l.length c, .int .i64 0, .int .i64 0, .int .i64 0, .int .i64 0, .slice none 0 0] 107 := ⟨_, rfl⟩
  rw [← ho] at hg
  have h' := h.below (below_alloc (Below.refl _ _) o)
  have hbn : (W.alloc o).heap[W.heap.size]? = some (.cells #[.slice A l.length c, .int .i64 0, .int .i64 0, .int .i64 0, .int .i64 0, .slice none 0 0] 107 (0, 0)) := by rw [ho]; exact heap_alloc_new W _
  have i0 : Mv (W.alloc o) w1 vA.ownBlock.toList := Mv.of_grown hg
  have i1 : Mv (W.alloc o) (w1.setCell ⟨bh, 3, none⟩ v1) (bh :: vA.ownBlock.toList) := inferInstance
  have i2 : Mv w1 (w1.setCell ⟨bh, 3, none⟩ v1) [bh] := inferInstance
  have ha := h'.a
  have far : ∀ {α : Type} {d : Kd α} {e base : Nat} {ok : Nat → Prop} {v : Value} {xs : List α}, d.R e (W.alloc o) base ok v xs → e ≠ 104 ∧ e ≠ 107 → e ≠ 105 → ∀ b, b ∈ bh :: vA.ownBlock.toList → some b ≠ v.ownBlock := by
    intro α d e base ok v xs hr he h5 b hb
    rcases List.mem_cons.1 hb with rfl | hb
    · exact (h'.nbox hr he).1
    · exact fun e => R_apart hr ha h5 b e (mem_own hb)
  have nbA : ∀ {g t : Nat} {cells : Array Value}, (W.alloc o).heap[g]? = some (.cells cells t (0, 0)) → t ≠ 105 → ∀ b, b ∈ vA.ownBlock.toList → g ≠ b := by
    intro g t cells hc ht b hb e
    subst e
    exact Kd.R_ne ha hc (fun e => ht e.symm) (mem_own hb)
  have fbox : ∀ {g t : Nat} {cells : Array Value}, (W.alloc o).heap[g]? = some (.cells cells t (0, 0)) → t ≠ 105 → g ≠ bh → ∀ b, b ∈ bh :: vA.ownBlock.toList → g ≠ b := by
    intro g t cells hc ht hgb b hb
    rcases List.mem_cons.1 hb with rfl | hb
    · exact hgb
    · exact nbA hc ht b hb
  have c0 : w1.heap[bh]? = _ := blk_mv h'.hall i0 (nbA h'.hall (by decide))
  have hbh : bh < W.heap.size := blk_lt h.hall
  have hlen := h.len
  have hin : ∀ {j : Nat}, j < s.ones.length → bos.getD j 0 < W.heap.size := fun hj => blk_lt (h.box _ hj)
  refine ⟨wX hb i2 (fun b hb => ?_), h.b0, blk_put c0 3 v1 rfl, R_mv h'.n i1 (far h'.n (by decide) (by decide)), R_mv h'.g i1 (far h'.g (by decide) (by decide)), R_mv h'.p i1 (far h'.p (by decide) (by decide)), h.gp, R_mv h'.e i1 (far h'.e (by decide) (by decide)), R_mv (R_tight' rfl h1) i2 (fun b hb => ?_), by simp [hlen], fun j hj => ?_, fun j hj => ?_, fun j hj => ?_, fun a b hx hy hab k hk => ?_, fun a b hx hy hab => ?_, fun j hj => ?_⟩
  · simp only [List.mem_cons, List.not_mem_nil, or_false] at hb
    rw [hb]; exact h.b0
  · simp only [List.mem_cons, List.not_mem_nil, or_false] at hb
    rw [hb]; exact Kd.R_ne h1 c0 (by decide)
  · simp only [List.length_append, List.length_singleton] at hj
    (try dsimp only)
    rw [snoc_getD1, snoc_getDn, hlen]
    by_cases e : j = s.ones.length
    · have e1 : ¬ j < s.ones.length := by omega
      simp only [if_neg e1, if_pos e]
      exact blk_mv hbn i1 (fbox hbn (by decide) (by omega))
    · have hj' : j < s.ones.length := by omega
      simp only [if_pos hj', if_neg e]
      exact blk_mv (h'.box j hj') i1 (fbox (h'.box j hj') (by decide) (fun e => h.ne hj' e.symm))
  · simp only [List.length_append, List.length_singleton] at hj
    rw [snoc_getDn, hlen]
    by_cases e : j = s.ones.length
    · rw [if_neg (by omega), if_pos e]; exact h.bel.size
    · rw [if_pos (by omega)]; exact h.old j (by omega)
  · simp only [List.length_append, List.length_singleton] at hj
    (try dsimp only)
    rw [snoc_getD1]
    by_cases e : j = s.ones.length
    · have e1 : ¬ j < s.ones.length := by omega
      simp only [if_neg e1, if_pos e]; exact Kd.R_nil _ _ _ _ _
    · have e1 : j < s.ones.length := by omega
      simp only [if_pos e1, if_neg e]; exact R_mv (h'.d j (by omega)) i1 (far (h'.d j (by omega)) (by decide) (by decide))
  · simp only [List.length_append, List.length_singleton] at hx hy
    (try dsimp only at hk ⊢)
    by_cases ea : a = s.ones.length
    · rw [if_pos ea] at hk; cases hk
    · rw [if_neg ea] at hk
      by_cases eb : b = s.ones.length
      · rw [if_pos eb]; intro e; cases e
      · rw [if_neg eb]; exact h.dd a b (by omega) (by omega) hab k hk
  · simp only [List.length_append, List.length_singleton] at hx hy
    rw [snoc_getDn, snoc_getDn, hlen]
    by_cases ea : a = s.ones.length
    · by_cases eb : b = s.ones.length
      · omega
      · have := hin (j := b) (by omega)
        rw [if_neg (by omega), if_pos ea, if_pos (by omega)]; omega
    · have := hin (j := a) (by omega)
      by_cases eb : b = s.ones.length
      · rw [if_pos (by omega), if_neg (by omega), if_pos eb]; omega
      · rw [if_pos (by omega), if_pos (by omega)]; exact h.inj a b (by omega) (by omega) hab
  · simp only [List.length_append, List.length_singleton] at hj
    (try dsimp only)
    rw [snoc_getD1]
    by_cases e : j = s.ones.length
    · have e1 : ¬ j < s.ones.length := by omega
      simp only [if_neg e1, if_pos e]; exact ⟨hl, hc⟩
    · have e1 : j < s.ones.length := by omega
      simp only [if_pos e1, if_neg e]; exact h.l j (by omega)
/-- One step of one. -/
def midO (k : Nat) (s : St) (i : Nat) : Option St :=
  if (s.ones.getD i zOne).st = 0 then some s
  else if (s.ones.getD i zOne).st = 1 then (runDo k s.N s.G s.P ((s.ones.getD i zOne).l.getD (s.ones.getD i zOne).at_ z76)).bind fun r => some { s with N := r.1, G := r.2.1, P := r.2.2.1, ones := s.ones.set i { s.ones.getD i zOne with g := r.2.2.2.1, e := r.2.2.2.2 } }
  else if (s.ones.getD i zOne).st = 2 ∧ (s.ones.getD i zOne).ended.length ≤ 1000 then some { s with ones := s.ones.set i { s.ones.getD i zOne with ended := (s.ones.getD i zOne).ended ++ [⟨(s.ones.getD i zOne).g, (s.ones.getD i zOne).e⟩] } } else none
def stepO (k : Nat) (s : St) (i : Nat) : Option St :=
  if (s.ones.getD i zOne).at_ < (s.ones.getD i zOne).l.length then (midO k s i).bind fun s1 => if s1.ev.length < 1000000 then some { s1 with ev := s1.ev ++ [⟨(i : Int), ((s.ones.getD i zOne).at_ : Int), ((s.ones.getD i zOne).st : Int)⟩], ones := s1.ones.set i (bump (s1.ones.getD i zOne)) } else none
  else some s
/-- Rows of rows (type 71) and the result's box (38) stay. -/
def K71 (u W : World) : Prop := ∀ (k t : Nat) (cells : Array Value), t = 71 ∨ t = 38 → u.heap[k]? = some (.cells cells t (0, 0)) → W.heap[k]? = some (.cells cells t (0, 0))
def N71 (u : World) (b : Nat) : Prop := ∀ (t : Nat) (cells : Array Value), t = 71 ∨ t = 38 → u.heap[b]? ≠ some (.cells cells t (0, 0))
section
variable {u w w' : World} {bs : List Nat}
theorem K71.refl (u : World) : K71 u u := fun _ _ _ _ h => h
theorem K71.trans (h : K71 u w) (h' : K71 w w') : K71 u w' := fun k t c ht hk => h' k t c ht (h k t c ht hk)
theorem K71.mv (h : K71 u w) (i : Mv w w' bs) (hn : ∀ b, b ∈ bs → N71 u b) : K71 u w' := fun k t cells ht hk => (i.mv k (blk_lt (h k t cells ht hk)) (fun b hb e => hn b hb t cells ht (e ▸ hk))).trans (h k t cells ht hk)
theorem K71.below (h : K71 u w) (hb : Below w.heap.size w w') : K71 u w' := h.mv (Mv.of_below hb) (fun _ h => absurd h List.not_mem_nil)
theorem N71.of {b t : Nat} {cells : Array Value} (h : u.heap[b]? = some (.cells cells t (0, 0))) (ht : t ≠ 71 ∧ t ≠ 38) : N71 u b := fun q c hq e => by
  rw [h] at e
  injection e with e
  injection e with _ e
  rcases hq with rfl | rfl
  · exact ht.1 e
  · exact ht.2 e
theorem N71.row {α : Type} {d : Kd α} {e base : Nat} {ok : Nat → Prop} {v : Value} {xs : List α} (h : d.R e u base ok v xs) (he : e ≠ 71 ∧ e ≠ 38) : ∀ b, b ∈ v.ownBlock.toList → N71 u b := fun b hb => by
  obtain ⟨i, o⟩ := Kd.R_own h
  obtain ⟨c, e1⟩ := own_typed o b (mem_own hb).symm
  exact N71.of e1 he
end
section
variable {w0 W : World} {D : (Nat → Value) → Prop} {bh : Nat} {bos : List Nat} {vN vG vP vA vE : Value} {vD : Nat → Value} {LA : Nat → Option Addr} {LC : Nat → Nat} {s : St}
/-- What holds, whatever the rows' values. -/
def HOk (w0 W : World) (bh : Nat) (bos : List Nat) (vA vE : Value) (LA : Nat → Option Addr) (LC : Nat → Nat) (D : (Nat → Value) → Prop) (s : St) : Prop := ∃ vN vG vP vD, D vD ∧ HInv w0 W bh bos vN vG vP vA vE vD LA LC s
theorem HOk.mid {s1 : St} {i : Nat} (hi : i < s1.ones.length) (h : HOk w0 W bh bos vA vE LA LC D s1) : Mid w0 w0.heap.size (fun _ => True) bh (bos.getD i 0) (LA i) (s1.ones.getD i zOne).l.length (LC i) (s1.ones.getD i zOne).at_ (s1.ones.getD i zOne).st vA vE s1.ev W := by
  obtain ⟨vN, vG, vP, vD, _, h⟩ := h
  exact ⟨⟨_, _, _, h.hall⟩, ⟨_, _, _, h.box i hi⟩, Kd.R_mono h.e (fun _ _ => trivial), h.bel⟩
theorem HOk.close {s1 : St} {i at_ st : Nat} {w' W0 : World} (hi : i < s1.ones.length) (ha : (s1.ones.getD i zOne).at_ = at_) (hs : (s1.ones.getD i zOne).st = st) (n1 : N71 W0 bh) (n2 : N71 W0 (bos.getD i 0)) (n3 : ∀ b, b ∈ vE.ownBlock.toList → N71 W0 b) (h : StepPost w0 w0.heap.size (fun _ => True) (fun w => HOk w0 w bh bos vA vE LA LC D s1 ∧ K71 W0 w) i at_ st bh (bos.getD i 0) vE s1.ev w') :
    ∃ vE', HOk w0 w' bh bos vA vE' LA LC D { s1 with ev := s1.ev ++ [⟨(i : Int), (at_ : Int), (st : Int)⟩], ones := s1.ones.set i (bump (s1.ones.getD i zOne)) } ∧ K71 W0 w' := by
  subst ha hs
  obtain ⟨w2, w3, v1, q, ⟨⟨vN, vG, vP, vD, hD, hq⟩, hk⟩, h1, hb, hg, _, hw⟩ := h
  refine ⟨v1, ⟨vN, vG, vP, vD, hD, hq.fin hi h1 hb hg hw⟩, ?_⟩
  have k3 : K71 W0 w3 := hk.mv (Mv.of_grown hg) n3
  obtain ⟨bo, hbo⟩ : ∃ bo, bo = bos.getD i 0 := ⟨_, rfl⟩
  rw [← hbo] at hw n2
  by_cases hst : (s1.ones.getD i zOne).st = 2
  · rw [if_pos hst] at hw
    rw [hw]
    refine K71.mv (bs := [bo, bo, bo, bh]) k3 inferInstance (fun b hb => ?_)
    simp only [List.mem_cons, List.not_mem_nil, or_false] at hb
    rcases hb with rfl | rfl | rfl | rfl
    · exact n2
    · exact n2
    · exact n2
    · exact n1
  · rw [if_neg hst] at hw
    rw [hw]
    refine K71.mv (bs := [bo, bh]) k3 inferInstance (fun b hb => ?_)
    simp only [List.mem_cons, List.not_mem_nil, or_false] at hb
    rcases hb with rfl | rfl
    · exact n2
    · exact n1
set_option maxHeartbeats 4000000 in
theorem step_inv (k : Nat) {s' : St} {i : Nat} (h : HInv w0 W bh bos vN vG vP vA vE vD LA LC s) (hi : i < s.ones.length) (hn : s.ones.length ≤ 1000) (hl : (s.ones.getD i zOne).l.length ≤ 1000) (hs : stepO k s i = some s') :
    Calls Try.prog 87 #[.pointer (some ⟨bh, 0, none⟩), .int .i64 (i : Int)] W fun e w' => e = .returned (.tuple #[]) ∧ ∃ vE', HOk w0 w' bh bos vA vE' LA LC (fun u => ∀ j, j ≠ i → u j = vD j) s' ∧ K71 W w' := by
  obtain ⟨A5, c5, y5⟩ := Kd.R_slice h.a
  subst y5
  have hlen := h.len
  have n1 : N71 W bh := N71.of h.hall (by decide)
  have n2 : N71 W (bos.getD i 0) := N71.of (h.box i hi) (by decide)
  have n3 := N71.row h.e (by decide)
  have n4 := N71.row (h.d i hi) (by decide)
  obtain ⟨ad, c, hA, _, hK, hc⟩ := Kd.C_get (Kd.R_reads' h.a).2.2 0 (i : Int) (by omega) (by omega)
  subst hA
  have hp : W.cell? (ad.add i) = some (.pointer (some ⟨bos.getD i 0, 0, none⟩)) := by
    rw [Int.toNat_natCast] at hK hc
    have hK : c = [.pointer (some ⟨bos.getD i 0, 0, none⟩)] := hK
    have := hc 0 (.pointer (some ⟨bos.getD i 0, 0, none⟩)) (by rw [hK]; rfl)
    have e : i * kptr.sz + 0 = i := by show i * 1 + 0 = i; omega
    rw [e] at this
    exact this
  unfold stepO at hs
  by_cases hat : (s.ones.getD i zOne).at_ < (s.ones.getD i zOne).l.length
  · rw [if_pos hat] at hs
    obtain ⟨s1, hm, hs⟩ := Option.bind_eq_some_iff.1 hs
    split at hs
    · rename_i hev
      obtain rfl := Option.some.inj hs
      unfold midO at hm
      have hB0 := h.b0
      have hB1 := h.old i hi
      by_cases h0 : (s.ones.getD i zOne).st = 0
      · rw [if_pos h0] at hm
        obtain rfl := Option.some.inj hm
        have hbx := h.box i hi
        rw [h0] at hbx ⊢
        refine (step_walk0 (fun w => HOk w0 w bh bos (.slice (some ad) bos.length c5) vE LA LC (fun u => ∀ j, j ≠ i → u j = vD j) s ∧ K71 W w) i h.hall hbx (by omega) hp hl hat (by omega) (fun W' hb => (begin_calls W' _ _).mono fun e w' ⟨he, hw⟩ => ⟨he, ⟨vN, vG, vP, vD, fun _ _ => rfl, by rw [hw]; exact h.below hb⟩, by rw [hw]; exact (K71.refl _).below hb⟩) (fun w' hq => by have := HOk.mid hi hq.1; rw [h0] at this; exact this) hev (fun _ _ _ _ => trivial) hB0 hB1).mono fun e w' ⟨he, hq⟩ => ⟨he, HOk.close hi rfl h0 n1 n2 n3 hq⟩
      · rw [if_neg h0] at hm
        by_cases h1 : (s.ones.getD i zOne).st = 1
        · rw [if_pos h1] at hm
          obtain ⟨⟨N', G', P', r4, r5⟩, hd, hm⟩ := Option.bind_eq_some_iff.1 hm
          obtain rfl := Option.some.inj hm
          have hbx := h.box i hi
          have hi' : i < (s.ones.set i { s.ones.getD i zOne with g := r4, e := r5 }).length := by simpa using hi
          have hgi : (s.ones.set i { s.ones.getD i zOne with g := r4, e := r5 }).getD i zOne = { s.ones.getD i zOne with g := r4, e := r5 } := by rw [set_getD, if_pos ⟨rfl, hi⟩]
          rw [h1] at hbx ⊢
          refine (step_walk1 (fun w => HOk w0 w bh bos (.slice (some ad) bos.length c5) vE LA LC (fun u => ∀ j, j ≠ i → u j = vD j) { s with N := N', G := G', P := P', ones := s.ones.set i { s.ones.getD i zOne with g := r4, e := r5 } } ∧ K71 W w) i h.hall hbx (by omega) hp hl hat (by omega) (fun W' hb => ?_) (fun w' hq => ?_) hev (fun _ _ _ _ => trivial) hB0 hB1).mono fun e w' ⟨he, hq⟩ => ⟨he, HOk.close hi' (by dsimp only; rw [hgi]) (by dsimp only; rw [hgi]; exact h1) n1 n2 n3 hq⟩
          · have h' := h.below hb
            obtain ⟨AN, cN, e1⟩ := Kd.R_slice h'.n
            obtain ⟨AG, cG, e2⟩ := Kd.R_slice h'.g
            obtain ⟨AP, cP, e3⟩ := Kd.R_slice h'.p
            subst e1 e2 e3
            have hL := h'.l i hi
            refine (act_calls k h'.hall (h'.box i hi) ⟨(Kd.R_reads' h'.n).2.2, (Kd.R_reads' h'.n).2.1, (Kd.R_reads' h'.g).2.2, (Kd.R_reads' h'.g).2.1, (Kd.R_reads' h'.p).2.2, (Kd.R_reads' h'.p).2.1⟩ (Kd.C_below hL.1 h'.bel) hl hat hd).mono fun e w' ⟨he, w1, v0, v1, v2, q, hw, hb1, k0, k1, k2⟩ => ⟨he, ⟨v0, v1, v2, vD, fun _ _ => rfl, ?_⟩, ?_⟩
            · rw [hw]
              exact h'.act hi hb1 k0 k1 k2
            · rw [hw]
              refine K71.mv (bs := [bos.getD i 0, bos.getD i 0, bh, bh, bh]) (((K71.refl W).below hb).below hb1) inferInstance (fun b hb => ?_)
              simp only [List.mem_cons, List.not_mem_nil, or_false] at hb
              rcases hb with rfl | rfl | rfl | rfl | rfl
              · exact n2
              · exact n2
              · exact n1
              · exact n1
              · exact n1
          · have := HOk.mid hi' hq.1
            dsimp only at this
            rw [hgi] at this
            dsimp only at this
            rw [h1] at this
            exact this
        · rw [if_neg h1] at hm
          by_cases h2 : (s.ones.getD i zOne).st = 2 ∧ (s.ones.getD i zOne).ended.length ≤ 1000
          · rw [if_pos h2] at hm
            obtain rfl := Option.some.inj hm
            obtain ⟨h2, hel⟩ := h2
            have hbx := h.box i hi
            have hi' : i < (s.ones.set i { s.ones.getD i zOne with ended := (s.ones.getD i zOne).ended ++ [⟨(s.ones.getD i zOne).g, (s.ones.getD i zOne).e⟩] }).length := by simpa using hi
            have hgi : (s.ones.set i { s.ones.getD i zOne with ended := (s.ones.getD i zOne).ended ++ [⟨(s.ones.getD i zOne).g, (s.ones.getD i zOne).e⟩] }).getD i zOne = { s.ones.getD i zOne with ended := (s.ones.getD i zOne).ended ++ [⟨(s.ones.getD i zOne).g, (s.ones.getD i zOne).e⟩] } := by rw [set_getD, if_pos ⟨rfl, hi⟩]
            rw [h2] at hbx ⊢
            refine (step_walk2 (fun w => HOk w0 w bh bos (.slice (some ad) bos.length c5) vE LA LC (fun u => ∀ j, j ≠ i → u j = vD j) { s with ones := s.ones.set i { s.ones.getD i zOne with ended := (s.ones.getD i zOne).ended ++ [⟨(s.ones.getD i zOne).g, (s.ones.getD i zOne).e⟩] } } ∧ K71 W w) i h.hall hbx (by omega) hp hl hat (by omega) (fun W' hb => ?_) (fun w' hq => ?_) hev (fun _ _ _ _ => trivial) hB0 hB1).mono fun e w' ⟨he, hq⟩ => ⟨he, HOk.close hi' (by dsimp only; rw [hgi]) (by dsimp only; rw [hgi]; exact h2) n1 n2 n3 hq⟩
            · have h' := h.below hb
              refine (end_calls (w0 := w0) (ok := fun _ => True) (h'.box i hi) (Kd.R_mono (h'.d i hi) (fun _ _ => trivial)) h'.bel hel (fun _ _ => trivial)).mono fun e w' ⟨he, w1, v1, hw, k1, hb1, hg, hv⟩ => ⟨he, ⟨vN, vG, vP, fun j => if j = i then v1 else vD j, fun j hj => if_neg hj, ?_⟩, ?_⟩
              · rw [hw]
                exact h'.end_ hi k1 hg hv hb1
              · rw [hw]
                refine K71.mv (bs := [bos.getD i 0]) (((K71.refl W).below hb).mv (Mv.of_grown hg) n4) inferInstance (fun b hb => ?_)
                simp only [List.mem_cons, List.not_mem_nil, or_false] at hb
                rw [hb]
                exact n2
            · have := HOk.mid hi' hq.1
              dsimp only at this
              rw [hgi] at this
              dsimp only at this
              rw [h2] at this
              exact this
          · rw [if_neg h2] at hm; cases hm
    · cases hs
  · rw [if_neg hat] at hs
    obtain rfl := Option.some.inj hs
    exact (step_no i h.hall (h.box i hi) (by omega) hp hl hat (by omega)).mono fun e w' ⟨he, q, hw⟩ => ⟨he, vE, ⟨vN, vG, vP, vD, fun _ _ => rfl, by rw [hw]; exact h.below (pw_below_drewN (Below.refl _ _) _)⟩, by rw [hw]; exact (K71.refl _).below (pw_below_drewN (Below.refl _ _) _)⟩
end

end Go.Proofs.Ytkidnomkfdnciaa.All
