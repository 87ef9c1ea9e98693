/- The hall's invariant through one more of them and through a step. -/
import Derived.Test.YtkidnomkfdnciaaRunB
import Derived.Test.YtkidnomkfdnciaaR20C
import Derived.Test.YtkidnomkfdnciaaQCall
import Derived.Test.YtkidnomkfdnciaaMv
import Derived.RegionTactic
import Derived.ChangeAlike
import Derived.Lib.Hide
import Derived.Deep.RegionLaw
import Derived.Deep.RegionHeld3
import Derived.Test.YtkidnomkfdnciaaSets2
import Derived.Test.YtkidnomkfdnciaaAllx10
import Derived.Test.YtkidnomkfdnciaaQRel
namespace Go.Proofs.Ytkidnomkfdnciaa.All
open Go.RowKit Go.Proofs.YtkidnomkfdnciaaW.PrintWords Go.Proofs.YtkidnomkfdnciaaW.PrintLast Go.Proofs.YtkidnomkfdnciaaW.PrintMore
set_option linter.unusedVariables false
set_option linter.unusedSimpArgs false
def mkOne (l : List S76) : One := ⟨l, 0, 0, 0, 0, []⟩
theorem snoc_getD1 (l : List One) (x : One) (i : Nat) : (l ++ [x]).getD i zOne = if i < l.length then l.getD i zOne else if i = l.length then x else zOne := by
 by_cases h : i < l.length
 ·rw [if_pos h, List.getD_eq_getElem?_getD, List.getElem?_append_left h, List.getD_eq_getElem?_getD]
 ·rw [if_neg h, List.getD_eq_getElem?_getD, List.getElem?_append_right (by omega)]
  by_cases h2 : i = l.length
  ·rw [if_pos h2, h2]; simp
  ·rw [if_neg h2, List.getElem?_eq_none (by simp; omega)]; rfl
theorem snoc_getDn (l : List Nat) (x : Nat) (i : Nat) : (l ++ [x]).getD i 0 = if i < l.length then l.getD i 0 else if i = l.length then x else 0 := by
 by_cases h : i < l.length
 ·rw [if_pos h, List.getD_eq_getElem?_getD, List.getElem?_append_left h, List.getD_eq_getElem?_getD]
 ·rw [if_neg h, List.getD_eq_getElem?_getD, List.getElem?_append_right (by omega)]
  by_cases h2 : i = l.length
  ·rw [if_pos h2, h2]; simp
  ·rw [if_neg h2, List.getElem?_eq_none (by simp; omega)]; rfl
theorem HInv.add {w0 W w1 : World} {bh : Nat} {bos : List Nat} {vN vG vP vA vE : Value} {vD : Nat → Value} {LA : Nat → Option Addr} {LC : Nat → Nat} {s : St} (h : HInv w0 W bh bos vN vG vP vA vE vD LA LC s) {A : Option Addr} {c : Nat} {l : List S76} {v1 : Value} {ok : Nat → Prop}
  (hl : k76.C w0 A l.length l) (hc : l.length ≤ c) (hb : Below w0.heap.size w0 w1) (h1 : Kd.R kptr 105 w1 w0.heap.size ok v1 (bos ++ [W.heap.size]))
  (hg : (W.alloc (.cells #[.slice A l.length c, .int .i64 0, .int .i64 0, .int .i64 0, .int .i64 0, .slice none 0 0] 107)).grownBy w1 vA.ownBlock) :
  HInv w0 (w1.setCell ⟨bh, 3, none⟩ v1) bh (bos ++ [W.heap.size]) vN vG vP v1 vE (fun j => if j = s.ones.length then .slice none 0 0 else vD j) (fun j => if j = s.ones.length then A else LA j) (fun j => if j = s.ones.length then c else LC j)
   {s with ones := s.ones ++ [mkOne l] } := by
 obtain ⟨o, ho⟩ : ∃ o : Obj, o = .cells #[.slice A l.length c, .int .i64 0, .int .i64 0, .int .i64 0, .int .i64 0, .slice none 0 0] 107 := ⟨_, rfl⟩
 rw [← ho] at hg
 have h' := h.below (below_alloc (Below.refl _ _) o)
 have hbn : (W.alloc o).heap[W.heap.size]? = some (.cells #[.slice A l.length c, .int .i64 0, .int .i64 0, .int .i64 0, .int .i64 0, .slice none 0 0] 107 (0, 0)) := by rw [ho]; exact heap_alloc_new W _
 have i0 : Mv (W.alloc o) w1 vA.ownBlock.toList := Mv.of_grown hg
 have i1 : Mv (W.alloc o) (w1.setCell ⟨bh, 3, none⟩ v1) (bh :: vA.ownBlock.toList) := inferInstance
 have i2 : Mv w1 (w1.setCell ⟨bh, 3, none⟩ v1) [bh] := inferInstance
 have ha := h'.a
 have far : ∀ {α : Type} {d : Kd α} {e base : Nat} {ok : Nat → Prop} {v : Value} {xs : List α}, d.R e (W.alloc o) base ok v xs → e ≠ 104 ∧ e ≠ 107 → e ≠ 105 → ∀ b, b ∈ bh :: vA.ownBlock.toList → some b ≠ v.ownBlock := by
  intro α d e base ok v xs hr he h5 b hb
  rcases List.mem_cons.1 hb with rfl | hb
  ·exact (h'.nbox hr he).1
  ·exact fun e => R_apart hr ha h5 b e (mem_own hb)
 have nbA : ∀ {g t : Nat} {cells : Array Value}, (W.alloc o).heap[g]? = some (.cells cells t (0, 0)) → t ≠ 105 → ∀ b, b ∈ vA.ownBlock.toList → g ≠ b := by
  intro g t cells hc ht b hb e
  subst e
  exact Kd.R_ne ha hc (fun e => ht e.symm) (mem_own hb)
 have fbox : ∀ {g t : Nat} {cells : Array Value}, (W.alloc o).heap[g]? = some (.cells cells t (0, 0)) → t ≠ 105 → g ≠ bh → ∀ b, b ∈ bh :: vA.ownBlock.toList → g ≠ b := by
  intro g t cells hc ht hgb b hb
  rcases List.mem_cons.1 hb with rfl | hb
  ·exact hgb
  ·exact nbA hc ht b hb
 have c0 : w1.heap[bh]? = _ := blk_mv h'.hall i0 (nbA h'.hall (by decide))
 have hbh : bh < W.heap.size := blk_lt h.hall
 have hlen := h.len
 have hin : ∀ {j : Nat}, j < s.ones.length → bos.getD j 0 < W.heap.size := fun hj => blk_lt (h.box _ hj)
 refine ⟨wX hb i2 (fun b hb => ?_), h.b0, blk_put c0 3 v1 rfl, R_mv h'.n i1 (far h'.n (by decide) (by decide)), R_mv h'.g i1 (far h'.g (by decide) (by decide)), R_mv h'.p i1 (far h'.p (by decide) (by decide)), h.gp, R_mv h'.e i1 (far h'.e (by decide) (by decide)), R_mv (R_tight' rfl h1) i2 (fun b hb => ?_), by simp [hlen], fun j hj => ?_, fun j hj => ?_, fun j hj => ?_, fun a b hx hy hab k hk => ?_, fun a b hx hy hab => ?_, fun j hj => ?_⟩
 ·simp only [List.mem_cons, List.not_mem_nil, or_false] at hb
  rw [hb]; exact h.b0
 ·simp only [List.mem_cons, List.not_mem_nil, or_false] at hb
  rw [hb]; exact Kd.R_ne h1 c0 (by decide)
 ·simp only [List.length_append, List.length_singleton] at hj
  (try dsimp only)
  rw [snoc_getD1, snoc_getDn, hlen]
  by_cases e : j = s.ones.length
  ·have e1 : ¬ j < s.ones.length := by omega
   simp only [if_neg e1, if_pos e]
   exact blk_mv hbn i1 (fbox hbn (by decide) (by omega))
  ·have hj' : j < s.ones.length := by omega
   simp only [if_pos hj', if_neg e]
   exact blk_mv (h'.box j hj') i1 (fbox (h'.box j hj') (by decide) (fun e => h.ne hj' e.symm))
 ·simp only [List.length_append, List.length_singleton] at hj
  rw [snoc_getDn, hlen]
  by_cases e : j = s.ones.length
  ·rw [if_neg (by omega), if_pos e]; exact h.bel.size
  ·rw [if_pos (by omega)]; exact h.old j (by omega)
 ·simp only [List.length_append, List.length_singleton] at hj
  (try dsimp only)
  rw [snoc_getD1]
  by_cases e : j = s.ones.length
  ·have e1 : ¬ j < s.ones.length := by omega
   simp only [if_neg e1, if_pos e]; exact Kd.R_nil _ _ _ _ _
  ·have e1 : j < s.ones.length := by omega
   simp only [if_pos e1, if_neg e]; exact R_mv (h'.d j (by omega)) i1 (far (h'.d j (by omega)) (by decide) (by decide))
 ·simp only [List.length_append, List.length_singleton] at hx hy
  (try dsimp only at hk ⊢)
  by_cases ea : a = s.ones.length
  ·rw [if_pos ea] at hk; cases hk
  ·rw [if_neg ea] at hk
   by_cases eb : b = s.ones.length
   ·rw [if_pos eb]; intro e; cases e
   ·rw [if_neg eb]; exact h.dd a b (by omega) (by omega) hab k hk
 ·simp only [List.length_append, List.length_singleton] at hx hy
  rw [snoc_getDn, snoc_getDn, hlen]
  by_cases ea : a = s.ones.length
  ·by_cases eb : b = s.ones.length
   ·omega
   ·have := hin (j := b) (by omega)
    rw [if_neg (by omega), if_pos ea, if_pos (by omega)]; omega
  ·have := hin (j := a) (by omega)
   by_cases eb : b = s.ones.length
   ·rw [if_pos (by omega), if_neg (by omega), if_pos eb]; omega
   ·rw [if_pos (by omega), if_pos (by omega)]; exact h.inj a b (by omega) (by omega) hab
 ·simp only [List.length_append, List.length_singleton] at hj
  (try dsimp only)
  rw [snoc_getD1]
  by_cases e : j = s.ones.length
  ·have e1 : ¬ j < s.ones.length := by omega
   simp only [if_neg e1, if_pos e]; exact ⟨hl, hc⟩
  ·have e1 : j < s.ones.length := by omega
   simp only [if_pos e1, if_neg e]; exact h.l j (by omega)
def midO (k : Nat) (s : St) (i : Nat) : Option St :=
 if (s.ones.getD i zOne).st = 0 then some s
 else if (s.ones.getD i zOne).st = 1 then (runDo k s.N s.G s.P ((s.ones.getD i zOne).l.getD (s.ones.getD i zOne).at_ z76)).bind fun r => some { s with N := r.1, G := r.2.1, P := r.2.2.1, ones := s.ones.set i { s.ones.getD i zOne with g := r.2.2.2.1, e := r.2.2.2.2 } }
 else if (s.ones.getD i zOne).st = 2 ∧ (s.ones.getD i zOne).ended.length ≤ 1000 then some { s with ones := s.ones.set i { s.ones.getD i zOne with ended := (s.ones.getD i zOne).ended ++ [⟨(s.ones.getD i zOne).g, (s.ones.getD i zOne).e⟩] } } else none
def stepO (k : Nat) (s : St) (i : Nat) : Option St :=
 if (s.ones.getD i zOne).at_ < (s.ones.getD i zOne).l.length then (midO k s i).bind fun s1 => if s1.ev.length < 1000000 then some { s1 with ev := s1.ev ++ [⟨(i : Int), ((s.ones.getD i zOne).at_ : Int), ((s.ones.getD i zOne).st : Int)⟩], ones := s1.ones.set i (bump (s1.ones.getD i zOne)) } else none
 else some s
def K71 (u W : World) : Prop := ∀ (k t : Nat) (cells : Array Value), t = 71 ∨ t = 38 → u.heap[k]? = some (.cells cells t (0, 0)) → W.heap[k]? = some (.cells cells t (0, 0))
def N71 (u : World) (b : Nat) : Prop := ∀ (t : Nat) (cells : Array Value), t = 71 ∨ t = 38 → u.heap[b]? ≠ some (.cells cells t (0, 0))
section
variable {u w w' : World} {bs : List Nat}
theorem K71.refl (u : World) : K71 u u := fun _ _ _ _ h => h
theorem K71.trans (h : K71 u w) (h' : K71 w w') : K71 u w' := fun k t c ht hk => h' k t c ht (h k t c ht hk)
theorem K71.mv (h : K71 u w) (i : Mv w w' bs) (hn : ∀ b, b ∈ bs → N71 u b) : K71 u w' := fun k t cells ht hk => (i.mv k (blk_lt (h k t cells ht hk)) (fun b hb e => hn b hb t cells ht (e ▸ hk))).trans (h k t cells ht hk)
theorem K71.below (h : K71 u w) (hb : Below w.heap.size w w') : K71 u w' := h.mv (Mv.of_below hb) (fun _ h => absurd h List.not_mem_nil)
theorem N71.of {b t : Nat} {cells : Array Value} (h : u.heap[b]? = some (.cells cells t (0, 0))) (ht : t ≠ 71 ∧ t ≠ 38) : N71 u b := fun q c hq e => by
 rw [h] at e
 injection e with e
 injection e with _ e
 rcases hq with rfl | rfl
 ·exact ht.1 e
 ·exact ht.2 e
theorem N71.row {α : Type} {d : Kd α} {e base : Nat} {ok : Nat → Prop} {v : Value} {xs : List α} (h : d.R e u base ok v xs) (he : e ≠ 71 ∧ e ≠ 38) : ∀ b, b ∈ v.ownBlock.toList → N71 u b := fun b hb => by
 obtain ⟨i, o⟩ := Kd.R_own h
 obtain ⟨c, e1⟩ := own_typed o b (mem_own hb).symm
 exact N71.of e1 he
end
section
variable {w0 W : World} {D : (Nat → Value) → Prop} {bh : Nat} {bos : List Nat} {vN vG vP vA vE : Value} {vD : Nat → Value} {LA : Nat → Option Addr} {LC : Nat → Nat} {s : St}
def HOk (w0 W : World) (bh : Nat) (bos : List Nat) (vA vE : Value) (LA : Nat → Option Addr) (LC : Nat → Nat) (D : (Nat → Value) → Prop) (s : St) : Prop := ∃ vN vG vP vD, D vD ∧ HInv w0 W bh bos vN vG vP vA vE vD LA LC s
theorem HOk.mid {s1 : St} {i : Nat} (hi : i < s1.ones.length) (h : HOk w0 W bh bos vA vE LA LC D s1) : Mid w0 w0.heap.size (fun _ => True) bh (bos.getD i 0) (LA i) (s1.ones.getD i zOne).l.length (LC i) (s1.ones.getD i zOne).at_ (s1.ones.getD i zOne).st vA vE s1.ev W := by
 obtain ⟨vN, vG, vP, vD, _, h⟩ := h
 exact ⟨⟨_, _, _, h.hall⟩, ⟨_, _, _, h.box i hi⟩, Kd.R_mono h.e (fun _ _ => trivial), h.bel⟩
theorem HOk.close {s1 : St} {i at_ st : Nat} {w' W0 : World} (hi : i < s1.ones.length) (ha : (s1.ones.getD i zOne).at_ = at_) (hs : (s1.ones.getD i zOne).st = st) (n1 : N71 W0 bh) (n2 : N71 W0 (bos.getD i 0)) (n3 : ∀ b, b ∈ vE.ownBlock.toList → N71 W0 b) (h : StepPost w0 w0.heap.size (fun _ => True) (fun w => HOk w0 w bh bos vA vE LA LC D s1 ∧ K71 W0 w) i at_ st bh (bos.getD i 0) vE s1.ev w') :
  ∃ vE', HOk w0 w' bh bos vA vE' LA LC D { s1 with ev := s1.ev ++ [⟨(i : Int), (at_ : Int), (st : Int)⟩], ones := s1.ones.set i (bump (s1.ones.getD i zOne)) } ∧ K71 W0 w' := by
 subst ha hs
 obtain ⟨w2, w3, v1, q, ⟨⟨vN, vG, vP, vD, hD, hq⟩, hk⟩, h1, hb, hg, _, hw⟩ := h
 refine ⟨v1, ⟨vN, vG, vP, vD, hD, hq.fin hi h1 hb hg hw⟩, ?_⟩
 have k3 : K71 W0 w3 := hk.mv (Mv.of_grown hg) n3
 obtain ⟨bo, hbo⟩ : ∃ bo, bo = bos.getD i 0 := ⟨_, rfl⟩
 rw [← hbo] at hw n2
 by_cases hst : (s1.ones.getD i zOne).st = 2
 ·rw [if_pos hst] at hw
  rw [hw]
  refine K71.mv (bs := [bo, bo, bo, bh]) k3 inferInstance (fun b hb => ?_)
  simp only [List.mem_cons, List.not_mem_nil, or_false] at hb
  rcases hb with rfl | rfl | rfl | rfl
  ·exact n2
  ·exact n2
  ·exact n2
  ·exact n1
 ·rw [if_neg hst] at hw
  rw [hw]
  refine K71.mv (bs := [bo, bh]) k3 inferInstance (fun b hb => ?_)
  simp only [List.mem_cons, List.not_mem_nil, or_false] at hb
  rcases hb with rfl | rfl
  ·exact n2
  ·exact n1
set_option maxHeartbeats 4000000 in
theorem step_inv (k : Nat) {s' : St} {i : Nat} (h : HInv w0 W bh bos vN vG vP vA vE vD LA LC s) (hi : i < s.ones.length) (hn : s.ones.length ≤ 1000) (hl : (s.ones.getD i zOne).l.length ≤ 1000) (hs : stepO k s i = some s') :
  Calls Try.prog 87 #[.pointer (some ⟨bh, 0, none⟩), .int .i64 (i : Int)] W fun e w' => e = .returned (.tuple #[]) ∧ ∃ vE', HOk w0 w' bh bos vA vE' LA LC (fun u => ∀ j, j ≠ i → u j = vD j) s' ∧ K71 W w' := by
 obtain ⟨A5, c5, y5⟩ := Kd.R_slice h.a
 subst y5
 have hlen := h.len
 have n1 : N71 W bh := N71.of h.hall (by decide)
 have n2 : N71 W (bos.getD i 0) := N71.of (h.box i hi) (by decide)
 have n3 := N71.row h.e (by decide)
 have n4 := N71.row (h.d i hi) (by decide)
 obtain ⟨ad, c, hA, _, hK, hc⟩ := Kd.C_get (Kd.R_reads' h.a).2.2 0 (i : Int) (by omega) (by omega)
 subst hA
 have hp : W.cell? (ad.add i) = some (.pointer (some ⟨bos.getD i 0, 0, none⟩)) := by
  rw [Int.toNat_natCast] at hK hc
  have hK : c = [.pointer (some ⟨bos.getD i 0, 0, none⟩)] := hK
  have := hc 0 (.pointer (some ⟨bos.getD i 0, 0, none⟩)) (by rw [hK]; rfl)
  have e : i * kptr.sz + 0 = i := by show i * 1 + 0 = i; omega
  rw [e] at this
  exact this
 unfold stepO at hs
 by_cases hat : (s.ones.getD i zOne).at_ < (s.ones.getD i zOne).l.length
 ·rw [if_pos hat] at hs
  obtain ⟨s1, hm, hs⟩ := Option.bind_eq_some_iff.1 hs
  split at hs
  ·rename_i hev
   obtain rfl := Option.some.inj hs
   unfold midO at hm
   have hB0 := h.b0
   have hB1 := h.old i hi
   by_cases h0 : (s.ones.getD i zOne).st = 0
   ·rw [if_pos h0] at hm
    obtain rfl := Option.some.inj hm
    have hbx := h.box i hi
    rw [h0] at hbx ⊢
    refine (step_walk0 (fun w => HOk w0 w bh bos (.slice (some ad) bos.length c5) vE LA LC (fun u => ∀ j, j ≠ i → u j = vD j) s ∧ K71 W w) i h.hall hbx (by omega) hp hl hat (by omega) (fun W' hb => (begin_calls W' _ _).mono fun e w' ⟨he, hw⟩ => ⟨he, ⟨vN, vG, vP, vD, fun _ _ => rfl, by rw [hw]; exact h.below hb⟩, by rw [hw]; exact (K71.refl _).below hb⟩) (fun w' hq => by have := HOk.mid hi hq.1; rw [h0] at this; exact this) hev (fun _ _ _ _ => trivial) hB0 hB1).mono fun e w' ⟨he, hq⟩ => ⟨he, HOk.close hi rfl h0 n1 n2 n3 hq⟩
   ·rw [if_neg h0] at hm
    by_cases h1 : (s.ones.getD i zOne).st = 1
    ·rw [if_pos h1] at hm
     obtain ⟨⟨N', G', P', r4, r5⟩, hd, hm⟩ := Option.bind_eq_some_iff.1 hm
     obtain rfl := Option.some.inj hm
     have hbx := h.box i hi
     have hi' : i < (s.ones.set i { s.ones.getD i zOne with g := r4, e := r5 }).length := by simpa using hi
     have hgi : (s.ones.set i { s.ones.getD i zOne with g := r4, e := r5 }).getD i zOne = { s.ones.getD i zOne with g := r4, e := r5 } := by rw [set_getD, if_pos ⟨rfl, hi⟩]
     rw [h1] at hbx ⊢
     refine (step_walk1 (fun w => HOk w0 w bh bos (.slice (some ad) bos.length c5) vE LA LC (fun u => ∀ j, j ≠ i → u j = vD j) { s with N := N', G := G', P := P', ones := s.ones.set i { s.ones.getD i zOne with g := r4, e := r5 } } ∧ K71 W w) i h.hall hbx (by omega) hp hl hat (by omega) (fun W' hb => ?_) (fun w' hq => ?_) hev (fun _ _ _ _ => trivial) hB0 hB1).mono fun e w' ⟨he, hq⟩ => ⟨he, HOk.close hi' (by dsimp only; rw [hgi]) (by dsimp only; rw [hgi]; exact h1) n1 n2 n3 hq⟩
     ·have h' := h.below hb
      obtain ⟨AN, cN, e1⟩ := Kd.R_slice h'.n
      obtain ⟨AG, cG, e2⟩ := Kd.R_slice h'.g
      obtain ⟨AP, cP, e3⟩ := Kd.R_slice h'.p
      subst e1 e2 e3
      have hL := h'.l i hi
      refine (act_calls k h'.hall (h'.box i hi) ⟨(Kd.R_reads' h'.n).2.2, (Kd.R_reads' h'.n).2.1, (Kd.R_reads' h'.g).2.2, (Kd.R_reads' h'.g).2.1, (Kd.R_reads' h'.p).2.2, (Kd.R_reads' h'.p).2.1⟩ (Kd.C_below hL.1 h'.bel) hl hat hd).mono fun e w' ⟨he, w1, v0, v1, v2, q, hw, hb1, k0, k1, k2⟩ => ⟨he, ⟨v0, v1, v2, vD, fun _ _ => rfl, ?_⟩, ?_⟩
      ·rw [hw]
       exact h'.act hi hb1 k0 k1 k2
      ·rw [hw]
       refine K71.mv (bs := [bos.getD i 0, bos.getD i 0, bh, bh, bh]) (((K71.refl W).below hb).below hb1) inferInstance (fun b hb => ?_)
       simp only [List.mem_cons, List.not_mem_nil, or_false] at hb
       rcases hb with rfl | rfl | rfl | rfl | rfl
       ·exact n2
       ·exact n2
       ·exact n1
       ·exact n1
       ·exact n1
     ·have := HOk.mid hi' hq.1
      dsimp only at this
      rw [hgi] at this
      dsimp only at this
      rw [h1] at this
      exact this
    ·rw [if_neg h1] at hm
     by_cases h2 : (s.ones.getD i zOne).st = 2 ∧ (s.ones.getD i zOne).ended.length ≤ 1000
     ·rw [if_pos h2] at hm
      obtain rfl := Option.some.inj hm
      obtain ⟨h2, hel⟩ := h2
      have hbx := h.box i hi
      have hi' : i < (s.ones.set i { s.ones.getD i zOne with ended := (s.ones.getD i zOne).ended ++ [⟨(s.ones.getD i zOne).g, (s.ones.getD i zOne).e⟩] }).length := by simpa using hi
      have hgi : (s.ones.set i { s.ones.getD i zOne with ended := (s.ones.getD i zOne).ended ++ [⟨(s.ones.getD i zOne).g, (s.ones.getD i zOne).e⟩] }).getD i zOne = { s.ones.getD i zOne with ended := (s.ones.getD i zOne).ended ++ [⟨(s.ones.getD i zOne).g, (s.ones.getD i zOne).e⟩] } := by rw [set_getD, if_pos ⟨rfl, hi⟩]
      rw [h2] at hbx ⊢
      refine (step_walk2 (fun w => HOk w0 w bh bos (.slice (some ad) bos.length c5) vE LA LC (fun u => ∀ j, j ≠ i → u j = vD j) { s with ones := s.ones.set i { s.ones.getD i zOne with ended := (s.ones.getD i zOne).ended ++ [⟨(s.ones.getD i zOne).g, (s.ones.getD i zOne).e⟩] } } ∧ K71 W w) i h.hall hbx (by omega) hp hl hat (by omega) (fun W' hb => ?_) (fun w' hq => ?_) hev (fun _ _ _ _ => trivial) hB0 hB1).mono fun e w' ⟨he, hq⟩ => ⟨he, HOk.close hi' (by dsimp only; rw [hgi]) (by dsimp only; rw [hgi]; exact h2) n1 n2 n3 hq⟩
      ·have h' := h.below hb
       refine (end_calls (w0 := w0) (ok := fun _ => True) (h'.box i hi) (Kd.R_mono (h'.d i hi) (fun _ _ => trivial)) h'.bel hel (fun _ _ => trivial)).mono fun e w' ⟨he, w1, v1, hw, k1, hb1, hg, hv⟩ => ⟨he, ⟨vN, vG, vP, fun j => if j = i then v1 else vD j, fun j hj => if_neg hj, ?_⟩, ?_⟩
       ·rw [hw]
        exact h'.end_ hi k1 hg hv hb1
       ·rw [hw]
        refine K71.mv (bs := [bos.getD i 0]) (((K71.refl W).below hb).mv (Mv.of_grown hg) n4) inferInstance (fun b hb => ?_)
        simp only [List.mem_cons, List.not_mem_nil, or_false] at hb
        rw [hb]
        exact n2
      ·have := HOk.mid hi' hq.1
       dsimp only at this
       rw [hgi] at this
       dsimp only at this
       rw [h2] at this
       exact this
     ·rw [if_neg h2] at hm; cases hm
  ·cases hs
 ·rw [if_neg hat] at hs
  obtain rfl := Option.some.inj hs
  exact (step_no i h.hall (h.box i hi) (by omega) hp hl hat (by omega)).mono fun e w' ⟨he, q, hw⟩ => ⟨he, vE, ⟨vN, vG, vP, vD, fun _ _ => rfl, by rw [hw]; exact h.below (pw_below_drewN (Below.refl _ _) _)⟩, by rw [hw]; exact (K71.refl _).below (pw_below_drewN (Below.refl _ _) _)⟩
end
def manyB (x : List S76) : Bool := decide (x.length > 50)
set_option maxHeartbeats 4000000 in
set_option maxRecDepth 100000 in
theorem many_calls (W : World) (A : Option Addr) (c : Nat) (x : List S76) (hr : k76.C W A x.length x) :
  Calls Try.prog 84 #[.slice A x.length c] W fun e w' => e = .returned (.bool (manyB x)) ∧ Below W.heap.size W w' := by
 have hmax := hr.2.1
 unfold manyB
 obtain ⟨v, hv⟩ : ∃ v, v = decide (x.length > 50) := ⟨_, rfl⟩
 have HV : decide ((50 : Int) < (x.length : Int)) = v := by rw [hv]; exact decide_eq_decide.2 (by omega)
 rw [← hv]
 clear hr hv
 go_enter Try.func84, Try.ntmps84
 go_wp2
 go_ret
 exact ⟨by first | rfl | rw [HV], Below.refl _ _⟩
set_option maxHeartbeats 8000000 in
set_option maxRecDepth 100000 in
theorem many_index {A : Option Addr} {c : Nat} {l : List (List S76)} {fn : Value} (w : World) (hr : Kd.C (Kd.slice 76 k76) w A l.length l) (hc : l.length ≤ c) (hfn : fn = .func (.func 84) #[] #[]) :
  Calls Try.prog 99 #[.slice A l.length c, fn] w fun e w' => e = .returned (.int .i64 (fidxN [] manyB l l.length 0)) ∧ Below w.heap.size w w' := by
 subst hfn
 have hmax := hr.2.1
 have HR := Aside0.mk hr
 obtain ⟨v, hv⟩ : ∃ v, v = fidxN [] manyB l l.length 0 := ⟨_, rfl⟩
 rw [← hv]
 have HV := Aside0.mk hv.symm
 clear hr hc hv
 go_enter Try.func99, Try.ntmps99
 go_wp2
 go_loopw [8] (fun i wr => ∃ k : Nat, k ≤ l.length ∧ i = .int .i64 k ∧ Aside0 (fidxN [] manyB l (l.length - k) k = v) ∧ Aside0 (Below w.heap.size w wr)) (fun i _ => l.length - (intOf i).toNat)
 case atStart => exact ⟨0, Nat.zero_le _, rfl, ⟨HV.out⟩, ⟨Below.refl _ _⟩⟩
 case round =>
  obtain ⟨k, hk, rfl, HI, HB⟩ := hrel
  by_cases hlt : k < l.length
  ·obtain ⟨ad, A1, c1, rfl, hcell, hl1, hi1⟩ := at_L5 (Kd.C_below HR.out HB.out) (k : Int) (by omega) (by omega)
   obtain ⟨x, hx⟩ : ∃ x, x = l.getD k [] := ⟨_, rfl⟩
   have hstep : fidxN [] manyB l (l.length - k) k = if manyB x = true then (k : Int) else fidxN [] manyB l (l.length - (k + 1)) (k + 1) := by
    rw [show l.length - k = (l.length - (k + 1)) + 1 by omega, fidxN, ← hx]
   rw [Int.toNat_natCast, show rd_L5 l (k : Int) = x from by rw [hx]; simp [rd_L5]] at hcell
   rw [show rd_L5 l (k : Int) = x from by rw [hx]; simp [rd_L5]] at hi1
   have HCF := Aside0.mk (many_calls wr A1 c1 x hi1)
   rw [HI.out] at hstep
   clear hl1 hi1
   cases hfx : manyB x with
   | true =>
    rw [hfx] at hstep HCF
    rw [if_pos rfl] at hstep
    have HS := Aside0.mk hstep
    clear hstep hfx hx
    go_wp2_with (go_at_call 84; refine HCF.out.mono ?_; rintro e w1 ⟨rfl, hb1⟩; have HB1 := Aside0.mk (below_then HB.out HB.out.size hb1); clear hb1)
    go_ret
    exact ⟨by rw [HS.out]; rfl, HB1.out⟩
   | false =>
    rw [hfx] at hstep HCF
    rw [if_neg (by decide)] at hstep
    have HS := Aside0.mk hstep
    clear hstep hfx hx
    go_wp2_with (go_at_call 84; refine HCF.out.mono ?_; rintro e w1 ⟨rfl, hb1⟩; have HB1 := Aside0.mk (below_then HB.out HB.out.size hb1); clear hb1)
    go_roundw
    case rel => exact ⟨k + 1, by omega, by go_num, ⟨HS.out.symm⟩, HB1⟩
    case measure => simp [intOf]; omega
  ·obtain rfl : k = l.length := by omega
   have HE := Aside0.mk (show v = -1 from by rw [← HI.out, Nat.sub_self]; rfl)
   go_wp2
   go_ret
   exact ⟨by rw [HE.out]; rfl, HB.out⟩
set_option maxHeartbeats 4000000 in
set_option maxRecDepth 100000 in
theorem many_contains {A : Option Addr} {c : Nat} {l : List (List S76)} {fn : Value} (w : World) (hr : Kd.C (Kd.slice 76 k76) w A l.length l) (hc : l.length ≤ c) (hfn : fn = .func (.func 84) #[] #[]) :
  Calls Try.prog 85 #[.slice A l.length c, fn] w fun e w' => e = .returned (.bool (l.any manyB)) ∧ Below w.heap.size w w' := by
 have HI := Aside0.mk (many_index w hr hc hfn)
 obtain ⟨v, hv⟩ : ∃ v, v = fidxN [] manyB l l.length 0 := ⟨_, rfl⟩
 obtain ⟨r, hrr⟩ : ∃ r, r = l.any manyB := ⟨_, rfl⟩
 have he : decide (0 ≤ v) = r := by rw [hv, hrr]; exact fidx_any _ manyB l
 rw [← hv] at HI
 rw [← hrr]
 clear hr hc hv hrr hfn
 go_enter Try.func85, Try.ntmps85
 go_wp2_with (go_at_call 99; refine HI.out.mono ?_; rintro e w1 ⟨rfl, hb1⟩; have HB1 := Aside0.mk hb1; clear hb1)
 go_ret
 exact ⟨by first | rfl | rw [he], HB1.out⟩
theorem cown_some (N : List S48) (G P : List Int) (k : Nat) (h : lim3 N G P = true) : calls_own.f k N G P = some (N, G, P) := by
 unfold lim3 at h
 simp only [Bool.and_eq_true] at h
 unfold calls_own.f api_Node_94.f slices_Clone_int_int.f
 rw [if_pos h.1, if_pos h.2.1, if_pos h.2.2]
 rfl
theorem cown_calls {w : World} {AN AG AP : Option Addr} {cN cG cP : Nat} {N : List S48} {G P : List Int} (h : MemoAt w AN cN N AG cG G AP cP P) (hl : lim3 N G P = true) :
  Calls Try.prog 86 #[.agg #[.slice AN N.length cN, .slice AG G.length cG, .slice AP P.length cP]] w fun e w' => ∃ v0_ v1_ v2_ : Value, e = .returned (.agg #[v0_, v1_, v2_]) ∧ Kd.R k48 48 w' w.heap.size (fun _ => True) v0_ N ∧ Kd.R (Kd.int .i64) 3 w' w.heap.size (fun k_ => some k_ ≠ (v2_ : Value).ownBlock) v1_ G ∧ Kd.R (Kd.int .i64) 3 w' w.heap.size (fun k_ => some k_ ≠ (v1_ : Value).ownBlock) v2_ P ∧ Below w.heap.size w w' :=
 calls_own.calls 0 AN cN N AG cG G AP cP P _ _ _ w h.n h.nc h.g h.gc h.p h.pc (cown_some N G P 0 hl)
set_option maxHeartbeats 16000000 in
set_option maxRecDepth 100000 in
theorem Run_no {w : World} {AN AG AP : Option Addr} {cN cG cP : Nat} {N : List S48} {G P : List Int} {A1 A2 : Option Addr} {c1 c2 : Nat} {l : List (List S76)} {s : List Int} (h : MemoAt w AN cN N AG cG G AP cP P) (hL : Kd.C (Kd.slice 76 k76) w A1 l.length l) (hc : l.length ≤ c1) (hl : lim3 N G P = true) (hno : 64 < l.length ∨ (¬ 64 < l.length ∧ l.any manyB = true)) :
  Calls Try.prog 59 #[.agg #[.slice AN N.length cN, .slice AG G.length cG, .slice AP P.length cP], .slice A1 l.length c1, .slice A2 s.length c2] w fun e w' => ∃ v0_ v1_ v2_ : Value, e = .returned (.tuple #[.agg #[v0_, v1_, v2_], .slice none 0 0, .slice none 0 0]) ∧ Kd.R k48 48 w' w.heap.size (fun _ => True) v0_ N ∧ Kd.R (Kd.int .i64) 3 w' w.heap.size (fun k_ => some k_ ≠ (v2_ : Value).ownBlock) v1_ G ∧ Kd.R (Kd.int .i64) 3 w' w.heap.size (fun k_ => some k_ ≠ (v1_ : Value).ownBlock) v2_ P ∧ Below w.heap.size w w' := by
 obtain ⟨hb, hn, hbb⟩ := res_new w AN cN N AG cG G AP cP P
 obtain ⟨hd0, hd1, hd2⟩ := hb.cells
 have HBX := Aside0.mk hb
 have HNX := Aside0.mk hn
 have HM := Aside0.mk (h.below hbb)
 have HBB := Aside0.mk hbb
 have hmax := hL.2.1
 have HC := Aside0.mk (many_contains _ (Kd.C_below hL hbb) hc rfl)
 have HO := Aside0.mk (fun (W : World) (h : MemoAt W AN cN N AG cG G AP cP P) => cown_calls h hl)
 clear h hb hn hbb hl hL hc
 have fin : ∀ {W w4 : World} {B0 B1 B2 : Option Addr} {d0 d1 d2 : Nat}, Aside0 (Below ((w.alloc (.cells #[.slice AN N.length cN, .slice AG G.length cG, .slice AP P.length cP] 38)).alloc (.cells #[.slice none 0 0, .slice none 0 0, .slice none 0 0] 38)).heap.size ((w.alloc (.cells #[.slice AN N.length cN, .slice AG G.length cG, .slice AP P.length cP] 38)).alloc (.cells #[.slice none 0 0, .slice none 0 0, .slice none 0 0] 38)) W) → Aside0 (Below W.heap.size W w4) → Aside0 (Kd.R k48 48 w4 W.heap.size (fun _ => True) (.slice B0 N.length d0) N) → Aside0 (Kd.R (Kd.int .i64) 3 w4 W.heap.size (fun k_ => some k_ ≠ (Value.slice B2 P.length d2).ownBlock) (.slice B1 G.length d1) G) → Aside0 (Kd.R (Kd.int .i64) 3 w4 W.heap.size (fun k_ => some k_ ≠ (Value.slice B1 G.length d1).ownBlock) (.slice B2 P.length d2) P) → Kd.R k48 48 (((w4.setCell ⟨w.heap.size + 1, 0, none⟩ (.slice B0 N.length d0)).setCell ⟨w.heap.size + 1, 1, none⟩ (.slice B1 G.length d1)).setCell ⟨w.heap.size + 1, 2, none⟩ (.slice B2 P.length d2)) w.heap.size (fun _ => True) (.slice B0 N.length d0) N ∧ Kd.R (Kd.int .i64) 3 (((w4.setCell ⟨w.heap.size + 1, 0, none⟩ (.slice B0 N.length d0)).setCell ⟨w.heap.size + 1, 1, none⟩ (.slice B1 G.length d1)).setCell ⟨w.heap.size + 1, 2, none⟩ (.slice B2 P.length d2)) w.heap.size (fun k => some k ≠ (Value.slice B2 P.length d2).ownBlock) (.slice B1 G.length d1) G ∧ Kd.R (Kd.int .i64) 3 (((w4.setCell ⟨w.heap.size + 1, 0, none⟩ (.slice B0 N.length d0)).setCell ⟨w.heap.size + 1, 1, none⟩ (.slice B1 G.length d1)).setCell ⟨w.heap.size + 1, 2, none⟩ (.slice B2 P.length d2)) w.heap.size (fun k => some k ≠ (Value.slice B1 G.length d1).ownBlock) (.slice B2 P.length d2) P ∧ Below w.heap.size w (((w4.setCell ⟨w.heap.size + 1, 0, none⟩ (.slice B0 N.length d0)).setCell ⟨w.heap.size + 1, 1, none⟩ (.slice B1 G.length d1)).setCell ⟨w.heap.size + 1, 2, none⟩ (.slice B2 P.length d2)) := by
  intro W w4 B0 B1 B2 d0 d1 d2 HB1 HB4 HR0 HR1 HR2
  have hW : w.heap.size ≤ W.heap.size := by have := HB1.out.size; have := HBB.out.size; omega
  exact res_put (w := w) ((HB4.out.block _ (blk_lt ((HB1.out.block _ (blk_lt HNX.out)).trans HNX.out))).trans ((HB1.out.block _ (blk_lt HNX.out)).trans HNX.out)) (by omega) (below_then HBB.out HBB.out.size (HB1.out.trans (HB4.out.mono HB1.out.size))) (Kd.R_lower HR0.out hW) (Kd.R_lower HR1.out hW) (Kd.R_lower HR2.out hW)
 have HF := Aside0.mk @fin
 clear fin
 rcases hno with hlt | ⟨hlt, hany⟩
 ·have d1 : decide ((64 : Int) < (l.length : Int)) = true := decide_eq_true (by omega)
  have HB1 := Aside0.mk (Below.refl ((w.alloc (.cells #[.slice AN N.length cN, .slice AG G.length cG, .slice AP P.length cP] 38)).alloc (.cells #[.slice none 0 0, .slice none 0 0, .slice none 0 0] 38)).heap.size ((w.alloc (.cells #[.slice AN N.length cN, .slice AG G.length cG, .slice AP P.length cP] 38)).alloc (.cells #[.slice none 0 0, .slice none 0 0, .slice none 0 0] 38)))
  clear hlt
  go_enter Try.func59, Try.ntmps59
  go_wp2_with (first | (go_at_call 86; (refine (HO.out _ (HM.out.below HB1.out)).mono ?_; rintro e w4 ⟨v0, v1, v2, rfl, hr0, hr1, hr2, hb4⟩; obtain ⟨B0, d0, e0⟩ := Kd.R_slice hr0; obtain ⟨B1, d1, e1⟩ := Kd.R_slice hr1; obtain ⟨B2, d2, e2⟩ := Kd.R_slice hr2; subst e0 e1 e2; have HR0 := Aside0.mk hr0; have HR1 := Aside0.mk hr1; have HR2 := Aside0.mk hr2; have HB4 := Aside0.mk hb4; have h6 := (((HB1.out.trans (hb4.mono HB1.out.size)).block _ (blk_lt HNX.out)).trans HNX.out); have H6 := Aside0.mk h6; have hx0 : w4.cell? ⟨w.heap.size + 1, 0, none⟩ = some (.slice none 0 0) := (blk_cell h6 0).trans rfl; have hx1 : w4.cell? ⟨w.heap.size + 1, 1, none⟩ = some (.slice none 0 0) := (blk_cell h6 1).trans rfl; have hx2 : w4.cell? ⟨w.heap.size + 1, 2, none⟩ = some (.slice none 0 0) := (blk_cell h6 2).trans rfl; have hy0 := blk_frozen h6 0; have hy1 := blk_frozen h6 1; have hy2 := blk_frozen h6 2; clear hr0 hr1 hr2 hb4 h6)))
  have hR := HF.out HB1 HB4 HR0 HR1 HR2
  refine bodyPost_ret (v := .tuple #[.agg #[.slice B0 N.length d0, .slice B1 G.length d1, .slice B2 P.length d2], .slice none 0 0, .slice none 0 0]) (by simp [results, Try.results59, go_sem, hx0, hx1, hx2]) rfl ⟨_, _, _, rfl, hR⟩
 ·have d1 : decide ((64 : Int) < (l.length : Int)) = false := decide_eq_false (by omega)
  clear hlt
  rw [hany] at HC
  go_enter Try.func59, Try.ntmps59
  go_wp2_with (first | (go_at_call 85; refine HC.out.mono ?_; rintro e w1 ⟨rfl, hb1⟩; have HB1 := Aside0.mk hb1; obtain ⟨ha0, ha1, ha2⟩ := (HBX.out.below hb1).cells; clear hb1) | (go_at_call 86; (refine (HO.out _ (HM.out.below HB1.out)).mono ?_; rintro e w4 ⟨v0, v1, v2, rfl, hr0, hr1, hr2, hb4⟩; obtain ⟨B0, d0, e0⟩ := Kd.R_slice hr0; obtain ⟨B1, d1, e1⟩ := Kd.R_slice hr1; obtain ⟨B2, d2, e2⟩ := Kd.R_slice hr2; subst e0 e1 e2; have HR0 := Aside0.mk hr0; have HR1 := Aside0.mk hr1; have HR2 := Aside0.mk hr2; have HB4 := Aside0.mk hb4; have h6 := (((HB1.out.trans (hb4.mono HB1.out.size)).block _ (blk_lt HNX.out)).trans HNX.out); have H6 := Aside0.mk h6; have hx0 : w4.cell? ⟨w.heap.size + 1, 0, none⟩ = some (.slice none 0 0) := (blk_cell h6 0).trans rfl; have hx1 : w4.cell? ⟨w.heap.size + 1, 1, none⟩ = some (.slice none 0 0) := (blk_cell h6 1).trans rfl; have hx2 : w4.cell? ⟨w.heap.size + 1, 2, none⟩ = some (.slice none 0 0) := (blk_cell h6 2).trans rfl; have hy0 := blk_frozen h6 0; have hy1 := blk_frozen h6 1; have hy2 := blk_frozen h6 2; clear hr0 hr1 hr2 hb4 h6)))
  have hR := HF.out HB1 HB4 HR0 HR1 HR2
  refine bodyPost_ret (v := .tuple #[.agg #[.slice B0 N.length d0, .slice B1 G.length d1, .slice B2 P.length d2], .slice none 0 0, .slice none 0 0]) (by simp [results, Try.results59, go_sem, hx0, hx1, hx2]) rfl ⟨_, _, _, rfl, hR⟩
def scriptO (k n : Nat) : List Int → St → Option St
 | [], s => some s
 | x :: t, s => if 0 ≤ x ∧ 0 < n then (stepO k s (x.toNat % n)).bind (scriptO k n t) else scriptO k n t s
def finO (k i : Nat) : Nat → St → Option St
 | 0, _ => none
 | f + 1, s => if (s.ones.getD i zOne).at_ < (s.ones.getD i zOne).l.length then (stepO k s i).bind (finO k i f) else some s
def lastO (k : Nat) : Nat → Nat → St → Option St
 | 0, _, s => some s
 | d + 1, i, s => (finO k i k s).bind (lastO k d (i + 1))
theorem bump_keeps (o : One) : (bump o).l = o.l := (bump_l o).1
def Keeps (s s' : St) : Prop := s'.ones.length = s.ones.length ∧ ∀ j, (s'.ones.getD j zOne).l = (s.ones.getD j zOne).l
theorem Keeps.refl (s : St) : Keeps s s := ⟨rfl, fun _ => rfl⟩
theorem Keeps.trans {a b c : St} (h : Keeps a b) (h' : Keeps b c) : Keeps a c := ⟨h'.1.trans h.1, fun j => (h'.2 j).trans (h.2 j)⟩
theorem Keeps.set {s : St} {N : List S48} {G P : List Int} {ev : List S68} {i : Nat} {o : One} (ho : o.l = (s.ones.getD i zOne).l) : Keeps s { N := N, G := G, P := P, ev := ev, ones := s.ones.set i o } := by
 refine ⟨by simp, fun j => ?_⟩
 dsimp only
 rw [set_getD]
 split
 ·rename_i h
  rw [h.1]; exact ho
 ·rfl
theorem midO_keeps {k i : Nat} {s s' : St} (h : midO k s i = some s') : Keeps s s' := by
 unfold midO at h
 split at h
 ·obtain rfl := Option.some.inj h
  exact Keeps.refl _
 ·split at h
  ·obtain ⟨r, _, h⟩ := Option.bind_eq_some_iff.1 h
   obtain rfl := Option.some.inj h
   exact Keeps.set rfl
  ·split at h
   ·obtain rfl := Option.some.inj h
    exact Keeps.set rfl
   ·cases h
theorem stepO_keeps {k i : Nat} {s s' : St} (h : stepO k s i = some s') : Keeps s s' := by
 unfold stepO at h
 split at h
 ·obtain ⟨s1, h1, h⟩ := Option.bind_eq_some_iff.1 h
  split at h
  ·obtain rfl := Option.some.inj h
   exact (midO_keeps h1).trans (Keeps.set (bump_keeps _))
  ·cases h
 ·obtain rfl := Option.some.inj h
  exact Keeps.refl _
section
variable {w0 W W' : World} {bh : Nat} {bos : List Nat} {vN vG vP vA vE : Value} {vD : Nat → Value} {LA : Nat → Option Addr} {LC : Nat → Nat} {s : St} {bs : List Nat}
theorem HInv.grow (h : HInv w0 W bh bos vN vG vP vA vE vD LA LC s) (i : Mv W W' bs) (hbs : ∀ b, b ∈ bs → ∃ cells, W.heap[b]? = some (.cells cells 71 (0, 0))) (hb : Below w0.heap.size w0 W') : HInv w0 W' bh bos vN vG vP vA vE vD LA LC s := by
 have far : ∀ {α : Type} {d : Kd α} {e base : Nat} {ok : Nat → Prop} {v : Value} {xs : List α}, d.R e W base ok v xs → e ≠ 71 → ∀ b, b ∈ bs → some b ≠ v.ownBlock := by
  intro α d e base ok v xs hr he b hb
  obtain ⟨c, hc⟩ := hbs b hb
  exact Kd.R_ne hr hc he
 have fbox : ∀ {g t : Nat} {cells : Array Value}, W.heap[g]? = some (.cells cells t (0, 0)) → t ≠ 71 → ∀ b, b ∈ bs → g ≠ b := by
  intro g t cells hc ht b hb e
  subst e
  obtain ⟨c, hc'⟩ := hbs g hb
  rw [hc] at hc'
  injection hc' with hc'
  injection hc' with _ hc'
  exact ht hc'
 exact ⟨hb, h.b0, blk_mv h.hall i (fbox h.hall (by decide)), R_mv h.n i (far h.n (by decide)), R_mv h.g i (far h.g (by decide)), R_mv h.p i (far h.p (by decide)), h.gp, R_mv h.e i (far h.e (by decide)), R_mv h.a i (far h.a (by decide)), h.len, fun j hj => blk_mv (h.box j hj) i (fbox (h.box j hj) (by decide)), h.old, fun j hj => R_mv (h.d j hj) i (far (h.d j hj) (by decide)), h.dd, h.inj, h.l⟩
end
theorem S_of_raw {w : World} {base : Nat} {ok : Nat → Prop} {v : Value} {u : Nat → Value} {xs : List (List S73)} (h : (Kd.raw 1).R 71 w base ok v ((List.range xs.length).map fun j => [u j]))
  (hd : ∀ j, j < xs.length → Kd.R k73 73 w base (tight (u j)) (u j) (xs.getD j [])) (dd : ∀ a b, a < xs.length → b < xs.length → a ≠ b → ∀ k, some k = (u a).ownBlock → some k ≠ (u b).ownBlock) :
  Kd.S (Kd.slice 73 k73) 71 w base (fun _ => True) v xs := by
 classical
 have hty := own_typed (Kd.R_own h).choose_spec
 obtain ⟨h0, inner, ho, hr⟩ := h
 have hl : ((List.range xs.length).map fun j => [u j]).length = xs.length := by simp
 let f : Nat → Nat := fun k => if hk : ∃ j, j < xs.length ∧ some k = (u j).ownBlock then hk.choose else 0
 have hf : ∀ j k, j < xs.length → some k = (u j).ownBlock → f k = j := by
  intro j k hj hk
  have hex : ∃ j, j < xs.length ∧ some k = (u j).ownBlock := ⟨j, hj, hk⟩
  show (if hk : ∃ j, j < xs.length ∧ some k = (u j).ownBlock then hk.choose else 0) = j
  rw [dif_pos hex]
  obtain ⟨h1, h2⟩ := hex.choose_spec
  by_cases e : hex.choose = j
  ·exact e
  ·exact absurd hk (dd _ _ h1 hj e k h2)
 refine ⟨f, fun k hk => trivial, inner, ?_, ?_, fun j p hj => ?_⟩
 ·rw [List.length_zipIdx]; rw [hl] at ho; exact ho
 ·rw [List.length_zipIdx]; have := hr.1; rw [hl] at this; exact this
 ·obtain ⟨hjl, hp⟩ := List.getElem?_eq_some_iff.1 hj
  rw [List.length_zipIdx] at hjl
  have hp : p = (xs.getD j [], j) := by
   rw [← hp, List.getElem_zipIdx, List.getD_eq_getElem?_getD, List.getElem?_eq_getElem hjl]; simp
  subst hp
  have hu := hr.2 j [u j] (by simp [hjl])
  have hu : _ = [u j] ∧ _ := hu
  refine ⟨u j, hu.1, Kd.R_mono (hd j hjl) (fun k hk => ⟨⟨trivial, fun e => ?_⟩, hf j k hjl hk⟩)⟩
  obtain ⟨c, hc⟩ := hty k e.symm
  exact Kd.R_ne (hd j hjl) hc (by decide) hk
theorem info105' : (Try.prog.info? 105).map (fun i => (i.zero, i.size, i.bytes)) = some (some (.pointer none), 1, 8) := by kernel_rfl
theorem kptr_mkM (w : World) (base : Nat) (ok : Nat → Prop) (x : Nat) : kptr.M w base ok x [.pointer (some ⟨x, 0, none⟩)] := rfl
def In1 (w wr : World) (bh : Nat) (N : List S48) (G P : List Int) (l : List (List S76)) : Prop := ∃ bos vN vG vP vA vE vD LA LC, HInv w wr bh bos vN vG vP vA vE vD LA LC ⟨N, G, P, [], l.map mkOne⟩
theorem HInv.start {w W : World} {v0 v1 v2 : Value} {N : List S48} {G P : List Int} (hb : Below w.heap.size w W) (h0 : Kd.R k48 48 W w.heap.size (fun _ => True) v0 N) (h1 : Kd.R (Kd.int .i64) 3 W w.heap.size (fun k => some k ≠ v2.ownBlock) v1 G) (h2 : Kd.R (Kd.int .i64) 3 W w.heap.size (fun k => some k ≠ v1.ownBlock) v2 P) :
  HInv w (W.alloc (.cells #[v0, v1, v2, .slice none 0 0, .slice none 0 0] 104)) W.heap.size [] v0 v1 v2 (.slice none 0 0) (.slice none 0 0) (fun _ => .slice none 0 0) (fun _ => none) (fun _ => 0) ⟨N, G, P, [], []⟩ := by
 have ha := below_alloc (Below.refl W.heap.size W) (.cells #[v0, v1, v2, .slice none 0 0, .slice none 0 0] 104)
 refine ⟨below_alloc hb _, hb.size, heap_alloc_new _ _, R_tight' rfl (Kd.R_below h0 ha), R_tight' rfl (Kd.R_below h1 ha), R_tight' rfl (Kd.R_below h2 ha), fun k hk => h1.1 k hk.symm, Kd.R_nil _ _ _ _ _, Kd.R_nil _ _ _ _ _, rfl, fun i hi => ?_, fun i hi => ?_, fun i hi => ?_, fun a b ha => ?_, fun a b ha => ?_, fun i hi => ?_⟩
 all_goals (simp at *)
theorem take_one {l : List (List S76)} {j : Nat} (h : j < l.length) : (l.take (j + 1)).map mkOne = (l.take j).map mkOne ++ [mkOne (l.getD j [])] := by
 rw [List.take_add_one, List.map_append, List.getD_eq_getElem?_getD, List.getElem?_eq_getElem h]; rfl
def In3 (w wr : World) (bh : Nat) (bos : List Nat) (vA : Value) (LA : Nat → Option Addr) (LC : Nat → Nat) (vD : Nat → Value) (s : St) : Prop := ∃ vN vG vP vE, HInv w wr bh bos vN vG vP vA vE vD LA LC s
theorem step_go (k : Nat) {w W : World} {bh : Nat} {bos : List Nat} {vA : Value} {LA : Nat → Option Addr} {LC : Nat → Nat} {vD : Nat → Value} {s s' : St} {i : Nat} {N : List S48} {G P : List Int} {l : List (List S76)} (h : In3 w W bh bos vA LA LC vD s) (hk : Keeps ⟨N, G, P, [], l.map mkOne⟩ s) (h50 : ∀ j, (l.getD j []).length ≤ 50) (h64 : l.length ≤ 64) (hi : i < l.length) (hs : stepO k s i = some s') :
  Calls Try.prog 87 #[.pointer (some ⟨bh, 0, none⟩), .int .i64 (i : Int)] W fun e w' => e = .returned (.tuple #[]) ∧ ∃ vD', (∀ j, j ≠ i → vD' j = vD j) ∧ In3 w w' bh bos vA LA LC vD' s' ∧ K71 W w' := by
 obtain ⟨vN, vG, vP, vE, h⟩ := h
 have hl1 : s.ones.length = l.length := by have := hk.1; simpa using this
 have hl2 : (s.ones.getD i zOne).l = l.getD i [] := by
  rw [hk.2 i]
  dsimp only
  rw [List.getD_eq_getElem?_getD, List.getElem?_map, List.getElem?_eq_getElem hi, List.getD_eq_getElem?_getD, List.getElem?_eq_getElem hi]; rfl
 refine (step_inv k h (by omega) (by omega) (by rw [hl2]; have := h50 i; omega) hs).mono fun e w' ⟨he, vE', ⟨vN', vG', vP', vD', hD, h'⟩, hk'⟩ => ⟨he, vD', hD, ⟨vN', vG', vP', vE', h'⟩, hk'⟩
theorem In3.below {w W W' : World} {bh : Nat} {bos : List Nat} {vA : Value} {LA : Nat → Option Addr} {LC : Nat → Nat} {vD : Nat → Value} {s : St} (h : In3 w W bh bos vA LA LC vD s) (hb : Below W.heap.size W W') : In3 w W' bh bos vA LA LC vD s := by
 obtain ⟨vN, vG, vP, vE, h⟩ := h
 exact ⟨vN, vG, vP, vE, h.below hb⟩
theorem In3.grow {w W W' : World} {bh : Nat} {bos : List Nat} {vA : Value} {LA : Nat → Option Addr} {LC : Nat → Nat} {vD : Nat → Value} {s : St} {base : Nat} {ok : Nat → Prop} {v : Value} {xs : List (List Value)} (h : In3 w W bh bos vA LA LC vD s) (hr : (Kd.raw 1).R 71 W base ok v xs) (hg : W.grownBy W' v.ownBlock) (hb : Below w.heap.size w W') : In3 w W' bh bos vA LA LC vD s := by
 obtain ⟨vN, vG, vP, vE, h⟩ := h
 refine ⟨vN, vG, vP, vE, h.grow (Mv.of_grown hg) (fun b hb => ?_) hb⟩
 obtain ⟨i, o⟩ := Kd.R_own hr
 exact own_typed o b (mem_own hb).symm
theorem Keeps.at {s : St} {i : Nat} {N : List S48} {G P : List Int} {l : List (List S76)} (hk : Keeps ⟨N, G, P, [], l.map mkOne⟩ s) (hi : i < l.length) : i < s.ones.length ∧ (s.ones.getD i zOne).l = l.getD i [] := by
 refine ⟨by rw [hk.1]; simpa using hi, ?_⟩
 rw [hk.2 i]
 dsimp only
 rw [List.getD_eq_getElem?_getD, List.getElem?_map, List.getElem?_eq_getElem hi, List.getD_eq_getElem?_getD, List.getElem?_eq_getElem hi]; rfl
theorem put_S {f : Nat → Nat} {wr : World} {base b : Nat} {x0 x1 x2 v0 v1 v2 v : Value} {ok : Nat → Prop} {xs : List (List S73 × Nat)} (h6 : wr.heap[b]? = some (.cells #[x0, x1, x2] 38 (0, 0))) (h : (Kd.tag f (Kd.slice 73 k73)).R 71 wr base ok v xs) :
  (Kd.tag f (Kd.slice 73 k73)).R 71 (((wr.setCell ⟨b, 0, none⟩ v0).setCell ⟨b, 1, none⟩ v1).setCell ⟨b, 2, none⟩ v2).drew base ok v xs := by
 have t1 := blk_put h6 0 v0 rfl
 have t2 := blk_put t1 1 v1 rfl
 have hE : ∀ q, q ∈ 71 :: (Kd.slice 73 k73).E → q ≠ 38 := by decide
 exact Kd.R_drew (Kd.R_set (Kd.R_set (Kd.R_set h h6 hE _ _) t1 hE _ _) t2 hE _ _)
theorem put_E {wr : World} {base b : Nat} {x0 x1 x2 v0 v1 v2 v : Value} {ok : Nat → Prop} {xs : List S68} (h6 : wr.heap[b]? = some (.cells #[x0, x1, x2] 38 (0, 0))) (h : Kd.R k68 68 wr base ok v xs) :
  Kd.R k68 68 (((wr.setCell ⟨b, 0, none⟩ v0).setCell ⟨b, 1, none⟩ v1).setCell ⟨b, 2, none⟩ v2).drew base ok v xs := by
 have t1 := blk_put h6 0 v0 rfl
 have t2 := blk_put t1 1 v1 rfl
 exact Kd.R_drew (Kd.R_set (Kd.R_set (Kd.R_set h h6 (by decide) _ _) t1 (by decide) _ _) t2 (by decide) _ _)
theorem ended_at {s : St} {n : Nat} (hl : s.ones.length = n) {j : Nat} (hj : j < n) : (s.ones.map One.ended).getD j [] = (s.ones.getD j zOne).ended := by
 subst hl
 rw [List.getD_eq_getElem?_getD, List.getElem?_map, List.getElem?_eq_getElem hj, List.getD_eq_getElem?_getD, List.getElem?_eq_getElem hj]; rfl
theorem raw_k71 {w w' : World} {base : Nat} {ok : Nat → Prop} {v : Value} {xs : List (List Value)} (h : (Kd.raw 1).R 71 w base ok v xs) (hk : K71 w w') : (Kd.raw 1).R 71 w' base ok v xs := by
 obtain ⟨h0, inner, ho, hr⟩ := h
 refine ⟨h0, inner, own_move ho (fun k hk' => ?_), hr⟩
 obtain ⟨c, hc⟩ := own_typed ho k hk'
 rw [hc]
 exact hk k 71 c (.inl rfl) hc
theorem range_agree {vD vD' : Nat → Value} {i : Nat} (h : ∀ j, j ≠ i → vD' j = vD j) : ((List.range i).map fun a => [vD' a]) = (List.range i).map fun a => [vD a] :=
 List.map_congr_left fun a ha => by rw [h a (by have := List.mem_range.1 ha; omega)]
set_option maxHeartbeats 16000000 in
set_option maxRecDepth 100000 in
theorem Run_yes (k : Nat) {w : World} {AN AG AP : Option Addr} {cN cG cP : Nat} {N : List S48} {G P : List Int} {A1 A2 : Option Addr} {c1 c2 : Nat} {l : List (List S76)} {sc : List Int} (h : MemoAt w AN cN N AG cG G AP cP P) (hL : Kd.C (Kd.slice 76 k76) w A1 l.length l) (hc : l.length ≤ c1) (hS : Kd.C (Kd.int .i64) w A2 sc.length sc) (hl : lim3 N G P = true) (h64 : ¬ 64 < l.length) (hany : l.any manyB = false) {s1 s2 : St} (hs : scriptO k l.length sc ⟨N, G, P, [], l.map mkOne⟩ = some s1) (hf : lastO k l.length 0 s1 = some s2) :
  Calls Try.prog 59 #[.agg #[.slice AN N.length cN, .slice AG G.length cG, .slice AP P.length cP], .slice A1 l.length c1, .slice A2 sc.length c2] w fun e w' => ∃ v0_ v1_ v2_ v3_ v4_ : Value, e = .returned (.tuple #[.agg #[v0_, v1_, v2_], v3_, v4_]) ∧ Kd.R k48 48 w' w.heap.size (fun _ => True) v0_ s2.N ∧ Kd.R (Kd.int .i64) 3 w' w.heap.size (fun k_ => some k_ ≠ (v2_ : Value).ownBlock) v1_ s2.G ∧ Kd.R (Kd.int .i64) 3 w' w.heap.size (fun k_ => some k_ ≠ (v1_ : Value).ownBlock) v2_ s2.P ∧ Kd.S (Kd.slice 73 k73) 71 w' w.heap.size (fun _ => True) v3_ (s2.ones.map One.ended) ∧ Kd.R k68 68 w' w.heap.size (fun _ => True) v4_ s2.ev ∧ Below w.heap.size w w' := by
 obtain ⟨hb, hn, hbb⟩ := res_new w AN cN N AG cG G AP cP P
 obtain ⟨hd0, hd1, hd2⟩ := hb.cells
 have HBX := Aside0.mk hb
 have HNX := Aside0.mk hn
 have HM := Aside0.mk (h.below hbb)
 have HBB := Aside0.mk hbb
 have hmax := hL.2.1
 have hmax2 := hS.2.1
 have HC := Aside0.mk (many_contains _ (Kd.C_below hL hbb) hc rfl)
 rw [hany] at HC
 have HO := Aside0.mk (fun (W : World) (h : MemoAt W AN cN N AG cG G AP cP P) => cown_calls h hl)
 have HL := Aside0.mk hL
 have HS := Aside0.mk hS
 have HS1 := Aside0.mk hs
 have HS2 := Aside0.mk hf
 have hm50 : ∀ j, (l.getD j []).length ≤ 50 := by
  intro j
  by_cases hj : j < l.length
  ·have := List.any_eq_false.1 hany (l.getD j []) (by rw [List.getD_eq_getElem?_getD, List.getElem?_eq_getElem hj]; exact List.getElem_mem _)
   unfold manyB at this
   simp only [decide_eq_true_eq] at this
   omega
  ·rw [List.getD_eq_getElem?_getD, List.getElem?_eq_none (by omega)]; simp
 have H50 := Aside0.mk hm50
 have d1 : decide ((64 : Int) < (l.length : Int)) = false := decide_eq_false (by omega)
 have H64 := Aside0.mk (show l.length ≤ 64 by omega)
 have hu := Try.underlying107
 have hu1 := Try.underlying104
 clear h hb hn hbb hl hL hc hS hs hf hany hm50 h64
 go_enter Try.func59, Try.ntmps59
 go_wp2_with (first | (go_at_call 85; refine HC.out.mono ?_; rintro e w1 ⟨rfl, hb1⟩; have HB1 := Aside0.mk hb1; obtain ⟨ha0, ha1, ha2⟩ := (HBX.out.below hb1).cells; clear hb1) | (go_at_call 86; (refine (HO.out _ (HM.out.below HB1.out)).mono ?_; rintro e w4 ⟨v0, v1, v2, rfl, hr0, hr1, hr2, hb4⟩; obtain ⟨B0, d0, e0⟩ := Kd.R_slice hr0; obtain ⟨B1, d1, e1⟩ := Kd.R_slice hr1; obtain ⟨B2, d2, e2⟩ := Kd.R_slice hr2; subst e0 e1 e2; have HR0 := Aside0.mk hr0; have HR1 := Aside0.mk hr1; have HR2 := Aside0.mk hr2; have HB4 := Aside0.mk hb4; have h6 := (((HB1.out.trans (hb4.mono HB1.out.size)).block _ (blk_lt HNX.out)).trans HNX.out); have H6 := Aside0.mk h6; clear hr0 hr1 hr2 hb4 h6)))
 go_loopw [34] (fun i wr => ∃ j : Nat, j ≤ l.length ∧ i = .int .i64 j ∧ Aside0 (In1 w wr w4.heap.size N G P (l.take j)) ∧ Aside0 (wr.heap[w.heap.size + 1]? = some (.cells #[.slice none 0 0, .slice none 0 0, .slice none 0 0] 38 (0, 0)))) (fun i _ => l.length - (intOf i).toNat)
 case atStart =>
  have hbw : Below w.heap.size w w4 := below_then HBB.out HBB.out.size (HB1.out.trans (HB4.out.mono HB1.out.size))
  have hs1 : w.heap.size ≤ w1.heap.size := by have := HB1.out.size; have := HBB.out.size; omega
  exact ⟨0, Nat.zero_le _, rfl, ⟨_, _, _, _, _, _, _, _, _, HInv.start hbw (Kd.R_lower HR0.out hs1) (Kd.R_lower HR1.out hs1) (Kd.R_lower HR2.out hs1)⟩, ⟨((below_alloc (Below.refl _ _) _).block _ (blk_lt H6.out)).trans H6.out⟩⟩
 case round =>
  have HNE := Aside0.mk (blk_lt H6.out)
  clear HB4 H6 HR0 HR1 HR2 HB1 HC HO HM HBX HNX hd0 hd1 hd2 ha0 ha1 ha2
  obtain ⟨j, hj, rfl, HI, HX⟩ := hrel
  by_cases hlt : j < l.length
  ·obtain ⟨bos, vN, vG, vP, vA, vE, vD, LA, LC, hi⟩ := HI.out
   obtain ⟨ad, A3, c3, rfl, hcell, hl1, hi1⟩ := at_L5 HL.out (j : Int) (by omega) (by omega)
   replace hcell := (hi.bel.cell (World.block_lt_of_cell? w _ hcell)).trans hcell
   obtain ⟨x, hx⟩ : ∃ x, x = l.getD j [] := ⟨_, rfl⟩
   have hrx : rd_L5 l (j : Int) = x := by rw [hx]; simp [rd_L5]
   rw [hrx] at hcell hl1 hi1
   rw [Int.toNat_natCast] at hcell
   obtain ⟨AA, cA, eA⟩ := Kd.R_slice hi.a
   subst eA
   have x3 : wr.cell? ⟨w4.heap.size, 3, none⟩ = some (.slice AA bos.length cA) := (blk_cell hi.hall 3).trans rfl
   have HH := Aside0.mk hi
   have HHA := Aside0.mk (show wr.heap[w4.heap.size]? = _ from hi.hall)
   have HXX := Aside0.mk hi1
   have HXC := Aside0.mk hl1
   have HTK := Aside0.mk (take_one hlt)
   rw [← hx] at HTK
   have hbl : bos.length ≤ 64 := by have := hi.len; have := H64.out; simp at *; omega
   have HBL := Aside0.mk hbl
   clear hi hi1 hl1 hx hrx HI hbl
   go_wp2_with ((with_reducible refine gate_builtin (b := .append) (xs := #[.tmp 42, .tmp 46]) rfl ?_); at_builtin; refine Kd.R_append kptr (w0 := w) w.heap.size rfl (.tmp 42) (.tmp 46) 102 105 (.pointer none) 8 rfl Try.underlying102 info105' rfl (by decide) (by omega) (.slice AA bos.length cA) bos wr.heap.size [.pointer (some ⟨wr.heap.size, 0, none⟩)] (fun _ => True) (fun _ => False) rfl (congrArg (fun n => Value.slice (some ⟨n, 0, none⟩) 1 1) (alloc_size1 wr _).symm) ?aP (fun _ hk => hk.elim) (fun _ _ => trivial) ?aO ?aB ?aS ?aL ?_; (case aP => exact kptr_mkM _ _ _ _); (case aO => exact Kd.R_mono (Kd.R_alloc HH.out.a _) (fun _ _ => trivial)); (case aB => exact below_alloc HH.out.bel _); (case aS => exact (below_alloc HH.out.bel _).size); (case aL => have := HBL.out; omega); intro v5 w5 h1 h2 h3 h4; obtain ⟨B5, d5, e5⟩ := Kd.R_slice h1; subst e5; have hk5 := blk_grown (kM (W := wr.alloc (.cells #[.slice A3 x.length c3, .int .i64 0, .int .i64 0, .int .i64 0, .int .i64 0, .slice none 0 0] 107)) HHA.out) h3 (Kd.R_ne HH.out.a HHA.out (by decide)); have g3 : w5.cell? ⟨w4.heap.size, 3, none⟩ = some (.slice AA bos.length cA) := (blk_cell hk5 3).trans rfl; have g4 : w5.frozen? ⟨w4.heap.size, 3, none⟩ = false := blk_frozen hk5 3)
   go_roundw
   case rel =>
    refine ⟨j + 1, by omega, by go_num, ⟨?_⟩, ⟨blk_far (blk_grown (kM (W := wr.alloc (.cells #[.slice A3 x.length c3, .int .i64 0, .int .i64 0, .int .i64 0, .int .i64 0, .slice none 0 0] 107)) HX.out) h3 (Kd.R_ne HH.out.a HX.out (by decide))) (Nat.ne_of_lt HNE.out) _⟩⟩
    have := HInv.add HH.out HXX.out HXC.out h2 h1 h3
    rw [List.length_append] at this
    unfold In1
    rw [HTK.out]
    exact ⟨_, _, _, _, _, _, _, _, _, this⟩
   case measure => simp [intOf]; omega
  ·obtain rfl : j = l.length := by omega
   obtain ⟨bos, vN, vG, vP, vA, vE, vD, LA, LC, hi⟩ := HI.out
   rw [List.take_length] at hi
   have HH := Aside0.mk hi
   clear hi HI hj hlt
   have hkp0 := Aside0.mk (Keeps.refl ⟨N, G, P, [], l.map mkOne⟩)
   go_wp2
   go_loopw [53] (fun i wr => ∃ j : Nat, j ≤ sc.length ∧ i = .int .i64 j ∧ ∃ (s' : St) (vD : Nat → Value), Aside0 (In3 w wr w4.heap.size bos vA LA LC vD s') ∧ Aside0 (Keeps ⟨N, G, P, [], l.map mkOne⟩ s') ∧ Aside0 (scriptO k l.length (sc.drop j) s' = some s1) ∧ Aside0 (wr.heap[w.heap.size + 1]? = some (.cells #[.slice none 0 0, .slice none 0 0, .slice none 0 0] 38 (0, 0)))) (fun i _ => sc.length - (intOf i).toNat)
   case atStart => exact ⟨0, Nat.zero_le _, rfl, _, vD, ⟨_, _, _, _, HH.out⟩, hkp0, HS1, HX⟩
   case round =>
    clear HH HS1 HX hkp0
    obtain ⟨j, hj, rfl, s', vD', HI, HK, HSC, HX⟩ := hrel
    by_cases hlt : j < sc.length
    ·obtain ⟨vN1, vG1, vP1, vE1, hi⟩ := HI.out
     obtain ⟨ad, rfl, hcell⟩ := Kd.at_int HS.out (j : Int) (by omega) (by omega)
     replace hcell := (hi.bel.cell (World.block_lt_of_cell? w _ hcell)).trans hcell
     obtain ⟨x, hx⟩ : ∃ x, x = sc.getD j 0 := ⟨_, rfl⟩
     have hrx : rd sc (j : Int) = x := by rw [hx]; simp [rd]
     rw [hrx, Int.toNat_natCast] at hcell
     have hdrop : sc.drop j = x :: sc.drop (j + 1) := by
      rw [List.drop_eq_getElem_cons hlt, hx, List.getD_eq_getElem?_getD, List.getElem?_eq_getElem hlt]; rfl
     have hsc := HSC.out
     rw [hdrop, scriptO] at hsc
     clear hi hdrop hx hrx HSC
     by_cases hx0 : 0 ≤ x
     ·have dx : decide ((0 : Int) ≤ x) = true := decide_eq_true hx0
      by_cases hl0 : 0 < l.length
      ·have dl : decide ((0 : Int) < (l.length : Int)) = true := decide_eq_true (by omega)
       have dl2 : (0 < l.length) = True := eq_true hl0
       rw [if_pos ⟨hx0, hl0⟩] at hsc
       obtain ⟨s'', hst, hsc⟩ := Option.bind_eq_some_iff.1 hsc
       obtain ⟨m, hm⟩ : ∃ m, m = x.toNat % l.length := ⟨_, rfl⟩
       rw [← hm] at hst
       have hmod : x.tmod (l.length : Int) = (m : Int) := by
        rw [hm, Int.tmod_eq_emod_of_nonneg hx0, Int.natCast_emod, Int.toNat_of_nonneg hx0]
       have hz : ((l.length : Int) = 0) = False := eq_false (by omega)
       have HG := Aside0.mk (step_go k HI.out HK.out H50.out H64.out (by rw [hm]; exact Nat.mod_lt _ hl0) hst)
       have HMD := Aside0.mk hmod
       clear hmod
       have HK2 := Aside0.mk (HK.out.trans (stepO_keeps hst))
       have HSC := Aside0.mk hsc
       clear hsc hst hx0 hm
       go_wp2_with (go_at_call 87; rw [HMD.out]; refine HG.out.mono ?_; rintro e w5 ⟨rfl, vD5, _, hI5, hk5⟩; have HI5 := Aside0.mk hI5; have HX5 := Aside0.mk (hk5 (w.heap.size + 1) 38 _ (Or.inr rfl) HX.out); clear hI5 hk5)
       all_goals try (exfalso; exact absurd hl0 (by assumption))
       go_roundw
       case rel => exact ⟨j + 1, by omega, by go_num, s'', vD5, HI5, HK2, HSC, HX5⟩
       case measure => simp [intOf]; omega
      ·have dl : decide ((0 : Int) < (l.length : Int)) = false := decide_eq_false (by omega)
       have dl2 : (0 < l.length) = False := eq_false hl0
       rw [if_neg (fun h => hl0 h.2)] at hsc
       have HSC := Aside0.mk hsc
       clear hsc hx0
       go_wp2_with (go_at_call 87; exfalso; exact hl0 (by assumption))
       go_roundw
       case rel => exact ⟨j + 1, by omega, by go_num, s', vD', HI, HK, HSC, HX⟩
       case measure => simp [intOf]; omega
     ·have dx : decide ((0 : Int) ≤ x) = false := decide_eq_false hx0
      rw [if_neg (fun h => hx0 h.1)] at hsc
      have HSC := Aside0.mk hsc
      clear hsc hx0
      go_wp2
      go_roundw
      case rel => exact ⟨j + 1, by omega, by go_num, s', vD', HI, HK, HSC, HX⟩
      case measure => simp [intOf]; omega
    ·obtain rfl : j = sc.length := by omega
     have hsc := HSC.out
     rw [List.drop_length, scriptO] at hsc
     obtain rfl := Option.some.inj hsc
     clear hsc HSC hj hlt
     obtain ⟨vN1, vG1, vP1, vE1, hi⟩ := HI.out
     obtain ⟨AA, cA, eA⟩ := Kd.R_slice hi.a
     subst eA
     have x3 : wr.cell? ⟨w4.heap.size, 3, none⟩ = some (.slice AA bos.length cA) := (blk_cell hi.hall 3).trans rfl
     have hbl : bos.length = l.length := by rw [hi.len, HK.out.1]; simp
     have hx := hi.a
     clear hi hx
     go_wp2
     go_loopw [15, 76] (fun vO i wr => ∃ j : Nat, j ≤ l.length ∧ i = .int .i64 j ∧ ∃ (s' : St) (vD : Nat → Value), Aside0 (In3 w wr w4.heap.size bos (.slice AA bos.length cA) LA LC vD s') ∧ Aside0 (Keeps ⟨N, G, P, [], l.map mkOne⟩ s') ∧ Aside0 (lastO k (l.length - j) j s' = some s2) ∧ Aside0 ((Kd.raw 1).R 71 wr w.heap.size (fun _ => True) vO ((List.range j).map fun a => [vD a])) ∧ Aside0 (wr.heap[w.heap.size + 1]? = some (.cells #[.slice none 0 0, .slice none 0 0, .slice none 0 0] 38 (0, 0)))) (fun _ i _ => l.length - (intOf i).toNat)
     case atStart => exact ⟨0, Nat.zero_le _, rfl, s', vD', HI, HK, HS2, ⟨Kd.R_nil _ _ _ _ _⟩, HX⟩
     case round =>
      clear HI HK HX HS2 x3
      obtain ⟨j, hj, rfl, s3, vD3, HI, HK, HS2, HR, HX⟩ := hrel
      by_cases hlt : j < l.length
      ·have hs2 := HS2.out
       rw [show l.length - j = (l.length - (j + 1)) + 1 by omega, lastO] at hs2
       obtain ⟨s4, hf4, hs2⟩ := Option.bind_eq_some_iff.1 hs2
       have HF4 := Aside0.mk hf4
       have HS4 := Aside0.mk hs2
       obtain ⟨vN1, vG1, vP1, vE1, hi⟩ := HI.out
       obtain ⟨ad, c, hA, _, hK, hc⟩ := Kd.C_get (Kd.R_reads' hi.a).2.2 0 (j : Int) (by omega) (by omega)
       subst hA
       have hp : wr.cell? (ad.add j) = some (.pointer (some ⟨bos.getD j 0, 0, none⟩)) := by
        rw [Int.toNat_natCast] at hK hc
        have hK : c = [.pointer (some ⟨bos.getD j 0, 0, none⟩)] := hK
        have := hc 0 (.pointer (some ⟨bos.getD j 0, 0, none⟩)) (by rw [hK]; rfl)
        have e : j * kptr.sz + 0 = j := by show j * 1 + 0 = j; omega
        rw [e] at this
        exact this
       obtain ⟨bo, hbo⟩ : ∃ bo, bo = bos.getD j 0 := ⟨_, rfl⟩
       rw [← hbo] at hp
       have q1 : (j : Int) < (bos.length : Int) := by omega
       have HBO := Aside0.mk hbo
       have HBL := Aside0.mk hbl
       clear hs2 hf4 HS2 hi hc hK hbo
       go_wp2
       go_loopg [] k (fun g wr => ∃ (s5 : St) (vD5 : Nat → Value), Aside0 (In3 w wr w4.heap.size bos (.slice (some ad) bos.length cA) LA LC vD5 s5) ∧ Aside0 (Keeps ⟨N, G, P, [], l.map mkOne⟩ s5) ∧ Aside0 (finO k j g s5 = some s4) ∧ Aside0 ((Kd.raw 1).R 71 wr w.heap.size (fun _ => True) u15 ((List.range j).map fun a => [vD5 a])) ∧ Aside0 (wr.heap[w.heap.size + 1]? = some (.cells #[.slice none 0 0, .slice none 0 0, .slice none 0 0] 38 (0, 0))))
       case atStart => exact ⟨s3, vD3, HI, HK, HF4, HR, HX⟩
       case round =>
        clear HI HK HX HF4 HR
        obtain ⟨s5, vD5, HI, HK, HF, HR, HX⟩ := hrel
        cases gk with
        | zero => exact absurd HF.out (by simp [finO])
        | succ g =>
         have hf := HF.out
         rw [finO] at hf
         clear HF
         obtain ⟨hj5, hl5⟩ := HK.out.at hlt
         have hn5 : (s5.ones.getD j zOne).l.length ≤ 1000 := by rw [hl5]; have := H50.out j; omega
         obtain ⟨vN5, vG5, vP5, vE5, hi⟩ := HI.out
         have hbx := hi.box j hj5
         rw [← HBO.out] at hbx
         have HLc := Aside0.mk (left_calls hbx hn5)
         by_cases hat : (s5.ones.getD j zOne).at_ < (s5.ones.getD j zOne).l.length
         ·rw [if_pos hat] at hf
          rw [decide_eq_true hat] at HLc
          obtain ⟨s6, hst, hf⟩ := Option.bind_eq_some_iff.1 hf
          have HG := Aside0.mk (fun (W' : World) (hb : Below wr.heap.size wr W') => step_go k (HI.out.below hb) HK.out H50.out H64.out hlt hst)
          have HK2 := Aside0.mk (HK.out.trans (stepO_keeps hst))
          have HF := Aside0.mk hf
          clear hf hst hat hbx hi hn5 hj5 hl5
          go_wp2_with (first | (go_at_call 88; refine HLc.out.mono ?_; rintro e w1 ⟨rfl, ⟨q, rfl⟩⟩) | (go_at_call 87; refine (HG.out _ (pw_below_drewN (Below.refl _ _) _)).mono ?_; rintro e w5 ⟨rfl, vD6, hD6, hI6, hk6⟩; have HI6 := Aside0.mk hI6; have hkk := ((K71.refl wr).below (pw_below_drewN (Below.refl _ _) _)).trans hk6; have HR6 := Aside0.mk (raw_k71 HR.out hkk); rw [← range_agree hD6] at HR6; have HX6 := Aside0.mk (hkk (w.heap.size + 1) 38 _ (Or.inr rfl) HX.out); clear hI6 hk6 hkk hD6))
          go_roundg g
          case measure => omega
          case rel => exact ⟨s6, vD6, HI6, HK2, HF, HR6, HX6⟩
         ·rw [if_neg hat] at hf
          rw [decide_eq_false hat] at HLc
          obtain rfl := Option.some.inj hf
          obtain ⟨AD, cD, eD⟩ := Kd.R_slice (hi.d j hj5)
          have HED := Aside0.mk eD
          rw [eD] at hbx
          have x5 : ∀ q, (wr.drewN q).cell? ⟨bo, 5, none⟩ = some (.slice AD (s5.ones.getD j zOne).ended.length cD) := fun q => (blk_cell (kM (W := wr.drewN q) (show wr.heap[bo]? = _ from hbx)) 5).trans rfl
          obtain ⟨nD, hnD⟩ : ∃ nD, nD = (s5.ones.getD j zOne).ended.length := ⟨_, rfl⟩
          rw [← hnD] at HED x5
          have HBel := Aside0.mk hi.bel
          clear hf hat hbx hi hn5 hj5 hl5 eD hnD
          go_wp2_with (first | (go_at_call 88; refine HLc.out.mono ?_; rintro e w1 ⟨rfl, ⟨q, rfl⟩⟩) | ((with_reducible refine gate_builtin (b := .append) (xs := #[.tmp 86, .tmp 91]) rfl ?_); at_builtin; refine Kd.R_append (Kd.raw 1) (w0 := w) w.heap.size rfl (.tmp 86) (.tmp 91) 62 71 (.slice none 0 0) 24 rfl Try.underlying62 info71 rfl (by decide) (by omega) u15 ((List.range j).map fun a => [vD5 a]) [.slice AD nD cD] [.slice AD nD cD] (fun _ => True) (fun _ => False) rfl rfl ?aP (fun _ hk => hk.elim) (fun _ _ => trivial) ?aO ?aB ?aS ?aL ?_; (case aP => exact ⟨rfl, rfl, fun u hu => by rw [List.mem_singleton.1 hu]; rfl⟩); (case aO => exact Kd.R_drewN HR.out _); (case aB => exact pw_below_drewN HBel.out _); (case aS => exact (pw_below_drewN HBel.out _).size); (case aL => have := H64.out; simp; omega); intro v7 w7 h1 h2 h3 h4; have HR7 := Aside0.mk h1; have HI7 := Aside0.mk (In3.grow (HI.out.below (pw_below_drewN (Below.refl _ _) _)) (Kd.R_drewN HR.out _) h3 h2); have HX7 := Aside0.mk (blk_grown (kM (W := wr.drewN q) HX.out) h3 (Kd.R_ne HR.out HX.out (by decide))); clear h1 h2 h3 h4))
          go_roundw
          case rel =>
           refine ⟨j + 1, by omega, by go_num, s5, vD5, HI7, HK, HS4, ⟨?_⟩, HX7⟩
           rw [List.range_succ, List.map_append, List.map_singleton, HED.out]
           exact HR7.out
          case measure => simp [intOf]; omega
      ·obtain rfl : j = l.length := by omega
       have hs2 := HS2.out
       rw [Nat.sub_self, lastO] at hs2
       obtain rfl := Option.some.inj hs2
       obtain ⟨vN, vG, vP, vE, hi⟩ := HI.out
       obtain ⟨B0, d0, e0⟩ := Kd.R_slice hi.n
       obtain ⟨B1, d1, e1⟩ := Kd.R_slice hi.g
       obtain ⟨B2, d2, e2⟩ := Kd.R_slice hi.p
       obtain ⟨B3, d3, e3⟩ := Kd.R_slice hi.e
       subst e0 e1 e2 e3
       have x0 : wr.cell? ⟨w4.heap.size, 0, none⟩ = some (.slice B0 s3.N.length d0) := (blk_cell hi.hall 0).trans rfl
       have x1 : wr.cell? ⟨w4.heap.size, 1, none⟩ = some (.slice B1 s3.G.length d1) := (blk_cell hi.hall 1).trans rfl
       have x2 : wr.cell? ⟨w4.heap.size, 2, none⟩ = some (.slice B2 s3.P.length d2) := (blk_cell hi.hall 2).trans rfl
       have x4 : wr.cell? ⟨w4.heap.size, 4, none⟩ = some (.slice B3 s3.ev.length d3) := (blk_cell hi.hall 4).trans rfl
       have y0 : wr.cell? ⟨w.heap.size + 1, 0, none⟩ = some (.slice none 0 0) := (blk_cell HX.out 0).trans rfl
       have y1 : wr.cell? ⟨w.heap.size + 1, 1, none⟩ = some (.slice none 0 0) := (blk_cell HX.out 1).trans rfl
       have y2 : wr.cell? ⟨w.heap.size + 1, 2, none⟩ = some (.slice none 0 0) := (blk_cell HX.out 2).trans rfl
       have z0 : wr.frozen? ⟨w.heap.size + 1, 0, none⟩ = false := blk_frozen HX.out 0
       have z1 : wr.frozen? ⟨w.heap.size + 1, 1, none⟩ = false := blk_frozen HX.out 1
       have z2 : wr.frozen? ⟨w.heap.size + 1, 2, none⟩ = false := blk_frozen HX.out 2
       have HH := Aside0.mk hi
       have hne1 : w.heap.size + 1 ≠ w4.heap.size := Nat.ne_of_lt HNE.out
       have hne2 : w4.heap.size ≠ w.heap.size + 1 := fun e => hne1 e.symm
       clear hs2 HS2 hj hlt hi
       go_wp2
       go_region
       all_goals
        go_wp2
        have hR := res_put (w := w) (v0 := .slice B0 s3.N.length d0) (v1 := .slice B1 s3.G.length d1) (v2 := .slice B2 s3.P.length d2) HX.out (Nat.le_succ _) HH.out.bel (Kd.R_mono HH.out.n (fun _ _ => trivial)) (Kd.R_mono HH.out.g (fun k hk => HH.out.gp k hk)) (Kd.R_mono HH.out.p (fun k hk e => HH.out.gp k e hk))
        have hl3 : s3.ones.length = l.length := by rw [HK.out.1]; simp
        have hS : Kd.S (Kd.slice 73 k73) 71 wr w.heap.size (fun _ => True) u15 (s3.ones.map One.ended) := by
         refine S_of_raw (ok := fun _ => True) (u := vD3) (by rw [List.length_map, hl3]; exact HR.out) (fun j hj => ?_) (fun a b ha hb => ?_)
         ·rw [List.length_map] at hj
          rw [ended_at hl3 (by omega)]
          exact HH.out.d j hj
         ·rw [List.length_map] at ha hb
          exact HH.out.dd a b ha hb
        obtain ⟨f, hS⟩ := hS
        exact bodyPost_ret (v := .tuple #[.agg #[.slice B0 s3.N.length d0, .slice B1 s3.G.length d1, .slice B2 s3.P.length d2], u15, .slice B3 s3.ev.length d3]) (by simp [results, Try.results59, go_sem, y0, y1, y2]) rfl ⟨_, _, _, _, _, rfl, Kd.R_drew hR.1, Kd.R_drew hR.2.1, Kd.R_drew hR.2.2.1, ⟨f, put_S HX.out hS⟩, put_E HX.out (Kd.R_mono HH.out.e (fun _ _ => trivial)), below_drew hR.2.2.2⟩
end Go.Proofs.Ytkidnomkfdnciaa.All
namespace Go.Proofs.Ytkidnomkfdnciaa.All
open Go.RowKit Go.Proofs.YtkidnomkfdnciaaW.PrintWords Go.Proofs.YtkidnomkfdnciaaW.PrintLast Go.Proofs.YtkidnomkfdnciaaW.PrintMore
attribute [local go_sem] max2_int min2_int max_two min_two max_three min_three max_four min_four
set_option linter.unusedVariables false
set_option linter.unusedSimpArgs false
def runS (k : Nat) (N : List S48) (G P : List Int) (l : List (List S76)) (sc : List Int) : Option St := (scriptO k l.length sc ⟨N, G, P, [], l.map mkOne⟩).bind (lastO k l.length 0)
def calls_Run.f (k : Nat) (l0_0 : List (S48)) (l0_1 : List Int) (l0_2 : List Int) (l1 : List (List (S76))) (l2 : List Int) : Option ((List (S48)) × List Int × List Int × (List (List (S73))) × (List (S68))) :=
 if lim3 l0_0 l0_1 l0_2 = true then (if 64 < l1.length ∨ l1.any manyB = true then some (l0_0, l0_1, l0_2, [], []) else (runS k l0_0 l0_1 l0_2 l1 l2).bind fun s => some (s.N, s.G, s.P, s.ones.map One.ended, s.ev)) else none
theorem calls_Run.calls (k : Nat) (A0_0 : Option Addr) (c0_0 : Nat) (l0_0 : List (S48)) (A0_1 : Option Addr) (c0_1 : Nat) (l0_1 : List Int) (A0_2 : Option Addr) (c0_2 : Nat) (l0_2 : List Int) (A1 : Option Addr) (c1 : Nat) (l1 : List (List (S76))) (A2 : Option Addr) (c2 : Nat) (l2 : List Int) (r1 : List (S48)) (r2 : List Int) (r3 : List Int) (r4 : List (List (S73))) (r5 : List (S68)) (w : World) (hr0_0 : Kd.C k48 w A0_0 l0_0.length l0_0) (hc0_0 : l0_0.length ≤ c0_0) (hr0_1 : Kd.C (Kd.int .i64) w A0_1 l0_1.length l0_1) (hc0_1 : l0_1.length ≤ c0_1) (hr0_2 : Kd.C (Kd.int .i64) w A0_2 l0_2.length l0_2) (hc0_2 : l0_2.length ≤ c0_2) (hr1 : Kd.C (Kd.slice 76 k76) w A1 l1.length l1) (hc1 : l1.length ≤ c1) (hr2 : Kd.C (Kd.int .i64) w A2 l2.length l2) (hc2 : l2.length ≤ c2) (h : calls_Run.f k l0_0 l0_1 l0_2 l1 l2 = some (r1, r2, r3, r4, r5)) :
  Calls Try.prog 59 #[.agg #[.slice A0_0 l0_0.length c0_0, .slice A0_1 l0_1.length c0_1, .slice A0_2 l0_2.length c0_2], .slice A1 l1.length c1, .slice A2 l2.length c2] w fun e w' => ∃ v0_ v1_ v2_ v3_ v4_ : Value, e = .returned (.tuple #[.agg #[v0_, v1_, v2_], v3_, v4_]) ∧ Kd.R k48 48 w' w.heap.size (fun _ => True) v0_ r1 ∧ Kd.R (Kd.int .i64) 3 w' w.heap.size (fun k_ => some k_ ≠ (v2_ : Value).ownBlock) v1_ r2 ∧ Kd.R (Kd.int .i64) 3 w' w.heap.size (fun k_ => some k_ ≠ (v1_ : Value).ownBlock) v2_ r3 ∧ Kd.S (Kd.slice 73 k73) 71 w' w.heap.size (fun _ => True) v3_ r4 ∧ Kd.R k68 68 w' w.heap.size (fun _ => True) v4_ r5 ∧ Below w.heap.size w w' := by
 have hM : MemoAt w A0_0 c0_0 l0_0 A0_1 c0_1 l0_1 A0_2 c0_2 l0_2 := ⟨hr0_0, hc0_0, hr0_1, hc0_1, hr0_2, hc0_2⟩
 unfold calls_Run.f at h
 by_cases hl : lim3 l0_0 l0_1 l0_2 = true
 ·rw [if_pos hl] at h
  by_cases hno : 64 < l1.length ∨ l1.any manyB = true
  ·rw [if_pos hno] at h
   simp only [Option.some.injEq, Prod.mk.injEq] at h
   obtain ⟨rfl, rfl, rfl, rfl, rfl⟩ := h
   have hno' : 64 < l1.length ∨ (¬ 64 < l1.length ∧ l1.any manyB = true) := by
    by_cases h6 : 64 < l1.length
    ·exact .inl h6
    ·exact .inr ⟨h6, hno.resolve_left h6⟩
   exact (Run_no (s := l2) (A2 := A2) (c2 := c2) hM hr1 hc1 hl hno').mono fun e w' ⟨v0, v1, v2, he, h0, h1, h2, hb⟩ => ⟨v0, v1, v2, _, _, he, h0, h1, h2, Kd.S_nil _ _ _ _ _, Kd.R_nil _ _ _ _ _, hb⟩
  ·rw [if_neg hno] at h
   obtain ⟨s, hs, h⟩ := Option.bind_eq_some_iff.1 h
   simp only [Option.some.injEq, Prod.mk.injEq] at h
   obtain ⟨rfl, rfl, rfl, rfl, rfl⟩ := h
   obtain ⟨s1, h1, h2⟩ := Option.bind_eq_some_iff.1 hs
   exact Run_yes k hM hr1 hc1 hr2 hl (fun h6 => hno (.inl h6)) (by cases hq : l1.any manyB with | true => exact absurd (.inr hq) hno | false => rfl) h1 h2
 ·rw [if_neg hl] at h; cases h
end Go.Proofs.Ytkidnomkfdnciaa.All
namespace Go.Proofs.Ytkidnomkfdnciaa.Pure
open Go.RowKit Go.Proofs.Ytkidnomkfdnciaa.All Go.Proofs.YtkidnomkfdnciaaW.PrintWords
theorem do_bad {N : List S48} {G P : List Int} (hm : mayMB N G P = false) (c : S76) : (doT N G P c).1 = N ∧ (doT N G P c).2.1 = G ∧ (doT N G P c).2.2.1 = P := by
 unfold doT
 by_cases h0 : c.f0 = 0
 ·simp only [if_pos h0]
  have h := put_cases N G P c.f1 c.f2
  by_cases he : (putT N G P c.f1 c.f2).2.2.2.2 = 0
  ·have := (h.ok he).was
   rw [hm] at this; cases this
  ·exact ⟨(h.no he).2.1, (h.no he).2.2.1, (h.no he).2.2.2⟩
 ·simp only [if_neg h0]
  by_cases h1 : c.f0 = 1
  ·simp only [if_pos h1]
   rcases mer_cases N G P c.f2 c.f3 with h | ⟨h, e⟩
   ·rw [h]; simp
   ·have := h.may
    rw [hm] at this; cases this
  ·simp only [if_neg h1]
   split
   ·exact ⟨rfl, rfl, rfl⟩
   ·split <;> exact ⟨rfl, rfl, rfl⟩
theorem do_lim {N : List S48} {G P : List Int} (h : Lim N G P) (c : S76) : Lim (doT N G P c).1 (doT N G P c).2.1 (doT N G P c).2.2.1 := by
 cases hm : mayMB N G P with
 | true => exact may_Lim (do_may hm c)
 | false =>
  obtain ⟨a, b, d⟩ := do_bad hm c
  rw [a, b, d]; exact h
def nth (s : St) (i : Nat) : One := s.ones.getD i zOne
def rank (o : One) : Nat := 3 * o.at_ + o.st
def doing (s : St) (i : Nat) : List S48 × List Int × List Int × Int × Int := doT s.N s.G s.P ((nth s i).l.getD (nth s i).at_ z76)
def nextOne (s : St) (i : Nat) : One :=
 if (nth s i).st = 0 then { nth s i with st := 1 }
 else if (nth s i).st = 1 then { nth s i with g := (doing s i).2.2.2.1, e := (doing s i).2.2.2.2, st := 2 }
 else { nth s i with ended := (nth s i).ended ++ [⟨(nth s i).g, (nth s i).e⟩], at_ := (nth s i).at_ + 1, st := 0 }
def left (s : St) (i : Nat) : Prop := (nth s i).at_ < (nth s i).l.length
instance (s : St) (i : Nat) : Decidable (left s i) := by unfold left; infer_instance
def stepT (s : St) (i : Nat) : St :=
 if left s i then
  {N := if (nth s i).st = 1 then (doing s i).1 else s.N
   G := if (nth s i).st = 1 then (doing s i).2.1 else s.G
   P := if (nth s i).st = 1 then (doing s i).2.2.1 else s.P
   ev := s.ev ++ [⟨(i : Int), ((nth s i).at_ : Int), ((nth s i).st : Int)⟩]
   ones := s.ones.set i (nextOne s i) }
 else s
def Small (L : List (List S76)) : Prop := L.length ≤ 12 ∧ ∀ i, i < L.length → (L.getD i []).length ≤ 12
structure Good (L : List (List S76)) (s : St) : Prop where
 len : s.ones.length = L.length
 l : ∀ i, i < L.length → (nth s i).l = L.getD i []
 st : ∀ i, i < L.length → (nth s i).st ≤ 2
 at_ : ∀ i, i < L.length → (nth s i).at_ ≤ (L.getD i []).length
 z : ∀ i, i < L.length → (nth s i).at_ = (L.getD i []).length → (nth s i).st = 0
 ended : ∀ i, i < L.length → (nth s i).ended.length = (nth s i).at_
 ev : s.ev.length = (s.ones.map rank).sum
 lim : Lim s.N s.G s.P
theorem sum_set (f : One → Nat) : ∀ (l : List One) (i : Nat) (o : One), i < l.length → ((l.set i o).map f).sum + f (l.getD i zOne) = (l.map f).sum + f o
 | [], i, o, h => by simp at h
 | x :: t, 0, o, _ => by simp [List.sum_cons]; omega
 | x :: t, i + 1, o, h => by
  have := sum_set f t i o (by simpa using h)
  simp only [List.set_cons_succ, List.map_cons, List.sum_cons, List.getD_cons_succ]
  omega
theorem sum_le (f : One → Nat) (m : Nat) : ∀ (l : List One), (∀ i, i < l.length → f (l.getD i zOne) ≤ m) → (l.map f).sum ≤ m * l.length
 | [], _ => by simp
 | x :: t, h => by
  have h0 := h 0 (by simp)
  have := sum_le f m t (fun i hi => h (i + 1) (by simpa using hi))
  simp only [List.map_cons, List.sum_cons, List.length_cons, Nat.mul_add, List.getD_cons_zero] at *
  omega
theorem next_l (s : St) (i : Nat) : (nextOne s i).l = (nth s i).l := by
 unfold nextOne
 split
 ·rfl
 ·split <;> rfl
section
variable {L : List (List S76)} {s : St} {i : Nat}
theorem Good.il (g : Good L s) (hi : i < L.length) : i < s.ones.length := by rw [g.len]; exact hi
theorem Good.left_iff (g : Good L s) (hi : i < L.length) : left s i ↔ (nth s i).at_ < (L.getD i []).length := by
 unfold left
 rw [g.l i hi]
theorem next_rank (h : (nth s i).st ≤ 2) : rank (nextOne s i) = rank (nth s i) + 1 := by
 unfold nextOne rank
 split
 ·rename_i e; simp only; omega
 ·split
  ·rename_i e; simp only; omega
  ·simp only; omega
theorem nth_set (j : Nat) (o : One) {s' : St} (e : s'.ones = s.ones.set i o) (hi : i < s.ones.length) : nth s' j = if j = i then o else nth s j := by
 unfold nth
 rw [e, set_getD]
 by_cases hj : j = i
 ·rw [if_pos ⟨hj, hi⟩, if_pos hj]
 ·rw [if_neg (fun h => hj h.1), if_neg hj]
theorem step_nth (hi : i < s.ones.length) (hl : left s i) (j : Nat) : nth (stepT s i) j = if j = i then nextOne s i else nth s j :=
 nth_set j _ (by unfold stepT; rw [if_pos hl]) hi
theorem step_no (hl : ¬ left s i) : stepT s i = s := by unfold stepT; rw [if_neg hl]
theorem Good.ev_le (g : Good L s) (hs : Small L) : s.ev.length ≤ 500 := by
 rw [g.ev]
 have := sum_le rank 38 s.ones (fun i hi => by
  have hi : i < L.length := by rw [← g.len]; exact hi
  have h1 := g.at_ i hi
  have h2 := g.st i hi
  have h3 := hs.2 i hi
  unfold nth at h1 h2
  unfold rank
  omega)
 have h2 := hs.1
 rw [← g.len] at h2
 omega
theorem step_good (g : Good L s) (hi : i < L.length) : Good L (stepT s i) := by
 by_cases hl : left s i
 ·have hil := g.il hi
  have hst := g.st i hi
  have hlt := (g.left_iff hi).1 hl
  have hn := step_nth hil hl
  refine ⟨?_, fun j hj => ?_, fun j hj => ?_, fun j hj => ?_, fun j hj => ?_, fun j hj => ?_, ?_, ?_⟩
  ·unfold stepT; rw [if_pos hl]; simp [g.len]
  ·rw [hn j]
   split
   ·rename_i e; subst e; rw [next_l]; exact g.l j hj
   ·exact g.l j hj
  ·rw [hn j]
   split
   ·unfold nextOne
    split
    ·simp
    ·split <;> simp
   ·exact g.st j hj
  ·rw [hn j]
   split
   ·rename_i e; subst e
    unfold nextOne
    split
    ·exact Nat.le_of_lt hlt
    ·split
     ·exact Nat.le_of_lt hlt
     ·exact hlt
   ·exact g.at_ j hj
  ·rw [hn j]
   split
   ·rename_i e; subst e
    unfold nextOne
    split
    ·intro e; simp only at e; omega
    ·split
     ·intro e; simp only at e; omega
     ·intro _; rfl
   ·exact g.z j hj
  ·rw [hn j]
   split
   ·rename_i e; subst e
    have := g.ended j hj
    unfold nextOne
    split
    ·exact this
    ·split
     ·exact this
     ·simp [this]
   ·exact g.ended j hj
  ·have h1 := sum_set rank s.ones i (nextOne s i) hil
   have h2 : rank (nextOne s i) = rank (s.ones.getD i zOne) + 1 := next_rank hst
   have h3 := g.ev
   unfold stepT
   rw [if_pos hl]
   simp only [List.length_append, List.length_singleton]
   omega
  ·unfold stepT
   rw [if_pos hl]
   by_cases h1 : (nth s i).st = 1
   ·simp only [if_pos h1]
    exact do_lim g.lim _
   ·simp only [if_neg h1]
    exact g.lim
 ·rw [step_no hl]; exact g
theorem stepO_T (g : Good L s) (hs : Small L) (hi : i < L.length) {k : Nat} (hk : 500 ≤ k) : stepO k s i = some (stepT s i) := by
 have hil := g.il hi
 have hst := g.st i hi
 have hev := g.ev_le hs
 have hen := g.ended i hi
 have hat := g.at_ i hi
 have hsm := hs.2 i hi
 unfold stepO
 by_cases hl : left s i
 ·rw [if_pos (show (s.ones.getD i zOne).at_ < (s.ones.getD i zOne).l.length from hl)]
  unfold stepT
  rw [if_pos hl]
  unfold midO
  change (nth s i).st ≤ 2 at hst
  change ((if (nth s i).st = 0 then some s else if (nth s i).st = 1 then _ else if (nth s i).st = 2 ∧ (nth s i).ended.length ≤ 1000 then _ else none) : Option St).bind _ = _
  by_cases h0 : (nth s i).st = 0
  ·rw [if_pos h0]
   simp only [Option.bind_some]
   rw [if_pos (by omega)]
   have hb : bump (s.ones.getD i zOne) = nextOne s i := by
    show bump (nth s i) = _
    unfold bump nextOne
    rw [if_pos h0, if_neg (show ¬ (nth s i).st = 2 by omega), h0]
   rw [hb, if_neg (by omega), if_neg (by omega), if_neg (by omega)]
   rfl
  ·rw [if_neg h0]
   by_cases h1 : (nth s i).st = 1
   ·rw [if_pos h1]
    have hd : runDo k s.N s.G s.P ((s.ones.getD i zOne).l.getD (s.ones.getD i zOne).at_ z76) = some (doing s i) := do_k g.lim _ hk
    rw [hd]
    simp only [Option.bind_some]
    rw [if_pos (by omega), if_pos h1, if_pos h1, if_pos h1]
    have hn : nextOne s i = bump { nth s i with g := (doing s i).2.2.2.1, e := (doing s i).2.2.2.2 } := by
     unfold nextOne bump
     rw [if_neg h0, if_pos h1, if_neg (show ¬ (nth s i).st = 2 by omega), h1]
    rw [hn]
    simp only [List.set_set, set_getD, hil, and_self, if_true]
    rfl
   ·rw [if_neg h1, if_pos ⟨by omega, by omega⟩]
    simp only [Option.bind_some]
    rw [if_pos (by omega), if_neg h1, if_neg h1, if_neg h1]
    have h2 : (nth s i).st = 2 := by omega
    have hn : nextOne s i = bump { nth s i with ended := (nth s i).ended ++ [⟨(nth s i).g, (nth s i).e⟩] } := by
     unfold nextOne bump
     simp only [if_neg h0, if_neg h1, if_pos h2]
    rw [hn]
    simp only [List.set_set, set_getD, hil, and_self, if_true]
    rfl
 ·rw [if_neg (show ¬ (s.ones.getD i zOne).at_ < (s.ones.getD i zOne).l.length from hl), step_no hl]
end
def start (N : List S48) (G P : List Int) (L : List (List S76)) : St := ⟨N, G, P, [], L.map mkOne⟩
theorem start_nth (N : List S48) (G P : List Int) (L : List (List S76)) {i : Nat} (hi : i < L.length) : nth (start N G P L) i = mkOne (L.getD i []) := by
 unfold nth start
 simp [List.getD_eq_getElem?_getD, List.getElem?_map, List.getElem?_eq_getElem hi]
theorem start_good {N : List S48} {G P : List Int} (h : Lim N G P) (L : List (List S76)) : Good L (start N G P L) := by
 refine ⟨by simp [start], fun i hi => ?_, fun i hi => ?_, fun i hi => ?_, fun i hi => ?_, fun i hi => ?_, ?_, h⟩
 ·rw [start_nth N G P L hi]; rfl
 ·rw [start_nth N G P L hi]; simp [mkOne]
 ·rw [start_nth N G P L hi]; simp [mkOne]
 ·intro _; rw [start_nth N G P L hi]; rfl
 ·rw [start_nth N G P L hi]; rfl
 ·have : ∀ l : List (List S76), ((l.map mkOne).map rank).sum = 0 := fun l => by
   induction l with
   | nil => rfl
   | cons x t ih => simp only [List.map_cons, List.sum_cons, ih]; rfl
  exact (this L).symm
structure Reach (N : List S48) (G P : List Int) (L : List (List S76)) (s : St) : Prop where
 good : Good L s
 done : ∀ j, j < L.length → (nth s j).at_ = (L.getD j []).length
 ind : ∀ Q : St → Prop, Q (start N G P L) → (∀ s i, Good L s → i < L.length → left s i → Q s → Q (stepT s i)) → Q s
end Go.Proofs.Ytkidnomkfdnciaa.Pure
