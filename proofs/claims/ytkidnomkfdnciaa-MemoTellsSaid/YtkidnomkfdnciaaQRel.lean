/- A region that draws its order: reads, calls that end in 'Below', in whatever order; blocks made in between, whenever; and a tail that comes last in its own order: walked once, in the order of the text. -/
import Derived.Lib.QuietBelow
import Derived.StillTail
namespace Go.Proofs.Ytkidnomkfdnciaa.QR
open Go Go.Sort Go.RowKit
/-- 'Below', under a name that the walk leaves as it is. -/
def Bel (w w' : World) : Prop := Below w.heap.size w w'
theorem bel {P : Program} {f : FuncId} {args : Array Value} {w : World} {v : Value} (h : Calls P f args w fun e w' => e = .returned v ∧ Below w.heap.size w w') : Calls P f args w fun e w' => e = .returned v ∧ Bel w w' := h
/-- What an operation yields where it only reads, or calls what ends in 'Below'. -/
def Yq (P : Program) (w : World) (v : Value) : Result Next → Prop
  | .ok (.value u) w' => w' = w ∧ u = v
  | .ok .skip w' => w' = w ∧ v = undef
  | .ok (.enter f args) w' => w' = w ∧ Calls P f args w (fun e w'' => e = .returned v ∧ Bel w w'')
  | _ => False
/-- One value in every world of the class. -/
def Oq (P : Program) (o : Oper) (a : Act) (C : World → Prop) (next : Act → Prop) : Prop := ∃ v, (∀ w, C w → Yq P w v ((execOp a.eval o).run P w)) ∧ next (a.put o.dst v)
/-- The order of the text. -/
def Txt (P : Program) (ops : Array Oper) (C : World → Prop) (Q : Act → Prop) : List Oper → Act → Prop
  | [], a => Q a
  | o :: r, a => if Region.wanted o (yielded ops a.tmps) then Oq P o a C (Txt P ops C Q r) else Txt P ops C Q r (a.put o.dst undef)
section
variable {P : Program} {ops : Array Oper} {C : World → Prop}
/-- The same, closed to what unfolds. -/
structure Tx (P : Program) (ops : Array Oper) (C : World → Prop) (Q : Act → Prop) (l : List Oper) (a : Act) : Prop where
  out : Txt P ops C Q l a
theorem txt_nil {Q : Act → Prop} {a : Act} (h : Q a) : Tx P ops C Q [] a := ⟨h⟩
theorem txt_step {Q : Act → Prop} {a : Act} {o : Oper} {r : List Oper} (h : ∀ K : Act → Prop, (∀ a, Tx P ops C Q r a → K a) → if Region.wanted o (yielded ops a.tmps) then Oq P o a C K else K (a.put o.dst undef)) : Tx P ops C Q (o :: r) a := ⟨h _ (fun _ h => h.out)⟩
/-- What an operation leaves in its place, whatever the world of the class. -/
def Lays (P : Program) (ops : Array Oper) (C : World → Prop) (o : Oper) (v : Value) (a : Act) : Prop :=
  (Region.wanted o (yielded ops a.tmps) = true ∧ ∀ w, C w → Yq P w v ((execOp a.eval o).run P w)) ∨ (Region.wanted o (yielded ops a.tmps) = false ∧ v = undef)
/-- An operation comes up. -/
def Ups (P : Program) (ops : Array Oper) (C : World → Prop) (i : Nat) (K : Act → Prop) (a : Act) : Prop := ∃ o v, ops[i]? = some o ∧ Lays P ops C o v a ∧ K (a.put o.dst v)
theorem Ups.mono {i : Nat} {K K' : Act → Prop} {a : Act} (h : ∀ a, K a → K' a) : Ups P ops C i K a → Ups P ops C i K' a := fun ⟨o, v, h1, h2, h3⟩ => ⟨o, v, h1, h2, h _ h3⟩
theorem Lays.keep {o : Oper} (hs : ∀ cs b, o.op ≠ .select cs b) {v u : Value} {a : Act} {d : Option Tmp} (hd : ∀ x, d = some x → x ∉ o.looksAt ops) : Lays P ops C o v (a.put d u) ↔ Lays P ops C o v a := by
  unfold Lays
  rw [wanted_put o a d u hd, execOp_put o hs a d u hd]
/-- The text's first operation comes up. -/
theorem txt_up {Q : Act → Prop} {a : Act} {o : Oper} {r : List Oper} {i : Nat} (hi : ops[i]? = some o) (h : Txt P ops C Q (o :: r) a) : Ups P ops C i (Txt P ops C Q r) a := by
  unfold Txt at h
  by_cases hw : Region.wanted o (yielded ops a.tmps) = true
  · rw [if_pos hw] at h
    obtain ⟨v, h1, h2⟩ := h
    exact ⟨o, v, hi, .inl ⟨hw, h1⟩, h2⟩
  · rw [if_neg hw] at h
    exact ⟨o, undef, hi, .inr ⟨by simpa using hw, rfl⟩, h⟩
/-- f operations of the head are still to come, in whatever order. -/
def Head (P : Program) (md : Region.Mode) (ops : Array Oper) (C : World → Prop) (n : Nat) (L : Array Bool → Act → Prop) : Nat → Array Bool → Act → Prop
  | 0 => L
  | f + 1 => fun listed a => (∃ i, i ∈ Region.ready md ops listed) ∧ ∀ i, i ∈ Region.ready md ops listed → i < n ∧ Ups P ops C i (Head P md ops C n L f (listed.setIfInBounds i true)) a
variable {md : Region.Mode} {n : Nat} {L : Array Bool → Act → Prop}
theorem ready_lt (hs : Region.sinkB md ops n = true) (hc : Region.chainB md ops n = true) (hn : n < ops.size) {listed : Array Bool} (inv : HeadInv md ops n listed) {i j : Nat} (hin : i < n) (hi : i ∈ Region.ready md ops listed) (hj : j ∈ Region.ready md ops listed) : j < n := by
  rcases Nat.lt_or_ge j n with h | h
  · exact h
  · exact absurd hj (tail_waits hs hc hn inv _ i rfl hin (mem_ready.1 hi).1 j h)
/-- One of the head that may come now may come first. -/
theorem Head.first {i : Nat} {oi : Oper} {v : Value} (hi : ops[i]? = some oi) (hsel : ∀ (j : Nat) (o : Oper) cs b, ops[j]? = some o → o.op ≠ .select cs b) (hlt : ∀ listed, HeadInv md ops n listed → ∀ i j, i < n → i ∈ Region.ready md ops listed → j ∈ Region.ready md ops listed → j < n) (hin : i < n)
    (hL : ∀ listed a, L listed a → ∀ j, j ∈ Region.ready md ops listed → n ≤ j) (f : Nat) : ∀ (listed : Array Bool) (a : Act), HeadInv md ops n listed →
      (∀ j oj, ops[j]? = some oj → j ≠ i → listed.getD j true = false → (∀ e ∈ oj.after, Region.binds md e = true → e.on ≠ i) → oi.apart ops oj = true) →
      i ∈ Region.ready md ops listed → Lays P ops C oi v a → Head P md ops C n L f (listed.setIfInBounds i true) (a.put oi.dst v) → Head P md ops C n L (f + 1) listed a := by
  induction f with
  | zero =>
    intro listed a inv _ hr hy H
    refine ⟨⟨i, hr⟩, fun j hj => ⟨hlt _ inv _ _ hin hr hj, ?_⟩⟩
    by_cases e : j = i
    · rw [e]; exact ⟨oi, v, hi, hy, H⟩
    · have h1 := hL _ _ H j (ready_mono hj e)
      have h2 := hlt _ inv _ _ hin hr hj
      omega
  | succ f ih =>
    intro listed a inv hfree hr hy H
    refine ⟨⟨i, hr⟩, fun j hj => ?_⟩
    have hjn := hlt _ inv _ _ hin hr hj
    refine ⟨hjn, ?_⟩
    by_cases e : j = i
    · rw [e]; exact ⟨oi, v, hi, hy, H⟩
    · obtain ⟨hju, oj, hoj, hw⟩ := mem_ready.1 hj
      have hno : ∀ x ∈ oj.after, Region.binds md x = true → x.on ≠ i := fun x hx hb he => by
        have h1 := hw x hx hb
        rw [he, getD_both (mem_ready.1 hr).1] at h1
        cases h1
      obtain ⟨p1, p2, p3⟩ := Oper.apart_spec (hfree j oj hoj e hju hno)
      obtain ⟨oj', u, hoj', hl, hk⟩ := (H.2 j (ready_mono hj e)).2
      obtain rfl : oj = oj' := by rw [hoj] at hoj'; exact Option.some.inj hoj'
      rw [Lays.keep (fun cs b => hsel j oj cs b hoj) p1] at hl
      refine ⟨oj, u, hoj, hl, ih (listed.setIfInBounds j true) _ (inv.set hj hjn) (fun k ok hk hki hun hn2 => hfree k ok hk hki ?_ hn2) (ready_mono hr (Ne.symm e)) ((Lays.keep (fun cs b => hsel i oi cs b hi) p3).2 hy) ?_⟩
      · by_cases hjk : j = k
        · rw [← hjk]; exact hju
        · rw [getD_set_ne true hjk] at hun; exact hun
      · rw [Array.setIfInBounds_comm _ _ e, ← Act.put_comm a v u p2]; exact hk
/-- The order of the text, for the head. -/
theorem Head.text {g : Nat} {Q : Act → Prop} (hsel : Region.noSelect ops = true) (hlt : ∀ listed, HeadInv md ops n listed → ∀ i j, i < n → i ∈ Region.ready md ops listed → j ∈ Region.ready md ops listed → j < n) (l : List Oper) : ∀ (k : Nat) (listed : Array Bool) (a : Act), (∀ j, j < l.length → l[j]? = ops[k + j]?) → k + l.length = n → HeadInv md ops n listed →
    Region.lexHead md ops g l.length k listed = true → Txt P ops C Q l a → Head P md ops C n (fun listed a => Region.seqB md ops g n listed = true ∧ Q a) l.length listed a := by
  induction l with
  | nil =>
    intro k listed a _ hk _ hB h
    obtain rfl : k = n := hk
    exact ⟨hB, h⟩
  | cons o l ih =>
    intro k listed a hl hk inv hB h
    have h0 : ops[k]? = some o := (hl 0 (Nat.succ_pos _)).symm
    rw [List.length_cons] at hB hk
    simp only [Region.lexHead, Bool.and_eq_true] at hB
    obtain ⟨⟨hr, hf⟩, hB⟩ := hB
    have hr : k ∈ Region.ready md ops listed := by simpa using hr
    have hkn : k < n := by omega
    obtain ⟨o', v, ho', hy, hK⟩ := txt_up h0 h
    obtain rfl : o = o' := by rw [h0] at ho'; exact Option.some.inj ho'
    refine Head.first h0 (Region.noSelect_spec hsel) hlt hkn (fun _ _ hL => seqB_ready hL.1) l.length listed a inv (Region.free_spec h0 hf) hr hy (ih (k + 1) _ _ (fun j hj => ?_) (by omega) (inv.set hr hkn) hB hK)
    have := hl (j + 1) (by rw [List.length_cons]; omega)
    rw [List.getElem?_cons_succ] at this
    rw [this]
    congr 1
    omega
/-- An operation of the region, where it lays its value. -/
theorem up_wp {o : Oper} {v : Value} {a : Act} {i : Nat} {w : World} {K : Act → World → Prop} {Q : Exit → Act → World → Prop} (hw : C w) (hi : ops[i]? = some o) (hy : Lays P ops C o v a) (h : ∀ w', Below w.heap.size w w' → K (a.put o.dst v) w') : wpOp P ops Q i K a w := by
  unfold wpOp
  simp only [hi]
  rcases hy with ⟨hwt, hy⟩ | ⟨hwt, rfl⟩
  · rw [if_pos hwt]
    refine .inl ?_
    have hy := hy w hw
    unfold Oper.wp
    generalize (execOp a.eval o).run P w = r at *
    cases r with
    | ok x w' =>
      cases x <;> simp only [Yq] at hy <;> simp only [Oper.upon]
      case value u => obtain ⟨rfl, rfl⟩ := hy; exact h _ (Below.refl _ _)
      case skip => obtain ⟨rfl, rfl⟩ := hy; exact h _ (Below.refl _ _)
      case enter f args =>
        obtain ⟨rfl, hc⟩ := hy
        exact hc.mono fun e w'' ⟨he, hb⟩ => by subst he; exact h _ hb
    | halt x w' => simp only [Yq] at hy
  · rw [if_neg (by rw [hwt]; decide)]
    exact h _ (Below.refl _ _)
end
/-! ### a block made in between -/
/-- ops' is ops, but that operation ia, which makes a block, is laid still. -/
structure Twin (P : Program) (ops ops' : Array Oper) (ia : Nat) (N : Tmp) (ob : Obj) : Prop where
  size : ops'.size = ops.size
  same : ∀ j, j ≠ ia → ops'[j]? = ops[j]?
  at_ : ∃ o o', ops[ia]? = some o ∧ ops'[ia]? = some o' ∧ o'.after = o.after ∧ o.dst = some N ∧ o'.dst = some N ∧ (∀ y, Region.wanted o y = true) ∧ ∀ ev (w : World), (execOp ev o).run P w = .ok (.value (.pointer (some ⟨w.heap.size, 0, none⟩))) (w.alloc ob)
section
variable {P : Program} {ops ops' : Array Oper} {ia : Nat} {N : Tmp} {ob : Obj} {C : World → Prop} {md : Region.Mode} {n : Nat} {L : Array Bool → Act → Prop}
theorem Twin.ready (t : Twin P ops ops' ia N ob) (listed : Array Bool) : Region.ready md ops' listed = Region.ready md ops listed := by
  unfold Region.ready
  rw [t.size]
  congr 1
  funext i
  by_cases e : i = ia
  · subst e
    obtain ⟨o, o', h1, h2, h3, _⟩ := t.at_
    rw [h1, h2]
    simp only [Option.map_some, h3]
  · rw [t.same i e]
theorem Twin.yielded (t : Twin P ops ops' ia N ob) (tmps : Array Value) : Go.yielded ops' tmps = Go.yielded ops tmps := by
  funext i
  unfold Go.yielded
  by_cases e : i = ia
  · subst e
    obtain ⟨o, o', h1, h2, _, h4, h5, _⟩ := t.at_
    rw [h1, h2]
    simp only [Option.bind_some, h4, h5]
  · rw [t.same i e]
theorem Twin.lays (t : Twin P ops ops' ia N ob) {o : Oper} {v : Value} {a : Act} : Lays P ops' C o v a ↔ Lays P ops C o v a := by
  unfold Lays
  rw [t.yielded]
/-- Where the run stands to the text. -/
def Rel (ia : Nat) (N : Tmp) (ob : Obj) (base : Nat) (listed : Array Bool) (am ar : Act) (w : World) : Prop :=
  (listed.getD ia true = true ∧ ∃ gb, ar = am.put (some N) (.pointer (some ⟨gb, 0, none⟩)) ∧ w.heap[gb]? = some ob ∧ base ≤ gb) ∨ (listed.getD ia true = false ∧ ar = am)
theorem put_put (a : Act) (N : Tmp) (u v : Value) : (a.put (some N) u).put (some N) v = a.put (some N) v := by
  simp [Act.put]
theorem Twin.run (t : Twin P ops ops' ia N ob) {base g : Nat} {Q : Exit → Act → World → Prop} (hC : ∀ w w', C w → Below w.heap.size w w' → C w') (hb : ∀ w, C w → base ≤ w.heap.size) (hsel : ∀ (j : Nat) (o : Oper) cs b, ops[j]? = some o → o.op ≠ .select cs b)
    (hap : ∀ j o, ops[j]? = some o → j ≠ ia → j < n → N ∉ o.looksAt ops ∧ o.dst ≠ some N)
    (hL : ∀ listed am, HeadInv md ops' n listed → L listed am → listed.getD ia true = true ∧ ∀ gb w, C w → w.heap[gb]? = some ob → base ≤ gb → wpAny P md ops Q g listed (am.put (some N) (.pointer (some ⟨gb, 0, none⟩))) w) (f : Nat) :
    ∀ (listed : Array Bool) (am ar : Act) (w : World), C w → HeadInv md ops' n listed → Rel ia N ob base listed am ar w → Head P md ops' C n L f listed am → wpAny P md ops Q (f + g) listed ar w := by
  induction f with
  | zero =>
    intro listed am ar w hw inv hR h
    rw [Nat.zero_add]
    obtain ⟨h1, h2⟩ := hL listed am inv h
    rcases hR with ⟨_, gb, rfl, h3, h4⟩ | ⟨h3, _⟩
    · exact h2 gb w hw h3 h4
    · rw [h1] at h3; cases h3
  | succ f ih =>
    intro listed am ar w hw inv hR ⟨⟨i0, h0⟩, h⟩
    rw [Nat.succ_add]
    refine ⟨fun e => absurd h0 (by rw [t.ready, e]; exact List.not_mem_nil), fun i hi => ?_⟩
    rw [← t.ready] at hi
    obtain ⟨hin, o, v, ho, hy, hK⟩ := h i hi
    have hun := (mem_ready.1 hi).1
    by_cases e : i = ia
    · subst e
      obtain ⟨q, q', h1, h2, h3, h4, h5, h6, h7⟩ := t.at_
      obtain rfl : q' = o := by rw [h2] at ho; exact Option.some.inj ho
      rcases hR with ⟨hR, _⟩ | ⟨_, rfl⟩
      · rw [hR] at hun; cases hun
      · unfold wpOp
        simp only [h1]
        rw [if_pos (h6 _)]
        refine .inl ?_
        unfold Oper.wp
        rw [h7]
        simp only [Oper.upon]
        rw [h4]
        rw [h5] at hK
        have hbl := (Below.refl w.heap.size w).alloc (Nat.le_refl _) ob
        refine ih _ _ _ _ (hC _ _ hw hbl) (inv.set hi hin) (.inl ⟨?_, w.heap.size, (put_put _ _ _ _).symm, heap_alloc_new w ob, hb w hw⟩) hK
        rcases Nat.lt_or_ge i listed.size with h' | h'
        · simp [h']
        · simp [Array.getElem?_eq_none h'] at hun
    · have hoj : ops[i]? = some o := by rw [← t.same i e]; exact ho
      have hy := t.lays.1 hy
      rcases hR with ⟨hR, gb, rfl, h3, h4⟩ | ⟨hR, rfl⟩
      · obtain ⟨p1, p2⟩ := hap i o hoj e hin
        refine up_wp hw hoj ((Lays.keep (fun cs b => hsel i o cs b hoj) (fun x hx => by injection hx with hx; subst hx; exact p1)).2 hy) (fun w' hb' => ?_)
        rw [Act.put_comm am (x := some N) (y := o.dst) _ _ (fun d hd => by injection hd with hd; subst hd; exact p2)]
        exact ih _ _ _ _ (hC _ _ hw hb') (inv.set hi hin) (.inl ⟨by rw [getD_set_ne true e]; exact hR, gb, rfl, (hb'.block gb (Array.getElem?_eq_some_iff.1 h3).1).trans h3, h4⟩) hK
      · refine up_wp hw hoj hy (fun w' hb' => ?_)
        exact ih _ _ _ _ (hC _ _ hw hb') (inv.set hi hin) (.inr ⟨by rw [getD_set_ne true e]; exact hR, rfl⟩) hK
end
/-- The worlds behind w: 'Below'. -/
def Cls (w : World) (w' : World) : Prop := ∃ p : Regrown, w' = grow (redrawn w p.d) p.os
theorem Cls.below {w w' : World} : Cls w w' → Below w.heap.size w w' := fun ⟨p, h⟩ => h ▸ below_regrown w p.d p.os
theorem Cls.of {w w' : World} (h : Below w.heap.size w w') : Cls w w' := regrown_of_below h
theorem Cls.step {w w1 w2 : World} (h : Cls w w1) (hb : Below w1.heap.size w1 w2) : Cls w w2 := Cls.of (h.below.trans (hb.mono h.below.size))
theorem Cls.drawn (w : World) : Cls w { w with drawn := w.drawn + 1 } := ⟨⟨w.drawn + 1, #[]⟩, by rw [grow_empty]; rfl⟩
section
variable {P : Program} {id : Nat} {Q : Exit → Act → World → Prop} {a : Act} {w : World} {l : List Oper}
theorem Head.run {ops : Array Oper} {md : Region.Mode} {n g : Nat} {L : Array Bool → Act → Prop} {C : World → Prop} (hC : ∀ w w', C w → Below w.heap.size w w' → C w') (hL : ∀ listed a w, C w → L listed a → wpAny P md ops Q g listed a w) (f : Nat) : ∀ (listed : Array Bool) (a : Act) (w : World), C w → Head P md ops C n L f listed a → wpAny P md ops Q (f + g) listed a w := by
  induction f with
  | zero => intro listed a w hw h; rw [Nat.zero_add]; exact hL listed a w hw h
  | succ f ih =>
    intro listed a w hw ⟨⟨i0, h0⟩, h⟩
    rw [Nat.succ_add]
    refine ⟨fun e => absurd h0 (by rw [e]; exact List.not_mem_nil), fun i hi => ?_⟩
    obtain ⟨_, o, v, ho, hy, hK⟩ := h i hi
    exact up_wp hw ho hy (fun w' hb => ih _ _ _ (hC _ _ hw hb) hK)
theorem inv0 (l : List Oper) (n : Nat) : HeadInv .any l.toArray n (Array.replicate l.toArray.size false) := ⟨by simp, fun j oj _ hl => (by rw [getD_replicate_false] at hl; cases hl), fun t _ ht => getD_in (by simpa using ht) (getD_replicate_false _ _)⟩
theorem region (n : Nat) (hm : P.follows .mixedOrders = true) (hB : Region.lexTailB .any l.toArray n = true)
    (h : Tx P l.toArray (Cls w) (fun a' => ∀ w', Cls w w' → wpList P l.toArray Q (l.drop n) a' w') (l.take n) a) : (Code.region id l.toArray true).wp P Q a w := by
  simp only [Region.lexTailB, Bool.and_eq_true, decide_eq_true_eq] at hB
  obtain ⟨⟨⟨⟨hsel, hn⟩, hs⟩, hc⟩, hlex⟩ := hB
  have hlen : (l.take n).length = n := by simp at hn ⊢; omega
  have hdrop : (l.drop n).length = l.toArray.size - n := by simp
  have H := Head.text (md := .any) (g := l.toArray.size - n) hsel (fun _ inv _ _ => ready_lt hs hc hn inv) (l.take n) 0 _ a (fun j hj => by
    rw [hlen] at hj; simp [hj]) (by rw [hlen, Nat.zero_add]) (inv0 l n) (by rw [hlen]; exact hlex) h.out
  have R := Head.run (Q := Q) (g := l.toArray.size - n) (fun _ _ h hb => Cls.step h hb) (fun listed a' w' hw' hL => by
    have h2 := wpAny_of_seq (md := .any) (Q' := Q) (l.drop n) n listed a' w' (fun j => by simp [List.getElem?_drop]) (by rw [hdrop]; exact hL.1) (hL.2 w' hw')
    rw [hdrop] at h2
    exact h2) _ _ _ _ (Cls.drawn w) H
  rw [hlen, show n + (l.toArray.size - n) = l.toArray.size by omega] at R
  exact wp_region_any hm R
theorem region_all (hm : P.follows .mixedOrders = true) (hB : (Region.noSelect l.toArray && Region.lexHead .any l.toArray 0 l.length 0 (Array.replicate l.toArray.size false)) = true)
    (h : Tx P l.toArray (Cls w) (fun a' => ∀ w', Cls w w' → Q .normal a' w') l a) : (Code.region id l.toArray true).wp P Q a w := by
  simp only [Bool.and_eq_true] at hB
  have H := Head.text (md := .any) (n := l.length) (g := 0) hB.1 (fun listed _ i j _ _ hj => by
    have := (List.mem_filter.1 hj).1
    simpa using this) l 0 _ a (fun j hj => by simp) (Nat.zero_add _) (inv0 l l.length) hB.2 h.out
  have R := Head.run (Q := Q) (g := 0) (fun _ _ h hb => Cls.step h hb) (fun listed a' w' hw' hL => ⟨by simpa [Region.seqB] using hL.1, hL.2 w' hw'⟩) _ _ _ _ (Cls.drawn w) H
  refine wp_region_any hm ?_
  simpa using R
def still (o : Oper) : Oper := { o with op := .move (.const undef) }
def apartB (ops : Array Oper) (n ia : Nat) (N : Tmp) : Bool := (List.range n).all fun j => j == ia || (match ops[j]? with | some o => !(o.looksAt ops).contains N && o.dst != some N | none => true)
theorem region_alloc (n ia : Nat) (N : Tmp) (o : Oper) (t : TypeId) (ob : Obj) (hm : P.follows .mixedOrders = true) (ho : l[ia]? = some o) (hop : o.op = .alloc t) (hdst : o.dst = some N) (hgd : o.guard = none) (hian : ia < n)
    (hrun : ∀ ev (w : World), (execOp ev o).run P w = .ok (.value (.pointer (some ⟨w.heap.size, 0, none⟩))) (w.alloc ob))
    (hB : Region.lexTailB .any (l.set ia (still o)).toArray n = true) (hA : apartB l.toArray n ia N = true)
    (h : Tx P (l.set ia (still o)).toArray (Cls w) (fun a' => ∀ gb, w.heap.size ≤ gb → ∀ w', Cls w w' → w'.heap[gb]? = some ob → wpList P l.toArray Q (l.drop n) (a'.put (some N) (.pointer (some ⟨gb, 0, none⟩))) w') ((l.set ia (still o)).take n) a) : (Code.region id l.toArray true).wp P Q a w := by
  have hil : ia < l.length := (List.getElem?_eq_some_iff.1 ho).1
  have tw : Twin P l.toArray (l.set ia (still o)).toArray ia N ob := by
    refine ⟨by simp, fun j hj => ?_, o, still o, by simpa using ho, by simp [hil], rfl, hdst, hdst, fun y => ?_, hrun⟩
    · simp only [List.getElem?_toArray]
      exact List.getElem?_set_ne (Ne.symm hj)
    · unfold Region.wanted; rw [hgd]
  simp only [Region.lexTailB, Bool.and_eq_true, decide_eq_true_eq] at hB
  obtain ⟨⟨⟨⟨hsel, hn⟩, hs⟩, hc⟩, hlex⟩ := hB
  have hn' : n < l.length := by simpa using hn
  have hlen : ((l.set ia (still o)).take n).length = n := by simp; omega
  have hsz : (l.set ia (still o)).toArray.size = l.length := by simp
  have H := Head.text (md := .any) (g := (l.set ia (still o)).toArray.size - n) hsel (fun _ inv _ _ => ready_lt hs hc hn inv) ((l.set ia (still o)).take n) 0 _ a (fun j hj => by
    rw [hlen] at hj
    rw [List.getElem?_take_of_lt hj, Nat.zero_add, List.getElem?_toArray]) (by rw [hlen, Nat.zero_add]) (inv0 _ n) (by rw [hlen]; exact hlex) h.out
  have hsel' : ∀ (j : Nat) (q : Oper) cs b, l.toArray[j]? = some q → q.op ≠ .select cs b := fun j q cs b hq => by
    by_cases e : j = ia
    · subst e
      have : q = o := by
        rw [List.getElem?_toArray, ho] at hq
        exact (Option.some.inj hq).symm
      rw [this, hop]
      intro e; cases e
    · exact Region.noSelect_spec hsel j q cs b (by rw [tw.same j e]; exact hq)
  have hap : ∀ j q, l.toArray[j]? = some q → j ≠ ia → j < n → N ∉ q.looksAt l.toArray ∧ q.dst ≠ some N := fun j q hq hj hjn => by
    have := List.all_eq_true.1 hA j (List.mem_range.2 hjn)
    rw [hq] at this
    simp only [Bool.or_eq_true, beq_iff_eq, hj, false_or, Bool.and_eq_true, Bool.not_eq_true', bne_iff_ne] at this
    exact ⟨fun hm => by have := this.1; simp [hm] at this, this.2⟩
  have R := tw.run (base := w.heap.size) (g := l.length - n) (Q := Q) (L := fun listed a' => Region.seqB .any (l.set ia (still o)).toArray (l.length - n) n listed = true ∧ ∀ gb, w.heap.size ≤ gb → ∀ w', Cls w w' → w'.heap[gb]? = some ob → wpList P l.toArray Q (l.drop n) (a'.put (some N) (.pointer (some ⟨gb, 0, none⟩))) w') (md := .any) (n := n) (fun _ _ h hb => Cls.step h hb) (fun w' h => h.below.size) hsel' hap (fun listed am inv hL => by
    have hrd : n ∈ Region.ready .any (l.set ia (still o)).toArray listed := by
      obtain ⟨q, hq⟩ : ∃ q, l.length - n = q + 1 := ⟨l.length - n - 1, by omega⟩
      have h1 := hL.1
      rw [hq] at h1
      simp only [Region.seqB, Bool.and_eq_true, decide_eq_true_eq] at h1
      rw [h1.1]; exact List.mem_singleton.2 rfl
    refine ⟨?_, fun gb w' hw' hg hbg => ?_⟩
    · cases hun : listed.getD ia true with
      | true => rfl
      | false => exact absurd hrd (tail_waits hs hc hn inv _ ia rfl hian hun n (Nat.le_refl _))
    · have h2 := wpAny_of_seq (md := .any) (Q' := Q) (P := P) (ops := l.toArray) (l.drop n) n listed (am.put (some N) (.pointer (some ⟨gb, 0, none⟩))) w' (fun j => by simp [List.getElem?_drop]) ?_ (hL.2 gb hbg w' hw' hg)
      · simpa using h2
      · have h1 := hL.1
        have : ∀ (g k : Nat) (li : Array Bool), Region.seqB .any l.toArray g k li = Region.seqB .any (l.set ia (still o)).toArray g k li := fun g => by
          induction g with
          | zero => intro k li; simp only [Region.seqB, tw.ready]
          | succ g ih => intro k li; simp only [Region.seqB, tw.ready, ih]
        rw [this]
        simpa using h1) n _ a a _ (Cls.drawn w) (inv0 _ n) (.inr ⟨by rw [getD_in (by simpa using hil) (getD_replicate_false _ _)], rfl⟩) (by rw [hsz, hlen] at H; rw [hsz]; exact H)
  rw [show n + (l.length - n) = l.length by omega] at R
  refine wp_region_any hm ?_
  simpa using R
end
end Go.Proofs.Ytkidnomkfdnciaa.QR
