/- A region that draws its order: its head in the order of the text, its end (whatever waits for the head's last) by itself. -/
import Derived.Test.YtkidnomkfdnciaaQRel
import Derived.Test.YtkidnomkfdnciaaBk
namespace Go.Proofs.Ytkidnomkfdnciaa.QR
open Go Go.Sort Go.RowKit Go.Proofs.YtkidnomkfdnciaaW.PrintWords Go.Proofs.YtkidnomkfdnciaaW.PrintLast Go.Proofs.YtkidnomkfdnciaaW.PrintMore
def guardB (md : Region.Mode) (ops : Array Oper) (n : Nat) : Bool := (List.range ops.size).all fun t => decide (t ≤ n) || Region.waitsFor md ops t n
def lexB (md : Region.Mode) (ops : Array Oper) (ls : Array Bool) : Nat → Nat → Array Bool → Bool
  | 0, _, listed => listed == ls
  | f + 1, k, listed => (Region.ready md ops listed).contains k && Region.free md ops listed k && lexB md ops ls f (k + 1) (listed.setIfInBounds k true)
def midB (ops : Array Oper) (n : Nat) (ls : Array Bool) : Bool :=
  Region.noSelect ops && decide (n + 1 < ops.size) && Region.sinkB .any ops n && guardB .any ops n && (Region.ready .any ops ls).all (fun j => decide (n + 1 ≤ j)) && lexB .any ops ls (n + 1) 0 (Array.replicate ops.size false)
section
variable {md : Region.Mode} {ops : Array Oper} {n : Nat} {listed : Array Bool}
theorem last_waits (hs : Region.sinkB md ops n = true) (inv : HeadInv md ops (n + 1) listed) : ∀ (d i : Nat), n - i = d → i ≤ n → listed.getD i true = false → listed.getD n true = false := by
  intro d
  induction d using Nat.strongRecOn with
  | _ d ih =>
    intro i hd hi hun
    by_cases hin : i = n
    · rw [← hin]; exact hun
    · have h1 := List.all_eq_true.1 hs i (List.mem_range.2 (by omega))
      obtain ⟨j, hj, hj2⟩ := List.any_eq_true.1 h1
      simp only [Bool.and_eq_true, decide_eq_true_eq] at hj2
      obtain ⟨oj, hoj, e, he, hb, hon⟩ := Region.waitsFor_spec hj2.2
      have hjle : j ≤ n := by have := List.mem_range.1 hj; omega
      have hju : listed.getD j true = false := by
        apply getD_in (by rw [inv.size]; exact (Array.getElem?_eq_some_iff.1 hoj).1)
        cases hl : listed.getD j false with
        | false => rfl
        | true =>
          have := inv.closed j oj hoj hl e he hb
          rw [hon] at this
          rw [getD_both hun] at this
          cases this
      exact ih (n - j) (by omega) j rfl hjle hju
theorem guard_lt (hs : Region.sinkB md ops n = true) (hg : guardB md ops n = true) (inv : HeadInv md ops (n + 1) listed) {i j : Nat} (hin : i < n + 1) (hi : i ∈ Region.ready md ops listed) (hj : j ∈ Region.ready md ops listed) : j < n + 1 := by
  rcases Nat.lt_or_ge j (n + 1) with h | h
  · exact h
  · have hu := last_waits hs inv _ i rfl (by omega) (mem_ready.1 hi).1
    obtain ⟨_, oj, hoj, hall⟩ := mem_ready.1 hj
    have hjl : j < ops.size := (Array.getElem?_eq_some_iff.1 hoj).1
    have h1 := List.all_eq_true.1 hg j (List.mem_range.2 hjl)
    simp only [Bool.or_eq_true, decide_eq_true_eq] at h1
    rcases h1 with h1 | h1
    · omega
    · obtain ⟨o', ho', e, he, hb, hon⟩ := Region.waitsFor_spec h1
      rw [hoj] at ho'
      obtain rfl := Option.some.inj ho'
      have h2 := hall e he hb
      rw [hon, getD_both hu] at h2
      cases h2
variable {P : Program} {C : World → Prop}
theorem Head.lex {m : Nat} {ls : Array Bool} {Q : Act → Prop} (hsel : Region.noSelect ops = true) (hlt : ∀ listed, HeadInv md ops m listed → ∀ i j, i < m → i ∈ Region.ready md ops listed → j ∈ Region.ready md ops listed → j < m) (hls : ∀ j, j ∈ Region.ready md ops ls → m ≤ j) (l : List Oper) : ∀ (k : Nat) (listed : Array Bool) (a : Act), (∀ j, j < l.length → l[j]? = ops[k + j]?) → k + l.length = m → HeadInv md ops m listed →
    lexB md ops ls l.length k listed = true → Txt P ops C Q l a → Head P md ops C m (fun listed a => listed = ls ∧ Q a) l.length listed a := by
  induction l with
  | nil =>
    intro k listed a _ hk _ hB h
    exact ⟨by simpa [lexB] using hB, h⟩
  | cons o l ih =>
    intro k listed a hl hk inv hB h
    have h0 : ops[k]? = some o := (hl 0 (Nat.succ_pos _)).symm
    rw [List.length_cons] at hB hk
    simp only [lexB, Bool.and_eq_true] at hB
    obtain ⟨⟨hr, hf⟩, hB⟩ := hB
    have hr : k ∈ Region.ready md ops listed := by simpa using hr
    have hkn : k < m := by omega
    obtain ⟨o', v, ho', hy, hK⟩ := txt_up h0 h
    obtain rfl : o = o' := by rw [h0] at ho'; exact Option.some.inj ho'
    refine Head.first h0 (Region.noSelect_spec hsel) hlt hkn (fun _ _ hL => by obtain ⟨rfl, _⟩ := hL; exact hls) l.length listed a inv (Region.free_spec h0 hf) hr hy (ih (k + 1) _ _ (fun j hj => ?_) (by omega) (inv.set hr hkn) hB hK)
    have := hl (j + 1) (by rw [List.length_cons]; omega)
    rw [List.getElem?_cons_succ] at this
    rw [this]
    congr 1
    omega
end
section
variable {P : Program} {id : Nat} {Q : Exit → Act → World → Prop} {a : Act} {w : World} {l : List Oper}
/-- The first n + 1 operations in the order of the text; then the others, which wait for operation n, in any order that may be. -/
theorem region_mid (n : Nat) (ls : Array Bool) (S : World → Prop) (ds : List Nat) (hm : P.follows .mixedOrders = true) (hB : midB l.toArray n ls = true)
    (h : Tx P l.toArray (Cls w) (fun a' => ∀ w', Cls w w' → wpAnyLast P .any l.toArray Q S ds (l.length - (n + 1)) ls a' w') (l.take (n + 1)) a) : (Code.region id l.toArray true).wp P Q a w := by
  simp only [midB, Bool.and_eq_true, decide_eq_true_eq] at hB
  obtain ⟨⟨⟨⟨⟨hsel, hn⟩, hs⟩, hg⟩, hr⟩, hlex⟩ := hB
  have hn' : n + 1 < l.length := by simpa using hn
  have hlen : (l.take (n + 1)).length = n + 1 := by simp; omega
  have H := Head.lex (md := .any) (ls := ls) hsel (fun _ inv _ _ => guard_lt hs hg inv) (fun j hj => by have := List.all_eq_true.1 hr j hj; simpa using this) (l.take (n + 1)) 0 _ a (fun j hj => by
    rw [hlen] at hj
    rw [List.getElem?_take_of_lt hj, Nat.zero_add, List.getElem?_toArray]) (by rw [hlen, Nat.zero_add]) (inv0 l (n + 1)) (by rw [hlen]; exact hlex) h.out
  have R := Head.run (Q := Q) (g := l.length - (n + 1)) (fun _ _ h hb => Cls.step h hb) (fun listed a' w' hw' hL => by
    obtain ⟨rfl, hL⟩ := hL
    exact wpAny_of_last _ _ _ _ (hL w' hw')) _ _ _ _ (Cls.drawn w) H
  rw [hlen, show n + 1 + (l.length - (n + 1)) = l.toArray.size by simp; omega] at R
  exact wp_region_any hm R
end
end Go.Proofs.Ytkidnomkfdnciaa.QR
