/- With no fewer rows nothing costs less, and every cost is between 0 and 2^50. No further condition. -/
import Derived.Test.YtogancfhameniaaPlain
namespace Go.Proofs.Ytogancfhameniaa.Pure
open Go.RowKit Go.Proofs.Ytogancfhameniaa.Cost Go.Proofs.YtogancfhameniaaW.PrintWords Go.Proofs.YtogancfhameniaaW.PrintLast Go.Proofs.YtogancfhameniaaW.PrintMore

theorem rowsS_mono {a b : Int} (h : a ≤ b) : rowsS a ≤ rowsS b := by unfold rowsS; omega
theorem more_loop (s g : List Int) (hs : s.length ≤ 100) (hg : g.length = s.length) (hle : ∀ j (h : j < s.length), s[j] ≤ g[j] ∧ 0 ≤ s[j] ∧ g[j] ≤ 1125899906842624) (d : Nat) :
    ∀ (k i : Nat), i + d = s.length → d < k → roadbooklaw10_CostMore.l0 k s g (i : Int) = some true := by
  induction d with
  | zero =>
    intro k i hi hk
    obtain ⟨k, rfl⟩ : ∃ m, k = m + 1 := ⟨k - 1, by omega⟩
    simp only [roadbooklaw10_CostMore.l0]
    rw [if_neg (by omega)]
  | succ d ih =>
    intro k i hi hk
    obtain ⟨k, rfl⟩ : ∃ m, k = m + 1 := ⟨k - 1, by omega⟩
    have hlt : i < s.length := by omega
    have hl := hle i hlt
    simp only [roadbooklaw10_CostMore.l0]
    rw [if_pos (by omega), if_pos (by omega), if_pos (by omega), rd_at s i hlt, rd_at g i (by omega), if_neg (by omega), if_neg (by omega), if_neg (by omega), wrap_in (by omega) (by omega)]
    exact ih k (i + 1) (by omega) (by omega)
theorem CostMore : roadbooklaw10_CostMore.Pure := by
  intro a b c d h wa wb wc wd
  refine ⟨20, ?_⟩
  unfold roadbooklaw10_CostMore.f
  rw [awake_some _ (by omega)]
  simp only [Option.bind_some, if_true]
  have J : ∀ x, roadbooklaw10_CostMore.j0 20 a b c d h true true = x → x = some true := by intro x h; rw [← h]; simp [roadbooklaw10_CostMore.j0]
  by_cases h1 : a > c
  · rw [if_pos h1]; exact J _ rfl
  rw [if_neg h1]
  by_cases h2 : b > d
  · rw [decide_eq_true h2]; exact J _ rfl
  rw [decide_eq_false h2]
  simp only [roadbooklaw10_CostMore.j0, Bool.false_eq_true, if_false]
  simp only [scan_some, nest_some, sort_some, group_some, Option.bind_some]
  rw [hash_some _ _ _ (by omega), hash_some _ _ _ (by omega), merge_some _ _ _ (by omega), merge_some _ _ _ (by omega), add_two _ _ _ (by omega), add_two _ _ _ (by omega)]
  simp only [Option.bind_some]
  have ra := rowsS_bd a
  have rb := rowsS_bd b
  have rc := rowsS_bd c
  have rd := rowsS_bd d
  have mac := rowsS_mono (a := a) (b := c) (by omega)
  have mbd := rowsS_mono (a := b) (b := d) (by omega)
  have n1 := nestS_bd a b
  have n2 := nestS_bd c d
  have n3 : nestS a b ≤ nestS c d := by
    have : rowsS a * rowsS b ≤ rowsS c * rowsS d := Int.mul_le_mul mac mbd rb.1 rc.1
    unfold nestS; omega
  have s1 := sortS_bd a
  have s2 := sortS_bd c
  have s3 : sortS a ≤ sortS c := Int.mul_le_mul mac (bl_mono mac rc.2) (bl_bd ra.2).1 rc.1
  have g1 := groupS_bd a h
  have g2 := groupS_bd c h
  have g3 : groupS a h ≤ groupS c h := by unfold groupS; split <;> omega
  have c1 := clampS_bd a
  have c2 := clampS_bd b
  have c3 : clampS a ≤ clampS c := by unfold clampS; omega
  have c4 : clampS b ≤ clampS d := by unfold clampS; omega
  refine more_loop [rowsS a, nestS a b, hashS a b, mergeS a b, sortS a, groupS a h, min (clampS a + clampS b) 1125899906842624] [rowsS c, nestS c d, hashS c d, mergeS c d, sortS c, groupS c h, min (clampS c + clampS d) 1125899906842624] (by simp) rfl ?_ 7 19 0 rfl (by omega)
  intro j hj
  match j, hj with
  | 0, _ => exact ⟨by simpa using mac, by simpa using ra.1, by simp; omega⟩
  | 1, _ => simp; omega
  | 2, _ => simp [hashS]; omega
  | 3, _ => simp [mergeS]; omega
  | 4, _ => simp; omega
  | 5, _ => simp; omega
  | 6, _ => exact ⟨by simp; omega, by simp; omega, by simp; omega⟩
end Go.Proofs.Ytogancfhameniaa.Pure
