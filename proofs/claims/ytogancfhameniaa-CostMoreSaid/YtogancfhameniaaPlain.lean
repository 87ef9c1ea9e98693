/- Plain facts on numbers: what each printed function of the packages cost and roadbookref10 comes to. -/
import Derived.Test.YtogancfhameniaaCostx
import Derived.Lib.ItoaNum
import Derived.Laws.Bits64
namespace Go.Proofs.Ytogancfhameniaa.Pure
open Go.RowKit Go.Proofs.Ytogancfhameniaa.Cost Go.Proofs.YtogancfhameniaaW.PrintWords Go.Proofs.YtogancfhameniaaW.PrintLast Go.Proofs.YtogancfhameniaaW.PrintMore

theorem mx_max (a b : Int) : mx a b = max a b := by unfold mx; split <;> omega
theorem mn_min (a b : Int) : mn a b = min a b := by unfold mn; split <;> omega
theorem wrap_in {x : Int} (h0 : -9223372036854775808 ≤ x) (h1 : x ≤ 9223372036854775807) : wrap64 x = x := by unfold wrap64; omega
theorem u64_in {x : Int} (h0 : 0 ≤ x) (h1 : x ≤ 18446744073709551615) : IntKind.u64.wrap x = x := by rw [IntKind.wrap_u64]; omega
theorem u64B_in {x : Int} (h0 : 0 ≤ x) (h1 : x ≤ 18446744073709551615) : u64B x = true := by simp [u64B, h0, h1]

def rowsS (n : Int) : Int := min (max n 0) 1099511627776
def clampS (x : Int) : Int := min (max x 0) 1125899906842624
def stepS (n x : Int) : Int := min (n + clampS x) 1125899906842624
def csum (l : List Int) : Int := (l.map clampS).sum
def addS (l : List Int) : Int := min (csum l) 1125899906842624

theorem rowsS_bd (n : Int) : 0 ≤ rowsS n ∧ rowsS n ≤ 1099511627776 := by unfold rowsS; omega
theorem clampS_bd (n : Int) : 0 ≤ clampS n ∧ clampS n ≤ 1125899906842624 := by unfold clampS; omega
theorem clampS_id {n : Int} (h0 : 0 ≤ n) (h1 : n ≤ 1125899906842624) : clampS n = n := by unfold clampS; omega
theorem csum_nil : csum [] = 0 := rfl
theorem csum_cons (x : Int) (l : List Int) : csum (x :: l) = clampS x + csum l := by simp [csum]
theorem csum_append (l k : List Int) : csum (l ++ k) = csum l + csum k := by simp [csum]
theorem csum_pos (l : List Int) : 0 ≤ csum l := by
  induction l with
  | nil => simp [csum]
  | cons x l ih => rw [csum_cons]; have := clampS_bd x; omega
theorem csum_reverse (l : List Int) : csum l.reverse = csum l := by
  induction l with
  | nil => rfl
  | cons x l ih => rw [List.reverse_cons, csum_append, csum_cons, csum_cons, csum_nil, ih]; omega
theorem csum_mem {l : List Int} {x : Int} (h : x ∈ l) : clampS x ≤ csum l := by
  induction l with
  | nil => cases h
  | cons y l ih =>
    rw [csum_cons]
    have hp := csum_pos l
    have hy := clampS_bd y
    rcases List.mem_cons.1 h with rfl | h
    · omega
    · have := ih h; omega
theorem addS_bd (l : List Int) : 0 ≤ addS l ∧ addS l ≤ 1125899906842624 := by have := csum_pos l; unfold addS; omega
theorem foldl_stepS (l : List Int) : ∀ acc : Int, 0 ≤ acc → acc ≤ 1125899906842624 → l.foldl stepS acc = min (acc + csum l) 1125899906842624 := by
  induction l with
  | nil => intro acc h0 h1; simp [csum]; omega
  | cons x l ih =>
    intro acc h0 h1
    have hx := clampS_bd x
    have hp := csum_pos l
    rw [List.foldl_cons, ih _ (by unfold stepS; omega) (by unfold stepS; omega), csum_cons]
    unfold stepS
    omega

theorem rd_at (l : List Int) (n : Nat) (h : n < l.length) : rd l (n : Int) = l[n] := by
  simp [rd, List.getD_eq_getElem?_getD, List.getElem?_eq_getElem h]

theorem add_loop (l : List Int) (hl : l.length ≤ 17592186044416) (d : Nat) : ∀ (k i : Nat) (acc : Int), i + d = l.length → d < k → 0 ≤ acc → acc ≤ 1125899906842624 →
    cost_Add.l0 k acc l (l.length : Int) (i : Int) = some ((l.drop i).foldl stepS acc) := by
  induction d with
  | zero =>
    intro k i acc hi hk h0 h1
    obtain ⟨k, rfl⟩ : ∃ m, k = m + 1 := ⟨k - 1, by omega⟩
    simp only [cost_Add.l0]
    rw [if_neg (by omega), List.drop_of_length_le (by omega)]
    rfl
  | succ d ih =>
    intro k i acc hi hk h0 h1
    obtain ⟨k, rfl⟩ : ∃ m, k = m + 1 := ⟨k - 1, by omega⟩
    have hlt : i < l.length := by omega
    simp only [cost_Add.l0]
    rw [if_pos (by omega), if_pos (by omega), if_pos (by omega), rd_at l i hlt, mx_max, mn_min, mn_min]
    have hx := clampS_bd l[i]
    have e1 : wrap64 (acc + min (max l[i] 0) 1125899906842624) = acc + clampS l[i] := wrap_in (by unfold clampS at hx; omega) (by unfold clampS at hx; omega)
    have e2 : wrap64 ((i : Int) + 1) = ((i + 1 : Nat) : Int) := by rw [wrap_in (by omega) (by omega)]; omega
    rw [e1, e2, ih k (i + 1) _ (by omega) (by omega) (by omega) (by omega), List.drop_eq_getElem_cons hlt, List.foldl_cons]
    rfl
theorem add_some (l : List Int) (k : Nat) (hl : l.length ≤ 17592186044416) (hk : l.length < k) : cost_Add.f k l = some (addS l) := by
  unfold cost_Add.f
  have := add_loop l hl l.length k 0 0 (by omega) hk (by omega) (by omega)
  rw [show ((0 : Nat) : Int) = 0 from rfl] at this
  rw [this, List.drop_zero, foldl_stepS l 0 (by omega) (by omega), Int.zero_add]
  rfl

theorem rows_some (a : Int) : cost_rows.f a = some (rowsS a) := by unfold cost_rows.f; rw [mx_max, mn_min]; rfl

theorem times_some (a b : Int) (ha : 0 ≤ a) (hA : a ≤ 1125899906842624) (hb : 0 ≤ b) (hB : b ≤ 1125899906842624) : cost_times.f a b = some (min (a * b) 1125899906842624) := by
  obtain ⟨x, rfl⟩ := Int.eq_ofNat_of_zero_le ha
  obtain ⟨y, rfl⟩ := Int.eq_ofNat_of_zero_le hb
  unfold cost_times.f bits_Mul64.f
  rw [u64_in (by omega) (by omega), u64_in (by omega) (by omega), u64B_in (by omega) (by omega), u64B_in (by omega) (by omega)]
  simp only [Bool.and_self, if_true, Option.bind_some, Int.toNat_natCast]
  rw [← Int.natCast_mul]
  generalize x * y = p
  by_cases h : p ≤ 1125899906842624
  · rw [Nat.div_eq_of_lt (by omega), Nat.mod_eq_of_lt (by omega), if_neg (by omega), if_neg (by omega), wrap_in (by omega) (by omega)]
    congr 1; omega
  · by_cases h2 : 18446744073709551616 ≤ p
    · rw [if_pos (by omega)]; congr 1; omega
    · rw [Nat.div_eq_of_lt (by omega), Nat.mod_eq_of_lt (by omega), if_neg (by omega), if_pos (by omega)]
      congr 1; omega

/-- The number of binary digits. -/
def bl (x : Int) : Int := ((Lib.bitLen x.toNat : Nat) : Int)
theorem bl_zero : bl 0 = 0 := by decide
theorem bl_nat {n : Nat} (h : n < 2 ^ 64) (h0 : n ≠ 0) : 1 ≤ Lib.bitLen n ∧ 2 ^ (Lib.bitLen n - 1) ≤ n ∧ n < 2 ^ Lib.bitLen n := Lib.bitLenAux_bounds 64 n h h0
theorem bl_le {n k : Nat} (h : n < 2 ^ 64) (hk : n < 2 ^ k) : Lib.bitLen n ≤ k := by
  by_cases h0 : n = 0
  · subst h0; exact Nat.le_trans (by decide) (Nat.zero_le k)
  · have h1 := bl_nat h h0
    have : 2 ^ (Lib.bitLen n - 1) < 2 ^ k := Nat.lt_of_le_of_lt h1.2.1 hk
    have := (Nat.pow_lt_pow_iff_right (by omega : 1 < 2)).1 this
    omega
theorem bl_mono_nat {n m : Nat} (hm : m < 2 ^ 64) (h : n ≤ m) : Lib.bitLen n ≤ Lib.bitLen m := by
  by_cases h0 : m = 0
  · have : n = 0 := by omega
    subst this; subst h0; exact Nat.le_refl _
  · exact bl_le (by omega) (Nat.lt_of_le_of_lt h (bl_nat hm h0).2.2)
theorem bl_double_nat {n : Nat} (h0 : n ≠ 0) (hm : 2 * n < 2 ^ 64) : Lib.bitLen (2 * n) = Lib.bitLen n + 1 := by
  rw [Lib.bitLen_half (2 * n) (by omega) hm, Nat.mul_div_cancel_left n (by omega)]; omega
theorem bl_bd {x : Int} (h : x ≤ 1099511627776) : 0 ≤ bl x ∧ bl x ≤ 41 := by
  refine ⟨by unfold bl; omega, ?_⟩
  have : Lib.bitLen x.toNat ≤ 41 := bl_le (by omega) (by omega)
  unfold bl; omega
theorem bl_mono {x y : Int} (h : x ≤ y) (hy : y ≤ 1099511627776) : bl x ≤ bl y := by
  have : Lib.bitLen x.toNat ≤ Lib.bitLen y.toNat := bl_mono_nat (by omega) (by omega)
  unfold bl; omega
theorem bl_pos {x : Int} (h : 0 < x) (hx : x ≤ 1099511627776) : 1 ≤ bl x := by
  have := (bl_nat (n := x.toNat) (by omega) (by omega)).1
  unfold bl; omega
theorem bl_double {x : Int} (h : 0 < x) (hx : x ≤ 549755813888) : bl (2 * x) = bl x + 1 := by
  have := bl_double_nat (n := x.toNat) (by omega) (by omega)
  unfold bl
  rw [show (2 * x).toNat = 2 * x.toNat by omega, this]
  omega

theorem len_some (x : Int) (h0 : 0 ≤ x) (h1 : x ≤ 18446744073709551615) : bits_Len64.f x = some (bl x) := by
  unfold bits_Len64.f; rw [u64B_in h0 h1]; rfl

def sortS (a : Int) : Int := rowsS a * bl (rowsS a)
def nestS (a b : Int) : Int := min (rowsS a * rowsS b) 1125899906842624
def hashS (a b : Int) : Int := rowsS a + 2 * rowsS b
def mergeS (a b : Int) : Int := rowsS a + rowsS b
def groupS (a : Int) (h : Bool) : Int := if h then 2 * rowsS a else rowsS a

theorem mul_bd {a b A B : Int} (ha : 0 ≤ a) (hA : a ≤ A) (hb : 0 ≤ b) (hB : b ≤ B) : 0 ≤ a * b ∧ a * b ≤ A * B :=
  ⟨Int.mul_nonneg ha hb, Int.mul_le_mul hA hB hb (Int.le_trans ha hA)⟩
theorem sortS_bd (a : Int) : 0 ≤ sortS a ∧ sortS a ≤ 45079976738816 := by
  have h := rowsS_bd a
  have hb := bl_bd h.2
  have := mul_bd h.1 h.2 hb.1 hb.2
  unfold sortS; omega
theorem nestS_bd (a b : Int) : 0 ≤ nestS a b ∧ nestS a b ≤ 1125899906842624 := by
  have := Int.mul_nonneg (rowsS_bd a).1 (rowsS_bd b).1
  unfold nestS; omega
theorem hashS_bd (a b : Int) : 0 ≤ hashS a b ∧ hashS a b ≤ 3298534883328 := by have := rowsS_bd a; have := rowsS_bd b; unfold hashS; omega
theorem mergeS_bd (a b : Int) : 0 ≤ mergeS a b ∧ mergeS a b ≤ 2199023255552 := by have := rowsS_bd a; have := rowsS_bd b; unfold mergeS; omega
theorem groupS_bd (a : Int) (h : Bool) : 0 ≤ groupS a h ∧ groupS a h ≤ 2199023255552 := by have := rowsS_bd a; unfold groupS; split <;> omega

theorem add_two (x y : Int) (k : Nat) (hk : 2 < k) : cost_Add.f k [x, y] = some (min (clampS x + clampS y) 1125899906842624) := by
  rw [add_some _ k (by simp) (by simpa using hk)]
  simp only [addS, csum_cons, csum_nil, Int.add_zero]

theorem sort_some (a : Int) : cost_Sort.f a = some (sortS a) := by
  have h := rowsS_bd a
  have hb := bl_bd h.2
  have hm := sortS_bd a
  unfold cost_Sort.f
  rw [rows_some]
  simp only [Option.bind_some]
  rw [u64_in (by omega) (by omega), len_some _ (by omega) (by omega)]
  simp only [Option.bind_some]
  rw [times_some _ _ (by omega) (by omega) (by omega) (by omega)]
  simp only [Option.bind_some]
  congr 1
  unfold sortS at *
  omega
theorem nest_some (a b : Int) : cost_Nest.f a b = some (nestS a b) := by
  have h := rowsS_bd a
  have h' := rowsS_bd b
  unfold cost_Nest.f
  rw [rows_some, rows_some]
  simp only [Option.bind_some]
  rw [times_some _ _ (by omega) (by omega) (by omega) (by omega)]
  rfl
theorem scan_some (a : Int) : cost_Scan.f a = some (rowsS a) := by
  have h := rowsS_bd a
  unfold cost_Scan.f
  rw [rows_some]
  simp only [Option.bind_some]
  rw [times_some _ _ (by omega) (by omega) (by omega) (by omega)]
  simp only [Option.bind_some]
  congr 1
  omega
theorem hash_some (a b : Int) (k : Nat) (hk : 2 < k) : cost_Hash.f k a b = some (hashS a b) := by
  have h := rowsS_bd a
  have h' := rowsS_bd b
  unfold cost_Hash.f
  rw [rows_some, rows_some]
  simp only [Option.bind_some]
  rw [times_some _ _ (by omega) (by omega) (by omega) (by omega), times_some _ _ (by omega) (by omega) (by omega) (by omega)]
  simp only [Option.bind_some]
  rw [add_two _ _ k hk]
  simp only [Option.bind_some]
  congr 1
  unfold clampS hashS
  omega
theorem merge_some (a b : Int) (k : Nat) (hk : 2 < k) : cost_Merge.f k a b = some (mergeS a b) := by
  have h := rowsS_bd a
  have h' := rowsS_bd b
  unfold cost_Merge.f
  rw [scan_some, scan_some]
  simp only [Option.bind_some]
  rw [add_two _ _ k hk]
  simp only [Option.bind_some]
  congr 1
  unfold clampS mergeS
  omega
theorem group_some (a : Int) (h : Bool) : cost_Group.f a h = some (groupS a h) := by
  have hr := rowsS_bd a
  unfold cost_Group.f groupS
  cases h
  · rw [if_neg (by simp), scan_some]; simp
  · rw [if_pos rfl, rows_some]
    simp only [Option.bind_some, if_true]
    rw [times_some _ _ (by omega) (by omega) (by omega) (by omega)]
    simp only [Option.bind_some]
    congr 1
    omega
theorem awake_some (k : Nat) (hk : 2 < k) : roadbooklaw10_awake.f k = some true := by
  unfold roadbooklaw10_awake.f
  rw [sort_some, add_two _ _ k hk, nest_some, hash_some _ _ k hk]
  decide

/-! ### the reference -/
theorem least_some (a : Int) : roadbookref10_least.f a = some (min a 1125899906842624) := by
  unfold roadbookref10_least.f
  split <;> congr 1 <;> omega
theorem rrows_some (a : Int) : roadbookref10_rows.f a = some (rowsS a) := by
  unfold roadbookref10_rows.f rowsS
  split
  · congr 1; omega
  · split <;> congr 1 <;> omega
theorem radd_loop (l : List Int) (hl : l.length ≤ 17592186044416) (d : Nat) : ∀ (k i : Nat) (acc : Int), i + d = l.length → d < k → 0 ≤ acc → acc ≤ 1125899906842624 →
    roadbookref10_Add.l0 k l acc (i : Int) = some ((l.drop i).foldl stepS acc) := by
  induction d with
  | zero =>
    intro k i acc hi hk h0 h1
    obtain ⟨k, rfl⟩ : ∃ m, k = m + 1 := ⟨k - 1, by omega⟩
    simp only [roadbookref10_Add.l0]
    rw [if_neg (by omega), List.drop_of_length_le (by omega)]
    rfl
  | succ d ih =>
    intro k i acc hi hk h0 h1
    obtain ⟨k, rfl⟩ : ∃ m, k = m + 1 := ⟨k - 1, by omega⟩
    have hlt : i < l.length := by omega
    have e2 : wrap64 ((i : Int) + 1) = ((i + 1 : Nat) : Int) := by rw [wrap_in (by omega) (by omega)]; omega
    have hs : (l.drop i).foldl stepS acc = (l.drop (i + 1)).foldl stepS (stepS acc l[i]) := by rw [List.drop_eq_getElem_cons hlt, List.foldl_cons]
    simp only [roadbookref10_Add.l0]
    rw [if_pos (by omega), if_pos (by omega), rd_at l i hlt, e2, hs]
    by_cases hx : l[i] > 0
    · rw [if_pos hx, least_some]
      simp only [Option.bind_some]
      rw [wrap_in (by omega) (by omega), least_some]
      simp only [Option.bind_some]
      rw [show min (acc + min l[i] 1125899906842624) 1125899906842624 = stepS acc l[i] from by unfold stepS clampS; omega]
      exact ih k (i + 1) _ (by omega) (by omega) (by unfold stepS clampS; omega) (by unfold stepS clampS; omega)
    · rw [if_neg hx, show stepS acc l[i] = acc from by unfold stepS clampS; omega]
      exact ih k (i + 1) _ (by omega) (by omega) h0 h1
theorem radd_some (l : List Int) (k : Nat) (hl : l.length ≤ 17592186044416) (hk : l.length < k) : roadbookref10_Add.f k l = some (addS l) := by
  unfold roadbookref10_Add.f
  have := radd_loop l hl l.length k 0 0 (by omega) hk (by omega) (by omega)
  rw [show ((0 : Nat) : Int) = 0 from rfl] at this
  rw [this, List.drop_zero, foldl_stepS l 0 (by omega) (by omega), Int.zero_add]
  rfl
theorem rscan_some (a : Int) : roadbookref10_Scan.f a = some (rowsS a) := by unfold roadbookref10_Scan.f; rw [rrows_some]; rfl
theorem rnest_some (a b : Int) : roadbookref10_Nest.f a b = some (nestS a b) := by
  have h := rowsS_bd a
  have h' := rowsS_bd b
  unfold roadbookref10_Nest.f nestS
  rw [rrows_some, rrows_some]
  simp only [Option.bind_some]
  generalize rowsS a = x at *
  generalize rowsS b = y at *
  by_cases hx : x > 0
  · rw [if_pos hx, if_neg (by omega)]
    by_cases hd : y > 1125899906842624 / x
    · rw [if_pos hd]
      have : 1125899906842624 < x * y := by
        have h1 := Int.lt_mul_ediv_self_add (x := 1125899906842624) hx
        have h2 : x * (1125899906842624 / x + 1) ≤ x * y := Int.mul_le_mul_of_nonneg_left (by omega) (by omega)
        rw [Int.mul_add, Int.mul_one] at h2
        omega
      congr 1; omega
    · rw [if_neg hd]
      have h1 : x * y ≤ x * (1125899906842624 / x) := Int.mul_le_mul_of_nonneg_left (by omega) (by omega)
      have h2 : x * (1125899906842624 / x) ≤ 1125899906842624 := Int.mul_ediv_self_le (by omega)
      have h3 : 0 ≤ x * y := Int.mul_nonneg h.1 h'.1
      rw [wrap_in (by omega) (by omega)]
      congr 1; omega
  · have : x = 0 := by omega
    subst this
    rw [if_neg (by omega), Int.zero_mul, wrap_in (by omega) (by omega)]
    rfl
theorem rhash_some (a b : Int) : roadbookref10_Hash.f a b = some (hashS a b) := by
  have h := rowsS_bd a
  have h' := rowsS_bd b
  unfold roadbookref10_Hash.f hashS
  rw [rrows_some, rrows_some]
  simp only [Option.bind_some]
  rw [wrap_in (x := 2 * rowsS b) (by omega) (by omega), wrap_in (by omega) (by omega), least_some]
  simp only [Option.bind_some]
  congr 1; omega
theorem rmerge_some (a b : Int) : roadbookref10_Merge.f a b = some (mergeS a b) := by
  have h := rowsS_bd a
  have h' := rowsS_bd b
  unfold roadbookref10_Merge.f mergeS
  rw [rrows_some, rrows_some]
  simp only [Option.bind_some]
  rw [wrap_in (by omega) (by omega), least_some]
  simp only [Option.bind_some]
  congr 1; omega
theorem rgroup_some (a : Int) (h : Bool) : roadbookref10_Group.f a h = some (groupS a h) := by
  have hr := rowsS_bd a
  unfold roadbookref10_Group.f groupS
  rw [rrows_some]
  simp only [Option.bind_some]
  cases h
  · simp
  · simp only [if_true]
    rw [wrap_in (by omega) (by omega), least_some]
    simp only [Option.bind_some]
    congr 1; omega
theorem rsort_loop (x : Nat) (hx : x ≤ 1099511627776) (d : Nat) : ∀ (k c : Nat), c + d = Lib.bitLen x → d < k → roadbookref10_Sort.l0 k (x : Int) (c : Int) ((2 ^ c : Nat) : Int) = some ((x : Int) * ((Lib.bitLen x : Nat) : Int)) := by
  have hb := bl_bd (x := (x : Int)) (by omega)
  have hb' : Lib.bitLen x ≤ 41 := by have := hb.2; unfold bl at this; rw [Int.toNat_natCast] at this; omega
  have hm := mul_bd (a := (x : Int)) (A := 1099511627776) (b := ((Lib.bitLen x : Nat) : Int)) (B := 41) (by omega) (by omega) (by omega) (by omega)
  induction d with
  | zero =>
    intro k c hc hk
    obtain ⟨k, rfl⟩ : ∃ m, k = m + 1 := ⟨k - 1, by omega⟩
    have hlt : x < 2 ^ c := by
      have hc' : c = Lib.bitLen x := by omega
      rw [hc']
      by_cases h0 : x = 0
      · subst h0; exact Nat.two_pow_pos _
      · exact (bl_nat (by omega) h0).2.2
    simp only [roadbookref10_Sort.l0]
    rw [if_neg (by omega), show (c : Int) = ((Lib.bitLen x : Nat) : Int) from by omega, wrap_in (by omega) (by omega), least_some]
    simp only [Option.bind_some]
    congr 1; omega
  | succ d ih =>
    intro k c hc hk
    obtain ⟨k, rfl⟩ : ∃ m, k = m + 1 := ⟨k - 1, by omega⟩
    have h0 : x ≠ 0 := by rintro rfl; have : Lib.bitLen 0 = 0 := by decide
                          omega
    have hle : 2 ^ c ≤ x := Nat.le_trans (Nat.pow_le_pow_right (by omega) (by omega : c ≤ Lib.bitLen x - 1)) (bl_nat (by omega) h0).2.1
    simp only [roadbookref10_Sort.l0]
    have hw : wrap64 (2 * ((2 ^ c : Nat) : Int)) = ((2 ^ (c + 1) : Nat) : Int) := by
      rw [Nat.pow_succ]
      generalize 2 ^ c = p at hle ⊢
      rw [wrap_in (by omega) (by omega)]; omega
    have hle' : ((2 ^ c : Nat) : Int) ≤ (x : Int) := by exact_mod_cast hle
    rw [if_pos hle', wrap_in (x := (c : Int) + 1) (by omega) (by omega), hw]
    exact ih k (c + 1) (by omega) (by omega)
theorem rsort_some (a : Int) (k : Nat) (hk : 41 < k) : roadbookref10_Sort.f k a = some (sortS a) := by
  have h := rowsS_bd a
  unfold roadbookref10_Sort.f sortS
  rw [rrows_some]
  simp only [Option.bind_some]
  obtain ⟨x, hx⟩ := Int.eq_ofNat_of_zero_le h.1
  rw [hx] at h ⊢
  have hb := bl_bd (x := (x : Int)) h.2
  have hbx : Lib.bitLen x ≤ 41 := by have := hb.2; unfold bl at this; rw [Int.toNat_natCast] at this; omega
  have := rsort_loop x (by omega) (Lib.bitLen x) k 0 (by omega) (by omega)
  unfold bl
  rw [Int.toNat_natCast]
  exact this
end Go.Proofs.Ytogancfhameniaa.Pure
