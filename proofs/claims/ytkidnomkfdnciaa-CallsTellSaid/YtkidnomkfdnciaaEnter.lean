/- What the program's own words say, once for all rows of this seat. -/
import Derived.Test.YtkidnomkfdnciaaRows
import Derived.JoinedOf
import Derived.KernelRfl
namespace Go.Proofs.Ytkidnomkfdnciaa.Enter
theorem all_ : (Try.prog.mayEnter && (Try.prog.make == some Rows.memoOrderRow.make) && (Try.prog.liftsFinal == Rows.memoOrderRow.lifted)) = true := by kernel_rfl
theorem enter : Try.prog.mayEnter = true := by
 have h := all_
 rw [Bool.and_eq_true, Bool.and_eq_true] at h
 exact h.1.1
theorem make : Try.prog.make = some Rows.memoOrderRow.make := by
 have h := all_
 rw [Bool.and_eq_true, Bool.and_eq_true] at h
 exact eq_of_beq h.1.2
theorem lifts : Try.prog.liftsFinal = Rows.memoOrderRow.lifted := by
 have h := all_
 rw [Bool.and_eq_true, Bool.and_eq_true] at h
 exact eq_of_beq h.2
end Go.Proofs.Ytkidnomkfdnciaa.Enter
