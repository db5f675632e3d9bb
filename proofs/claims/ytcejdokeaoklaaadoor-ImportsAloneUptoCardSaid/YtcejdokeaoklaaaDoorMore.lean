import Derived.Laws.Strings
/-! The order of strings by `<=`: the library's laws know `<` alone. -/
namespace Go
theorem bytesLess_tri : ∀ x y : List UInt8, (Op.bytesLess x y || x == y) = !(Op.bytesLess y x)
  | [], [] => rfl
  | [], _ :: _ => rfl
  | _ :: _, [] => rfl
  | a :: x, b :: y => by
    have ih := bytesLess_tri x y
    simp only [Op.bytesLess]
    by_cases h1 : a < b
    · have h2 : ¬ b < a := fun h => by simp only [UInt8.lt_iff_toNat_lt] at *; omega
      have h3 : ¬ b = a := fun h => by subst h; simp only [UInt8.lt_iff_toNat_lt] at *; omega
      simp [h1, h2, h3]
    · by_cases h4 : a = b
      · subst h4
        simp only [h1, decide_false, Bool.false_or, beq_self_eq_true, Bool.true_and, List.cons_beq_cons]
        exact ih
      · have h5 : b < a := by
          have : a.toNat ≠ b.toNat := fun h => h4 (UInt8.toNat_inj.mp h)
          simp only [UInt8.lt_iff_toNat_lt] at *; omega
        simp [h1, h4, h5]
@[go_sem] theorem binOp_string_leq (t : TypeId) (a b : ByteArray) : binOp .leq t (.string a) (.string b) = pure (.bool (!(Op.bytesLess b.toList a.toList))) := by
  rw [← bytesLess_tri a.toList b.toList]
  simp [binOp, Op.stringOp]
end Go
