/- Small laws that the printed walks of this claim want: strings in order, empty texts. -/
import Derived.Laws.Strings
set_option linter.unusedVariables false
set_option linter.unusedSimpArgs false
namespace Go.Proofs.YtcdcpcdfcmokkaaGreatDoor
open Go
theorem less_irrefl : ∀ a : List UInt8, Op.bytesLess a a = false
  | [] => rfl
  | a :: x => by simp [Op.bytesLess, less_irrefl x]
theorem less_tri : ∀ a b : List UInt8, (!(Op.bytesLess a b || a == b)) = Op.bytesLess b a
  | [], [] => rfl
  | [], b :: y => by simp [Op.bytesLess]
  | a :: x, [] => by simp [Op.bytesLess]
  | a :: x, b :: y => by
    have ih := less_tri x y
    simp only [Op.bytesLess, List.cons_beq_cons]
    rcases (show a < b ∨ a = b ∨ b < a from by rw [UInt8.lt_iff_toNat_lt, UInt8.lt_iff_toNat_lt, ← UInt8.toNat_inj]; omega) with h | h | h
    · have h1 : ¬ b < a := fun k => absurd (UInt8.lt_trans h k) (UInt8.lt_irrefl _)
      have h2 : (b == a) = false := by simpa using fun e : b = a => UInt8.lt_irrefl a (by subst e; exact h)
      simp [h, h1, h2]
    · subst h
      have h1 : ¬ a < a := UInt8.lt_irrefl a
      simp only [h1, decide_false, Bool.false_or, beq_self_eq_true, Bool.true_and]
      exact ih
    · have h1 : ¬ a < b := fun k => absurd (UInt8.lt_trans h k) (UInt8.lt_irrefl _)
      have h2 : (a == b) = false := by simpa using fun e : a = b => UInt8.lt_irrefl a (by subst e; exact h)
      simp [h, h1, h2]
theorem str_gtr (t : TypeId) (a b : ByteArray) : binOp .gtr t (.string a) (.string b) = pure (.bool (Op.bytesLess b.toList a.toList)) := by
  simp only [binOp, Op.stringOp, less_tri]
theorem str_leq (t : TypeId) (a b : ByteArray) : binOp .leq t (.string a) (.string b) = pure (.bool !(Op.bytesLess b.toList a.toList)) := by
  have h := less_tri a.toList b.toList
  rw [← h]
  simp only [binOp, Op.stringOp, Bool.not_not]
theorem str_geq (t : TypeId) (a b : ByteArray) : binOp .geq t (.string a) (.string b) = pure (.bool !(Op.bytesLess a.toList b.toList)) := by
  simp only [binOp, Op.stringOp]
theorem bne_empty (l : List UInt8) : (l != []) = !l.isEmpty := by cases l <;> rfl
end Go.Proofs.YtcdcpcdfcmokkaaGreatDoor
