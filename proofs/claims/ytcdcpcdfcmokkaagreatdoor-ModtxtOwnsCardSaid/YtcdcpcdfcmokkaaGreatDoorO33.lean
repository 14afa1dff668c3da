/- The document's Print: a list as it is printed. -/
import Derived.Test.YtcdcpcdfcmokkaaGreatDoorO29
import Derived.Test.YtcdcpcdfcmokkaaGreatDoorO32
import Derived.Deep.DeepCutAuto
import Derived.Test.YtcdcpcdfcmokkaaGreatDoorO27
import Derived.WalkSpells
set_option linter.unusedVariables false
set_option linter.unusedSimpArgs false
namespace Go.Proofs.YtcdcpcdfcmokkaaGreatDoor
open Go Go.RowKit Go.Shelf Go.Proofs.YtcdcpcdfcmokkaaGreatDoorW.PrintWords
set_option linter.unusedVariables false
set_option linter.unusedSimpArgs false
theorem mark_tt (m : SM) (h1 : m.f1 = true) (h2 : m.f2.toList.isEmpty = false) : markL m = [35, 35, 32] ++ explicitB.data.toList ++ [59, 32] ++ [103, 111, 32] ++ m.f2.data.toList ++ [10] := by
  have h : marksL m = [explicitB, goB ++ m.f2] := by unfold marksL marks1; rw [h1, h2]; rfl
  unfold markL; rw [h]
  simp [Lib.join, List.intercalate, goB, ByteArray.data_append]
theorem mark_tf (m : SM) (h1 : m.f1 = true) (h2 : m.f2.toList.isEmpty = true) : markL m = [35, 35, 32] ++ explicitB.data.toList ++ [10] := by
  have h : marksL m = [explicitB] := by unfold marksL marks1; rw [h1, h2]; rfl
  unfold markL; rw [h]
  simp [Lib.join, List.intercalate]
theorem mark_ft (m : SM) (h1 : m.f1 = false) (h2 : m.f2.toList.isEmpty = false) : markL m = [35, 35, 32] ++ [103, 111, 32] ++ m.f2.data.toList ++ [10] := by
  have h : marksL m = [goB ++ m.f2] := by unfold marksL marks1; rw [h1, h2]; rfl
  unfold markL; rw [h]
  simp [Lib.join, List.intercalate, goB, ByteArray.data_append]
theorem mark_ff (m : SM) (h1 : m.f1 = false) (h2 : m.f2.toList.isEmpty = true) : markL m = [] := by
  have h : marksL m = [] := by unfold marksL marks1; rw [h1, h2]; rfl
  unfold markL; rw [h]; rfl
end Go.Proofs.YtcdcpcdfcmokkaaGreatDoor
