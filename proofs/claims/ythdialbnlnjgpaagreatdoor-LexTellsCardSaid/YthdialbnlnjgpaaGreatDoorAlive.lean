/-
  PLAIN LEAN: what the live questions of layer 8 come to, by the kernel's own reckoning. No program in it.
-/
import Derived.Test.YthdialbnlnjgpaaGreatDoorToks
set_option linter.unusedVariables false
set_option linter.unusedSimpArgs false
namespace Go.Eng
theorem alive1 : lexP [46, 97, 124, 46, 91, 48, 93] = ([⟨3, [97], noNd, 0⟩, ⟨1, [124], noNd, 2⟩, ⟨1, [46], noNd, 3⟩, ⟨1, [91], noNd, 4⟩, ⟨5, [], ⟨3, 0, [], [], false, 0⟩, 5⟩, ⟨1, [93], noNd, 6⟩, ⟨6, [], noNd, 7⟩], 0, 0) := by decide +kernel
theorem alive2 : lexP [46, 32, 36] = ([], 2, 1) := by decide +kernel
theorem alive3 : textP (lexP [46, 97, 124, 46, 91, 48, 93]).1 = [46, 97, 32, 124, 32, 46, 32, 91, 32, 48, 32, 93] := by decide +kernel
theorem aliveLen : len (lexP [46, 97, 124, 46, 91, 48, 93]).1 = 7 := by rw [alive1]; rfl
instance (t : Tk) : Decidable (TkB t) := by unfold TkB; infer_instance
theorem aliveTk : ∀ t ∈ (lexP [46, 97, 124, 46, 91, 48, 93]).1, TkB t := by rw [alive1]; decide
theorem sameTk_self (l : List Tk) (p : Bool) : sameTk l l p = true := by unfold sameTk; simp
end Go.Eng
