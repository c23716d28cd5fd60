/-
  Plain facts on texts in UTF-8: a rune has four bytes at most.
-/
import Derived.Lib.RuneCount
import Derived.Lib.ValidLaws
namespace Go.Proofs.YtdpmjlkmjmookaaGreatDoor
open Go

theorem decode_w4 (s : ByteArray) (pos : Nat) : (Utf8.decode s pos).2 ≤ 4 := by
  unfold Utf8.decode
  simp only
  repeat' split
  all_goals simp
theorem size_le_from (s : ByteArray) : ∀ fuel pos, s.size - pos ≤ fuel → s.size - pos ≤ 4 * Lib.runeCountFrom s fuel pos := by
  intro fuel
  induction fuel with
  | zero => intro pos h; omega
  | succ f ih =>
    intro pos h
    unfold Lib.runeCountFrom
    split
    · rename_i hp
      have h1 := Lib.decode_width_pos s pos hp
      have h2 := decode_w4 s pos
      have h3 := ih (pos + (Utf8.decode s pos).2) (by omega)
      omega
    · omega
theorem size_le_runes (s : ByteArray) : s.size ≤ 4 * Lib.runeCount s := by
  have := size_le_from s s.size 0 (by omega)
  unfold Lib.runeCount
  omega
end Go.Proofs.YtdpmjlkmjmookaaGreatDoor
