/-
  The document's examples (awake): what the models answer there, by reckoning.
-/
import Derived.Test.YtdpmjlkmjmookaaGreatDoorParse
namespace Go.Proofs.YtdpmjlkmjmookaaGreatDoor
open Go.RowKit Go.PlainAid

def awOps : List OpM := [⟨1, 2, ⟨#[]⟩, []⟩, ⟨2, 0, ⟨#[120, 10]⟩, [⟨⟨#[98]⟩, ⟨#[49]⟩⟩]⟩, ⟨3, 1, ⟨#[]⟩, []⟩]
def awText : ByteArray := ⟨#[53, 32, 61, 50, 32, 43, 34, 120, 92, 110, 34, 123, 98, 58, 34, 49, 34, 125, 32, 45, 49]⟩
theorem aw_toE : toE 5 awOps = 0 := by kernel_rfl
theorem aw_norm : normM awOps = awOps := by kernel_rfl
theorem itoa_small (i : Nat) (h : i < 10) : Lib.itoa (i : Int) = [UInt8.ofNat (48 + i)] := by
  unfold Lib.itoa; rw [if_neg (by omega)]; simp only [Int.toNat_natCast]; exact Lib.decDigits_one h
theorem aw_print : printM 5 awOps = awText.data.toList := by
  have h5 := itoa_small 5 (by decide); have h2 := itoa_small 2 (by decide); have h1 := itoa_small 1 (by decide)
  simp only [Int.cast_ofNat_Int] at h5 h2 h1
  simp [printM, awOps, opP, kindP, attrsP, attrsB, quoteL, escL, pieceP, esc, ctl, awText, h5, h2, h1]
theorem aw_printE : printE 5 awOps = 0 := by
  unfold printE; rw [aw_toE, aw_norm, aw_print]; rfl
theorem aw_printS : printS 5 awOps = awText := by
  unfold printS; rw [aw_printE, aw_norm, aw_print]; rfl
theorem aw_raw : rawM awText.data.toList = .ok (5, awOps) := by kernel_rfl
theorem aw_is : isM 5 awOps = true := by kernel_rfl
theorem aw_parse : parseM awText = .ok (5, awOps) := by
  unfold parseM; rw [if_neg (by decide), aw_raw]; simp only [aw_toE, aw_is]; rfl
def awBad : ByteArray := ⟨#[53, 32, 61, 50, 32]⟩
theorem aw_raw2 : rawM awBad.data.toList = .error 0 := by kernel_rfl
theorem aw_parse2 : parseM awBad = .error (40, 5) := by
  unfold parseM; rw [if_neg (by decide), aw_raw2]; rfl
end Go.Proofs.YtdpmjlkmjmookaaGreatDoor
