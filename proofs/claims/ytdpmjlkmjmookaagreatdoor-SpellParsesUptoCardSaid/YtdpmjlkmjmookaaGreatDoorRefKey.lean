/-
  The references' attributes: key, value (blotterref02), walked.
-/
import Derived.Test.YtdpmjlkmjmookaaGreatDoorReadsM
namespace Go.Proofs.YtdpmjlkmjmookaaGreatDoor
set_option linter.unusedVariables false
set_option linter.unusedSimpArgs false
open Go.RowKit Go.PlainAid

set_option maxRecDepth 100000 in
theorem isKey_all : ∀ i : Fin 256, isKeyB (UInt8.ofNat i.val) = isKey (UInt8.ofNat i.val) := by decide
theorem isKey_is (c : UInt8) : isKeyB c = isKey c := by
  have := isKey_all ⟨c.toNat, c.toNat_lt⟩
  simpa using this
theorem all_snoc_byte (p : UInt8 → Bool) (s : ByteArray) (k : Nat) (h : k < s.size) : (s.data.toList.take (k + 1)).all p = ((s.data.toList.take k).all p && p (s[k]'h)) := by
  rw [take_byte s k h, List.all_append]; simp
theorem all_no (p : UInt8 → Bool) (s : ByteArray) (k : Nat) (h : k < s.size) (hp : p (s[k]'h) = false) : s.data.toList.all p = false := by
  have hl : k < s.data.toList.length := by rw [len_data]; exact h
  exact not_all_of p _ k hl hp
theorem keyOk_is (s : ByteArray) : keyOk s = (s.data.toList.all isKey && decide (1 ≤ s.size) && decide (s.size ≤ 32)) := by
  unfold keyOk madeB
  have h1 : s.data.toList.all isKeyB = s.data.toList.all isKey := by congr 1; funext c; exact isKey_is c
  rw [h1]
  have h2 : (!s.toList.isEmpty) = decide (1 ≤ s.size) := by
    rw [ByteArray.toList_eq]
    have := len_data s
    cases h : s.data.toList with
    | nil => rw [h] at this; simp at this; simp [← this]
    | cons a l => rw [h] at this; simp at this; simp [← this]
  rw [h2]
  cases s.data.toList.all isKey <;> cases decide (1 ≤ s.size) <;> rfl

set_option maxHeartbeats 4000000 in
theorem refKey_any (s : ByteArray) (w : World) (hs : s.size ≤ 1099511627776) :
    Calls Tryz.prog 173 #[.string s] w fun e w' => e = .returned (.bool (keyOk s)) ∧ w' = w := by
  have HK := Lib.hid (keyOk_is s)
  go_enter Tryz.func173, Tryz.ntmps173
  go_wp2
  go_loop [3] (fun i => ∃ k : Nat, k ≤ s.size ∧ i = .int .i64 k ∧ (s.data.toList.take k).all isKey = true) (fun i => s.size - (intOf i).toNat)
  case atStart => exact ⟨0, by omega, rfl, by simp⟩
  case round =>
    obtain ⟨k, hk, rfl, hf⟩ := hrel
    have HF := Lib.hid hf; clear hf
    by_cases hlt : k < s.size
    · have HS := Lib.hid (all_snoc_byte isKey s k hlt)
      have HN := Lib.hid (all_no isKey s k hlt)
      have hu8 : (s[k]'hlt).toNat < 256 := (s[k]'hlt).toNat_lt
      have hik : isKey (s[k]'hlt) = ((decide (97 ≤ (s[k]'hlt).toNat) && decide ((s[k]'hlt).toNat ≤ 122)) || (decide (65 ≤ (s[k]'hlt).toNat) && decide ((s[k]'hlt).toNat ≤ 90)) || (decide (48 ≤ (s[k]'hlt).toNat) && decide ((s[k]'hlt).toNat ≤ 57)) || decide ((s[k]'hlt).toNat = 45) || decide ((s[k]'hlt).toNat = 95)) := rfl
      have HIK := Lib.hid hik; clear hik
      by_cases a1 : 97 ≤ (s[k]'hlt).toNat <;> by_cases a2 : (s[k]'hlt).toNat ≤ 122 <;> by_cases a3 : 65 ≤ (s[k]'hlt).toNat <;> by_cases a4 : (s[k]'hlt).toNat ≤ 90 <;> by_cases a5 : 48 ≤ (s[k]'hlt).toNat <;> by_cases a6 : (s[k]'hlt).toNat ≤ 57 <;> by_cases a7 : (s[k]'hlt).toNat = 45 <;> by_cases a8 : (s[k]'hlt).toNat = 95 <;> first | omega | skip
      all_goals
        have f7 : (((s[k]'hlt).toNat : Int) == 45) = decide ((s[k]'hlt).toNat = 45) := by
          by_cases h : (s[k]'hlt).toNat = 45
          · simp [h]
          · simp [h]; omega
        have f8 : (((s[k]'hlt).toNat : Int) == 95) = decide ((s[k]'hlt).toNat = 95) := by
          by_cases h : (s[k]'hlt).toNat = 95
          · simp [h]
          · simp [h]; omega
        have b1 : decide ((97 : Int) ≤ ((s[k]'hlt).toNat : Int)) = decide (97 ≤ (s[k]'hlt).toNat) := by simp; omega
        have b2 : decide (((s[k]'hlt).toNat : Int) ≤ 122) = decide ((s[k]'hlt).toNat ≤ 122) := by simp; omega
        have b3 : decide ((65 : Int) ≤ ((s[k]'hlt).toNat : Int)) = decide (65 ≤ (s[k]'hlt).toNat) := by simp; omega
        have b4 : decide (((s[k]'hlt).toNat : Int) ≤ 90) = decide ((s[k]'hlt).toNat ≤ 90) := by simp; omega
        have b5 : decide ((48 : Int) ≤ ((s[k]'hlt).toNat : Int)) = decide (48 ≤ (s[k]'hlt).toNat) := by simp; omega
        have b6 : decide (((s[k]'hlt).toNat : Int) ≤ 57) = decide ((s[k]'hlt).toNat ≤ 57) := by simp; omega
        have HB := HIK.out
        simp only [a1, a2, a3, a4, a5, a6, a7, a8, decide_true, decide_false, Bool.true_and, Bool.false_and, Bool.and_true, Bool.and_false, Bool.or_true, Bool.or_false, Bool.true_or, Bool.false_or] at f7 f8 b1 b2 b3 b4 b5 b6 HB
        have HB2 := Lib.hid HB
        clear HB
        have HA7 := Lib.hid a7; have HA8 := Lib.hid a8
        try clear a7
        try clear a8
        go_wp2
      all_goals first
        | exact ⟨⟨k + 1, by omega, by go_num, by rw [HS.out, HF.out, HB2.out]; rfl⟩, by simp [intOf]; omega⟩
        | (go_ret
           exact ⟨ret_bool (by rw [HK.out, HN.out (by have := HB2.out; simpa using this)]; rfl), rfl⟩)
        | (exfalso; have := HA7.out; have := HA8.out; simp at *; omega)
        | (exfalso; have := HA7.out; have := HA8.out; omega)
    · have hka : s.data.toList.all isKey = true := by
        have hsz := len_data s
        rw [← HF.out, List.take_of_length_le (by omega)]
      have HA := Lib.hid (show keyOk s = (decide (1 ≤ s.size) && decide (s.size ≤ 32)) by rw [HK.out, hka]; rfl)
      clear hka
      by_cases h1 : 1 ≤ s.size
      · have d1 : decide ((1 : Int) ≤ (s.size : Int)) = true := by simp; omega
        have e1 : decide ((s.size : Int) ≤ 32) = decide (s.size ≤ 32) := by simp; omega
        go_wp2
        go_ret
        exact ⟨by rw [HA.out]; simp [h1]; try omega, rfl⟩
      · have d1 : decide ((1 : Int) ≤ (s.size : Int)) = false := by simp; omega
        go_wp2
        go_ret
        exact ⟨by rw [HA.out]; simp [h1]; try omega, rfl⟩
end Go.Proofs.YtdpmjlkmjmookaaGreatDoor
