/-
  The plain law: a text in quotes is read as what was written, and where it ends.
-/
import Derived.Test.YtdpmjlkmjmookaaGreatDoorAwake
namespace Go.Proofs.YtdpmjlkmjmookaaGreatDoor
open Go.RowKit Go.PlainAid

theorem hexI_hx : ∀ i : Fin 16, hexI (hx i.val) = (i.val : Int) := by decide
theorem escM_hex (c : UInt8) (h : ctl c = true) (h10 : c.toNat ≠ 10) (X : List UInt8) : escM (120 :: hx (c.toNat / 16) :: hx (c.toNat % 16) :: X) = .ok (c, X) := by
  have hc := c.toNat_lt
  have i1 : hexI (hx (c.toNat / 16)) = ((c.toNat / 16 : Nat) : Int) := hexI_hx ⟨c.toNat / 16, by omega⟩
  have i2 : hexI (hx (c.toNat % 16)) = ((c.toNat % 16 : Nat) : Int) := hexI_hx ⟨c.toNat % 16, by omega⟩
  have e0 : hexN 0 (hx (c.toNat / 16) :: hx (c.toNat % 16) :: X) = .ok (0, hx (c.toNat / 16) :: hx (c.toNat % 16) :: X) := rfl
  have e1 := hexN_more e0 (by show ¬ hexI (hx (c.toNat / 16)) < 0; rw [i1]; omega)
  have e2 := hexN_more e1 (by show ¬ hexI (hx (c.toNat % 16)) < 0; rw [i2]; omega)
  have e3 : hexN 2 (hx (c.toNat / 16) :: hx (c.toNat % 16) :: X) = .ok ((c.toNat : Int), X) := by
    rw [e2]
    simp only [hd0, List.tail_cons]
    rw [i1, i2]
    have : (16 : Int) * (16 * 0 + ((c.toNat / 16 : Nat) : Int)) + ((c.toNat % 16 : Nat) : Int) = (c.toNat : Int) := by omega
    rw [this]
  have e4 : escM (120 :: hx (c.toNat / 16) :: hx (c.toNat % 16) :: X) = match hexN 2 (hx (c.toNat / 16) :: hx (c.toNat % 16) :: X) with
    | .error e => .error e
    | .ok (n, r) => if badEsc n then .error ((120 :: hx (c.toNat / 16) :: hx (c.toNat % 16) :: X).length + 1) else .ok (n.toNat.toUInt8, r) := rfl
  rw [e4, e3]
  have hb : badEsc (c.toNat : Int) = false := by
    unfold badEsc
    have hk := ctl_iff c
    rw [h] at hk
    have a1 : ((c.toNat : Int) == 10) = false := by simp; omega
    rw [a1]
    by_cases h32 : c.toNat < 32
    · have : decide ((32 : Int) ≤ (c.toNat : Int)) = false := by simp; omega
      rw [this]; rfl
    · have a3 : decide ((c.toNat : Int) < 32) = false := by simp; omega
      rw [a3] at hk
      have a4 : ((c.toNat : Int) == 127) = true := by simpa using hk.symm
      have : ((c.toNat : Int) != 127) = false := by rw [bne, a4]; rfl
      rw [this, Bool.and_false]; rfl
  simp only [hb, Bool.false_eq_true, if_false]
  simp
theorem esc_step (c : UInt8) : (esc c = [c] ∧ c ≠ 34 ∧ ctl c = false ∧ c ≠ 92) ∨ ∃ t, esc c = 92 :: t ∧ t ≠ [] ∧ ∀ X, escM (t ++ X) = .ok (c, X) := by
  by_cases h10 : c = 10
  · subst h10; exact .inr ⟨[110], rfl, by simp, fun X => rfl⟩
  · by_cases h34 : c = 34
    · subst h34; exact .inr ⟨[34], rfl, by simp, fun X => rfl⟩
    · by_cases h92 : c = 92
      · subst h92; exact .inr ⟨[92], rfl, by simp, fun X => rfl⟩
      · have b10 : (c == 10) = false := by simpa using h10
        have b34 : (c == 34) = false := by simpa using h34
        have b92 : (c == 92) = false := by simpa using h92
        cases hc : ctl c with
        | true =>
          refine .inr ⟨[120, hx (c.toNat / 16), hx (c.toNat % 16)], by unfold esc; rw [b10, b34, b92, hc]; rfl, by simp, fun X => ?_⟩
          exact escM_hex c hc (fun e => h10 (u8_of (n := 10) e (by decide))) X
        | false => exact .inl ⟨by unfold esc; rw [b10, b34, b92, hc]; rfl, h34, rfl, h92⟩
theorem strF_esc (rest : List UInt8) : ∀ (s : List UInt8) (n : Nat), (escL s ++ 34 :: rest).length ≤ n → strF n (escL s ++ 34 :: rest) = .ok (s, rest) := by
  intro s
  induction s with
  | nil =>
    intro n h
    cases n with
    | zero => simp [escL] at h
    | succ n => simp [escL, strF]
  | cons c s ih =>
    intro n h
    have he : escL (c :: s) = esc c ++ escL s := by simp [escL]
    rw [he, List.append_assoc] at h ⊢
    cases n with
    | zero =>
      rw [List.length_append, List.length_append, List.length_cons] at h; omega
    | succ n =>
      rcases esc_step c with ⟨h1, h2, h3, h4⟩ | ⟨t, h1, h2, h3⟩
      · rw [h1] at h ⊢
        have hl : (escL s ++ 34 :: rest).length ≤ n := by simp only [List.singleton_append, List.length_cons] at h; omega
        simp only [List.singleton_append]
        unfold strF
        simp only [if_neg h2, h3, Bool.false_eq_true, if_false, if_neg h4, ih n hl]
      · rw [h1] at h ⊢
        have hl : (escL s ++ 34 :: rest).length ≤ n := by
          rw [List.cons_append, List.length_cons, List.length_append] at h; omega
        rw [List.cons_append]
        have h92 : ¬ (92 : UInt8) = 34 := by decide
        have hc92 : ctl 92 = false := by decide
        unfold strF
        simp only [if_neg h92, hc92, Bool.false_eq_true, if_false, if_true, h3, ih n hl]
theorem quoted_back (s rest : List UInt8) : quotedM (quoteL s ++ rest) = .ok (s, rest) := by
  unfold quotedM quoteL
  have ht : takeB 34 ((34 :: (escL s ++ [34])) ++ rest) = true := rfl
  rw [if_pos ht]
  have : ((34 :: (escL s ++ [34])) ++ rest).tail = escL s ++ 34 :: rest := by simp
  rw [this]
  exact strF_esc rest s _ (by simp)
/-- the text read: what stands before, the text in quotes, what stands behind -/
theorem read_back (s before behind : ByteArray) :
    readM (before ++ mkB (quoteL s.data.toList) ++ behind) (before.size : Int) = ⟨s.data.toList, (before.size : Int) + (mkB (quoteL s.data.toList)).size, 0, 0⟩ := by
  have hsz : (before ++ mkB (quoteL s.data.toList) ++ behind).size = before.size + (mkB (quoteL s.data.toList)).size + behind.size := by
    rw [ByteArray.size_append, ByteArray.size_append]
  have hd : (before ++ mkB (quoteL s.data.toList) ++ behind).data.toList = before.data.toList ++ (quoteL s.data.toList ++ behind.data.toList) := by
    simp [mkB]
  have hdr : (before ++ mkB (quoteL s.data.toList) ++ behind).data.toList.drop ((before.size : Int).toNat) = quoteL s.data.toList ++ behind.data.toList := by
    rw [hd, Int.toNat_natCast, ← len_data before, List.drop_left]
  unfold readM
  rw [if_neg (by rw [hsz]; omega), hdr, quoted_back]
  simp only [hsz, len_data]
  congr 1
  omega
end Go.Proofs.YtdpmjlkmjmookaaGreatDoor
