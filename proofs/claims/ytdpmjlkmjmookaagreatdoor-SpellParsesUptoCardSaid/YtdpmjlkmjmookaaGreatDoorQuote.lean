/-
  Package spell: a text in quotes (quoted, Quote), walked.
-/
import Derived.Test.YtdpmjlkmjmookaaGreatDoorIs
import Derived.PlainAid
namespace Go.Proofs.YtdpmjlkmjmookaaGreatDoor
set_option linter.unusedVariables false
set_option linter.unusedSimpArgs false
open Go.RowKit Go.PlainAid

def hx (k : Nat) : UInt8 := if k < 10 then (48 + k).toUInt8 else (87 + k).toUInt8
def ctl (c : UInt8) : Bool := decide (c.toNat < 32) || (c == 127)
def esc (c : UInt8) : List UInt8 :=
  if c == 10 then [92, 110] else if c == 34 || c == 92 then [92, c] else if ctl c then [92, 120, hx (c.toNat / 16), hx (c.toNat % 16)] else [c]
def escL (l : List UInt8) : List UInt8 := l.flatMap esc
def quoteL (l : List UInt8) : List UInt8 := 34 :: (escL l ++ [34])
theorem esc_len (c : UInt8) : (esc c).length ≤ 4 := by unfold esc; split <;> (try split) <;> (try split) <;> simp
theorem escL_len (l : List UInt8) : (escL l).length ≤ 4 * l.length := by
  induction l with
  | nil => simp [escL]
  | cons a l ih => simp only [escL, List.flatMap_cons, List.length_append, List.length_cons] at *; have := esc_len a; omega
theorem escL_snoc (l : List UInt8) (c : UInt8) : escL (l ++ [c]) = escL l ++ esc c := by simp [escL]
theorem quoteL_len (l : List UInt8) : (quoteL l).length ≤ 4 * l.length + 2 := by
  have := escL_len l; simp [quoteL]; omega

theorem take_byte (s : ByteArray) (k : Nat) (h : k < s.size) : s.data.toList.take (k + 1) = s.data.toList.take k ++ [s[k]'h] := by
  have : s.data.toList.length = s.size := Array.length_toList
  rw [List.take_succ_eq_append_getElem (by omega)]
  rfl
theorem u8_of {c : UInt8} {n : Nat} (h : c.toNat = n) (hn : n < 256) : c = n.toUInt8 := by
  apply UInt8.toNat_inj.1
  rw [h]; simp [Nat.mod_eq_of_lt hn]
theorem esc_10 {c : UInt8} (h : c.toNat = 10) : esc c = [92, 110] := by rw [u8_of h (by decide)]; rfl
theorem esc_34 {c : UInt8} (h : c.toNat = 34) : esc c = [92] ++ [34] := by rw [u8_of h (by decide)]; rfl
theorem esc_92 {c : UInt8} (h : c.toNat = 92) : esc c = [92] ++ [92] := by rw [u8_of h (by decide)]; rfl
theorem esc_127 {c : UInt8} (h : c.toNat = 127) : esc c = [92, 120] ++ [55] ++ [102] := by rw [u8_of h (by decide)]; rfl
theorem u8_bne {c : UInt8} {n : Nat} (h : c.toNat ≠ n) (hn : n < 256) : (c == n.toUInt8) = false := by
  rw [beq_eq_false_iff_ne]; rintro rfl; exact h (by simp [Nat.mod_eq_of_lt hn])
theorem esc_ctl {c : UInt8} (h : c.toNat ≠ 10) (h2 : c.toNat < 32) : esc c = [92, 120] ++ [hx (c.toNat / 16)] ++ [hx (c.toNat % 16)] := by
  unfold esc ctl
  rw [show (c == 10) = false from u8_bne h (by decide), show (c == 34) = false from u8_bne (n := 34) (by omega) (by decide), show (c == 92) = false from u8_bne (n := 92) (by omega) (by decide)]
  simp [h2]
theorem esc_else {c : UInt8} (h : c.toNat ≠ 10) (h1 : c.toNat ≠ 34) (h3 : c.toNat ≠ 92) (h4 : c.toNat ≠ 127) (h2 : ¬ c.toNat < 32) : esc c = [c] := by
  unfold esc ctl
  rw [show (c == 10) = false from u8_bne h (by decide), show (c == 34) = false from u8_bne h1 (by decide), show (c == 92) = false from u8_bne h3 (by decide), show (c == 127) = false from u8_bne h4 (by decide)]
  simp [h2]

theorem hx_all : ∀ i : Fin 16, (⟨#[48, 49, 50, 51, 52, 53, 54, 55, 56, 57, 97, 98, 99, 100, 101, 102]⟩ : ByteArray)[i.val]'(by rcases i with ⟨i, h⟩; exact h) = hx i.val := by decide
theorem hx_get {i : Nat} (h : i < 16) {p : i < (⟨#[48, 49, 50, 51, 52, 53, 54, 55, 56, 57, 97, 98, 99, 100, 101, 102]⟩ : ByteArray).size} : (⟨#[48, 49, 50, 51, 52, 53, 54, 55, 56, 57, 97, 98, 99, 100, 101, 102]⟩ : ByteArray)[i]'p = hx i := hx_all ⟨i, h⟩
theorem hx_get' {i : Nat} (h : i < 16) : (⟨#[48, 49, 50, 51, 52, 53, 54, 55, 56, 57, 97, 98, 99, 100, 101, 102]⟩ : ByteArray)[i]? = some (hx i) := by
  rw [getElem?_pos (h := (by exact h)), hx_get h]

set_option maxHeartbeats 2000000 in
theorem quoted_any (B b : Nat) (l : List UInt8) (s : ByteArray) (w : World) (h : Bld B b l w) (hlen : l.length + 4 * s.size + 2 ≤ 140737488355328) (hBw : B ≤ w.heap.size) :
    Calls Tryz.prog 68 #[.pointer (some ⟨b, 0, none⟩), .string s] w fun e w' => e = .returned (.tuple #[]) ∧ Bld B b (l ++ quoteL s.data.toList) w' ∧ Wrote B b w w' := by

  go_enter Tryz.func68, Tryz.ntmps68
  go_wp2_with fail
  refine (writeByte_any B b l 34 _ h (by omega) hBw).mono ?_
  rintro e w1 ⟨rfl, h1, k1⟩
  have hB1 : B ≤ w1.heap.size := by have := k1.below.size; omega
  go_wp2
  go_loopw [10] (fun i wr => ∃ k : Nat, k ≤ s.size ∧ i = .int .i64 k ∧ Bld B b (l ++ 34 :: escL (s.data.toList.take k)) wr ∧ Wrote B b w wr) (fun i _ => s.size - (intOf i).toNat)
  case atStart => exact ⟨0, by omega, rfl, by simpa [escL] using h1, k1⟩
  case round =>
    obtain ⟨k, hk, rfl, hbl, hw⟩ := hrel
    have hBr : B ≤ wr.heap.size := by have := hw.below.size; omega
    by_cases hlt : k < s.size
    · have hst : s.data.toList.take (k + 1) = s.data.toList.take k ++ [s[k]'hlt] := take_byte s k hlt
      have hsz : s.data.toList.length = s.size := Array.length_toList
      have hln : (l ++ 34 :: escL (s.data.toList.take k)).length ≤ l.length + 4 * s.size - 3 := by
        have h1 := escL_len (s.data.toList.take k)
        rw [List.length_take] at h1
        simp only [List.length_append, List.length_cons]; omega
      have hsn : ∀ m, esc (s[k]'hlt) = m → (l ++ 34 :: escL (s.data.toList.take k)) ++ m = l ++ 34 :: escL (s.data.toList.take (k + 1)) := by
        intro m hm; rw [hst, escL_snoc, hm]; simp
      have HS := Lib.hid hsn
      clear hst hsn
      generalize hX : l ++ 34 :: escL (s.data.toList.take k) = X at *
      have hg : ∀ (c : UInt8) (m : List UInt8) (w2 : World), esc (s[k]'hlt) = m → Bld B b (X ++ m) w2 → Wrote B b w w2 → Bld B b (l ++ 34 :: escL (s.data.toList.take (k + 1))) w2 := fun c m w2 h1 h2 _ => by rw [← HS.out m h1]; exact h2
      clear HS
      by_cases c10 : (s[k]'hlt).toNat = 10
      · have f10 : ((s[k]'hlt).toNat : Int) = 10 := by omega
        have hm := Lib.hid (esc_10 c10)
        go_wp2_with fail
        refine (writeString_any B b X ⟨#[92, 110]⟩ _ hbl (by simp [ByteArray.size]; omega) hBr).mono ?_
        rintro e w2 ⟨rfl, h2, k2⟩
        go_wp2
        exact ⟨⟨k + 1, by omega, by go_num, hg 0 _ _ hm.out h2 (hw.trans k2), hw.trans k2⟩, by simp [intOf]; omega⟩
      · have f10 : (((s[k]'hlt).toNat : Int) == 10) = false := by simp; omega
        by_cases c34 : (s[k]'hlt).toNat = 34
        · have f34 : ((s[k]'hlt).toNat : Int) = 34 := by omega
          have hm := Lib.hid (esc_34 c34)
          clear f10
          go_wp2_with fail
          refine (writeByte_any B b X 92 _ hbl (by omega) hBr).mono ?_
          rintro e w2 ⟨rfl, h2, k2⟩
          have hB2 : B ≤ w2.heap.size := by have := k2.below.size; omega
          go_wp2_with fail
          refine (writeByte_any B b (X ++ [92]) 34 _ h2 (by simp; omega) hB2).mono ?_
          rintro e w3 ⟨rfl, h3, k3⟩
          go_wp2
          exact ⟨⟨k + 1, by omega, by go_num, hg 0 _ _ hm.out (by rw [← List.append_assoc]; exact h3) ((hw.trans k2).trans k3), (hw.trans k2).trans k3⟩, by simp [intOf]; omega⟩
        · have f34 : (((s[k]'hlt).toNat : Int) == 34) = false := by simp; omega
          by_cases c92 : (s[k]'hlt).toNat = 92
          · have f92 : ((s[k]'hlt).toNat : Int) = 92 := by omega
            have hm := Lib.hid (esc_92 c92)
            clear f10 f34
            go_wp2_with fail
            refine (writeByte_any B b X 92 _ hbl (by omega) hBr).mono ?_
            rintro e w2 ⟨rfl, h2, k2⟩
            have hB2 : B ≤ w2.heap.size := by have := k2.below.size; omega
            go_wp2_with fail
            refine (writeByte_any B b (X ++ [92]) 92 _ h2 (by simp; omega) hB2).mono ?_
            rintro e w3 ⟨rfl, h3, k3⟩
            go_wp2
            exact ⟨⟨k + 1, by omega, by go_num, hg 0 _ _ hm.out (by rw [← List.append_assoc]; exact h3) ((hw.trans k2).trans k3), (hw.trans k2).trans k3⟩, by simp [intOf]; omega⟩
          · have f92 : (((s[k]'hlt).toNat : Int) == 92) = false := by simp; omega
            by_cases c127 : (s[k]'hlt).toNat = 127
            · have f127 : ((s[k]'hlt).toNat : Int) = 127 := by omega
              have hm := Lib.hid (esc_127 c127)
              clear f10 f34 f92
              go_wp2_with fail
              refine (writeString_any B b X ⟨#[92, 120]⟩ _ hbl (by simp [ByteArray.size]; omega) hBr).mono ?_
              rintro e w2 ⟨rfl, h2, k2⟩
              have hB2 : B ≤ w2.heap.size := by have := k2.below.size; omega
              go_wp2_with fail
              refine (writeByte_any B b (X ++ [92, 120]) 55 _ h2 (by simp; omega) hB2).mono ?_
              rintro e w3 ⟨rfl, h3, k3⟩
              have hB3 : B ≤ w3.heap.size := by have := k3.below.size; omega
              go_wp2_with fail
              refine (writeByte_any B b (X ++ [92, 120] ++ [55]) 102 _ h3 (by simp; omega) hB3).mono ?_
              rintro e w4 ⟨rfl, h4, k4⟩
              go_wp2
              exact ⟨⟨k + 1, by omega, by go_num, hg 0 _ _ hm.out (by rw [← List.append_assoc, ← List.append_assoc]; exact h4) (((hw.trans k2).trans k3).trans k4), ((hw.trans k2).trans k3).trans k4⟩, by simp [intOf]; omega⟩
            · have f127 : (((s[k]'hlt).toNat : Int) == 127) = false := by simp; omega
              by_cases c32 : (s[k]'hlt).toNat < 32
              · have f32 : decide (((s[k]'hlt).toNat : Int) < 32) = true := by simp; omega
                have hm := Lib.hid (esc_ctl c10 c32)
                have h16 : (s[k]'hlt).toNat / 16 < 16 := by omega
                go_wp2_with fail
                refine (writeString_any B b X ⟨#[92, 120]⟩ _ hbl (by simp [ByteArray.size]; omega) hBr).mono ?_
                rintro e w2 ⟨rfl, h2, k2⟩
                have hB2 : B ≤ w2.heap.size := by have := k2.below.size; omega
                go_wp2_with fail
                refine (writeByte_any B b (X ++ [92, 120]) _ _ h2 (by simp; omega) hB2).mono ?_
                rintro e w3 ⟨rfl, h3, k3⟩
                rw [hx_get h16] at h3
                have hB3 : B ≤ w3.heap.size := by have := k3.below.size; omega
                go_wp2_with fail
                refine (writeByte_any B b (X ++ [92, 120] ++ [hx ((s[k]'hlt).toNat / 16)]) _ _ h3 (by simp; omega) hB3).mono ?_
                rintro e w4 ⟨rfl, h4, k4⟩
                rw [hx_get (Nat.mod_lt _ (by decide))] at h4
                go_wp2
                exact ⟨⟨k + 1, by omega, by go_num, hg 0 _ _ hm.out (by rw [← List.append_assoc, ← List.append_assoc]; exact h4) (((hw.trans k2).trans k3).trans k4), ((hw.trans k2).trans k3).trans k4⟩, by simp [intOf]; omega⟩
              · have f32 : decide (((s[k]'hlt).toNat : Int) < 32) = false := by simp; omega
                have hm := Lib.hid (esc_else c10 c34 c92 c127 c32)
                go_wp2_with fail
                refine (writeByte_any B b X _ _ hbl (by omega) hBr).mono ?_
                rintro e w2 ⟨rfl, h2, k2⟩
                go_wp2
                exact ⟨⟨k + 1, by omega, by go_num, hg 0 _ _ hm.out h2 (hw.trans k2), hw.trans k2⟩, by simp [intOf]; omega⟩
    · have hke : s.data.toList.take k = s.data.toList := by
        have hsz : s.data.toList.length = s.size := Array.length_toList
        exact List.take_of_length_le (by omega)
      rw [hke] at hbl
      have hln : (l ++ 34 :: escL s.data.toList).length + 1 ≤ 140737488355328 := by
        have h1 := escL_len s.data.toList
        have hsz : s.data.toList.length = s.size := Array.length_toList
        simp only [List.length_append, List.length_cons]; omega
      go_wp2_with fail
      refine (writeByte_any B b _ 34 _ hbl hln hBr).mono ?_
      rintro e w2 ⟨rfl, h2, k2⟩
      go_wp2
      go_end0
      exact ⟨rfl, by simpa [quoteL] using h2, hw.trans k2⟩

set_option maxHeartbeats 2000000 in
theorem quote_any (s : ByteArray) (w : World) (hs : s.size ≤ 1099511627776) (hT : Tabs w) :
    Calls Tryz.prog 23 #[.string s] w fun e w' => e = .returned (.tuple #[.string (if Lib.validD s.data.toList then ⟨(quoteL s.data.toList).toArray⟩ else ⟨#[]⟩), .int .i64 (if Lib.validD s.data.toList then 0 else 10)]) ∧ Below w.heap.size w w' := by
  by_cases hv : Lib.validD s.data.toList = true
  · rw [hv]
    have HV := Lib.hid hv; clear hv
    go_enter Tryz.func23, Tryz.ntmps23
    go_wp2_with fail
    refine (validString_any s w (by omega) hT).mono ?_
    rintro e w1 ⟨rfl, b1⟩
    rw [HV.out]
    go_wp2_with fail
    have hF := Bld.fresh w1
    refine (quoted_any _ _ [] s _ hF (by simp; omega) (by simp)).mono ?_
    rintro e w2 ⟨rfl, h2, k2⟩
    have hB2 : w1.heap.size ≤ w2.heap.size := by have := k2.below.size; simp at this; omega
    go_wp2_with fail
    refine (bstring_any _ _ _ _ h2 hB2).mono ?_
    rintro e w3 ⟨rfl, h3, k3⟩
    go_wp2
    go_ret2
    refine ⟨rfl, b1.trans ?_⟩
    exact (((Below.refl _ w1).alloc (Nat.le_refl _) _).trans (k2.below.trans k3.below)).mono b1.size
  · have hv' : Lib.validD s.data.toList = false := by simpa using hv
    rw [hv']
    have HV := Lib.hid hv'; clear hv hv'
    go_enter Tryz.func23, Tryz.ntmps23
    go_wp2_with fail
    refine (validString_any s w (by omega) hT).mono ?_
    rintro e w1 ⟨rfl, b1⟩
    rw [HV.out]
    go_wp2
    go_ret2
    exact ⟨rfl, b1⟩
end Go.Proofs.YtdpmjlkmjmookaaGreatDoor
