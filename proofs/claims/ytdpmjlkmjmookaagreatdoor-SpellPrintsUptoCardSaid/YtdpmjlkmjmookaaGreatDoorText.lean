/-
  Package spell: the reader's small steps (see, take, must, run), walked.
-/
import Derived.Test.YtdpmjlkmjmookaaGreatDoorPrint
namespace Go.Proofs.YtdpmjlkmjmookaaGreatDoor
set_option linter.unusedVariables false
set_option linter.unusedSimpArgs false
open Go.RowKit Go.PlainAid

/-! ### What is left to read -/
/-- the reader in block g stands over s, and l is left -/
def Txt (g : Nat) (s : ByteArray) (l : List UInt8) (w : World) : Prop :=
  ∃ at_ : Nat, at_ ≤ s.size ∧ l = s.data.toList.drop at_ ∧ w.heap[g]? = some (.cells #[.string s, .int .i64 at_] 115 (0, 0))
theorem Txt.pure {g : Nat} {s : ByteArray} {l : List UInt8} {w w' : World} (h : Txt g s l w) (hb : Below w.heap.size w w') : Txt g s l w' := by
  obtain ⟨a, h1, h2, h3⟩ := h
  exact ⟨a, h1, h2, (hb.block _ (heap_lt h3)).trans h3⟩
theorem Txt.lt {g : Nat} {s : ByteArray} {l : List UInt8} {w : World} (h : Txt g s l w) : g < w.heap.size := by
  obtain ⟨a, h1, h2, h3⟩ := h; exact heap_lt h3
theorem drop_len (s : ByteArray) (a : Nat) : (s.data.toList.drop a).length = s.size - a := by rw [List.length_drop, len_data]
theorem drop_cons (s : ByteArray) (a : Nat) (h : a < s.size) : s.data.toList.drop a = s[a]'h :: s.data.toList.drop (a + 1) := by
  rw [List.drop_eq_getElem_cons (by rw [len_data]; exact h)]; rfl
theorem drop_end (s : ByteArray) (a : Nat) (h : s.size ≤ a) : s.data.toList.drop a = [] := List.drop_eq_nil_of_le (by rw [len_data]; exact h)

theorem wrap_u8 (c : UInt8) : wrap64 (c.toNat : Int) = (c.toNat : Int) := by have := c.toNat_lt; unfold wrap64; omega
def seeM : List UInt8 → Int
  | [] => -1
  | c :: _ => c.toNat
def takeB (c : UInt8) : List UInt8 → Bool
  | [] => false
  | b :: _ => b == c

set_option maxHeartbeats 1000000 in
theorem see_any (g : Nat) (s : ByteArray) (l : List UInt8) (w : World) (hh : Txt g s l w) (hs : s.size ≤ 1099511627776) :
    Calls Tryz.prog 132 #[.pointer (some ⟨g, 0, none⟩)] w fun e w' => e = .returned (.int .i64 (seeM l)) ∧ Below w.heap.size w w' := by
  obtain ⟨a, h1, rfl, h3⟩ := hh
  obtain ⟨c0, c1⟩ := box2 h3
  by_cases hlt : a < s.size
  · have he : ((a : Int) == (s.size : Int)) = false := by simp; omega
    have hR := Lib.hid (show seeM (s.data.toList.drop a) = ((s[a]'hlt).toNat : Int) by rw [drop_cons s a hlt]; rfl)
    clear h3
    go_enter Tryz.func132, Tryz.ntmps132
    go_wp2_with fail
    go_quiet (fail)
    go_wp2_with fail
    go_quiet (fail)
    go_wp2
    go_ret
    exact ⟨ret_int ((wrap_u8 _).trans hR.out.symm), below_drewN (below_drewN (Below.refl _ w) _) _⟩
  · have he : ((a : Int) == (s.size : Int)) = true := by simp; omega
    have hR := Lib.hid (show seeM (s.data.toList.drop a) = -1 by rw [drop_end s a (by omega)]; rfl)
    clear h3
    go_enter Tryz.func132, Tryz.ntmps132
    go_wp2_with fail
    go_quiet (fail)
    go_wp2
    go_ret
    exact ⟨ret_int hR.out.symm, below_drewN (Below.refl _ w) _⟩

/-- what a step of the reader in block g turns -/
abbrev KpG (g : Nat) (w w' : World) : Prop := Kp (fun k => k = g) w w'
theorem KpG.pure {g : Nat} {w w' : World} (h : Below w.heap.size w w') : KpG g w w' := Kp.of_pure h

set_option maxHeartbeats 1000000 in
theorem take_any (c : UInt8) (g : Nat) (s : ByteArray) (l : List UInt8) (w : World) (hx : Txt g s l w) (hs : s.size ≤ 1099511627776) :
    Calls Tryz.prog 131 #[.pointer (some ⟨g, 0, none⟩), .int .u8 c.toNat] w fun e w' => e = .returned (.bool (takeB c l)) ∧ Txt g s (if takeB c l then l.tail else l) w' ∧ KpG g w w' := by
  cases ht : takeB c l with
  | false =>
    have hne : (seeM l != (c.toNat : Int)) = true := by
      cases l with
      | nil => simp [seeM]
      | cons b r =>
        simp only [takeB, beq_eq_false_iff_ne] at ht
        simp only [seeM, bne_iff_ne]
        intro e; exact ht (UInt8.toNat_inj.1 (by omega))
    clear ht
    have hw8 : wrap64 (c.toNat : Int) = (c.toNat : Int) := wrap_u8 c
    go_enter Tryz.func131, Tryz.ntmps131
    go_wp2_with fail
    refine (see_any g s l _ hx hs).mono ?_
    rintro e w1 ⟨rfl, b1⟩
    go_wp2
    go_ret
    exact ⟨rfl, by simpa using Txt.pure hx b1, KpG.pure b1⟩
  | true =>
    have hne : (seeM l != (c.toNat : Int)) = false := by
      cases l with
      | nil => simp [takeB] at ht
      | cons b r =>
        simp only [takeB, beq_iff_eq] at ht
        subst ht; simp [seeM]
    have hne2 : l ≠ [] := by rintro rfl; simp [takeB] at ht
    clear ht
    have hw8 : wrap64 (c.toNat : Int) = (c.toNat : Int) := wrap_u8 c
    go_enter Tryz.func131, Tryz.ntmps131
    go_wp2_with fail
    refine (see_any g s l _ hx hs).mono ?_
    rintro e w1 ⟨rfl, b1⟩
    obtain ⟨a, h1, rfl, h3⟩ := Txt.pure hx b1
    have hlt : a < s.size := by
      rcases Nat.lt_or_ge a s.size with h | h
      · exact h
      · exact absurd (drop_end s a h) hne2
    obtain ⟨c0, c1⟩ := box2 h3
    have f1 := froz_heap h3 1
    have hg := heap_lt h3
    have H3 := Lib.hid h3; clear h3
    go_wp2
    go_ret
    refine ⟨rfl, ⟨a + 1, hlt, ?_, ?_⟩, (KpG.pure b1).setCell (p := ⟨g, 1, none⟩) (.inl rfl) _⟩
    · simp
    · exact set_heap1 H3.out _

def wrongE (k : Nat) (s : ByteArray) : Ending := .panicked [{ v := .iface 160 (.int .i64 ((s.size : Int) - k)), recovered := false }]

set_option maxHeartbeats 1000000 in
theorem must_any (c : UInt8) (g : Nat) (s : ByteArray) (l : List UInt8) (w : World) (h : Txt g s l w) (hs : s.size ≤ 1099511627776) :
    Calls Tryz.prog 130 #[.pointer (some ⟨g, 0, none⟩), .int .u8 c.toNat] w fun e w' =>
      (takeB c l = true ∧ e = .returned (.tuple #[]) ∧ Txt g s l.tail w' ∧ KpG g w w') ∨ (takeB c l = false ∧ e = wrongE l.length s ∧ KpG g w w') := by
  go_enter Tryz.func130, Tryz.ntmps130
  go_wp2_with fail
  refine (take_any c g s l _ h hs).mono ?_
  rintro e w1 ⟨rfl, h1, k1⟩
  cases ht : takeB c l with
  | true =>
    rw [ht] at h1
    go_wp2
    go_end0
    exact .inl ⟨ht, rfl, by simpa using h1, k1⟩
  | false =>
    rw [ht] at h1
    obtain ⟨a, h1, h2, h3⟩ := (by simpa using h1 : Txt g s l w1)
    obtain ⟨c0, c1⟩ := box2 h3
    go_wp2_with fail
    subst h2
    refine ⟨rfl, Or.inr ⟨ht, ?_, k1⟩⟩
    unfold wrongE; rw [drop_len, show (s.size : Int) - ((s.size - a : Nat) : Int) = (a : Int) by omega]
end Go.Proofs.YtdpmjlkmjmookaaGreatDoor
