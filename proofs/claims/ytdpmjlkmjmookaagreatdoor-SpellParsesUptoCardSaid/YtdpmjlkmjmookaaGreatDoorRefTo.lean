/-
  The references' changesets that may be: Count (blotterref01), formed, measure, Right (blotterref03), walked.
-/
import Derived.Test.YtdpmjlkmjmookaaGreatDoorRefUtf
namespace Go.Proofs.YtdpmjlkmjmookaaGreatDoor
open Go.RowKit Go.PlainAid

theorem cntOk_len (s : ByteArray) : (cntOk s = true ∧ refLen s = some (Lib.runeCount s) ∧ Lib.runeCount s ≤ 20000) ∨ (cntOk s = false ∧ refLen s = none) ∨ (cntOk s = false ∧ refLen s = some (Lib.runeCount s) ∧ ¬ Lib.runeCount s ≤ 20000) := by
  have h := refLen_is s
  unfold cntOk
  cases hv : Lib.validD s.data.toList with
  | false => rw [hv] at h; exact .inr (.inl ⟨rfl, by simpa using h⟩)
  | true =>
    rw [hv, if_pos rfl] at h
    by_cases hn : Lib.runeCount s ≤ 20000
    · exact .inl ⟨by simp [hn], h, hn⟩
    · exact .inr (.inr ⟨by simp [hn], h, hn⟩)
set_option maxHeartbeats 1000000 in
theorem refCount_any (s : ByteArray) (w : World) (hs : s.size ≤ 1099511627776) :
    Calls Tryz.prog 140 #[.string s] w fun e w' => e = .returned (.tuple #[.int .i64 (cntN s), .int .i64 (cntE s)]) ∧ Below w.heap.size w w' := by
  have hl := Lib.runeCount_le s
  rcases cntOk_len s with ⟨h1, h2, h3⟩ | ⟨h1, h2⟩ | ⟨h1, h2, h3⟩
  · have H1 := Lib.hid h1; have H2 := Lib.hid h2; clear h1 h2
    go_enter Tryz.func140, Tryz.ntmps140
    go_wp2_with fail
    refine (refRead_any s w hs).mono ?_
    intro e w1 hp
    unfold ReadPostU at hp
    rw [H2.out] at hp
    obtain ⟨b1, A, cap, rfl⟩ := hp
    have hd : decide (Lib.runeCount s ≤ 20000) = true := decide_eq_true h3
    rw [hd]
    clear hd
    go_wp2
    go_ret2
    exact ⟨ret_tuple2 (int_eq (by unfold cntN; rw [H1.out]; rfl)) (int_eq (by unfold cntE; rw [H1.out]; rfl)), b1⟩
  · have H1 := Lib.hid h1; have H2 := Lib.hid h2; clear h1 h2
    go_enter Tryz.func140, Tryz.ntmps140
    go_wp2_with fail
    refine (refRead_any s w hs).mono ?_
    intro e w1 hp
    unfold ReadPostU at hp
    rw [H2.out] at hp
    obtain ⟨b1, rfl⟩ := hp
    go_wp2
    go_ret2
    exact ⟨ret_tuple2 (int_eq (by unfold cntN; rw [H1.out]; rfl)) (int_eq (by unfold cntE; rw [H1.out]; rfl)), b1⟩
  · have H1 := Lib.hid h1; have H2 := Lib.hid h2; clear h1 h2
    go_enter Tryz.func140, Tryz.ntmps140
    go_wp2_with fail
    refine (refRead_any s w hs).mono ?_
    intro e w1 hp
    unfold ReadPostU at hp
    rw [H2.out] at hp
    obtain ⟨b1, A, cap, rfl⟩ := hp
    have hd : decide (Lib.runeCount s ≤ 20000) = false := decide_eq_false h3
    rw [hd]
    clear hd
    go_wp2
    go_ret2
    exact ⟨ret_tuple2 (int_eq (by unfold cntN; rw [H1.out]; rfl)) (int_eq (by unfold cntE; rw [H1.out]; rfl)), b1⟩

set_option maxHeartbeats 2000000 in
theorem refFormed_any (o : OpM) (va : Value) (F : Nat → Prop) (w : World) (h : RdA w F va o.attrs) :
    Calls Tryz.prog 139 #[opV o va] w fun e w' => e = .returned (.bool (shapedB o)) ∧ Below w.heap.size w w' := by
  obtain ⟨A, cap, rfl, hc, hcm, hm, hcell⟩ := h.open_
  clear h hcell
  obtain ⟨kind, n, text, attrs⟩ := o
  simp only [opV] at *
  have hB : Below w.heap.size w (w.alloc (.cells #[.int .i64 kind, .int .i64 n, .string text, .slice A attrs.length cap] 48)) := (Below.refl _ w).alloc (Nat.le_refl _) _
  have FIN : ∀ (b c : Bool), b = c → shapedB ⟨kind, n, text, attrs⟩ = c → Ending.returned (.bool b) = .returned (.bool (shapedB ⟨kind, n, text, attrs⟩)) := fun b c h1 h2 => by rw [h1, h2]
  have HF := Lib.hid FIN; clear FIN
  by_cases k2 : kind = 2
  · subst k2
    by_cases hn : n = 0
    · subst hn
      go_enter Tryz.func139, Tryz.ntmps139
      go_wp2
      go_ret
      exact ⟨HF.out _ (!text.toList.isEmpty) (by cases text.toList <;> rfl) (by simp [shapedB]), hB⟩
    · have hn' : (n == 0) = false := by simpa using hn
      have HN := Lib.hid hn; clear hn
      go_enter Tryz.func139, Tryz.ntmps139
      go_wp2
      go_ret
      exact ⟨HF.out _ false rfl (by simp [shapedB, HN.out]), hB⟩
  · have k2' : (kind == 2) = false := by simpa using k2
    have K2 := Lib.hid k2; clear k2
    by_cases k3 : kind = 3
    · subst k3
      by_cases hn : 1 ≤ n
      · have hn2 : 0 < n := by omega
        have HN2 := Lib.hid hn2; clear hn2
        cases ht : text.toList.isEmpty with
        | false =>
          have HT := Lib.hid ht
          have hl : ((text.toList == []) = false) := by cases hx : text.toList <;> simp_all
          go_enter Tryz.func139, Tryz.ntmps139
          go_wp2
          go_ret
          exact ⟨HF.out _ false rfl (by simp [shapedB, HT.out]), hB⟩
        | true =>
          have HT := Lib.hid ht
          go_enter Tryz.func139, Tryz.ntmps139
          go_wp2
          go_ret
          exact ⟨HF.out _ (decide (attrs.length = 0)) (by first | rfl | (by_cases h0 : attrs.length = 0 <;> simp [h0])) (by simp [shapedB, HT.out, HN2.out]), hB⟩
      · have HN := Lib.hid hn
        go_enter Tryz.func139, Tryz.ntmps139
        go_wp2
        go_ret
        exact ⟨HF.out _ false rfl (by simp [shapedB]; intro h; have := HN.out; omega), hB⟩
    · have k3' : (kind == 3) = false := by simpa using k3
      have K3 := Lib.hid k3; clear k3
      by_cases k1 : kind = 1
      · subst k1
        by_cases hn : 1 ≤ n
        · have hn2 : 0 < n := by omega
          have HN2 := Lib.hid hn2; clear hn2
          go_enter Tryz.func139, Tryz.ntmps139
          go_wp2
          go_ret
          exact ⟨HF.out _ text.toList.isEmpty (by cases text.toList <;> rfl) (by simp [shapedB, HN2.out]), hB⟩
        · have HN := Lib.hid hn
          go_enter Tryz.func139, Tryz.ntmps139
          go_wp2
          go_ret
          exact ⟨HF.out _ false rfl (by simp [shapedB]; intro h; have := HN.out; omega), hB⟩
      · have k1' : (kind == 1) = false := by simpa using k1
        have K1 := Lib.hid k1; clear k1
        go_enter Tryz.func139, Tryz.ntmps139
        go_wp2
        go_ret
        exact ⟨HF.out _ false rfl (by simp [shapedB, K1.out, K2.out, K3.out]), hB⟩
end Go.Proofs.YtdpmjlkmjmookaaGreatDoor
