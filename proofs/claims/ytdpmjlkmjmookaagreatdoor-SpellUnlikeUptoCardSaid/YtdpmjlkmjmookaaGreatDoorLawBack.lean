/-
  The laws SpellBack, SpellForm, SpellUnlike, walked.
-/
import Derived.Test.YtdpmjlkmjmookaaGreatDoorTextL
import Derived.Test.YtdpmjlkmjmookaaGreatDoorRefNorm
namespace Go.Proofs.YtdpmjlkmjmookaaGreatDoor
open Go.RowKit Go.PlainAid

theorem printS_bad {f : Int} {ops : List OpM} (h : printE f ops ≠ 0) : printS f ops = ⟨#[]⟩ := by unfold printS; rw [if_neg h]
theorem printS_size {f : Int} {ops : List OpM} (h : printE f ops = 0) : (printS f ops).size ≤ 262144 := by
  unfold printS
  rw [if_pos h]
  have h1 : ¬ 262144 < (printM f (normM ops)).length := by
    intro e
    unfold printE at h
    by_cases h1 : toE f ops = 0
    · rw [if_neg (by rw [h1]; simp), if_pos e] at h; omega
    · rw [if_pos h1] at h; exact h1 h
  have : (⟨(printM f (normM ops)).toArray⟩ : ByteArray).size = (printM f (normM ops)).length := sz_mk _
  omega
theorem printE_cases (f : Int) (ops : List OpM) : (printE f ops = 0 ∧ toE f ops = 0) ∨ (printE f ops ≠ 0 ∧ toE f ops ≠ 0 ∧ printE f ops = toE f ops) ∨ (printE f ops = 3 ∧ toE f ops = 0) := by
  unfold printE
  by_cases h1 : toE f ops = 0
  · rw [if_neg (by rw [h1]; simp)]
    by_cases h2 : 262144 < (printM f (normM ops)).length
    · rw [if_pos h2]; exact .inr (.inr ⟨rfl, h1⟩)
    · rw [if_neg h2]; exact .inl ⟨rfl, h1⟩
  · rw [if_pos h1]; exact .inr (.inl ⟨h1, h1, rfl⟩)
theorem RdO.below {w w' : World} {v : Value} {l : List OpM} {F : Nat → Prop} (h : RdO w F v l) (hb : Below w.heap.size w w') : RdO w' F v l := h.pure hb

set_option maxHeartbeats 8000000 in
set_option maxRecDepth 100000 in
theorem spellBack_any (f : Int) (v : Value) (ops : List OpM) (F : Nat → Prop) (w : World) (h : RdO w F v ops) (hT : Tabs w) :
    Calls Tryz.prog 3 #[.agg #[.int .i64 f, v]] w fun e w' => e = .returned (.bool true) ∧ Below w.heap.size w w' := by
  obtain ⟨A, cap, rfl, hc, hcm, hm, hcell⟩ := h.open_
  clear hcell
  have H := Lib.hid h; clear h
  have HT := Lib.hid hT; clear hT
  have hB : Below w.heap.size w (w.alloc (.cells #[.int .i64 f, .slice A ops.length cap] 24)) := (Below.refl _ w).alloc (Nat.le_refl _) _
  have hx : (w.alloc (.cells #[.int .i64 f, .slice A ops.length cap] 24)).heap[w.heap.size]? = some (.cells #[.int .i64 f, .slice A ops.length cap] 24 (0, 0)) := heap_alloc_new w _
  have HX := Lib.hid hx; clear hx
  go_enter Tryz.func3, Tryz.ntmps3
  go_wp2_with fail
  refine (awake_any _ (HT.out.pure hB)).mono ?_
  rintro e w1 ⟨rfl, b1⟩
  have hb1 := pure_trans hB b1
  have HX1 := Lib.hid ((b1.block _ (heap_lt HX.out)).trans HX.out)
  obtain ⟨x0, x1⟩ := box2 HX1.out
  have hxl := heap_lt HX1.out
  clear b1 hB
  go_wp2_with fail
  refine (print_any f _ ops F _ (H.out.pure hb1) (HT.out.pure hb1)).mono ?_
  rintro e w2 ⟨rfl, b2⟩
  have hb2 := pure_trans hb1 b2
  have HX2 := Lib.hid ((b2.block _ (heap_lt HX1.out)).trans HX1.out)
  clear x0 x1 hxl
  obtain ⟨x0, x1⟩ := box2 HX2.out
  have hxl := heap_lt HX2.out
  clear b2
  rcases printE_cases f ops with ⟨p1, p2⟩ | ⟨p1, p2, p3⟩ | ⟨p1, p2⟩
  · have hpp := (parse_print p1).2
    have hsz := printS_size p1
    have HP := Lib.hid hpp; clear hpp
    have P2 := Lib.hid p2
    rw [p1]
    generalize printS f ops = S at *
    clear p1
    go_wp2_with fail
    refine (refNormal_any f _ ops F _ (H.out.pure hb2)).mono ?_
    rintro e w3 ⟨v3, rfl, b3, hR3⟩
    rw [if_pos p2] at hR3
    rw [if_pos p2, p2]
    clear p2
    have hb3 := pure_trans hb2 b3
    obtain ⟨A3, cap3, rfl, _⟩ := hR3.open_
    have HR3 := Lib.hid hR3; clear hR3
    have b4 : Below w3.heap.size w3 (w3.alloc (.cells #[.int .i64 f, .slice A3 (normM ops).length cap3] 24)) := (Below.refl _ w3).alloc (Nat.le_refl _) _
    have HY := Lib.hid (heap_alloc_new w3 (.cells #[.int .i64 f, .slice A3 (normM ops).length cap3] 24))
    have hb4 := pure_trans hb3 b4
    have HR4 := Lib.hid (HR3.out.pure b4)
    clear b3 b4 x0 x1
    go_wp2_with fail
    refine (parse_any S _ (by omega) (HT.out.pure hb4)).mono ?_
    intro e w5 hp
    unfold ParsePost at hp
    rw [HP.out] at hp
    obtain ⟨v5, rfl, b5, hO⟩ := hp
    have hlen := (normM_len P2.out).1
    have hRO := rdO_of_own hO (by omega)
    clear hO hlen
    obtain ⟨A5, cap5, rfl, _⟩ := hRO.open_
    have HY5 := Lib.hid ((b5.block _ (heap_lt HY.out)).trans HY.out)
    have HR5 := Lib.hid (HR4.out.pure b5)
    have hb5 := pure_trans hb4 b5
    clear b5 hb4 hb3
    have HRO := Lib.hid hRO; clear hRO
    obtain ⟨W6, hW6⟩ : ∃ W6, (w5.alloc (.cells #[.int .i64 f, .slice A5 (normM ops).length cap5] 24)).alloc (.cells #[.int .i64 0, .int .i64 0] 32) = W6 := ⟨_, rfl⟩
    have b6 : Below w5.heap.size w5 W6 := by rw [← hW6]; exact ((Below.refl _ w5).alloc (Nat.le_refl _) _).alloc (by simp) _
    have z0 : W6.heap[w5.heap.size]? = some (.cells #[.int .i64 f, .slice A5 (normM ops).length cap5] 24 (0, 0)) := by
      rw [← hW6, Below.heap_alloc _ _ _ (by simp)]; exact heap_alloc_new w5 _
    have z1 : W6.heap[w5.heap.size + 1]? = some (.cells #[.int .i64 0, .int .i64 0] 32 (0, 0)) := by
      rw [← hW6]; have := heap_alloc_new (w5.alloc (.cells #[.int .i64 f, .slice A5 (normM ops).length cap5] 24)) (.cells #[.int .i64 0, .int .i64 0] 32); simpa using this
    have z2 := (b6.block _ (heap_lt HY5.out)).trans HY5.out
    have HR6 := Lib.hid (HR5.out.pure b6)
    have HRO6 := Lib.hid (HRO.out.pure b6)
    have HB6 := Lib.hid (pure_trans hb5 b6)
    have Z1 := Lib.hid z1
    obtain ⟨q0, q1⟩ := box2 z0
    obtain ⟨q2, q3⟩ := box2 z1
    obtain ⟨q4, q5⟩ := box2 z2
    have hl0 := heap_lt z0; have hl1 := heap_lt z1; have hl2 := heap_lt z2
    have HW6 := Lib.hid hW6
    clear hW6 b6 z0 z1 z2 hb5
    unfold faultV
    go_upto_region 7 with fail
    rw [HW6.out]
    go_wp2_with fail
    refine (refSame_any f f _ _ (normM ops) (normM ops) _ _ W6 HRO6.out HR6.out).mono ?_
    rintro e w7 ⟨rfl, b7⟩
    have hsame : sameC f (normM ops) f (normM ops) = true := (sameC_iff _ _ _ _).2 ⟨rfl, rfl⟩
    rw [hsame]
    clear hsame q0 q1 q2 q3 q4 q5
    obtain ⟨q2, q3⟩ := box2 ((b7.block _ (heap_lt Z1.out)).trans Z1.out)
    have hb7 := pure_trans HB6.out b7
    clear b7
    have hF := eqF_run
    go_wp2_with fail
    go_ret
    exact ⟨rfl, hb7⟩
  · have hsb := printS_bad p1
    rw [hsb, p3]
    clear hsb
    have P2 := Lib.hid p2
    go_wp2_with fail
    refine (refNormal_any f _ ops F _ (H.out.pure hb2)).mono ?_
    rintro e w3 ⟨v3, rfl, b3, hR3⟩
    have hb3 := pure_trans hb2 b3
    obtain ⟨A3, cap3, rfl, _⟩ := hR3.open_
    rw [if_neg p2]
    have d1 : (toE f ops == 0) = false := by simpa using p2
    have d2 : (toE f ops != 0) = true := by simpa using p2
    have ht : (⟨#[]⟩ : ByteArray).toList = [] := by rw [ByteArray.toList_eq]
    clear hR3 p1 p2 p3 x0 x1
    generalize toE f ops = r at *
    go_wp2_with fail
    go_ret
    exact ⟨rfl, hb3.alloc hb3.size _⟩
  · have hsb := printS_bad (f := f) (ops := ops) (by omega)
    rw [hsb, p1]
    clear hsb
    go_wp2_with fail
    refine (refNormal_any f _ ops F _ (H.out.pure hb2)).mono ?_
    rintro e w3 ⟨v3, rfl, b3, hR3⟩
    have hb3 := pure_trans hb2 b3
    obtain ⟨A3, cap3, rfl, _⟩ := hR3.open_
    rw [if_pos p2, p2]
    have ht : (⟨#[]⟩ : ByteArray).toList = [] := by rw [ByteArray.toList_eq]
    clear hR3 p1 p2 x0 x1
    go_wp2_with fail
    go_ret
    exact ⟨rfl, hb3.alloc hb3.size _⟩
end Go.Proofs.YtdpmjlkmjmookaaGreatDoor
