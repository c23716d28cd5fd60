/-
  The laws SpellBack, SpellForm, SpellUnlike, walked.
  The references' Is; the laws SpellForm, SpellUnlike, walked.
-/
import Derived.Test.YtdpmjlkmjmookaaGreatDoorTextL
import Derived.Test.YtdpmjlkmjmookaaGreatDoorRefNorm
namespace Go.Proofs.YtdpmjlkmjmookaaGreatDoor
section
open Go.RowKit Go.PlainAid

theorem printS_bad {f : Int} {ops : List OpM} (h : printE f ops ≠ 0) : printS f ops = ⟨#[]⟩ := by unfold printS; rw [if_neg h]
theorem printS_size {f : Int} {ops : List OpM} (h : printE f ops = 0) : (printS f ops).size ≤ 262144 := by
  unfold printS
  rw [if_pos h]
  have h1 : ¬ 262144 < (printM f (normM ops)).length := by
    intro e
    unfold printE at h
    by_cases h1 : toE f ops = 0
    · rw [if_neg (by rw [h1]; simp), if_pos e] at h; omega
    · rw [if_pos h1] at h; exact h1 h
  have : (⟨(printM f (normM ops)).toArray⟩ : ByteArray).size = (printM f (normM ops)).length := sz_mk _
  omega
theorem printE_cases (f : Int) (ops : List OpM) : (printE f ops = 0 ∧ toE f ops = 0) ∨ (printE f ops ≠ 0 ∧ toE f ops ≠ 0 ∧ printE f ops = toE f ops) ∨ (printE f ops = 3 ∧ toE f ops = 0) := by
  unfold printE
  by_cases h1 : toE f ops = 0
  · rw [if_neg (by rw [h1]; simp)]
    by_cases h2 : 262144 < (printM f (normM ops)).length
    · rw [if_pos h2]; exact .inr (.inr ⟨rfl, h1⟩)
    · rw [if_neg h2]; exact .inl ⟨rfl, h1⟩
  · rw [if_pos h1]; exact .inr (.inl ⟨h1, h1, rfl⟩)
theorem RdO.below {w w' : World} {v : Value} {l : List OpM} {F : Nat → Prop} (h : RdO w F v l) (hb : Below w.heap.size w w') : RdO w' F v l := h.pure hb

set_option maxHeartbeats 8000000 in
set_option maxRecDepth 100000 in
theorem spellBack_any (f : Int) (v : Value) (ops : List OpM) (F : Nat → Prop) (w : World) (h : RdO w F v ops) (hT : Tabs w) :
    Calls Tryz.prog 3 #[.agg #[.int .i64 f, v]] w fun e w' => e = .returned (.bool true) ∧ Below w.heap.size w w' := by
  obtain ⟨A, cap, rfl, hc, hcm, hm, hcell⟩ := h.open_
  clear hcell
  have H := Lib.hid h; clear h
  have HT := Lib.hid hT; clear hT
  have hB : Below w.heap.size w (w.alloc (.cells #[.int .i64 f, .slice A ops.length cap] 24)) := (Below.refl _ w).alloc (Nat.le_refl _) _
  have hx : (w.alloc (.cells #[.int .i64 f, .slice A ops.length cap] 24)).heap[w.heap.size]? = some (.cells #[.int .i64 f, .slice A ops.length cap] 24 (0, 0)) := heap_alloc_new w _
  have HX := Lib.hid hx; clear hx
  go_enter Tryz.func3, Tryz.ntmps3
  go_wp2_with fail
  refine (awake_any _ (HT.out.pure hB)).mono ?_
  rintro e w1 ⟨rfl, b1⟩
  have hb1 := pure_trans hB b1
  have HX1 := Lib.hid ((b1.block _ (heap_lt HX.out)).trans HX.out)
  obtain ⟨x0, x1⟩ := box2 HX1.out
  have hxl := heap_lt HX1.out
  clear b1 hB
  go_wp2_with fail
  refine (print_any f _ ops F _ (H.out.pure hb1) (HT.out.pure hb1)).mono ?_
  rintro e w2 ⟨rfl, b2⟩
  have hb2 := pure_trans hb1 b2
  have HX2 := Lib.hid ((b2.block _ (heap_lt HX1.out)).trans HX1.out)
  clear x0 x1 hxl
  obtain ⟨x0, x1⟩ := box2 HX2.out
  have hxl := heap_lt HX2.out
  clear b2
  rcases printE_cases f ops with ⟨p1, p2⟩ | ⟨p1, p2, p3⟩ | ⟨p1, p2⟩
  · have hpp := (parse_print p1).2
    have hsz := printS_size p1
    have HP := Lib.hid hpp; clear hpp
    have P2 := Lib.hid p2
    rw [p1]
    generalize printS f ops = S at *
    clear p1
    go_wp2_with fail
    refine (refNormal_any f _ ops F _ (H.out.pure hb2)).mono ?_
    rintro e w3 ⟨v3, rfl, b3, hR3⟩
    rw [if_pos p2] at hR3
    rw [if_pos p2, p2]
    clear p2
    have hb3 := pure_trans hb2 b3
    obtain ⟨A3, cap3, rfl, _⟩ := hR3.open_
    have HR3 := Lib.hid hR3; clear hR3
    have b4 : Below w3.heap.size w3 (w3.alloc (.cells #[.int .i64 f, .slice A3 (normM ops).length cap3] 24)) := (Below.refl _ w3).alloc (Nat.le_refl _) _
    have HY := Lib.hid (heap_alloc_new w3 (.cells #[.int .i64 f, .slice A3 (normM ops).length cap3] 24))
    have hb4 := pure_trans hb3 b4
    have HR4 := Lib.hid (HR3.out.pure b4)
    clear b3 b4 x0 x1
    go_wp2_with fail
    refine (parse_any S _ (by omega) (HT.out.pure hb4)).mono ?_
    intro e w5 hp
    unfold ParsePost at hp
    rw [HP.out] at hp
    obtain ⟨v5, rfl, b5, hO⟩ := hp
    have hlen := (normM_len P2.out).1
    have hRO := rdO_of_own hO.own (by omega)
    clear hO hlen
    obtain ⟨A5, cap5, rfl, _⟩ := hRO.open_
    have HY5 := Lib.hid ((b5.block _ (heap_lt HY.out)).trans HY.out)
    have HR5 := Lib.hid (HR4.out.pure b5)
    have hb5 := pure_trans hb4 b5
    clear b5 hb4 hb3
    have HRO := Lib.hid hRO; clear hRO
    obtain ⟨W6, hW6⟩ : ∃ W6, (w5.alloc (.cells #[.int .i64 f, .slice A5 (normM ops).length cap5] 24)).alloc (.cells #[.int .i64 0, .int .i64 0] 32) = W6 := ⟨_, rfl⟩
    have b6 : Below w5.heap.size w5 W6 := by rw [← hW6]; exact ((Below.refl _ w5).alloc (Nat.le_refl _) _).alloc (by simp) _
    have z0 : W6.heap[w5.heap.size]? = some (.cells #[.int .i64 f, .slice A5 (normM ops).length cap5] 24 (0, 0)) := by
      rw [← hW6, Below.heap_alloc _ _ _ (by simp)]; exact heap_alloc_new w5 _
    have z1 : W6.heap[w5.heap.size + 1]? = some (.cells #[.int .i64 0, .int .i64 0] 32 (0, 0)) := by
      rw [← hW6]; have := heap_alloc_new (w5.alloc (.cells #[.int .i64 f, .slice A5 (normM ops).length cap5] 24)) (.cells #[.int .i64 0, .int .i64 0] 32); simpa using this
    have z2 := (b6.block _ (heap_lt HY5.out)).trans HY5.out
    have HR6 := Lib.hid (HR5.out.pure b6)
    have HRO6 := Lib.hid (HRO.out.pure b6)
    have HB6 := Lib.hid (pure_trans hb5 b6)
    have Z1 := Lib.hid z1
    obtain ⟨q0, q1⟩ := box2 z0
    obtain ⟨q2, q3⟩ := box2 z1
    obtain ⟨q4, q5⟩ := box2 z2
    have hl0 := heap_lt z0; have hl1 := heap_lt z1; have hl2 := heap_lt z2
    have HW6 := Lib.hid hW6
    clear hW6 b6 z0 z1 z2 hb5
    unfold faultV
    go_upto_region 7 with fail
    rw [HW6.out]
    go_wp2_with fail
    refine (refSame_any f f _ _ (normM ops) (normM ops) _ _ W6 HRO6.out HR6.out).mono ?_
    rintro e w7 ⟨rfl, b7⟩
    have hsame : sameC f (normM ops) f (normM ops) = true := (sameC_iff _ _ _ _).2 ⟨rfl, rfl⟩
    rw [hsame]
    clear hsame q0 q1 q2 q3 q4 q5
    obtain ⟨q2, q3⟩ := box2 ((b7.block _ (heap_lt Z1.out)).trans Z1.out)
    have hb7 := pure_trans HB6.out b7
    clear b7
    have hF := eqF_run
    go_wp2_with fail
    go_ret
    exact ⟨rfl, hb7⟩
  · have hsb := printS_bad p1
    rw [hsb, p3]
    clear hsb
    have P2 := Lib.hid p2
    go_wp2_with fail
    refine (refNormal_any f _ ops F _ (H.out.pure hb2)).mono ?_
    rintro e w3 ⟨v3, rfl, b3, hR3⟩
    have hb3 := pure_trans hb2 b3
    obtain ⟨A3, cap3, rfl, _⟩ := hR3.open_
    rw [if_neg p2]
    have d1 : (toE f ops == 0) = false := by simpa using p2
    have d2 : (toE f ops != 0) = true := by simpa using p2
    have ht : (⟨#[]⟩ : ByteArray).toList = [] := by rw [ByteArray.toList_eq]
    clear hR3 p1 p2 p3 x0 x1
    generalize toE f ops = r at *
    go_wp2_with fail
    go_ret
    exact ⟨rfl, hb3.alloc hb3.size _⟩
  · have hsb := printS_bad (f := f) (ops := ops) (by omega)
    rw [hsb, p1]
    clear hsb
    go_wp2_with fail
    refine (refNormal_any f _ ops F _ (H.out.pure hb2)).mono ?_
    rintro e w3 ⟨v3, rfl, b3, hR3⟩
    have hb3 := pure_trans hb2 b3
    obtain ⟨A3, cap3, rfl, _⟩ := hR3.open_
    rw [if_pos p2, p2]
    have ht : (⟨#[]⟩ : ByteArray).toList = [] := by rw [ByteArray.toList_eq]
    clear hR3 p1 p2 x0 x1
    go_wp2_with fail
    go_ret
    exact ⟨rfl, hb3.alloc hb3.size _⟩
end

section
open Go.RowKit Go.PlainAid

set_option maxHeartbeats 1000000 in
theorem refIs_any (f : Int) (v : Value) (ops : List OpM) (F : Nat → Prop) (w : World) (h : RdO w F v ops) :
    Calls Tryz.prog 20 #[.agg #[.int .i64 f, v]] w fun e w' => e = .returned (.bool (isM f ops)) ∧ Below w.heap.size w w' := by
  obtain ⟨A, cap, rfl, hc, hcm, hm, _⟩ := h.open_
  have H := Lib.hid h; clear h
  have hB : Below w.heap.size w (w.alloc (.cells #[.int .i64 f, .slice A ops.length cap] 24)) := (Below.refl _ w).alloc (Nat.le_refl _) _
  have hbx : (w.alloc (.cells #[.int .i64 f, .slice A ops.length cap] 24)).heap[w.heap.size]? = some (.cells #[.int .i64 f, .slice A ops.length cap] 24 (0, 0)) := heap_alloc_new w _
  go_enter Tryz.func20, Tryz.ntmps20
  go_wp2_with fail
  refine (refNormal_any f _ ops F _ (H.out.pure hB)).mono ?_
  rintro e w1 ⟨v', rfl, h1, hR⟩
  have hbx1 := (h1.block _ (heap_lt hbx)).trans hbx
  obtain ⟨c0, c1⟩ := box2 hbx1
  have hl1 := heap_lt hbx1
  have hb1 := pure_trans hB h1
  obtain ⟨A2, cap2, rfl, _⟩ := hR.open_
  have HR := Lib.hid hR; clear hR h1 hbx hbx1
  by_cases he : toE f ops = 0
  · have HI := Lib.hid (show isM f ops = sameOL ops (normM ops) by unfold isM; rw [he]; simp)
    have HRR : RdO w1 (fun k => (w.alloc (.cells #[.int .i64 f, .slice A ops.length cap] 24)).heap.size ≤ k) (.slice A2 (normM ops).length cap2) (normM ops) := by
      have := HR.out; rw [if_pos he] at this; exact this
    have HR2 := Lib.hid HRR; clear HRR
    rw [he, if_pos rfl, if_pos rfl]
    have hB2 : Below w1.heap.size w1 (w1.alloc (.cells #[.int .i64 f, .slice A2 (normM ops).length cap2] 24)) := (Below.refl _ w1).alloc (Nat.le_refl _) _
    clear he HR
    go_wp2_with fail
    refine (refSame_any f f _ _ ops (normM ops) F _ _ ((H.out.pure hb1).pure hB2) (HR2.out.pure hB2)).mono ?_
    rintro e w2 ⟨rfl, h2⟩
    go_wp2
    go_ret
    exact ⟨ret_bool (by rw [HI.out]; simp [sameC]), pure_trans (pure_trans hb1 hB2) h2⟩
  · have HI := Lib.hid (show isM f ops = false by unfold isM; simp [he])
    have he' : (toE f ops == 0) = false := by simpa using he
    have hB2 : Below w1.heap.size w1 (w1.alloc (.cells #[.int .i64 (if toE f ops = 0 then f else 0), .slice A2 (if toE f ops = 0 then normM ops else []).length cap2] 24)) := (Below.refl _ w1).alloc (Nat.le_refl _) _
    rw [if_neg he, if_neg he] at *
    clear he
    go_wp2
    go_ret
    exact ⟨ret_bool HI.out.symm, pure_trans hb1 hB2⟩

theorem tl_ne {a b : ByteArray} (h : ¬ a = b) : (a.toList == b.toList) = false := by
  have : a.toList ≠ b.toList := fun e => h (by rw [ByteArray.toList_eq, ByteArray.toList_eq] at e; exact ByteArray.ext (Array.toList_inj.1 e))
  simpa using this
theorem parseM_err {s : ByteArray} {c k : Int} (h : parseM s = .error (c, k)) : c ≠ 0 := by
  unfold parseM at h
  split at h
  · injection h with h; injection h with h1 h2; omega
  · split at h
    · injection h with h; injection h with h1; omega
    · split at h
      · rename_i he; injection h with h; injection h with h1; rw [← h1]; exact he
      · split at h
        · injection h with h; injection h with h1; omega
        · cases h

set_option maxHeartbeats 8000000 in
set_option maxRecDepth 100000 in
theorem spellForm_any (s : ByteArray) (w : World) (hs : s.size ≤ 16777216) (hT : Tabs w) :
    Calls Tryz.prog 4 #[.string s] w fun e w' => e = .returned (.bool true) ∧ Below w.heap.size w w' := by
  have HT := Lib.hid hT; clear hT
  go_enter Tryz.func4, Tryz.ntmps4
  go_wp2_with fail
  refine (awake_any _ HT.out).mono ?_
  rintro e w1 ⟨rfl, b1⟩
  go_wp2_with fail
  refine (parse_any s _ hs (HT.out.pure b1)).mono ?_
  intro e w2 hp
  unfold ParsePost at hp
  cases hM : parseM s with
  | error p =>
    obtain ⟨c, k⟩ := p
    rw [hM] at hp
    obtain ⟨rfl, b2⟩ := hp
    have hb2 := pure_trans b1 b2
    have hc := parseM_err hM
    have d1 : (c == 0) = false := by simpa using hc
    have d2 : (c != 0) = true := by simpa using hc
    unfold faultV
    clear hM b1 b2 hc
    go_wp2_with fail
    go_ret
    exact ⟨rfl, (hb2.alloc hb2.size _).alloc (hb2.alloc hb2.size _).size _⟩
  | ok p =>
    obtain ⟨f, ops⟩ := p
    rw [hM] at hp
    obtain ⟨v5, rfl, b2, hO⟩ := hp
    have hpp := print_parse hM
    have hlen := toE_fold hpp.1
    have hRO := rdO_of_own hO.own (by have := hlen.2.1; omega)
    have HP := Lib.hid hpp
    clear hO hlen hM hpp
    obtain ⟨A5, cap5, rfl, _⟩ := hRO.open_
    have hb2 := pure_trans b1 b2
    have HRO := Lib.hid hRO; clear hRO
    obtain ⟨W6, hW6⟩ : ∃ W6, (w2.alloc (.cells #[.int .i64 f, .slice A5 ops.length cap5] 24)).alloc (.cells #[.int .i64 0, .int .i64 0] 32) = W6 := ⟨_, rfl⟩
    have b6 : Below w2.heap.size w2 W6 := by rw [← hW6]; exact ((Below.refl _ w2).alloc (Nat.le_refl _) _).alloc (by simp) _
    have z0 : W6.heap[w2.heap.size]? = some (.cells #[.int .i64 f, .slice A5 ops.length cap5] 24 (0, 0)) := by
      rw [← hW6, Below.heap_alloc _ _ _ (by simp)]; exact heap_alloc_new w2 _
    have z1 : W6.heap[w2.heap.size + 1]? = some (.cells #[.int .i64 0, .int .i64 0] 32 (0, 0)) := by
      rw [← hW6]; have := heap_alloc_new (w2.alloc (.cells #[.int .i64 f, .slice A5 ops.length cap5] 24)) (.cells #[.int .i64 0, .int .i64 0] 32); simpa using this
    have HRO6 := Lib.hid (HRO.out.pure b6)
    have hb6 := pure_trans hb2 b6
    have HB6 := Lib.hid hb6
    have Z0 := Lib.hid z0
    obtain ⟨q0, q1⟩ := box2 z0
    obtain ⟨q2, q3⟩ := box2 z1
    have hl0 := heap_lt z0; have hl1 := heap_lt z1
    have HW6 := Lib.hid hW6
    clear hW6 b6 z0 z1 hb2 b1 b2 hb6 HRO
    unfold faultV
    go_upto_region 3 with fail
    rw [HW6.out]
    clear HW6
    go_wp2_with fail
    refine (refIs_any f _ ops _ W6 HRO6.out).mono ?_
    rintro e w7 ⟨rfl, b7⟩
    have hb7 := pure_trans HB6.out b7
    have z7 := (b7.block _ (heap_lt Z0.out)).trans Z0.out
    have HRO7 := Lib.hid (HRO6.out.pure b7)
    clear q0 q1 q2 q3 b7 hl0 hl1
    obtain ⟨q0, q1⟩ := box2 z7
    have hl0 := heap_lt z7
    clear z7
    rw [HP.out.2.1]
    go_wp2_with fail
    refine (print_any f _ ops _ w7 HRO7.out (HT.out.pure hb7)).mono ?_
    rintro e w8 ⟨rfl, b8⟩
    have hss : (s.toList == s.toList) = true := by simp
    have hb8 := pure_trans hb7 b8
    rw [HP.out.2.2.2.1, HP.out.2.2.2.2]
    clear q0 q1 b8
    go_wp2_with fail
    go_ret
    exact ⟨rfl, hb8⟩

set_option maxHeartbeats 8000000 in
set_option maxRecDepth 100000 in
theorem spellUnlike_any (f g : Int) (v u : Value) (l m : List OpM) (F G : Nat → Prop) (w : World) (h : RdO w F v l) (hg : RdO w G u m) (hT : Tabs w) :
    Calls Tryz.prog 5 #[.agg #[.int .i64 f, v], .agg #[.int .i64 g, u]] w fun e w' => e = .returned (.bool true) ∧ Below w.heap.size w w' := by
  obtain ⟨A, cap, rfl, _, _, _, hcell⟩ := h.open_
  obtain ⟨B, dap, rfl, _, _, _, gcell⟩ := hg.open_
  clear hcell gcell
  have H := Lib.hid h; clear h
  have HG := Lib.hid hg; clear hg
  have HT := Lib.hid hT; clear hT
  have hB : Below w.heap.size w ((w.alloc (.cells #[.int .i64 f, .slice A l.length cap] 24)).alloc (.cells #[.int .i64 g, .slice B m.length dap] 24)) := ((Below.refl _ w).alloc (Nat.le_refl _) _).alloc (by simp) _
  have hx : ((w.alloc (.cells #[.int .i64 f, .slice A l.length cap] 24)).alloc (.cells #[.int .i64 g, .slice B m.length dap] 24)).heap[w.heap.size]? = some (.cells #[.int .i64 f, .slice A l.length cap] 24 (0, 0)) := by
    rw [Below.heap_alloc _ _ _ (by simp)]; exact heap_alloc_new w _
  have hy : ((w.alloc (.cells #[.int .i64 f, .slice A l.length cap] 24)).alloc (.cells #[.int .i64 g, .slice B m.length dap] 24)).heap[w.heap.size + 1]? = some (.cells #[.int .i64 g, .slice B m.length dap] 24 (0, 0)) := by
    have := heap_alloc_new (w.alloc (.cells #[.int .i64 f, .slice A l.length cap] 24)) (.cells #[.int .i64 g, .slice B m.length dap] 24); simpa using this
  have HX := Lib.hid hx; have HY := Lib.hid hy; clear hx hy
  go_enter Tryz.func5, Tryz.ntmps5
  go_wp2_with fail
  refine (awake_any _ (HT.out.pure hB)).mono ?_
  rintro e w1 ⟨rfl, b1⟩
  have hb1 := pure_trans hB b1
  have HX1 := Lib.hid ((b1.block _ (heap_lt HX.out)).trans HX.out)
  have HY1 := Lib.hid ((b1.block _ (heap_lt HY.out)).trans HY.out)
  obtain ⟨x0, x1⟩ := box2 HX1.out
  obtain ⟨y0, y1⟩ := box2 HY1.out
  have hxl := heap_lt HX1.out
  have hyl := heap_lt HY1.out
  clear b1 hB HX HY
  go_wp2_with fail
  refine (print_any f _ l F _ (H.out.pure hb1) (HT.out.pure hb1)).mono ?_
  rintro e w2 ⟨rfl, b2⟩
  have hb2 := pure_trans hb1 b2
  have HX2 := Lib.hid ((b2.block _ (heap_lt HX1.out)).trans HX1.out)
  have HY2 := Lib.hid ((b2.block _ (heap_lt HY1.out)).trans HY1.out)
  clear x0 x1 hxl y0 y1 hyl b2 HX1 HY1 hb1
  obtain ⟨x0, x1⟩ := box2 HX2.out
  obtain ⟨y0, y1⟩ := box2 HY2.out
  have hxl := heap_lt HX2.out
  have hyl := heap_lt HY2.out
  obtain ⟨S, hS⟩ : ∃ S, printS f l = S := ⟨_, rfl⟩
  obtain ⟨E, hE⟩ : ∃ E, printE f l = E := ⟨_, rfl⟩
  rw [hS, hE]
  have HS := Lib.hid hS; have HE := Lib.hid hE; clear hS hE
  go_wp2_with fail
  refine (print_any g _ m G _ (HG.out.pure hb2) (HT.out.pure hb2)).mono ?_
  rintro e w3 ⟨rfl, b3⟩
  have hb3 := pure_trans hb2 b3
  have HX3 := Lib.hid ((b3.block _ (heap_lt HX2.out)).trans HX2.out)
  have HY3 := Lib.hid ((b3.block _ (heap_lt HY2.out)).trans HY2.out)
  clear x0 x1 hxl y0 y1 hyl b3 HX2 HY2 hb2
  obtain ⟨x0, x1⟩ := box2 HX3.out
  obtain ⟨y0, y1⟩ := box2 HY3.out
  have hxl := heap_lt HX3.out
  have hyl := heap_lt HY3.out
  obtain ⟨T, hS2⟩ : ∃ S, printS g m = S := ⟨_, rfl⟩
  obtain ⟨D, hE2⟩ : ∃ E, printE g m = E := ⟨_, rfl⟩
  rw [hS2, hE2]
  have HS2 := Lib.hid hS2; have HE2 := Lib.hid hE2; clear hS2 hE2
  by_cases e0 : E = 0
  case neg =>
    have d1 : (E == 0) = false := by simpa using e0
    have d2 : (E != 0) = true := by simpa using e0
    clear e0
    go_wp2_with fail
    go_ret
    exact ⟨rfl, hb3⟩
  case pos =>
    subst e0
    by_cases e1 : D = 0
    case neg =>
      have d1 : (D == 0) = false := by simpa using e1
      have d2 : (D != 0) = true := by simpa using e1
      clear e1
      go_wp2_with fail
      go_ret
      exact ⟨rfl, hb3⟩
    case pos =>
      subst e1
      have p1 := (parse_print HE.out).1
      have p2 := (parse_print HE2.out).1
      have hps := print_same HE.out HE2.out
      rw [HS.out, HS2.out] at hps
      have HPS := Lib.hid hps; have P1 := Lib.hid p1; have P2 := Lib.hid p2
      clear hps p1 p2
      go_wp2_with fail
      refine (refNormal_any f _ l F _ (H.out.pure hb3)).mono ?_
      rintro e w4 ⟨v4, rfl, b4, hR4⟩
      rw [if_pos P1.out] at hR4
      rw [if_pos P1.out, P1.out]
      obtain ⟨A4, cap4, rfl, _⟩ := hR4.open_
      have hb4 := pure_trans hb3 b4
      have b5 : Below w4.heap.size w4 (w4.alloc (.cells #[.int .i64 f, .slice A4 (normM l).length cap4] 24)) := (Below.refl _ w4).alloc (Nat.le_refl _) _
      have HY5 := Lib.hid ((b5.block _ (heap_lt ((b4.block _ (heap_lt HY3.out)).trans HY3.out))).trans ((b4.block _ (heap_lt HY3.out)).trans HY3.out))
      have HZ5 := Lib.hid (heap_alloc_new w4 (.cells #[.int .i64 f, .slice A4 (normM l).length cap4] 24))
      have HR5 := Lib.hid (hR4.pure b5)
      have hb5 := pure_trans hb4 b5
      clear x0 x1 hxl y0 y1 hyl hR4 b4 b5 hb4
      obtain ⟨y0, y1⟩ := box2 HY5.out
      have hyl := heap_lt HY5.out
      go_wp2_with fail
      refine (refNormal_any g _ m G _ (HG.out.pure hb5)).mono ?_
      rintro e w6 ⟨v6, rfl, b6, hR6⟩
      rw [if_pos P2.out] at hR6
      rw [if_pos P2.out, P2.out]
      obtain ⟨A6, cap6, rfl, _⟩ := hR6.open_
      have hb6 := pure_trans hb5 b6
      have b7 : Below w6.heap.size w6 (w6.alloc (.cells #[.int .i64 g, .slice A6 (normM m).length cap6] 24)) := (Below.refl _ w6).alloc (Nat.le_refl _) _
      have HZ7 := Lib.hid ((b7.block _ (heap_lt ((b6.block _ (heap_lt HZ5.out)).trans HZ5.out))).trans ((b6.block _ (heap_lt HZ5.out)).trans HZ5.out))
      have HR7 := Lib.hid ((HR5.out.pure b6).pure b7)
      have HR8 := Lib.hid (hR6.pure b7)
      have hb7 := pure_trans hb6 b7
      clear y0 y1 hyl hR6 b6 b7 hb6
      obtain ⟨z0, z1⟩ := box2 HZ7.out
      have hzl := heap_lt HZ7.out
      go_wp2_with fail
      refine (refSame_any f g _ _ (normM l) (normM m) _ _ _ HR7.out HR8.out).mono ?_
      rintro e w9 ⟨rfl, b9⟩
      have hb9 := pure_trans hb7 b9
      clear z0 z1 b9
      by_cases hq : f = g ∧ normM l = normM m
      · have hst : S = T := HPS.out.2 hq
        have h1 : sameC f (normM l) g (normM m) = true := (sameC_iff _ _ _ _).2 hq
        rw [h1]
        subst hst
        have hss : (S.toList == S.toList) = true := by simp
        clear h1 hq
        go_wp2_with fail
        go_ret
        exact ⟨rfl, hb9⟩
      · have hst : ¬ S = T := fun e => hq (HPS.out.1 e)
        have h1 : sameC f (normM l) g (normM m) = false := by
          cases hb : sameC f (normM l) g (normM m) with
          | false => rfl
          | true => exact absurd ((sameC_iff _ _ _ _).1 hb) hq
        rw [h1]
        have hss := tl_ne hst
        clear h1 hq hst
        go_wp2_with fail
        go_ret
        exact ⟨rfl, hb9⟩
end
end Go.Proofs.YtdpmjlkmjmookaaGreatDoor
