/-
  The law SpellPrints (blotterlaw04), walked.
-/
import Derived.Test.YtdpmjlkmjmookaaGreatDoorLent
import Derived.Test.YtdpmjlkmjmookaaGreatDoorRefPrtG
import Derived.Test.YtdpmjlkmjmookaaGreatDoorAwake
namespace Go.Proofs.YtdpmjlkmjmookaaGreatDoor
set_option linter.unusedVariables false
set_option linter.unusedSimpArgs false
open Go.RowKit Go.PlainAid

theorem refPrint_any (f : Int) (v : Value) (ops : List OpM) (F : Nat → Prop) (w : World) (h : RdO w F v ops) :
    Calls Tryz.prog 24 #[.agg #[.int .i64 f, v]] w (PrintPost f ops w) := by
  by_cases he : toE f ops = 0
  · exact refPrint_good f v ops F w h he
  · exact refPrint_bad f v ops F w h he
theorem LentO.pure {w w' : World} {lo : Nat} {v : Value} {ops : List OpM} (h : LentO w lo v ops) (hb : Below w.heap.size w w') : LentO w' lo v ops := by
  obtain ⟨g, cap, items, hv, ho, hit, hl, hap⟩ := h
  exact ⟨g, cap, items, hv, own_below ho hb, hit, fun p hp => ⟨(hl p hp).1.agree fun k hk hty => hb.block k (tyA_lt hty), (hl p hp).2⟩, hap⟩

set_option maxHeartbeats 8000000 in
set_option maxRecDepth 100000 in
theorem spellPrints_any (f : Int) (v : Value) (ops : List OpM) (F : Nat → Prop) (s : ByteArray) (w : World) (h : RdO w F v ops) (hs0 : s.size ≤ 1048576) (hT : Tabs w) :
    Calls Tryz.prog 6 #[.agg #[.int .i64 f, v], .string s] w fun e w' => e = .returned (.bool true) ∧ Below w.heap.size w w' := by
  have hs : s.size ≤ 1099511627776 := by omega
  obtain ⟨A, cap, rfl, hc, hcm, hm, hcell⟩ := h.open_
  clear hcell
  have H := Lib.hid (h.mono (G := fun k => k < w.heap.size) (fun k _ hk => hk)); clear h
  have HT := Lib.hid hT; clear hT
  have hB : Below w.heap.size w (w.alloc (.cells #[.int .i64 f, .slice A ops.length cap] 24)) := (Below.refl _ w).alloc (Nat.le_refl _) _
  have HX := Lib.hid (heap_alloc_new w (.cells #[.int .i64 f, .slice A ops.length cap] 24))
  go_enter Tryz.func6, Tryz.ntmps6
  go_wp2_with fail
  refine (awake_any _ (HT.out.pure hB)).mono ?_
  rintro e w1 ⟨rfl, b1⟩
  have hb1 := pure_trans hB b1
  have HX1 := Lib.hid ((b1.block _ (heap_lt HX.out)).trans HX.out)
  obtain ⟨x0, x1⟩ := box2 HX1.out
  have hxl := heap_lt HX1.out
  clear b1 hB
  go_wp2_with fail
  refine (lent_any f _ ops _ _ (H.out.pure hb1)).mono ?_
  rintro e w2 ⟨v', rfl, b2, hl2⟩
  have hb2 := pure_trans hb1 b2
  have HX2 := Lib.hid ((b2.block _ (heap_lt HX1.out)).trans HX1.out)
  obtain ⟨A2, m2, cap2, rfl⟩ : ∃ A2 m2 cap2, v' = .slice A2 m2 cap2 := by obtain ⟨g, c, _, e, _⟩ := hl2; exact ⟨_, _, _, e⟩
  have hs2 := b2.size
  clear b2 x0 x1 hxl
  have b3 : Below w2.heap.size w2 (w2.alloc (.cells #[.int .i64 f, .slice A2 m2 cap2] 24)) := (Below.refl _ w2).alloc (Nat.le_refl _) _
  have hb3 := pure_trans hb2 b3
  have HX3 := Lib.hid ((b3.block _ (heap_lt HX2.out)).trans HX2.out)
  have HY3 := Lib.hid (heap_alloc_new w2 (.cells #[.int .i64 f, .slice A2 m2 cap2] 24))
  have HL3 := Lib.hid (hl2.pure b3)
  have hro := hl2.rdO (H.out.pure hb2)
  have HR3 := Lib.hid (hro.pure b3)
  clear hro hl2 b3 hb2
  have HB3 := Lib.hid hb3; clear hb3
  go_wp2_with fail
  refine (print_any f _ ops _ _ HR3.out (HT.out.pure HB3.out)).mono ?_
  rintro e w4 ⟨rfl, b4⟩
  have HB4 := Lib.hid (pure_trans HB3.out b4)
  have HX4 := Lib.hid ((b4.block _ (heap_lt HX3.out)).trans HX3.out)
  have HY4 := Lib.hid ((b4.block _ (heap_lt HY3.out)).trans HY3.out)
  have HL4 := Lib.hid (HL3.out.pure b4)
  obtain ⟨x0, x1⟩ := box2 HX4.out
  obtain ⟨y0, y1⟩ := box2 HY4.out
  have hxl := heap_lt HX4.out; have hyl := heap_lt HY4.out
  have hs4 := b4.size
  have h1w : w.heap.size ≤ w1.heap.size := hb1.size
  have h1x := heap_lt HX1.out
  clear b4
  simp only [World.alloc] at hs4
  obtain ⟨P, hP⟩ : ∃ P, printS f ops = P := ⟨_, rfl⟩
  obtain ⟨E, hE⟩ : ∃ E, printE f ops = E := ⟨_, rfl⟩
  have HPE := Lib.hid (And.intro hP hE)
  rw [hP, hE]
  clear hP hE
  go_wp2_with fail
  refine (kept_any w1.heap.size f _ _ ops (fun k => k < w.heap.size) _ HL4.out (H.out.pure HB4.out) (fun k hk => by omega) (by simp at hs4; omega)).mono ?_
  rintro e w5 ⟨rfl, b5⟩
  have HB5 := Lib.hid (HB4.out.trans (b5.mono h1w))
  have HX5 := Lib.hid ((b5.block _ h1x).trans HX4.out)
  clear b5 x0 x1 y0 y1 hxl hyl hs4
  obtain ⟨Q, hQ⟩ : ∃ Q : ByteArray, (if Lib.validD s.data.toList then (⟨(quoteL s.data.toList).toArray⟩ : ByteArray) else ⟨#[]⟩) = Q := ⟨_, rfl⟩
  obtain ⟨R, hR⟩ : ∃ R : Int, (if Lib.validD s.data.toList then (0 : Int) else 10) = R := ⟨_, rfl⟩
  have hq1 := quote_any s
  have hq2 := refQuoteQ_any s
  rw [hQ, hR] at hq1 hq2
  have HQ1 := Lib.hid hq1; have HQ2 := Lib.hid hq2
  clear hQ hR hq1 hq2
  go_wp2_with fail
  refine (HQ1.out _ hs (HT.out.pure HB5.out)).mono ?_
  rintro e w6 ⟨rfl, b6⟩
  have HB6 := Lib.hid (pure_trans HB5.out b6)
  have HX6 := Lib.hid ((b6.block _ (heap_lt HX5.out)).trans HX5.out)
  clear b6
  obtain ⟨x0, x1⟩ := box2 HX6.out
  have hxl := heap_lt HX6.out
  go_wp2_with fail
  refine (refPrint_any f _ ops _ _ (H.out.pure HB6.out)).mono ?_
  rintro e w7 ⟨rfl, b7⟩
  have HB7 := Lib.hid (pure_trans HB6.out b7)
  clear b7 x0 x1 hxl
  rw [HPE.out.1, HPE.out.2]
  go_wp2_with fail
  refine (HQ2.out _ hs).mono ?_
  rintro e w8 ⟨rfl, b8⟩
  have HB8 := Lib.hid (pure_trans HB7.out b8)
  clear b8
  go_wp2
  go_ret
  exact ⟨rfl, HB8.out⟩
end Go.Proofs.YtdpmjlkmjmookaaGreatDoor
