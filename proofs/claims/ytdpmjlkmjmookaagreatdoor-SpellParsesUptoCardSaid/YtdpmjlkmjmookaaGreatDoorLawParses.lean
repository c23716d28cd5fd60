/-
  The law SpellParses (blotterlaw04), walked.
-/
import Derived.Test.YtdpmjlkmjmookaaGreatDoorSpoil
import Derived.Test.YtdpmjlkmjmookaaGreatDoorRfd8
import Derived.Test.YtdpmjlkmjmookaaGreatDoorAwake
namespace Go.Proofs.YtdpmjlkmjmookaaGreatDoor
set_option linter.unusedVariables false
set_option linter.unusedSimpArgs false
open Go.RowKit Go.PlainAid

/-- what both readers answer, with or without a fault -/
structure ParseUni (s : ByteArray) (f c k : Int) (ops : List OpM) : Prop where
  len : ops.length ≤ 16777216
  att : ∀ o ∈ ops, o.attrs.length ≤ 16777216
  ours : ∀ w e w', ParsePost s w e w' → ∃ A n cp, e = .returned (.tuple #[.agg #[.int .i64 f, .slice A n cp], faultV c k]) ∧ Below w.heap.size w w' ∧ OwnS w' w.heap.size (.slice A n cp) ops
  theirs : ∀ w e w', RParsePost s w e w' → ∃ A n cp, e = .returned (.tuple #[.agg #[.int .i64 f, .slice A n cp], faultV c k]) ∧ Below w.heap.size w w' ∧ OwnO w' w.heap.size (.slice A n cp) ops
theorem ownS_nil (w : World) (lo : Nat) : OwnS w lo (.slice none 0 0) [] := ⟨[], rfl, World.ownsRow_nil _ _ _ _, by simp, List.Pairwise.nil⟩
theorem OwnO.form {w : World} {lo : Nat} {v : Value} {ops : List OpM} (h : OwnO w lo v ops) : ∃ A n cp, v = .slice A n cp := by
  obtain ⟨items, e, ho, hi⟩ := h
  obtain ⟨A, cp, hv⟩ := ownF ho
  exact ⟨A, _, cp, hv⟩
theorem parse_uni (s : ByteArray) : ∃ f c k ops, ParseUni s f c k ops := by
  cases h : parseM s with
  | error p =>
    obtain ⟨c, k⟩ := p
    refine ⟨0, c, k, [], by simp, by simp, fun w e w' hp => ?_, fun w e w' hp => ?_⟩
    · unfold ParsePost at hp; rw [h] at hp
      exact ⟨none, 0, 0, hp.1, hp.2, ownS_nil _ _⟩
    · unfold RParsePost at hp; rw [h] at hp
      exact ⟨none, 0, 0, hp.1, hp.2, (ownS_nil _ _).own⟩
  | ok p =>
    obtain ⟨f, ops⟩ := p
    obtain ⟨q1, q2, q3, q4, q5⟩ := print_parse h
    refine ⟨f, 0, 0, ops, ?_, fun o ho => ?_, fun w e w' hp => ?_, fun w e w' hp => ?_⟩
    · have := (normM_len q1).1; rw [q3] at this; omega
    · have := (normM_pr q1 o (by rw [q3]; exact ho)).la; omega
    · unfold ParsePost at hp; rw [h] at hp
      obtain ⟨v, he, hb, ho⟩ := hp
      obtain ⟨A, n, cp, rfl⟩ := ho.own.form
      exact ⟨A, n, cp, he, hb, ho⟩
    · unfold RParsePost at hp; rw [h] at hp
      obtain ⟨v, he, hb, ho⟩ := hp
      obtain ⟨A, n, cp, rfl⟩ := ho.form
      exact ⟨A, n, cp, he, hb, ho⟩

set_option maxHeartbeats 8000000 in
set_option maxRecDepth 100000 in
theorem spellParses_any (s : ByteArray) (i : Int) (w : World) (hs0 : s.size ≤ 1048576) (hT : Tabs w) :
    Calls Tryz.prog 7 #[.string s, .int .i64 i] w fun e w' => e = .returned (.bool true) ∧ Below w.heap.size w w' := by
  have hs : s.size ≤ 1099511627776 := by omega
  have HT := Lib.hid hT; clear hT
  have HRD := Lib.hid (fun (W : World) => read_any s i W hs)
  have HRR := Lib.hid (fun (W : World) => rread_any s i W hs)
  unfold ReadPost at HRD HRR
  generalize readM s i = rd at *
  obtain ⟨out, end_, code, at_⟩ := rd
  generalize mkB out = OUT at *
  unfold faultV at HRD HRR
  obtain ⟨f, c, k, ops, hU⟩ := parse_uni s
  have HU := Lib.hid hU
  have hlen := hU.len
  clear hU
  go_enter Tryz.func7, Tryz.ntmps7
  go_wp2_with fail
  refine (awake_any _ HT.out).mono ?_
  rintro e w1 ⟨rfl, b1⟩
  have HB1 := Lib.hid b1
  clear b1
  go_wp2_with fail
  refine (HRD.out _).mono ?_
  rintro e w2 ⟨rfl, b2⟩
  have HB2 := Lib.hid (pure_trans HB1.out b2)
  clear b2
  have HF2 := Lib.hid (heap_alloc_new w2 (.cells #[.int .i64 code, .int .i64 at_] 32))
  have HB3 := Lib.hid (HB2.out.alloc HB2.out.size (.cells #[.int .i64 code, .int .i64 at_] 32))
  go_wp2_with fail
  refine (HRR.out _).mono ?_
  rintro e w4 ⟨rfl, b4⟩
  have HB4 := Lib.hid (pure_trans HB3.out b4)
  have HF4 := Lib.hid ((b4.block _ (heap_lt HF2.out)).trans HF2.out)
  have hl4 := heap_lt HF4.out
  clear b4
  have HF5 := Lib.hid ((Below.heap_alloc w4 (.cells #[.int .i64 code, .int .i64 at_] 32) _ hl4).trans HF4.out)
  have HG5 := Lib.hid (heap_alloc_new w4 (.cells #[.int .i64 code, .int .i64 at_] 32))
  have HB5 := Lib.hid (HB4.out.alloc HB4.out.size (.cells #[.int .i64 code, .int .i64 at_] 32))
  obtain ⟨f0, f1⟩ := box2 HF5.out
  obtain ⟨g0, g1⟩ := box2 HG5.out
  have hfl := heap_lt HF5.out
  have hgl := heap_lt HG5.out
  have hs16 : s.size ≤ 16777216 := by omega
  clear hl4
  go_upto_region 4 with fail
  obtain ⟨W5, hW5⟩ : ∃ W5, w4.alloc (.cells #[.int .i64 code, .int .i64 at_] 32) = W5 := ⟨_, rfl⟩
  rw [hW5] at HB5 f0 f1 g0 g1 hfl hgl ⊢
  clear hW5 HF5 HG5 HF4 HF2
  go_wp2_with fail
  refine (parse_any s _ hs16 (HT.out.pure HB5.out)).mono ?_
  intro e w6 hp
  obtain ⟨A1, n1, c1, rfl, b6, ho1⟩ := HU.out.ours _ _ _ hp
  have HB6 := Lib.hid (pure_trans HB5.out b6)
  have HO1 := Lib.hid ho1
  have hlo := b6.size
  clear hp b6 ho1 f0 f1 g0 g1 hfl hgl
  have hx7 : ((w6.alloc (.cells #[.int .i64 f, .slice A1 n1 c1] 24)).alloc (.cells #[.int .i64 c, .int .i64 k] 32)).heap[w6.heap.size]? = some (.cells #[.int .i64 f, .slice A1 n1 c1] 24 (0, 0)) := by
    rw [Below.heap_alloc _ _ _ (by simp)]; exact heap_alloc_new w6 _
  have hy7 : ((w6.alloc (.cells #[.int .i64 f, .slice A1 n1 c1] 24)).alloc (.cells #[.int .i64 c, .int .i64 k] 32)).heap[w6.heap.size + 1]? = some (.cells #[.int .i64 c, .int .i64 k] 32 (0, 0)) := by
    have := heap_alloc_new (w6.alloc (.cells #[.int .i64 f, .slice A1 n1 c1] 24)) (.cells #[.int .i64 c, .int .i64 k] 32); simpa using this
  have hb7 : Below w6.heap.size w6 ((w6.alloc (.cells #[.int .i64 f, .slice A1 n1 c1] 24)).alloc (.cells #[.int .i64 c, .int .i64 k] 32)) := ((Below.refl _ w6).alloc (Nat.le_refl _) _).alloc (by simp) _
  unfold faultV
  go_upto_region 7 with fail
  obtain ⟨W7, hW7⟩ : ∃ W7, (w6.alloc (.cells #[.int .i64 f, .slice A1 n1 c1] 24)).alloc (.cells #[.int .i64 c, .int .i64 k] 32) = W7 := ⟨_, rfl⟩
  rw [hW7] at hx7 hy7 hb7 ⊢
  have HX7 := Lib.hid hx7; have HY7 := Lib.hid hy7; have HS7 := Lib.hid hb7
  have HB7 := Lib.hid (pure_trans HB6.out hb7)
  clear hW7 hx7 hy7 hb7
  go_wp2_with fail
  refine (parse_any s _ hs16 (HT.out.pure HB7.out)).mono ?_
  intro e w8 hp
  obtain ⟨A2, n2, c2, rfl, b8, ho2⟩ := HU.out.ours _ _ _ hp
  have HB8 := Lib.hid (pure_trans HB7.out b8)
  have HS8 := Lib.hid (pure_trans HS7.out b8)
  have HX8 := Lib.hid ((b8.block _ (heap_lt HX7.out)).trans HX7.out)
  have HY8 := Lib.hid ((b8.block _ (heap_lt HY7.out)).trans HY7.out)
  have HO2 := Lib.hid ho2
  clear hp b8 ho2 HX7 HY7
  unfold faultV
  have hx9 : ((w8.alloc (.cells #[.int .i64 f, .slice A2 n2 c2] 24)).alloc (.cells #[.int .i64 c, .int .i64 k] 32)).heap[w8.heap.size]? = some (.cells #[.int .i64 f, .slice A2 n2 c2] 24 (0, 0)) := by
    rw [Below.heap_alloc _ _ _ (by simp)]; exact heap_alloc_new w8 _
  have hy9 : ((w8.alloc (.cells #[.int .i64 f, .slice A2 n2 c2] 24)).alloc (.cells #[.int .i64 c, .int .i64 k] 32)).heap[w8.heap.size + 1]? = some (.cells #[.int .i64 c, .int .i64 k] 32 (0, 0)) := by
    have := heap_alloc_new (w8.alloc (.cells #[.int .i64 f, .slice A2 n2 c2] 24)) (.cells #[.int .i64 c, .int .i64 k] 32); simpa using this
  have hb9 : Below w8.heap.size w8 ((w8.alloc (.cells #[.int .i64 f, .slice A2 n2 c2] 24)).alloc (.cells #[.int .i64 c, .int .i64 k] 32)) := ((Below.refl _ w8).alloc (Nat.le_refl _) _).alloc (by simp) _
  go_upto_region 8 with fail
  obtain ⟨W9, hW9⟩ : ∃ W9, (w8.alloc (.cells #[.int .i64 f, .slice A2 n2 c2] 24)).alloc (.cells #[.int .i64 c, .int .i64 k] 32) = W9 := ⟨_, rfl⟩
  rw [hW9] at hx9 hy9 hb9 ⊢
  have HX9 := Lib.hid ((hb9.block _ (heap_lt HX8.out)).trans HX8.out)
  have HY9 := Lib.hid ((hb9.block _ (heap_lt HY8.out)).trans HY8.out)
  have HU9 := Lib.hid hx9; have HV9 := Lib.hid hy9
  have HS9 := Lib.hid (pure_trans HS8.out hb9)
  have HT9 := Lib.hid hb9
  have HB9 := Lib.hid (pure_trans HB8.out hb9)
  clear hW9 hx9 hy9 hb9
  go_wp2_with fail
  refine (rparse_any s _ hs16 (HT.out.pure HB9.out)).mono ?_
  intro e w10 hp
  obtain ⟨A3, n3, c3, rfl, b10, ho3⟩ := HU.out.theirs _ _ _ hp
  have HB10 := Lib.hid (pure_trans HB9.out b10)
  have HS10 := Lib.hid (pure_trans HS9.out b10)
  have HT10 := Lib.hid (pure_trans HT9.out b10)
  have HX10 := Lib.hid ((b10.block _ (heap_lt HX9.out)).trans HX9.out)
  have HY10 := Lib.hid ((b10.block _ (heap_lt HY9.out)).trans HY9.out)
  have HU10 := Lib.hid ((b10.block _ (heap_lt HU9.out)).trans HU9.out)
  have HV10 := Lib.hid ((b10.block _ (heap_lt HV9.out)).trans HV9.out)
  have HO3 := Lib.hid ho3
  clear hp b10 ho3 HX9 HY9 HU9 HV9
  unfold faultV
  have hx11 : ((w10.alloc (.cells #[.int .i64 f, .slice A3 n3 c3] 24)).alloc (.cells #[.int .i64 c, .int .i64 k] 32)).heap[w10.heap.size]? = some (.cells #[.int .i64 f, .slice A3 n3 c3] 24 (0, 0)) := by
    rw [Below.heap_alloc _ _ _ (by simp)]; exact heap_alloc_new w10 _
  have hy11 : ((w10.alloc (.cells #[.int .i64 f, .slice A3 n3 c3] 24)).alloc (.cells #[.int .i64 c, .int .i64 k] 32)).heap[w10.heap.size + 1]? = some (.cells #[.int .i64 c, .int .i64 k] 32 (0, 0)) := by
    have := heap_alloc_new (w10.alloc (.cells #[.int .i64 f, .slice A3 n3 c3] 24)) (.cells #[.int .i64 c, .int .i64 k] 32); simpa using this
  have hb11 : Below w10.heap.size w10 ((w10.alloc (.cells #[.int .i64 f, .slice A3 n3 c3] 24)).alloc (.cells #[.int .i64 c, .int .i64 k] 32)) := ((Below.refl _ w10).alloc (Nat.le_refl _) _).alloc (by simp) _
  go_upto_region 9 with fail
  obtain ⟨W11, hW11⟩ : ∃ W11, (w10.alloc (.cells #[.int .i64 f, .slice A3 n3 c3] 24)).alloc (.cells #[.int .i64 c, .int .i64 k] 32) = W11 := ⟨_, rfl⟩
  rw [hW11] at hx11 hy11 hb11 ⊢
  have HX := Lib.hid ((hb11.block _ (heap_lt HX10.out)).trans HX10.out)
  have HY := Lib.hid ((hb11.block _ (heap_lt HY10.out)).trans HY10.out)
  have HP := Lib.hid ((hb11.block _ (heap_lt HU10.out)).trans HU10.out)
  have HQ := Lib.hid ((hb11.block _ (heap_lt HV10.out)).trans HV10.out)
  have HZ := Lib.hid hx11; have HW := Lib.hid hy11
  have HS11 := Lib.hid (pure_trans HS10.out hb11)
  have HT11 := Lib.hid (pure_trans HT10.out hb11)
  have HR1 := Lib.hid ((rdO_of_own HO1.out.own (by omega)).pure HS11.out)
  have HR2 := Lib.hid ((rdO_of_own HO2.out.own (by omega)).pure HT11.out)
  have HR3 := Lib.hid ((rdO_of_own HO3.out (by omega)).pure hb11)
  have HB11 := Lib.hid (pure_trans HB10.out hb11)
  have hz8 := HS8.out.size
  have hz10 := HT10.out.size
  have hz7 := HS7.out.size
  have hz9 := HS9.out.size
  clear hW11 hx11 hy11 hb11 HX10 HY10 HU10 HV10
  obtain ⟨x0, x1⟩ := box2 HX.out
  obtain ⟨z0, z1⟩ := box2 HZ.out
  have hxl := heap_lt HX.out; have hzl := heap_lt HZ.out
  go_wp2_with fail
  refine (refSame_any f f _ _ ops ops _ _ W11 HR1.out HR3.out).mono ?_
  rw [(sameC_iff f ops f ops).2 ⟨rfl, rfl⟩]
  rintro e w12 ⟨rfl, b12⟩
  have HX12 := Lib.hid ((b12.block _ hxl).trans HX.out)
  have HY12 := Lib.hid ((b12.block _ (heap_lt HY.out)).trans HY.out)
  have HP12 := Lib.hid ((b12.block _ (heap_lt HP.out)).trans HP.out)
  have HQ12 := Lib.hid ((b12.block _ (heap_lt HQ.out)).trans HQ.out)
  have HZ12 := Lib.hid ((b12.block _ hzl).trans HZ.out)
  have HW12 := Lib.hid ((b12.block _ (heap_lt HW.out)).trans HW.out)
  have HS12 := Lib.hid (pure_trans HS11.out b12)
  have HR2b := Lib.hid (HR2.out.pure b12)
  have HR3b := Lib.hid (HR3.out.pure b12)
  have HB12 := Lib.hid (pure_trans HB11.out b12)
  clear b12 x0 x1 z0 z1 hxl hzl HX HY HP HQ HZ HW HR1 HR2 HR3
  obtain ⟨x0, x1⟩ := box2 HX12.out
  have hxl := heap_lt HX12.out
  go_wp2_with fail
  refine (spoil_any W5.heap.size f _ ops w6 w12 HO1.out HS12.out hlen HU.out.att hlo).mono ?_
  rintro e w13 ⟨⟨N, hN0, hN1, rfl⟩, k13⟩
  have keep : ∀ q, q < w12.heap.size → w6.heap.size ≤ q → w13.heap[q]? = w12.heap[q]? := fun q h1 h2 => k13.block q h1 (fun h => by omega)
  have HY13 := Lib.hid ((keep _ (heap_lt HY12.out) (by omega)).trans HY12.out)
  have HP13 := Lib.hid ((keep _ (heap_lt HP12.out) (by omega)).trans HP12.out)
  have HQ13 := Lib.hid ((keep _ (heap_lt HQ12.out) (by omega)).trans HQ12.out)
  have HZ13 := Lib.hid ((keep _ (heap_lt HZ12.out) (by omega)).trans HZ12.out)
  have HW13 := Lib.hid ((keep _ (heap_lt HW12.out) (by omega)).trans HW12.out)
  have HR2c := Lib.hid (HR2b.out.agree (w' := w13) fun q h1 h2 => keep q h2 (by omega))
  have HR3c := Lib.hid (HR3b.out.agree (w' := w13) fun q h1 h2 => keep q h2 (by omega))
  have h5w := HB5.out.size
  have HB13 := Lib.hid (HB12.out.trans (k13.below (B := w.heap.size) (fun q h => by omega) HB12.out.size))
  clear keep k13 x0 x1 hxl HX12 HY12 HP12 HQ12 HZ12 HW12 HR2b HR3b
  obtain ⟨x0, x1⟩ := box2 HP13.out
  obtain ⟨z0, z1⟩ := box2 HZ13.out
  have hxl := heap_lt HP13.out; have hzl := heap_lt HZ13.out
  go_wp2_with fail
  refine (refSame_any f f _ _ ops ops _ _ w13 HR2c.out HR3c.out).mono ?_
  rw [(sameC_iff f ops f ops).2 ⟨rfl, rfl⟩]
  rintro e w14 ⟨rfl, b14⟩
  have HY14 := Lib.hid ((b14.block _ (heap_lt HY13.out)).trans HY13.out)
  have HQ14 := Lib.hid ((b14.block _ (heap_lt HQ13.out)).trans HQ13.out)
  have HW14 := Lib.hid ((b14.block _ (heap_lt HW13.out)).trans HW13.out)
  have HB14 := Lib.hid (pure_trans HB13.out b14)
  clear b14 x0 x1 z0 z1 hxl hzl HY13 HQ13 HW13
  obtain ⟨x0, x1⟩ := box2 HY14.out
  obtain ⟨y0, y1⟩ := box2 HQ14.out
  obtain ⟨z0, z1⟩ := box2 HW14.out
  have hl1 := heap_lt HY14.out; have hl2 := heap_lt HQ14.out; have hl3 := heap_lt HW14.out
  have hd1 : decide ((1 : Int) ≤ N) = true := decide_eq_true hN0
  go_wp2
  go_ret
  exact ⟨rfl, HB14.out⟩
end Go.Proofs.YtdpmjlkmjmookaaGreatDoor
