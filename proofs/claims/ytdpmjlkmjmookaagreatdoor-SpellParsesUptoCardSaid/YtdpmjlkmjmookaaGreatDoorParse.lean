/-
  Package spell: Parse, walked.
-/
import Derived.Test.YtdpmjlkmjmookaaGreatDoorRdd
namespace Go.Proofs.YtdpmjlkmjmookaaGreatDoor
open Go.RowKit Go.PlainAid

theorem opsF_count {n : Nat} : ∀ {l : List UInt8} {ops : List OpM}, opsF n l = .ok ops → ops.length ≤ l.length := by
  induction n with
  | zero => intro l ops h; cases h
  | succ n ih =>
    intro l ops h
    unfold opsF at h
    split at h
    · injection h with h; subst h; simp
    · split at h
      · cases h
      · rename_i o r h1
        have := opM_len h1
        split at h
        · cases h
        · rename_i os h2
          have := ih h2
          injection h with h; subst h; simp; omega
theorem rawM_count {l : List UInt8} {f : Int} {ops : List OpM} (h : rawM l = .ok (f, ops)) : ops.length ≤ l.length := by
  unfold rawM at h
  split at h
  · cases h
  · rename_i n r h1
    have := numberM_len h1
    split at h
    · cases h
    · rename_i os h2
      have := opsF_count h2
      injection h with h; injection h with h3 h4; subst h4; omega
/-- what Parse answers: the fault's code and place, and the changeset where there is none -/
def parseM (s : ByteArray) : Except (Int × Int) (Int × List OpM) :=
  if 262144 < s.size then .error (2, -1) else match rawM s.data.toList with
    | .error k => .error (40, (s.size : Int) - k)
    | .ok (f, ops) => if toE f ops ≠ 0 then .error (toE f ops, -1) else if isM f ops = false then .error (40, -1) else .ok (f, ops)
def ParsePost (s : ByteArray) (w : World) (e : Ending) (w' : World) : Prop := match parseM s with
  | .error (c, k) => e = .returned (.tuple #[.agg #[.int .i64 0, .slice none 0 0], faultV c k]) ∧ Below w.heap.size w w'
  | .ok (f, ops) => ∃ v, e = .returned (.tuple #[.agg #[.int .i64 f, v], faultV 0 0]) ∧ Below w.heap.size w w' ∧ OwnS w' w.heap.size v ops

theorem two_cells {w W : World} {a0 a1 x0 x1 : Value} {t t2 : TypeId} (hC : W.heap[w.heap.size]? = some (.cells #[a0, a1] t (0, 0))) (hF : W.heap[w.heap.size + 1]? = some (.cells #[x0, x1] t2 (0, 0))) (hb : Below w.heap.size w W) (p q x y : Value) :
    let w5 := (((W.setCell ⟨w.heap.size, 0, none⟩ p).setCell ⟨w.heap.size, 1, none⟩ q).setCell ⟨w.heap.size + 1, 0, none⟩ x).setCell ⟨w.heap.size + 1, 1, none⟩ y
    w5.heap[w.heap.size]? = some (.cells #[p, q] t (0, 0)) ∧ w5.heap[w.heap.size + 1]? = some (.cells #[x, y] t2 (0, 0)) ∧ Below w.heap.size w w5 ∧ ∀ k, w.heap.size + 2 ≤ k → w5.heap[k]? = W.heap[k]? := by
  intro w5
  have hne : w.heap.size ≠ w.heap.size + 1 := by omega
  refine ⟨?_, ?_, ?_, fun k hk => ?_⟩
  · show ((((W.setCell ⟨w.heap.size, 0, none⟩ p).setCell ⟨w.heap.size, 1, none⟩ q).setCell ⟨w.heap.size + 1, 0, none⟩ x).setCell ⟨w.heap.size + 1, 1, none⟩ y).heap[w.heap.size]? = _
    rw [Below.heap_setCell _ ⟨w.heap.size + 1, 1, none⟩ _ _ hne, Below.heap_setCell _ ⟨w.heap.size + 1, 0, none⟩ _ _ hne]
    exact set_heap1 (set_heap hC _) _
  · refine set_heap1 (a := x) (b := x1) (set_heap (a := x0) (b := x1) ?_ _) _
    rw [Below.heap_setCell _ ⟨w.heap.size, 1, none⟩ _ _ hne.symm, Below.heap_setCell _ ⟨w.heap.size, 0, none⟩ _ _ hne.symm]; exact hF
  · exact (((hb.setCell (p := ⟨w.heap.size, 0, none⟩) (Nat.le_refl _) _).setCell (p := ⟨w.heap.size, 1, none⟩) (Nat.le_refl _) _).setCell (p := ⟨w.heap.size + 1, 0, none⟩) (by simp) _).setCell (p := ⟨w.heap.size + 1, 1, none⟩) (by simp) _
  · show ((((W.setCell ⟨w.heap.size, 0, none⟩ p).setCell ⟨w.heap.size, 1, none⟩ q).setCell ⟨w.heap.size + 1, 0, none⟩ x).setCell ⟨w.heap.size + 1, 1, none⟩ y).heap[k]? = _
    rw [Below.heap_setCell _ ⟨w.heap.size + 1, 1, none⟩ _ _ (by show k ≠ w.heap.size + 1; omega), Below.heap_setCell _ ⟨w.heap.size + 1, 0, none⟩ _ _ (by show k ≠ w.heap.size + 1; omega), Below.heap_setCell _ ⟨w.heap.size, 1, none⟩ _ _ (by show k ≠ w.heap.size; omega), Below.heap_setCell _ ⟨w.heap.size, 0, none⟩ _ _ (by show k ≠ w.heap.size; omega)]

set_option maxRecDepth 100000 in
set_option maxHeartbeats 4000000 in
theorem parse_any (s : ByteArray) (w : World) (hs : s.size ≤ 16777216) (hT : Tabs w) :
    Calls Tryz.prog 18 #[.string s] w (ParsePost s w) := by
  by_cases hbig : 262144 < s.size
  · have hM : parseM s = .error (2, -1) := by unfold parseM; rw [if_pos hbig]
    have HM := Lib.hid hM; clear hM
    have hd : decide ((262144 : Int) < (s.size : Int)) = true := by simp; omega
    go_enter Tryz.func18, Tryz.ntmps18
    go_wp2_with fail
    have hC1 : ((w.alloc (.cells #[.int .i64 0, .slice none 0 0] 24)).alloc (.cells #[.int .i64 2, .int .i64 (-1)] 32)).heap[w.heap.size]? = some (.cells #[.int .i64 0, .slice none 0 0] 24 (0, 0)) := by
      rw [Below.heap_alloc _ _ _ (by simp)]; exact heap_alloc_new w _
    have hF1 : ((w.alloc (.cells #[.int .i64 0, .slice none 0 0] 24)).alloc (.cells #[.int .i64 2, .int .i64 (-1)] 32)).heap[w.heap.size + 1]? = some (.cells #[.int .i64 2, .int .i64 (-1)] 32 (0, 0)) := by
      have := heap_alloc_new (w.alloc (.cells #[.int .i64 0, .slice none 0 0] 24)) (.cells #[.int .i64 2, .int .i64 (-1)] 32); simpa using this
    obtain ⟨q0, q1⟩ := box2 hC1
    obtain ⟨q2, q3⟩ := box2 hF1
    refine bodyPost_ret (v := .tuple #[.agg #[.int .i64 0, .slice none 0 0], faultV 2 (-1)]) (by simp [results, Tryz.results18, go_sem, faultV, q0, q1, q2, q3]) rfl ?_
    unfold ParsePost; rw [HM.out]
    exact ⟨rfl, ((Below.refl _ w).alloc (Nat.le_refl _) _).alloc (by simp) _⟩
  · have hM : parseM s = match rawM s.data.toList with
      | .error k => .error (40, (s.size : Int) - k)
      | .ok (f, ops) => if toE f ops ≠ 0 then .error (toE f ops, -1) else if isM f ops = false then .error (40, -1) else .ok (f, ops) := by unfold parseM; rw [if_neg hbig]
    have HM := Lib.hid hM; clear hM
    have hd : decide ((262144 : Int) < (s.size : Int)) = false := by simp; omega
    go_enter Tryz.func18, Tryz.ntmps18
    go_wp2_with fail
    obtain ⟨W1, hW1⟩ : ∃ W1, (w.alloc (.cells #[.int .i64 0, .slice none 0 0] 24)).alloc (.cells #[.int .i64 0, .int .i64 0] 32) = W1 := ⟨_, rfl⟩
    have hb1 : Below w.heap.size w W1 := by rw [← hW1]; exact ((Below.refl _ w).alloc (Nat.le_refl _) _).alloc (by simp) _
    have hs1 : W1.heap.size = w.heap.size + 2 := by rw [← hW1]; simp
    have hC1 : W1.heap[w.heap.size]? = some (.cells #[.int .i64 0, .slice none 0 0] 24 (0, 0)) := by
      rw [← hW1, Below.heap_alloc _ _ _ (by simp)]; exact heap_alloc_new w _
    have hF1 : W1.heap[w.heap.size + 1]? = some (.cells #[.int .i64 0, .int .i64 0] 32 (0, 0)) := by
      rw [← hW1]; have := heap_alloc_new (w.alloc (.cells #[.int .i64 0, .slice none 0 0] 24)) (.cells #[.int .i64 0, .int .i64 0] 32); simpa using this
    try rw [hW1]
    clear hW1
    refine (raw_any s W1 hs).mono ?_
    intro e w2 hp
    cases hr : rawM s.data.toList with
    | error k =>
      unfold RawPost at hp; rw [hr] at hp
      obtain ⟨rfl, hb2⟩ := hp
      rw [hr] at HM
      have hbw := hb1.trans (hb2.mono (by omega))
      have hC2 := (hb2.block _ (by omega)).trans hC1
      have hF2 := (hb2.block _ (by omega)).trans hF1
      have hs2 := hb2.size
      unfold faultV
      have hbw3 : Below w.heap.size w ((w2.alloc (.cells #[.int .i64 0, .slice none 0 0] 24)).alloc (.cells #[.int .i64 40, .int .i64 ((s.size : Int) - k)] 32)) := (hbw.alloc hbw.size _).alloc (by simp; omega) _
      have hC3 : ((w2.alloc (.cells #[.int .i64 0, .slice none 0 0] 24)).alloc (.cells #[.int .i64 40, .int .i64 ((s.size : Int) - k)] 32)).heap[w.heap.size]? = some (.cells #[.int .i64 0, .slice none 0 0] 24 (0, 0)) := by
        rw [Below.heap_alloc _ _ _ (by simp; omega), Below.heap_alloc _ _ _ (by omega)]; exact hC2
      have hF3 : ((w2.alloc (.cells #[.int .i64 0, .slice none 0 0] 24)).alloc (.cells #[.int .i64 40, .int .i64 ((s.size : Int) - k)] 32)).heap[w.heap.size + 1]? = some (.cells #[.int .i64 0, .int .i64 0] 32 (0, 0)) := by
        rw [Below.heap_alloc _ _ _ (by simp; omega), Below.heap_alloc _ _ _ (by omega)]; exact hF2
      have hN3 : ((w2.alloc (.cells #[.int .i64 0, .slice none 0 0] 24)).alloc (.cells #[.int .i64 40, .int .i64 ((s.size : Int) - k)] 32)).heap[w2.heap.size + 1]? = some (.cells #[.int .i64 40, .int .i64 ((s.size : Int) - k)] 32 (0, 0)) := by
        have := heap_alloc_new (w2.alloc (.cells #[.int .i64 0, .slice none 0 0] 24)) (.cells #[.int .i64 40, .int .i64 ((s.size : Int) - k)] 32); simpa using this
      obtain ⟨z1, z2, z3, _⟩ := two_cells hC3 hF3 hbw3 (.int .i64 0) (.slice none 0 0) (.int .i64 40) (.int .i64 ((s.size : Int) - k))
      have Z1 := Lib.hid z1; have Z2 := Lib.hid z2; have Z3 := Lib.hid z3
      obtain ⟨c0, c1⟩ := box2 hC3
      obtain ⟨d0, d1⟩ := box2 hF3
      obtain ⟨n0, n1⟩ := box2 hN3
      have fc0 := froz_heap hC3 0; have fc1 := froz_heap hC3 1
      have ff0 := froz_heap hF3 0; have ff1 := froz_heap hF3 1
      clear z1 z2 z3 hC1 hF1 hC2 hF2 hr
      obtain ⟨W3, hW3⟩ : ∃ W3, (w2.alloc (.cells #[.int .i64 0, .slice none 0 0] 24)).alloc (.cells #[.int .i64 40, .int .i64 ((s.size : Int) - k)] 32) = W3 := ⟨_, rfl⟩
      rw [hW3] at Z1 Z2 Z3 c0 c1 d0 d1 n0 n1 fc0 fc1 ff0 ff1 hC3 hF3
      have hl0 := heap_lt hC3; have hl1 := heap_lt hF3
      clear hC3 hF3 hN3 hbw3
      go_wp2_with fail
      try rw [hW3]
      clear hW3
      go_region
      all_goals
        try go_wp2
        obtain ⟨q0, q1⟩ := box2 Z1.out
        obtain ⟨q2, q3⟩ := box2 Z2.out
        refine bodyPost_ret (v := .tuple #[.agg #[.int .i64 0, .slice none 0 0], faultV 40 ((s.size : Int) - k)]) (by simp [results, Tryz.results18, go_sem, faultV, q0, q1, q2, q3]) rfl ?_
        unfold ParsePost; rw [HM.out]
        exact ⟨rfl, Z3.out.drew⟩
    | ok p =>
      obtain ⟨f, ops⟩ := p
      unfold RawPost at hp; rw [hr] at hp
      obtain ⟨v, rfl, hb2, hO2⟩ := hp
      have hcnt := rawM_count hr
      have hsl : s.data.toList.length = s.size := len_data s
      rw [hr] at HM
      dsimp only at HM
      have hbw := hb1.trans (hb2.mono (by omega))
      have hC2 := (hb2.block _ (by omega)).trans hC1
      have hF2 := (hb2.block _ (by omega)).trans hF1
      have hs2 := hb2.size
      have hR2 := rdO_of_own hO2.own (by omega)
      obtain ⟨BB, nn, dap, rfl⟩ : ∃ BB nn dap, v = .slice BB nn dap := by
        obtain ⟨A, cap, e, _⟩ := hR2.open_
        exact ⟨_, _, _, e⟩
      have hb23 : Below w2.heap.size w2 ((w2.alloc (.cells #[.int .i64 f, .slice BB nn dap] 24)).alloc (.cells #[.int .i64 0, .int .i64 0] 32)) := ((Below.refl _ w2).alloc (Nat.le_refl _) _).alloc (by simp) _
      have hN3 : ((w2.alloc (.cells #[.int .i64 f, .slice BB nn dap] 24)).alloc (.cells #[.int .i64 0, .int .i64 0] 32)).heap[w2.heap.size + 1]? = some (.cells #[.int .i64 0, .int .i64 0] 32 (0, 0)) := by
        have := heap_alloc_new (w2.alloc (.cells #[.int .i64 f, .slice BB nn dap] 24)) (.cells #[.int .i64 0, .int .i64 0] 32); simpa using this
      have hM3 : ((w2.alloc (.cells #[.int .i64 f, .slice BB nn dap] 24)).alloc (.cells #[.int .i64 0, .int .i64 0] 32)).heap[w2.heap.size]? = some (.cells #[.int .i64 f, .slice BB nn dap] 24 (0, 0)) := by
        rw [Below.heap_alloc _ _ _ (by simp)]; exact heap_alloc_new w2 _
      obtain ⟨W3, hW3⟩ : ∃ W3, (w2.alloc (.cells #[.int .i64 f, .slice BB nn dap] 24)).alloc (.cells #[.int .i64 0, .int .i64 0] 32) = W3 := ⟨_, rfl⟩
      rw [hW3] at hb23 hN3 hM3
      have hC3 := (hb23.block _ (by omega)).trans hC2
      have hF3 := (hb23.block _ (by omega)).trans hF2
      have hbw3 := hbw.trans (hb23.mono hbw.size)
      have hR3 := hR2.pure hb23
      have HT3 := hT.pure hbw3
      have HR3 := Lib.hid hR3
      have HO2 := Lib.hid hO2
      obtain ⟨m0, m1⟩ := box2 hM3
      obtain ⟨n0, n1⟩ := box2 hN3
      have HM3 := Lib.hid hM3
      have hlm := heap_lt hM3; have hln := heap_lt hN3
      unfold faultV
      have HW3 := Lib.hid hW3
      clear hr hC1 hF1 hR2 hR3 hM3 hN3 hO2 hC2 hF2 hW3
      have N3 := Lib.hid n0
      clear m0 m1 n0 n1
      go_upto_region 4 with fail
      rw [HW3.out]
      have n0 := N3.out
      obtain ⟨m0, m1⟩ := box2 HM3.out
      go_wp2_with fail
      refine (right_any f _ ops _ W3 HR3.out HT3).mono ?_
      rintro e w4 ⟨rfl, hb4⟩
      have hC4 := (hb4.block _ (heap_lt hC3)).trans hC3
      have hF4 := (hb4.block _ (heap_lt hF3)).trans hF3
      have hbw4 := hbw3.trans (hb4.mono hbw3.size)
      have hM4 := (hb4.block _ hlm).trans HM3.out
      by_cases he : toE f ops = 0
      · have heb : (toE f ops == 0) = true := by simpa using he
        rw [he]
        rw [if_neg (by rw [he]; simp)] at HM
        clear he heb
        obtain ⟨o0, o1⟩ := box2 hM4
        have hlm4 := heap_lt hM4
        go_wp2_with fail
        refine (is_any f _ ops _ w4 (HR3.out.pure hb4) (HT3.pure hb4)).mono ?_
        rintro e w5 ⟨rfl, hb5⟩
        have hC5 := (hb5.block _ (heap_lt hC4)).trans hC4
        have hF5 := (hb5.block _ (heap_lt hF4)).trans hF4
        have hbw5 := hbw4.trans (hb5.mono hbw4.size)
        have hM5 := (hb5.block _ hlm4).trans hM4
        obtain ⟨r0, r1⟩ := box2 hM5
        have hlm5 := heap_lt hM5
        cases hi : isM f ops with
        | false =>
          rw [if_pos hi] at HM
          have HH := HM
          obtain ⟨z1, z2, z3, z4⟩ := two_cells hC5 hF5 hbw5 (.int .i64 0) (.slice none 0 0) (.int .i64 40) (.int .i64 (-1))
          have Z1 := Lib.hid z1; have Z2 := Lib.hid z2; have Z3 := Lib.hid z3; have Z4 := Lib.hid z4
          clear z1 z2 z3 z4
          obtain ⟨c0, c1⟩ := box2 hC5
          obtain ⟨d0, d1⟩ := box2 hF5
          have fc0 := froz_heap hC5 0; have fc1 := froz_heap hC5 1
          have ff0 := froz_heap hF5 0; have ff1 := froz_heap hF5 1
          have hl0 := heap_lt hC5; have hl1 := heap_lt hF5
          clear hC5 hF5 hM5
          go_wp2
          obtain ⟨q0, q1⟩ := box2 Z1.out
          obtain ⟨q2, q3⟩ := box2 Z2.out
          refine bodyPost_ret (v := .tuple #[.agg #[.int .i64 0, .slice none 0 0], faultV 40 (-1)]) (by simp [results, Tryz.results18, go_sem, faultV, q0, q1, q2, q3]) rfl ?_
          unfold ParsePost; rw [HH.out]
          exact ⟨rfl, Z3.out⟩
        | true =>
          rw [if_neg (by rw [hi]; simp)] at HM
          have HH := HM
          obtain ⟨z1, z2, z3, z4⟩ := two_cells hC5 hF5 hbw5 (.int .i64 f) (.slice BB nn dap) (.int .i64 0) (.int .i64 0)
          have Z1 := Lib.hid z1; have Z2 := Lib.hid z2; have Z3 := Lib.hid z3; have Z4 := Lib.hid z4
          clear z1 z2 z3 z4
          obtain ⟨c0, c1⟩ := box2 hC5
          obtain ⟨d0, d1⟩ := box2 hF5
          have fc0 := froz_heap hC5 0; have fc1 := froz_heap hC5 1
          have ff0 := froz_heap hF5 0; have ff1 := froz_heap hF5 1
          have hl0 := heap_lt hC5; have hl1 := heap_lt hF5
          have hO5 : OwnS w5 W1.heap.size (.slice BB nn dap) ops := HO2.out.agree (fun k hk => by
              have := (HO2.out.lt k hk).2
              exact (hb5.block k (by omega)).trans ((hb4.block k (by omega)).trans (hb23.block k this)))
            (fun k _ hk => by
              obtain ⟨c, fz, hc⟩ := hk
              have := heap_lt hc
              exact (hb5.block k (by omega)).trans ((hb4.block k (by omega)).trans (hb23.block k this)))
          have HO5 := Lib.hid hO5
          clear hC5 hF5 hM5 hO5
          go_wp2
          obtain ⟨q0, q1⟩ := box2 Z1.out
          obtain ⟨q2, q3⟩ := box2 Z2.out
          refine bodyPost_ret (v := .tuple #[.agg #[.int .i64 f, .slice BB nn dap], faultV 0 0]) (by simp [results, Tryz.results18, go_sem, faultV, q0, q1, q2, q3]) rfl ?_
          unfold ParsePost; rw [HH.out]
          refine ⟨_, rfl, Z3.out, ?_⟩
          have h1 := HO5.out.agree (fun k hk => Z4.out k (by have := (HO5.out.lt k hk).1; omega)) (fun k hk _ => Z4.out k (by omega))
          exact h1.lo (by omega)
      · have heb : (toE f ops == 0) = false := by simpa using he
        rw [if_pos he] at HM
        have HH := HM
        obtain ⟨z1, z2, z3, z4⟩ := two_cells hC4 hF4 hbw4 (.int .i64 0) (.slice none 0 0) (.int .i64 (toE f ops)) (.int .i64 (-1))
        have Z1 := Lib.hid z1; have Z2 := Lib.hid z2; have Z3 := Lib.hid z3; have Z4 := Lib.hid z4
        clear z1 z2 z3 z4
        obtain ⟨c0, c1⟩ := box2 hC4
        obtain ⟨d0, d1⟩ := box2 hF4
        have fc0 := froz_heap hC4 0; have fc1 := froz_heap hC4 1
        have ff0 := froz_heap hF4 0; have ff1 := froz_heap hF4 1
        have hl0 := heap_lt hC4; have hl1 := heap_lt hF4
        clear hC4 hF4 hM4 he
        go_wp2
        obtain ⟨q0, q1⟩ := box2 Z1.out
        obtain ⟨q2, q3⟩ := box2 Z2.out
        refine bodyPost_ret (v := .tuple #[.agg #[.int .i64 0, .slice none 0 0], faultV (toE f ops) (-1)]) (by simp [results, Tryz.results18, go_sem, faultV, q0, q1, q2, q3]) rfl ?_
        unfold ParsePost; rw [HH.out]
        exact ⟨rfl, Z3.out⟩
end Go.Proofs.YtdpmjlkmjmookaaGreatDoor
