/-
  The references' changesets that may be: measure, Right (blotterref03), walked: as the program's.
-/
import Derived.Test.YtdpmjlkmjmookaaGreatDoorRefTo
namespace Go.Proofs.YtdpmjlkmjmookaaGreatDoor
open Go.RowKit Go.PlainAid

theorem changeE_two (l : List At) : changeE l = 0 ∨ changeE l = 20 := by unfold changeE; split <;> simp
theorem rightE_two (l : List At) : rightE l = 0 ∨ rightE l = 20 := by
  unfold rightE; split
  · exact .inr rfl
  · exact changeE_two l
theorem toFold_end {f : Int} {ops : List OpM} {k : Nat} {left n : Int} (hk : k < ops.length) (h : toFold f (ops.take k) = ⟨left, n, 0⟩) (hf : 0 ≤ f ∧ f ≤ 20000) (hl : ops.length ≤ 2000) {e : Int} (he : oneE ops[k] left = e) (h0 : e ≠ 0) : toE f ops = e ∧ toN f ops = 0 := by
  have hn2 : toFold f ops = ⟨left, n, oneE ops[k] left⟩ := by
    have h2 : toFold f (ops.take (k + 1)) = ⟨left, n, oneE ops[k] left⟩ := by rw [toFold_snoc f ops k hk, h]; simp [toStep, he, h0]
    rw [toFold_bad f ops (k + 1) (by rw [h2]; show oneE ops[k] left ≠ 0; rw [he]; exact h0), h2]
  have hte : toE f ops = e := by
    unfold toE; rw [if_neg (by omega), if_neg (by omega), hn2, if_pos (by show oneE ops[k] left ≠ 0; rw [he]; exact h0)]; exact he
  exact ⟨hte, by unfold toN; rw [hte, if_pos h0]⟩
theorem toFold_next {f : Int} {ops : List OpM} {k : Nat} {left n : Int} (hk : k < ops.length) (h : toFold f (ops.take k) = ⟨left, n, 0⟩) (he : oneE ops[k] left = 0) : toFold f (ops.take (k + 1)) = ⟨left - oneTook ops[k] left, n + oneMore ops[k] left, 0⟩ := by
  rw [toFold_snoc f ops k hk, h]; simp [toStep, he]

set_option maxHeartbeats 8000000 in
set_option maxRecDepth 100000 in
theorem refMeasure_any (f : Int) (v : Value) (ops : List OpM) (F : Nat → Prop) (w : World) (h : RdO w F v ops) :
    Calls Tryz.prog 91 #[.agg #[.int .i64 f, v]] w fun e w' => e = .returned (.tuple #[.int .i64 (toN f ops), .int .i64 (toE f ops)]) ∧ Below w.heap.size w w' := by
  obtain ⟨A, cap, rfl, hc, hcm, hm, hcell⟩ := h.open_
  have H := Lib.hid h; clear h
  have HC := Lib.hid hcell; clear hcell
  have FIN : ∀ (a b a' b' : Int), toN f ops = a' → toE f ops = b' → a = a' → b = b' → Ending.returned (.tuple #[.int .i64 a, .int .i64 b]) = .returned (.tuple #[.int .i64 (toN f ops), .int .i64 (toE f ops)]) := by
    intro a b a' b' h1 h2 h4 h5; rw [h1, h2, h4, h5]
  have HF := Lib.hid FIN; clear FIN
  have hB : Below w.heap.size w (w.alloc (.cells #[.int .i64 f, .slice A ops.length cap] 24)) := (Below.refl _ w).alloc (Nat.le_refl _) _
  have hbc : (w.alloc (.cells #[.int .i64 f, .slice A ops.length cap] 24)).heap[w.heap.size]? = some (.cells #[.int .i64 f, .slice A ops.length cap] 24 (0, 0)) := heap_alloc_new w _
  have HBC := Lib.hid hbc; clear hbc
  by_cases f0 : f < 0
  · have he : toE f ops = 31 := by unfold toE; rw [if_pos (Or.inl f0)]
    have HE := Lib.hid he; clear he
    have d0 : decide (f < 0) = true := decide_eq_true f0
    go_enter Tryz.func91, Tryz.ntmps91
    go_wp2
    go_ret2
    exact ⟨HF.out _ _ 0 31 (by unfold toN; rw [HE.out]; rfl) HE.out rfl rfl, hB⟩
  have d0 : decide (f < 0) = false := decide_eq_false f0
  by_cases f1 : 20000 < f
  · have he : toE f ops = 31 := by unfold toE; rw [if_pos (Or.inr f1)]
    have HE := Lib.hid he; clear he
    have d1 : decide ((20000 : Int) < f) = true := decide_eq_true f1
    go_enter Tryz.func91, Tryz.ntmps91
    go_wp2
    go_ret2
    exact ⟨HF.out _ _ 0 31 (by unfold toN; rw [HE.out]; rfl) HE.out rfl rfl, hB⟩
  have d1 : decide ((20000 : Int) < f) = false := decide_eq_false f1
  by_cases hl : 2000 < ops.length
  · have he : toE f ops = 2 := by unfold toE; rw [if_neg (by omega), if_pos hl]
    have HE := Lib.hid he; clear he
    have d2 : decide ((2000 : Int) < (ops.length : Int)) = true := decide_eq_true (by omega)
    go_enter Tryz.func91, Tryz.ntmps91
    go_wp2
    go_ret2
    exact ⟨HF.out _ _ 0 2 (by unfold toN; rw [HE.out]; rfl) HE.out rfl rfl, hB⟩
  have d2 : decide ((2000 : Int) < (ops.length : Int)) = false := decide_eq_false (by omega)
  have HFF := Lib.hid (show 0 ≤ f ∧ f ≤ 20000 by omega)
  go_enter Tryz.func91, Tryz.ntmps91
  go_wp2
  go_loopw [7, 4, 5, 6] (fun i a b c wr => ∃ (k : Nat) (left gone inn : Int), k ≤ ops.length ∧ i = .int .i64 k ∧ a = .int .i64 left ∧ b = .int .i64 gone ∧ c = .int .i64 inn ∧ Below w.heap.size w wr ∧ wr.heap[w.heap.size]? = some (.cells #[.int .i64 f, .slice A ops.length cap] 24 (0, 0)) ∧ 0 ≤ left ∧ 0 ≤ gone ∧ left + gone ≤ f ∧ 0 ≤ inn ∧ inn ≤ 20000 * k ∧ toFold f (ops.take k) = ⟨left, f - gone + inn, 0⟩) (fun i _ _ _ _ => ops.length - (intOf i).toNat)
  case atStart => exact ⟨0, f, 0, 0, by omega, rfl, rfl, rfl, rfl, hB, HBC.out, HFF.out.1, by omega, by omega, by omega, by simp, by simp [toFold]⟩
  case round =>
    obtain ⟨k, left, gone, inn, hk, rfl, rfl, rfl, rfl, hb, hbc, hl0, hg0, hlg, hi0, hi1, hf⟩ := hrel
    have HFO := Lib.hid hf; clear hf
    have HBC2 := Lib.hid hbc
    obtain ⟨q0, q1⟩ := box2 hbc
    clear hbc
    have hi2 : inn ≤ 40000000 := by omega
    by_cases hlt : k < ops.length
    · obtain ⟨b, off, rfl, hFb⟩ := HC.out (by omega)
      have hdk : decide ((k : Int) < (ops.length : Int)) = true := decide_eq_true (by omega)
      have hrd := H.out.pure hb
      obtain ⟨va, c0, c1, c2, c3, hva⟩ := hrd.at_ k hlt
      obtain ⟨A2, cap2, rfl, _, _, _, _⟩ := hva.open_
      have HVA := Lib.hid hva; clear hva hrd
      have hbl : b < wr.heap.size := World.block_lt_of_cell? wr _ c0
      have hts := (H.out.elem _ (List.getElem_mem hlt)).1
      have hB2 : Below wr.heap.size wr (wr.alloc (.cells #[.int .i64 ops[k].kind, .int .i64 ops[k].n, .string ops[k].text, .slice A2 ops[k].attrs.length cap2] 48)) := (Below.refl _ wr).alloc (Nat.le_refl _) _
      have hbx2 : (wr.alloc (.cells #[.int .i64 ops[k].kind, .int .i64 ops[k].n, .string ops[k].text, .slice A2 ops[k].attrs.length cap2] 48)).heap[wr.heap.size]? = some (.cells #[.int .i64 ops[k].kind, .int .i64 ops[k].n, .string ops[k].text, .slice A2 ops[k].attrs.length cap2] 48 (0, 0)) := heap_alloc_new wr _
      have hbb := hb.trans (hB2.mono hb.size)
      have HSE := Lib.hid (fun (e : Int) (he : oneE ops[k] left = e) (h0 : e ≠ 0) => toFold_end hlt HFO.out HFF.out (by omega) he h0)
      have HSN := Lib.hid (fun (he : oneE ops[k] left = 0) => toFold_next hlt HFO.out he)
      have HB2 := Lib.hid hB2; clear hB2
      have HBX := Lib.hid hbx2; clear hbx2
      have hVA2 := HVA.out.pure HB2.out
      have HV2 := Lib.hid hVA2; clear hVA2
      go_wp2_with fail
      refine (refFormed_any ops[k] _ F _ HV2.out).mono ?_
      rintro e w1 ⟨rfl, h1⟩
      have hb1 := pure_trans hbb h1
      have hbx1 := (h1.block _ (heap_lt HBX.out)).trans HBX.out
      have hbc1 := (h1.block _ (by have := heap_lt HBC2.out; simp; omega)).trans ((HB2.out.block _ (heap_lt HBC2.out)).trans HBC2.out)
      have HV3 := Lib.hid (HV2.out.pure h1)
      clear h1 q0 q1 c0 c1 c2 c3
      obtain ⟨x0, x1, x2, x3⟩ := box4 hbx1
      have hxl := heap_lt hbx1
      cases hs : shapedB ops[k] with
      | false =>
        have hone : oneE ops[k] left = 30 := by unfold oneE; simp [hs]
        obtain ⟨t1, t2⟩ := HSE.out 30 hone (by omega)
        have T1 := Lib.hid t1; have T2 := Lib.hid t2
        clear t1 t2 hone hs hbx1 hbc1
        go_wp2
        go_ret2
        exact ⟨HF.out _ _ 0 30 T2.out T1.out rfl rfl, hb1⟩
      | true =>
        have HS := Lib.hid hs; clear hs
        have HBX1 := Lib.hid hbx1; have HBC1 := Lib.hid hbc1
        clear hbx1 hbc1
        by_cases k2 : ops[k].kind = 2
        · have k2' : (ops[k].kind == 2) = true := by simpa using k2
          have K2 := Lib.hid k2; clear k2
          go_wp2_with fail
          refine (refCount_any ops[k].text _ hts).mono ?_
          rintro e w2 ⟨rfl, h2⟩
          have hb2 := pure_trans hb1 h2
          have HBX2 := Lib.hid ((h2.block _ (heap_lt HBX1.out)).trans HBX1.out)
          have HBC3 := Lib.hid ((h2.block _ (heap_lt HBC1.out)).trans HBC1.out)
          have HV4 := Lib.hid (HV3.out.pure h2)
          clear x0 x1 x2 x3 h2
          obtain ⟨x0, x1, x2, x3⟩ := box4 HBX2.out
          have hxl2 := heap_lt HBX2.out
          rcases cnt_cases ops[k].text with ⟨hce, hc0, hc1⟩ | ⟨hce, hcn⟩
          · have HCE := Lib.hid hce
            rw [hce]
            clear hce
            go_wp2_with fail
            refine (refRightA_any _ ops[k].attrs F _ HV4.out).mono ?_
            rintro e w3 ⟨rfl, h3⟩
            have hb3 := pure_trans hb2 h3
            have HBC4 := (h3.block _ (heap_lt HBC3.out)).trans HBC3.out
            have HBC5 := Lib.hid HBC4; clear HBC4 x0 x1 x2 x3 h3
            rcases rightE_two ops[k].attrs with hre | hre
            · have hone : oneE ops[k] left = 0 := by unfold oneE; simp [HS.out, K2.out, HCE.out, hre]
              have hso := HSN.out hone
              have ht1 : oneTook ops[k] left = 0 := by unfold oneTook; simp [HS.out, K2.out]
              have ht2 : oneMore ops[k] left = cntN ops[k].text := by unfold oneMore; simp [HS.out, K2.out]
              rw [ht1, ht2] at hso
              have HSO := Lib.hid hso
              rw [hre]
              clear hso ht1 ht2 hone hre
              generalize cntN ops[k].text = cn at *
              go_wp2
              exact ⟨⟨k + 1, left, gone, inn + cn, by omega, by go_num, rfl, rfl, rfl, hb3, HBC5.out, hl0, hg0, hlg, by omega, by omega, by rw [HSO.out]; congr 1 <;> omega⟩, by simp [intOf]; omega⟩
            · have hone : oneE ops[k] left = 20 := by unfold oneE; simp [HS.out, K2.out, HCE.out, hre]
              obtain ⟨t1, t2⟩ := HSE.out 20 hone (by omega)
              have T1 := Lib.hid t1; have T2 := Lib.hid t2
              rw [hre]
              clear t1 t2 hone hre
              go_wp2
              go_ret2
              exact ⟨HF.out _ _ 0 20 T2.out T1.out rfl rfl, hb3⟩
          · have hone : oneE ops[k] left = 10 := by unfold oneE; simp [HS.out, K2.out, hce]
            obtain ⟨t1, t2⟩ := HSE.out 10 hone (by omega)
            have T1 := Lib.hid t1; have T2 := Lib.hid t2
            rw [hce, hcn]
            clear t1 t2 hone hce hcn
            go_wp2
            go_ret2
            exact ⟨HF.out _ _ 0 10 T2.out T1.out rfl rfl, hb2⟩
        · have k2' : (ops[k].kind == 2) = false := by simpa using k2
          have K2 := Lib.hid k2; clear k2
          go_wp2_with fail
          refine (refChange_any _ ops[k].attrs F _ HV3.out).mono ?_
          rintro e w2 ⟨rfl, h2⟩
          have hb2 := pure_trans hb1 h2
          have HBX2 := Lib.hid ((h2.block _ (heap_lt HBX1.out)).trans HBX1.out)
          have HBC3 := Lib.hid ((h2.block _ (heap_lt HBC1.out)).trans HBC1.out)
          clear x0 x1 x2 x3 h2
          obtain ⟨x0, x1, x2, x3⟩ := box4 HBX2.out
          rcases changeE_two ops[k].attrs with hce | hce
          · have HCE := Lib.hid hce
            rw [hce]
            clear hce
            have hp : 0 < ops[k].n := by
              have h1 := HS.out
              have hk2 := K2.out
              unfold shapedB at h1
              rw [if_neg hk2] at h1
              split at h1
              · simp only [Bool.and_eq_true, decide_eq_true_eq] at h1; exact h1.1.1
              · simp only [Bool.and_eq_true, decide_eq_true_eq] at h1; exact h1.1.2
            by_cases hn : left < ops[k].n
            · have hone : oneE ops[k] left = 31 := by unfold oneE; simp [HS.out, K2.out, HCE.out, hn]
              obtain ⟨t1, t2⟩ := HSE.out 31 hone (by omega)
              have T1 := Lib.hid t1; have T2 := Lib.hid t2
              have dn : decide (left < ops[k].n) = true := decide_eq_true hn
              clear t1 t2 hone
              go_wp2
              go_ret2
              exact ⟨HF.out _ _ 0 31 T2.out T1.out rfl rfl, hb2⟩
            · have hone : oneE ops[k] left = 0 := by unfold oneE; simp [HS.out, K2.out, HCE.out, hn]
              have hso := HSN.out hone
              have ht1 : oneTook ops[k] left = ops[k].n := by unfold oneTook; simp [HS.out, K2.out, HCE.out, hn]
              have dn : decide (left < ops[k].n) = false := decide_eq_false hn
              by_cases k3 : ops[k].kind = 3
              · have ht2 : oneMore ops[k] left = -ops[k].n := by unfold oneMore; simp [HS.out, HCE.out, hn, k3]
                have k3' : (ops[k].kind == 3) = true := by simpa using k3
                rw [ht1, ht2] at hso
                have HSO := Lib.hid hso
                clear hso ht1 ht2 hone k3
                go_wp2
                exact ⟨⟨k + 1, left - ops[k].n, gone + ops[k].n, inn, by omega, by go_num, rfl, rfl, rfl, hb2, HBC3.out, by omega, by omega, by omega, hi0, by omega, by rw [HSO.out]; congr 1 <;> omega⟩, by simp [intOf]; omega⟩
              · have ht2 : oneMore ops[k] left = 0 := by unfold oneMore; simp [HS.out, K2.out, HCE.out, hn, k3]
                have k3' : (ops[k].kind == 3) = false := by simpa using k3
                rw [ht1, ht2] at hso
                have HSO := Lib.hid hso
                clear hso ht1 ht2 hone k3
                go_wp2
                exact ⟨⟨k + 1, left - ops[k].n, gone, inn, by omega, by go_num, rfl, rfl, rfl, hb2, HBC3.out, by omega, by omega, by omega, hi0, by omega, by rw [HSO.out]; congr 1 <;> omega⟩, by simp [intOf]; omega⟩
          · have hone : oneE ops[k] left = 20 := by unfold oneE; simp [HS.out, K2.out, hce]
            obtain ⟨t1, t2⟩ := HSE.out 20 hone (by omega)
            have T1 := Lib.hid t1; have T2 := Lib.hid t2
            rw [hce]
            clear t1 t2 hone hce
            go_wp2
            go_ret2
            exact ⟨HF.out _ _ 0 20 T2.out T1.out rfl rfl, hb2⟩
    · have hdk : decide ((k : Int) < (ops.length : Int)) = false := decide_eq_false (by omega)
      have hall : toFold f ops = ⟨left, f - gone + inn, 0⟩ := by rw [← HFO.out, List.take_of_length_le (by omega)]
      have HALL := Lib.hid hall; clear hall
      have hlc := heap_lt HBC2.out
      by_cases hbig : 20000 < f - gone + inn
      · have hte : toE f ops = 3 := by unfold toE; rw [if_neg (by have := HFF.out; omega), if_neg (by omega), HALL.out]; simp [hbig]
        have HTE := Lib.hid hte
        have HTN := Lib.hid (show toN f ops = 0 by unfold toN; rw [hte]; rfl)
        have db : decide ((20000 : Int) < f - gone + inn) = true := decide_eq_true hbig
        clear hte
        go_wp2
        go_ret2
        exact ⟨HF.out _ _ 0 _ HTN.out HTE.out rfl rfl, hb⟩
      · have hte : toE f ops = 0 := by unfold toE; rw [if_neg (by have := HFF.out; omega), if_neg (by omega), HALL.out]; simp [hbig]
        have HTE := Lib.hid hte
        have HTN := Lib.hid (show toN f ops = f - gone + inn by unfold toN; rw [hte, HALL.out]; rfl)
        have db : decide ((20000 : Int) < f - gone + inn) = false := decide_eq_false hbig
        clear hte
        go_wp2
        go_ret2
        exact ⟨HF.out _ _ _ _ HTN.out HTE.out rfl rfl, hb⟩

theorem refRight_any (f : Int) (v : Value) (ops : List OpM) (F : Nat → Prop) (w : World) (h : RdO w F v ops) :
    Calls Tryz.prog 30 #[.agg #[.int .i64 f, v]] w fun e w' => e = .returned (.int .i64 (toE f ops)) ∧ Below w.heap.size w w' := by
  obtain ⟨A, cap, rfl, hc, hcm, hm, hcell⟩ := h.open_
  clear hcell
  have H := Lib.hid h; clear h
  have hB : Below w.heap.size w (w.alloc (.cells #[.int .i64 f, .slice A ops.length cap] 24)) := (Below.refl _ w).alloc (Nat.le_refl _) _
  go_enter Tryz.func30, Tryz.ntmps30
  go_wp2_with fail
  refine (refMeasure_any f _ ops F _ (H.out.pure hB)).mono ?_
  rintro e w1 ⟨rfl, h1⟩
  go_wp2
  go_ret
  exact ⟨rfl, pure_trans hB h1⟩
end Go.Proofs.YtdpmjlkmjmookaaGreatDoor
