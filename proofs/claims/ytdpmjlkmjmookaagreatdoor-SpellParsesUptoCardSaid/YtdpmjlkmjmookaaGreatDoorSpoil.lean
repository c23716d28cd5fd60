/-
  Spoil of the laws (blotterlaw02, blotterlaw03), walked: what was answered is written over, and behind it.
-/
import Derived.Test.YtdpmjlkmjmookaaGreatDoorLent
import Derived.Test.YtdpmjlkmjmookaaGreatDoorRdd
namespace Go.Proofs.YtdpmjlkmjmookaaGreatDoor
set_option linter.unusedVariables false
set_option linter.unusedSimpArgs false
open Go.RowKit Go.PlainAid

theorem own_of_row {w : World} {lo g n cap size : Nat} {e : TypeId} (h : Row w g e (cap * size)) (hlo : lo ≤ g) (hn : n ≤ cap) (hc : cap ≤ 9223372036854775807) : ∃ xs, w.ownsRow lo e size (.slice (some ⟨g, 0, none⟩) n cap) n xs := by
  obtain ⟨cs, h1, h2⟩ := h
  have hm : n * size ≤ cap * size := Nat.mul_le_mul_right _ hn
  exact ⟨cs.toList.take (n * size), by rw [List.length_take]; simp; omega, .inr ⟨g, cap, cs, rfl, hlo, h1, hn, hc, h2, rfl⟩⟩

set_option maxHeartbeats 2000000 in
set_option maxRecDepth 100000 in
theorem spoil2_any (lo n : Nat) (v : Value) (xs : List Value) (w : World) (h : w.ownsRow lo 89 2 v n xs) (hn : n ≤ 1099511627776) (hlo : lo ≤ w.heap.size) :
    Calls Tryz.prog 90 #[v] w fun e w' => e = .returned (.int .i64 ((n : Int) + 1)) ∧ Kp (fun k => v.ownBlock = some k) w w' := by
  obtain ⟨i0, hi, hz0, hz1, hz2⟩ := info_parts infoA
  rcases Nat.eq_zero_or_pos n with h0 | h0
  · subst h0
    have HO := Lib.hid h
    obtain ⟨A, cap, rfl⟩ := ownF h
    clear h
    go_enter Tryz.func90, Tryz.ntmps90
    go_wp2_with fail
    go_loopw [3] (fun i wr => i = .int .i64 0 ∧ wr = w) (fun _ _ => 0)
    case atStart => exact ⟨rfl, rfl⟩
    case round =>
      obtain ⟨rfl, rfl⟩ := hrel
      go_wp2_with (first | (at_builtin; refine wpList_append_own _ rfl (.tmp 14) (.tmp 16) 46 rfl lo 89 i0 (.agg #[.string ⟨#[]⟩, .string ⟨#[]⟩]) 2 32 Tryz.underlying46 hi hz0 hz1 hz2 rfl (by decide) (.slice A 0 cap) 0 xs rfl (HO.out.alloc _) ⟨wr.heap.size, 0, none⟩ 1 1 [.string ⟨#[109, 111, 114, 101]⟩, .string ⟨#[]⟩] rfl rfl (World.news_of_block (cs := #[.string ⟨#[109, 111, 114, 101]⟩, .string ⟨#[]⟩]) (t := 89) (fr := (0, 0)) (heap_alloc_new wr _)) (by simp [Value.oneCell']) (by unfold maxLen; omega) (by omega) (by simp; omega) ?_) | fail)
      intro v' w2 hown hgrow _
      obtain ⟨A2, cap2, rfl⟩ := ownF hown
      have HK := Lib.hid (((Kp.refl (fun k => (Value.slice A 0 cap).ownBlock = some k) wr).alloc _).grown hgrow (fun k hk => .inl hk))
      clear hown hgrow
      go_wp2
      go_ret
      exact ⟨rfl, HK.out⟩
  · obtain ⟨g, cap, rfl, hc1, hc2⟩ := own_some h h0
    have HROW := Lib.hid (row_of_own h)
    have hg := Lib.hid (h.lt g rfl)
    clear h
    go_enter Tryz.func90, Tryz.ntmps90
    go_wp2_with fail
    go_loopw [3] (fun i wr => ∃ k : Nat, k ≤ n ∧ i = .int .i64 k ∧ Row wr g 89 (cap * 2) ∧ Kp (fun q => (Value.slice (some ⟨g, 0, none⟩) n cap).ownBlock = some q) w wr) (fun i _ => n - (intOf i).toNat)
    case atStart => exact ⟨0, by omega, rfl, HROW.out, Kp.refl _ _⟩
    case round =>
      obtain ⟨k, hk, rfl, hrow, hkp⟩ := hrel
      have HRW := Lib.hid hrow; have HK := Lib.hid hkp
      have hws := hkp.size
      clear hrow hkp
      by_cases hlt : k < n
      · have dk : decide ((k : Int) < (n : Int)) = true := decide_eq_true (by omega)
        obtain ⟨x0, e0⟩ := HRW.out.cell (j := k * 2) (by omega)
        obtain ⟨x1, e1⟩ := HRW.out.cell (j := k * 2 + 1) (by omega)
        have f0 := HRW.out.froz (k * 2)
        have f1 := HRW.out.froz (k * 2 + 1)
        have hgl := HRW.out.lt
        have k0 : (0 : Int) ≤ (k : Int) := by omega
        have k1 : (k : Int) < (n : Int) := by omega
        go_wp2
        exact ⟨⟨k + 1, by omega, by go_num, (HRW.out.set _ _).set _ _, (HK.out.setCell (p := ⟨g, k * 2, none⟩) (.inl rfl) _).setCell (p := ⟨g, k * 2 + 1, none⟩) (.inl rfl) _⟩, by simp [intOf]; omega⟩
      · obtain rfl : k = n := by omega
        have dk : decide ((k : Int) < (k : Int)) = false := decide_eq_false (by omega)
        obtain ⟨ys, hoy⟩ := own_of_row (lo := lo) (n := k) HRW.out hg.out.1 hc1 hc2
        have HOY := Lib.hid hoy
        clear hoy
        go_wp2_with (first | (at_builtin; refine wpList_append_own _ rfl (.tmp 14) (.tmp 16) 46 rfl lo 89 i0 (.agg #[.string ⟨#[]⟩, .string ⟨#[]⟩]) 2 32 Tryz.underlying46 hi hz0 hz1 hz2 rfl (by decide) (.slice (some ⟨g, 0, none⟩) k cap) k ys rfl (HOY.out.alloc _) ⟨wr.heap.size, 0, none⟩ 1 1 [.string ⟨#[109, 111, 114, 101]⟩, .string ⟨#[]⟩] rfl rfl (World.news_of_block (cs := #[.string ⟨#[109, 111, 114, 101]⟩, .string ⟨#[]⟩]) (t := 89) (fr := (0, 0)) (heap_alloc_new wr _)) (by simp [Value.oneCell']) (by unfold maxLen; omega) (by omega) (by simp; omega) ?_) | fail)
        intro v' w2 hown hgrow _
        obtain ⟨A2, cap2, rfl⟩ := ownF hown
        have HK2 := Lib.hid ((HK.out.alloc _).grown hgrow (fun k hk => .inl hk))
        clear hown hgrow
        go_wp2
        go_ret
        exact ⟨rfl, HK2.out⟩

/-! ### of a changeset -/
theorem cell_off {w : World} {g j q : Nat} {u : Value} (h : q ≠ j) : (w.setCell ⟨g, j, none⟩ u).cell? ⟨g, q, none⟩ = w.cell? ⟨g, q, none⟩ :=
  World.cell?_setCell_other _ _ _ _ (fun e => h (by injection e with _ e2 _; first | exact e2 | exact e2.symm))
def SBlk (items : List Item) (g k : Nat) (q : Nat) : Prop := q = g ∨ ∃ j, ∃ h : j < items.length, j < k ∧ items[j].2.ownBlock = some q
def SRel (w w1 : World) (items : List Item) (g cap : Nat) (n i : Value) (wr : World) : Prop :=
  ∃ (k : Nat) (N : Int), k ≤ items.length ∧ i = .int .i64 (k : Nat) ∧ n = .int .i64 N ∧ 0 ≤ N ∧ N ≤ 20000000 * k ∧ Row wr g 48 (cap * 4) ∧ (∀ q, k * 4 ≤ q → wr.cell? ⟨g, q, none⟩ = w.cell? ⟨g, q, none⟩) ∧ Kp (SBlk items g k) w1 wr
def SpoilPost (lo hi : Nat) (w : World) (e : Ending) (w' : World) : Prop := (∃ n : Int, 1 ≤ n ∧ n ≤ 4611686018427387904 ∧ e = .returned (.int .i64 n)) ∧ Kp (fun q => lo ≤ q ∧ q < hi) w w'

set_option maxHeartbeats 4000000 in
set_option maxRecDepth 100000 in
theorem spoil_any (lo : Nat) (f : Int) (v : Value) (ops : List OpM) (w0 w : World) (h0 : OwnS w0 lo v ops) (hb0 : Below w0.heap.size w0 w) (hn : ops.length ≤ 16777216) (ha : ∀ o ∈ ops, o.attrs.length ≤ 16777216) (hlo : lo ≤ w0.heap.size) :
    Calls Tryz.prog 29 #[.agg #[.int .i64 f, v]] w (SpoilPost lo w0.heap.size w) := by
  obtain ⟨i0, hi, hz0, hz1, hz2⟩ := info_parts infoO
  obtain ⟨items, rfl, ho0, hit0, hap⟩ := h0
  have hsz0 := hb0.size
  have HLT0 := Lib.hid ho0.lt
  have HA0 := Lib.hid (show ∀ p ∈ items, ∀ k, p.2.ownBlock = some k → lo ≤ k ∧ k < w0.heap.size from fun p hp k hk => (hit0 p hp).2.lt k hk)
  have ho := own_below ho0 hb0
  have HIT := Lib.hid (show ∀ p ∈ items, OwnA w lo p from fun p hp => (hit0 p hp).2.agree fun k _ hty => hb0.block k (by obtain ⟨c, fz, hc⟩ := hty; exact heap_lt hc))
  have HAP := Lib.hid hap
  have HA := Lib.hid (show ∀ p ∈ items, p.1.attrs.length ≤ 16777216 from fun p hp => ha p.1 (List.mem_map_of_mem hp))
  rw [List.length_map] at hn
  clear hit0 hap ha ho0 hb0
  rcases Nat.eq_zero_or_pos items.length with h0 | h0
  · have hit0 : items = [] := List.eq_nil_of_length_eq_zero h0
    subst hit0
    simp only [List.length_nil] at ho
    have HO := Lib.hid ho
    obtain ⟨A, cap, rfl⟩ := ownF ho
    clear ho h0
    have hB := (Below.refl w.heap.size w).alloc (Nat.le_refl _) (.cells #[.int .i64 f, .slice A 0 cap] 24)
    have hx := heap_alloc_new w (.cells #[.int .i64 f, .slice A 0 cap] 24)
    obtain ⟨W, hW⟩ : ∃ W, w.alloc (.cells #[.int .i64 f, .slice A 0 cap] 24) = W := ⟨_, rfl⟩
    rw [hW] at hB hx
    have HO1 := Lib.hid (own_below HO.out hB)
    have HB := Lib.hid (Kp.of_pure (S := fun q => lo ≤ q ∧ q < w0.heap.size) hB)
    have HX := Lib.hid hx
    have hne := own_ne HO1.out hx (by decide)
    have HNE := Lib.hid hne
    obtain ⟨x0, x1⟩ := box2 hx
    have hws := hB.size
    have hxl := heap_lt hx
    clear hB hx hne
    go_enter Tryz.func29, Tryz.ntmps29
    go_upto_region 1 with fail
    try rw [hW]
    clear hW
    go_wp2_with fail
    go_loopw [3, 4] (fun n i wr => n = .int .i64 0 ∧ i = .int .i64 0 ∧ wr = W) (fun _ _ _ => 0)
    case atStart => exact ⟨rfl, rfl, rfl⟩
    case round =>
      obtain ⟨rfl, rfl, rfl⟩ := hrel
      go_wp2_with (first | (at_builtin; refine wpList_append_own _ rfl (.tmp 27) (.tmp 29) 22 rfl lo 48 i0 (.agg #[.int .i64 0, .int .i64 0, .string ⟨#[]⟩, .slice none 0 0]) 4 56 Tryz.underlying22 hi hz0 hz1 hz2 rfl (by decide) (.slice A 0 cap) 0 _ rfl (HO1.out.alloc _) ⟨wr.heap.size, 0, none⟩ 1 1 [.int .i64 96, .int .i64 0, .string ⟨#[]⟩, .slice none 0 0] rfl rfl (World.news_of_block (cs := #[.int .i64 96, .int .i64 0, .string ⟨#[]⟩, .slice none 0 0]) (t := 48) (fr := (0, 0)) (heap_alloc_new wr _)) (by simp [Value.oneCell']) (by unfold maxLen; omega) (by omega) (by simp; omega) ?_) | fail)
      intro v' w2 hown hgrow _
      obtain ⟨A2, cap2, rfl⟩ := ownF hown
      have hx2 := (hgrow.block w.heap.size (by simp; omega) (fun e => HNE.out e.symm)).trans ((Below.heap_alloc wr _ _ hxl).trans HX.out)
      obtain ⟨y0, y1⟩ := box2 hx2
      have fy := froz_heap hx2 1
      have hyl := heap_lt hx2
      have HB2 := Lib.hid (((HB.out.alloc _).grown hgrow (fun k hk => .inl (HLT0.out k hk))).setCell (p := ⟨w.heap.size, 1, none⟩) (.inr (Nat.le_refl _)) (.slice A2 (0 + 1) cap2))
      clear hown hgrow hx2
      go_wp2
      go_ret
      exact ⟨⟨1, by omega, by omega, rfl⟩, HB2.out⟩
  · obtain ⟨g, cap, rfl, hc1, hc2⟩ := own_some ho h0
    have HROW := Lib.hid (row_of_own ho)
    have HO := Lib.hid ho
    have hglo := HLT0.out g rfl
    have HGNT := Lib.hid (ops_nt ho g rfl)
    have hB := (Below.refl w.heap.size w).alloc (Nat.le_refl _) (.cells #[.int .i64 f, .slice (some ⟨g, 0, none⟩) items.length cap] 24)
    have hx := heap_alloc_new w (.cells #[.int .i64 f, .slice (some ⟨g, 0, none⟩) items.length cap] 24)
    obtain ⟨W, hW⟩ : ∃ W, w.alloc (.cells #[.int .i64 f, .slice (some ⟨g, 0, none⟩) items.length cap] 24) = W := ⟨_, rfl⟩
    rw [hW] at hB hx
    have HBW := Lib.hid hB
    have HX := Lib.hid hx
    have hgw : g < w.heap.size := by omega
    have hSB : ∀ k q, SBlk items g k q → lo ≤ q ∧ q < w0.heap.size := fun k q hq => by
      rcases hq with rfl | ⟨j, hj, _, hb⟩
      · exact hglo
      · exact HA0.out _ (List.getElem_mem hj) q hb
    have HSB := Lib.hid hSB
    have hROWW : Row W g 48 (cap * 4) := by
      obtain ⟨cs, h1, h2⟩ := HROW.out
      exact ⟨cs, (hB.block g hgw).trans h1, h2⟩
    have HST := Lib.hid (show SRel w W items g cap (.int .i64 0) (.int .i64 0) W from ⟨0, 0, by omega, rfl, rfl, by omega, by omega, hROWW, fun q _ => World.cell?_of_block (hB.block g hgw), Kp.refl _ _⟩)
    have hws := hB.size
    clear ho hB hx hSB hROWW
    go_enter Tryz.func29, Tryz.ntmps29
    go_upto_region 1 with fail
    try rw [hW]
    clear hW
    go_wp2_with fail
    go_loopw [3, 4] (fun n i wr => SRel w W items g cap n i wr) (fun _ i _ => items.length - (intOf i).toNat)
    case atStart => exact HST.out
    case round =>
      clear HST
      obtain ⟨k, N, hk, rfl, rfl, hN0, hN1, hrow, hcell, hkp⟩ := hrel
      have HRW := Lib.hid hrow; have HCE := Lib.hid hcell; have HK := Lib.hid hkp
      have hwr := hkp.size
      have hxr := (hkp.block w.heap.size (by have := heap_lt HX.out; omega) (fun hq => by have := (HSB.out _ _ hq).2; omega)).trans HX.out
      have HXR := Lib.hid hxr
      obtain ⟨p0, p1⟩ := box2 hxr
      have hpl := heap_lt hxr
      have hgl := hrow.lt
      clear hrow hcell hkp hxr
      by_cases hlt : k < items.length
      · have dk : decide ((k : Int) < (items.length : Int)) = true := decide_eq_true (by omega)
        have hx3 : wr.cell? ⟨g, k * 4 + 3, none⟩ = some items[k].2 := by
          rw [HCE.out (k * 4 + 3) (by omega), HO.out.cellAt (k * 4 + 3) (by omega), flat_get cellsP 4 items (fun _ _ => rfl) k 3 hlt (by omega)]
          rfl
        have hoa : OwnA wr lo items[k] := own_agree (HIT.out _ (List.getElem_mem hlt)) fun q hq => by
          have hty : TyA w q := own_kind (HIT.out _ (List.getElem_mem hlt)) q hq
          have hqw : q < w.heap.size := ((HIT.out _ (List.getElem_mem hlt)).lt q hq).2
          refine (HK.out.block q (by omega) (fun hb => ?_)).trans (HBW.out.block q hqw)
          rcases hb with rfl | ⟨j, hj, hjk, hb⟩
          · exact HGNT.out hty
          · exact (List.pairwise_iff_getElem.1 HAP.out) j k hj hlt hjk q hb hq
        have hal := HA.out _ (List.getElem_mem hlt)
        have hqb := HA0.out _ (List.getElem_mem hlt)
        have HBK := Lib.hid (show ∀ q, items[k].2.ownBlock = some q → SBlk items g (k + 1) q from fun q hq => .inr ⟨k, hlt, by omega, hq⟩)
        have hgn : items[k].2.ownBlock ≠ some g := fun e => by
          obtain ⟨c, fz, hc⟩ := own_kind hoa g e
          obtain ⟨cs, h1, _⟩ := HRW.out
          rw [h1] at hc; injection hc with hc; injection hc with _ e2 _; cases e2
        have HGN := Lib.hid hgn; have HQB := Lib.hid hqb
        unfold OwnA at hoa
        obtain ⟨A2, c2, hvk⟩ := ownF hoa
        rw [hvk] at hx3 hoa HBK HGN HQB
        have HOA := Lib.hid hoa
        clear hoa hgn hqb hvk
        generalize hxs : flat cellsA items[k].1.attrs = xs at *
        generalize items[k].1.attrs.length = n2 at *
        clear hxs
        have k0 : (0 : Int) ≤ (k : Int) := by omega
        have k1 : (k : Int) < (items.length : Int) := by omega
        have hN2 : N ≤ 400000000000000 := by omega
        go_wp2_with fail
        refine (spoil2_any lo n2 _ xs wr HOA.out (by omega) (by omega)).mono ?_
        rintro e w4 ⟨rfl, k4⟩
        have hr4 : Row w4 g 48 (cap * 4) := by
          obtain ⟨cs, h1, h2⟩ := HRW.out
          exact ⟨cs, (k4.block g hgl (fun hq => HGN.out hq)).trans h1, h2⟩
        have hp4 := (k4.block w.heap.size hpl (fun hq => by have := (HQB.out _ hq).2; omega)).trans HXR.out
        obtain ⟨p0, p1⟩ := box2 hp4
        obtain ⟨x0, e0⟩ := hr4.cell (j := k * 4) (by omega)
        obtain ⟨x1, e1⟩ := hr4.cell (j := k * 4 + 1) (by omega)
        obtain ⟨x2, e2⟩ := hr4.cell (j := k * 4 + 2) (by omega)
        obtain ⟨x3, e3⟩ := hr4.cell (j := k * 4 + 3) (by omega)
        have f0 := hr4.froz (k * 4)
        have f1 := hr4.froz (k * 4 + 1)
        have f2 := hr4.froz (k * 4 + 2)
        have f3 := hr4.froz (k * 4 + 3)
        have hgl4 := hr4.lt
        have HN := Lib.hid (show SRel w W items g cap (.int .i64 (N + ((n2 : Int) + 1))) (.int .i64 ((k + 1 : Nat) : Int)) ((((w4.setCell ⟨g, k * 4, none⟩ (.int .i64 97)).setCell ⟨g, k * 4 + 1, none⟩ (.int .i64 0)).setCell ⟨g, k * 4 + 2, none⟩ (.string ⟨#[]⟩)).setCell ⟨g, k * 4 + 3, none⟩ (.slice none 0 0)) from by
          refine ⟨k + 1, _, by omega, rfl, rfl, by omega, by omega, (((hr4.set _ _).set _ _).set _ _).set _ _, fun q hq => ?_, ?_⟩
          · have h1 : w4.cell? ⟨g, q, none⟩ = w.cell? ⟨g, q, none⟩ := (World.cell?_of_block (k4.block g hgl (fun hq => HGN.out hq))).trans (HCE.out q (by omega))
            rw [cell_off (by omega), cell_off (by omega), cell_off (by omega), cell_off (by omega)]
            exact h1
          · have h1 : Kp (SBlk items g (k + 1)) W w4 := (HK.out.mono (fun q _ hq => by
              rcases hq with rfl | ⟨j, hj, hjk, hb⟩
              · exact .inl rfl
              · exact .inr ⟨j, hj, by omega, hb⟩)).trans (k4.mono (fun q _ hq => HBK.out q hq))
            exact (((h1.setCell (p := ⟨g, k * 4, none⟩) (.inl (.inl rfl)) _).setCell (p := ⟨g, k * 4 + 1, none⟩) (.inl (.inl rfl)) _).setCell (p := ⟨g, k * 4 + 2, none⟩) (.inl (.inl rfl)) _).setCell (p := ⟨g, k * 4 + 3, none⟩) (.inl (.inl rfl)) _)
        clear k4 hr4 hp4
        go_wp2
        exact ⟨HN.out, by simp [intOf]; omega⟩
      · obtain rfl : k = items.length := by omega
        have dk : decide ((items.length : Int) < (items.length : Int)) = false := decide_eq_false (by omega)
        obtain ⟨ys, hoy⟩ := own_of_row (lo := lo) (n := items.length) HRW.out hglo.1 hc1 hc2
        have HOY := Lib.hid hoy
        have hN2 : N ≤ 400000000000000 := by omega
        have hgp : g ≠ w.heap.size := by omega
        clear hoy
        go_wp2_with (first | (at_builtin; refine wpList_append_own _ rfl (.tmp 27) (.tmp 29) 22 rfl lo 48 i0 (.agg #[.int .i64 0, .int .i64 0, .string ⟨#[]⟩, .slice none 0 0]) 4 56 Tryz.underlying22 hi hz0 hz1 hz2 rfl (by decide) (.slice (some ⟨g, 0, none⟩) items.length cap) items.length ys rfl (HOY.out.alloc _) ⟨wr.heap.size, 0, none⟩ 1 1 [.int .i64 96, .int .i64 0, .string ⟨#[]⟩, .slice none 0 0] rfl rfl (World.news_of_block (cs := #[.int .i64 96, .int .i64 0, .string ⟨#[]⟩, .slice none 0 0]) (t := 48) (fr := (0, 0)) (heap_alloc_new wr _)) (by simp [Value.oneCell']) (by unfold maxLen; omega) (by omega) (by simp; omega) ?_) | fail)
        intro v' w2 hown hgrow _
        obtain ⟨A2, cap2, rfl⟩ := ownF hown
        have hx2 := (hgrow.block w.heap.size (by simp; omega) (fun e => by simp [Value.ownBlock] at e; omega)).trans ((Below.heap_alloc wr _ _ hpl).trans HXR.out)
        obtain ⟨y0, y1⟩ := box2 hx2
        have fy := froz_heap hx2 1
        have hyl := heap_lt hx2
        have HB2 := Lib.hid (show Kp (fun q => lo ≤ q ∧ q < w0.heap.size) w (w2.setCell ⟨w.heap.size, 1, none⟩ (.slice A2 (items.length + 1) cap2)) from
          (((((Kp.of_pure (S := fun q => lo ≤ q ∧ q < w0.heap.size) HBW.out).trans (HK.out.mono (fun q _ hq => HSB.out _ q hq))).alloc _).grown hgrow (fun k hk => .inl (HLT0.out k hk))).setCell (p := ⟨w.heap.size, 1, none⟩) (.inr (Nat.le_refl _)) _))
        clear hown hgrow hx2
        go_wp2
        go_ret
        exact ⟨⟨N + ((items.length : Int) + 1), by omega, by omega, rfl⟩, HB2.out⟩
end Go.Proofs.YtdpmjlkmjmookaaGreatDoor
