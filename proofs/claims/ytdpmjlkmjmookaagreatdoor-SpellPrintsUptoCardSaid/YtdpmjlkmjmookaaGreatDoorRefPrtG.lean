/-
  The references' Print (blotterref04), walked: UNDER WAY.
-/
import Derived.Test.YtdpmjlkmjmookaaGreatDoorAppS
import Derived.Test.YtdpmjlkmjmookaaGreatDoorPrint
import Derived.Test.YtdpmjlkmjmookaaGreatDoorRefNorm
namespace Go.Proofs.YtdpmjlkmjmookaaGreatDoor
set_option linter.unusedVariables false
set_option linter.unusedSimpArgs false
open Go.RowKit Go.PlainAid

set_option maxHeartbeats 8000000 in
set_option maxRecDepth 100000 in
theorem refPrint_bad (f : Int) (v : Value) (ops : List OpM) (F : Nat → Prop) (w : World) (h : RdO w F v ops) (he : toE f ops ≠ 0) :
    Calls Tryz.prog 24 #[.agg #[.int .i64 f, v]] w (PrintPost f ops w) := by
  obtain ⟨A, cap, rfl, hc, hcm, hm, hcell⟩ := h.open_
  clear hcell
  have H := Lib.hid h; clear h
  have hB : Below w.heap.size w (w.alloc (.cells #[.int .i64 f, .slice A ops.length cap] 24)) := (Below.refl _ w).alloc (Nat.le_refl _) _
  have hbx : (w.alloc (.cells #[.int .i64 f, .slice A ops.length cap] 24)).heap[w.heap.size]? = some (.cells #[.int .i64 f, .slice A ops.length cap] 24 (0, 0)) := heap_alloc_new w _
  have HE := Lib.hid he
  go_enter Tryz.func24, Tryz.ntmps24
  go_wp2_with fail
  refine (refNormal_any f _ ops F _ (H.out.pure hB)).mono ?_
  rintro e w1 ⟨v1, rfl, b1, hR1⟩
  rw [if_neg he] at hR1 ⊢
  obtain ⟨A1, cap1, rfl, _⟩ := hR1.open_
  have hb1 := pure_trans hB b1
  have hbx1 := (b1.block _ (heap_lt hbx)).trans hbx
  obtain ⟨x0, x1⟩ := box2 hbx1
  have f0 := froz_heap hbx1 0
  have f1 := froz_heap hbx1 1
  have d1 : (toE f ops == 0) = false := by simpa using he
  have d2 : (toE f ops != 0) = true := by simpa using he
  have hp : printE f ops = toE f ops := by unfold printE; rw [if_pos he]
  have hps : printS f ops = ⟨#[]⟩ := by unfold printS; rw [if_neg (by rw [hp]; exact he)]
  have HP := Lib.hid (And.intro hp hps)
  clear hp hps he hR1 hbx1 hbx b1
  generalize toE f ops = r at *
  have HB1 := Lib.hid hb1
  clear hb1
  go_wp2
  go_ret2
  refine ⟨by rw [HP.out.1, HP.out.2]; rfl, ?_⟩
  exact (HB1.out.setCell (p := ⟨w.heap.size, 0, none⟩) (Nat.le_refl _) _).setCell (p := ⟨w.heap.size, 1, none⟩) (Nat.le_refl _) _
theorem mkD_data (n : Nat) : (mkD n).data.toList = Lib.itoa (n : Int) := by
  unfold mkD Lib.itoa; rw [if_neg (by omega)]; simp
/-- what the first loop holds -/
def PRel (W0 : World) (f : Int) (l : List OpM) (g : Nat) (v i : Value) (wr : World) : Prop :=
  ∃ k : Nat, k + g = l.length ∧ i = .int .i64 k ∧ Below W0.heap.size W0 wr ∧ BR wr W0.heap.size v (printM f (l.take k)) ∧ ∃ A n cap, v = .slice A n cap
/-- what the attributes' loop holds -/
def ARel (W0 : World) (ob : Nat) (o : OpM) (A2 : Option Addr) (cap2 : Nat) (Y : List UInt8) (g : Nat) (v i : Value) (wr : World) : Prop :=
  ∃ j : Nat, j + g = o.attrs.length ∧ i = .int .i64 j ∧ BR wr W0.heap.size v (Y ++ attrsB (o.attrs.take j)) ∧ Below W0.heap.size W0 wr ∧ wr.heap[ob]? = some (.cells #[.int .i64 o.kind, .int .i64 o.n, .string o.text, .slice A2 o.attrs.length cap2] 48 (0, 0)) ∧ ∃ A n cap, v = .slice A n cap
set_option maxHeartbeats 8000000 in
set_option maxRecDepth 100000 in
theorem refPrint_good (f : Int) (v : Value) (ops : List OpM) (F : Nat → Prop) (w : World) (h : RdO w F v ops) (he : toE f ops = 0) :
    Calls Tryz.prog 24 #[.agg #[.int .i64 f, v]] w (PrintPost f ops w) := by
  obtain ⟨A, cap, rfl, hc, hcm, hm, hcell⟩ := h.open_
  clear hcell
  have H := Lib.hid h; clear h
  obtain ⟨i0, hi, hz0, hz1, hz2⟩ := info_parts infoB
  have hB : Below w.heap.size w (w.alloc (.cells #[.int .i64 f, .slice A ops.length cap] 24)) := (Below.refl _ w).alloc (Nat.le_refl _) _
  have hne : (toE f ops == 0) = true := by simpa using he
  have hf := (toE_fold he).1
  have HPR := Lib.hid (normM_pr he)
  have hnl := (normM_len he).1
  go_enter Tryz.func24, Tryz.ntmps24
  go_wp2_with fail
  refine (refNormal_any f _ ops _ _ (H.out.pure hB)).mono ?_
  rintro e w1 ⟨v', rfl, hb1, hr1⟩
  rw [if_pos he, he]
  rw [if_pos he] at hr1
  obtain ⟨ops', hops⟩ : ∃ ops', normM ops = ops' := ⟨_, rfl⟩
  rw [hops] at hr1 HPR hnl
  have HE := Lib.hid he; clear he hne
  obtain ⟨A', cap', rfl, hc', hcm', hm', hcell'⟩ := hr1.open_
  have HC := Lib.hid hcell'; clear hcell'
  have HX := Lib.hid hr1; clear hr1
  obtain ⟨hbx, hbl⟩ := box_heap hb1
  obtain ⟨b0, b1⟩ := box2 hbx
  have f0 := froz_heap hbx 0
  have f1 := froz_heap hbx 1
  have hb2 := (pure_trans hB hb1)
  have HOPS := Lib.hid hops; clear hops
  obtain ⟨fn, hfn⟩ : ∃ n : Nat, f = (n : Int) := Int.eq_ofNat_of_zero_le hf.1
  have HFN := Lib.hid hfn; clear hfn
  obtain ⟨WN, hWN⟩ : ∃ WN, (w1.setCell ⟨w.heap.size, 0, none⟩ (.int .i64 f)).setCell ⟨w.heap.size, 1, none⟩ (.slice A' ops'.length cap') = WN := ⟨_, rfl⟩
  have hsz : WN.heap.size = w1.heap.size := by rw [← hWN]; simp
  have hbxN : WN.heap[w.heap.size]? = some (.cells #[.int .i64 f, .slice A' ops'.length cap'] 24 (0, 0)) := by rw [← hWN]; exact set_heap1 (set_heap hbx _) _
  have hbN : Below w.heap.size w WN := by rw [← hWN]; exact (hb2.setCell (p := ⟨w.heap.size, 0, none⟩) (Nat.le_refl _) _).setCell (p := ⟨w.heap.size, 1, none⟩) (Nat.le_refl _) _
  have hXN : RdO WN (fun k => k < WN.heap.size) (.slice A' ops'.length cap') ops' := by
    rw [← hWN]
    exact (HX.out.agree fun k hk _ => by
      have hk' : w.heap.size + 1 ≤ k := by simpa using hk
      rw [Below.heap_setCell _ ⟨w.heap.size, 1, none⟩ _ _ (by show k ≠ w.heap.size; omega), Below.heap_setCell _ ⟨w.heap.size, 0, none⟩ _ _ (by show k ≠ w.heap.size; omega)]).mono fun k _ hk => by simpa using hk
  have HXN := Lib.hid hXN; have HBX := Lib.hid hbxN; have HBN := Lib.hid hbN
  clear hXN hbxN hbN hb2 hbx
  have HSZ := Lib.hid hsz; clear hsz
  obtain ⟨x0, x1⟩ := box2 HBX.out
  go_upto_region 5 with fail
  clear b0 b1 f0 f1 hb1
  have hnum := refNumber_any fn WN (by have := HFN.out; omega)
  rw [← HFN.out] at hnum
  have HNUM := Lib.hid hnum; clear hnum
  go_wp2_with fail
  refine HNUM.out.mono ?_
  rintro e w2 ⟨rfl, b2⟩
  have hml : (mkD fn).size ≤ 21 := mkD_len fn (by have := HFN.out; omega)
  have hw2 := b2.size
  have B2 := Lib.hid b2; clear b2 hWN
  go_wp2_with (first | (at_builtin; refine Lib.wpList_append_own_string _ rfl _ _ 92 9 rfl WN.heap.size 5 i0 Tryz.underlying92 Tryz.underlying9 hi hz0 hz1 hz2 (.slice none 0 0) 0 [] rfl (World.ownsRow_nil _ _ _ _) (mkD fn) rfl (by unfold maxLen; omega) (by omega) (by omega) ?_) | fail)
  intro v3 w3 hown hgrow _
  obtain ⟨A3, cap3, rfl⟩ := ownF hown
  have hst : PRel WN f ops' ops'.length (.slice A3 (mkD fn).size cap3) (.int .i64 0) w3 := by
    refine ⟨0, by omega, rfl, B2.out.grown hgrow hw2 (fun q hq => by simp [Value.ownBlock] at hq), ?_, _, _, _, rfl⟩
    have := BR.pushS (l := []) (by simpa using hown)
    rw [mkD_data, ← HFN.out] at this
    simpa [printM] using this
  have HST := Lib.hid hst; clear hst hown hgrow
  go_wp2_with fail
  go_loopg [5, 6] ops'.length (fun g v i wr => PRel WN f ops' g v i wr)
  case atStart => exact HST.out
  case round =>
    clear HST HNUM B2 hml hw2 x0 x1
    obtain ⟨k, hk, rfl, hb, hbr, A5, n5, cap5, rfl⟩ := hrel
    have HBR := Lib.hid hbr; clear hbr
    have hszr := hb.size
    have hlr := printed_len hf.1 (by omega) hnl HPR.out k
    have hbxr := (hb.block _ (heap_lt HBX.out)).trans HBX.out
    obtain ⟨x0, x1⟩ := box2 hbxr
    have hxl := heap_lt hbxr
    by_cases hlt : k < ops'.length
    · have dk : decide ((k : Int) < (ops'.length : Int)) = true := decide_eq_true (by omega)
      obtain ⟨b, off, rfl, hFb⟩ := HC.out (by omega)
      have hrd := HXN.out.pure hb
      obtain ⟨va, c0, c1, c2, c3, hva⟩ := hrd.at_ k hlt
      obtain ⟨A2, cap2, rfl, hc2, _, _, hcell2⟩ := hva.open_
      have HC2 := Lib.hid hcell2; clear hcell2
      have HVA := Lib.hid hva; clear hva hrd
      have hbk : b < wr.heap.size := World.block_lt_of_cell? wr _ c0
      have HP := Lib.hid (HPR.out _ (List.getElem_mem hlt))
      have HSN := Lib.hid (printM_snoc f ops' k hlt)
      generalize hOO : ops'[k] = o at *
      have HB := Lib.hid hb; clear hb hOO
      go_upto_block 2 with fail
      have hnn := HP.out.n0; have hnn1 := HP.out.n1; have htt := HP.out.t; have hkl := kindP_len HP.out; have hal := HP.out.la; have hil := itoa_len hnn hnn1
      have hbx4 := heap_alloc_new wr (.cells #[.int .i64 o.kind, .int .i64 o.n, .string o.text, .slice A2 o.attrs.length cap2] 48)
      have hb4 : Below WN.heap.size WN (wr.alloc (.cells #[.int .i64 o.kind, .int .i64 o.n, .string o.text, .slice A2 o.attrs.length cap2] 48)) := HB.out.alloc HB.out.size _
      have hbr4 : BR (wr.alloc (.cells #[.int .i64 o.kind, .int .i64 o.n, .string o.text, .slice A2 o.attrs.length cap2] 48)) WN.heap.size (.slice A5 n5 cap5) (printM f (ops'.take k)) := HBR.out.alloc _
      generalize printM f (ops'.take k) = X at *
      obtain ⟨W4, hW4⟩ : ∃ W4, wr.alloc (.cells #[.int .i64 o.kind, .int .i64 o.n, .string o.text, .slice A2 o.attrs.length cap2] 48) = W4 := ⟨_, rfl⟩
      rw [hW4] at hbx4 hb4 hbr4 ⊢
      have HBX4 := Lib.hid hbx4; have HB4 := Lib.hid hb4; have HBR4 := Lib.hid hbr4
      have hs4 : W4.heap.size = wr.heap.size + 1 := by rw [← hW4]; simp
      obtain ⟨d0, d1, d2, d3⟩ := box4 hbx4
      have hl4 := heap_lt hbx4
      clear hb4 hbr4 hbx4 hW4 x0 x1 c0 c1 c2 c3
      go_cut [5] from 23 to 93 (fun v wx => ∃ A n cap, v = .slice A n cap ∧ BR wx WN.heap.size v (X ++ kindP o) ∧ Below WN.heap.size WN wx ∧ wx.heap[wr.heap.size]? = some (.cells #[.int .i64 o.kind, .int .i64 o.n, .string o.text, .slice A2 o.attrs.length cap2] 48 (0, 0)))
      case first =>
        by_cases hk1 : o.kind = 1
        · have k1b : (o.kind == 1) = true := by simpa using hk1
          have hkp : X ++ kindP o = X ++ (32 :: 61 :: Lib.itoa o.n) := by unfold kindP; rw [if_pos hk1]
          have HKP := Lib.hid hkp; clear hkp
          obtain ⟨on, hon⟩ : ∃ m : Nat, o.n = (m : Int) := Int.eq_ofNat_of_zero_le hnn
          have hnum := refNumber_any on W4 (by omega)
          rw [← hon] at hnum
          have HNUM := Lib.hid hnum
          have hz : (mkD on).size ≤ 21 := mkD_len on (by omega)
          have HON := Lib.hid hon
          clear hnum hon hk1
          go_wp2_with fail
          refine HNUM.out.mono ?_
          rintro e w5 ⟨rfl, b5⟩
          have hs5 := b5.size
          have B5 := Lib.hid b5; clear b5
          have H5 := Lib.hid (HB4.out.trans (B5.out.mono (by have := HB4.out.size; omega)))
          have HR5 := Lib.hid (show BR w5 WN.heap.size (.slice A5 n5 cap5) X from own_agree HBR4.out (fun q hq => B5.out.block q (HBR4.out.lt q hq).2))
          have hss : ((⟨#[32, 61]⟩ : ByteArray) ++ mkD on).size = 2 + (mkD on).size := by rw [ByteArray.size_append]; rfl
          obtain ⟨SS, hSS⟩ : ∃ SS, (⟨#[32, 61]⟩ : ByteArray) ++ mkD on = SS := ⟨_, rfl⟩
          have HSS := Lib.hid hSS
          rw [hSS] at hss
          have hsb : SS.size ≤ 23 := by omega
          clear hss
          go_wp2_with (first | (at_builtin; refine Lib.wpList_append_own_string _ rfl _ _ 92 9 rfl WN.heap.size 5 i0 Tryz.underlying92 Tryz.underlying9 hi hz0 hz1 hz2 (.slice A5 n5 cap5) X.length (X.map bv) rfl (by exact HR5.out) SS rfl (by unfold maxLen; omega) (by omega) (by have := H5.out.size; omega) ?_) | fail)
          intro v6 w6 hown hgrow _
          obtain ⟨A6, cap6, rfl⟩ := ownF hown
          have hbr6 := BR.pushS (l := X) hown
          have hbx6 := (hgrow.block wr.heap.size (by omega) (fun e => own_ne HR5.out ((B5.out.block _ hl4).trans HBX4.out) (by decide) e.symm)).trans ((B5.out.block _ hl4).trans HBX4.out)
          have HF := Lib.hid (show ∃ A n cap, Value.slice A6 (X.length + SS.size) cap6 = .slice A n cap ∧ BR w6 WN.heap.size (.slice A6 (X.length + SS.size) cap6) (X ++ kindP o) ∧ Below WN.heap.size WN w6 ∧ w6.heap[wr.heap.size]? = some (.cells #[.int .i64 o.kind, .int .i64 o.n, .string o.text, .slice A2 o.attrs.length cap2] 48 (0, 0)) from
            ⟨_, _, _, rfl, by
              have e : X ++ kindP o = X ++ SS.data.toList := by rw [HKP.out, ← HSS.out, ByteArray.data_append, HON.out, ← mkD_data]; simp
              rw [e]; exact hbr6, H5.out.grown hgrow (by have := H5.out.size; omega) (fun q hq => (HR5.out.lt q hq).1), hbx6⟩)
          clear hown hgrow hbr6 hbx6
          go_wp2_with fail
          go_meet
          exact HF.out
        · have k1b : (o.kind == 1) = false := by simpa using hk1
          by_cases hk3 : o.kind = 3
          · have k3b : (o.kind == 3) = true := by simpa using hk3
            have hkp : X ++ kindP o = X ++ (32 :: 45 :: Lib.itoa o.n) := by unfold kindP; rw [if_neg hk1, if_pos hk3]
            have HKP := Lib.hid hkp; clear hkp
            obtain ⟨on, hon⟩ : ∃ m : Nat, o.n = (m : Int) := Int.eq_ofNat_of_zero_le hnn
            have hnum := refNumber_any on W4 (by omega)
            rw [← hon] at hnum
            have HNUM := Lib.hid hnum
            have hz : (mkD on).size ≤ 21 := mkD_len on (by omega)
            have HON := Lib.hid hon
            clear hnum hon hk1 hk3
            go_wp2_with fail
            refine HNUM.out.mono ?_
            rintro e w5 ⟨rfl, b5⟩
            have hs5 := b5.size
            have B5 := Lib.hid b5; clear b5
            have H5 := Lib.hid (HB4.out.trans (B5.out.mono (by have := HB4.out.size; omega)))
            have HR5 := Lib.hid (show BR w5 WN.heap.size (.slice A5 n5 cap5) X from own_agree HBR4.out (fun q hq => B5.out.block q (HBR4.out.lt q hq).2))
            have hss : ((⟨#[32, 45]⟩ : ByteArray) ++ mkD on).size = 2 + (mkD on).size := by rw [ByteArray.size_append]; rfl
            obtain ⟨SS, hSS⟩ : ∃ SS, (⟨#[32, 45]⟩ : ByteArray) ++ mkD on = SS := ⟨_, rfl⟩
            have HSS := Lib.hid hSS
            rw [hSS] at hss
            have hsb : SS.size ≤ 23 := by omega
            clear hss
            go_wp2_with (first | (at_builtin; refine Lib.wpList_append_own_string _ rfl _ _ 92 9 rfl WN.heap.size 5 i0 Tryz.underlying92 Tryz.underlying9 hi hz0 hz1 hz2 (.slice A5 n5 cap5) X.length (X.map bv) rfl (by exact HR5.out) SS rfl (by unfold maxLen; omega) (by omega) (by have := H5.out.size; omega) ?_) | fail)
            intro v6 w6 hown hgrow _
            obtain ⟨A6, cap6, rfl⟩ := ownF hown
            have hbr6 := BR.pushS (l := X) hown
            have hbx6 := (hgrow.block wr.heap.size (by omega) (fun e => own_ne HR5.out ((B5.out.block _ hl4).trans HBX4.out) (by decide) e.symm)).trans ((B5.out.block _ hl4).trans HBX4.out)
            have HF := Lib.hid (show ∃ A n cap, Value.slice A6 (X.length + SS.size) cap6 = .slice A n cap ∧ BR w6 WN.heap.size (.slice A6 (X.length + SS.size) cap6) (X ++ kindP o) ∧ Below WN.heap.size WN w6 ∧ w6.heap[wr.heap.size]? = some (.cells #[.int .i64 o.kind, .int .i64 o.n, .string o.text, .slice A2 o.attrs.length cap2] 48 (0, 0)) from
              ⟨_, _, _, rfl, by
                have e : X ++ kindP o = X ++ SS.data.toList := by rw [HKP.out, ← HSS.out, ByteArray.data_append, HON.out, ← mkD_data]; simp
                rw [e]; exact hbr6, H5.out.grown hgrow (by have := H5.out.size; omega) (fun q hq => (HR5.out.lt q hq).1), hbx6⟩)
            clear hown hgrow hbr6 hbx6
            go_wp2_with fail
            go_meet
            exact HF.out
          · have k3b : (o.kind == 3) = false := by simpa using hk3
            have hk2 : o.kind = 2 := by have := HP.out.k; omega
            have hkp : X ++ kindP o = X ++ (32 :: 43 :: quoteL o.text.data.toList) := by unfold kindP; rw [if_neg hk1, if_neg hk3, if_pos hk2]
            have HKP := Lib.hid hkp; clear hkp
            have HNUM := Lib.hid (refQuote_any o.text W4 (by omega))
            have hz := quoteL_len o.text.data.toList
            rw [len_data] at hz
            obtain ⟨QQ, hQQ⟩ : ∃ Q : ByteArray, Q = ⟨(quoteL o.text.data.toList).toArray⟩ := ⟨_, rfl⟩
            have hqs : QQ.size = (quoteL o.text.data.toList).length := by rw [hQQ]; exact sz_mk _
            have HQQ := Lib.hid hQQ
            rw [← hQQ] at HNUM
            rw [← hqs] at hz
            clear hQQ hqs hk1 hk3 hk2
            go_wp2_with fail
            refine HNUM.out.mono ?_
            rintro e w5 ⟨rfl, b5⟩
            have hs5 := b5.size
            have B5 := Lib.hid b5; clear b5
            have H5 := Lib.hid (HB4.out.trans (B5.out.mono (by have := HB4.out.size; omega)))
            have HR5 := Lib.hid (show BR w5 WN.heap.size (.slice A5 n5 cap5) X from own_agree HBR4.out (fun q hq => B5.out.block q (HBR4.out.lt q hq).2))
            have hss : ((⟨#[32, 43]⟩ : ByteArray) ++ QQ).size = 2 + (QQ).size := by rw [ByteArray.size_append]; rfl
            obtain ⟨SS, hSS⟩ : ∃ SS, (⟨#[32, 43]⟩ : ByteArray) ++ QQ = SS := ⟨_, rfl⟩
            have HSS := Lib.hid hSS
            rw [hSS] at hss
            have hsb : SS.size ≤ 1600000004 := by omega
            clear hss
            go_wp2_with (first | (at_builtin; refine Lib.wpList_append_own_string _ rfl _ _ 92 9 rfl WN.heap.size 5 i0 Tryz.underlying92 Tryz.underlying9 hi hz0 hz1 hz2 (.slice A5 n5 cap5) X.length (X.map bv) rfl (by exact HR5.out) SS rfl (by unfold maxLen; omega) (by omega) (by have := H5.out.size; omega) ?_) | fail)
            intro v6 w6 hown hgrow _
            obtain ⟨A6, cap6, rfl⟩ := ownF hown
            have hbr6 := BR.pushS (l := X) hown
            have hbx6 := (hgrow.block wr.heap.size (by omega) (fun e => own_ne HR5.out ((B5.out.block _ hl4).trans HBX4.out) (by decide) e.symm)).trans ((B5.out.block _ hl4).trans HBX4.out)
            have HF := Lib.hid (show ∃ A n cap, Value.slice A6 (X.length + SS.size) cap6 = .slice A n cap ∧ BR w6 WN.heap.size (.slice A6 (X.length + SS.size) cap6) (X ++ kindP o) ∧ Below WN.heap.size WN w6 ∧ w6.heap[wr.heap.size]? = some (.cells #[.int .i64 o.kind, .int .i64 o.n, .string o.text, .slice A2 o.attrs.length cap2] 48 (0, 0)) from
              ⟨_, _, _, rfl, by
                have e : X ++ kindP o = X ++ SS.data.toList := by rw [HKP.out, ← HSS.out, ByteArray.data_append, HQQ.out]; simp
                rw [e]; exact hbr6, H5.out.grown hgrow (by have := H5.out.size; omega) (fun q hq => (HR5.out.lt q hq).1), hbx6⟩)
            clear hown hgrow hbr6 hbx6
            go_wp2_with fail
            go_meet
            exact HF.out
      case rest =>
        obtain ⟨A6, n6, cap6, rfl, hbr6, hb6, hbx6⟩ := hcut
        have hYl : (X ++ kindP o).length ≤ X.length + 1600000024 := by rw [List.length_append]; omega
        obtain ⟨Y, hY⟩ : ∃ Y, X ++ kindP o = Y := ⟨_, rfl⟩
        rw [hY] at hbr6 hYl
        have HY := Lib.hid hY; clear hY
        have HST := Lib.hid (show ARel WN wr.heap.size o A2 cap2 Y o.attrs.length (.slice A6 n6 cap6) (.int .i64 0) wc from ⟨0, by omega, rfl, by simpa [attrsB] using hbr6, hb6, hbx6, _, _, _, rfl⟩)
        clear hbr6 hb6 hbx6 d0 d1 d2 d3
        go_wp2_with fail
        go_loopg [5, 8, 9] o.attrs.length (fun g v i s9 wx => ARel WN wr.heap.size o A2 cap2 Y g v i wx)
        case atStart => exact HST.out
        case round =>
          obtain ⟨j, hj, rfl, hbr, hb7, hbx7, A7, n7, cap7, rfl⟩ := hrel
          have HBR7 := Lib.hid hbr; clear hbr
          have HB7 := Lib.hid hb7
          have HBX7 := Lib.hid hbx7
          have hs7 := hb7.size
          obtain ⟨d0, d1, d2, d3⟩ := box4 hbx7
          have hl7 := heap_lt hbx7
          clear hb7 hbx7
          by_cases hjl : j < o.attrs.length
          · have dj : decide ((j : Int) < (o.attrs.length : Int)) = true := decide_eq_true (by omega)
            have HOB := Lib.hid (show ∃ b2 off2, A2 = some ⟨b2, off2, none⟩ from by obtain ⟨b2, off2, e, _⟩ := HC2.out (by omega); exact ⟨b2, off2, e⟩)
            obtain ⟨b2, off2, hA2⟩ := HOB.out
            clear HOB
            subst hA2
            have hva7 : RdA wr (fun q => q < WN.heap.size) (.slice (some ⟨b2, off2, none⟩) o.attrs.length cap2) o.attrs := HVA.out.agree fun q hq _ => (HB7.out.block q hq).trans (HB.out.block q hq).symm
            obtain ⟨a0, a1⟩ := hva7.at_ j hjl
            clear hva7
            have has := HP.out.ls _ (List.getElem_mem hjl)
            have hyl := attrsB_len (l := o.attrs.take j) fun a ha => HP.out.ls a (List.mem_of_mem_take ha)
            have hyl2 : (o.attrs.take j).length ≤ 8 := by rw [List.length_take]; omega
            have hzl : (Y ++ attrsB (o.attrs.take j)).length ≤ Y.length + 2592 := by rw [List.length_append]; omega
            have hts : Y ++ attrsB (o.attrs.take (j + 1)) = Y ++ attrsB (o.attrs.take j) ++ ([sgn j] ++ o.attrs[j].k.data.toList ++ [58] ++ quoteL o.attrs[j].v.data.toList) := by
              rw [List.take_succ_eq_append_getElem hjl, attrsB_snoc, List.length_take, Nat.min_eq_left (Nat.le_of_lt hjl)]
              simp [pieceP, sgn]
            have HTS := Lib.hid hts; clear hts hyl hyl2
            generalize o.attrs[j] = a at *
            generalize Y ++ attrsB (o.attrs.take j) = Z at *
            have hq := refQuote_any a.v
            have HQT := Lib.hid hq; clear hq
            have hql := quoteL_len a.v.data.toList
            rw [len_data] at hql
            obtain ⟨QQ, hQQ⟩ : ∃ Q : ByteArray, Q = ⟨(quoteL a.v.data.toList).toArray⟩ := ⟨_, rfl⟩
            have hqs : QQ.size = (quoteL a.v.data.toList).length := by rw [hQQ]; exact sz_mk _
            have HQQ := Lib.hid hQQ
            rw [← hQQ] at HQT
            rw [← hqs] at hql
            clear hQQ hqs
            have HCE := Lib.hid (fun (w5 : World) (h5 : Below wr.heap.size wr w5) => And.intro (pure_cell h5 d3) (And.intro (pure_cell h5 a0) (pure_cell h5 a1)))
            by_cases hj0 : j = 0
            · skip
              have j0b : ((j : Int) == 0) = true := by simp; omega
              have hsg : sgn j = 123 := by unfold sgn; rw [if_pos hj0]
              have HSG := Lib.hid hsg; clear hsg
              obtain ⟨S1, hS1⟩ : ∃ S, (⟨#[123]⟩ : ByteArray) ++ a.k = S := ⟨_, rfl⟩
              obtain ⟨S2, hS2⟩ : ∃ S, S1 ++ (⟨#[58]⟩ : ByteArray) = S := ⟨_, rfl⟩
              obtain ⟨SS, hSS⟩ : ∃ S, S2 ++ QQ = S := ⟨_, rfl⟩
              have hsz : SS.size = 2 + a.k.size + QQ.size := by rw [← hSS, ← hS2, ← hS1, ByteArray.size_append, ByteArray.size_append, ByteArray.size_append, sz_1, sz_1]; omega
              have hsb : SS.size ≤ 400 := by omega
              have hs1b : S1.size ≤ 400 := by rw [← hS1, ByteArray.size_append, sz_1]; omega
              have hs2b : S2.size ≤ 400 := by rw [← hS2, ← hS1, ByteArray.size_append, ByteArray.size_append, sz_1, sz_1]; omega
              have HSD := Lib.hid (show Y ++ attrsB (o.attrs.take (j + 1)) = Z ++ SS.data.toList by rw [HTS.out, ← hSS, ← hS2, ← hS1, HSG.out, HQQ.out]; simp only [ByteArray.data_append, Array.toList_append, List.append_assoc])
              obtain ⟨has1, has2⟩ := has
              have hqb : QQ.size ≤ 258 := by omega
              have n1 : ¬ 9223372036854775807 < 1 + a.k.size := by omega
              have n2 : ¬ 9223372036854775807 < S1.size + 1 := by omega
              have n3 : ¬ 9223372036854775807 < S2.size + QQ.size := by omega
              clear hsz hj0
              go_upto_region 22 with fail
              go_region_law
                (first
                  | (go_simp; (go_at_call 82); refine (HQT.out _ (by omega)).mono ?_; rintro e w5 ⟨rfl, b5⟩; have hb5 : Below wr.heap.size wr w5 := ⟨b5.os, b5.tape, b5.output, b5.size, b5.block⟩; obtain ⟨e3, e0, e1⟩ := HCE.out w5 hb5; have hs5 := hb5.size; have HB5 := Lib.hid hb5; clear b5 hb5)
                  | (refine step_append_str (by rfl) _ _ _ _ (by rfl) WN.heap.size 5 i0 Tryz.underlying92 Tryz.underlying9 hi hz0 hz1 hz2 (.slice A7 n7 cap7) Z.length (Z.map bv) (by rfl) (own_agree HBR7.out (fun q hq => HB5.out.block q (HBR7.out.lt q hq).2)) SS (by rfl) (by unfold maxLen; omega) (by omega) (by omega) ?_; intro v6 w6 hown hgrow))
              all_goals
                obtain ⟨A6, cap6, rfl⟩ := ownF hown
                have hbx5 := (HB5.out.block _ hl7).trans HBX7.out
                have hbx6 := (hgrow.block _ (by omega) (fun e => own_ne (own_agree HBR7.out (fun q hq => HB5.out.block q (HBR7.out.lt q hq).2)) hbx5 (by decide) e.symm)).trans hbx5
                have hR := Lib.hid (show ARel WN _ o (some ⟨b2, off2, none⟩) cap2 Y (o.attrs.length - (j + 1)) (.slice A6 (Z.length + SS.size) cap6) (.int .i64 ((j + 1 : Nat) : Int)) w6 from
                  ⟨j + 1, by omega, rfl, by rw [HSD.out]; exact BR.pushS (l := Z) hown, (HB7.out.trans (HB5.out.mono hs7)).grown hgrow (by omega) (fun q hq => (HBR7.out.lt q hq).1), hbx6, _, _, _, rfl⟩)
                clear hown hgrow hbx5 hbx6
                clear hS1 hS2 hSS
                go_wp2
                go_roundg (o.attrs.length - (j + 1))
                case measure => omega
                case rel => exact hR.out
            · skip
              have j0b : ((j : Int) == 0) = false := by simp; omega
              have hsg : sgn j = 44 := by unfold sgn; rw [if_neg hj0]
              have HSG := Lib.hid hsg; clear hsg
              obtain ⟨S1, hS1⟩ : ∃ S, (⟨#[44]⟩ : ByteArray) ++ a.k = S := ⟨_, rfl⟩
              obtain ⟨S2, hS2⟩ : ∃ S, S1 ++ (⟨#[58]⟩ : ByteArray) = S := ⟨_, rfl⟩
              obtain ⟨SS, hSS⟩ : ∃ S, S2 ++ QQ = S := ⟨_, rfl⟩
              have hsz : SS.size = 2 + a.k.size + QQ.size := by rw [← hSS, ← hS2, ← hS1, ByteArray.size_append, ByteArray.size_append, ByteArray.size_append, sz_1, sz_1]; omega
              have hsb : SS.size ≤ 400 := by omega
              have hs1b : S1.size ≤ 400 := by rw [← hS1, ByteArray.size_append, sz_1]; omega
              have hs2b : S2.size ≤ 400 := by rw [← hS2, ← hS1, ByteArray.size_append, ByteArray.size_append, sz_1, sz_1]; omega
              have HSD := Lib.hid (show Y ++ attrsB (o.attrs.take (j + 1)) = Z ++ SS.data.toList by rw [HTS.out, ← hSS, ← hS2, ← hS1, HSG.out, HQQ.out]; simp only [ByteArray.data_append, Array.toList_append, List.append_assoc])
              obtain ⟨has1, has2⟩ := has
              have hqb : QQ.size ≤ 258 := by omega
              have n1 : ¬ 9223372036854775807 < 1 + a.k.size := by omega
              have n2 : ¬ 9223372036854775807 < S1.size + 1 := by omega
              have n3 : ¬ 9223372036854775807 < S2.size + QQ.size := by omega
              clear hsz hj0
              go_upto_region 22 with fail
              go_region_law
                (first
                  | (go_simp; (go_at_call 82); refine (HQT.out _ (by omega)).mono ?_; rintro e w5 ⟨rfl, b5⟩; have hb5 : Below wr.heap.size wr w5 := ⟨b5.os, b5.tape, b5.output, b5.size, b5.block⟩; obtain ⟨e3, e0, e1⟩ := HCE.out w5 hb5; have hs5 := hb5.size; have HB5 := Lib.hid hb5; clear b5 hb5)
                  | (refine step_append_str (by rfl) _ _ _ _ (by rfl) WN.heap.size 5 i0 Tryz.underlying92 Tryz.underlying9 hi hz0 hz1 hz2 (.slice A7 n7 cap7) Z.length (Z.map bv) (by rfl) (own_agree HBR7.out (fun q hq => HB5.out.block q (HBR7.out.lt q hq).2)) SS (by rfl) (by unfold maxLen; omega) (by omega) (by omega) ?_; intro v6 w6 hown hgrow))
              all_goals
                obtain ⟨A6, cap6, rfl⟩ := ownF hown
                have hbx5 := (HB5.out.block _ hl7).trans HBX7.out
                have hbx6 := (hgrow.block _ (by omega) (fun e => own_ne (own_agree HBR7.out (fun q hq => HB5.out.block q (HBR7.out.lt q hq).2)) hbx5 (by decide) e.symm)).trans hbx5
                have hR := Lib.hid (show ARel WN _ o (some ⟨b2, off2, none⟩) cap2 Y (o.attrs.length - (j + 1)) (.slice A6 (Z.length + SS.size) cap6) (.int .i64 ((j + 1 : Nat) : Int)) w6 from
                  ⟨j + 1, by omega, rfl, by rw [HSD.out]; exact BR.pushS (l := Z) hown, (HB7.out.trans (HB5.out.mono hs7)).grown hgrow (by omega) (fun q hq => (HBR7.out.lt q hq).1), hbx6, _, _, _, rfl⟩)
                clear hown hgrow hbx5 hbx6
                clear hS1 hS2 hSS
                go_wp2
                go_roundg (o.attrs.length - (j + 1))
                case measure => omega
                case rel => exact hR.out
          · have dj : decide ((j : Int) < (o.attrs.length : Int)) = false := decide_eq_false (by omega)
            have hje : j = o.attrs.length := by omega
            rw [hje, List.take_of_length_le (Nat.le_refl _)] at HBR7
            have hal7 := attrsB_len HP.out.ls
            have hYa : (Y ++ attrsB o.attrs).length ≤ Y.length + 2592 := by rw [List.length_append]; omega
            by_cases ha0 : o.attrs.length = 0
            · have da : decide ((0 : Int) < (o.attrs.length : Int)) = false := decide_eq_false (by omega)
              have hR := Lib.hid (show PRel WN f ops' (ops'.length - (k + 1)) (.slice A7 n7 cap7) (.int .i64 ((k + 1 : Nat) : Int)) _ from ⟨k + 1, by omega, rfl, HB7.out, by
                have e : printM f (ops'.take (k + 1)) = Y ++ attrsB o.attrs := by
                  rw [HSN.out, ← HY.out]; unfold opP attrsP
                  rw [if_pos (List.eq_nil_of_length_eq_zero ha0), List.eq_nil_of_length_eq_zero ha0]; simp [attrsB]
                rw [e]; exact HBR7.out, _, _, _, rfl⟩)
              go_upto_region 23 with fail
              rw [ha0] at d3
              have dz : decide ((0 : Int) < ((0 : Nat) : Int)) = false := rfl
              clear da dj
              go_wp2
              go_roundg (ops'.length - (k + 1))
              case measure => omega
              case rel => exact hR.out
            · have da : decide ((0 : Int) < (o.attrs.length : Int)) = true := decide_eq_true (by omega)
              have HAO := Lib.hid (show printM f (ops'.take (k + 1)) = (Y ++ attrsB o.attrs) ++ [125] by
                rw [HSN.out, ← HY.out]; unfold opP attrsP
                rw [if_neg (fun e => ha0 (by rw [e]; rfl))]; simp)
              obtain ⟨Z, hZ⟩ : ∃ Z, Y ++ attrsB o.attrs = Z := ⟨_, rfl⟩
              rw [hZ] at HBR7 hYa HAO
              clear hZ
              go_upto_region 23 with fail
              clear dj
              go_wp2_with (first | (at_builtin; refine wpList_append_own _ rfl _ _ 92 rfl WN.heap.size 5 i0 (.int .u8 0) 1 1 Tryz.underlying92 hi hz0 hz1 hz2 rfl (by decide) (.slice A7 n7 cap7) Z.length (Z.map bv) rfl (by exact HBR7.out.alloc _) ⟨wr.heap.size, 0, none⟩ 1 1 [.int .u8 125] rfl rfl (World.news_of_block (cs := #[.int .u8 125]) (t := 5) (fr := (0, 0)) (heap_alloc_new wr _)) (by simp [Value.oneCell']) (by unfold maxLen; omega) (by omega) (by simp; omega) ?_) | fail)
              intro v8 w8 hown hgrow _
              obtain ⟨A8, cap8, rfl⟩ := ownF hown
              have hR := Lib.hid (show PRel WN f ops' (ops'.length - (k + 1)) (.slice A8 (Z.length + 1) cap8) (.int .i64 ((k + 1 : Nat) : Int)) w8 from ⟨k + 1, by omega, rfl, (HB7.out.alloc hs7 _).grown hgrow (by simp; omega) (fun q hq => (HBR7.out.lt q hq).1), by rw [HAO.out]; exact BR.push (l := Z) (m := [125]) (n := 1) rfl hown, _, _, _, rfl⟩)
              clear hown hgrow
              go_wp2
              go_roundg (ops'.length - (k + 1))
              case measure => omega
              case rel => exact hR.out
    · have dk : decide ((k : Int) < (ops'.length : Int)) = false := decide_eq_false (by omega)
      have hkl : k = ops'.length := by omega
      rw [hkl, List.take_of_length_le (Nat.le_refl _)] at HBR hlr
      have hbw : Below w.heap.size w wr := HBN.out.trans (hb.mono HBN.out.size)
      have HBW := Lib.hid hbw; clear hbw
      have HB := Lib.hid hb; clear hb
      obtain ⟨X, hX⟩ : ∃ X, printM f ops' = X := ⟨_, rfl⟩
      rw [hX] at HBR hlr
      have hnx : n5 = X.length := by
        rcases HBR.out.2 with ⟨hv, h0⟩ | ⟨g, c2, cur, hv, _⟩
        · injection hv with _ hv2 _; omega
        · injection hv
      subst hnx
      by_cases hbig : 262144 < X.length
      · have hE : printE f ops = 3 := by unfold printE; rw [if_neg (by rw [HE.out]; simp), HOPS.out, hX, if_pos hbig]
        have HEE := Lib.hid hE; clear hE hX
        have hd : decide ((262144 : Int) < (X.length : Int)) = true := decide_eq_true (by omega)
        go_wp2
        go_ret2
        exact ⟨by unfold printS; rw [HEE.out]; rfl, HBW.out⟩
      · have hE : printE f ops = 0 := by unfold printE; rw [if_neg (by rw [HE.out]; simp), HOPS.out, hX, if_neg hbig]
        have hS : printS f ops = ⟨X.toArray⟩ := by unfold printS; rw [hE, HOPS.out, hX]; rfl
        have hne : X ≠ [] := by
          rw [← hX]; unfold printM
          have h1 : Lib.itoa f ≠ [] := by rw [HFN.out, ← mkD_data]; unfold mkD; rw [Lib.decDigits]; split <;> simp
          simp [h1]
        have HNE := Lib.hid hne; clear hne
        have HEE := Lib.hid hE; have HSS := Lib.hid hS; clear hE hS hX
        have hd : decide ((262144 : Int) < (X.length : Int)) = false := decide_eq_false (by omega)
        rcases HBR.out.2 with ⟨hv, h0⟩ | ⟨g, c2, cur, hv, _⟩
        · exact absurd (List.eq_nil_of_length_eq_zero h0) HNE.out
        · injection hv with hv1 hv2 hv3
          clear hv2
          subst hv1 hv3
          have hcv := run_convert_bytes_back (P := Tryz.prog) wr 92 9 5 ⟨g, 0, none⟩ cap5 X Tryz.underlying92 Tryz.underlying5 Tryz.underlying9 (fun j hj => by
            have := World.ownsRow.cellAt HBR.out j (by omega)
            rw [Addr.add_lit, Nat.zero_add, this, List.getElem?_map, List.getElem?_eq_getElem hj]; rfl)
          go_wp2
          go_ret2
          exact ⟨by rw [HSS.out, HEE.out]; rfl, HBW.out⟩
end Go.Proofs.YtdpmjlkmjmookaaGreatDoor
