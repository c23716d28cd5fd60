/-
  Package spell: Print, walked.
-/
import Derived.Test.YtdpmjlkmjmookaaGreatDoorPrintM
namespace Go.Proofs.YtdpmjlkmjmookaaGreatDoor
set_option linter.unusedVariables false
set_option linter.unusedSimpArgs false
open Go.RowKit Go.PlainAid

theorem Bld.pure {B b : Nat} {l : List UInt8} {w w' : World} (h : Bld B b l w) (hb : Below w.heap.size w w') : Bld B b l w' := by
  have key : ∀ p, Lib.BuilderAtF 94 5 B b p (Lib.byteCells l) w → Lib.BuilderAtF 94 5 B b p (Lib.byteCells l) w' := fun p h => by
    have hlt := h.lt
    obtain ⟨hB, v, hv, hown, hne⟩ := h
    exact ⟨hB, v, (hb.block b hlt).trans hv, hown.kept (row := none) ⟨hb.os, hb.tape, hb.output, hb.size, fun k hk _ => hb.block k hk⟩ (Classical.em _), hne⟩
  exact h.elim (fun x => .inl (key _ x)) (fun x => .inr (key _ x))
theorem Wrote.pure {B b : Nat} {w w' : World} (h : B ≤ w.heap.size) (hb : Below w.heap.size w w') : Wrote B b w w' :=
  ⟨hb.mono h, fun k o hk _ _ => (hb.block k (heap_lt hk)).trans hk⟩

def sgn (j : Nat) : UInt8 := if j = 0 then 123 else 44
theorem sgn_succ (j : Nat) : Value.int .u8 44 = .int .u8 (sgn (j + 1)).toNat := rfl
theorem sgn_pos {j : Nat} (h : 0 < j) : (((sgn j).toNat : Int) == 44) = true := by unfold sgn; rw [if_neg (by omega)]; rfl
theorem sz_mk (l : List UInt8) : (⟨l.toArray⟩ : ByteArray).size = l.length := by simp [ByteArray.size]
theorem sz_1 (a : UInt8) : (⟨#[a]⟩ : ByteArray).size = 1 := rfl
theorem sz_2 (a b : UInt8) : (⟨#[a, b]⟩ : ByteArray).size = 2 := rfl

def printE (f : Int) (ops : List OpM) : Int := if toE f ops ≠ 0 then toE f ops else if 262144 < (printM f (normM ops)).length then 3 else 0
def printS (f : Int) (ops : List OpM) : ByteArray := if printE f ops = 0 then ⟨(printM f (normM ops)).toArray⟩ else ⟨#[]⟩
def PrintPost (f : Int) (ops : List OpM) (w : World) (e : Ending) (w' : World) : Prop :=
  e = .returned (.tuple #[.string (printS f ops), .int .i64 (printE f ops)]) ∧ Below w.heap.size w w'

set_option maxHeartbeats 1000000 in
theorem print_bad (f : Int) (v : Value) (ops : List OpM) (F : Nat → Prop) (w : World) (h : RdO w F v ops) (hT : Tabs w) (he : toE f ops ≠ 0) :
    Calls Tryz.prog 16 #[.agg #[.int .i64 f, v]] w (PrintPost f ops w) := by
  obtain ⟨A, cap, rfl, hc, hcm, hm, hcell⟩ := h.open_
  have hE : printE f ops = toE f ops := by unfold printE; rw [if_pos he]
  have hS : printS f ops = ⟨#[]⟩ := by unfold printS; rw [hE, if_neg he]
  have HE := Lib.hid hE; have HS := Lib.hid hS; clear hE hS hcell
  have H := Lib.hid h; clear h
  have HT := Lib.hid hT; clear hT
  have hB : Below w.heap.size w (w.alloc (.cells #[.int .i64 f, .slice A ops.length cap] 24)) := (Below.refl _ w).alloc (Nat.le_refl _) _
  have hne : (toE f ops == 0) = false := by simpa using he
  go_enter Tryz.func16, Tryz.ntmps16
  go_wp2_with fail
  refine (normal_any f _ ops _ _ (H.out.pure hB) (HT.out.pure hB)).mono ?_
  rintro e w1 ⟨v', rfl, hb1, hr1⟩
  rw [if_neg he]
  rw [if_neg he] at hr1
  obtain ⟨A', cap', rfl, _⟩ := hr1.open_
  obtain ⟨hbx, hbl⟩ := box_heap hb1
  obtain ⟨b0, b1⟩ := box2 hbx
  have f0 := froz_heap hbx 0
  have f1 := froz_heap hbx 1
  have hb2 := (pure_trans hB hb1)
  clear he
  go_wp2
  go_ret2
  refine ⟨?_, ?_⟩
  · rw [HE.out, HS.out]; rfl
  · exact (hb2.setCell (p := ⟨w.heap.size, 0, none⟩) (Nat.le_refl _) _).setCell (p := ⟨w.heap.size, 1, none⟩) (Nat.le_refl _) _

set_option maxHeartbeats 4000000 in
theorem print_good (f : Int) (v : Value) (ops : List OpM) (F : Nat → Prop) (w : World) (h : RdO w F v ops) (hT : Tabs w) (he : toE f ops = 0) :
    Calls Tryz.prog 16 #[.agg #[.int .i64 f, v]] w (PrintPost f ops w) := by
  obtain ⟨A, cap, rfl, hc, hcm, hm, hcell⟩ := h.open_
  clear hcell
  have H := Lib.hid h; clear h
  have HT := Lib.hid hT; clear hT
  have hB : Below w.heap.size w (w.alloc (.cells #[.int .i64 f, .slice A ops.length cap] 24)) := (Below.refl _ w).alloc (Nat.le_refl _) _
  have hne : (toE f ops == 0) = true := by simpa using he
  have hf := (toE_fold he).1
  have HPR := Lib.hid (normM_pr he)
  have hnl := (normM_len he).1
  go_enter Tryz.func16, Tryz.ntmps16
  go_wp2_with fail
  refine (normal_any f _ ops _ _ (H.out.pure hB) (HT.out.pure hB)).mono ?_
  rintro e w1 ⟨v', rfl, hb1, hr1⟩
  rw [if_pos he, he]
  rw [if_pos he] at hr1
  obtain ⟨ops', hops⟩ : ∃ ops', normM ops = ops' := ⟨_, rfl⟩
  rw [hops] at hr1 HPR hnl
  have HE := Lib.hid he; clear he hne
  obtain ⟨A', cap', rfl, hc', hcm', hm', hcell'⟩ := hr1.open_
  have HC := Lib.hid hcell'; clear hcell'
  have HX := Lib.hid hr1; clear hr1
  obtain ⟨hbx, hbl⟩ := box_heap hb1
  obtain ⟨b0, b1⟩ := box2 hbx
  have f0 := froz_heap hbx 0
  have f1 := froz_heap hbx 1
  have hb2 := (pure_trans hB hb1)
  have HOPS := Lib.hid hops; clear hops
  go_wp2_with fail
  obtain ⟨WN, hWN⟩ : ∃ WN, (w1.setCell ⟨w.heap.size, 0, none⟩ (.int .i64 f)).setCell ⟨w.heap.size, 1, none⟩ (.slice A' ops'.length cap') = WN := ⟨_, rfl⟩
  rw [hWN]
  have hsz : WN.heap.size = w1.heap.size := by rw [← hWN]; simp
  have hbxN : WN.heap[w.heap.size]? = some (.cells #[.int .i64 f, .slice A' ops'.length cap'] 24 (0, 0)) := by rw [← hWN]; exact set_heap1 (set_heap hbx _) _
  have hbN : Below w.heap.size w WN := by rw [← hWN]; exact (hb2.setCell (p := ⟨w.heap.size, 0, none⟩) (Nat.le_refl _) _).setCell (p := ⟨w.heap.size, 1, none⟩) (Nat.le_refl _) _
  have hXN : RdO WN (fun k => k < WN.heap.size) (.slice A' ops'.length cap') ops' := by
    rw [← hWN]
    exact (HX.out.agree fun k hk _ => by
      have hk' : w.heap.size + 1 ≤ k := by simpa using hk
      rw [Below.heap_setCell _ ⟨w.heap.size, 1, none⟩ _ _ (by show k ≠ w.heap.size; omega), Below.heap_setCell _ ⟨w.heap.size, 0, none⟩ _ _ (by show k ≠ w.heap.size; omega)]).mono fun k _ hk => by simpa using hk
  have HTN := HT.out.pure hbN
  have hBF : Bld w1.heap.size w1.heap.size [] (WN.alloc (.cells #[.pointer none, .slice none 0 0] 94)) := by have := Bld.fresh WN; rwa [hsz] at this
  have HXN := Lib.hid hXN; have HBX := Lib.hid hbxN
  clear hWN hXN hbx b0 b1 f0 f1 hb1 hbxN
  have hA : Below WN.heap.size WN (WN.alloc (.cells #[.pointer none, .slice none 0 0] 94)) := (Below.refl _ WN).alloc (Nat.le_refl _) _
  refine (itoa_any f (by omega) (by omega) _ (HTN.pure hA)).mono ?_
  rintro e w2 ⟨rfl, hb3⟩
  have hBF2 := hBF.pure hb3
  have hbN2 : Below WN.heap.size WN w2 := hA.trans (hb3.mono hA.size)
  go_wp2_with fail
  refine (writeString_any w1.heap.size w1.heap.size [] _ w2 hBF2 (by have := itoa_len hf.1 (by omega); simp [ByteArray.size]; omega) (by have := hbN2.size; omega)).mono ?_
  rintro e w3 ⟨rfl, hB3, hW3⟩
  have hbN3 : Below WN.heap.size WN w3 := hbN2.trans (by rw [hsz]; exact hW3.below)
  have hbx3 := (hbN3.block _ (heap_lt HBX.out)).trans HBX.out
  obtain ⟨b0, b1⟩ := box2 hbx3
  go_wp2
  go_loopw [26] (fun i wr => ∃ k : Nat, k ≤ ops'.length ∧ i = .int .i64 k ∧ Below WN.heap.size WN wr ∧ Bld w1.heap.size w1.heap.size (printM f (ops'.take k)) wr) (fun i _ => ops'.length - (intOf i).toNat)
  case atStart => exact ⟨0, by omega, rfl, hbN3, by simpa [printM] using hB3⟩
  case round =>
    obtain ⟨k, hk, rfl, hb, hbl⟩ := hrel
    have hszr : w1.heap.size ≤ wr.heap.size := by have := hb.size; omega
    have hlr := printed_len hf.1 (by omega) hnl HPR.out k
    by_cases hlt : k < ops'.length
    · obtain ⟨b, off, rfl, hFb⟩ := HC.out (by omega)
      have hrd := HXN.out.pure hb
      obtain ⟨va, c0, c1, c2, c3, hva⟩ := hrd.at_ k hlt
      obtain ⟨A2, cap2, rfl, hc2, _, _, hcell2⟩ := hva.open_
      have HC2 := Lib.hid hcell2; clear hcell2
      have HVA := Lib.hid hva; clear hva hrd
      have hbk : b < wr.heap.size := World.block_lt_of_cell? wr _ c0
      have HP := Lib.hid (HPR.out _ (List.getElem_mem hlt))
      have HSN := Lib.hid (printM_snoc f ops' k hlt)
      have hnn := HP.out.n0; have hnn1 := HP.out.n1; have htt := HP.out.t; have hkl := kindP_len HP.out; have hal := HP.out.la; have hil := itoa_len hnn hnn1
      have hB4 : Below wr.heap.size wr (wr.alloc (.cells #[.int .i64 ops'[k].kind, .int .i64 ops'[k].n, .string ops'[k].text, .slice A2 ops'[k].attrs.length cap2] 48)) := (Below.refl _ wr).alloc (Nat.le_refl _) _
      have hbx4 : (wr.alloc (.cells #[.int .i64 ops'[k].kind, .int .i64 ops'[k].n, .string ops'[k].text, .slice A2 ops'[k].attrs.length cap2] 48)).heap[wr.heap.size]? = some (.cells #[.int .i64 ops'[k].kind, .int .i64 ops'[k].n, .string ops'[k].text, .slice A2 ops'[k].attrs.length cap2] 48 (0, 0)) := heap_alloc_new wr _
      have hbl4 := hbl.pure hB4
      have hT4 := (HTN.pure hb).pure hB4
      generalize hOO : ops'[k] = o at *
      have hb4 : Below WN.heap.size WN (wr.alloc (.cells #[.int .i64 o.kind, .int .i64 o.n, .string o.text, .slice A2 o.attrs.length cap2] 48)) := hb.trans (hB4.mono hb.size)
      obtain ⟨W4, hW4⟩ : ∃ W4, wr.alloc (.cells #[.int .i64 o.kind, .int .i64 o.n, .string o.text, .slice A2 o.attrs.length cap2] 48) = W4 := ⟨_, rfl⟩
      rw [hW4] at hbx4 hbl4 hT4 hb4 hB4
      have hs4 : W4.heap.size = wr.heap.size + 1 := by rw [← hW4]; simp
      have HBX4 := Lib.hid hbx4
      obtain ⟨d0, d1, d2, d3⟩ := box4 hbx4
      have hne4 : wr.heap.size ≠ w1.heap.size := by have := hbl.lt; omega
      generalize hX : printM f (ops'.take k) = X at *
      clear hX
      by_cases k1 : o.kind = 1
      case' pos =>
        have k1b : (o.kind == 1) = true := by simpa using k1
        have hkp : X ++ kindP o = X ++ (32 :: 61 :: Lib.itoa o.n) := by unfold kindP; rw [if_pos k1]
        have HKP := Lib.hid hkp; clear hkp k1
        go_wp2_with fail
        try rw [hW4]
        refine (itoa_any o.n (by omega) (by omega) _ hT4).mono ?_
        rintro e w5 ⟨rfl, hb5⟩
        go_wp2_with fail
        refine (writeString_any w1.heap.size w1.heap.size X _ w5 (hbl4.pure hb5) (by rw [ByteArray.size_append, sz_2, sz_mk]; have := itoa_len hnn hnn1; omega) (by have := hb5.size; omega)).mono ?_
        rintro e w6 ⟨rfl, hB6, hW6⟩
        have hW6' : Wrote w1.heap.size w1.heap.size W4 w6 := (Wrote.pure (by omega) hb5).trans hW6
        have hB6' : Bld w1.heap.size w1.heap.size (X ++ kindP o) w6 := by rw [HKP.out]; exact hB6
      case' neg =>
        have k1b : (o.kind == 1) = false := by simpa using k1
        by_cases k3 : o.kind = 3
        case' pos =>
          have k3b : (o.kind == 3) = true := by simpa using k3
          have hkp : X ++ kindP o = X ++ (32 :: 45 :: Lib.itoa o.n) := by unfold kindP; rw [if_neg k1, if_pos k3]
          have HKP := Lib.hid hkp; clear hkp k1 k3
          go_wp2_with fail
          try rw [hW4]
          refine (itoa_any o.n (by omega) (by omega) _ hT4).mono ?_
          rintro e w5 ⟨rfl, hb5⟩
          go_wp2_with fail
          refine (writeString_any w1.heap.size w1.heap.size X _ w5 (hbl4.pure hb5) (by rw [ByteArray.size_append, sz_2, sz_mk]; have := itoa_len hnn hnn1; omega) (by have := hb5.size; omega)).mono ?_
          rintro e w6 ⟨rfl, hB6, hW6⟩
          have hW6' : Wrote w1.heap.size w1.heap.size W4 w6 := (Wrote.pure (by omega) hb5).trans hW6
          have hB6' : Bld w1.heap.size w1.heap.size (X ++ kindP o) w6 := by rw [HKP.out]; exact hB6
        case' neg =>
          have k3b : (o.kind == 3) = false := by simpa using k3
          have k2 : o.kind = 2 := by have := HP.out.k; omega
          have k2b : (o.kind == 2) = true := by simpa using k2
          have hkp : X ++ kindP o = (X ++ [32, 43]) ++ quoteL o.text.data.toList := by unfold kindP; rw [if_neg k1, if_neg k3, if_pos k2]; simp
          have HKP := Lib.hid hkp; clear hkp k1 k3 k2
          go_wp2_with fail
          try rw [hW4]
          refine (writeString_any w1.heap.size w1.heap.size X ⟨#[32, 43]⟩ _ hbl4 (by simp [ByteArray.size]; omega) (by omega)).mono ?_
          rintro e w5 ⟨rfl, hB5, hW5⟩
          have hbx5 := hW5.cell HBX4.out hne4 (by decide)
          have hs5 := hW5.below.size
          obtain ⟨e0, e1, e2, e3⟩ := box4 hbx5
          go_wp2_with fail
          refine (quoted_any w1.heap.size w1.heap.size (X ++ [32, 43]) o.text w5 hB5 (by simp; omega) (by omega)).mono ?_
          rintro e w6 ⟨rfl, hB6, hW6⟩
          have hW6' : Wrote w1.heap.size w1.heap.size W4 w6 := hW5.trans hW6
          have hB6' : Bld w1.heap.size w1.heap.size (X ++ kindP o) w6 := by rw [HKP.out]; exact hB6
          clear e0 e1 e2 e3 hbx5
      all_goals
        have hbx6 := hW6'.cell HBX4.out hne4 (by decide)
        have hs6 := hW6'.below.size
        obtain ⟨e0, e1, e2, e3⟩ := box4 hbx6
        have hbN6 : Below WN.heap.size WN w6 := hb4.trans (by rw [hsz]; exact hW6'.below)
        clear d0 d1 d2 d3 hW4
        have HV4 := Lib.hid (HVA.out.pure hB4)
        have hkl2 : (X ++ kindP o).length ≤ X.length + 1600000024 := by rw [List.length_append]; omega
        generalize hY : X ++ kindP o = Y at *
        go_wp2
        go_loopw [55, 8] (fun i s wi => ∃ j : Nat, j ≤ o.attrs.length ∧ i = .int .i64 j ∧ s = .int .u8 (sgn j).toNat ∧ Wrote w1.heap.size w1.heap.size W4 wi ∧ Bld w1.heap.size w1.heap.size (Y ++ attrsB (o.attrs.take j)) wi) (fun i _ _ => o.attrs.length - (intOf i).toNat)
        case atStart => exact ⟨0, by omega, rfl, rfl, hW6', by simpa [attrsB] using hB6'⟩
        case round =>
          obtain ⟨j, hj, rfl, rfl, hWi, hBi⟩ := hrel
          have hsi := hWi.below.size
          by_cases hjl : j < o.attrs.length
          · obtain ⟨b2, off2, rfl, hF2⟩ := HC2.out (by omega)
            have hvai := HV4.out.agree (w' := wr) fun k hk _ => hWi.below.block k (by omega)
            obtain ⟨a0, a1⟩ := hvai.at_ j hjl
            have has := HP.out.ls _ (List.getElem_mem hjl)
            have hbk2 : b2 < wr.heap.size := World.block_lt_of_cell? wr _ a0
            have htl := attrsB_len (l := o.attrs.take j) fun a ha => HP.out.ls a (List.mem_of_mem_take ha)
            have htl2 : (o.attrs.take j).length ≤ 8 := by rw [List.length_take]; omega
            have hzl : (Y ++ attrsB (o.attrs.take j)).length ≤ Y.length + 2592 := by rw [List.length_append]; omega
            have hts : Y ++ attrsB (o.attrs.take (j + 1)) = Y ++ attrsB (o.attrs.take j) ++ [sgn j] ++ (o.attrs[j].k.data.toList ++ [58]) ++ quoteL o.attrs[j].v.data.toList := by
              rw [List.take_succ_eq_append_getElem hjl, attrsB_snoc, List.length_take, Nat.min_eq_left hj]
              simp [pieceP, sgn]
            have HTS := Lib.hid hts; clear hts htl htl2
            generalize hAA : o.attrs[j] = a at *
            generalize hZ : Y ++ attrsB (o.attrs.take j) = Z at *
            clear hZ hAA
            have hbxa : (wr.alloc (.cells #[.string a.k, .string a.v] 89)).heap[wr.heap.size]? = some (.cells #[.string a.k, .string a.v] 89 (0, 0)) := heap_alloc_new wr _
            have hBa := hBi.alloc (.cells #[.string a.k, .string a.v] 89)
            have hWa : Wrote w1.heap.size w1.heap.size W4 (wr.alloc (.cells #[.string a.k, .string a.v] 89)) := hWi.alloc (by omega) _
            have hnea : wr.heap.size ≠ w1.heap.size := by omega
            obtain ⟨Wa, hWA⟩ : ∃ Wa, wr.alloc (.cells #[.string a.k, .string a.v] 89) = Wa := ⟨_, rfl⟩
            rw [hWA] at hbxa hBa hWa
            have HBA := Lib.hid hbxa
            have hsa := hWa.below.size
            clear hvai
            go_wp2_with fail
            refine (writeByte_any w1.heap.size w1.heap.size Z (sgn j) Wa hBa (by omega) (by omega)).mono ?_
            rintro e w7 ⟨rfl, hB7, hW7⟩
            have hbx7 := hW7.cell HBA.out hnea (by decide)
            have hs7 := hW7.below.size
            obtain ⟨g0, g1⟩ := box2 hbx7
            go_wp2_with fail
            refine (writeString_any w1.heap.size w1.heap.size (Z ++ [sgn j]) _ w7 hB7 (by rw [ByteArray.size_append, sz_1, List.length_append, List.length_singleton]; omega) (by omega)).mono ?_
            rintro e w8 ⟨rfl, hB8, hW8⟩
            have hbx8 := (hW7.trans hW8).cell HBA.out hnea (by decide)
            have hs8 := hW8.below.size
            obtain ⟨i0, i1⟩ := box2 hbx8
            have hB8' : Bld w1.heap.size w1.heap.size (Z ++ [sgn j] ++ (a.k.data.toList ++ [58])) w8 := by simpa using hB8
            clear hB8
            go_wp2_with fail
            refine (quoted_any w1.heap.size w1.heap.size (Z ++ [sgn j] ++ (a.k.data.toList ++ [58])) a.v w8 hB8' (by have := len_data a.k; simp only [List.length_append, List.length_singleton]; omega) (by omega)).mono ?_
            rintro e w9 ⟨rfl, hB9, hW9⟩
            go_wp2
            exact ⟨⟨j + 1, by omega, by go_num, sgn_succ j, ((hWa.trans hW7).trans hW8).trans hW9, by rw [HTS.out]; exact hB9⟩, by simp [intOf]; omega⟩
          · have hje : j = o.attrs.length := by omega
            rw [hje, List.take_of_length_le (Nat.le_refl _)] at hBi
            rw [hje]
            have hYl := attrsB_len HP.out.ls
            have hYl2 : (Y ++ attrsB o.attrs).length ≤ Y.length + 2592 := by rw [List.length_append]; omega
            by_cases ha0 : o.attrs.length = 0
            · have hao : printM f (ops'.take (k + 1)) = Y ++ attrsB o.attrs := by
                rw [HSN.out, ← hY]; unfold opP attrsP
                rw [if_pos (List.eq_nil_of_length_eq_zero ha0), List.eq_nil_of_length_eq_zero ha0]; simp [attrsB]
              have HAO := Lib.hid hao; clear hao hje
              rw [ha0]
              go_wp2
              exact ⟨⟨k + 1, by omega, by go_num, hb4.trans (by rw [hsz]; exact hWi.below), by rw [HAO.out]; exact hBi⟩, by simp [intOf]; omega⟩
            · have hao : printM f (ops'.take (k + 1)) = Y ++ attrsB o.attrs ++ [125] := by
                rw [HSN.out, ← hY]; unfold opP attrsP
                rw [if_neg (fun e => ha0 (by rw [e]; rfl))]; simp
              have HAO := Lib.hid hao; clear hao hje
              have hsg := sgn_pos (j := o.attrs.length) (by omega)
              go_wp2_with fail
              refine (writeByte_any w1.heap.size w1.heap.size _ 125 wr hBi (by omega) (by omega)).mono ?_
              rintro e w7 ⟨rfl, hB7, hW7⟩
              go_wp2
              exact ⟨⟨k + 1, by omega, by go_num, hb4.trans (by rw [hsz]; exact (hWi.trans hW7).below), by rw [HAO.out]; exact hB7⟩, by simp [intOf]; omega⟩
    · have hkl : k = ops'.length := by omega
      rw [hkl, List.take_of_length_le (Nat.le_refl _)] at hbl hlr
      have hbw : Below w.heap.size w wr := hbN.trans (hb.mono hbN.size)
      by_cases hbig : 262144 < (printM f ops').length
      · have hE : printE f ops = 3 := by unfold printE; rw [if_neg (by rw [HE.out]; simp), HOPS.out, if_pos hbig]
        have HEE := Lib.hid hE; clear hE
        have hd : decide (262144 < (printM f ops').length) = true := by simpa using hbig
        go_wp2_with fail
        refine (blen_any w1.heap.size w1.heap.size _ wr hbl).mono ?_
        rintro e w7 ⟨rfl, rfl⟩
        go_wp2
        go_ret2
        exact ⟨by unfold printS; rw [HEE.out]; rfl, hbw⟩
      · have hE : printE f ops = 0 := by unfold printE; rw [if_neg (by rw [HE.out]; simp), HOPS.out, if_neg hbig]
        have hS : printS f ops = ⟨(printM f ops').toArray⟩ := by unfold printS; rw [hE, HOPS.out]; rfl
        have HEE := Lib.hid hE; have HSS := Lib.hid hS; clear hE hS
        have hd : decide (262144 < (printM f ops').length) = false := by simpa using hbig
        go_wp2_with fail
        refine (blen_any w1.heap.size w1.heap.size _ wr hbl).mono ?_
        rintro e w7 ⟨rfl, rfl⟩
        go_wp2_with fail
        refine (bstring_any w1.heap.size w1.heap.size _ wr hbl hszr).mono ?_
        rintro e w8 ⟨rfl, hB8, hW8⟩
        go_wp2
        go_ret2
        exact ⟨by rw [HEE.out, HSS.out]; rfl, hbw.trans (hW8.below.mono (by have := hbN.size; omega))⟩

theorem print_any (f : Int) (v : Value) (ops : List OpM) (F : Nat → Prop) (w : World) (h : RdO w F v ops) (hT : Tabs w) :
    Calls Tryz.prog 16 #[.agg #[.int .i64 f, v]] w (PrintPost f ops w) := by
  by_cases he : toE f ops = 0
  · exact print_good f v ops F w h hT he
  · exact print_bad f v ops F w h hT he
end Go.Proofs.YtdpmjlkmjmookaaGreatDoor
