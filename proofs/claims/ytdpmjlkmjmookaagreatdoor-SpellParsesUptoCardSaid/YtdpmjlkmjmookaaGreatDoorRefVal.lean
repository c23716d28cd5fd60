/-
  The references' attributes: value, Change, Right (blotterref02), walked.
-/
import Derived.Test.YtdpmjlkmjmookaaGreatDoorRefKey
namespace Go.Proofs.YtdpmjlkmjmookaaGreatDoor
open Go.RowKit Go.PlainAid

theorem valOk_is (s : ByteArray) : valOk s = (s.data.toList.all isValB && decide (s.size ≤ 64)) := rfl
set_option maxHeartbeats 4000000 in
theorem refValue_any (s : ByteArray) (w : World) (hs : s.size ≤ 1099511627776) :
    Calls Tryz.prog 174 #[.string s] w fun e w' => e = .returned (.bool (valOk s)) ∧ w' = w := by
  have HK := Lib.hid (valOk_is s)
  go_enter Tryz.func174, Tryz.ntmps174
  go_wp2
  go_loop [3] (fun i => ∃ k : Nat, k ≤ s.size ∧ i = .int .i64 k ∧ (s.data.toList.take k).all isValB = true) (fun i => s.size - (intOf i).toNat)
  case atStart => exact ⟨0, by omega, rfl, by simp⟩
  case round =>
    obtain ⟨k, hk, rfl, hf⟩ := hrel
    have HF := Lib.hid hf; clear hf
    by_cases hlt : k < s.size
    · have HS := Lib.hid (all_snoc_byte isValB s k hlt)
      have HN := Lib.hid (all_no isValB s k hlt)
      have hu8 : (s[k]'hlt).toNat < 256 := (s[k]'hlt).toNat_lt
      have hik : isValB (s[k]'hlt) = (decide (32 ≤ (s[k]'hlt).toNat) && decide ((s[k]'hlt).toNat ≤ 126)) := rfl
      have HIK := Lib.hid hik; clear hik
      by_cases a1 : (s[k]'hlt).toNat < 32
      · have b1 : decide (((s[k]'hlt).toNat : Int) < 32) = true := by simp; omega
        have hb : isValB (s[k]'hlt) = false := by rw [HIK.out]; simp; omega
        have HB := Lib.hid hb; clear hb
        go_wp2
        go_ret
        exact ⟨ret_bool (by rw [HK.out, HN.out HB.out]; rfl), rfl⟩
      · have b1 : decide (((s[k]'hlt).toNat : Int) < 32) = false := by simp; omega
        by_cases a2 : 126 < (s[k]'hlt).toNat
        · have b2 : decide ((126 : Int) < ((s[k]'hlt).toNat : Int)) = true := by simp; omega
          have hb : isValB (s[k]'hlt) = false := by rw [HIK.out]; simp; omega
          have HB := Lib.hid hb; clear hb
          go_wp2
          go_ret
          exact ⟨ret_bool (by rw [HK.out, HN.out HB.out]; rfl), rfl⟩
        · have b2 : decide ((126 : Int) < ((s[k]'hlt).toNat : Int)) = false := by simp; omega
          have hb : isValB (s[k]'hlt) = true := by rw [HIK.out]; simp; omega
          have HB := Lib.hid hb; clear hb
          go_wp2
          exact ⟨⟨k + 1, by omega, by go_num, by rw [HS.out, HF.out, HB.out]; rfl⟩, by simp [intOf]; omega⟩
    · have hka : s.data.toList.all isValB = true := by
        have hsz := len_data s
        rw [← HF.out, List.take_of_length_le (by omega)]
      have HA := Lib.hid (show valOk s = decide (s.size ≤ 64) by rw [HK.out, hka]; rfl)
      clear hka
      go_wp2
      go_ret
      exact ⟨ret_bool (by rw [HA.out]; simp; omega), rfl⟩

theorem bytes_tri : ∀ (x y : List UInt8), (Op.bytesLess x y || (x == y)) = !Op.bytesLess y x
  | [], [] => by rfl
  | [], _ :: _ => by rfl
  | _ :: _, [] => by rfl
  | a :: x, b :: y => by
    have ih := bytes_tri x y
    simp only [Op.bytesLess]
    rcases Nat.lt_trichotomy a.toNat b.toNat with h | h | h
    · have h1 : a < b := h
      have h2 : ¬ b < a := fun h' => by have : b.toNat < a.toNat := h'; omega
      have h3 : ¬ b = a := fun h' => by subst h'; omega
      simp [h1, h2, h3]
    · have h1 : a = b := UInt8.toNat_inj.1 h
      subst h1
      have h2 : ¬ a < a := fun h' => by have : a.toNat < a.toNat := h'; omega
      simp only [h2, decide_false, beq_self_eq_true, Bool.true_and, Bool.false_or]
      rw [← ih]
      congr 1
      simp
    · have h1 : ¬ a < b := fun h' => by have : a.toNat < b.toNat := h'; omega
      have h2 : b < a := h
      have h3 : ¬ a = b := fun h' => by subst h'; omega
      simp [h1, h2, h3]
set_option maxHeartbeats 4000000 in
theorem refChange_any (v : Value) (l : List At) (F : Nat → Prop) (w : World) (h : RdA w F v l) :
    Calls Tryz.prog 142 #[v] w fun e w' => e = .returned (.int .i64 (changeE l)) ∧ Below w.heap.size w w' := by
  obtain ⟨A, cap, rfl, hc, hcm, hm, hcell⟩ := h.open_
  have HC := Lib.hid hcell; clear hcell
  have H := Lib.hid h; clear h
  by_cases hbig : 8 < l.length
  · have hd : decide ((8 : Int) < (l.length : Int)) = true := by simp; omega
    have hbad : changeE l = 20 := changeE_bad l 8 hbig (by rw [okAt_of l 8 hbig]; simp)
    have HB := Lib.hid hbad; clear hbad
    go_enter Tryz.func142, Tryz.ntmps142
    go_wp2
    go_ret
    exact ⟨ret_int HB.out.symm, Below.refl _ _⟩
  · have hd : decide ((8 : Int) < (l.length : Int)) = false := by simp; omega
    go_enter Tryz.func142, Tryz.ntmps142
    go_wp2
    go_loopw [3] (fun i wr => ∃ k : Nat, k ≤ l.length ∧ i = .int .i64 k ∧ Below w.heap.size w wr ∧ (List.range k).all (okAt l) = true) (fun i _ => l.length - (intOf i).toNat)
    case atStart => exact ⟨0, by omega, rfl, Below.refl _ _, by simp⟩
    case round =>
      obtain ⟨k, hk, rfl, hb, hf⟩ := hrel
      have HF := Lib.hid hf; clear hf
      by_cases hlt : k < l.length
      · obtain ⟨b, off, rfl, hF⟩ := HC.out (by omega)
        obtain ⟨c0, c1⟩ := (H.out.pure hb).at_ k hlt
        obtain ⟨hs0, hs1⟩ : l[k].k.size ≤ 1099511627776 ∧ l[k].v.size ≤ 1099511627776 := H.out.sizes _ (List.getElem_mem hlt)
        have hbl : b < wr.heap.size := World.block_lt_of_cell? wr _ c0
        have hok1 := okAt_of l k hlt
        rw [show decide (k < 8) = true by simp; omega, Bool.true_and] at hok1
        have HOK := Lib.hid hok1; clear hok1
        go_wp2_with fail
        refine (refKey_any l[k].k _ hs0).mono ?_
        rintro e w' ⟨rfl, rfl⟩
        go_wp2_with fail
        refine (refValue_any l[k].v _ hs1).mono ?_
        rintro e w' ⟨rfl, rfl⟩
        obtain ⟨kb, hkb⟩ : ∃ kb, keyOk l[k].k = kb := ⟨_, rfl⟩
        obtain ⟨vb, hvb⟩ : ∃ vb, valOk l[k].v = vb := ⟨_, rfl⟩
        rw [hkb, hvb]
        have HKB := Lib.hid hkb; have HVB := Lib.hid hvb; clear hkb hvb
        go_wp2_with fail
        cases kb with
        | false =>
          have hbad : changeE l = 20 := changeE_bad l k hlt (by rw [HOK.out, HKB.out]; simp)
          have HB := Lib.hid hbad; clear hbad
          go_quiet (fail)
          go_wp2
          go_ret
          exact ⟨ret_int HB.out.symm, below_drewN hb _⟩
        | true =>
          cases vb with
          | false =>
            have hbad : changeE l = 20 := changeE_bad l k hlt (by rw [HOK.out, HVB.out]; simp)
            have HB := Lib.hid hbad; clear hbad
            go_quiet (fail)
            go_wp2
            go_ret
            exact ⟨ret_int HB.out.symm, below_drewN hb _⟩
          | true =>
            have hok2 : okAt l k = ltPrev l l[k] k := by
              rw [HOK.out, HKB.out, HVB.out]; rfl
            have HOK2 := Lib.hid hok2; clear hok2
            by_cases h0 : 0 < k
            · have hd0 : decide ((0 : Int) < (k : Int)) = true := by simp; omega
              have hk1 : k - 1 < l.length := by omega
              obtain ⟨d0, d1⟩ := (H.out.pure hb).at_ (k - 1) hk1
              have hpl : ltPrev l l[k] k = Op.bytesLess (l[k - 1]'hk1).k.toList l[k].k.toList := by
                obtain ⟨j, rfl⟩ : ∃ j, k = j + 1 := ⟨k - 1, by omega⟩
                exact ltPrev_succ l _ j (by omega)
              have HPL := Lib.hid hpl; clear hpl
              have e1 : IntKind.i64.wrap ((k : Int) - 1) = (k : Int) - 1 := IntWalk.i64_in _ (by omega)
              have e2 : (0 : Int) ≤ (k : Int) - 1 := by omega
              have e3 : ((k : Int) - 1).toNat = k - 1 := by omega
              have e4 : (k : Int) - 1 < (l.length : Int) := by omega
              have htri := bytes_tri l[k].k.toList (l[k - 1]'hk1).k.toList
              by_cases hless : Op.bytesLess (l[k - 1]'hk1).k.toList l[k].k.toList = true
              · rw [hless, Bool.not_true] at htri
                obtain ⟨t1, t2⟩ : Op.bytesLess l[k].k.toList (l[k - 1]'hk1).k.toList = false ∧ (l[k].k.toList == (l[k - 1]'hk1).k.toList) = false := by simpa using htri
                clear htri
                go_quiet (fail)
                clear e1 e2 e3 e4
                have hok : (List.range (k + 1)).all (okAt l) = true := by rw [okChange_snoc, HF.out, HOK2.out, HPL.out, hless]; rfl
                have HR := Lib.hid hok; clear hok
                go_wp2
                exact ⟨⟨k + 1, by omega, by go_num, below_drewN hb _, HR.out⟩, by simp [intOf]; omega⟩
              · have hless' : Op.bytesLess (l[k - 1]'hk1).k.toList l[k].k.toList = false := by simpa using hless
                have hbad : changeE l = 20 := changeE_bad l k hlt (by rw [HOK2.out, HPL.out]; exact hless')
                have HB := Lib.hid hbad; clear hbad
                clear hless
                rw [hless', Bool.not_false] at htri
                clear hless'
                go_quiet (fail)
                clear e1 e2 e3 e4
                go_wp2
                go_ret
                exact ⟨ret_int HB.out.symm, below_drewN hb _⟩
            · have hd0 : decide ((0 : Int) < (k : Int)) = false := by simp; omega
              have hok : (List.range (k + 1)).all (okAt l) = true := by
                rw [okChange_snoc, HF.out, HOK2.out]
                obtain rfl : k = 0 := by omega
                rfl
              have HR := Lib.hid hok; clear hok
              go_quiet (fail)
              go_wp2
              exact ⟨⟨k + 1, by omega, by go_num, below_drewN hb _, HR.out⟩, by simp [intOf]; omega⟩
      · have hgood : changeE l = 0 := by
          unfold changeE okChange
          rw [show l.length = k from by omega, HF.out]; rfl
        have HG := Lib.hid hgood; clear hgood
        go_wp2
        go_ret
        exact ⟨ret_int HG.out.symm, hb⟩

theorem rightE_any_nil {l : List At} (h : l.all (fun a => !a.v.toList.isEmpty) = true) : rightE l = changeE l := by
  unfold rightE
  rw [if_neg]
  intro hc
  rw [List.any_eq_true] at hc
  obtain ⟨a, ha, h2⟩ := hc
  rw [List.all_eq_true] at h
  have := h a ha
  rw [h2] at this; simp at this
theorem rightE_some {l : List At} (k : Nat) (hk : k < l.length) (h : l[k].v.toList.isEmpty = true) : rightE l = 20 := by
  unfold rightE
  rw [if_pos]
  rw [List.any_eq_true]
  exact ⟨l[k], List.getElem_mem hk, h⟩
set_option maxHeartbeats 4000000 in
theorem refRightA_any (v : Value) (l : List At) (F : Nat → Prop) (w : World) (h : RdA w F v l) :
    Calls Tryz.prog 141 #[v] w fun e w' => e = .returned (.int .i64 (rightE l)) ∧ Below w.heap.size w w' := by
  obtain ⟨A, cap, rfl, hc, hcm, hm, hcell⟩ := h.open_
  have HC := Lib.hid hcell; clear hcell
  have H := Lib.hid h; clear h
  go_enter Tryz.func141, Tryz.ntmps141
  go_wp2_with fail
  refine (refChange_any _ l F _ H.out).mono ?_
  rintro e w1 ⟨rfl, b1⟩
  by_cases he : changeE l = 0
  · have HE := Lib.hid he
    rw [he]; clear he
    go_wp2
    go_loopw [4] (fun i wr => ∃ k : Nat, k ≤ l.length ∧ i = .int .i64 k ∧ Below w.heap.size w wr ∧ (l.take k).all (fun a => !a.v.toList.isEmpty) = true) (fun i _ => l.length - (intOf i).toNat)
    case atStart => exact ⟨0, by omega, rfl, b1, by simp⟩
    case round =>
      obtain ⟨k, hk, rfl, hb, hf⟩ := hrel
      have HF := Lib.hid hf; clear hf
      by_cases hlt : k < l.length
      · obtain ⟨b, off, rfl, hF⟩ := HC.out (by omega)
        obtain ⟨c0, c1⟩ := (H.out.pure hb).at_ k hlt
        have hbl : b < wr.heap.size := World.block_lt_of_cell? wr _ c0
        have hd : decide ((k : Int) < (l.length : Int)) = true := by simp; omega
        by_cases hv : l[k].v.toList.isEmpty = true
        · have HR := Lib.hid (rightE_some k hlt hv)
          go_wp2
          go_ret
          exact ⟨ret_int HR.out.symm, hb⟩
        · have hv1 : l[k].v.toList.isEmpty = false := by simpa using hv
          have HV := Lib.hid hv1
          clear hv
          have HS := Lib.hid (take_all_snoc (fun a : At => !a.v.toList.isEmpty) l k hlt)
          go_wp2
          exact ⟨⟨k + 1, by omega, by go_num, hb, by rw [HS.out, HF.out, HV.out]; rfl⟩, by simp [intOf]; omega⟩
      · have hd : decide ((k : Int) < (l.length : Int)) = false := by simp; omega
        have hR : rightE l = 0 := by
          have h1 := HF.out
          rw [List.take_of_length_le (by omega)] at h1
          rw [rightE_any_nil h1, HE.out]
        have HR := Lib.hid hR; clear hR
        go_wp2
        go_ret
        exact ⟨ret_int HR.out.symm, hb⟩
  · have he2 : changeE l = 20 := by unfold changeE at he ⊢; split at he <;> simp_all
    have hR : rightE l = 20 := by unfold rightE; split; rfl; exact he2
    have HR := Lib.hid hR; clear hR he
    rw [he2]; clear he2
    by_cases hl : 0 < l.length
    · have hd : decide ((0 : Int) < (l.length : Int)) = true := by simp; omega
      go_wp2
      go_loopw [4] (fun i wr => i = .int .i64 0 ∧ wr = w1) (fun i _ => 0)
      case atStart => exact ⟨rfl, rfl⟩
      case round =>
        obtain ⟨rfl, rfl⟩ := hrel
        go_wp2
        go_ret
        exact ⟨ret_int HR.out.symm, b1⟩
    · have hd : decide ((0 : Int) < (l.length : Int)) = false := decide_eq_false (by omega)
      go_wp2
      go_loopw [4] (fun i wr => i = .int .i64 0 ∧ wr = w1) (fun i _ => 0)
      case atStart => exact ⟨rfl, rfl⟩
      case round =>
        obtain ⟨rfl, rfl⟩ := hrel
        go_wp2
        go_ret
        exact ⟨ret_int HR.out.symm, b1⟩
end Go.Proofs.YtdpmjlkmjmookaaGreatDoor
