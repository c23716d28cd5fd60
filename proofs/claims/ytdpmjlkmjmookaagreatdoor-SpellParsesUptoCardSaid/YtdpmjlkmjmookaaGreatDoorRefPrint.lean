/-
  The references' Utf8 (blotterref01), Quote and number (blotterref04), walked.
-/
import Derived.Test.YtdpmjlkmjmookaaGreatDoorRefTo
import Derived.Test.YtdpmjlkmjmookaaGreatDoorRefQuote
import Derived.Test.YtdpmjlkmjmookaaGreatDoorPrintM
namespace Go.Proofs.YtdpmjlkmjmookaaGreatDoor
set_option linter.unusedVariables false
set_option linter.unusedSimpArgs false
open Go.RowKit Go.PlainAid

set_option maxHeartbeats 1000000 in
theorem refUtf8_any (s : ByteArray) (w : World) (hs : s.size ≤ 1099511627776) :
    Calls Tryz.prog 83 #[.string s] w fun e w' => e = .returned (.bool (Lib.validD s.data.toList)) ∧ Below w.heap.size w w' := by
  have hl := Lib.runeCount_le s
  have hr := refLen_is s
  cases hv : Lib.validD s.data.toList with
  | false =>
    rw [hv] at hr
    have HR := Lib.hid (show refLen s = none by simpa using hr)
    clear hr hv
    go_enter Tryz.func83, Tryz.ntmps83
    go_wp2_with fail
    refine (refRead_any s w hs).mono ?_
    intro e w1 hp
    unfold ReadPostU at hp
    rw [HR.out] at hp
    obtain ⟨b1, rfl⟩ := hp
    go_wp2
    go_ret
    exact ⟨rfl, b1⟩
  | true =>
    rw [hv, if_pos rfl] at hr
    have HR := Lib.hid hr
    clear hr hv
    go_enter Tryz.func83, Tryz.ntmps83
    go_wp2_with fail
    refine (refRead_any s w hs).mono ?_
    intro e w1 hp
    unfold ReadPostU at hp
    rw [HR.out] at hp
    obtain ⟨b1, A, cap, rfl⟩ := hp
    by_cases hc : Lib.runeCount s ≤ 20000
    · rw [decide_eq_true hc]
      go_wp2
      go_ret
      exact ⟨rfl, b1⟩
    · rw [decide_eq_false hc]
      have hd : decide ((20000 : Int) < (Lib.runeCount s : Int)) = true := decide_eq_true (by omega)
      go_wp2
      go_ret
      exact ⟨rfl, b1⟩
set_option maxHeartbeats 1000000 in
theorem refQuoteQ_any (s : ByteArray) (w : World) (hs : s.size ≤ 1099511627776) :
    Calls Tryz.prog 25 #[.string s] w fun e w' => e = .returned (.tuple #[.string (if Lib.validD s.data.toList then ⟨(quoteL s.data.toList).toArray⟩ else ⟨#[]⟩), .int .i64 (if Lib.validD s.data.toList then 0 else 10)]) ∧ Below w.heap.size w w' := by
  obtain ⟨b, hb⟩ : ∃ b, Lib.validD s.data.toList = b := ⟨_, rfl⟩
  have HB := Lib.hid hb
  rw [hb]
  clear hb
  go_enter Tryz.func25, Tryz.ntmps25
  go_wp2_with fail
  refine (refUtf8_any s w hs).mono ?_
  rintro e w1 ⟨rfl, b1⟩
  rw [HB.out]
  cases b with
  | false =>
    go_wp2
    go_ret2
    exact ⟨rfl, b1⟩
  | true =>
    go_wp2_with fail
    refine (refQuote_any s w1 hs).mono ?_
    rintro e w2 ⟨rfl, b2⟩
    have hb2 := pure_trans b1 b2
    clear b1 b2
    go_wp2
    go_ret2
    exact ⟨rfl, hb2⟩
def dgB (n : Nat) : UInt8 := UInt8.ofNat (48 + n)
def mkD (n : Nat) : ByteArray := ⟨(Lib.decDigits n).toArray⟩
theorem mkD_small {n : Nat} (h : n < 10) : mkD n = ⟨#[dgB n]⟩ := by unfold mkD dgB; rw [Lib.decDigits_one h]
theorem mkD_more {n : Nat} (h : ¬ n < 10) : mkD n = mkD (n / 10) ++ ⟨#[dgB (n % 10)]⟩ := by
  unfold mkD dgB
  rw [show Lib.decDigits n = Lib.decDigits (n / 10) ++ [UInt8.ofNat (48 + n % 10)] by rw [Lib.decDigits, dif_neg h]]
  apply ByteArray.ext
  simp [ByteArray.data_append]
theorem mkD_len (n : Nat) (h : n ≤ 1099511627776) : (mkD n).size ≤ 21 := by
  have := itoa_len (n := (n : Int)) (by omega) (by omega)
  rw [show Lib.itoa (n : Int) = Lib.decDigits n by unfold Lib.itoa; rw [if_neg (by omega)]; simp] at this
  unfold mkD
  exact this
theorem conv_at (W : World) (g m : Nat) (hm : m < 10) (h : W.cell? ⟨g, 0, none⟩ = some (.int .u8 (48 + (m : Int)))) : (convert 92 9 (.slice (some ⟨g, 0, none⟩) 1 1)).run Tryz.prog W = .ok (.string ⟨#[dgB m]⟩) W := by
  refine run_convert_bytes_back (P := Tryz.prog) W 92 9 5 ⟨g, 0, none⟩ 1 [dgB m] Tryz.underlying92 Tryz.underlying5 Tryz.underlying9 (fun j hj => ?_)
  have hj' : j = 0 := by simpa using hj
  subst hj'
  rw [Addr.add_lit, h]
  have : (dgB m).toNat = 48 + m := by unfold dgB; simp; omega
  simp [this]
theorem conv_one (w : World) (n : Nat) (h : n < 10) : (convert 92 9 (.slice (some ⟨w.heap.size, 0, none⟩) 1 1)).run Tryz.prog (w.alloc (.cells #[.int .u8 (48 + (n : Int))] 5)) = .ok (.string ⟨#[dgB n]⟩) (w.alloc (.cells #[.int .u8 (48 + (n : Int))] 5)) :=
  conv_at _ _ n h (by rw [World.cell?_alloc_mark]; rfl)
set_option maxRecDepth 100000 in
set_option maxHeartbeats 1000000 in
theorem refNumber_any (n : Nat) : ∀ (w : World), n ≤ 1099511627776 →
    Calls Tryz.prog 81 #[.int .i64 (n : Int)] w fun e w' => e = .returned (.string (mkD n)) ∧ Below w.heap.size w w' := by
  induction n using Nat.strongRecOn with
  | _ n ih =>
    intro w hn
    have IH := Lib.hid ih; clear ih
    by_cases hs : n < 10
    · have hd : decide ((n : Int) < 10) = true := decide_eq_true (by omega)
      have HM := Lib.hid (mkD_small hs)
      have hcv := conv_one w n hs
      have e1 : IntKind.u8.wrap (48 + (n : Int)) = 48 + (n : Int) := IntWalk.u8_in _ (by omega)
      go_enter Tryz.func81, Tryz.ntmps81
      go_wp2
      go_ret
      exact ⟨by rw [HM.out]; rfl, (Below.refl _ _).alloc (Nat.le_refl _) _⟩
    · have hd : decide ((n : Int) < 10) = false := decide_eq_false (by omega)
      have HM := Lib.hid (mkD_more hs)
      have e1 : (n : Int).tdiv 10 = (n : Int) / 10 := Int.tdiv_eq_ediv_of_nonneg (by omega)
      have e2 : (n : Int).tmod 10 = (n : Int) % 10 := Int.tmod_eq_emod_of_nonneg (by omega)
      have e3 : IntKind.u8.wrap (48 + (n : Int) % 10) = 48 + (n : Int) % 10 := IntWalk.u8_in _ (by omega)
      have e4 : IntKind.i64.wrap ((n : Int) / 10) = (n : Int) / 10 := IntWalk.i64_in _ (by omega)
      have e5 : IntKind.i64.wrap (48 + (n : Int) % 10) = 48 + (n : Int) % 10 := IntWalk.i64_in _ (by omega)
      have hz : (mkD (n / 10)).size ≤ 21 := mkD_len _ (by omega)
      have hcv : ∀ (W : World) (g : Nat), W.cell? ⟨g, 0, none⟩ = some (.int .u8 (48 + (n : Int) % 10)) → (convert 92 9 (.slice (some ⟨g, 0, none⟩) 1 1)).run Tryz.prog W = .ok (.string ⟨#[dgB (n % 10)]⟩) W := fun W g h => conv_at W g (n % 10) (by omega) (by rw [h, Int.natCast_emod]; rfl)
      have HI := Lib.hid (show ∀ (w : World), Calls Tryz.prog 81 #[.int .i64 ((n : Int) / 10)] w fun e w' => e = .returned (.string (mkD (n / 10))) ∧ Below w.heap.size w w' from fun w => by
        have := IH.out (n / 10) (by omega) w (by omega)
        rwa [Int.natCast_ediv] at this)
      go_enter Tryz.func81, Tryz.ntmps81
      go_wp2_with fail
      go_region_with (first | (go_at_call 81; refine (HI.out _).mono ?_; rintro e w1 ⟨rfl, b1⟩; try (refine (fun hc2 : w1.cell? ⟨w.heap.size, 0, none⟩ = some (.int .u8 (48 + (n : Int) % 10)) => ?_) (pure_cell b1 ?_); rotate_left; focus (simp; done))))
      all_goals
        go_wp2
        go_ret
        have hbw : Below w.heap.size w w1 := by
          first
          | exact ⟨b1.os, b1.tape, b1.output, b1.size, b1.block⟩
          | exact pure_trans ((Below.refl _ w).alloc (Nat.le_refl _) _) ⟨b1.os, b1.tape, b1.output, b1.size, b1.block⟩
        refine ⟨?_, ?_⟩
        · rw [HM.out]; rfl
        · first
          | exact hbw
          | exact hbw.alloc hbw.size _
end Go.Proofs.YtdpmjlkmjmookaaGreatDoor
