/-
  The references' UTF-8: read, Count, Utf8 (blotterref01), walked.
-/
import Derived.Test.YtdpmjlkmjmookaaGreatDoorRefVal
import Derived.Test.YtdpmjlkmjmookaaGreatDoorRefUtfM
import Derived.Deep.CutRange
import Derived.Deep.CutBlock
namespace Go.Proofs.YtdpmjlkmjmookaaGreatDoor
open Go.RowKit Go.PlainAid

theorem one_cell {w : World} {x : Value} {t : TypeId} : ∀ (j : Nat) (u : Value), ([x] : List Value)[j]? = some u → (w.alloc (.cells #[x] t)).cell? ((⟨w.heap.size, 0, none⟩ : Addr).add j) = some u := by
  intro j u hj
  match j, hj with
  | 0, hj => simp at hj; subst hj; simp [Addr.add]
theorem one_cell' {n : Int} : ∀ u ∈ ([.int .i64 n] : List Value), u.oneCell' = true := by intro u hu; simp at hu; subst hu; rfl
theorem infoI : (Tryz.prog.info? 3).map (fun i => (i.zero, i.size, i.bytes)) = some (some (.int .i64 0), 1, 8) := by kernel_rfl
def ReadPostU (s : ByteArray) (w : World) (e : Ending) (w' : World) : Prop := Below w.heap.size w w' ∧ match refLen s with
  | none => e = .returned (.tuple #[.slice none 0 0, .bool false])
  | some n => ∃ A cap, e = .returned (.tuple #[.slice A n cap, .bool (decide (n ≤ 20000))])
set_option maxRecDepth 100000 in
set_option maxHeartbeats 8000000 in
theorem refRead_any (s : ByteArray) (w : World) (hs : s.size ≤ 1099511627776) :
    Calls Tryz.prog 129 #[.string s] w (ReadPostU s w) := by
  obtain ⟨i0, hi, hz0, hz1, hz2⟩ := info_parts infoI
  have hgb := get_bt s
  have hb0 := bt_nonneg s
  have hb1 := bt_le s
  have hwb : ∀ k, wrap64 (bt s k) = bt s k := fun k => by have := hb0 k; have := hb1 k; unfold wrap64; omega
  go_enter Tryz.func129, Tryz.ntmps129
  go_wp2
  go_loopw [5, 4] (fun i v wr => ∃ (k f : Nat) (xs : List Value), k ≤ s.size ∧ i = .int .i64 k ∧ wr.ownsRow w.heap.size 3 1 v xs.length xs ∧ Below w.heap.size w wr ∧ refLen s = (refF s f k).map (xs.length + ·) ∧ s.size - k < f ∧ xs.length ≤ k) (fun i _ _ => s.size - (intOf i).toNat)
  case atStart => exact ⟨0, s.size + 1, [], by omega, rfl, World.ownsRow_nil _ _ _ _, Below.refl _ _, by unfold refLen; simp, by omega, by simp⟩
  case round =>
    obtain ⟨k, f, xs, hk, rfl, hown, hb, hR, hf, hx⟩ := hrel
    obtain ⟨f, rfl⟩ : ∃ f', f = f' + 1 := ⟨f - 1, by omega⟩
    have HR := Lib.hid hR; clear hR
    have HO := Lib.hid hown; clear hown
    by_cases hlt : k < s.size
    · have hd : decide ((k : Int) < (s.size : Int)) = true := by simp; omega
      have HST := Lib.hid (refF_succ s f k hlt)
      have hc0 := hb0 k
      have hc1 := hb1 k
      cases hh : headM (bt s k) with
      | none =>
        have hsn : refStep s k = none := by unfold refStep; rw [hh]
        have hL : refLen s = none := by rw [HR.out, HST.out, hsn]; rfl
        have HL := Lib.hid hL; clear hL hsn
        unfold headM at hh
        have h128 : ¬ bt s k < 128 := fun h => by rw [if_pos h] at hh; cases hh
        rw [if_neg h128] at hh
        have hA : ¬ (192 ≤ bt s k ∧ bt s k < 224) := fun h => by rw [if_pos h] at hh; cases hh
        rw [if_neg hA] at hh
        have hB : ¬ (224 ≤ bt s k ∧ bt s k < 240) := fun h => by rw [if_pos h] at hh; cases hh
        rw [if_neg hB] at hh
        have hC : ¬ (240 ≤ bt s k ∧ bt s k < 248) := fun h => by rw [if_pos h] at hh; cases hh
        clear hh
        have d1 : decide (bt s k < 128) = false := decide_eq_false h128
        by_cases h192 : 192 ≤ bt s k
        case' neg =>
          have d2 : decide ((192 : Int) ≤ bt s k) = false := decide_eq_false h192
          have d3 : decide ((224 : Int) ≤ bt s k) = false := decide_eq_false (by omega)
          have d4 : decide ((240 : Int) ≤ bt s k) = false := decide_eq_false (by omega)
        case' pos =>
          have d2 : decide ((192 : Int) ≤ bt s k) = true := decide_eq_true h192
          have d5 : decide (bt s k < 224) = false := decide_eq_false (by omega)
          have d3 : decide ((224 : Int) ≤ bt s k) = true := decide_eq_true (by omega)
          have d6 : decide (bt s k < 240) = false := decide_eq_false (by omega)
          have d4 : decide ((240 : Int) ≤ bt s k) = true := decide_eq_true (by omega)
          have d7 : decide (bt s k < 248) = false := decide_eq_false (by omega)
        all_goals
          clear hA hB hC h128 h192
          go_wp2
          go_ret2
          unfold ReadPostU; rw [HL.out]
          exact ⟨hb, rfl⟩
      | some p =>
        obtain ⟨N, least, c0⟩ := p
        have hhb := head_bound hh hc0
        have HH := Lib.hid hh; clear hh
        go_upto_block 2 with fail
        obtain ⟨W, rfl⟩ : ∃ W, W = wr := ⟨_, rfl⟩
        go_cut [6, 7, 8] from 11 to 99 (fun c n l wx => c = .int .i64 c0 ∧ n = .int .i64 N ∧ l = .int .i64 least ∧ wx = W)
        case first =>
          have hh := HH.out
          unfold headM at hh
          by_cases h128 : bt s k < 128
          · rw [if_pos h128] at hh
            injection hh with hh; injection hh with h1 hh; injection hh with h2 h3; subst h1 h2 h3
            have d1 : decide (bt s k < 128) = true := decide_eq_true h128
            go_wp2_with fail
            go_meet
            exact ⟨rfl, rfl, rfl, rfl⟩
          · rw [if_neg h128] at hh
            have d1 : decide (bt s k < 128) = false := decide_eq_false h128
            by_cases hA : 192 ≤ bt s k ∧ bt s k < 224
            · rw [if_pos hA] at hh
              injection hh with hh; injection hh with h1 hh; injection hh with h2 h3; subst h1 h2 h3
              have d2 : decide ((192 : Int) ≤ bt s k) = true := decide_eq_true hA.1
              have d3 : decide (bt s k < 224) = true := decide_eq_true hA.2
              have e1 : wrap64 (bt s k - 192) = bt s k - 192 := by unfold wrap64; omega
              go_wp2_with fail
              go_meet
              exact ⟨rfl, rfl, rfl, rfl⟩
            · rw [if_neg hA] at hh
              by_cases hB : 224 ≤ bt s k ∧ bt s k < 240
              · rw [if_pos hB] at hh
                injection hh with hh; injection hh with h1 hh; injection hh with h2 h3; subst h1 h2 h3
                have d2 : decide ((192 : Int) ≤ bt s k) = true := decide_eq_true (by omega)
                have d3 : decide (bt s k < 224) = false := decide_eq_false (by omega)
                have d4 : decide ((224 : Int) ≤ bt s k) = true := decide_eq_true hB.1
                have d5 : decide (bt s k < 240) = true := decide_eq_true hB.2
                have e1 : wrap64 (bt s k - 224) = bt s k - 224 := by unfold wrap64; omega
                go_wp2_with fail
                go_meet
                exact ⟨rfl, rfl, rfl, rfl⟩
              · rw [if_neg hB] at hh
                by_cases hC : 240 ≤ bt s k ∧ bt s k < 248
                · rw [if_pos hC] at hh
                  injection hh with hh; injection hh with h1 hh; injection hh with h2 h3; subst h1 h2 h3
                  have d2 : decide ((192 : Int) ≤ bt s k) = true := decide_eq_true (by omega)
                  have d3 : decide (bt s k < 224) = false := decide_eq_false (by omega)
                  have d4 : decide ((224 : Int) ≤ bt s k) = true := decide_eq_true (by omega)
                  have d5 : decide (bt s k < 240) = false := decide_eq_false (by omega)
                  have d6 : decide ((240 : Int) ≤ bt s k) = true := decide_eq_true hC.1
                  have d7 : decide (bt s k < 248) = true := decide_eq_true hC.2
                  have e1 : wrap64 (bt s k - 240) = bt s k - 240 := by unfold wrap64; omega
                  go_wp2_with fail
                  go_meet
                  exact ⟨rfl, rfl, rfl, rfl⟩
                · rw [if_neg hC] at hh; cases hh
        case rest =>
          obtain ⟨rfl, rfl, rfl, rfl⟩ := hcut
          have hst0 : refStep s k = if s.size ≤ k + N then none else if contOk s k N = false then none else if badV least (contV s k c0 N) then none else some (N + 1) := by
            unfold refStep; rw [HH.out]
          have HS0 := Lib.hid hst0; clear hst0 HH
          by_cases hN : s.size ≤ k + N
          · have hsn : refStep s k = none := by rw [HS0.out, if_pos hN]
            have HL := Lib.hid (show refLen s = none by rw [HR.out, HST.out, hsn]; rfl)
            clear hsn
            have d1 : decide ((s.size : Int) ≤ (k : Int) + (N : Int)) = true := decide_eq_true (by omega)
            go_wp2
            go_ret2
            unfold ReadPostU; rw [HL.out]
            exact ⟨hb, rfl⟩
          · have d1 : decide ((s.size : Int) ≤ (k : Int) + (N : Int)) = false := decide_eq_false (by omega)
            go_wp2
            go_loop [9, 6] (fun i c => ∃ m : Nat, 1 ≤ m ∧ m ≤ N + 1 ∧ i = .int .i64 m ∧ c = .int .i64 (contV s k c0 (m - 1)) ∧ contOk s k (m - 1) = true) (fun i _ => N + 1 - (intOf i).toNat)
            case atStart => exact ⟨1, by omega, by omega, rfl, rfl, rfl⟩
            case round =>
              obtain ⟨m, hm1, hm2, rfl, rfl, hok⟩ := hrel
              by_cases hmn : m ≤ N
              · have hvb := contV_small hhb.2.1 (show c0 < 32 by omega) (m - 1) (by omega) hok
                have HOK := Lib.hid hok; clear hok
                have d2 : decide ((m : Int) ≤ (N : Int)) = true := decide_eq_true (by omega)
                have hb0' := hb0 (k + m)
                have hb1' := hb1 (k + m)
                have hkm : k + m < s.size := by omega
                have hkm2 : (k : Int) + (m : Int) < (s.size : Int) := by omega
                have hkm3 : ((k : Int) + (m : Int)).toNat = k + m := by omega
                have HCS := Lib.hid (contOk_snoc s k m hm1)
                have HVS := Lib.hid (contV_snoc s k m c0 hm1)
                by_cases a1 : bt s (k + m) < 128
                · have hsn : refStep s k = none := by
                    rw [HS0.out, if_neg hN, if_pos (contOk_lost (m := m) hmn (by rw [HCS.out]; simp; omega))]
                  have HL := Lib.hid (show refLen s = none by rw [HR.out, HST.out, hsn]; rfl)
                  clear hsn
                  have a1' : decide (bt s (k + m) < 128) = true := decide_eq_true a1
                  go_wp2
                  go_ret2
                  unfold ReadPostU; rw [HL.out]
                  exact ⟨hb, rfl⟩
                · have a1' : decide (bt s (k + m) < 128) = false := decide_eq_false a1
                  by_cases a2 : 191 < bt s (k + m)
                  · have hsn : refStep s k = none := by
                      rw [HS0.out, if_neg hN, if_pos (contOk_lost (m := m) hmn (by rw [HCS.out]; simp; omega))]
                    have HL := Lib.hid (show refLen s = none by rw [HR.out, HST.out, hsn]; rfl)
                    clear hsn
                    have a2' : decide ((191 : Int) < bt s (k + m)) = true := decide_eq_true a2
                    go_wp2
                    go_ret2
                    unfold ReadPostU; rw [HL.out]
                    exact ⟨hb, rfl⟩
                  · have a2' : decide ((191 : Int) < bt s (k + m)) = false := decide_eq_false a2
                    have hnew : contOk s k m = true := by rw [HCS.out, HOK.out]; simp; omega
                    have HNEW := Lib.hid hnew; clear hnew
                    go_wp2
                    exact ⟨⟨m + 1, by omega, by omega, by go_num, by rw [show m + 1 - 1 = m from rfl, HVS.out], HNEW.out⟩, by simp [intOf]; omega⟩
              · obtain rfl : m = N + 1 := by omega
                have d2 : decide (((N + 1 : Nat) : Int) ≤ (N : Int)) = false := decide_eq_false (by omega)
                have hok' : contOk s k N = true := hok
                have hvb := contV_small' hhb.2.1 hhb.2.2.1 hhb.1 hok'
                have HV := Lib.hid (show contV s k c0 (N + 1 - 1) = contV s k c0 N from rfl)
                rw [HV.out]
                have HS1 := Lib.hid (show refStep s k = if badV least (contV s k c0 N) = true then none else some (N + 1) by
                  rw [HS0.out, if_neg hN, if_neg (by rw [hok']; simp)])
                clear hok hok'
                generalize contV s k c0 N = V at *
                have hlb := hhb.2.2.2
                cases hbv : badV least V with
                | true =>
                  have HL := Lib.hid (show refLen s = none by rw [HR.out, HST.out, HS1.out, hbv]; rfl)
                  rw [badV_eq, decide_eq_true_eq] at hbv
                  by_cases b1 : V < least
                  · have e1 : decide (V < least) = true := decide_eq_true b1
                    go_wp2
                    go_ret2
                    unfold ReadPostU; rw [HL.out]
                    exact ⟨hb, rfl⟩
                  · have e1 : decide (V < least) = false := decide_eq_false b1
                    by_cases b2 : 55296 ≤ V ∧ V ≤ 57343
                    · have e2 : decide ((55296 : Int) ≤ V) = true := decide_eq_true b2.1
                      have e3 : decide (V ≤ 57343) = true := decide_eq_true b2.2
                      go_wp2
                      go_ret2
                      unfold ReadPostU; rw [HL.out]
                      exact ⟨hb, rfl⟩
                    · have e2 : decide ((55296 : Int) ≤ V) = true := decide_eq_true (by omega)
                      have e3 : decide (V ≤ 57343) = false := decide_eq_false (by omega)
                      have e4 : decide ((1114111 : Int) < V) = true := decide_eq_true (by omega)
                      go_wp2
                      go_ret2
                      unfold ReadPostU; rw [HL.out]
                      exact ⟨hb, rfl⟩
                | false =>
                  have HL := Lib.hid (show refLen s = (refF s f (k + N + 1)).map ((xs.length + 1) + ·) by
                    rw [HR.out, HST.out, HS1.out, hbv]
                    simp only [Bool.false_eq_true, if_false, Option.map_map]
                    rw [show k + (N + 1) = k + N + 1 by omega]
                    congr 1; funext q; simp only [Function.comp]; omega)
                  rw [badV_eq, decide_eq_false_iff_not] at hbv
                  have e1 : decide (V < least) = false := decide_eq_false (by omega)
                  have e4 : decide ((1114111 : Int) < V) = false := decide_eq_false (by omega)
                  by_cases b2 : 55296 ≤ V
                  case' pos =>
                    have e2 : decide ((55296 : Int) ≤ V) = true := decide_eq_true b2
                    have e3 : decide (V ≤ 57343) = false := decide_eq_false (by omega)
                  case' neg =>
                    have e2 : decide ((55296 : Int) ≤ V) = false := decide_eq_false b2
                  all_goals
                    clear hbv b2
                    obtain ⟨ao, cap, rfl⟩ : ∃ ao cap, u4 = .slice ao xs.length cap := by
                      rcases HO.out.2 with ⟨hv, h0⟩ | ⟨g, cap, cur, hv, _⟩
                      · exact ⟨none, 0, by rw [hv, h0]⟩
                      · exact ⟨_, cap, hv⟩
                    have q1 : xs.length + 1 ≤ maxLen := by unfold maxLen; omega
                    have q2 : w.heap.size ≤ (wc.alloc (.cells #[.int .i64 V] 3)).heap.size := by have := hb.size; simp; omega
                    have Q1 := Lib.hid q1; have Q2 := Lib.hid q2; clear q1 q2
                    go_wp2_with (at_builtin; refine wpList_append_own _ rfl _ _ 157 rfl w.heap.size 3 i0 (.int .i64 0) 1 8 Tryz.underlying157 hi hz0 hz1 hz2 rfl (by decide) _ _ _ rfl (HO.out.alloc _) ⟨wc.heap.size, 0, none⟩ 1 1 [.int .i64 V] rfl rfl one_cell one_cell' Q1.out (by omega) Q2.out ?_)
                    intro v' w2 hown' hgrow _
                    have hb2 : Below w.heap.size w w2 := (hb.alloc hb.size _).grown hgrow (by have := hb.size; simp; omega) (fun q hq => (HO.out.lt q hq).1)
                    go_wp2
                    exact ⟨⟨k + N + 1, f, xs ++ [.int .i64 V], by omega, by go_num, by simpa using hown', hb2, by rw [HL.out]; simp, by omega, by simp; omega⟩, by simp [intOf]; omega⟩
    · have hd : decide ((k : Int) < (s.size : Int)) = false := by simp; omega
      have HL := Lib.hid (show refLen s = some xs.length by
        rw [HR.out]
        show (if k < s.size then _ else some 0 : Option Nat).map (xs.length + ·) = _
        rw [if_neg hlt]; rfl)
      obtain ⟨ao, cap, rfl⟩ : ∃ ao cap, u4 = .slice ao xs.length cap := by
        rcases HO.out.2 with ⟨hv, h0⟩ | ⟨g, cap, cur, hv, _⟩
        · exact ⟨none, 0, by rw [hv, h0]⟩
        · exact ⟨_, cap, hv⟩
      have hq : decide ((xs.length : Int) ≤ 20000) = decide (xs.length ≤ 20000) := by congr 1; exact propext (by omega)
      go_wp2
      go_ret2
      unfold ReadPostU; rw [HL.out]
      exact ⟨hb, ao, cap, by first | rfl | rw [hq]⟩
end Go.Proofs.YtdpmjlkmjmookaaGreatDoor
