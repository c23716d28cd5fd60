/-
  The law SpellReads, walked.
-/
import Derived.Test.YtdpmjlkmjmookaaDoorReadsM
namespace Go.Proofs.YtdpmjlkmjmookaaDoor
open Go.RowKit Go.PlainAid

set_option maxHeartbeats 4000000 in
set_option maxRecDepth 100000 in
theorem spellReads_any (s before behind : ByteArray) (w : World) (hT : Tabs w) (hs : s.size + before.size + behind.size ≤ 1048576) :
    Calls Tryd.prog 3 #[.string s, .string before, .string behind] w fun e w' => e = .returned (.bool true) ∧ Below w.heap.size w w' := by
  cases hv : Lib.validD s.data.toList with
  | false =>
    have HV := Lib.hid hv; clear hv
    go_enter Tryd.func3, Tryd.ntmps3
    go_wp2_with fail
    refine (awake_any w hT).mono ?_
    rintro e w1 ⟨rfl, b1⟩
    go_wp2_with fail
    refine (quote_any s w1 (by omega) (hT.pure b1)).mono ?_
    rw [HV.out]
    rintro e w2 ⟨rfl, b2⟩
    have hb := pure_trans b1 b2
    go_wp2_with fail
    go_ret
    exact ⟨rfl, hb⟩
  | true =>
    have HV := Lib.hid hv; clear hv
    have HR := Lib.hid (read_back s before behind)
    have hq := quoteL_len s.data.toList
    have hql : (mkB (quoteL s.data.toList)).size = (quoteL s.data.toList).length := sz_mk _
    have hsl := len_data s
    go_enter Tryd.func3, Tryd.ntmps3
    go_wp2_with fail
    refine (awake_any w hT).mono ?_
    rintro e w1 ⟨rfl, b1⟩
    go_wp2_with fail
    refine (quote_any s w1 (by omega) (hT.pure b1)).mono ?_
    rw [HV.out]
    simp only [if_true]
    rintro e w2 ⟨rfl, b2⟩
    have hb := pure_trans b1 b2
    have hmk : (⟨(quoteL s.data.toList).toArray⟩ : ByteArray) = mkB (quoteL s.data.toList) := rfl
    rw [hmk]
    have hqs : (mkB (quoteL s.data.toList)).size ≤ 4194306 := by omega
    generalize mkB (quoteL s.data.toList) = q at *
    clear hql hq hsl hmk
    go_wp2_with fail
    refine (read_any (before ++ q ++ behind) before.size w2 (by rw [ByteArray.size_append, ByteArray.size_append]; omega)).mono ?_
    intro e w3 hp
    unfold ReadPost at hp
    rw [HR.out] at hp
    obtain ⟨rfl, b3⟩ := hp
    have hb3 := pure_trans hb b3
    have hF := eqF_run
    have hss : (mkB s.data.toList) = s := by unfold mkB; cases s; simp
    unfold faultV
    simp only [hss]
    go_wp2_with fail
    go_ret
    exact ⟨by first | rfl | simp, hb3.alloc hb3.size _⟩
end Go.Proofs.YtdpmjlkmjmookaaDoor
