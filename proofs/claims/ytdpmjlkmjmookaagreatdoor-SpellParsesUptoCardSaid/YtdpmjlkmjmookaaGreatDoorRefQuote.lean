/-
  The references' quote and Quote (blotterref04), walked.
-/
import Derived.Test.YtdpmjlkmjmookaaGreatDoorQuote
import Derived.Test.YtdpmjlkmjmookaaGreatDoorRow
namespace Go.Proofs.YtdpmjlkmjmookaaGreatDoor
set_option linter.unusedVariables false
set_option linter.unusedSimpArgs false
open Go.RowKit Go.PlainAid

/-! ### A row of bytes of one's own -/
def bv (b : UInt8) : Value := .int .u8 (b.toNat : Int)
def BR (w : World) (lo : Nat) (v : Value) (l : List UInt8) : Prop := w.ownsRow lo 5 1 v l.length (l.map bv)
theorem infoB : (Tryz.prog.info? 5).map (fun i => (i.zero, i.size, i.bytes)) = some (some (.int .u8 0), 1, 1) := by kernel_rfl
theorem ownF {w : World} {base : Nat} {e : TypeId} {size n : Nat} {v : Value} {xs : List Value} (h : w.ownsRow base e size v n xs) : ∃ A cap, v = .slice A n cap := by
  rcases h.2 with ⟨hv, h0⟩ | ⟨g, cap, cur, hv, _⟩
  · exact ⟨none, 0, by rw [hv, h0]⟩
  · exact ⟨_, cap, hv⟩
theorem BR.push {w' : World} {lo n : Nat} {v' : Value} {l m : List UInt8} (hn : n = m.length) (h : w'.ownsRow lo 5 1 v' (l.length + n) (l.map bv ++ m.map bv)) : BR w' lo v' (l ++ m) := by
  subst hn; unfold BR; rw [List.map_append, List.length_append]; exact h
theorem bv_one (l : List UInt8) : ∀ u ∈ l.map bv, u.oneCell' = true := by
  intro u hu; obtain ⟨b, _, rfl⟩ := List.mem_map.1 hu; rfl
theorem u8_in (n : Int) (h : 0 ≤ n ∧ n ≤ 255) : IntKind.u8.wrap n = n := by
  obtain ⟨m, rfl⟩ := Int.eq_ofNat_of_zero_le h.1
  unfold IntKind.wrap; simp [IntKind.bits, IntKind.signed]; omega
/-- what the loop holds: the bytes written so far -/
def QRel (B : Nat) (s : ByteArray) (w : World) (g : Nat) (v i : Value) (wr : World) : Prop :=
  ∃ k : Nat, k + g = s.size ∧ i = .int .i64 k ∧ BR wr B v (34 :: escL (s.data.toList.take k)) ∧ Below B w wr ∧ ∃ A n cap, v = .slice A n cap
theorem escL_bound (s : ByteArray) (k : Nat) : (34 :: escL (s.data.toList.take k)).length ≤ 4 * s.size + 1 := by
  have h1 := escL_len (s.data.toList.take k)
  have hsz : s.data.toList.length = s.size := Array.length_toList
  rw [List.length_take] at h1
  simp only [List.length_cons]; omega

set_option maxHeartbeats 4000000 in
set_option maxRecDepth 100000 in
theorem refQuote_any (s : ByteArray) (w : World) (hs : s.size ≤ 1099511627776) :
    Calls Tryz.prog 82 #[.string s] w fun e w' => e = .returned (.string ⟨(quoteL s.data.toList).toArray⟩) ∧ Below w.heap.size w w' := by
  obtain ⟨i0, hi, hz0, hz1, hz2⟩ := info_parts infoB
  obtain ⟨B, hB⟩ : ∃ B, w.heap.size = B := ⟨_, rfl⟩
  have HBE := Lib.hid hB
  have hst : QRel B s w s.size (.slice (some ⟨w.heap.size, 0, none⟩) 1 1) (.int .i64 0) (w.alloc (.cells #[.int .u8 34] 5)) := by
    refine ⟨0, by omega, rfl, ?_, ?_, _, _, _, rfl⟩
    · rw [← hB]; exact World.ownsRow_lit w #[.int .u8 34] 1 (Nat.le_refl _) (by decide) rfl
    · rw [← hB]; exact (Below.refl _ _).alloc (Nat.le_refl _) _
  have HST := Lib.hid hst
  clear hst hB
  go_enter Tryz.func82, Tryz.ntmps82
  go_wp2_with fail
  go_loopg [3, 4] s.size (fun g v i wr => QRel B s w g v i wr)
  case atStart => exact HST.out
  case round =>
    obtain ⟨k, hk, rfl, hb, hw, A, n, cap, rfl⟩ := hrel
    have HB := Lib.hid hb; clear hb
    have HW := Lib.hid hw; clear hw
    have hlen := escL_bound s k
    have hBr : B ≤ wr.heap.size := by have := HW.out.size; have := HBE.out; omega
    by_cases hlt : k < s.size
    · have dk : decide ((k : Int) < (s.size : Int)) = true := decide_eq_true (by omega)
      have hsn : ∀ m, esc (s[k]'hlt) = m → 34 :: escL (s.data.toList.take (k + 1)) = (34 :: escL (s.data.toList.take k)) ++ m := by
        intro m hm; rw [take_byte s k hlt, escL_snoc, hm]; simp
      have HS := Lib.hid hsn; clear hsn
      generalize hX : 34 :: escL (s.data.toList.take k) = X at *
      clear hX
      by_cases c34 : (s[k]'hlt).toNat = 34
      · have f34 : ((s[k]'hlt).toNat : Int) = 34 := by omega
        have hm := Lib.hid (esc_34 c34)
        go_wp2_with (first | (at_builtin; refine wpList_append_own _ rfl _ _ 92 rfl B 5 i0 (.int .u8 0) 1 1 Tryz.underlying92 hi hz0 hz1 hz2 rfl (by decide) (.slice A n cap) X.length (X.map bv) rfl (by exact HB.out.alloc _) ⟨wr.heap.size, 0, none⟩ 2 2 [.int .u8 92, .int .u8 34] rfl rfl (World.news_of_block (cs := #[.int .u8 92, .int .u8 34]) (t := 5) (fr := (0, 0)) (heap_alloc_new wr _)) (by simp [Value.oneCell']) (by unfold maxLen; omega) (by omega) (by simp; omega) ?_) | fail)
        intro v' w1 hown' hgrow _
        obtain ⟨A1, cap1, rfl⟩ := ownF hown'
        have hR := Lib.hid (show QRel B s w (s.size - (k + 1)) (.slice A1 (X.length + 2) cap1) (.int .i64 ((k + 1 : Nat) : Int)) w1 from
          ⟨k + 1, by omega, rfl, by rw [HS.out _ hm.out]; exact BR.push (l := X) (m := [92, 34]) (n := 2) rfl hown', (HW.out.alloc hBr _).grown hgrow (by simp; omega) (fun q hq => (HB.out.lt q hq).1), _, _, _, rfl⟩)
        clear hown' hgrow
        go_wp2
        go_roundg (s.size - (k + 1))
        case measure => omega
        case rel => exact hR.out
      · have f34 : (((s[k]'hlt).toNat : Int) == 34) = false := by simp; omega
        by_cases c92 : (s[k]'hlt).toNat = 92
        · have f92 : ((s[k]'hlt).toNat : Int) = 92 := by omega
          have hm := Lib.hid (esc_92 c92)
          go_wp2_with (first | (at_builtin; refine wpList_append_own _ rfl _ _ 92 rfl B 5 i0 (.int .u8 0) 1 1 Tryz.underlying92 hi hz0 hz1 hz2 rfl (by decide) (.slice A n cap) X.length (X.map bv) rfl (by exact HB.out.alloc _) ⟨wr.heap.size, 0, none⟩ 2 2 [.int .u8 92, .int .u8 92] rfl rfl (World.news_of_block (cs := #[.int .u8 92, .int .u8 92]) (t := 5) (fr := (0, 0)) (heap_alloc_new wr _)) (by simp [Value.oneCell']) (by unfold maxLen; omega) (by omega) (by simp; omega) ?_) | fail)
          intro v' w1 hown' hgrow _
          obtain ⟨A1, cap1, rfl⟩ := ownF hown'
          have hR := Lib.hid (show QRel B s w (s.size - (k + 1)) (.slice A1 (X.length + 2) cap1) (.int .i64 ((k + 1 : Nat) : Int)) w1 from
            ⟨k + 1, by omega, rfl, by rw [HS.out _ hm.out]; exact BR.push (l := X) (m := [92, 92]) (n := 2) rfl hown', (HW.out.alloc hBr _).grown hgrow (by simp; omega) (fun q hq => (HB.out.lt q hq).1), _, _, _, rfl⟩)
          clear hown' hgrow
          go_wp2
          go_roundg (s.size - (k + 1))
          case measure => omega
          case rel => exact hR.out
        · have f92 : (((s[k]'hlt).toNat : Int) == 92) = false := by simp; omega
          by_cases c10 : (s[k]'hlt).toNat = 10
          · have f10 : ((s[k]'hlt).toNat : Int) = 10 := by omega
            have hm := Lib.hid (esc_10 c10)
            go_wp2_with (first | (at_builtin; refine wpList_append_own _ rfl _ _ 92 rfl B 5 i0 (.int .u8 0) 1 1 Tryz.underlying92 hi hz0 hz1 hz2 rfl (by decide) (.slice A n cap) X.length (X.map bv) rfl (by exact HB.out.alloc _) ⟨wr.heap.size, 0, none⟩ 2 2 [.int .u8 92, .int .u8 110] rfl rfl (World.news_of_block (cs := #[.int .u8 92, .int .u8 110]) (t := 5) (fr := (0, 0)) (heap_alloc_new wr _)) (by simp [Value.oneCell']) (by unfold maxLen; omega) (by omega) (by simp; omega) ?_) | fail)
            intro v' w1 hown' hgrow _
            obtain ⟨A1, cap1, rfl⟩ := ownF hown'
            have hR := Lib.hid (show QRel B s w (s.size - (k + 1)) (.slice A1 (X.length + 2) cap1) (.int .i64 ((k + 1 : Nat) : Int)) w1 from
              ⟨k + 1, by omega, rfl, by rw [HS.out _ hm.out]; exact BR.push (l := X) (m := [92, 110]) (n := 2) rfl hown', (HW.out.alloc hBr _).grown hgrow (by simp; omega) (fun q hq => (HB.out.lt q hq).1), _, _, _, rfl⟩)
            clear hown' hgrow
            go_wp2
            go_roundg (s.size - (k + 1))
            case measure => omega
            case rel => exact hR.out
          · have f10 : (((s[k]'hlt).toNat : Int) == 10) = false := by simp; omega
            by_cases c32 : (s[k]'hlt).toNat < 32
            · have f32 : decide (((s[k]'hlt).toNat : Int) < 32) = true := decide_eq_true (by omega)
              have hm := Lib.hid (esc_ctl c10 c32)
              have h16 : (s[k]'hlt).toNat / 16 < 16 := by have := (s[k]'hlt).toNat_lt; omega
              have h17 : (s[k]'hlt).toNat % 16 < 16 := by omega
              have g1 := @hx_get _ h16
              have g2 := @hx_get _ h17
              have e1 : IntKind.u8.wrap (((s[k]'hlt).toNat : Int) / 16) = ((s[k]'hlt).toNat : Int) / 16 := u8_in _ (by omega)
              have e2 : IntKind.u8.wrap (((s[k]'hlt).toNat : Int) % 16) = ((s[k]'hlt).toNat : Int) % 16 := u8_in _ (by omega)
              have e9 : ((s[k]'hlt).toNat : Int).tmod 16 = ((s[k]'hlt).toNat : Int) % 16 := Int.tmod_eq_emod_of_nonneg (by omega)
              have e3 : (((s[k]'hlt).toNat : Int) / 16).toNat = (s[k]'hlt).toNat / 16 := by omega
              have e4 : (((s[k]'hlt).toNat : Int) % 16).toNat = (s[k]'hlt).toNat % 16 := by omega
              have e5 : ((s[k]'hlt).toNat : Int) / 16 < 16 := by omega
              have e6 : ((s[k]'hlt).toNat : Int) % 16 < 16 := by omega
              have e7 : (0 : Int) ≤ ((s[k]'hlt).toNat : Int) / 16 := by omega
              have e8 : (0 : Int) ≤ ((s[k]'hlt).toNat : Int) % 16 := by omega
              go_upto_region 12 with fail
              go_region_law
                ((refine step_append_lies _ (by rfl) _ _ _ (by rfl) B 5 i0 _ 1 1 Tryz.underlying92 hi hz0 hz1 hz2 rfl (by omega) (.slice A n cap) X.length (X.map bv) (by rfl) (by exact (HB.out.alloc _))
                    ⟨wr.heap.size, 0, none⟩ 4 4 [.int .u8 92, .int .u8 120, .int .u8 ((hx ((s[k]'hlt).toNat / 16)).toNat : Int), .int .u8 ((hx ((s[k]'hlt).toNat % 16)).toNat : Int)] (by rfl) (by rfl) (World.news_of_block (cs := #[.int .u8 92, .int .u8 120, .int .u8 ((hx ((s[k]'hlt).toNat / 16)).toNat : Int), .int .u8 ((hx ((s[k]'hlt).toNat % 16)).toNat : Int)]) (t := 5) (fr := (0, 0)) (heap_alloc_new wr _)) (by simp [Value.oneCell'])
                    (by omega) (by unfold maxLen; omega) (by omega) (by simp; omega) (wr.heap.size + 1) (by simp) ?_; intro gg dap2 w1 hown' hgrow hat hlt3))
              all_goals
                have hR := Lib.hid (show QRel B s w (s.size - (k + 1)) (.slice (some ⟨gg, 0, none⟩) (X.length + 4) dap2) (.int .i64 ((k + 1 : Nat) : Int)) w1 from
                  ⟨k + 1, by omega, rfl, by rw [HS.out _ hm.out]; exact BR.push (l := X) (m := [92, 120, hx ((s[k]'hlt).toNat / 16), hx ((s[k]'hlt).toNat % 16)]) (n := 4) rfl hown', (HW.out.alloc hBr _).drew.grown hgrow (by show B ≤ (wr.alloc _).heap.size; simp; omega) (fun q hq => (HB.out.lt q hq).1), _, _, _, rfl⟩)
                clear hown' hgrow
                go_wp2
                go_roundg (s.size - (k + 1))
                case measure => omega
                case rel => exact hR.out
            · have f32 : decide (((s[k]'hlt).toNat : Int) < 32) = false := by simp; omega
              by_cases c127 : (s[k]'hlt).toNat = 127
              · have f127 : (((s[k]'hlt).toNat : Int) == 127) = true := by simp; omega
                have hm := Lib.hid (esc_127 c127)
                have e1 : IntKind.u8.wrap 7 = 7 := u8_in _ (by omega)
                have e2 : IntKind.u8.wrap 15 = 15 := u8_in _ (by omega)
                go_upto_region 12 with fail
                go_region_law
                  ((refine step_append_lies _ (by rfl) _ _ _ (by rfl) B 5 i0 _ 1 1 Tryz.underlying92 hi hz0 hz1 hz2 rfl (by omega) (.slice A n cap) X.length (X.map bv) (by rfl) (by exact (HB.out.alloc _))
                      ⟨wr.heap.size, 0, none⟩ 4 4 [.int .u8 92, .int .u8 120, .int .u8 55, .int .u8 102] (by rfl) (by rfl) (World.news_of_block (cs := #[.int .u8 92, .int .u8 120, .int .u8 55, .int .u8 102]) (t := 5) (fr := (0, 0)) (heap_alloc_new wr _)) (by simp [Value.oneCell'])
                      (by omega) (by unfold maxLen; omega) (by omega) (by simp; omega) (wr.heap.size + 1) (by simp) ?_; intro gg dap2 w1 hown' hgrow hat hlt3))
                all_goals
                  have hR := Lib.hid (show QRel B s w (s.size - (k + 1)) (.slice (some ⟨gg, 0, none⟩) (X.length + 4) dap2) (.int .i64 ((k + 1 : Nat) : Int)) w1 from
                    ⟨k + 1, by omega, rfl, by rw [HS.out _ hm.out]; exact BR.push (l := X) (m := [92, 120, 55, 102]) (n := 4) rfl hown', (HW.out.alloc hBr _).drew.grown hgrow (by show B ≤ (wr.alloc _).heap.size; simp; omega) (fun q hq => (HB.out.lt q hq).1), _, _, _, rfl⟩)
                  clear hown' hgrow
                  go_wp2
                  go_roundg (s.size - (k + 1))
                  case measure => omega
                  case rel => exact hR.out
              · have f127 : (((s[k]'hlt).toNat : Int) == 127) = false := by simp; omega
                have hm := Lib.hid (esc_else c10 c34 c92 (by omega) (by omega))
                go_wp2_with (first | (at_builtin; refine wpList_append_own _ rfl _ _ 92 rfl B 5 i0 (.int .u8 0) 1 1 Tryz.underlying92 hi hz0 hz1 hz2 rfl (by decide) (.slice A n cap) X.length (X.map bv) rfl (by exact HB.out.alloc _) ⟨wr.heap.size, 0, none⟩ 1 1 [.int .u8 ((s[k]'hlt).toNat : Int)] rfl rfl (World.news_of_block (cs := #[.int .u8 ((s[k]'hlt).toNat : Int)]) (t := 5) (fr := (0, 0)) (heap_alloc_new wr _)) (by simp [Value.oneCell']) (by unfold maxLen; omega) (by omega) (by simp; omega) ?_) | fail)
                intro v' w1 hown' hgrow _
                obtain ⟨A1, cap1, rfl⟩ := ownF hown'
                have hR := Lib.hid (show QRel B s w (s.size - (k + 1)) (.slice A1 (X.length + 1) cap1) (.int .i64 ((k + 1 : Nat) : Int)) w1 from
                  ⟨k + 1, by omega, rfl, by rw [HS.out _ hm.out]; exact BR.push (l := X) (m := [s[k]'hlt]) (n := 1) rfl hown', (HW.out.alloc hBr _).grown hgrow (by simp; omega) (fun q hq => (HB.out.lt q hq).1), _, _, _, rfl⟩)
                clear hown' hgrow
                go_wp2
                go_roundg (s.size - (k + 1))
                case measure => omega
                case rel => exact hR.out
    · have dk : decide ((k : Int) < (s.size : Int)) = false := decide_eq_false (by omega)
      have hke : s.data.toList.take k = s.data.toList := by
        have hsz : s.data.toList.length = s.size := Array.length_toList
        exact List.take_of_length_le (by omega)
      rw [hke] at HB hlen
      have HQL := Lib.hid (show quoteL s.data.toList = (34 :: escL s.data.toList) ++ [34] by simp [quoteL])
      generalize 34 :: escL s.data.toList = X at *
      clear hke
      go_wp2_with (first | (at_builtin; refine wpList_append_own _ rfl _ _ 92 rfl B 5 i0 (.int .u8 0) 1 1 Tryz.underlying92 hi hz0 hz1 hz2 rfl (by decide) (.slice A n cap) X.length (X.map bv) rfl (by exact HB.out.alloc _) ⟨wr.heap.size, 0, none⟩ 1 1 [.int .u8 34] rfl rfl (World.news_of_block (cs := #[.int .u8 34]) (t := 5) (fr := (0, 0)) (heap_alloc_new wr _)) (by simp [Value.oneCell']) (by unfold maxLen; omega) (by omega) (by simp; omega) ?_) | fail)
      intro v' w1 hown' hgrow _
      obtain ⟨A1, cap1, rfl⟩ := ownF hown'
      have hbw : Below B w w1 := (HW.out.alloc hBr _).grown hgrow (by simp; omega) (fun q hq => (HB.out.lt q hq).1)
      have hR : BR w1 B (.slice A1 (X.length + 1) cap1) (quoteL s.data.toList) := by rw [HQL.out]; exact BR.push (m := [34]) rfl hown'
      rcases hR.2 with ⟨hv, h0⟩ | ⟨g, c2, cur, hv, _⟩
      · rw [HQL.out] at h0; simp at h0
      injection hv with hv1 hv2 hv3
      clear hv2
      subst hv1 hv3
      have hl : (quoteL s.data.toList).length = X.length + 1 := by rw [HQL.out]; simp
      have hR0 : w1.ownsRow B 5 1 (.slice (some ⟨g, 0, none⟩) (X.length + 1) cap1) (X.length + 1) ((quoteL s.data.toList).map bv) := by unfold BR at hR; rw [hl] at hR; exact hR
      have hcv := run_convert_bytes_back (P := Tryz.prog) w1 92 9 5 ⟨g, 0, none⟩ cap1 (quoteL s.data.toList) Tryz.underlying92 Tryz.underlying5 Tryz.underlying9 (fun j hj => by
        have := World.ownsRow.cellAt hR0 j (by omega)
        rw [Addr.add_lit, Nat.zero_add, this, List.getElem?_map, List.getElem?_eq_getElem hj]; rfl)
      rw [hl] at hcv
      have HBW := Lib.hid hbw
      have HEQ := HBE.out
      clear hR hR0 hown' hgrow hbw hl
      go_wp2
      go_ret
      exact ⟨rfl, by rw [HBE.out]; exact HBW.out⟩
end Go.Proofs.YtdpmjlkmjmookaaGreatDoor
