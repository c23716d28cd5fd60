/-
  The references' reader (blotterref04): its small steps (bad, next, must), walked.
  The references' reader: number, walked.
  The references' reader: a digit of base sixteen, what stands behind a backslash, walked.
  The references' reader: what stands behind a backslash (behind), walked.
-/
import Derived.Test.YtdpmjlkmjmookaaGreatDoorRdb
import Derived.Test.YtdpmjlkmjmookaaGreatDoorRefQuote
namespace Go.Proofs.YtdpmjlkmjmookaaGreatDoor
section
set_option linter.unusedVariables false
set_option linter.unusedSimpArgs false
open Go.RowKit Go.PlainAid

/-- the references' reader in block g stands over s, nothing is wrong, and l is left -/
def RTx (g : Nat) (s : ByteArray) (l : List UInt8) (w : World) : Prop :=
  ∃ a : Nat, a ≤ s.size ∧ l = s.data.toList.drop a ∧ w.heap[g]? = some (.cells #[.string s, .int .i64 a, .int .i64 (-1)] 118 (0, 0))
/-- something was wrong where k bytes were left -/
def RBad (g : Nat) (s : ByteArray) (k : Nat) (w : World) : Prop :=
  k ≤ s.size ∧ ∃ a : Nat, a ≤ s.size ∧ w.heap[g]? = some (.cells #[.string s, .int .i64 a, .int .i64 ((s.size : Int) - k)] 118 (0, 0))
theorem RTx.agree {g : Nat} {s : ByteArray} {l : List UInt8} {w w' : World} (h : RTx g s l w) (hb : w'.heap[g]? = w.heap[g]?) : RTx g s l w' := by
  obtain ⟨a, h1, h2, h3⟩ := h
  exact ⟨a, h1, h2, hb.trans h3⟩
theorem RBad.agree {g k : Nat} {s : ByteArray} {w w' : World} (h : RBad g s k w) (hb : w'.heap[g]? = w.heap[g]?) : RBad g s k w' := by
  obtain ⟨h1, a, h2, h3⟩ := h
  exact ⟨h1, a, h2, hb.trans h3⟩
theorem RTx.lt {g : Nat} {s : ByteArray} {l : List UInt8} {w : World} (h : RTx g s l w) : g < w.heap.size := by
  obtain ⟨a, h1, h2, h3⟩ := h; exact heap_lt h3
theorem RBad.lt {g k : Nat} {s : ByteArray} {w : World} (h : RBad g s k w) : g < w.heap.size := by
  obtain ⟨h1, a, h2, h3⟩ := h; exact heap_lt h3
theorem RTx.pure {g : Nat} {s : ByteArray} {l : List UInt8} {w w' : World} (h : RTx g s l w) (hb : Below w.heap.size w w') : RTx g s l w' := h.agree (hb.block _ h.lt)
theorem RBad.pure {g k : Nat} {s : ByteArray} {w w' : World} (h : RBad g s k w) (hb : Below w.heap.size w w') : RBad g s k w' := h.agree (hb.block _ h.lt)
theorem RTx.left {g : Nat} {s : ByteArray} {l : List UInt8} {w : World} (h : RTx g s l w) : l.length ≤ s.size := by
  obtain ⟨a, h1, rfl, h3⟩ := h; rw [drop_len]; omega
theorem RTx.drewN {g : Nat} {s : ByteArray} {l : List UInt8} {w : World} (h : RTx g s l w) (n : Nat) : RTx g s l (w.drewN n) := h.agree rfl
theorem RBad.drewN {g k : Nat} {s : ByteArray} {w : World} (h : RBad g s k w) (n : Nat) : RBad g s k (w.drewN n) := h.agree rfl
theorem set_heap1' {w : World} {g : Nat} {a b c : Value} {t : TypeId} (h : w.heap[g]? = some (.cells #[a, b, c] t (0, 0))) (u : Value) : (w.setCell ⟨g, 1, none⟩ u).heap[g]? = some (.cells #[a, u, c] t (0, 0)) := by
  simp [World.setCell, Array.getElem?_modify, h]
theorem set_heap2' {w : World} {g : Nat} {a b c : Value} {t : TypeId} (h : w.heap[g]? = some (.cells #[a, b, c] t (0, 0))) (u : Value) : (w.setCell ⟨g, 2, none⟩ u).heap[g]? = some (.cells #[a, b, u] t (0, 0)) := by
  simp [World.setCell, Array.getElem?_modify, h]

set_option maxHeartbeats 1000000 in
theorem rnext_any (g : Nat) (s : ByteArray) (l : List UInt8) (w : World) (hh : RTx g s l w) (hs : s.size ≤ 1099511627776) :
    Calls Tryz.prog 135 #[.pointer (some ⟨g, 0, none⟩)] w fun e w' => e = .returned (.int .u8 (hd0 l).toNat) ∧ ∃ n, w' = w.drewN n := by
  obtain ⟨a, h1, rfl, h3⟩ := hh
  obtain ⟨c0, c1, c2⟩ := box3 h3
  by_cases hlt : a < s.size
  · have he : decide ((s.size : Int) ≤ (a : Int)) = false := by simp; omega
    have hR := Lib.hid (show hd0 (s.data.toList.drop a) = s[a]'hlt by rw [drop_cons s a hlt]; rfl)
    clear h3
    go_enter Tryz.func135, Tryz.ntmps135
    go_wp2_with fail
    go_quiet (fail)
    go_wp2_with fail
    go_quiet (fail)
    go_wp2
    go_ret
    exact ⟨by rw [hR.out]; rfl, _, World.drewN_drewN _ _ _⟩
  · have he : decide ((s.size : Int) ≤ (a : Int)) = true := by simp; omega
    have hR := Lib.hid (show hd0 (s.data.toList.drop a) = 0 by rw [drop_end s a (by omega)]; rfl)
    clear h3
    go_enter Tryz.func135, Tryz.ntmps135
    go_wp2_with fail
    go_quiet (fail)
    go_wp2
    go_ret
    exact ⟨by rw [hR.out]; rfl, _, rfl⟩
set_option maxHeartbeats 1000000 in
theorem rnext_bad (g k : Nat) (s : ByteArray) (w : World) (hh : RBad g s k w) (hs : s.size ≤ 1099511627776) :
    Calls Tryz.prog 135 #[.pointer (some ⟨g, 0, none⟩)] w fun e w' => e = .returned (.int .u8 0) ∧ ∃ n, w' = w.drewN n := by
  obtain ⟨hk, a, h1, h3⟩ := hh
  obtain ⟨c0, c1, c2⟩ := box3 h3
  obtain ⟨m, hm⟩ : ∃ m : Nat, (s.size : Int) - (k : Int) = (m : Int) := ⟨s.size - k, by omega⟩
  rw [hm] at c2
  clear h3 hm
  have he : decide ((0 : Int) ≤ (m : Int)) = true := by simp
  go_enter Tryz.func135, Tryz.ntmps135
  go_wp2_with fail
  go_quiet (fail)
  go_wp2
  go_ret
  exact ⟨rfl, _, rfl⟩

theorem rbad_good (g : Nat) (s : ByteArray) (l : List UInt8) (k : Nat) (w : World) (hh : RTx g s l w) (hk : k ≤ s.size) (n : Int) (hn : n = (s.size : Int) - k) (hs : s.size ≤ 1099511627776) :
    Calls Tryz.prog 136 #[.pointer (some ⟨g, 0, none⟩), .int .i64 n] w fun e w' => e = .returned (.tuple #[]) ∧ RBad g s k w' ∧ KpG g w w' := by
  obtain ⟨a, h1, rfl, h3⟩ := hh
  obtain ⟨c0, c1, c2⟩ := box3 h3
  have f2 := froz_heap h3 2
  have hg := heap_lt h3
  have H3 := Lib.hid h3; clear h3
  have HN := Lib.hid hn; clear hn
  go_enter Tryz.func136, Tryz.ntmps136
  go_wp2
  go_end0
  exact ⟨rfl, ⟨hk, a, h1, by rw [← HN.out]; exact set_heap2' H3.out _⟩, (KpG.pure (Below.refl _ w)).setCell (p := ⟨g, 2, none⟩) (.inl rfl) _⟩
theorem rbad_bad (g k : Nat) (s : ByteArray) (w : World) (hh : RBad g s k w) (n : Int) :
    Calls Tryz.prog 136 #[.pointer (some ⟨g, 0, none⟩), .int .i64 n] w fun e w' => e = .returned (.tuple #[]) ∧ w' = w := by
  obtain ⟨hk, a, h1, h3⟩ := hh
  obtain ⟨c0, c1, c2⟩ := box3 h3
  obtain ⟨m, hm⟩ : ∃ m : Nat, (s.size : Int) - (k : Int) = (m : Int) := ⟨s.size - k, by omega⟩
  rw [hm] at c2
  have hd : decide ((m : Int) < 0) = false := by simp
  clear h3 hm
  go_enter Tryz.func136, Tryz.ntmps136
  go_wp2
  go_end0
  exact ⟨rfl, rfl⟩
/-- what a reading step answers: the model's answer, or the place of what is wrong -/
def RRd {α : Type} (g : Nat) (s : ByteArray) (enc : α → Value) (V : Value → Prop) (r : Except Nat (α × List UInt8)) (w : World) (e : Ending) (w' : World) : Prop :=
  match r with
  | .ok (x, l) => e = .returned (enc x) ∧ RTx g s l w' ∧ KpG g w w'
  | .error k => (∃ v, V v ∧ e = .returned v) ∧ RBad g s k w' ∧ KpG g w w'

theorem hd0_take {c : UInt8} {l : List UInt8} (hc : c ≠ 0) : takeB c l = (hd0 l == c) := by
  cases l with
  | nil => simp [takeB, hd0, hc]; intro e; exact hc e.symm
  | cons a r => rfl
theorem u8_eqb (a b : UInt8) : ((a.toNat : Int) == (b.toNat : Int)) = (a == b) := by
  cases h : a == b with
  | true => rw [beq_iff_eq] at h; subst h; simp
  | false =>
    rw [beq_eq_false_iff_ne] at *
    intro e; exact h (UInt8.toNat_inj.1 (by omega))
theorem u8_neb (a b : UInt8) : ((a.toNat : Int) != (b.toNat : Int)) = !(a == b) := by rw [bne, u8_eqb]

def MustPost (g : Nat) (s : ByteArray) (c : UInt8) (l : List UInt8) (w' : World) : Prop := (takeB c l = true ∧ RTx g s l.tail w') ∨ (takeB c l = false ∧ RBad g s l.length w')
set_option maxHeartbeats 1000000 in
theorem rmust_any (c : UInt8) (hc : c ≠ 0) (g : Nat) (s : ByteArray) (l : List UInt8) (w : World) (h : RTx g s l w) (hs : s.size ≤ 1099511627776) :
    Calls Tryz.prog 134 #[.pointer (some ⟨g, 0, none⟩), .int .u8 c.toNat] w fun e w' => e = .returned (.tuple #[]) ∧ KpG g w w' ∧ MustPost g s c l w' := by
  have H := Lib.hid h
  have hne := u8_neb (hd0 l) c
  rw [← hd0_take hc] at hne
  obtain ⟨a, h1, hl, h3⟩ := h
  have hg := heap_lt h3
  obtain ⟨c0, c1, c2⟩ := box3 h3
  have f1 := froz_heap h3 1
  have H3 := Lib.hid h3; clear h3
  cases ht : takeB c l with
  | true =>
    have halt : a < s.size := by
      rcases Nat.lt_or_ge a s.size with q | q
      · exact q
      · rw [drop_end s a q] at hl; subst hl; simp [takeB] at ht
    rw [ht] at hne
    simp only [Bool.not_true] at hne
    have hd : decide ((s.size : Int) ≤ (a : Int)) = false := by simp; omega
    have HT := Lib.hid ht; have HL := Lib.hid hl; clear ht hl
    go_enter Tryz.func134, Tryz.ntmps134
    go_wp2_with fail
    go_quiet ((go_at_call 135; exact Calls.quiet_of (rnext_any g s l _ (H.out.drewN _) hs)))
    clear hne hd
    go_wp2
    go_end0
    refine ⟨rfl, ((Kp.refl (fun k => k = g) w).drewN _).setCell (p := ⟨g, 1, none⟩) (.inl rfl) _, .inl ⟨HT.out, a + 1, halt, Txt.tail (g := 0) (w := w) HL.out, set_heap1' (H3.out) _⟩⟩
  | false =>
    rw [ht] at hne
    simp only [Bool.not_false] at hne
    have HT := Lib.hid ht; have HL := Lib.hid hl; clear ht hl
    go_enter Tryz.func134, Tryz.ntmps134
    go_wp2_with fail
    go_quiet ((go_at_call 135; exact Calls.quiet_of (rnext_any g s l _ (H.out.drewN _) hs)))
    clear hne
    go_wp2_with fail
    refine (rbad_good g s l l.length _ (H.out.drewN _) H.out.left _ ?_ hs).mono ?_
    · rw [HL.out, drop_len]; omega
    rintro e w2 ⟨rfl, q2, k2⟩
    go_wp2
    refine bodyPost_ret (results_none rfl _ _ _) rfl ?_
    exact ⟨rfl, ((Kp.refl (fun k => k = g) w).drewN _).trans k2, .inr ⟨HT.out, q2⟩⟩
theorem rmust_bad (c : UInt8) (hc : c ≠ 0) (g k : Nat) (s : ByteArray) (w : World) (h : RBad g s k w) (hs : s.size ≤ 1099511627776) :
    Calls Tryz.prog 134 #[.pointer (some ⟨g, 0, none⟩), .int .u8 c.toNat] w fun e w' => e = .returned (.tuple #[]) ∧ ∃ n, w' = w.drewN n := by
  have H := Lib.hid h
  have hne : ((0 : Int) != (c.toNat : Int)) = true := by
    have := u8_neb 0 c
    rw [show ((0 : UInt8).toNat : Int) = 0 from rfl] at this
    rw [this]; simpa using fun e : 0 = c => hc e.symm
  obtain ⟨_, a, _, h3⟩ := h
  obtain ⟨c0, c1, c2⟩ := box3 h3
  clear h3 c2
  go_enter Tryz.func134, Tryz.ntmps134
  go_wp2_with fail
  go_quiet ((go_at_call 135; exact Calls.quiet_of (rnext_bad g k s _ (H.out.drewN _) hs)))
  clear hne
  go_wp2_with fail
  refine (rbad_bad g k s _ (H.out.drewN _) _).mono ?_
  rintro e w2 ⟨rfl, rfl⟩
  go_wp2
  refine bodyPost_ret (results_none rfl _ _ _) rfl ?_
  exact ⟨rfl, _, rfl⟩
end

section
set_option linter.unusedVariables false
set_option linter.unusedSimpArgs false
open Go.RowKit Go.PlainAid

theorem dec_bound {d : List UInt8} (hk : d.length ≤ 18) (ha : d.all isDig = true) : decN 0 d < 10 ^ d.length := by
  have := (parse_dec d 0 0 (by decide) (by omega) ha).2
  simpa using this
theorem num_long {l : List UInt8} (h : (l.take 19).all isDig = true) (hl : 19 ≤ l.length) : numberM l = .error l.length := by
  have e : l.takeWhile isDig = l.take 19 ++ (l.drop 19).takeWhile isDig := by
    conv => lhs; rw [← List.take_append_drop 19 l]
    exact List.takeWhile_append_of_pos (by simpa using h)
  have hn : 19 ≤ (l.takeWhile isDig).length := by rw [e, List.length_append, List.length_take]; omega
  have hne : l.takeWhile isDig ≠ [] := by intro h0; rw [h0] at hn; simp at hn
  unfold numberM; rw [runM_some hne]
  have hb : badNum (l.takeWhile isDig) = true := by
    unfold badNum; rw [decide_eq_true (show 18 < (l.takeWhile isDig).length by omega)]; rfl
  simp only [hb, if_true]
theorem drop_hd {l : List UInt8} {k : Nat} (h : k < l.length) : hd0 (l.drop k) = l[k] := by
  rw [List.drop_eq_getElem_cons h]; rfl
theorem num_stop {l : List UInt8} {k : Nat} (hk : k ≤ l.length) (ha : (l.take k).all isDig = true) (he : isDig (hd0 (l.drop k)) = false) :
    numberM l = if k = 0 then .error l.length else if badNum (l.take k) then .error l.length else .ok (decV (l.take k), l.drop k) := by
  obtain ⟨e1, e2⟩ := span_take ha hk (fun h => by rw [← drop_hd h]; exact he)
  unfold numberM runM
  rw [e1, e2]
  by_cases h0 : k = 0
  · subst h0; simp
  · have : l.take k ≠ [] := by
      intro h; have := congrArg List.length h; rw [List.length_take, List.length_nil] at this; omega
    rw [if_neg this, if_neg h0]
theorem posOf_cell {g j : Nat} {w : World} (h : w.cell? ⟨g, 1, none⟩ = some (.int .i64 (j : Int))) : posOf g w = j := by
  unfold posOf; rw [h]; simp [intOf]
theorem dig_facts (c : UInt8) : isDig c = (decide ((48 : Int) ≤ (c.toNat : Int)) && decide ((c.toNat : Int) ≤ 57)) := by
  unfold isDig
  congr 1 <;> simp <;> omega

set_option maxRecDepth 100000 in
set_option maxHeartbeats 4000000 in
theorem rnumber_any (g : Nat) (s : ByteArray) (l : List UInt8) (w : World) (hx : RTx g s l w) (hs : s.size ≤ 1099511627776) :
    Calls Tryz.prog 88 #[.pointer (some ⟨g, 0, none⟩)] w (RRd g s intV (fun v => v = .int .i64 0) (numberM l) w) := by
  have HX := Lib.hid hx
  obtain ⟨a0, h1, hl, h3⟩ := hx
  obtain ⟨c0, c1, c2⟩ := box3 h3
  have hll : l.length = s.size - a0 := by rw [hl, drop_len]
  have HL := Lib.hid hl; clear hl
  go_enter Tryz.func88, Tryz.ntmps88
  go_wp2_with fail
  clear c0 c1 c2
  go_loopw [4] (fun n wr => ∃ k : Nat, k ≤ 18 ∧ k ≤ l.length ∧ n = .int .i64 ((decN 0 (l.take k) : Nat) : Int) ∧ (l.take k).all isDig = true ∧ wr.heap[g]? = some (.cells #[.string s, .int .i64 ((a0 + k : Nat) : Int), .int .i64 (-1)] 118 (0, 0)) ∧ KpG g w wr) (fun _ wr => s.size - posOf g wr)
  case atStart => exact ⟨0, by omega, by omega, rfl, by simp, h3, Kp.refl _ _⟩
  case round =>
    clear h3
    obtain ⟨k, hk18, hkl, rfl, hall, hg, hkp⟩ := hrel
    obtain ⟨a, ha⟩ : ∃ a, a0 + k = a := ⟨_, rfl⟩
    rw [ha] at hg
    have hR : RTx g s (l.drop k) wr := ⟨a, by omega, by rw [HL.out, List.drop_drop, ← ha], hg⟩
    obtain ⟨c0, c1, c2⟩ := box3 hg
    have f1 := froz_heap hg 1
    have hgl := heap_lt hg
    have hpos := posOf_cell c1
    have HPOS := Lib.hid hpos
    have HG := Lib.hid hg; have HR := Lib.hid hR; have HALL := Lib.hid hall; have HKP := Lib.hid hkp
    have ha1 : a ≤ a0 + k := by omega
    have ha2 : a0 + k ≤ a := by omega
    have hbd : decN 0 (l.take k) < 10 ^ 18 := Nat.lt_of_lt_of_le (dec_bound (by rw [List.length_take]; omega) hall) (Nat.pow_le_pow_right (by decide) (by rw [List.length_take]; omega))
    have h17 : k < 18 → decN 0 (l.take k) < 10 ^ 17 := fun h => Nat.lt_of_lt_of_le (dec_bound (by rw [List.length_take]; omega) hall) (Nat.pow_le_pow_right (by decide) (by rw [List.length_take]; omega))
    clear hg hR hall hkp ha hpos
    obtain ⟨c, hc⟩ : ∃ c, hd0 (l.drop k) = c := ⟨_, rfl⟩
    have HNX := Lib.hid (fun (W : World) (h : RTx g s (l.drop k) W) => rnext_any g s (l.drop k) W h hs)
    rw [hc] at HNX
    have HC := Lib.hid hc
    have hdf := dig_facts c
    have hw8 : wrap64 (c.toNat : Int) = (c.toNat : Int) := wrap_u8 c
    have hcl := c.toNat_lt
    clear hc
    obtain ⟨N, hN⟩ : ∃ N, decN 0 (l.take k) = N := ⟨_, rfl⟩
    rw [hN] at hbd h17 ⊢
    have HN := Lib.hid hN; clear hN
    by_cases hd : isDig c = true
    · have hkl2 : k < l.length := by
        rcases Nat.lt_or_ge k l.length with q | q
        · exact q
        · have := HC.out; rw [List.drop_eq_nil_of_le q] at this; subst this; simp [hd0, isDig] at hd
      rw [hd] at hdf
      have hd2 := hdf.symm
      rw [Bool.and_eq_true] at hd2
      obtain ⟨d1, d2⟩ := hd2
      have d1' : (48 : Int) ≤ (c.toNat : Int) := of_decide_eq_true d1
      have d2' : (c.toNat : Int) ≤ 57 := of_decide_eq_true d2
      have hall2 : (l.take (k + 1)).all isDig = true := by
        rw [List.take_succ_eq_append_getElem hkl2, List.all_append, HALL.out, ← drop_hd hkl2, HC.out]; simp [hd]
      have HALL2 := Lib.hid hall2
      clear hdf hd hall2
      by_cases h18 : 18 ≤ k
      · have dd : decide ((18 : Int) ≤ (a : Int) - (a0 : Int)) = true := decide_eq_true (by omega)
        have hE := Lib.hid (num_long (l := l) (by have := HALL2.out; rwa [show k + 1 = 19 by omega] at this) (by omega))
        go_wp2_with fail
        refine (HNX.out _ HR.out).mono ?_
        rintro e w1 ⟨rfl, n1, rfl⟩
        go_wp2_with fail
        refine (HNX.out _ (HR.out.drewN _)).mono ?_
        rintro e w2 ⟨rfl, n2, rfl⟩
        go_wp2_with fail
        refine (rbad_good g s _ l.length _ (HR.out.drewN _) (by omega) _ ?_ hs).mono ?_
        · omega
        rintro e w3 ⟨rfl, q3, k3⟩
        go_wp2
        go_ret
        unfold RRd; rw [hE.out]
        exact ⟨⟨_, rfl, rfl⟩, q3, (HKP.out.drewN _).trans k3⟩
      · have dd : decide ((18 : Int) ≤ (a : Int) - (a0 : Int)) = false := decide_eq_false (by omega)
        have h17' := h17 (by omega)
        have p17 : (10 : Nat) ^ 17 = 100000000000000000 := by decide
        rw [p17] at h17'
        have hN2 : ((decN 0 (l.take (k + 1)) : Nat) : Int) = (N : Int) * 10 + (c.toNat : Int) - 48 := by
          rw [List.take_succ_eq_append_getElem hkl2, ← drop_hd hkl2, HC.out]
          unfold decN at *
          rw [List.foldl_append]
          have := HN.out
          unfold decN at this
          rw [this]
          simp only [List.foldl_cons, List.foldl_nil]
          omega
        have HN2 := Lib.hid hN2
        clear hbd h17 p17 hN2
        go_wp2_with fail
        refine (HNX.out _ HR.out).mono ?_
        rintro e w1 ⟨rfl, n1, rfl⟩
        go_wp2_with fail
        refine (HNX.out _ (HR.out.drewN _)).mono ?_
        rintro e w2 ⟨rfl, n2, rfl⟩
        go_wp2_with fail
        refine (HNX.out _ (HR.out.drewN _)).mono ?_
        rintro e w3 ⟨rfl, n3, rfl⟩
        go_wp2
        have hcast : ((a0 + (k + 1) : Nat) : Int) = (a : Int) + 1 := by omega
        refine ⟨⟨k + 1, by omega, by omega, by rw [HN2.out], HALL2.out, by rw [hcast]; exact set_heap1' HG.out _, (HKP.out.drewN _).setCell (p := ⟨g, 1, none⟩) (.inl rfl) _⟩, ?_⟩
        rw [HPOS.out]
        refine Nat.lt_of_le_of_lt (Nat.le_of_eq (congrArg (fun x => s.size - x) (posOf_cell (j := a + 1) ?_))) ?_
        · exact (box3 (set_heap1' HG.out _)).2.1
        · show s.size - (a + 1) < s.size - a
          omega
    · have hd' : isDig c = false := by simpa using hd
      have hE := Lib.hid (num_stop hkl HALL.out (by rw [HC.out]; exact hd'))
      rw [hd'] at hdf
      replace hdf := hdf.symm
      have hk2 : 0 < k → a0 < s.size := fun h => by omega
      clear hd hd' h17
      cases hd1 : decide ((48 : Int) ≤ (c.toNat : Int))
      case' true =>
        rw [hd1, Bool.true_and] at hdf
        go_wp2_with fail
        refine (HNX.out _ HR.out).mono ?_
        rintro e w1 ⟨rfl, n1, rfl⟩
        go_wp2_with fail
        refine (HNX.out _ (HR.out.drewN _)).mono ?_
        rintro e w2 ⟨rfl, n2, rfl⟩
      case' false =>
        clear hdf
        go_wp2_with fail
        refine (HNX.out _ HR.out).mono ?_
        rintro e w1 ⟨rfl, n1, rfl⟩
      all_goals
        by_cases hk0 : k = 0
        · have e0 : ((a : Int) == (a0 : Int)) = true := by simp; omega
          have HE := Lib.hid (show numberM l = .error l.length by rw [hE.out, if_pos hk0])
          clear hk0
          go_wp2_with fail
          refine (rbad_good g s _ l.length _ (HR.out.drewN _) (by omega) _ ?_ hs).mono ?_
          · omega
          rintro e w3 ⟨rfl, q3, k3⟩
          go_wp2
          go_ret
          unfold RRd; rw [HE.out]
          exact ⟨⟨_, rfl, rfl⟩, q3, (HKP.out.drewN _).trans k3⟩
        · have e0 : ((a : Int) == (a0 : Int)) = false := by simp; omega
          have hlt0 := hk2 (by omega)
          have hlt0' : (a0 : Int) < (s.size : Int) := by omega
          have hhd : (l.take k).head? = some (s[a0]'hlt0) := by
            rw [HL.out, drop_cons s a0 hlt0]
            obtain ⟨m, rfl⟩ : ∃ m, k = m + 1 := ⟨k - 1, by omega⟩
            rfl
          have hlen : (l.take k).length = k := by rw [List.length_take]; omega
          rw [if_neg hk0] at hE
          by_cases h48 : (s[a0]'hlt0).toNat = 48
          case' neg =>
            have hb : badNum (l.take k) = false := by
              unfold badNum; rw [hhd, hlen]
              have : (s[a0]'hlt0 == (48 : UInt8)) = false := u8_bne (n := 48) h48 (by decide)
              simp [this]; omega
            have e48 : (((s[a0]'hlt0).toNat : Int) == 48) = false := by simp; omega
          case' pos =>
            have e48 : ((s[a0]'hlt0).toNat : Int) = 48 := by omega
            by_cases h1b : 1 < k
            case' neg =>
              have hb : badNum (l.take k) = false := by
                unfold badNum; rw [hlen]
                simp; omega
              have d1 : decide ((a0 : Int) + 1 < (a : Int)) = false := decide_eq_false (by omega)
            case' pos =>
              have hb : badNum (l.take k) = true := by
                unfold badNum; rw [hhd, hlen, u8_of h48 (by decide)]
                simp [h1b]
              have d1 : decide ((a0 : Int) + 1 < (a : Int)) = true := decide_eq_true (by omega)
              rw [hb] at hE
              clear hhd hlen hk0 h48
              go_wp2_with fail
              refine (rbad_good g s _ l.length _ (HR.out.drewN _) (by omega) _ ?_ hs).mono ?_
              · omega
              rintro e w3 ⟨rfl, q3, k3⟩
              go_wp2
              go_ret
              unfold RRd; rw [hE.out]
              exact ⟨⟨_, rfl, rfl⟩, q3, (HKP.out.drewN _).trans k3⟩
          all_goals
            rw [hb] at hE
            clear hhd hlen hk0 h48 hb
            try clear h1b
            go_wp2
            go_ret
            unfold RRd; rw [hE.out]
            refine ⟨?_, HR.out.drewN _, HKP.out.drewN _⟩
            unfold intV decV
            rw [HN.out]; rfl
end

section
set_option linter.unusedVariables false
set_option linter.unusedSimpArgs false
open Go.RowKit Go.PlainAid

set_option maxRecDepth 100000 in
theorem hexI_cases : ∀ i : Fin 256, hexI (UInt8.ofNat i.val) < 0 ∨ hx (hexI (UInt8.ofNat i.val)).toNat = UInt8.ofNat i.val := by decide
theorem hexI_hit (c : UInt8) (h : ¬ hexI c < 0) : hx (hexI c).toNat = c := by
  have := hexI_cases ⟨c.toNat, c.toNat_lt⟩
  simp only [UInt8.ofNat_toNat] at this
  rcases this with q | q
  · exact absurd q h
  · exact q
theorem hx_hexI16 : ∀ i : Fin 16, hexI (hx i.val) = i.val := by decide
theorem hexI_none {c : UInt8} (h : ∀ j, j < 16 → hx j ≠ c) : hexI c < 0 := by
  rcases Int.lt_or_le (hexI c) 0 with q | q
  · exact q
  · have := hexI_lt c
    exact absurd (hexI_hit c (by omega)) (h _ (by omega))

set_option maxRecDepth 100000 in
set_option maxHeartbeats 4000000 in
theorem rdigit_any (g : Nat) (s : ByteArray) (l : List UInt8) (w : World) (hx_ : RTx g s l w) (hs : s.size ≤ 1099511627776) :
    Calls Tryz.prog 171 #[.pointer (some ⟨g, 0, none⟩)] w (RRd g s intV (fun v => v = .int .i64 0) (hexSt l) w) := by
  have HX := Lib.hid hx_
  obtain ⟨a, h1, hl, h3⟩ := hx_
  have HL := Lib.hid hl
  have hll : l.length = s.size - a := by rw [hl, drop_len]
  have H3 := Lib.hid h3
  clear hl h3
  obtain ⟨c, hc⟩ : ∃ c, hd0 l = c := ⟨_, rfl⟩
  have HNX := Lib.hid (fun (W : World) (h : RTx g s l W) => rnext_any g s l W h hs)
  rw [hc] at HNX
  have HC := Lib.hid hc; clear hc
  go_enter Tryz.func171, Tryz.ntmps171
  go_wp2_with fail
  go_loopw [3] (fun i wr => ∃ k : Nat, k ≤ 16 ∧ i = .int .i64 k ∧ (∀ j, j < k → hx j ≠ c) ∧ ∃ n, wr = w.drewN n) (fun i _ => 16 - (intOf i).toNat)
  case atStart => exact ⟨0, by omega, rfl, by omega, 0, rfl⟩
  case round =>
    obtain ⟨k, hk, rfl, hall, hwr⟩ := hrel
    have HALL := Lib.hid hall; clear hall
    have HXW := Lib.hid (show RTx g s l wr from by obtain ⟨n, e⟩ := hwr; rw [e]; exact HX.out.drewN n)
    have H3W := Lib.hid ((show wr.heap[g]? = w.heap[g]? from by obtain ⟨n, e⟩ := hwr; rw [e]; rfl).trans H3.out)
    have HKW := Lib.hid (show KpG g w wr from by obtain ⟨n, e⟩ := hwr; rw [e]; exact (Kp.refl (fun k => k = g) w).drewN n)
    have HDW := Lib.hid (show ∀ m, ∃ n, wr.drewN m = w.drewN n from fun m => by obtain ⟨n, e⟩ := hwr; rw [e]; exact ⟨_, World.drewN_drewN _ _ _⟩)
    clear hwr
    by_cases hlt : k < 16
    · have dk : decide ((k : Int) < 16) = true := decide_eq_true (by omega)
      have g1 := @hx_get _ hlt
      have k0 : (0 : Int) ≤ (k : Int) := by omega
      have k1 : (k : Int) < 16 := by omega
      have hq := u8_eqb c (hx k)
      by_cases he : c = hx k
      · have hq' : ((c.toNat : Int) == ((hx k).toNat : Int)) = true := by rw [hq]; simpa using he
        have hI : hexI c = (k : Int) := by rw [he]; exact hx_hexI16 ⟨k, hlt⟩
        have hS : hexSt l = .ok ((k : Int), l.tail) := by unfold hexSt; rw [HC.out, hI, if_neg (by omega)]
        have hne : a < s.size := by
          rcases Nat.lt_or_ge a s.size with q | q
          · exact q
          · have hn := HL.out
            rw [drop_end s a q] at hn
            have := HC.out
            rw [hn] at this
            subst this
            exact absurd hI (by have : hexI 0 < 0 := by decide
                                show ¬ hexI 0 = _; omega)
        have HS := Lib.hid hS
        clear hq hI hS he
        obtain ⟨c0, c1, c2⟩ := box3 H3W.out
        have f1 := froz_heap H3W.out 1
        have hgl := heap_lt H3W.out
        go_wp2_with fail
        go_quiet ((go_at_call 135; exact Calls.quiet_of (HNX.out _ (HXW.out.drewN _))))
        clear hq' dk
        go_wp2
        go_ret
        unfold RRd; rw [HS.out]
        exact ⟨rfl, ⟨a + 1, hne, Txt.tail (g := 0) (w := w) HL.out, set_heap1' H3W.out _⟩, (HKW.out.drewN _).setCell (p := ⟨g, 1, none⟩) (.inl rfl) _⟩
      · have hq' : ((c.toNat : Int) == ((hx k).toNat : Int)) = false := by rw [hq]; simpa using he
        have HE := Lib.hid he
        clear hq he
        go_wp2_with fail
        go_quiet ((go_at_call 135; exact Calls.quiet_of (HNX.out _ (HXW.out.drewN _))))
        clear hq' dk
        go_wp2
        refine ⟨⟨k + 1, by omega, by go_num, fun j hj => ?_, HDW.out _⟩, by simp [intOf]; omega⟩
        rcases Nat.lt_or_ge j k with q | q
        · exact HALL.out j q
        · obtain rfl : j = k := by omega
          exact fun e => HE.out e.symm
    · obtain rfl : k = 16 := by omega
      have hI := hexI_none HALL.out
      have hS := Lib.hid (show hexSt l = .error l.length by unfold hexSt; rw [HC.out, if_pos hI])
      clear hI hlt hk
      obtain ⟨c0, c1, c2⟩ := box3 H3W.out
      go_wp2_with fail
      refine (rbad_good g s l l.length _ HXW.out HXW.out.left _ ?_ hs).mono ?_
      · omega
      rintro e w3 ⟨rfl, q3, k3⟩
      go_wp2
      go_ret
      unfold RRd; rw [hS.out]
      exact ⟨⟨_, rfl, rfl⟩, q3, HKW.out.trans k3⟩
set_option maxRecDepth 100000 in
set_option maxHeartbeats 4000000 in
theorem rdigit_bad (g k0 : Nat) (s : ByteArray) (w : World) (hx_ : RBad g s k0 w) (hs : s.size ≤ 1099511627776) :
    Calls Tryz.prog 171 #[.pointer (some ⟨g, 0, none⟩)] w fun e w' => e = .returned (.int .i64 0) ∧ ∃ n, w' = w.drewN n := by
  have HX := Lib.hid hx_
  obtain ⟨_, a, h1, h3⟩ := hx_
  have H3 := Lib.hid h3
  clear h3
  go_enter Tryz.func171, Tryz.ntmps171
  go_wp2_with fail
  go_loopw [3] (fun i wr => ∃ k : Nat, k ≤ 16 ∧ i = .int .i64 k ∧ ∃ n, wr = w.drewN n) (fun i _ => 16 - (intOf i).toNat)
  case atStart => exact ⟨0, by omega, rfl, 0, rfl⟩
  case round =>
    obtain ⟨k, hk, rfl, hwr⟩ := hrel
    have HXW := Lib.hid (show RBad g s k0 wr from by obtain ⟨n, e⟩ := hwr; rw [e]; exact HX.out.drewN n)
    have H3W := Lib.hid ((show wr.heap[g]? = w.heap[g]? from by obtain ⟨n, e⟩ := hwr; rw [e]; rfl).trans H3.out)
    have HDW := Lib.hid (show ∀ m, ∃ n, wr.drewN m = w.drewN n from fun m => by obtain ⟨n, e⟩ := hwr; rw [e]; exact ⟨_, World.drewN_drewN _ _ _⟩)
    have HDW0 := Lib.hid hwr
    clear hwr
    by_cases hlt : k < 16
    · have dk : decide ((k : Int) < 16) = true := decide_eq_true (by omega)
      have g1 := @hx_get _ hlt
      have k0 : (0 : Int) ≤ (k : Int) := by omega
      have k1 : (k : Int) < 16 := by omega
      have hq' : ((0 : Int) == ((hx k).toNat : Int)) = false := by
        have := u8_eqb 0 (hx k)
        rw [show ((0 : UInt8).toNat : Int) = 0 from rfl] at this
        rw [this]
        have h2 : ∀ i : Fin 16, (0 : UInt8) ≠ hx i.val := by decide
        simpa using h2 ⟨k, hlt⟩
      go_wp2_with fail
      go_quiet ((go_at_call 135; exact Calls.quiet_of (rnext_bad g _ s _ (HXW.out.drewN _) hs)))
      clear hq' dk
      go_wp2
      exact ⟨⟨k + 1, by omega, by go_num, HDW.out _⟩, by simp [intOf]; omega⟩
    · obtain rfl : k = 16 := by omega
      clear hlt hk
      obtain ⟨c0, c1, c2⟩ := box3 H3W.out
      clear c2
      go_wp2_with fail
      refine (rbad_bad g _ s _ HXW.out _).mono ?_
      rintro e w3 ⟨rfl, rfl⟩
      go_wp2
      go_ret
      exact ⟨rfl, HDW0.out⟩
end

section
set_option linter.unusedVariables false
set_option linter.unusedSimpArgs false
open Go.RowKit Go.PlainAid

theorem hexN_2 (l : List UInt8) : hexN 2 l = match hexSt l with
    | .error e => .error e
    | .ok (d, r) => match hexSt r with
      | .error e => .error e
      | .ok (d2, r2) => .ok (16 * (16 * 0 + d) + d2, r2) := by
  simp only [hexN]
  cases hexSt l with
  | error e => rfl
  | ok p => rfl
theorem hexSt_lt {l r : List UInt8} {d : Int} (h : hexSt l = .ok (d, r)) : 0 ≤ d ∧ d < 16 := by
  unfold hexSt at h
  have := hexI_lt (hd0 l)
  split at h
  · cases h
  · injection h with h; injection h with h1 h2; omega
def byteIs (v : Value) : Prop := ∃ b : UInt8, v = byteV b
theorem byteIs_of {m : Int} (h0 : 0 ≤ m) (h1 : m < 256) : byteIs (.int .u8 m) := ⟨m.toNat.toUInt8, by unfold byteV; rw [byte_of h0 h1]⟩

set_option maxRecDepth 100000 in
set_option maxHeartbeats 4000000 in
theorem rbehind_any (g : Nat) (s : ByteArray) (l : List UInt8) (w : World) (hx_ : RTx g s l w) (hl1 : l.length + 1 ≤ s.size) (hs : s.size ≤ 1099511627776) :
    Calls Tryz.prog 137 #[.pointer (some ⟨g, 0, none⟩)] w (RRd g s byteV byteIs (escM l) w) := by
  have HX := Lib.hid hx_
  obtain ⟨a, h1, hl, h3⟩ := hx_
  have HL := Lib.hid hl
  have hll : l.length = s.size - a := by rw [hl, drop_len]
  have H3 := Lib.hid h3
  have ha1 : 1 ≤ a := by omega
  obtain ⟨c0, c1, c2⟩ := box3 h3
  have f1 := froz_heap h3 1
  have hgl := heap_lt h3
  have hlt : l ≠ [] → a < s.size := fun h => by
    rcases Nat.lt_or_ge a s.size with q | q
    · exact q
    · exact absurd (hl.trans (drop_end s a q)) h
  have HLT := Lib.hid hlt
  clear hl h3 hlt
  obtain ⟨c, hc⟩ : ∃ c, hd0 l = c := ⟨_, rfl⟩
  have t34 := hd0_take (c := 34) (l := l) (by decide)
  have t92 := hd0_take (c := 92) (l := l) (by decide)
  have t110 := hd0_take (c := 110) (l := l) (by decide)
  have t120 := hd0_take (c := 120) (l := l) (by decide)
  have q34 := u8_eqb c 34; have q92 := u8_eqb c 92; have q110 := u8_eqb c 110; have q120 := u8_eqb c 120
  have HNX := Lib.hid (fun (W : World) (h : RTx g s l W) => rnext_any g s l W h hs)
  rw [hc] at HNX t34 t92 t110 t120
  rw [← t34] at q34; rw [← t92] at q92; rw [← t110] at q110; rw [← t120] at q120
  simp only [show ((34 : UInt8).toNat : Int) = 34 from rfl] at q34
  simp only [show ((92 : UInt8).toNat : Int) = 92 from rfl] at q92
  simp only [show ((110 : UInt8).toNat : Int) = 110 from rfl] at q110
  simp only [show ((120 : UInt8).toNat : Int) = 120 from rfl] at q120
  have hne : ∀ x, takeB x l = true → l ≠ [] := fun x h e => by subst e; simp [takeB] at h
  have HNE := Lib.hid hne
  clear hc t34 t92 t110 t120 hne
  have KD : ∀ n, KpG g w (w.drewN n) := fun n => (Kp.refl (fun k => k = g) w).drewN n
  have HKD := Lib.hid KD; clear KD
  have HTL := Lib.hid (show takeB 34 l = true ∨ takeB 92 l = true ∨ takeB 110 l = true ∨ takeB 120 l = true → ∀ n, RTx g s l.tail ((w.drewN n).setCell ⟨g, 1, none⟩ (.int .i64 ((a : Int) + 1))) from fun h n =>
    ⟨a + 1, HLT.out (by rcases h with h | h | h | h <;> exact HNE.out _ h), Txt.tail (g := 0) (w := w) HL.out, set_heap1' H3.out _⟩)
  cases t34 : takeB 34 l with
  | true =>
    rw [t34] at q34
    have f34 : (c.toNat : Int) = 34 := by simpa using q34
    have HE := Lib.hid (show escM l = .ok (34, l.tail) by unfold escM; rw [if_pos t34])
    have HT := Lib.hid (HTL.out (.inl t34))
    clear q34 q92 q110 q120 t34
    go_enter Tryz.func137, Tryz.ntmps137
    go_wp2_with fail
    refine (HNX.out _ HX.out).mono ?_
    rintro e w1 ⟨rfl, n1, rfl⟩
    go_wp2
    go_ret
    unfold RRd; rw [HE.out]
    exact ⟨rfl, HT.out _, (HKD.out _).setCell (p := ⟨g, 1, none⟩) (.inl rfl) _⟩
  | false =>
    rw [t34] at q34
    cases t92 : takeB 92 l with
    | true =>
      rw [t92] at q92
      have f92 : (c.toNat : Int) = 92 := by simpa using q92
      have HE := Lib.hid (show escM l = .ok (92, l.tail) by unfold escM; rw [if_neg (by rw [t34]; simp), if_pos t92])
      have HT := Lib.hid (HTL.out (.inr (.inl t92)))
      clear q34 q92 q110 q120 t34 t92
      go_enter Tryz.func137, Tryz.ntmps137
      go_wp2_with fail
      refine (HNX.out _ HX.out).mono ?_
      rintro e w1 ⟨rfl, n1, rfl⟩
      go_wp2
      go_ret
      unfold RRd; rw [HE.out]
      exact ⟨rfl, HT.out _, (HKD.out _).setCell (p := ⟨g, 1, none⟩) (.inl rfl) _⟩
    | false =>
      rw [t92] at q92
      cases t110 : takeB 110 l with
      | true =>
        rw [t110] at q110
        have f110 : (c.toNat : Int) = 110 := by simpa using q110
        have HE := Lib.hid (show escM l = .ok (10, l.tail) by unfold escM; rw [if_neg (by rw [t34]; simp), if_neg (by rw [t92]; simp), if_pos t110])
        have HT := Lib.hid (HTL.out (.inr (.inr (.inl t110))))
        clear q34 q92 q110 q120 t34 t92 t110
        go_enter Tryz.func137, Tryz.ntmps137
        go_wp2_with fail
        refine (HNX.out _ HX.out).mono ?_
        rintro e w1 ⟨rfl, n1, rfl⟩
        go_wp2
        go_ret
        unfold RRd; rw [HE.out]
        exact ⟨rfl, HT.out _, (HKD.out _).setCell (p := ⟨g, 1, none⟩) (.inl rfl) _⟩
      | false =>
        rw [t110] at q110
        cases t120 : takeB 120 l with
        | false =>
          rw [t120] at q120
          have HE := Lib.hid (show escM l = .error l.length by unfold escM; rw [if_neg (by rw [t34]; simp), if_neg (by rw [t92]; simp), if_neg (by rw [t110]; simp), if_neg (by rw [t120]; simp)])
          clear t34 t92 t110 t120
          go_enter Tryz.func137, Tryz.ntmps137
          go_wp2_with fail
          refine (HNX.out _ HX.out).mono ?_
          rintro e w1 ⟨rfl, n1, rfl⟩
          go_wp2_with fail
          refine (rbad_good g s l l.length _ (HX.out.drewN _) HX.out.left _ ?_ hs).mono ?_
          · omega
          rintro e w3 ⟨rfl, q3, k3⟩
          go_wp2
          go_ret
          unfold RRd; rw [HE.out]
          exact ⟨⟨_, ⟨0, rfl⟩, rfl⟩, q3, (HKD.out _).trans k3⟩
        | true =>
          rw [t120] at q120
          have f120 : (c.toNat : Int) = 120 := by simpa using q120
          have hE : escM l = match hexN 2 l.tail with
              | .error e => .error e
              | .ok (n, r) => if badEsc n then .error (l.length + 1) else .ok (n.toNat.toUInt8, r) := by
            unfold escM; rw [if_neg (by rw [t34]; simp), if_neg (by rw [t92]; simp), if_neg (by rw [t110]; simp), if_pos t120]; rfl
          rw [hexN_2] at hE
          have HE := Lib.hid hE
          have HT := Lib.hid (HTL.out (.inr (.inr (.inr t120))))
          clear q34 q92 q110 q120 t34 t92 t110 t120 hE
          go_enter Tryz.func137, Tryz.ntmps137
          go_wp2_with fail
          refine (HNX.out _ HX.out).mono ?_
          rintro e w1 ⟨rfl, n1, rfl⟩
          go_wp2_with fail
          have HK1 := Lib.hid ((HKD.out n1).setCell (p := ⟨g, 1, none⟩) (.inl rfl) (.int .i64 ((a : Int) + 1)))
          have HT1 := Lib.hid (HT.out n1)
          refine (rdigit_any g s l.tail _ HT1.out hs).mono ?_
          intro e w2 hp
          clear c0 c1 c2 f1 f120
          cases hh : hexSt l.tail with
          | error k =>
            unfold RRd at hp; rw [hh] at hp
            obtain ⟨⟨v, rfl, rfl⟩, b2, k2⟩ := hp
            rw [hh] at HE
            have hk2 := HK1.out.trans k2
            go_wp2_with fail
            refine (rdigit_bad g k s _ b2 hs).mono ?_
            rintro e w3 ⟨rfl, n3, rfl⟩
            go_wp2
            go_ret
            unfold RRd; rw [HE.out]
            exact ⟨⟨_, ⟨0, rfl⟩, rfl⟩, b2.drewN _, hk2.drewN _⟩
          | ok p =>
            obtain ⟨d, r⟩ := p
            unfold RRd at hp; rw [hh] at hp
            obtain ⟨rfl, b2, k2⟩ := hp
            rw [hh] at HE
            obtain ⟨d0, d1⟩ := hexSt_lt hh
            have HK2 := Lib.hid (HK1.out.trans k2)
            have B2 := Lib.hid b2
            clear hh k2 b2
            unfold intV
            go_wp2_with fail
            refine (rdigit_any g s r _ B2.out hs).mono ?_
            intro e w3 hp
            cases hh : hexSt r with
            | error k =>
              unfold RRd at hp; rw [hh] at hp
              obtain ⟨⟨v, rfl, rfl⟩, b3, k3⟩ := hp
              try dsimp only at HE
              rw [hh] at HE
              have HK3 := Lib.hid (HK2.out.trans k3)
              have B3 := Lib.hid b3
              clear hh k3 b3
              have e10 : (d * 16 == 10) = false := by simp; omega
              have e127 : (d * 16 != 127) = true := by simp; omega
              by_cases h32 : 32 ≤ d * 16
              · have e32 : decide (32 ≤ d * 16) = true := decide_eq_true h32
                go_wp2_with fail
                refine (rbad_bad g k s _ B3.out _).mono ?_
                rintro e w4 ⟨rfl, rfl⟩
                go_wp2
                go_ret
                unfold RRd; rw [HE.out]
                exact ⟨⟨_, byteIs_of (m := d * 16) (by omega) (by omega), by first | rfl | (exact congrArg _ (congrArg _ (by rw [IntKind.wrap_u8]; omega)))⟩, B3.out, HK3.out⟩
              · have e32 : decide (32 ≤ d * 16) = false := decide_eq_false h32
                go_wp2
                go_ret
                unfold RRd; rw [HE.out]
                exact ⟨⟨_, byteIs_of (m := d * 16) (by omega) (by omega), by first | rfl | (exact congrArg _ (congrArg _ (by rw [IntKind.wrap_u8]; omega)))⟩, B3.out, HK3.out⟩
            | ok p =>
              obtain ⟨d2, r2⟩ := p
              unfold RRd at hp; rw [hh] at hp
              obtain ⟨rfl, b3, k3⟩ := hp
              try dsimp only at HE
              rw [hh] at HE
              obtain ⟨d20, d21⟩ := hexSt_lt hh
              have HK3 := Lib.hid (HK2.out.trans k3)
              have B3 := Lib.hid b3
              clear hh k3 b3
              try dsimp only at HE
              obtain ⟨m, hm⟩ : ∃ m, d * 16 + d2 = m := ⟨_, rfl⟩
              rw [show 16 * (16 * 0 + d) + d2 = m by omega] at HE
              have m0 : 0 ≤ m := by omega
              have m256 : m < 256 := by omega
              unfold intV
              by_cases e10 : m = 10
              case' pos =>
                have hb : badEsc m = true := by rw [e10]; rfl
                have f10 : (m == 10) = true := by simpa using e10
              case' neg =>
                have f10 : (m == 10) = false := by simpa using e10
                by_cases e32 : 32 ≤ m
                case' neg =>
                  have f32 : decide ((32 : Int) ≤ m) = false := by simpa using e32
                  have hb : badEsc m = false := by unfold badEsc; rw [f10, f32]; rfl
                case' pos =>
                  have f32 : decide ((32 : Int) ≤ m) = true := by simpa using e32
                  by_cases e127 : m = 127
                  case' pos =>
                    have f127 : (m != 127) = false := by simpa using e127
                    have hb : badEsc m = false := by unfold badEsc; rw [f10, f32, f127]; rfl
                  case' neg =>
                    have f127 : (m != 127) = true := by simpa using e127
                    have hb : badEsc m = true := by unfold badEsc; rw [f10, f32, f127]; rfl
              all_goals
                rw [hb] at HE
                clear hb
                try clear e10
                try clear e127
                go_wp2_with fail
              all_goals first
                | (refine (rbad_good g s r2 (l.length + 1) _ B3.out (by omega) _ ?_ hs).mono ?_
                   · omega
                   rintro e w4 ⟨rfl, q4, k4⟩
                   go_wp2
                   go_ret
                   unfold RRd; rw [HE.out]
                   exact ⟨⟨_, byteIs_of m0 m256, by first | rfl | (exact congrArg _ (congrArg _ (by rw [IntKind.wrap_u8]; omega)))⟩, q4, HK3.out.trans k4⟩)
                | (go_ret
                   unfold RRd; rw [HE.out]
                   refine ⟨?_, B3.out, HK3.out⟩
                   unfold byteV
                   rw [byte_of m0 m256]
                   exact ret_int (by first | rfl | (rw [IntKind.wrap_u8]; omega)))
end
end Go.Proofs.YtdpmjlkmjmookaaGreatDoor
