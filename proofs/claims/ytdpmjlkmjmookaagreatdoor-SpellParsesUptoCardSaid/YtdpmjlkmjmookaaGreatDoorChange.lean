/-
  Package change (and runes.Count): which changesets may be (shaped, one, To, Right), walked.
-/
import Derived.Test.YtdpmjlkmjmookaaGreatDoorClone
namespace Go.Proofs.YtdpmjlkmjmookaaGreatDoor
open Go.RowKit

/-! ### runes.Count -/
def cntOk (s : ByteArray) : Bool := Lib.validD s.data.toList && decide (Lib.runeCount s ≤ 20000)
def cntN (s : ByteArray) : Int := if cntOk s then Lib.runeCount s else 0
def cntE (s : ByteArray) : Int := if cntOk s then 0 else 10

theorem ret_tuple2 {a b c d : Value} (h : a = c) (h' : b = d) : Ending.returned (.tuple #[a, b]) = .returned (.tuple #[c, d]) := by rw [h, h']
theorem int_eq {k : IntKind} {a b : Int} (h : a = b) : Value.int k a = .int k b := by rw [h]

set_option maxHeartbeats 400000 in
theorem count_any (s : ByteArray) (w : World) (hs : s.size ≤ 1099511627776) (hT : Tabs w) :
    Calls Tryz.prog 208 #[.string s] w fun e w' => e = .returned (.tuple #[.int .i64 (cntN s), .int .i64 (cntE s)]) ∧ Below w.heap.size w w' := by
  have HT := Lib.hid hT; clear hT
  go_enter Tryz.func208, Tryz.ntmps208
  go_wp2_with fail
  refine (runeCount_any s _ (by omega)).mono ?_
  rintro e w1 ⟨rfl, h1⟩
  go_wp2_with fail
  refine (validString_any s _ (by omega) (HT.out.pure h1)).mono ?_
  rintro e w2 ⟨rfl, h2⟩
  have hb := pure_trans h1 h2
  clear h1 h2
  obtain ⟨vb, hvb⟩ : ∃ vb, Lib.validD s.data.toList = vb := ⟨_, rfl⟩
  obtain ⟨n, hn⟩ : ∃ n, Lib.runeCount s = n := ⟨_, rfl⟩
  rw [hvb, hn]
  have HVB := Lib.hid hvb; have HN := Lib.hid hn; clear hvb hn
  cases vb with
  | false =>
    have HB := Lib.hid (show cntOk s = false by unfold cntOk; rw [HVB.out]; rfl)
    go_wp2
    go_ret2
    exact ⟨ret_tuple2 (int_eq (by unfold cntN; rw [HB.out]; rfl)) (int_eq (by unfold cntE; rw [HB.out]; rfl)), hb⟩
  | true =>
    by_cases hn : n ≤ 20000
    · have HB := Lib.hid (show cntOk s = true by unfold cntOk; rw [HVB.out, HN.out]; simpa using hn)
      go_wp2
      go_ret2
      exact ⟨ret_tuple2 (int_eq (by unfold cntN; rw [HB.out, HN.out]; rfl)) (int_eq (by unfold cntE; rw [HB.out]; rfl)), hb⟩
    · have HB := Lib.hid (show cntOk s = false by unfold cntOk; rw [HVB.out, HN.out]; simpa using hn)
      go_wp2
      go_ret2
      exact ⟨ret_tuple2 (int_eq (by unfold cntN; rw [HB.out]; rfl)) (int_eq (by unfold cntE; rw [HB.out]; rfl)), hb⟩

/-! ### shaped -/
def shapedB (o : OpM) : Bool :=
  if o.kind = 2 then decide (o.n = 0) && !o.text.toList.isEmpty
  else if o.kind = 3 then decide (0 < o.n) && o.text.toList.isEmpty && decide (o.attrs.length = 0)
  else decide (o.kind = 1) && decide (0 < o.n) && o.text.toList.isEmpty
/-- an operation as a value -/
def opV (o : OpM) (va : Value) : Value := .agg #[.int .i64 o.kind, .int .i64 o.n, .string o.text, va]

set_option maxHeartbeats 1000000 in
theorem shaped_any (o : OpM) (va : Value) (F : Nat → Prop) (w : World) (h : RdA w F va o.attrs) :
    Calls Tryz.prog 207 #[opV o va] w fun e w' => e = .returned (.bool (shapedB o)) ∧ Below w.heap.size w w' := by
  obtain ⟨A, cap, rfl, hc, hcm, hm, hcell⟩ := h.open_
  clear h hcell
  obtain ⟨kind, n, text, attrs⟩ := o
  simp only [opV] at *
  have hB : Below w.heap.size w (w.alloc (.cells #[.int .i64 kind, .int .i64 n, .string text, .slice A attrs.length cap] 48)) := (Below.refl _ w).alloc (Nat.le_refl _) _
  have FIN : ∀ (b c : Bool), b = c → shapedB ⟨kind, n, text, attrs⟩ = c → Ending.returned (.bool b) = .returned (.bool (shapedB ⟨kind, n, text, attrs⟩)) := fun b c h1 h2 => by rw [h1, h2]
  have HF := Lib.hid FIN; clear FIN
  by_cases k2 : kind = 2
  · subst k2
    by_cases hn : n = 0
    · subst hn
      go_enter Tryz.func207, Tryz.ntmps207
      go_wp2
      go_ret
      exact ⟨HF.out _ (!text.toList.isEmpty) (by cases text.toList <;> rfl) (by simp [shapedB]), hB⟩
    · have hn' : (n == 0) = false := by simpa using hn
      have HN := Lib.hid hn; clear hn
      go_enter Tryz.func207, Tryz.ntmps207
      go_wp2
      go_ret
      exact ⟨HF.out _ false rfl (by simp [shapedB, HN.out]), hB⟩
  · have k2' : (kind == 2) = false := by simpa using k2
    have K2 := Lib.hid k2; clear k2
    by_cases k3 : kind = 3
    · subst k3
      by_cases hn : 0 < n
      · cases ht : text.toList.isEmpty with
        | false =>
          have HT := Lib.hid ht
          have hl : ((text.toList == []) = false) := by cases hx : text.toList <;> simp_all
          go_enter Tryz.func207, Tryz.ntmps207
          go_wp2
          go_ret
          exact ⟨HF.out _ false rfl (by simp [shapedB, HT.out]), hB⟩
        | true =>
          have HT := Lib.hid ht
          go_enter Tryz.func207, Tryz.ntmps207
          go_wp2
          go_ret
          exact ⟨HF.out _ (decide (attrs.length = 0)) (by first | rfl | (by_cases h0 : attrs.length = 0 <;> simp [h0])) (by simp [shapedB, HT.out, hn]), hB⟩
      · have HN := Lib.hid hn
        go_enter Tryz.func207, Tryz.ntmps207
        go_wp2
        go_ret
        exact ⟨HF.out _ false rfl (by simp [shapedB]; intro h; have := HN.out; omega), hB⟩
    · have k3' : (kind == 3) = false := by simpa using k3
      have K3 := Lib.hid k3; clear k3
      by_cases k1 : kind = 1
      · subst k1
        by_cases hn : 0 < n
        · go_enter Tryz.func207, Tryz.ntmps207
          go_wp2
          go_ret
          exact ⟨HF.out _ text.toList.isEmpty (by cases text.toList <;> rfl) (by simp [shapedB, hn]), hB⟩
        · have HN := Lib.hid hn
          go_enter Tryz.func207, Tryz.ntmps207
          go_wp2
          go_ret
          exact ⟨HF.out _ false rfl (by simp [shapedB]; intro h; have := HN.out; omega), hB⟩
      · have k1' : (kind == 1) = false := by simpa using k1
        have K1 := Lib.hid k1; clear k1
        go_enter Tryz.func207, Tryz.ntmps207
        go_wp2
        go_ret
        exact ⟨HF.out _ false rfl (by simp [shapedB, K1.out, K2.out, K3.out]), hB⟩

/-! ### one -/
def oneTook (o : OpM) (left : Int) : Int := if !shapedB o then 0 else if o.kind = 2 then 0 else if changeE o.attrs ≠ 0 then 0 else if left < o.n then 0 else o.n
def oneMore (o : OpM) (left : Int) : Int := if !shapedB o then 0 else if o.kind = 2 then cntN o.text else if changeE o.attrs ≠ 0 then 0 else if left < o.n then 0 else if o.kind = 3 then -o.n else 0
def oneE (o : OpM) (left : Int) : Int := if !shapedB o then 30 else if o.kind = 2 then (if cntE o.text ≠ 0 then cntE o.text else rightE o.attrs) else if changeE o.attrs ≠ 0 then changeE o.attrs else if left < o.n then 31 else 0
theorem shaped_pos {o : OpM} (h : shapedB o = true) (k : o.kind = 3) : 0 < o.n := by
  unfold shapedB at h; rw [k] at h; simp at h; omega
theorem cnt_cases (s : ByteArray) : (cntE s = 0 ∧ 0 ≤ cntN s ∧ cntN s ≤ 20000) ∨ (cntE s = 10 ∧ cntN s = 0) := by
  unfold cntE cntN
  cases h : cntOk s with
  | false => right; simp
  | true =>
    left
    simp only [cntOk, Bool.and_eq_true, decide_eq_true_eq] at h
    simp; omega
theorem ret_tuple3 {a b c d e f : Value} (h : a = d) (h' : b = e) (h'' : c = f) : Ending.returned (.tuple #[a, b, c]) = .returned (.tuple #[d, e, f]) := by rw [h, h', h'']

set_option maxHeartbeats 1000000 in
theorem one_any (o : OpM) (va : Value) (left : Int) (F : Nat → Prop) (w : World) (h : RdA w F va o.attrs) (ht : o.text.size ≤ 1099511627776) (hleft : left ≤ 9223372036854775807) (hT : Tabs w) :
    Calls Tryz.prog 167 #[opV o va, .int .i64 left] w fun e w' => e = .returned (.tuple #[.int .i64 (oneTook o left), .int .i64 (oneMore o left), .int .i64 (oneE o left)]) ∧ Below w.heap.size w w' := by
  obtain ⟨A, cap, rfl, hc, hcm, hm, hcell⟩ := h.open_
  clear hcell
  have H := Lib.hid h; clear h
  have HT := Lib.hid hT; clear hT
  have FIN : ∀ (a b c a' b' c' : Int), oneTook o left = a' → oneMore o left = b' → oneE o left = c' → a = a' → b = b' → c = c' → Ending.returned (.tuple #[.int .i64 a, .int .i64 b, .int .i64 c]) = .returned (.tuple #[.int .i64 (oneTook o left), .int .i64 (oneMore o left), .int .i64 (oneE o left)]) := by
    intro a b c a' b' c' h1 h2 h3 h4 h5 h6; rw [h1, h2, h3, h4, h5, h6]
  have HF := Lib.hid FIN; clear FIN
  have hB : Below w.heap.size w (w.alloc (.cells #[.int .i64 o.kind, .int .i64 o.n, .string o.text, .slice A o.attrs.length cap] 48)) := (Below.refl _ w).alloc (Nat.le_refl _) _
  simp only [opV]
  cases hs : shapedB o with
  | false =>
    have HS := Lib.hid hs; clear hs
    go_enter Tryz.func167, Tryz.ntmps167
    go_wp2_with fail
    refine (shaped_any o _ F _ (H.out.pure hB)).mono ?_
    rintro e w1 ⟨rfl, h1⟩
    rw [HS.out]
    go_wp2
    go_ret3
    exact ⟨HF.out _ _ _ 0 0 30 (by simp [oneTook, HS.out]) (by simp [oneMore, HS.out]) (by simp [oneE, HS.out]) rfl rfl rfl, pure_trans hB h1⟩
  | true =>
    have HS := Lib.hid hs; clear hs
    have hcs := cnt_cases o.text
    go_enter Tryz.func167, Tryz.ntmps167
    go_wp2_with fail
    refine (shaped_any o _ F _ (H.out.pure hB)).mono ?_
    rintro e w1 ⟨rfl, h1⟩
    rw [HS.out]
    have hb1 := pure_trans hB h1
    obtain ⟨hbx, hlt⟩ := box_heap h1
    obtain ⟨c0, c1, c2, c3⟩ := box4 hbx
    by_cases k2 : o.kind = 2
    · have K2 := Lib.hid k2
      have k2' : (o.kind == 2) = true := by simpa using k2
      clear k2
      go_wp2_with fail
      refine (count_any o.text _ ht (HT.out.pure hb1)).mono ?_
      rintro e w2 ⟨rfl, h2⟩
      have hbx2 := (h2.block _ hlt).trans hbx
      obtain ⟨d0, d1, d2, d3⟩ := box4 hbx2
      have hlt2 := heap_lt hbx2
      rcases hcs with ⟨he, hc0, hc1⟩ | ⟨he, hc0⟩
      · have HE := Lib.hid he
        rw [he]; clear he
        go_wp2_with fail
        refine (attrsRight_any _ o.attrs F _ ((H.out.pure hb1).pure h2)).mono ?_
        rintro e w3 ⟨rfl, h3⟩
        go_wp2
        go_ret3
        exact ⟨HF.out _ _ _ 0 (cntN o.text) (rightE o.attrs) (by simp [oneTook, HS.out, K2.out]) (by simp [oneMore, HS.out, K2.out]) (by simp [oneE, HS.out, K2.out, HE.out]) rfl rfl rfl, pure_trans (pure_trans hb1 h2) h3⟩
      · have HE := Lib.hid he
        have HC := Lib.hid hc0
        rw [he, hc0]; clear he hc0
        go_wp2
        go_ret3
        exact ⟨HF.out _ _ _ 0 0 10 (by simp [oneTook, HS.out, K2.out]) (by simp [oneMore, HS.out, K2.out, HC.out]) (by simp [oneE, HS.out, K2.out, HE.out]) rfl rfl rfl, pure_trans hb1 h2⟩
    · have K2 := Lib.hid k2
      have k2' : (o.kind == 2) = false := by simpa using k2
      clear k2 hcs
      go_wp2_with fail
      refine (change_any _ o.attrs F _ (H.out.pure hb1)).mono ?_
      rintro e w2 ⟨rfl, h2⟩
      have hbx2 := (h2.block _ hlt).trans hbx
      obtain ⟨d0, d1, d2, d3⟩ := box4 hbx2
      have hlt2 := heap_lt hbx2
      have hb2 := pure_trans hb1 h2
      have hce : changeE o.attrs = 0 ∨ changeE o.attrs = 20 := by unfold changeE; cases okChange o.attrs <;> simp
      rcases hce with he | he
      · have HE := Lib.hid he
        rw [he]; clear he
        by_cases hl : left < o.n
        · go_wp2
          go_ret3
          exact ⟨HF.out _ _ _ 0 0 31 (by simp [oneTook, HS.out, K2.out, HE.out, hl]) (by simp [oneMore, HS.out, K2.out, HE.out, hl]) (by simp [oneE, HS.out, K2.out, HE.out, hl]) rfl rfl rfl, hb2⟩
        · by_cases k3 : o.kind = 3
          · have K3 := Lib.hid k3
            have k3' : (o.kind == 3) = true := by simpa using k3
            clear k3
            go_wp2
            go_ret3
            exact ⟨HF.out _ _ _ o.n (-o.n) 0 (by simp [oneTook, HS.out, HE.out, K3.out]; intro h; omega) (by simp [oneMore, HS.out, HE.out, K3.out]; intro h; omega) (by simp [oneE, HS.out, HE.out, K3.out]; omega) rfl (by have h0 : 0 < o.n := shaped_pos HS.out K3.out; unfold wrap64; omega) rfl, hb2⟩
          · have K3 := Lib.hid k3
            have k3' : (o.kind == 3) = false := by simpa using k3
            clear k3
            go_wp2
            go_ret3
            exact ⟨HF.out _ _ _ o.n 0 0 (by simp [oneTook, HS.out, K2.out, HE.out]; intro h; omega) (by simp [oneMore, HS.out, K2.out, HE.out, K3.out]) (by simp [oneE, HS.out, K2.out, HE.out]; omega) rfl rfl rfl, hb2⟩
      · have HE := Lib.hid he
        rw [he]; clear he
        go_wp2
        go_ret3
        exact ⟨HF.out _ _ _ 0 0 20 (by simp [oneTook, HS.out, K2.out, HE.out]) (by simp [oneMore, HS.out, K2.out, HE.out]) (by simp [oneE, HS.out, K2.out, HE.out]) rfl rfl rfl, hb2⟩

/-! ### To, Right -/
/-- behind the first k operations: what is left, how long it is; or the error -/
structure ToSt where
  left : Int
  n : Int
  e : Int
def toStep (s : ToSt) (o : OpM) : ToSt := if s.e ≠ 0 then s else if oneE o s.left ≠ 0 then ⟨s.left, s.n, oneE o s.left⟩ else ⟨s.left - oneTook o s.left, s.n + oneMore o s.left, 0⟩
def toFold (from_ : Int) (ops : List OpM) : ToSt := ops.foldl toStep ⟨from_, from_, 0⟩
def toE (from_ : Int) (ops : List OpM) : Int :=
  if from_ < 0 ∨ 20000 < from_ then 31 else if 2000 < ops.length then 2 else if (toFold from_ ops).e ≠ 0 then (toFold from_ ops).e else if 20000 < (toFold from_ ops).n then 3 else 0
def toN (from_ : Int) (ops : List OpM) : Int := if toE from_ ops ≠ 0 then 0 else (toFold from_ ops).n
theorem toFold_snoc (f : Int) (ops : List OpM) (k : Nat) (h : k < ops.length) : toFold f (ops.take (k + 1)) = toStep (toFold f (ops.take k)) ops[k] := by
  unfold toFold; rw [List.take_succ_eq_append_getElem h, List.foldl_append]; rfl
theorem toFold_stuck (s : ToSt) (h : s.e ≠ 0) (ops : List OpM) : ops.foldl toStep s = s := by
  induction ops with
  | nil => rfl
  | cons o l ih => simp only [List.foldl_cons]; rw [show toStep s o = s by unfold toStep; rw [if_pos h]]; exact ih
theorem toFold_bad (f : Int) (ops : List OpM) (k : Nat) (h : (toFold f (ops.take k)).e ≠ 0) : toFold f ops = toFold f (ops.take k) := by
  conv => lhs; rw [← List.take_append_drop k ops]
  unfold toFold; rw [List.foldl_append]; exact toFold_stuck _ h _
theorem one_bounds (o : OpM) (left : Int) (h : oneE o left = 0) (hl : 0 ≤ left) : 0 ≤ oneTook o left ∧ oneTook o left ≤ left ∧ -(oneTook o left) ≤ oneMore o left ∧ oneMore o left ≤ 20000 := by
  unfold oneE at h; unfold oneTook oneMore
  have hc := cnt_cases o.text
  cases hs : shapedB o with
  | false => simp [hs] at h
  | true =>
    simp only [hs, Bool.not_true, Bool.false_eq_true, if_false] at h ⊢
    split
    · omega
    · rename_i k2
      rw [if_neg k2] at h
      split at h
      · omega
      · rename_i hce
        rw [if_neg hce, if_neg hce]
        split at h
        · omega
        · rename_i hlt
          rw [if_neg hlt, if_neg hlt]
          have : 0 < o.n := by
            unfold shapedB at hs; rw [if_neg k2] at hs
            split at hs <;> simp at hs <;> omega
          split <;> omega

theorem toFold_ok (f : Int) (ops : List OpM) (k : Nat) (hf : 0 ≤ f ∧ f ≤ 20000) (hk : k ≤ ops.length) (h : (toFold f (ops.take k)).e = 0) :
    0 ≤ (toFold f (ops.take k)).left ∧ (toFold f (ops.take k)).left ≤ 20000 ∧ (toFold f (ops.take k)).left ≤ (toFold f (ops.take k)).n ∧ (toFold f (ops.take k)).n ≤ 20000 + 20000 * k := by
  induction k with
  | zero => simp [toFold]; omega
  | succ k ih =>
    rw [toFold_snoc f ops k (by omega)] at h ⊢
    generalize hs : toFold f (ops.take k) = st at *
    obtain ⟨left, n, e⟩ := st
    simp only [toStep] at h ⊢
    by_cases he : e = 0
    · subst he
      have ih := ih (by omega) rfl
      simp only at ih h ⊢
      simp only [ne_eq, not_true_eq_false, if_false] at h ⊢
      by_cases h1 : oneE ops[k] left = 0
      · have hb := one_bounds ops[k] left h1 (by omega)
        simp only [h1, not_true_eq_false, if_false]
        omega
      · simp [h1] at h
    · simp [he] at h

set_option maxHeartbeats 2000000 in
theorem to_any (f : Int) (v : Value) (ops : List OpM) (F : Nat → Prop) (w : World) (h : RdO w F v ops) (hT : Tabs w) :
    Calls Tryz.prog 126 #[.agg #[.int .i64 f, v]] w fun e w' => e = .returned (.tuple #[.int .i64 (toN f ops), .int .i64 (toE f ops)]) ∧ Below w.heap.size w w' := by
  obtain ⟨A, cap, rfl, hc, hcm, hm, hcell⟩ := h.open_
  have H := Lib.hid h; clear h
  have HT := Lib.hid hT; clear hT
  have HC := Lib.hid hcell; clear hcell
  have FIN : ∀ (a b a' b' : Int), toN f ops = a' → toE f ops = b' → a = a' → b = b' → Ending.returned (.tuple #[.int .i64 a, .int .i64 b]) = .returned (.tuple #[.int .i64 (toN f ops), .int .i64 (toE f ops)]) := by
    intro a b a' b' h1 h2 h4 h5; rw [h1, h2, h4, h5]
  have HF := Lib.hid FIN; clear FIN
  have hB : Below w.heap.size w (w.alloc (.cells #[.int .i64 f, .slice A ops.length cap] 24)) := (Below.refl _ w).alloc (Nat.le_refl _) _
  by_cases f0 : f < 0
  · have he : toE f ops = 31 := by unfold toE; rw [if_pos (Or.inl f0)]
    have HE := Lib.hid he; clear he
    go_enter Tryz.func126, Tryz.ntmps126
    go_wp2
    go_ret2
    exact ⟨HF.out _ _ 0 31 (by unfold toN; rw [HE.out]; rfl) HE.out rfl rfl, hB⟩
  by_cases f1 : 20000 < f
  · have he : toE f ops = 31 := by unfold toE; rw [if_pos (Or.inr f1)]
    have HE := Lib.hid he; clear he
    go_enter Tryz.func126, Tryz.ntmps126
    go_wp2
    go_ret2
    exact ⟨HF.out _ _ 0 31 (by unfold toN; rw [HE.out]; rfl) HE.out rfl rfl, hB⟩
  by_cases hl : 2000 < ops.length
  · have he : toE f ops = 2 := by unfold toE; rw [if_neg (by omega), if_pos hl]
    have HE := Lib.hid he; clear he
    go_enter Tryz.func126, Tryz.ntmps126
    go_wp2
    go_ret2
    exact ⟨HF.out _ _ 0 2 (by unfold toN; rw [HE.out]; rfl) HE.out rfl rfl, hB⟩
  have HFF := Lib.hid (show 0 ≤ f ∧ f ≤ 20000 by omega)
  go_enter Tryz.func126, Tryz.ntmps126
  go_wp2_with fail
  go_quiet (fail)
  go_wp2
  go_loopw [32, 4, 5] (fun i a b wr => ∃ (k : Nat) (left n : Int), k ≤ ops.length ∧ i = .int .i64 k ∧ a = .int .i64 left ∧ b = .int .i64 n ∧ Below w.heap.size w wr ∧ toFold f (ops.take k) = ⟨left, n, 0⟩) (fun i _ _ _ => ops.length - (intOf i).toNat)
  case atStart => exact ⟨0, f, f, by omega, rfl, rfl, rfl, below_drewN hB _, by simp [toFold]⟩
  case round =>
    obtain ⟨k, left, n, hk, rfl, rfl, rfl, hb, hf⟩ := hrel
    have hbd := toFold_ok f ops k HFF.out hk (by rw [hf])
    rw [hf] at hbd
    simp only at hbd
    obtain ⟨l0, l1, n0, n1⟩ := hbd
    have HFO := Lib.hid hf; clear hf
    by_cases hlt : k < ops.length
    · obtain ⟨b, off, rfl, hFb⟩ := HC.out (by omega)
      have hrd := H.out.pure hb
      obtain ⟨va, c0, c1, c2, c3, hva⟩ := hrd.at_ k hlt
      obtain ⟨A2, cap2, rfl, _, _, _, _⟩ := hva.open_
      have HVA := Lib.hid hva; clear hva hrd
      have hbl : b < wr.heap.size := World.block_lt_of_cell? wr _ c0
      have hts := (H.out.elem _ (List.getElem_mem hlt)).1
      have hbw : Below wr.heap.size wr (wr.alloc (.cells #[.int .i64 ops[k].kind, .int .i64 ops[k].n, .string ops[k].text, .slice A2 ops[k].attrs.length cap2] 48)) := (Below.refl _ wr).alloc (Nat.le_refl _) _
      have hbb := hb.trans (hbw.mono hb.size)
      have HSN := Lib.hid (toFold_snoc f ops k hlt)
      go_wp2_with fail
      refine (one_any ops[k] _ left F _ (HVA.out.pure hbw) hts (by omega) (HT.out.pure hbb)).mono ?_
      rintro e w1 ⟨rfl, h1⟩
      have hb1 := pure_trans hbb h1
      by_cases he : oneE ops[k] left = 0
      · have hob := one_bounds ops[k] left he l0
        obtain ⟨o0, o1, o2, o3⟩ := hob
        have hn2 : toFold f (ops.take (k + 1)) = ⟨left - oneTook ops[k] left, n + oneMore ops[k] left, 0⟩ := by
          rw [HSN.out, HFO.out]; simp [toStep, he]
        have HN2 := Lib.hid hn2; clear hn2
        rw [he]; clear he
        go_wp2
        exact ⟨⟨k + 1, left - oneTook ops[k] left, n + oneMore ops[k] left, by omega, by go_num, rfl, rfl, hb1, HN2.out⟩, by simp [intOf]; omega⟩
      · have hn2 : toFold f ops = ⟨left, n, oneE ops[k] left⟩ := by
          have h2 : toFold f (ops.take (k + 1)) = ⟨left, n, oneE ops[k] left⟩ := by rw [HSN.out, HFO.out]; simp [toStep, he]
          rw [toFold_bad f ops (k + 1) (by rw [h2]; exact he), h2]
        have hte : toE f ops = oneE ops[k] left := by
          unfold toE; rw [if_neg (by omega), if_neg (by omega), hn2, if_pos he]
        have HTE := Lib.hid hte
        have HTN := Lib.hid (show toN f ops = 0 by unfold toN; rw [hte, if_pos he])
        have he' : (oneE ops[k] left == 0) = false := by simpa using he
        clear hn2 hte he
        go_wp2
        go_ret2
        exact ⟨HF.out _ _ 0 _ HTN.out HTE.out rfl rfl, hb1⟩
    · have hall : toFold f ops = ⟨left, n, 0⟩ := by rw [← HFO.out, List.take_of_length_le (by omega)]
      have HALL := Lib.hid hall; clear hall
      by_cases hbig : 20000 < n
      · have hte : toE f ops = 3 := by unfold toE; rw [if_neg (by omega), if_neg (by omega), HALL.out]; simp [hbig]
        have HTE := Lib.hid hte
        have HTN := Lib.hid (show toN f ops = 0 by unfold toN; rw [hte]; rfl)
        clear hte
        go_wp2
        go_ret2
        exact ⟨HF.out _ _ 0 _ HTN.out HTE.out rfl rfl, hb⟩
      · have hte : toE f ops = 0 := by unfold toE; rw [if_neg (by omega), if_neg (by omega), HALL.out]; simp [hbig]
        have HTE := Lib.hid hte
        have HTN := Lib.hid (show toN f ops = n by unfold toN; rw [hte, HALL.out]; rfl)
        clear hte
        go_wp2
        go_ret2
        exact ⟨HF.out _ _ n _ HTN.out HTE.out rfl rfl, hb⟩
end Go.Proofs.YtdpmjlkmjmookaaGreatDoor
