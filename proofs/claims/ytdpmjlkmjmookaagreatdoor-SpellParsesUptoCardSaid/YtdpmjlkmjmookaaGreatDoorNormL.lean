/-
  The plain law of the normal form: it is normal, may be where what it was made of may be, and is its own.
-/
import Derived.Test.YtdpmjlkmjmookaaGreatDoorReadsM
import Derived.Test.YtdpmjlkmjmookaaGreatDoorRefUtfM
namespace Go.Proofs.YtdpmjlkmjmookaaGreatDoor
open Go.RowKit Go.PlainAid

/-! ### Texts in UTF-8, one behind another -/
theorem decode_drop (s : ByteArray) (i : Nat) : Lib.decodeL (s.data.toList.drop i) = Utf8.decode s i := by
  rw [Lib.decodeL_N, Lib.decode_N, List.length_drop]
  simp only [List.getD_eq_getElem?_getD, List.getElem?_drop, Nat.add_zero]
def rcL : Nat → List UInt8 → Nat
  | 0, _ => 0
  | n + 1, l => if l = [] then 0 else 1 + rcL n (l.drop (Lib.decodeL l).2)
theorem rcL_nil : ∀ n, rcL n [] = 0
  | 0 => rfl
  | n + 1 => by simp [rcL]
theorem rcL_fuel : ∀ (n m : Nat) (l : List UInt8), l.length ≤ n → l.length ≤ m → rcL n l = rcL m l
  | 0, m, l, hn, _ => by
    have : l = [] := List.eq_nil_of_length_eq_zero (by omega)
    subst this; rw [rcL_nil, rcL_nil]
  | n + 1, 0, l, _, hm => by
    have : l = [] := List.eq_nil_of_length_eq_zero (by omega)
    subst this; rw [rcL_nil, rcL_nil]
  | n + 1, m + 1, l, hn, hm => by
    unfold rcL
    by_cases hne : l = []
    · simp [hne]
    · have hw := Lib.decodeL_width l
      rw [if_neg hne, if_neg hne, rcL_fuel n m _ (by rw [List.length_drop]; omega) (by rw [List.length_drop]; omega)]
def rc (l : List UInt8) : Nat := rcL l.length l
theorem rc_step (l : List UInt8) (hne : l ≠ []) : rc l = 1 + rc (l.drop (Lib.decodeL l).2) := by
  have hl : 0 < l.length := List.length_pos_iff.2 hne
  have hw := Lib.decodeL_width l
  obtain ⟨n, hn⟩ : ∃ n, l.length = n + 1 := ⟨l.length - 1, by omega⟩
  unfold rc
  rw [hn]
  show (if l = [] then 0 else _) = _
  rw [if_neg hne, rcL_fuel n (l.drop (Lib.decodeL l).2).length _ (by rw [List.length_drop]; omega) (Nat.le_refl _)]
theorem rcFrom_is (s : ByteArray) : ∀ f i, s.size - i ≤ f → Lib.runeCountFrom s f i = rcL f (s.data.toList.drop i) := by
  intro f
  induction f with
  | zero => intro i h; rfl
  | succ f ih =>
    intro i h
    by_cases hi : i < s.size
    · have hne : s.data.toList.drop i ≠ [] := by
        intro e; have := congrArg List.length e; rw [List.length_drop, len_data] at this; simp at this; omega
      have hw := Lib.decode_width_pos s i hi
      unfold Lib.runeCountFrom rcL
      rw [if_pos hi, if_neg hne, decode_drop, List.drop_drop, ih _ (by omega)]
    · rw [Lib.runeCountFrom_end s _ i hi, List.drop_of_length_le (by rw [len_data]; omega), rcL_nil]
theorem rc_is (s : ByteArray) : Lib.runeCount s = rc s.data.toList := by
  unfold Lib.runeCount rc
  rw [rcFrom_is s s.size 0 (by omega), List.drop_zero, len_data]
theorem decodeN_more (n m b0 b1 b2 b3 c1 c2 c3 : Nat) (hnm : n ≤ m) (h1 : 1 < n → c1 = b1) (h2 : 2 < n → c2 = b2) (h3 : 3 < n → c3 = b3) (hv : ¬ ((Lib.decodeN n b0 b1 b2 b3).1 = 65533 ∧ (Lib.decodeN n b0 b1 b2 b3).2 = 1)) :
    Lib.decodeN m b0 c1 c2 c3 = Lib.decodeN n b0 b1 b2 b3 := by
  unfold Lib.decodeN at *
  by_cases a1 : b0 < 128
  · rw [if_pos a1, if_pos a1]
  · rw [if_neg a1] at hv ⊢
    rw [if_neg a1]
    by_cases a2 : b0 / 32 = 6 ∧ (1 < n ∧ b1 / 64 = 2)
    · have e1 := h1 a2.2.1
      subst e1
      rw [if_pos a2, if_pos ⟨a2.1, by omega, a2.2.2⟩]
    · rw [if_neg a2] at hv ⊢
      by_cases a3 : b0 / 16 = 14 ∧ (1 < n ∧ b1 / 64 = 2) ∧ (2 < n ∧ b2 / 64 = 2)
      · have e1 := h1 a3.2.1.1; have e2 := h2 a3.2.2.1
        subst e1 e2
        rw [if_pos a3, if_neg (by omega), if_pos ⟨a3.1, ⟨by omega, a3.2.1.2⟩, ⟨by omega, a3.2.2.2⟩⟩]
      · rw [if_neg a3] at hv ⊢
        by_cases a4 : b0 / 8 = 30 ∧ (1 < n ∧ b1 / 64 = 2) ∧ (2 < n ∧ b2 / 64 = 2) ∧ (3 < n ∧ b3 / 64 = 2)
        · have e1 := h1 a4.2.1.1; have e2 := h2 a4.2.2.1.1; have e3 := h3 a4.2.2.2.1
          subst e1 e2 e3
          rw [if_pos a4, if_neg (by omega), if_neg (by omega), if_pos ⟨a4.1, ⟨by omega, a4.2.1.2⟩, ⟨by omega, a4.2.2.1.2⟩, ⟨by omega, a4.2.2.2.2⟩⟩]
        · rw [if_neg a4] at hv
          exact absurd ⟨rfl, rfl⟩ hv
theorem decodeL_append (a b : List UInt8) (hne : a ≠ []) (hv : ¬ ((Lib.decodeL a).1 = 65533 ∧ (Lib.decodeL a).2 = 1)) : Lib.decodeL (a ++ b) = Lib.decodeL a := by
  have hl : 0 < a.length := List.length_pos_iff.2 hne
  have hg : ∀ j, j < a.length → (a ++ b).getD j 0 = a.getD j 0 := fun j hj => by
    rw [List.getD_eq_getElem?_getD, List.getD_eq_getElem?_getD, List.getElem?_append_left hj]
  rw [Lib.decodeL_N] at hv ⊢
  rw [Lib.decodeL_N a, hg 0 hl]
  exact decodeN_more a.length _ _ _ _ _ _ _ _ (by rw [List.length_append]; omega) (fun h => by rw [hg 1 h]) (fun h => by rw [hg 2 h]) (fun h => by rw [hg 3 h]) hv
theorem valid_append : ∀ (n : Nat) (a b : List UInt8), a.length ≤ n → Lib.validD a = true → Lib.validD (a ++ b) = Lib.validD b ∧ rc (a ++ b) = rc a + rc b := by
  intro n
  induction n with
  | zero =>
    intro a b h _
    have : a = [] := List.eq_nil_of_length_eq_zero (by omega)
    subst this
    exact ⟨rfl, by rw [List.nil_append, show rc [] = 0 from rfl, Nat.zero_add]⟩
  | succ n ih =>
    intro a b h hv
    by_cases hne : a = []
    · subst hne
      exact ⟨rfl, by rw [List.nil_append, show rc [] = 0 from rfl, Nat.zero_add]⟩
    · have hw := Lib.decodeL_width a
      have hle := Lib.decodeL_le a hne
      rw [Lib.validD_step a hne] at hv
      by_cases hb : (Lib.decodeL a).1 = 65533 ∧ (Lib.decodeL a).2 = 1
      · rw [if_pos hb] at hv; cases hv
      · rw [if_neg hb] at hv
        have hd := decodeL_append a b hne hb
        have hne2 : a ++ b ≠ [] := by simp [hne]
        obtain ⟨i1, i2⟩ := ih (a.drop (Lib.decodeL a).2) b (by rw [List.length_drop]; omega) hv
        rw [Lib.validD_step _ hne2, hd, if_neg hb, rc_step _ hne2, rc_step a hne, hd, List.drop_append_of_le_length hle, i1, i2]
        exact ⟨rfl, by omega⟩
theorem append_list (a b : ByteArray) : (a ++ b).data.toList = a.data.toList ++ b.data.toList := by simp [ByteArray.data_append]

/-! ### Which changesets may be, by sums -/
structure OkO (o : OpM) : Prop where
  sh : shapedB o = true
  k2 : o.kind = 2 → Lib.validD o.text.data.toList = true ∧ rightE o.attrs = 0
  kn : o.kind ≠ 2 → changeE o.attrs = 0
def tookO (o : OpM) : Int := if o.kind = 2 then 0 else o.n
def inO (o : OpM) : Int := if o.kind = 2 then (rc o.text.data.toList : Int) else 0
def goneO (o : OpM) : Int := if o.kind = 3 then o.n else 0
def sumF (g : OpM → Int) (l : List OpM) : Int := (l.map g).sum
theorem sumF_append (g : OpM → Int) (l m : List OpM) : sumF g (l ++ m) = sumF g l + sumF g m := by simp [sumF]
theorem sumF_one (g : OpM → Int) (o : OpM) : sumF g [o] = g o := by simp [sumF]
theorem sumF_nil (g : OpM → Int) : sumF g [] = 0 := rfl
theorem sumF_nonneg {g : OpM → Int} {l : List OpM} (h : ∀ o ∈ l, 0 ≤ g o) : 0 ≤ sumF g l ∧ ∀ o ∈ l, g o ≤ sumF g l := by
  induction l with
  | nil => simp [sumF]
  | cons a l ih =>
    obtain ⟨h1, h2⟩ := ih (fun x hx => h x (by simp [hx]))
    have h3 := h a (by simp)
    simp only [sumF, List.map_cons, List.sum_cons] at *
    refine ⟨by omega, fun x hx => ?_⟩
    rcases List.mem_cons.1 hx with rfl | hx
    · omega
    · have := h2 x hx; omega
theorem sumF_le {f g : OpM → Int} {l : List OpM} (h : ∀ o ∈ l, f o ≤ g o) : sumF f l ≤ sumF g l := by
  induction l with
  | nil => simp [sumF]
  | cons a l ih =>
    have h1 := ih (fun x hx => h x (by simp [hx]))
    have h3 := h a (by simp)
    simp only [sumF, List.map_cons, List.sum_cons] at *
    omega
theorem shaped_kinds {o : OpM} (h : shapedB o = true) : (o.kind = 1 ∧ 0 < o.n ∧ o.text.toList.isEmpty = true) ∨ (o.kind = 2 ∧ o.n = 0 ∧ o.text.toList.isEmpty = false) ∨ (o.kind = 3 ∧ 0 < o.n ∧ o.text.toList.isEmpty = true ∧ o.attrs.length = 0) := by
  unfold shapedB at h
  split at h
  · rename_i k
    simp only [Bool.and_eq_true, decide_eq_true_eq, Bool.not_eq_true'] at h
    exact .inr (.inl ⟨k, h.1, h.2⟩)
  · split at h
    · rename_i k
      simp only [Bool.and_eq_true, decide_eq_true_eq] at h
      exact .inr (.inr ⟨k, h.1.1, h.1.2, h.2⟩)
    · simp only [Bool.and_eq_true, decide_eq_true_eq] at h
      exact .inl ⟨h.1.1, h.1.2, h.2⟩
theorem OkO.took0 {o : OpM} (h : OkO o) : 0 ≤ tookO o ∧ 0 ≤ goneO o ∧ goneO o ≤ tookO o ∧ 0 ≤ inO o := by
  unfold tookO goneO inO
  rcases shaped_kinds h.sh with ⟨k, a, b⟩ | ⟨k, a, b⟩ | ⟨k, a, b, c⟩ <;> simp only [k] <;> simp <;> omega
theorem rightE_change {l : List At} (h : rightE l = 0) : changeE l = 0 := by
  unfold rightE at h; split at h
  · omega
  · exact h
theorem cntE_zero {s : ByteArray} : cntE s = 0 ↔ Lib.validD s.data.toList = true ∧ rc s.data.toList ≤ 20000 := by
  unfold cntE cntOk
  rw [rc_is]
  cases Lib.validD s.data.toList <;> simp
theorem oneE_iff (o : OpM) (left : Int) : oneE o left = 0 ↔ OkO o ∧ (o.kind = 2 → rc o.text.data.toList ≤ 20000) ∧ (o.kind ≠ 2 → o.n ≤ left) := by
  constructor
  · intro h
    unfold oneE at h
    cases hs : shapedB o with
    | false => simp [hs] at h
    | true =>
      simp only [hs, Bool.not_true, Bool.false_eq_true, if_false] at h
      by_cases k2 : o.kind = 2
      · rw [if_pos k2] at h
        have hc : cntE o.text = 0 := by
          by_cases h5 : cntE o.text = 0
          · exact h5
          · rw [if_pos h5] at h; exact absurd h h5
        rw [if_neg (by rw [hc]; simp)] at h
        obtain ⟨c1, c2⟩ := cntE_zero.1 hc
        exact ⟨⟨hs, fun _ => ⟨c1, h⟩, fun e => absurd k2 e⟩, fun _ => c2, fun e => absurd k2 e⟩
      · rw [if_neg k2] at h
        have h6 : changeE o.attrs = 0 := by
          by_cases h6 : changeE o.attrs = 0
          · exact h6
          · rw [if_pos h6] at h; exact absurd h h6
        rw [if_neg (by rw [h6]; simp)] at h
        have h7 : ¬ left < o.n := by
          intro e; rw [if_pos e] at h; omega
        exact ⟨⟨hs, fun e => absurd e k2, fun _ => h6⟩, fun e => absurd e k2, fun _ => by omega⟩
  · rintro ⟨h, hc, hl⟩
    unfold oneE
    simp only [h.sh, Bool.not_true, Bool.false_eq_true, if_false]
    by_cases k2 : o.kind = 2
    · rw [if_pos k2]
      have := cntE_zero.2 ⟨(h.k2 k2).1, hc k2⟩
      rw [if_neg (by rw [this]; simp)]
      exact (h.k2 k2).2
    · rw [if_neg k2, if_neg (by rw [h.kn k2]; simp), if_neg (by have := hl k2; omega)]
theorem one_sums {o : OpM} {left : Int} (h : oneE o left = 0) : oneTook o left = tookO o ∧ oneMore o left = inO o - goneO o := by
  obtain ⟨ho, hc, hl⟩ := (oneE_iff o left).1 h
  unfold oneTook oneMore tookO inO goneO
  simp only [ho.sh, Bool.not_true, Bool.false_eq_true, if_false]
  by_cases k2 : o.kind = 2
  · simp only [if_pos k2]
    have : cntN o.text = (rc o.text.data.toList : Int) := by
      unfold cntN cntOk
      rw [(ho.k2 k2).1, rc_is]
      simp [hc k2]
    rw [this, if_neg (by omega)]
    refine ⟨trivial, ?_⟩
    omega
  · simp only [if_neg k2, if_neg (show ¬ (changeE o.attrs ≠ 0) by rw [ho.kn k2]; simp), if_neg (show ¬ (left < o.n) by have := hl k2; omega)]
    refine ⟨trivial, ?_⟩
    split <;> omega
theorem toFold_snoc' (f : Int) (l : List OpM) (o : OpM) : toFold f (l ++ [o]) = toStep (toFold f l) o := by unfold toFold; rw [List.foldl_append]; rfl
theorem rev_ind {α : Type} {P : List α → Prop} (h0 : P []) (h1 : ∀ l a, P l → P (l ++ [a])) (l : List α) : P l := by
  have : ∀ n (l : List α), l.length = n → P l := by
    intro n
    induction n with
    | zero => intro l h; rw [List.eq_nil_of_length_eq_zero h]; exact h0
    | succ n ih =>
      intro l h
      rcases List.eq_nil_or_concat l with rfl | ⟨m, a, rfl⟩
      · exact h0
      · rw [List.concat_eq_append] at *
        exact h1 m a (ih m (by simpa using h))
  exact this _ l rfl
theorem toFold_sums (f : Int) (l : List OpM) : (toFold f l).e = 0 → (∀ o ∈ l, OkO o) ∧ (∀ o ∈ l, o.kind = 2 → rc o.text.data.toList ≤ 20000) ∧ (toFold f l).left = f - sumF tookO l ∧ (toFold f l).n = f + sumF inO l - sumF goneO l ∧ (0 ≤ f → 0 ≤ (toFold f l).left) := by
  refine rev_ind (P := fun l => (toFold f l).e = 0 → (∀ o ∈ l, OkO o) ∧ (∀ o ∈ l, o.kind = 2 → rc o.text.data.toList ≤ 20000) ∧ (toFold f l).left = f - sumF tookO l ∧ (toFold f l).n = f + sumF inO l - sumF goneO l ∧ (0 ≤ f → 0 ≤ (toFold f l).left)) ?_ ?_ l
  · intro _; simp [toFold, sumF]
  · intro l o ih h
    rw [toFold_snoc'] at h ⊢
    generalize toFold f l = st at *
    unfold toStep at h ⊢
    by_cases he : st.e = 0
    · rw [if_neg (by rw [he]; simp)] at h ⊢
      by_cases h1 : oneE o st.left = 0
      · rw [if_neg (by rw [h1]; simp)] at h ⊢
        obtain ⟨i1, i2, i3, i4, i5⟩ := ih he
        obtain ⟨j1, j2, j3⟩ := (oneE_iff o _).1 h1
        obtain ⟨s1, s2⟩ := one_sums h1
        refine ⟨fun x hx => ?_, fun x hx => ?_, ?_, ?_, ?_⟩
        · rcases List.mem_append.1 hx with hx | hx
          · exact i1 x hx
          · simp at hx; subst hx; exact j1
        · rcases List.mem_append.1 hx with hx | hx
          · exact i2 x hx
          · simp at hx; subst hx; exact j2
        · simp only [sumF_append, sumF_one]; rw [i3, ← i3, s1]; omega
        · simp only [sumF_append, sumF_one]; rw [s2]; omega
        · intro hf
          have := i5 hf
          simp only [s1]
          unfold tookO
          split
          · omega
          · rename_i k2; have := j3 k2; omega
      · rw [if_pos h1] at h; exact absurd h h1
    · rw [if_pos he] at h; exact absurd h he
theorem toFold_conv (f : Int) (l : List OpM) : (∀ o ∈ l, OkO o) → (∀ o ∈ l, o.kind = 2 → rc o.text.data.toList ≤ 20000) → sumF tookO l ≤ f → (toFold f l).e = 0 := by
  refine rev_ind (P := fun l => (∀ o ∈ l, OkO o) → (∀ o ∈ l, o.kind = 2 → rc o.text.data.toList ≤ 20000) → sumF tookO l ≤ f → (toFold f l).e = 0) ?_ ?_ l
  · intro _ _ _; rfl
  · intro l o ih h1 h2 h3
    rw [sumF_append, sumF_one] at h3
    have ho := h1 o (by simp)
    have hp := ho.took0
    have he := ih (fun x hx => h1 x (by simp [hx])) (fun x hx => h2 x (by simp [hx])) (by omega)
    have hs := toFold_sums f l he
    rw [toFold_snoc']
    have h1 : oneE o (toFold f l).left = 0 := by
      rw [oneE_iff]
      refine ⟨ho, h2 o (by simp), fun k2 => ?_⟩
      rw [hs.2.2.1]
      unfold tookO at h3
      rw [if_neg k2] at h3
      change sumF tookO l + o.n ≤ f at h3
      omega
    unfold toStep
    rw [if_neg (by rw [he]; simp), if_neg (by rw [h1]; simp)]
theorem toE_iff (f : Int) (l : List OpM) : toE f l = 0 ↔ (0 ≤ f ∧ f ≤ 20000) ∧ l.length ≤ 2000 ∧ (∀ o ∈ l, OkO o) ∧ sumF tookO l ≤ f ∧ f + sumF inO l - sumF goneO l ≤ 20000 := by
  constructor
  · intro h
    obtain ⟨h1, h2, h3⟩ := toE_fold h
    obtain ⟨s1, s2, s3, s4, s5⟩ := toFold_sums f l h3
    have := s5 h1.1
    refine ⟨h1, h2, s1, by omega, ?_⟩
    unfold toE at h
    rw [if_neg (by omega), if_neg (by omega), if_neg (by rw [h3]; simp)] at h
    rw [← s4]
    by_cases h4 : 20000 < (toFold f l).n
    · rw [if_pos h4] at h; omega
    · omega
  · rintro ⟨h1, h2, h3, h4, h5⟩
    have hin : ∀ o ∈ l, o.kind = 2 → rc o.text.data.toList ≤ 20000 := fun o ho k2 => by
      have a1 := (sumF_nonneg (g := inO) (l := l) (fun x hx => (h3 x hx).took0.2.2.2)).2 o ho
      have a2 := sumF_le (f := goneO) (g := tookO) (l := l) (fun x hx => (h3 x hx).took0.2.2.1)
      unfold inO at a1
      rw [if_pos k2] at a1
      change (rc o.text.data.toList : Int) ≤ sumF inO l at a1
      omega
    have he := toFold_conv f l h3 hin h4
    obtain ⟨s1, s2, s3, s4, s5⟩ := toFold_sums f l he
    unfold toE
    rw [if_neg (by omega), if_neg (by omega), if_neg (by rw [he]; simp), if_neg (by rw [s4]; omega)]

/-! ### Neighbours in a normal form -/
def adj (a b : OpM) : Bool := !(joins a b) && !(decide (a.kind = 3) && decide (b.kind = 2))
theorem adj_congr {a b a' b' : OpM} (h1 : a'.kind = a.kind) (h2 : a'.attrs = a.attrs) (h3 : b'.kind = b.kind) (h4 : b'.attrs = b.attrs) : adj a' b' = adj a b := by
  unfold adj joins; rw [h1, h2, h3, h4]
def NF (l : List OpM) : Prop := ∀ (i : Nat) (a b : OpM), l[i]? = some a → l[i + 1]? = some b → adj a b = true
theorem NF.nil : NF [] := fun i a b h _ => by simp at h
theorem NF.one (o : OpM) : NF [o] := fun i a b _ h => by simp at h
theorem NF.init {x : List OpM} {a : OpM} (h : NF (x ++ [a])) : NF x := fun i p q hp hq => by
  have h1 : i < x.length := (List.getElem?_eq_some_iff.1 hp).1
  have h2 : i + 1 < x.length := (List.getElem?_eq_some_iff.1 hq).1
  exact h i p q (by rw [List.getElem?_append_left h1]; exact hp) (by rw [List.getElem?_append_left h2]; exact hq)
theorem NF.last {x : List OpM} {a b : OpM} (h : NF (x ++ [a] ++ [b])) : adj a b = true := h x.length a b (by simp) (by simp)
theorem NF.snoc {x : List OpM} {a b : OpM} (h : NF (x ++ [a])) (hab : adj a b = true) : NF (x ++ [a] ++ [b]) := by
  intro i p q hp hq
  have hl : (x ++ [a]).length = x.length + 1 := by simp
  have hi : i + 1 < (x ++ [a] ++ [b]).length := (List.getElem?_eq_some_iff.1 hq).1
  have hl2 : (x ++ [a] ++ [b]).length = x.length + 2 := by simp
  by_cases h1 : i + 1 < x.length + 1
  · rw [List.getElem?_append_left (by omega)] at hp hq
    exact h i p q hp hq
  · obtain rfl : i = x.length := by omega
    rw [List.getElem?_append_left (by omega), List.getElem?_append_right (Nat.le_refl _)] at hp
    rw [List.getElem?_append_right (by omega)] at hq
    simp at hp hq
    subst hp hq
    exact hab
theorem NF.swap {x : List OpM} {a a' : OpM} (h : NF (x ++ [a])) (hk : a'.kind = a.kind) (ha : a'.attrs = a.attrs) : NF (x ++ [a']) := by
  rcases List.eq_nil_or_concat x with rfl | ⟨y, c, rfl⟩
  · exact NF.one _
  · rw [List.concat_eq_append] at *
    exact h.init.snoc ((adj_congr rfl rfl hk ha).trans h.last)
theorem sameAL_refl (l : List At) : sameAL l l = true := (sameAL_iff l l).2 rfl
theorem joins_iff (a b : OpM) : joins a b = true ↔ a.kind = b.kind ∧ a.attrs = b.attrs := by
  unfold joins; simp only [Bool.and_eq_true, decide_eq_true_eq, sameAL_iff]
theorem adj_iff (a b : OpM) : adj a b = true ↔ ¬ (a.kind = b.kind ∧ a.attrs = b.attrs) ∧ ¬ (a.kind = 3 ∧ b.kind = 2) := by
  have h := joins_iff a b
  unfold adj
  cases hj : joins a b with
  | true => simp [h.1 hj]
  | false =>
    have : ¬ (a.kind = b.kind ∧ a.attrs = b.attrs) := fun e => by rw [h.2 e] at hj; cases hj
    simp only [this, not_false_iff, true_and, Bool.not_false, Bool.true_and]
    by_cases k3 : a.kind = 3 <;> by_cases k2 : b.kind = 2 <;> simp [k3, k2]

/-! ### The normal form of a normal form -/
theorem empty_text {s : ByteArray} (h : s.toList.isEmpty = true) : s = ⟨#[]⟩ := by
  rw [ByteArray.toList_eq] at h
  obtain ⟨⟨x⟩⟩ := s
  simp at h; subst h; rfl
theorem del_is {o : OpM} (h : shapedB o = true) (k : o.kind = 3) : o = delOp o.n ∧ 0 < o.n := by
  rcases shaped_kinds h with ⟨k', _⟩ | ⟨k', _⟩ | ⟨_, a, b, c⟩
  · omega
  · omega
  · refine ⟨?_, a⟩
    obtain ⟨kind, n, text, attrs⟩ := o
    simp only at *
    rw [empty_text b, List.eq_nil_of_length_eq_zero c, k]; rfl
def stOf (p : List OpM) : NormSt := match p.getLast? with
  | some d => if d.kind = 3 then ⟨p.dropLast, d.n⟩ else ⟨p, 0⟩
  | none => ⟨[], 0⟩
theorem stOf_snoc (q : List OpM) (a : OpM) : stOf (q ++ [a]) = if a.kind = 3 then ⟨q, a.n⟩ else ⟨q ++ [a], 0⟩ := by simp [stOf]
theorem putM_push {q : List OpM} {c o : OpM} (h : ¬ (c.kind = o.kind ∧ c.attrs = o.attrs)) : putM (q ++ [c]) o = q ++ [c] ++ [o] := by
  rw [putM_snoc, if_neg (fun e => h ((joins_iff c o).1 e))]
theorem putM_empty (o : OpM) : putM [] o = [o] := rfl
theorem normFold_snoc' (l : List OpM) (o : OpM) : normFold (l ++ [o]) = normStep (normFold l) o := by unfold normFold; rw [List.foldl_append]; rfl
theorem flush_del {q : List OpM} {a : OpM} (hN : NF (q ++ [a])) (ha : shapedB a = true) (k : a.kind = 3) : flushM q a.n = q ++ [a] := by
  obtain ⟨e, hn⟩ := del_is ha k
  unfold flushM
  rw [if_pos hn, ← e]
  rcases List.eq_nil_or_concat q with rfl | ⟨y, c, rfl⟩
  · rfl
  · rw [List.concat_eq_append] at *
    exact putM_push ((adj_iff _ _).1 hN.last).1
theorem normFold_nf (p : List OpM) : NF p → (∀ o ∈ p, shapedB o = true) → normFold p = stOf p := by
  refine rev_ind (P := fun p => NF p → (∀ o ∈ p, shapedB o = true) → normFold p = stOf p) ?_ ?_ p
  · intro _ _; rfl
  · intro q o ih hN hs
    have hq := ih hN.init (fun x hx => hs x (by simp [hx]))
    have ho := hs o (by simp)
    rw [normFold_snoc', hq, stOf_snoc]
    rcases List.eq_nil_or_concat q with rfl | ⟨y, a, rfl⟩
    · show normStep ⟨[], 0⟩ o = _
      rcases shaped_kinds ho with ⟨k, _⟩ | ⟨k, _⟩ | ⟨k, _⟩
      · rw [if_neg (by omega)]; unfold normStep; rw [if_pos k]; rfl
      · rw [if_neg (by omega)]; unfold normStep; rw [if_neg (by omega), if_pos k]; rfl
      · rw [if_pos k]; unfold normStep; rw [if_neg (by omega), if_neg (by omega), if_pos k]; simp
    · rw [List.concat_eq_append] at *
      have had := (adj_iff _ _).1 hN.last
      have ha := hs a (by simp)
      rw [stOf_snoc]
      by_cases k3 : a.kind = 3
      · rw [if_pos k3]
        have hf := flush_del hN.init ha k3
        rcases shaped_kinds ho with ⟨k, _⟩ | ⟨k, _⟩ | ⟨k, _, _, l0⟩
        · rw [if_neg (by omega)]
          unfold normStep
          rw [if_pos k]
          simp only [hf]
          rw [putM_push had.1]
        · exact absurd ⟨k3, k⟩ had.2
        · rcases shaped_kinds ha with ⟨k', _⟩ | ⟨k', _⟩ | ⟨_, _, _, l1⟩
          · omega
          · omega
          · exact absurd ⟨by omega, by rw [List.eq_nil_of_length_eq_zero l0, List.eq_nil_of_length_eq_zero l1]⟩ had.1
      · rw [if_neg k3]
        rcases shaped_kinds ho with ⟨k, _⟩ | ⟨k, _⟩ | ⟨k, _⟩
        · rw [if_neg (by omega)]
          unfold normStep
          rw [if_pos k]
          have : flushM (y ++ [a]) 0 = y ++ [a] := by unfold flushM; rw [if_neg (by omega)]
          simp only [this]
          rw [putM_push had.1]
        · rw [if_neg (by omega)]
          unfold normStep
          rw [if_neg (by omega), if_pos k]
          simp only
          rw [putM_push had.1]
        · rw [if_pos k]
          unfold normStep
          rw [if_neg (by omega), if_neg (by omega), if_pos k]
          simp
def tailOk (l : List OpM) : Prop := ∀ x a, l = x ++ [a] → ¬ (a.kind = 1 ∧ a.attrs = [])
theorem normTail_ok {l : List OpM} (h : tailOk l) : normTail l = l := by
  rcases List.eq_nil_or_concat l with rfl | ⟨y, a, rfl⟩
  · rfl
  · rw [List.concat_eq_append] at *
    rw [normTail_snoc, if_neg (h y a rfl)]
theorem normM_self {l : List OpM} (hN : NF l) (hs : ∀ o ∈ l, shapedB o = true) (ht : tailOk l) : normM l = l := by
  unfold normM
  rw [normFold_nf l hN hs]
  rcases List.eq_nil_or_concat l with rfl | ⟨y, a, rfl⟩
  · rfl
  · rw [List.concat_eq_append] at *
    rw [stOf_snoc]
    by_cases k3 : a.kind = 3
    · rw [if_pos k3]
      simp only
      rw [flush_del hN (hs a (by simp)) k3, normTail_ok ht]
    · rw [if_neg k3]
      have : flushM (y ++ [a]) 0 = y ++ [a] := by unfold flushM; rw [if_neg (by omega)]
      simp only [this]
      exact normTail_ok ht

/-! ### What the maker keeps -/
structure NInv (p : List OpM) (st : NormSt) : Prop where
  ok : ∀ o ∈ st.ops, OkO o
  nf : NF st.ops
  lst : ∀ x a, st.ops = x ++ [a] → a.kind ≠ 3
  g0 : 0 ≤ st.gone
  took : sumF tookO st.ops + st.gone = sumF tookO p
  ins : sumF inO st.ops = sumF inO p
  gone : sumF goneO st.ops + st.gone = sumF goneO p
  len : st.ops.length + (if 0 < st.gone then 1 else 0) ≤ p.length
theorem joined_ok {a o : OpM} (ha : OkO a) (ho : OkO o) (h : joins a o = true) (h3 : a.kind ≠ 3) : OkO (joined a o) ∧ tookO (joined a o) = tookO a + tookO o ∧ inO (joined a o) = inO a + inO o ∧ goneO (joined a o) = goneO a + goneO o := by
  obtain ⟨jk, ja⟩ := (joins_iff a o).1 h
  have hkind : (joined a o).kind = a.kind := rfl
  have hn : (joined a o).n = a.n + o.n := rfl
  have htx : (joined a o).text = a.text ++ o.text := rfl
  have hat : (joined a o).attrs = a.attrs := rfl
  rcases shaped_kinds ha.sh with ⟨k, n1, t1⟩ | ⟨k, n1, t1⟩ | ⟨k, _⟩
  · rcases shaped_kinds ho.sh with ⟨k', n2, t2⟩ | ⟨k', _⟩ | ⟨k', _⟩
    · have et : (joined a o).text = ⟨#[]⟩ := by rw [htx, empty_text t1, empty_text t2]; rfl
      refine ⟨⟨?_, fun e => by omega, fun _ => by rw [hat]; exact ha.kn (by omega)⟩, ?_, ?_, ?_⟩
      · unfold shapedB
        rw [if_neg (by omega), if_neg (by omega), et, hkind, hn]
        have e1 : decide (a.kind = 1) = true := by simpa using k
        have e2 : decide (0 < a.n + o.n) = true := by simp; omega
        rw [e1, e2, show (⟨#[]⟩ : ByteArray).toList.isEmpty = true by rw [ByteArray.toList_eq]; rfl]; rfl
      · unfold tookO; rw [if_neg (by omega), if_neg (by omega), if_neg (by omega), hn]
      · unfold inO; rw [if_neg (by omega), if_neg (by omega), if_neg (by omega)]; rfl
      · unfold goneO; rw [if_neg (by omega), if_neg (by omega), if_neg (by omega)]; rfl
    · omega
    · omega
  · have k' : o.kind = 2 := by omega
    have n2 : o.n = 0 := by rcases shaped_kinds ho.sh with ⟨_, _⟩ | ⟨_, n2, _⟩ | ⟨_, _⟩ <;> omega
    obtain ⟨v1, r1⟩ := ha.k2 k
    obtain ⟨v2, r2⟩ := ho.k2 k'
    obtain ⟨q1, q2⟩ := valid_append _ a.text.data.toList o.text.data.toList (Nat.le_refl _) v1
    have et : (joined a o).text.data.toList = a.text.data.toList ++ o.text.data.toList := by rw [htx, append_list]
    refine ⟨⟨?_, fun _ => ⟨by rw [et, q1]; exact v2, by rw [hat]; exact r1⟩, fun e => by omega⟩, ?_, ?_, ?_⟩
    · unfold shapedB
      rw [if_pos (by omega), hn, n1, n2, ByteArray.toList_eq, et]
      rw [ByteArray.toList_eq] at t1
      cases hx : a.text.data.toList with
      | nil => rw [hx] at t1; simp at t1
      | cons c r => rfl
    · unfold tookO; rw [if_pos (by omega), if_pos (by omega), if_pos (by omega)]; rfl
    · unfold inO; rw [if_pos (by omega), if_pos (by omega), if_pos (by omega), et, q2]; omega
    · unfold goneO; rw [if_neg (by omega), if_neg (by omega), if_neg (by omega)]; rfl
  · omega
/-- what putM does to a row whose last operation is no delete, or meets another kind -/
theorem putM_inv {ops : List OpM} {o : OpM} (hok : ∀ x ∈ ops, OkO x) (hN : NF ops) (ho : OkO o) (h3 : ∀ x a, ops = x ++ [a] → a.kind = 3 → o.kind = 1) :
    (∀ x ∈ putM ops o, OkO x) ∧ NF (putM ops o) ∧ (∀ x a, putM ops o = x ++ [a] → a.kind = o.kind) ∧ sumF tookO (putM ops o) = sumF tookO ops + tookO o ∧ sumF inO (putM ops o) = sumF inO ops + inO o ∧ sumF goneO (putM ops o) = sumF goneO ops + goneO o ∧ (putM ops o).length ≤ ops.length + 1 := by
  rcases List.eq_nil_or_concat ops with rfl | ⟨y, c, rfl⟩
  · rw [putM_empty]
    refine ⟨fun x hx => by simp at hx; subst hx; exact ho, NF.one o, fun x a e => ?_, ?_, ?_, ?_, by simp⟩
    · have := congrArg List.getLast? e
      simp at this; rw [this]
    · rw [sumF_one, sumF_nil]; omega
    · rw [sumF_one, sumF_nil]; omega
    · rw [sumF_one, sumF_nil]; omega
  · rw [List.concat_eq_append] at *
    rw [putM_snoc]
    by_cases hj : joins c o = true
    · rw [if_pos hj]
      obtain ⟨jk, ja⟩ := (joins_iff c o).1 hj
      have hc3 : c.kind ≠ 3 := fun e => by have := h3 y c rfl e; omega
      obtain ⟨j1, j2, j3, j4⟩ := joined_ok (hok c (by simp)) ho hj hc3
      refine ⟨fun x hx => ?_, hN.swap rfl rfl, fun x a e => ?_, ?_, ?_, ?_, by simp⟩
      · rcases List.mem_append.1 hx with hx | hx
        · exact hok x (by simp [hx])
        · simp at hx; subst hx; exact j1
      · have := congrArg List.getLast? e
        simp at this; rw [← this]; exact jk
      · rw [sumF_append, sumF_append, sumF_one, sumF_one, j2]; omega
      · rw [sumF_append, sumF_append, sumF_one, sumF_one, j3]; omega
      · rw [sumF_append, sumF_append, sumF_one, sumF_one, j4]; omega
    · rw [if_neg hj]
      have hj' : ¬ (c.kind = o.kind ∧ c.attrs = o.attrs) := fun e => hj ((joins_iff c o).2 e)
      refine ⟨fun x hx => ?_, hN.snoc ((adj_iff c o).2 ⟨hj', fun e => by have := h3 y c rfl e.1; omega⟩), fun x a e => ?_, ?_, ?_, ?_, by simp⟩
      · rcases List.mem_append.1 hx with hx | hx
        · exact hok x hx
        · simp at hx; subst hx; exact ho
      · have := congrArg List.getLast? e
        simp at this; rw [this]
      · rw [sumF_append, sumF_one]
      · rw [sumF_append, sumF_one]
      · rw [sumF_append, sumF_one]
theorem changeE_nil : changeE [] = 0 := by decide
theorem del_ok {n : Int} (h : 0 < n) : OkO (delOp n) ∧ tookO (delOp n) = n ∧ inO (delOp n) = 0 ∧ goneO (delOp n) = n := by
  refine ⟨⟨?_, fun e => ?_, fun _ => changeE_nil⟩, rfl, rfl, rfl⟩
  · show (decide (0 < n) && (⟨#[]⟩ : ByteArray).toList.isEmpty && true) = true
    have : decide (0 < n) = true := by simpa using h
    rw [this, show (⟨#[]⟩ : ByteArray).toList.isEmpty = true by rw [ByteArray.toList_eq]; rfl]; rfl
  · have e : (3 : Int) = 2 := e
    omega
theorem flushM_inv {ops : List OpM} {g : Int} (hok : ∀ x ∈ ops, OkO x) (hN : NF ops) (h3 : ∀ x a, ops = x ++ [a] → a.kind ≠ 3) (hg : 0 ≤ g) :
    (∀ x ∈ flushM ops g, OkO x) ∧ NF (flushM ops g) ∧ sumF tookO (flushM ops g) = sumF tookO ops + g ∧ sumF inO (flushM ops g) = sumF inO ops ∧ sumF goneO (flushM ops g) = sumF goneO ops + g ∧ (flushM ops g).length ≤ ops.length + (if 0 < g then 1 else 0) := by
  unfold flushM
  by_cases h : 0 < g
  · rw [if_pos h, if_pos h]
    obtain ⟨d1, d2, d3, d4⟩ := del_ok h
    obtain ⟨p1, p2, p3, p4, p5, p6, p7⟩ := putM_inv hok hN d1 (fun x a e k => absurd k (h3 x a e))
    exact ⟨p1, p2, by rw [p4, d2], by rw [p5, d3]; omega, by rw [p6, d4], p7⟩
  · rw [if_neg h, if_neg h]
    exact ⟨hok, hN, by omega, rfl, by omega, by omega⟩
theorem NInv.step {p : List OpM} {st : NormSt} {o : OpM} (h : NInv p st) (ho : OkO o) : NInv (p ++ [o]) (normStep st o) := by
  have hs := h.took; have hi := h.ins; have hg := h.gone; have hl := h.len; have hg0 := h.g0
  have hlen : (p ++ [o]).length = p.length + 1 := by simp
  rcases shaped_kinds ho.sh with ⟨k, n0, t0⟩ | ⟨k, n0, t0⟩ | ⟨k, n0, t0, _⟩
  · obtain ⟨f1, f2, f3, f4, f5, f6⟩ := flushM_inv h.ok h.nf h.lst h.g0
    obtain ⟨p1, p2, p3, p4, p5, p6, p7⟩ := putM_inv f1 f2 ho (fun _ _ _ _ => k)
    unfold normStep
    rw [if_pos k]
    refine ⟨p1, p2, fun x a e => by rw [p3 x a e]; omega, by simp, ?_, ?_, ?_, ?_⟩
    · rw [sumF_append, sumF_one, p4, f3]; simp only; omega
    · rw [sumF_append, sumF_one, p5, f4, hi]
    · rw [sumF_append, sumF_one, p6, f5]; simp only; omega
    · simp only; rw [if_neg (by omega)]; omega
  · obtain ⟨p1, p2, p3, p4, p5, p6, p7⟩ := putM_inv h.ok h.nf ho (fun x a e k3 => absurd k3 (h.lst x a e))
    unfold normStep
    rw [if_neg (by omega), if_pos k]
    refine ⟨p1, p2, fun x a e => by rw [p3 x a e]; omega, hg0, ?_, ?_, ?_, ?_⟩
    · rw [sumF_append, sumF_one, p4]; simp only; omega
    · rw [sumF_append, sumF_one, p5, hi]
    · rw [sumF_append, sumF_one, p6]; simp only; omega
    · simp only; omega
  · unfold normStep
    rw [if_neg (by omega), if_neg (by omega), if_pos k]
    have e1 : tookO o = o.n := by unfold tookO; rw [if_neg (by omega)]
    have e2 : inO o = 0 := by unfold inO; rw [if_neg (by omega)]
    have e3 : goneO o = o.n := by unfold goneO; rw [if_pos k]
    refine ⟨h.ok, h.nf, h.lst, by simp only; omega, ?_, ?_, ?_, ?_⟩
    · rw [sumF_append, sumF_one, e1]; simp only; omega
    · rw [sumF_append, sumF_one, e2, hi]; omega
    · rw [sumF_append, sumF_one, e3]; simp only; omega
    · simp only; split <;> (split at hl <;> omega)
theorem NInv.all (l : List OpM) : (∀ o ∈ l, OkO o) → NInv l (normFold l) := by
  refine rev_ind (P := fun l => (∀ o ∈ l, OkO o) → NInv l (normFold l)) ?_ ?_ l
  · intro _
    refine ⟨fun o ho => (by simp [normFold] at ho), NF.nil, fun x a e => ?_, by simp [normFold], rfl, rfl, rfl, by simp [normFold]⟩
    have := congrArg List.length e
    simp [normFold] at this
  · intro l o ih h
    rw [normFold_snoc']
    exact (ih fun x hx => h x (by simp [hx])).step (h o (by simp))
/-- THE LAW: the normal form of a changeset that may be. -/
structure NormOk (f : Int) (m : List OpM) : Prop where
  right : toE f m = 0
  self : normM m = m
theorem normM_ok {f : Int} {ops : List OpM} (h : toE f ops = 0) : NormOk f (normM ops) := by
  obtain ⟨h1, h2, h3, h4, h5⟩ := (toE_iff f ops).1 h
  have hI := NInv.all ops h3
  obtain ⟨f1, f2, f3, f4, f5, f6⟩ := flushM_inv hI.ok hI.nf hI.lst hI.g0
  have hs := hI.took; have hi := hI.ins; have hg := hI.gone; have hl := hI.len
  unfold normM
  generalize hm : flushM (normFold ops).ops (normFold ops).gone = m at *
  simp only [hm]
  have hfin : ∀ r, NF r → (∀ o ∈ r, OkO o) → tailOk r → sumF tookO r ≤ sumF tookO m → sumF inO r = sumF inO m → sumF goneO r = sumF goneO m → r.length ≤ m.length → NormOk f r := by
    intro r r1 r2 r3 r4 r5 r6 r7
    exact ⟨(toE_iff f r).2 ⟨h1, by omega, r2, by omega, by omega⟩, normM_self r1 (fun o ho => (r2 o ho).sh) r3⟩
  rcases List.eq_nil_or_concat m with rfl | ⟨y, a, rfl⟩
  · exact hfin [] NF.nil (by intro o ho; cases ho) (fun x a e => by have := congrArg List.length e; simp at this) (Int.le_refl _) rfl rfl (Nat.le_refl _)
  · rw [List.concat_eq_append] at *
    rw [normTail_snoc]
    by_cases ht : a.kind = 1 ∧ a.attrs = []
    · rw [if_pos ht]
      refine hfin y f2.init (fun o ho => f1 o (by simp [ho])) (fun x b e => ?_) ?_ ?_ ?_ (by simp)
      · subst e
        have := ((adj_iff b a).1 f2.last).1
        intro hb
        exact this ⟨by omega, by rw [hb.2, ht.2]⟩
      · rw [sumF_append, sumF_one]; have := (f1 a (by simp)).took0; omega
      · rw [sumF_append, sumF_one]; unfold inO; rw [if_neg (by omega)]; omega
      · rw [sumF_append, sumF_one]; unfold goneO; rw [if_neg (by omega)]; omega
    · rw [if_neg ht]
      refine hfin _ f2 f1 (fun x b e => ?_) (Int.le_refl _) rfl rfl (Nat.le_refl _)
      have := congrArg List.getLast? e
      simp at this; subst this
      exact ht
theorem isM_norm {f : Int} {ops : List OpM} (h : toE f ops = 0) : isM f (normM ops) = true := by
  have hn := normM_ok h
  unfold isM
  rw [hn.right, hn.self, (sameOL_iff _ _).2 rfl]; rfl
end Go.Proofs.YtdpmjlkmjmookaaGreatDoor
