/-
  The references' UTF-8, plain: the runes that the references read are those of the library's decoder.
-/
import Derived.PlainAid
import Derived.Lib.RuneCount
import Derived.Lib.ValidLaws
namespace Go.Proofs.YtdpmjlkmjmookaaGreatDoor
open Go Go.RowKit Go.PlainAid

def headM (c : Int) : Option (Nat × Int × Int) :=
  if c < 128 then some (0, 0, c) else if 192 ≤ c ∧ c < 224 then some (1, 128, c - 192) else if 224 ≤ c ∧ c < 240 then some (2, 2048, c - 224)
  else if 240 ≤ c ∧ c < 248 then some (3, 65536, c - 240) else none
def contOk (s : ByteArray) (i : Nat) : Nat → Bool
  | 0 => true
  | m + 1 => contOk s i m && (decide (128 ≤ bt s (i + (m + 1))) && decide (bt s (i + (m + 1)) ≤ 191))
def contV (s : ByteArray) (i : Nat) (v : Int) : Nat → Int
  | 0 => v
  | m + 1 => contV s i v m * 64 + bt s (i + (m + 1)) - 128
def badV (least v : Int) : Bool := decide (v < least) || (decide (55296 ≤ v) && decide (v ≤ 57343)) || decide (1114111 < v)
def refStep (s : ByteArray) (i : Nat) : Option Nat := match headM (bt s i) with
  | none => none
  | some (n, least, c) => if s.size ≤ i + n then none else if contOk s i n = false then none else if badV least (contV s i c n) then none else some (n + 1)
def refF (s : ByteArray) : Nat → Nat → Option Nat
  | 0, _ => none
  | f + 1, i => if i < s.size then match refStep s i with
      | none => none
      | some k => (refF s f (i + k)).map (· + 1)
    else some 0
def refLen (s : ByteArray) : Option Nat := refF s (s.size + 1) 0
theorem contV_bound {s : ByteArray} {i : Nat} {v : Int} (h0 : 0 ≤ v) (h1 : v < 32) : ∀ m, m ≤ 3 → contOk s i m = true → 0 ≤ contV s i v m ∧ contV s i v m < 32 * 64 ^ m := by
  intro m
  induction m with
  | zero => intro _ _; simp [contV]; omega
  | succ m ih =>
    intro hm hc
    simp only [contOk, Bool.and_eq_true, decide_eq_true_eq] at hc
    obtain ⟨i1, i2⟩ := ih (by omega) hc.1
    have hp : (64 : Int) ^ (m + 1) = 64 ^ m * 64 := Int.pow_succ 64 m
    simp only [contV]
    omega
theorem refF_count (s : ByteArray) : ∀ f i n, refF s f i = some n → n ≤ s.size - i := by
  intro f
  induction f with
  | zero => intro i n h; cases h
  | succ f ih =>
    intro i n h
    unfold refF at h
    split at h
    · split at h
      · cases h
      · rename_i k hk
        obtain ⟨m, hm, rfl⟩ := Option.map_eq_some_iff.1 h
        have := ih _ _ hm
        have hk0 : 0 < k := by
          unfold refStep at hk
          split at hk
          · cases hk
          · split at hk
            · cases hk
            · split at hk
              · cases hk
              · split at hk
                · cases hk
                · injection hk with hk; omega
        omega
    · injection h with h; omega
theorem refF_succ (s : ByteArray) (f i : Nat) (h : i < s.size) : refF s (f + 1) i = match refStep s i with
    | none => none
    | some k => (refF s f (i + k)).map (· + 1) := by
  show (if i < s.size then _ else _) = _
  rw [if_pos h]
theorem head_bound {c : Int} {n : Nat} {least v : Int} (h : headM c = some (n, least, v)) (h0 : 0 ≤ c) : n ≤ 3 ∧ 0 ≤ v ∧ (v < 32 ∨ n = 0 ∧ v < 128) ∧ 0 ≤ least ∧ least ≤ 65536 := by
  unfold headM at h
  split at h
  · injection h with h; injection h with h1 h; injection h with h2 h3; subst h1 h2 h3; omega
  · split at h
    · injection h with h; injection h with h1 h; injection h with h2 h3; subst h1 h2 h3; omega
    · split at h
      · injection h with h; injection h with h1 h; injection h with h2 h3; subst h1 h2 h3; omega
      · split at h
        · injection h with h; injection h with h1 h; injection h with h2 h3; subst h1 h2 h3; omega
        · cases h


/-! ### The same as the library's decoder -/
def dg (s : ByteArray) (k : Nat) : Nat := (s.data.toList.getD k 0).toNat
theorem bt_dg (s : ByteArray) (k : Nat) : bt s k = (dg s k : Int) := by
  unfold bt dg
  by_cases h : k < s.size
  · rw [dif_pos h]
    have hl : k < s.data.toList.length := by simpa using h
    rw [List.getD_eq_getElem?_getD, List.getElem?_eq_getElem hl]
    rfl
  · rw [dif_neg h, List.getD_eq_getElem?_getD, List.getElem?_eq_none (by simpa using h)]
    rfl
theorem dg_lt (s : ByteArray) (k : Nat) : dg s k < 256 := (s.data.toList.getD k 0).toNat_lt
def okD (p : Nat × Nat) : Option Nat := if p.1 = 65533 ∧ p.2 = 1 then none else some p.2
theorem okD_bad : okD (65533, 1) = none := by decide
theorem okD_w (a b : Nat) (h : b ≠ 1 ∨ a ≠ 65533) : okD (a, b) = some b := by unfold okD; rw [if_neg]; simp only; omega
def stepN (n b0 b1 b2 b3 : Nat) : Option Nat :=
  if b0 < 128 then some 1
  else if 192 ≤ b0 ∧ b0 < 224 then
    (if n ≤ 1 then none else if ¬ (128 ≤ b1 ∧ b1 ≤ 191) then none else if (b0 - 192) * 64 + b1 - 128 < 128 then none else some 2)
  else if 224 ≤ b0 ∧ b0 < 240 then
    (if n ≤ 2 then none else if ¬ ((128 ≤ b1 ∧ b1 ≤ 191) ∧ (128 ≤ b2 ∧ b2 ≤ 191)) then none
     else if ((b0 - 224) * 64 + b1 - 128) * 64 + b2 - 128 < 2048 ∨ (55296 ≤ ((b0 - 224) * 64 + b1 - 128) * 64 + b2 - 128 ∧ ((b0 - 224) * 64 + b1 - 128) * 64 + b2 - 128 ≤ 57343) then none else some 3)
  else if 240 ≤ b0 ∧ b0 < 248 then
    (if n ≤ 3 then none else if ¬ (((128 ≤ b1 ∧ b1 ≤ 191) ∧ (128 ≤ b2 ∧ b2 ≤ 191)) ∧ (128 ≤ b3 ∧ b3 ≤ 191)) then none
     else if (((b0 - 240) * 64 + b1 - 128) * 64 + b2 - 128) * 64 + b3 - 128 < 65536 ∨ 1114111 < (((b0 - 240) * 64 + b1 - 128) * 64 + b2 - 128) * 64 + b3 - 128 then none else some 4)
  else none
set_option maxHeartbeats 8000000 in
theorem stepN_is (n b0 b1 b2 b3 : Nat) (hn : 1 ≤ n) (h0 : b0 < 256) (h1 : b1 < 256) (h2 : b2 < 256) (h3 : b3 < 256) : stepN n b0 b1 b2 b3 = okD (Lib.decodeN n b0 b1 b2 b3) := by
  unfold stepN Lib.decodeN
  repeat' split
  all_goals first | (exfalso; omega) | exact okD_bad.symm | exact (okD_w _ _ (.inl (by omega))).symm | exact (okD_w _ _ (.inr (by omega))).symm
theorem badV_eq (l v : Int) : badV l v = decide (v < l ∨ (55296 ≤ v ∧ v ≤ 57343) ∨ 1114111 < v) := by
  unfold badV
  by_cases a : v < l <;> by_cases b : 55296 ≤ v <;> by_cases c : v ≤ 57343 <;> by_cases d : 1114111 < v <;> simp [a, b, c, d]
theorem contOk_iff (s : ByteArray) (i : Nat) : ∀ m, (contOk s i m = false) = ¬ (contOk s i m = true) := fun m => by cases contOk s i m <;> simp
theorem contOk_1 (s : ByteArray) (i : Nat) : (contOk s i 1 = true) = (128 ≤ bt s (i + 1) ∧ bt s (i + 1) ≤ 191) := by simp [contOk]
theorem contOk_2 (s : ByteArray) (i : Nat) : (contOk s i 2 = true) = ((128 ≤ bt s (i + 1) ∧ bt s (i + 1) ≤ 191) ∧ (128 ≤ bt s (i + 2) ∧ bt s (i + 2) ≤ 191)) := by simp [contOk]
theorem contOk_3 (s : ByteArray) (i : Nat) : (contOk s i 3 = true) = (((128 ≤ bt s (i + 1) ∧ bt s (i + 1) ≤ 191) ∧ (128 ≤ bt s (i + 2) ∧ bt s (i + 2) ≤ 191)) ∧ (128 ≤ bt s (i + 3) ∧ bt s (i + 3) ≤ 191)) := by simp [contOk]
theorem ite3_eq {p q r p' q' r' : Prop} [Decidable p] [Decidable q] [Decidable r] [Decidable p'] [Decidable q'] [Decidable r'] (x : Option Nat) (hp : p ↔ p') (hq : q ↔ q') (hr : ¬ p → ¬ q → (r ↔ r')) :
    (if p then none else if q then none else if r then none else x) = (if p' then none else if q' then none else if r' then none else x) := by
  by_cases a : p
  · rw [if_pos a, if_pos (hp.1 a)]
  · rw [if_neg a, if_neg (fun h => a (hp.2 h))]
    by_cases b : q
    · rw [if_pos b, if_pos (hq.1 b)]
    · rw [if_neg b, if_neg (fun h => b (hq.2 h))]
      by_cases c : r
      · rw [if_pos c, if_pos ((hr a b).1 c)]
      · rw [if_neg c, if_neg (fun h => c ((hr a b).2 h))]
set_option maxHeartbeats 4000000 in
theorem refStep_step (s : ByteArray) (i : Nat) (hi : i < s.size) : refStep s i = stepN (s.size - i) (dg s i) (dg s (i + 1)) (dg s (i + 2)) (dg s (i + 3)) := by
  have h0 := dg_lt s i; have h1 := dg_lt s (i + 1); have h2 := dg_lt s (i + 2); have h3 := dg_lt s (i + 3)
  have e0 := bt_dg s i; have e1 := bt_dg s (i + 1); have e2 := bt_dg s (i + 2); have e3 := bt_dg s (i + 3)
  have hst : ∀ N least c, headM (bt s i) = some (N, least, c) → refStep s i = if s.size ≤ i + N then none else if contOk s i N = false then none else if badV least (contV s i c N) = true then none else some (N + 1) := fun N least c h => by
    unfold refStep; rw [h]
  have hno : headM (bt s i) = none → refStep s i = none := fun h => by unfold refStep; rw [h]
  unfold stepN
  by_cases a1 : dg s i < 128
  · have hb : ¬ badV 0 (contV s i (bt s i) 0) = true := by rw [badV_eq, decide_eq_true_eq]; simp only [contV]; omega
    rw [if_pos a1, hst 0 0 (bt s i) (by unfold headM; rw [if_pos (by omega)]), if_neg (by omega), if_neg (by simp [contOk]), if_neg hb]
  · rw [if_neg a1]
    by_cases a2 : 192 ≤ dg s i ∧ dg s i < 224
    · rw [if_pos a2, hst 1 128 (bt s i - 192) (by unfold headM; rw [if_neg (by omega), if_pos (by omega)])]
      refine ite3_eq _ (by omega) (by rw [contOk_iff, contOk_1]; omega) (fun p q => ?_)
      rw [contOk_iff, contOk_1] at q
      rw [badV_eq]; simp only [contV, decide_eq_true_eq, Nat.zero_add]; omega
    · rw [if_neg a2]
      by_cases a3 : 224 ≤ dg s i ∧ dg s i < 240
      · rw [if_pos a3, hst 2 2048 (bt s i - 224) (by unfold headM; rw [if_neg (by omega), if_neg (by omega), if_pos (by omega)])]
        refine ite3_eq _ (by omega) (by rw [contOk_iff, contOk_2]; omega) (fun p q => ?_)
        rw [contOk_iff, contOk_2] at q
        rw [badV_eq]; simp only [contV, decide_eq_true_eq, Nat.zero_add, Nat.reduceAdd]; omega
      · rw [if_neg a3]
        by_cases a4 : 240 ≤ dg s i ∧ dg s i < 248
        · rw [if_pos a4, hst 3 65536 (bt s i - 240) (by unfold headM; rw [if_neg (by omega), if_neg (by omega), if_neg (by omega), if_pos (by omega)])]
          refine ite3_eq _ (by omega) (by rw [contOk_iff, contOk_3]; omega) (fun p q => ?_)
          rw [contOk_iff, contOk_3] at q
          rw [badV_eq]; simp only [contV, decide_eq_true_eq, Nat.zero_add, Nat.reduceAdd]; omega
        · rw [if_neg a4, hno (by unfold headM; rw [if_neg (by omega), if_neg (by omega), if_neg (by omega), if_neg (by omega)])]
theorem refStep_N (s : ByteArray) (i : Nat) (hi : i < s.size) : refStep s i = okD (Lib.decodeN (s.size - i) (dg s i) (dg s (i + 1)) (dg s (i + 2)) (dg s (i + 3))) := by
  rw [refStep_step s i hi, stepN_is _ _ _ _ _ (by omega) (dg_lt _ _) (dg_lt _ _) (dg_lt _ _) (dg_lt _ _)]
theorem contOk_snoc (s : ByteArray) (i m : Nat) (h : 1 ≤ m) : contOk s i m = (contOk s i (m - 1) && (decide (128 ≤ bt s (i + m)) && decide (bt s (i + m) ≤ 191))) := by
  obtain ⟨m, rfl⟩ : ∃ q, m = q + 1 := ⟨m - 1, by omega⟩
  rfl
theorem contV_snoc (s : ByteArray) (i m : Nat) (v : Int) (h : 1 ≤ m) : contV s i v m = contV s i v (m - 1) * 64 + bt s (i + m) - 128 := by
  obtain ⟨m, rfl⟩ : ∃ q, m = q + 1 := ⟨m - 1, by omega⟩
  rfl
theorem contOk_lost {s : ByteArray} {i m n : Nat} (hmn : m ≤ n) (h : contOk s i m = false) : contOk s i n = false := by
  induction n with
  | zero => obtain rfl : m = 0 := by omega
            exact h
  | succ n ih =>
    by_cases e : m = n + 1
    · subst e; exact h
    · simp only [contOk, ih (by omega), Bool.false_and]
theorem contV_small {s : ByteArray} {i : Nat} {v : Int} (h0 : 0 ≤ v) (h1 : v < 32) (m : Nat) (hm : m ≤ 3) (h : contOk s i m = true) : 0 ≤ contV s i v m ∧ contV s i v m < 8388608 := by
  have h2 := contV_bound h0 h1 m hm h
  have h3 : (64 : Int) ^ m ≤ 262144 := by
    match m, hm with
    | 0, _ => decide
    | 1, _ => decide
    | 2, _ => decide
    | 3, _ => decide
  omega
theorem contV_small' {s : ByteArray} {i n : Nat} {v : Int} (h0 : 0 ≤ v) (h1 : v < 32 ∨ n = 0 ∧ v < 128) (hn : n ≤ 3) (h : contOk s i n = true) : 0 ≤ contV s i v n ∧ contV s i v n < 8388608 := by
  rcases h1 with h1 | ⟨rfl, h1⟩
  · exact contV_small h0 h1 n hn h
  · show 0 ≤ v ∧ v < 8388608
    omega
theorem refStep_is (s : ByteArray) (i : Nat) (hi : i < s.size) : refStep s i = okD (Utf8.decode s i) := by
  rw [refStep_N s i hi, Lib.decode_N, show s.data.toList.length = s.size from Array.length_toList]; rfl
theorem runeFrom_fuel (s : ByteArray) : ∀ f g pos, s.size - pos ≤ f → s.size - pos ≤ g → Lib.runeCountFrom s f pos = Lib.runeCountFrom s g pos := by
  intro f
  induction f with
  | zero => intro g pos h _; rw [Lib.runeCountFrom_end s g pos (by omega)]; rfl
  | succ f ih =>
    intro g pos h1 h2
    by_cases hp : pos < s.size
    · obtain ⟨g, rfl⟩ : ∃ g', g = g' + 1 := ⟨g - 1, by omega⟩
      have hw := Lib.decode_width_pos s pos hp
      unfold Lib.runeCountFrom
      rw [if_pos hp, if_pos hp, ih g _ (by omega) (by omega)]
    · rw [Lib.runeCountFrom_end s _ pos hp, Lib.runeCountFrom_end s _ pos hp]
theorem refF_is (s : ByteArray) : ∀ f i, s.size - i < f → refF s f i = if Lib.validD (s.data.toList.drop i) = true then some (Lib.runeCountFrom s (s.size - i) i) else none := by
  have hsz : s.data.toList.length = s.size := Array.length_toList
  intro f
  induction f with
  | zero => intro i h; omega
  | succ f ih =>
    intro i h
    by_cases hi : i < s.size
    · rw [refF_succ s f i hi, refStep_is s i hi]
      have hne : s.data.toList.drop i ≠ [] := by
        intro e; have := congrArg List.length e; rw [List.length_drop, hsz] at this; simp at this; omega
      have hd : Lib.decodeL (s.data.toList.drop i) = Utf8.decode s i := by
        rw [Lib.decodeL_N, Lib.decode_N, List.length_drop]
        simp only [List.getD_eq_getElem?_getD, List.getElem?_drop, Nat.add_zero]
      have hw := Lib.decode_width_pos s i hi
      have hle := Lib.decodeL_le _ hne
      rw [hd, List.length_drop, hsz] at hle
      rw [Lib.validD_step _ hne, hd]
      unfold okD
      by_cases hb : (Utf8.decode s i).1 = 65533 ∧ (Utf8.decode s i).2 = 1
      · rw [if_pos hb, if_pos hb]; rfl
      · rw [if_neg hb, if_neg hb, List.drop_drop]
        simp only
        rw [ih _ (by omega)]
        obtain ⟨m, hm⟩ : ∃ m, s.size - i = m + 1 := ⟨s.size - i - 1, by omega⟩
        have hr : Lib.runeCountFrom s (s.size - i) i = 1 + Lib.runeCountFrom s (s.size - (i + (Utf8.decode s i).2)) (i + (Utf8.decode s i).2) := by
          rw [hm]
          conv => lhs; unfold Lib.runeCountFrom
          rw [if_pos hi, runeFrom_fuel s m _ _ (by omega) (Nat.le_refl _)]
        rw [hr]
        split
        · simp [Nat.add_comm]
        · rfl
    · have e : s.data.toList.drop i = [] := List.drop_of_length_le (by omega)
      rw [e, Lib.validD_nil, if_pos rfl, Lib.runeCountFrom_end s _ i hi]
      show (if i < s.size then _ else _) = _
      rw [if_neg hi]
/-- what the references read: the library's count, of a text in UTF-8 -/
theorem refLen_is (s : ByteArray) : refLen s = if Lib.validD s.data.toList = true then some (Lib.runeCount s) else none := by
  unfold refLen
  rw [refF_is s _ 0 (by omega)]
  rfl
end Go.Proofs.YtdpmjlkmjmookaaGreatDoor
