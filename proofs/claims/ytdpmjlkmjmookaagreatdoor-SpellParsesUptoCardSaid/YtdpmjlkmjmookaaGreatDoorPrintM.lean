/-
  Package spell: Print, walked.
-/
import Derived.Test.YtdpmjlkmjmookaaGreatDoorQuote
import Derived.Lib.ItoaLen
namespace Go.Proofs.YtdpmjlkmjmookaaGreatDoor
open Go.RowKit Go.PlainAid

/-! ### The text of a changeset -/
def pieceP (sign : UInt8) (a : At) : List UInt8 := sign :: (a.k.data.toList ++ 58 :: quoteL a.v.data.toList)
def attrsB : List At → List UInt8
  | [] => []
  | a :: r => pieceP 123 a ++ r.flatMap (pieceP 44)
def attrsP (l : List At) : List UInt8 := if l = [] then [] else attrsB l ++ [125]
def kindP (o : OpM) : List UInt8 :=
  if o.kind = 1 then 32 :: 61 :: Lib.itoa o.n else if o.kind = 3 then 32 :: 45 :: Lib.itoa o.n else if o.kind = 2 then 32 :: 43 :: quoteL o.text.data.toList else []
def opP (o : OpM) : List UInt8 := kindP o ++ attrsP o.attrs
def printM (f : Int) (ops : List OpM) : List UInt8 := Lib.itoa f ++ ops.flatMap opP
theorem attrsB_snoc (l : List At) (a : At) : attrsB (l ++ [a]) = attrsB l ++ pieceP (if l.length = 0 then 123 else 44) a := by
  cases l with
  | nil => simp [attrsB]
  | cons b r => simp [attrsB]

structure PrOk (o : OpM) : Prop where
  k : o.kind = 1 ∨ o.kind = 2 ∨ o.kind = 3
  n0 : 0 ≤ o.n
  n1 : o.n ≤ 1099511627776
  t : o.text.size ≤ 400000000
  la : o.attrs.length ≤ 8
  ls : ∀ a ∈ o.attrs, a.k.size ≤ 64 ∧ a.v.size ≤ 64
theorem itoa_len {n : Int} (h0 : 0 ≤ n) (h1 : n ≤ 1099511627776) : (Lib.itoa n).length ≤ 21 := Lib.itoa_length_le n (by omega) (by omega)
theorem len_data (s : ByteArray) : s.data.toList.length = s.size := Array.length_toList
theorem pieceP_len (c : UInt8) (a : At) : (pieceP c a).length ≤ a.k.size + 4 * a.v.size + 4 := by
  have h := quoteL_len a.v.data.toList
  have h1 := len_data a.k; have h2 := len_data a.v
  simp only [pieceP, List.length_cons, List.length_append]; omega
theorem flat_len {α : Type} (f : α → List UInt8) (m : Nat) (l : List α) (h : ∀ a ∈ l, (f a).length ≤ m) : (l.flatMap f).length ≤ m * l.length := by
  induction l with
  | nil => simp
  | cons a l ih =>
    have h1 := h a (by simp)
    have h2 := ih fun x hx => h x (by simp [hx])
    simp only [List.flatMap_cons, List.length_append, List.length_cons, Nat.mul_add, Nat.mul_one]; omega
theorem attrsB_len {l : List At} (h : ∀ a ∈ l, a.k.size ≤ 64 ∧ a.v.size ≤ 64) : (attrsB l).length ≤ 324 * l.length := by
  have hp : ∀ (c : UInt8), ∀ a ∈ l, (pieceP c a).length ≤ 324 := fun c a ha => by have := pieceP_len c a; have := h a ha; omega
  cases l with
  | nil => simp [attrsB]
  | cons a r =>
    have h1 := hp 123 a (by simp)
    have h2 := flat_len (pieceP 44) 324 r fun x hx => hp 44 x (by simp [hx])
    simp only [attrsB, List.length_append, List.length_cons]; omega
theorem kindP_len {o : OpM} (h : PrOk o) : (kindP o).length ≤ 1600000024 := by
  have h1 := itoa_len h.n0 h.n1
  have h2 := quoteL_len o.text.data.toList
  have h3 := len_data o.text; have := h.t
  unfold kindP; split
  · simp only [List.length_cons]; omega
  · split
    · simp only [List.length_cons]; omega
    · split
      · simp only [List.length_cons]; omega
      · simp
theorem attrsP_len {o : OpM} (h : PrOk o) : (attrsP o.attrs).length ≤ 3000 := by
  have h1 := attrsB_len h.ls; have := h.la
  unfold attrsP; split
  · simp
  · simp only [List.length_append, List.length_cons, List.length_nil]; omega
theorem opP_len {o : OpM} (h : PrOk o) : (opP o).length ≤ 1700000000 := by
  have := kindP_len h; have := attrsP_len h
  simp only [opP, List.length_append]; omega
theorem printed_len {f : Int} {ops : List OpM} (h0 : 0 ≤ f) (h1 : f ≤ 1099511627776) (hl : ops.length ≤ 10000) (h : ∀ o ∈ ops, PrOk o) (k : Nat) : (printM f (ops.take k)).length ≤ 17000000000021 := by
  have hi := itoa_len h0 h1
  have h2 := flat_len opP 1700000000 (ops.take k) fun o ho => opP_len (h o (List.mem_of_mem_take ho))
  have h3 : (ops.take k).length ≤ 10000 := by rw [List.length_take]; omega
  unfold printM
  rw [List.length_append]
  generalize ((ops.take k).flatMap opP).length = y at *
  omega
theorem printM_snoc (f : Int) (ops : List OpM) (k : Nat) (h : k < ops.length) : printM f (ops.take (k + 1)) = printM f (ops.take k) ++ opP ops[k] := by
  unfold printM
  rw [List.take_succ_eq_append_getElem h, List.flatMap_append, List.append_assoc]
  congr 2
  simp only [List.flatMap_cons, List.flatMap_nil, List.append_nil]

/-! ### What a normal form is made of -/
theorem putM_q {Q : Int → List At → Prop} {ops : List OpM} {o : OpM} (h : ∀ l ∈ ops, Q l.kind l.attrs) (h0 : Q o.kind o.attrs) : ∀ l ∈ putM ops o, Q l.kind l.attrs := by
  intro l hl
  rcases List.eq_nil_or_concat ops with rfl | ⟨init, last, rfl⟩
  · simp [putM] at hl; subst hl; exact h0
  · rw [List.concat_eq_append] at *
    rw [putM_snoc] at hl
    split at hl
    · rcases List.mem_append.1 hl with hl | hl
      · exact h l (by simp [hl])
      · simp at hl; subst hl
        exact h last (by simp)
    · rcases List.mem_append.1 hl with hl | hl
      · exact h l hl
      · simp at hl; subst hl; exact h0
theorem flushM_q {Q : Int → List At → Prop} (h3 : Q 3 []) {ops : List OpM} {g : Int} (h : ∀ l ∈ ops, Q l.kind l.attrs) : ∀ l ∈ flushM ops g, Q l.kind l.attrs := by
  unfold flushM
  split
  · exact putM_q h h3
  · exact h
theorem normStep_q {Q : Int → List At → Prop} (h3 : Q 3 []) {s : NormSt} {o : OpM} (h : ∀ l ∈ s.ops, Q l.kind l.attrs) (h0 : Q o.kind o.attrs) : ∀ l ∈ (normStep s o).ops, Q l.kind l.attrs := by
  unfold normStep
  split
  · exact putM_q (flushM_q h3 h) h0
  · split
    · exact putM_q h h0
    · split
      · exact h
      · exact h
theorem normFold_q {Q : Int → List At → Prop} (h3 : Q 3 []) (ops : List OpM) : ∀ (s : NormSt), (∀ l ∈ s.ops, Q l.kind l.attrs) → (∀ o ∈ ops, Q o.kind o.attrs) → ∀ l ∈ (ops.foldl normStep s).ops, Q l.kind l.attrs := by
  induction ops with
  | nil => intro s h _; exact h
  | cons a l ih => intro s h h0; exact ih _ (normStep_q h3 h (h0 a (by simp))) fun o ho => h0 o (by simp [ho])
theorem normTail_mem {ops : List OpM} : ∀ l ∈ normTail ops, l ∈ ops := by
  intro l hl
  rcases List.eq_nil_or_concat ops with rfl | ⟨init, last, rfl⟩
  · simp [normTail] at hl
  · rw [List.concat_eq_append] at *
    rw [normTail_snoc] at hl
    split at hl
    · simp [hl]
    · exact hl
theorem normM_q {Q : Int → List At → Prop} (h3 : Q 3 []) {ops : List OpM} (h : ∀ o ∈ ops, Q o.kind o.attrs) : ∀ l ∈ normM ops, Q l.kind l.attrs := fun l hl =>
  flushM_q h3 (normFold_q h3 ops ⟨[], 0⟩ (by simp) h) l (normTail_mem l hl)
theorem toE_one {f : Int} {ops : List OpM} (h : toE f ops = 0) : ∀ o ∈ ops, ∃ left, oneE o left = 0 := by
  obtain ⟨hf, hl, he⟩ := toE_fold h
  intro o ho
  obtain ⟨k, hk, rfl⟩ := List.getElem_of_mem ho
  have hz : ∀ j, (toFold f (ops.take j)).e = 0 := fun j => by
    rcases Decidable.em ((toFold f (ops.take j)).e = 0) with h1 | h1
    · exact h1
    · rw [toFold_bad f ops j h1] at he; exact absurd he h1
  have h2 := hz (k + 1)
  rw [toFold_snoc f ops k hk] at h2
  refine ⟨(toFold f (ops.take k)).left, ?_⟩
  unfold toStep at h2
  rw [if_neg (by rw [hz k]; simp)] at h2
  by_cases h4 : oneE ops[k] (toFold f (ops.take k)).left = 0
  · exact h4
  · rw [if_pos h4] at h2; exact h2
theorem oneE_change {o : OpM} {left : Int} (h : oneE o left = 0) : changeE o.attrs = 0 := by
  unfold oneE at h
  cases hs : shapedB o with
  | false => simp [hs] at h
  | true =>
    simp only [hs, Bool.not_true, Bool.false_eq_true, if_false] at h
    by_cases k2 : o.kind = 2
    · rw [if_pos k2] at h
      have hc : cntE o.text = 0 := by
        by_cases h5 : cntE o.text = 0
        · exact h5
        · rw [if_pos h5] at h; exact absurd h h5
      rw [if_neg (by rw [hc]; simp)] at h
      unfold rightE at h
      split at h
      · omega
      · exact h
    · rw [if_neg k2] at h
      by_cases h6 : changeE o.attrs = 0
      · exact h6
      · rw [if_pos h6] at h; exact absurd h h6
theorem change_sizes {l : List At} (h : changeE l = 0) : l.length ≤ 8 ∧ ∀ a ∈ l, keyOk a.k = true ∧ valOk a.v = true := by
  have hok : okChange l = true := by
    unfold changeE at h
    split at h
    · assumption
    · omega
  unfold okChange at hok
  rw [List.all_eq_true] at hok
  have hat : ∀ i (hi : i < l.length), i < 8 ∧ keyOk l[i].k = true ∧ valOk l[i].v = true := fun i hi => by
    have h1 := hok i (by simp [hi])
    unfold okAt at h1
    rw [List.getElem?_eq_getElem hi] at h1
    simp only [Bool.and_eq_true, decide_eq_true_eq] at h1
    exact ⟨h1.1.1.1, h1.1.1.2, h1.1.2⟩
  refine ⟨?_, fun a ha => ?_⟩
  · rcases Nat.lt_or_ge 8 l.length with h8 | h8
    · have := (hat 8 h8).1; omega
    · exact h8
  · obtain ⟨i, hi, rfl⟩ := List.getElem_of_mem ha
    exact (hat i hi).2
theorem key_size {s : ByteArray} (h : keyOk s = true) : s.size ≤ 32 := by
  unfold keyOk madeB at h; simp only [Bool.and_eq_true, decide_eq_true_eq] at h; exact h.2.2
theorem val_size {s : ByteArray} (h : valOk s = true) : s.size ≤ 64 := by
  unfold valOk madeB at h; simp only [Bool.and_eq_true, decide_eq_true_eq] at h; exact h.2
theorem normM_len {f : Int} {ops : List OpM} (h : toE f ops = 0) : (normM ops).length ≤ 10000 ∧ ∀ o ∈ normM ops, 0 ≤ o.n ∧ o.n ≤ 40020000 ∧ o.text.size ≤ 160000000 := by
  have hl := (toE_fold h).2.1
  have h1 := normFold_ok (op_ok h) ops.length (Nat.le_refl _)
  rw [List.take_of_length_le (Nat.le_refl _)] at h1
  obtain ⟨f1, f2, f3⟩ := flushM_sum (normFold ops).ops _ h1.g0
  have f4 := flushM_nn h1.nn h1.g0
  have := h1.len; have h5 := h1.sum; have h6 := h1.txt
  refine ⟨?_, fun o ho => ?_⟩
  · have : (normM ops).length ≤ (flushM (normFold ops).ops (normFold ops).gone).length := by
      unfold normM
      rcases List.eq_nil_or_concat (flushM (normFold ops).ops (normFold ops).gone) with e | ⟨init, last, e⟩
      · simp only [e]; simp [normTail]
      · simp only [e, List.concat_eq_append, normTail_snoc]; split <;> simp
    omega
  · have hm := normTail_mem o ho
    have q1 := f4 o hm
    have q2 := (sumN_le f4).2 o hm
    have q3 := sumT_le _ o hm
    omega
theorem normM_pr {f : Int} {ops : List OpM} (h : toE f ops = 0) : ∀ o ∈ normM ops, PrOk o := by
  intro o ho
  obtain ⟨n0, n1, t⟩ := (normM_len h).2 o ho
  have hq := normM_q (Q := fun k l => (k = 1 ∨ k = 2 ∨ k = 3) ∧ changeE l = 0) ⟨by simp, by decide⟩ (fun o ho => ⟨(op_ok h o ho).k, by obtain ⟨left, hl⟩ := toE_one h o ho; exact oneE_change hl⟩) o ho
  obtain ⟨a1, a2⟩ := change_sizes hq.2
  exact ⟨hq.1, n0, by omega, by omega, a1, fun a ha => by have := key_size (a2 a ha).1; have := val_size (a2 a ha).2; omega⟩
end Go.Proofs.YtdpmjlkmjmookaaGreatDoor
