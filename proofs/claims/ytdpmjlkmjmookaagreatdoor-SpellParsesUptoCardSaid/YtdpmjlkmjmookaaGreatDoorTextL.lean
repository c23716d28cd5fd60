/-
  The plain law of changesets' texts: what is printed is read, and what is read is printed.
-/
import Derived.Test.YtdpmjlkmjmookaaGreatDoorNormL
import Derived.Test.YtdpmjlkmjmookaaGreatDoorRefKey
namespace Go.Proofs.YtdpmjlkmjmookaaGreatDoor
open Go.RowKit Go.PlainAid

/-! ### Numerals -/
theorem dd_small {u : Nat} (h : u < 10) : Lib.decDigits u = [UInt8.ofNat (48 + u)] := Lib.decDigits_one h
theorem dd_step {u : Nat} (h : ¬ u < 10) : Lib.decDigits u = Lib.decDigits (u / 10) ++ [UInt8.ofNat (48 + u % 10)] := by rw [Lib.decDigits, dif_neg h]
theorem dig_toNat {k : Nat} (h : k < 10) : (UInt8.ofNat (48 + k)).toNat = 48 + k := by simp; omega
theorem dig_isDig {k : Nat} (h : k < 10) : isDig (UInt8.ofNat (48 + k)) = true := by
  unfold isDig; rw [dig_toNat h]; simp; omega
theorem dd_ne (u : Nat) : Lib.decDigits u ≠ [] := by
  by_cases h : u < 10
  · rw [dd_small h]; simp
  · rw [dd_step h]; simp
theorem dd_all : ∀ u, (Lib.decDigits u).all isDig = true := by
  intro u
  induction u using Nat.strongRecOn with
  | _ u ih =>
    by_cases h : u < 10
    · rw [dd_small h]; show (isDig _ && true) = true; rw [dig_isDig h]; rfl
    · rw [dd_step h, List.all_append, ih (u / 10) (by omega)]
      show (true && (isDig _ && true)) = true
      rw [dig_isDig (show u % 10 < 10 by omega)]; rfl
theorem decN_append (acc : Nat) (a b : List UInt8) : decN acc (a ++ b) = decN (decN acc a) b := by unfold decN; rw [List.foldl_append]
theorem decN_one (acc : Nat) (c : UInt8) : decN acc [c] = acc * 10 + (c.toNat - 48) := rfl
theorem dd_dec : ∀ u, decN 0 (Lib.decDigits u) = u := by
  intro u
  induction u using Nat.strongRecOn with
  | _ u ih =>
    by_cases h : u < 10
    · rw [dd_small h, decN_one, dig_toNat h]; omega
    · rw [dd_step h, decN_append, ih (u / 10) (by omega), decN_one, dig_toNat (show u % 10 < 10 by omega)]; omega
theorem dd_head : ∀ u, (Lib.decDigits u).head? = some 48 → u = 0 := by
  intro u
  induction u using Nat.strongRecOn with
  | _ u ih =>
    intro hh
    by_cases h : u < 10
    · rw [dd_small h] at hh
      simp only [List.head?_cons, Option.some.injEq] at hh
      have := congrArg UInt8.toNat hh
      rw [dig_toNat h] at this
      have e : (48 : UInt8).toNat = 48 := rfl
      omega
    · rw [dd_step h] at hh
      obtain ⟨c, r, hc⟩ := List.exists_cons_of_ne_nil (dd_ne (u / 10))
      have := ih (u / 10) (by omega) (by rw [hc] at hh ⊢; simpa using hh)
      omega
theorem dd_len : ∀ k u, u < 10 ^ (k + 1) → (Lib.decDigits u).length ≤ k + 1 := by
  intro k
  induction k with
  | zero => intro u h; rw [dd_small (by omega)]; simp
  | succ k ih =>
    intro u h
    by_cases h10 : u < 10
    · rw [dd_small h10]; simp
    · rw [dd_step h10, List.length_append]
      have : u / 10 < 10 ^ (k + 1) := by
        rw [Nat.pow_succ] at h; omega
      have := ih _ this
      simp only [List.length_cons, List.length_nil]; omega
theorem takeWhile_stop {p : UInt8 → Bool} {d r : List UInt8} (h : d.all p = true) (hr : ∀ c t, r = c :: t → p c = false) : (d ++ r).takeWhile p = d ∧ (d ++ r).dropWhile p = r := by
  induction d with
  | nil =>
    cases r with
    | nil => simp
    | cons c t => simp [hr c t rfl]
  | cons a d ih =>
    simp only [List.all_cons, Bool.and_eq_true] at h
    obtain ⟨i1, i2⟩ := ih h.2
    simp [h.1, i1, i2]
theorem runM_back {p : UInt8 → Bool} {d r : List UInt8} (h : d.all p = true) (hne : d ≠ []) (hr : ∀ c t, r = c :: t → p c = false) : runM p (d ++ r) = .ok (d, r) := by
  obtain ⟨h1, h2⟩ := takeWhile_stop h hr
  rw [runM_some (by rw [h1]; exact hne), h1, h2]
theorem itoa_nat {n : Int} (h : 0 ≤ n) : Lib.itoa n = Lib.decDigits n.toNat := by unfold Lib.itoa; rw [if_neg (by omega)]
theorem number_back {n : Int} (h0 : 0 ≤ n) (h1 : n < 1000000000000000000) {r : List UInt8} (hr : ∀ c t, r = c :: t → isDig c = false) : numberM (Lib.itoa n ++ r) = .ok (n, r) := by
  rw [itoa_nat h0]
  have hd := dd_all n.toNat
  have hb : badNum (Lib.decDigits n.toNat) = false := by
    have hl := dd_len 17 n.toNat (by omega)
    unfold badNum
    rw [show decide (18 < (Lib.decDigits n.toNat).length) = false by simp; omega, Bool.false_or]
    cases hh : ((Lib.decDigits n.toNat).head? == some 48) with
    | false => rfl
    | true =>
      have := dd_head n.toNat (by simpa using hh)
      rw [this, dd_small (by omega)]; rfl
  have hn : numberM (Lib.decDigits n.toNat ++ r) = match runM isDig (Lib.decDigits n.toNat ++ r) with
    | .error k => .error k
    | .ok (d, r') => if badNum d then .error (Lib.decDigits n.toNat ++ r).length else .ok (decV d, r') := rfl
  rw [hn, runM_back hd (dd_ne _) hr]
  simp only [hb, Bool.false_eq_true, if_false]
  have : decV (Lib.decDigits n.toNat) = n := by unfold decV; rw [dd_dec]; omega
  rw [this]

/-! ### What is printed is read -/
def bodyP (a : At) : List UInt8 := a.k.data.toList ++ 58 :: quoteL a.v.data.toList
theorem mkB_data (s : ByteArray) : mkB s.data.toList = s := by unfold mkB; cases s; simp
theorem attrsF_back (rest : List UInt8) : ∀ (r : List At) (a : At) (n : Nat), r.length + 1 ≤ n → (∀ x ∈ a :: r, x.k.data.toList.all isKey = true ∧ x.k.data.toList ≠ []) → attrsF n (bodyP a ++ (r.flatMap (pieceP 44) ++ 125 :: rest)) = .ok (a :: r, rest) := by
  intro r
  induction r with
  | nil =>
    intro a n hn hk
    obtain ⟨n, rfl⟩ : ∃ m, n = m + 1 := ⟨n - 1, by omega⟩
    obtain ⟨k1, k2⟩ := hk a (by simp)
    have e1 : bodyP a ++ (([] : List At).flatMap (pieceP 44) ++ 125 :: rest) = a.k.data.toList ++ (58 :: (quoteL a.v.data.toList ++ 125 :: rest)) := by simp [bodyP]
    rw [e1]
    unfold attrsF
    rw [runM_back k1 k2 (fun c t e => by injection e with e _; subst e; rfl)]
    have t1 : takeB 58 (58 :: (quoteL a.v.data.toList ++ 125 :: rest)) = true := rfl
    simp only [t1, if_true, List.tail_cons, quoted_back]
    have t2 : takeB 125 (125 :: rest) = true := rfl
    simp only [t2, if_true, mkB_data]
  | cons b r ih =>
    intro a n hn hk
    obtain ⟨n, rfl⟩ : ∃ m, n = m + 1 := ⟨n - 1, by omega⟩
    obtain ⟨k1, k2⟩ := hk a (by simp)
    have e1 : bodyP a ++ ((b :: r).flatMap (pieceP 44) ++ 125 :: rest) = a.k.data.toList ++ (58 :: (quoteL a.v.data.toList ++ 44 :: (bodyP b ++ (r.flatMap (pieceP 44) ++ 125 :: rest)))) := by
      simp [bodyP, pieceP]
    rw [e1]
    unfold attrsF
    rw [runM_back k1 k2 (fun c t e => by injection e with e _; subst e; rfl)]
    have t1 : takeB 58 (58 :: (quoteL a.v.data.toList ++ 44 :: (bodyP b ++ (r.flatMap (pieceP 44) ++ 125 :: rest)))) = true := rfl
    simp only [t1, if_true, List.tail_cons, quoted_back]
    have t2 : takeB 125 (44 :: (bodyP b ++ (r.flatMap (pieceP 44) ++ 125 :: rest))) = false := rfl
    have t3 : takeB 44 (44 :: (bodyP b ++ (r.flatMap (pieceP 44) ++ 125 :: rest))) = true := rfl
    simp only [t2, t3, if_true, Bool.false_eq_true, if_false]
    rw [ih b n (by simp at hn; omega) (fun x hx => hk x (by simp at hx ⊢; exact .inr hx))]
    simp only [mkB_data]
theorem flat_pieces (r : List At) : r.length ≤ (r.flatMap (pieceP 44)).length := by
  induction r with
  | nil => simp
  | cons a r ih => simp only [List.flatMap_cons, List.length_append, List.length_cons, pieceP]; omega
def keysOk (l : List At) : Prop := ∀ x ∈ l, x.k.data.toList.all isKey = true ∧ x.k.data.toList ≠ []
theorem attrs_back {l : List At} {rest : List UInt8} (hk : keysOk l) (hr : takeB 123 rest = false) : attrsM (attrsP l ++ rest) = .ok (l, rest) := by
  cases l with
  | nil =>
    show attrsM ([] ++ rest) = _
    rw [List.nil_append]
    unfold attrsM
    rw [hr]; rfl
  | cons a r =>
    have e : attrsP (a :: r) ++ rest = 123 :: (bodyP a ++ (r.flatMap (pieceP 44) ++ 125 :: rest)) := by
      unfold attrsP attrsB
      rw [if_neg (by simp)]
      simp [pieceP, bodyP]
    rw [e]
    unfold attrsM
    have t : takeB 123 (123 :: (bodyP a ++ (r.flatMap (pieceP 44) ++ 125 :: rest))) = true := rfl
    rw [if_pos t, List.tail_cons]
    refine attrsF_back rest r a _ ?_ hk
    have := flat_pieces r
    simp only [List.length_cons, List.length_append]; omega
/-- an operation as it is printed and read -/
structure TxOk (o : OpM) : Prop where
  sh : shapedB o = true
  n1 : o.n < 1000000000000000000
  ks : keysOk o.attrs
theorem keys_change {l : List At} (h : changeE l = 0) : keysOk l := fun a ha => by
  obtain ⟨h1, h2⟩ := (change_sizes h).2 a ha
  rw [keyOk_is] at h1
  simp only [Bool.and_eq_true, decide_eq_true_eq] at h1
  refine ⟨h1.1.1, fun e => ?_⟩
  have := congrArg List.length e
  rw [len_data, List.length_nil] at this
  omega
theorem OkO.attrs {o : OpM} (h : OkO o) : changeE o.attrs = 0 := by
  by_cases k2 : o.kind = 2
  · exact rightE_change (h.k2 k2).2
  · exact h.kn k2
theorem behind_op {rest : List UInt8} (hr : rest = [] ∨ ∃ t, rest = 32 :: t) : takeB 123 rest = false ∧ ∀ c t, rest = c :: t → isDig c = false := by
  rcases hr with rfl | ⟨t, rfl⟩
  · exact ⟨rfl, fun c t e => by cases e⟩
  · exact ⟨rfl, fun c t e => by injection e with e _; subst e; rfl⟩
theorem behind_num {l : List At} {rest : List UInt8} (hr : rest = [] ∨ ∃ t, rest = 32 :: t) : ∀ c t, attrsP l ++ rest = c :: t → isDig c = false := by
  cases l with
  | nil => exact (behind_op hr).2
  | cons a r =>
    intro c t e
    unfold attrsP attrsB at e
    rw [if_neg (by simp)] at e
    simp [pieceP] at e
    rw [← e.1]; rfl
theorem op_back {o : OpM} (h : TxOk o) {rest : List UInt8} (hr : rest = [] ∨ ∃ t, rest = 32 :: t) : opM (opP o ++ rest) = .ok (o, rest) := by
  obtain ⟨b1, b2⟩ := behind_op hr
  have hn1 := h.n1
  obtain ⟨kind, n, text, attrs⟩ := o
  rcases shaped_kinds h.sh with ⟨k, n0, t0⟩ | ⟨k, n0, t0⟩ | ⟨k, n0, t0, l0⟩
  · simp only at k n0 t0 hn1
    subst k
    have et := empty_text t0
    subst et
    have e : opP ⟨1, n, ⟨#[]⟩, attrs⟩ ++ rest = 32 :: 61 :: (Lib.itoa n ++ (attrsP attrs ++ rest)) := by simp [opP, kindP]
    rw [e]
    have t1 : takeB 32 (32 :: 61 :: (Lib.itoa n ++ (attrsP attrs ++ rest))) = true := rfl
    have t2 : takeB 61 (61 :: (Lib.itoa n ++ (attrsP attrs ++ rest))) = true := rfl
    unfold opM
    simp only [t1, if_true, List.tail_cons, t2]
    unfold opKeep
    rw [number_back (by omega) hn1 (behind_num hr)]
    simp only [attrs_back h.ks b1]
  · simp only at k n0 t0
    subst k n0
    have e : opP ⟨2, 0, text, attrs⟩ ++ rest = 32 :: 43 :: (quoteL text.data.toList ++ (attrsP attrs ++ rest)) := by simp [opP, kindP]
    rw [e]
    have t1 : takeB 32 (32 :: 43 :: (quoteL text.data.toList ++ (attrsP attrs ++ rest))) = true := rfl
    have t2 : takeB 61 (43 :: (quoteL text.data.toList ++ (attrsP attrs ++ rest))) = false := rfl
    have t3 : takeB 43 (43 :: (quoteL text.data.toList ++ (attrsP attrs ++ rest))) = true := rfl
    unfold opM
    simp only [t1, if_true, List.tail_cons, t2, Bool.false_eq_true, if_false, t3]
    unfold opIns
    rw [quoted_back]
    simp only [attrs_back h.ks b1, mkB_data]
  · simp only at k n0 t0 l0 hn1
    subst k
    have et := empty_text t0
    have el := List.eq_nil_of_length_eq_zero l0
    subst et el
    have e : opP ⟨3, n, ⟨#[]⟩, []⟩ ++ rest = 32 :: 45 :: (Lib.itoa n ++ rest) := by simp [opP, kindP, attrsP]
    rw [e]
    have t1 : takeB 32 (32 :: 45 :: (Lib.itoa n ++ rest)) = true := rfl
    have t2 : takeB 61 (45 :: (Lib.itoa n ++ rest)) = false := rfl
    have t3 : takeB 43 (45 :: (Lib.itoa n ++ rest)) = false := rfl
    have t4 : takeB 45 (45 :: (Lib.itoa n ++ rest)) = true := rfl
    unfold opM
    simp only [t1, if_true, List.tail_cons, t2, Bool.false_eq_true, if_false, t3, t4]
    unfold opDel
    rw [number_back (by omega) hn1 b2]
theorem opP_head {o : OpM} (h : TxOk o) : ∃ t, opP o = 32 :: t := by
  unfold opP kindP
  rcases shaped_kinds h.sh with ⟨k, _⟩ | ⟨k, _⟩ | ⟨k, _⟩
  · rw [if_pos k]; exact ⟨_, rfl⟩
  · rw [if_neg (by omega), if_neg (by omega), if_pos k]; exact ⟨_, rfl⟩
  · rw [if_neg (by omega), if_pos k]; exact ⟨_, rfl⟩
theorem ops_back : ∀ (ops : List OpM) (n : Nat), ops.length + 1 ≤ n → (∀ o ∈ ops, TxOk o) → opsF n (ops.flatMap opP) = .ok ops := by
  intro ops
  induction ops with
  | nil =>
    intro n hn _
    obtain ⟨n, rfl⟩ : ∃ m, n = m + 1 := ⟨n - 1, by omega⟩
    simp [opsF]
  | cons o ops ih =>
    intro n hn h
    obtain ⟨n, rfl⟩ : ∃ m, n = m + 1 := ⟨n - 1, by omega⟩
    have ho := h o (by simp)
    have hrest : ops.flatMap opP = [] ∨ ∃ t, ops.flatMap opP = 32 :: t := by
      cases ops with
      | nil => exact .inl rfl
      | cons b r =>
        obtain ⟨t, ht⟩ := opP_head (h b (by simp))
        exact .inr ⟨t ++ r.flatMap opP, by simp [ht]⟩
    rw [List.flatMap_cons]
    unfold opsF
    have hne : opP o ++ ops.flatMap opP ≠ [] := by obtain ⟨t, ht⟩ := opP_head ho; simp [ht]
    rw [if_neg hne, op_back ho hrest]
    simp only
    rw [ih n (by simp at hn; omega) (fun x hx => h x (by simp [hx]))]
theorem raw_back {f : Int} {ops : List OpM} (h0 : 0 ≤ f) (h1 : f < 1000000000000000000) (h : ∀ o ∈ ops, TxOk o) : rawM (printM f ops) = .ok (f, ops) := by
  unfold printM rawM
  have hr : ∀ c t, ops.flatMap opP = c :: t → isDig c = false := by
    cases ops with
    | nil => intro c t e; cases e
    | cons b r =>
      obtain ⟨t, ht⟩ := opP_head (h b (by simp))
      intro c t' e
      rw [List.flatMap_cons, ht] at e
      injection e with e _
      subst e; rfl
  rw [number_back h0 h1 hr]
  simp only
  rw [ops_back ops _ ?_ h]
  have : ops.length ≤ (ops.flatMap opP).length := by
    clear hr
    induction ops with
    | nil => simp
    | cons b r ih =>
      obtain ⟨t, ht⟩ := opP_head (h b (by simp))
      have := ih (fun x hx => h x (by simp [hx]))
      simp only [List.flatMap_cons, List.length_append, ht, List.length_cons]; omega
  omega

/-! ### What is read is printed -/
theorem dd_back (d : List UInt8) : d ≠ [] → d.all isDig = true → (d.head? ≠ some 48 ∨ d.length = 1) → Lib.decDigits (decN 0 d) = d ∧ (d.head? ≠ some 48 → 1 ≤ decN 0 d) := by
  refine rev_ind (P := fun d => d ≠ [] → d.all isDig = true → (d.head? ≠ some 48 ∨ d.length = 1) → Lib.decDigits (decN 0 d) = d ∧ (d.head? ≠ some 48 → 1 ≤ decN 0 d)) ?_ ?_ d
  · intro h; exact absurd rfl h
  · intro d c ih _ ha hh
    rw [List.all_append] at ha
    simp only [List.all_cons, List.all_nil, Bool.and_true, Bool.and_eq_true] at ha
    obtain ⟨ha, hc⟩ := ha
    have hcd : 48 ≤ c.toNat ∧ c.toNat ≤ 57 := by
      unfold isDig at hc; simpa using hc
    have hcc : UInt8.ofNat (48 + (c.toNat - 48)) = c := by
      apply UInt8.toNat_inj.1; rw [dig_toNat (by omega)]; omega
    by_cases hd : d = []
    · subst hd
      rw [List.nil_append, decN_one, Nat.zero_mul, Nat.zero_add, dd_small (by omega), hcc]
      refine ⟨rfl, fun h => ?_⟩
      simp only [List.head?_cons, ne_eq, Option.some.injEq] at h
      rcases Nat.eq_or_lt_of_le hcd.1 with e | e
      · exact absurd (u8_of (c := c) (n := 48) e.symm (by decide)) h
      · omega
    · obtain ⟨a, r, hr⟩ := List.exists_cons_of_ne_nil hd
      have hhead : (d ++ [c]).head? = d.head? := by rw [hr]; rfl
      have hl : (d ++ [c]).length ≠ 1 := by rw [hr]; simp
      have h48 : d.head? ≠ some 48 := by
        rcases hh with hh | hh
        · rwa [hhead] at hh
        · exact absurd hh hl
      obtain ⟨i1, i2⟩ := ih hd ha (.inl h48)
      have i3 := i2 h48
      rw [decN_append, decN_one]
      refine ⟨?_, fun _ => by omega⟩
      rw [dd_step (by omega), show (decN 0 d * 10 + (c.toNat - 48)) / 10 = decN 0 d by omega, show (decN 0 d * 10 + (c.toNat - 48)) % 10 = c.toNat - 48 by omega, i1, hcc]
theorem number_text {l r : List UInt8} {n : Int} (h : numberM l = .ok (n, r)) : Lib.itoa n ++ r = l ∧ 0 ≤ n := by
  unfold numberM at h
  cases hr : runM isDig l with
  | error k => rw [hr] at h; cases h
  | ok p =>
    obtain ⟨d, r'⟩ := p
    rw [hr] at h
    simp only at h
    obtain ⟨h1, h2, h3⟩ := runM_ok hr
    cases hb : badNum d with
    | true => rw [hb] at h; simp at h
    | false =>
      rw [hb] at h
      simp only [Bool.false_eq_true, if_false, Except.ok.injEq, Prod.mk.injEq] at h
      obtain ⟨rfl, rfl⟩ := h
      have h4 : d.head? ≠ some 48 ∨ d.length = 1 := by
        unfold badNum at hb
        simp only [Bool.or_eq_false_iff, Bool.and_eq_false_iff, decide_eq_false_iff_not] at hb
        rcases hb.2 with h | h
        · left; simpa using h
        · right
          have := List.length_pos_iff.2 h1
          omega
      have h5 := (dd_back d h1 h2 h4).1
      refine ⟨?_, by unfold decV; omega⟩
      rw [itoa_nat (by unfold decV; omega)]
      unfold decV
      rw [Int.toNat_natCast, h5, h3]
set_option maxRecDepth 100000 in
theorem hx_hexI_all : ∀ i : Fin 256, hexI (UInt8.ofNat i.val) < 0 ∨ hx (hexI (UInt8.ofNat i.val)).toNat = UInt8.ofNat i.val := by decide
theorem hx_hexI (c : UInt8) (h : ¬ hexI c < 0) : hx (hexI c).toNat = c := by
  have := hx_hexI_all ⟨c.toNat, c.toNat_lt⟩
  simp only [UInt8.ofNat_toNat] at this
  rcases this with h' | h'
  · exact absurd h' h
  · exact h'
theorem hexSt_ok {l r : List UInt8} {d : Int} (h : hexSt l = .ok (d, r)) : ∃ c, l = c :: r ∧ hexI c = d ∧ ¬ hexI c < 0 := by
  unfold hexSt at h
  cases l with
  | nil =>
    have : hexI (hd0 []) < 0 := by decide
    rw [if_pos this] at h; cases h
  | cons c t =>
    by_cases hc : hexI (hd0 (c :: t)) < 0
    · rw [if_pos hc] at h; cases h
    · rw [if_neg hc] at h
      injection h with h; injection h with h1 h2
      exact ⟨c, by rw [← h2]; rfl, h1, hc⟩
theorem hexN_two {l r : List UInt8} {n : Int} (h : hexN 2 l = .ok (n, r)) : ∃ a b, l = a :: b :: r ∧ n = 16 * hexI a + hexI b ∧ ¬ hexI a < 0 ∧ ¬ hexI b < 0 := by
  have e1 : hexN 1 l = (match hexSt l with
      | .error e => .error e
      | .ok (d, r') => .ok (16 * 0 + d, r')) := rfl
  have e2 : hexN 2 l = (match hexN 1 l with
      | .error e => .error e
      | .ok (n, r) => match hexSt r with
        | .error e => .error e
        | .ok (d, r') => .ok (16 * n + d, r')) := rfl
  rw [e2, e1] at h
  cases h1 : hexSt l with
  | error k => rw [h1] at h; cases h
  | ok p =>
    obtain ⟨d, r'⟩ := p
    rw [h1] at h
    simp only at h
    cases h2 : hexSt r' with
    | error k => rw [h2] at h; cases h
    | ok q =>
      obtain ⟨d2, r2⟩ := q
      rw [h2] at h
      simp only [Except.ok.injEq, Prod.mk.injEq] at h
      obtain ⟨a, rfl, ha, ha2⟩ := hexSt_ok h1
      obtain ⟨b, rfl, hb, hb2⟩ := hexSt_ok h2
      exact ⟨a, b, by rw [h.2], by rw [← h.1, ha, hb]; omega, ha2, hb2⟩
theorem esc_34' : esc 34 = [92, 34] := rfl
theorem escM_text {l r : List UInt8} {b : UInt8} (h : escM l = .ok (b, r)) : esc b ++ r = 92 :: l := by
  unfold escM at h
  by_cases h1 : takeB 34 l = true
  · rw [if_pos h1] at h
    obtain ⟨t, rfl⟩ := (takeB_iff _ _).1 h1
    injection h with h; injection h with e1 e2; subst e1 e2; rfl
  · rw [if_neg h1] at h
    by_cases h2 : takeB 92 l = true
    · rw [if_pos h2] at h
      obtain ⟨t, rfl⟩ := (takeB_iff _ _).1 h2
      injection h with h; injection h with e1 e2; subst e1 e2; rfl
    · rw [if_neg h2] at h
      by_cases h3 : takeB 110 l = true
      · rw [if_pos h3] at h
        obtain ⟨t, rfl⟩ := (takeB_iff _ _).1 h3
        injection h with h; injection h with e1 e2; subst e1 e2; rfl
      · rw [if_neg h3] at h
        by_cases h4 : takeB 120 l = true
        · rw [if_pos h4] at h
          obtain ⟨t, rfl⟩ := (takeB_iff _ _).1 h4
          rw [List.tail_cons] at h
          cases hx2 : hexN 2 t with
          | error k => rw [hx2] at h; cases h
          | ok p =>
            obtain ⟨n, r'⟩ := p
            rw [hx2] at h
            simp only at h
            cases hb : badEsc n with
            | true => rw [hb] at h; simp at h
            | false =>
              rw [hb] at h
              simp only [Bool.false_eq_true, if_false, Except.ok.injEq, Prod.mk.injEq] at h
              obtain ⟨e1, e2⟩ := h
              obtain ⟨a, c, rfl, hn, ha, hc⟩ := hexN_two hx2
              have la := hexI_lt a; have lc := hexI_lt c
              have hbt : b.toNat = n.toNat := by
                have := byte_of (m := n) (by omega) (by omega)
                rw [← e1]; omega
              unfold badEsc at hb
              simp only [Bool.or_eq_false_iff, Bool.and_eq_false_iff, beq_eq_false_iff_ne, bne_eq_false_iff_eq, decide_eq_false_iff_not] at hb
              have hctl : ctl b = true := by
                rw [ctl_iff]
                rcases hb.2 with h | h
                · have : decide ((b.toNat : Int) < 32) = true := by simp; omega
                  rw [this]; rfl
                · have : ((b.toNat : Int) == 127) = true := by simp; omega
                  rw [this, Bool.or_true]
              have b10 : (b == 10) = false := by
                have := u8_bne (c := b) (n := 10) (by have := hb.1; omega) (by decide)
                exact this
              have b34 : (b == 34) = false := u8_bne (c := b) (n := 34) (by rcases hb.2 with h | h <;> omega) (by decide)
              have b92 : (b == 92) = false := u8_bne (c := b) (n := 92) (by rcases hb.2 with h | h <;> omega) (by decide)
              have ea : hx (b.toNat / 16) = a := by
                rw [hbt, show n.toNat / 16 = (hexI a).toNat by omega]; exact hx_hexI a ha
              have ec : hx (b.toNat % 16) = c := by
                rw [hbt, show n.toNat % 16 = (hexI c).toNat by omega]; exact hx_hexI c hc
              unfold esc
              rw [b10, b34, b92, hctl, ea, ec, ← e2]
              rfl
        · rw [if_neg h4] at h; cases h
theorem strF_text : ∀ {n : Nat} {l d r : List UInt8}, strF n l = .ok (d, r) → escL d ++ 34 :: r = l := by
  intro n
  induction n with
  | zero => intro l d r h; cases h
  | succ n ih =>
    intro l d r h
    cases l with
    | nil => cases h
    | cons c t =>
      unfold strF at h
      simp only at h
      by_cases h34 : c = 34
      · rw [if_pos h34] at h
        injection h with h; injection h with e1 e2; subst e1 e2 h34; rfl
      · rw [if_neg h34] at h
        cases hc : ctl c with
        | true => rw [hc] at h; simp at h
        | false =>
          rw [hc] at h
          simp only [Bool.false_eq_true, if_false] at h
          by_cases h92 : c = 92
          · rw [if_pos h92] at h
            cases he : escM t with
            | error k => rw [he] at h; cases h
            | ok p =>
              obtain ⟨b, r2⟩ := p
              rw [he] at h
              simp only at h
              cases hs : strF n r2 with
              | error k => rw [hs] at h; cases h
              | ok q =>
                obtain ⟨d2, r3⟩ := q
                rw [hs] at h
                simp only [Except.ok.injEq, Prod.mk.injEq] at h
                obtain ⟨rfl, rfl⟩ := h
                have i := ih hs
                have e := escM_text he
                show esc b ++ escL d2 ++ 34 :: r3 = c :: t
                rw [List.append_assoc, i, e, h92]
          · rw [if_neg h92] at h
            cases hs : strF n t with
            | error k => rw [hs] at h; cases h
            | ok q =>
              obtain ⟨d2, r3⟩ := q
              rw [hs] at h
              simp only [Except.ok.injEq, Prod.mk.injEq] at h
              obtain ⟨rfl, rfl⟩ := h
              have i := ih hs
              have e : esc c = [c] := by
                have b10 : (c == 10) = false := by
                  by_cases h : c = 10
                  · subst h; exact absurd hc (by decide)
                  · simpa using h
                have b34 : (c == 34) = false := by simpa using h34
                have b92 : (c == 92) = false := by simpa using h92
                unfold esc; rw [b10, b34, b92, hc]; rfl
              show esc c ++ escL d2 ++ 34 :: r3 = c :: t
              rw [List.append_assoc, i, e]; rfl
theorem quoted_text {l d r : List UInt8} (h : quotedM l = .ok (d, r)) : quoteL d ++ r = l := by
  unfold quotedM at h
  by_cases h1 : takeB 34 l = true
  · rw [if_pos h1] at h
    obtain ⟨t, rfl⟩ := (takeB_iff _ _).1 h1
    have := strF_text h
    rw [List.tail_cons] at this
    unfold quoteL
    rw [← this]; simp
  · rw [if_neg h1] at h; cases h
theorem data_mkB (d : List UInt8) : (mkB d).data.toList = d := by simp [mkB]
theorem attrsF_text : ∀ {n : Nat} {l r : List UInt8} {as_ : List At}, attrsF n l = .ok (as_, r) → ∃ a m, as_ = a :: m ∧ bodyP a ++ (m.flatMap (pieceP 44) ++ 125 :: r) = l := by
  intro n
  induction n with
  | zero => intro l r as_ h; cases h
  | succ n ih =>
    intro l r as_ h
    unfold attrsF at h
    cases hk : runM isKey l with
    | error k => rw [hk] at h; cases h
    | ok p =>
      obtain ⟨key, r1⟩ := p
      rw [hk] at h
      simp only at h
      obtain ⟨k1, k2, k3⟩ := runM_ok hk
      by_cases t1 : takeB 58 r1 = true
      · rw [if_pos t1] at h
        obtain ⟨r1, rfl⟩ := (takeB_iff _ _).1 t1
        rw [List.tail_cons] at h
        cases hq : quotedM r1 with
        | error k => rw [hq] at h; cases h
        | ok q =>
          obtain ⟨v, r2⟩ := q
          rw [hq] at h
          simp only at h
          have hqt := quoted_text hq
          by_cases t2 : takeB 125 r2 = true
          · rw [if_pos t2] at h
            obtain ⟨r2, rfl⟩ := (takeB_iff _ _).1 t2
            rw [List.tail_cons] at h
            injection h with h; injection h with e1 e2
            subst e1 e2
            refine ⟨_, [], rfl, ?_⟩
            unfold bodyP
            simp only [data_mkB, List.flatMap_nil, List.nil_append]
            rw [← k3, ← hqt]; simp
          · rw [if_neg t2] at h
            by_cases t3 : takeB 44 r2 = true
            · rw [if_pos t3] at h
              obtain ⟨r2, rfl⟩ := (takeB_iff _ _).1 t3
              rw [List.tail_cons] at h
              cases hm : attrsF n r2 with
              | error k => rw [hm] at h; cases h
              | ok x =>
                obtain ⟨more, r3⟩ := x
                rw [hm] at h
                simp only [Except.ok.injEq, Prod.mk.injEq] at h
                obtain ⟨rfl, rfl⟩ := h
                obtain ⟨b, m, rfl, hb⟩ := ih hm
                refine ⟨_, b :: m, rfl, ?_⟩
                have e : (b :: m).flatMap (pieceP 44) ++ 125 :: r3 = 44 :: (bodyP b ++ (m.flatMap (pieceP 44) ++ 125 :: r3)) := by simp [pieceP, bodyP]
                rw [e, hb]
                unfold bodyP
                simp only [data_mkB]
                rw [← k3, ← hqt]; simp
            · rw [if_neg t3] at h; cases h
      · rw [if_neg t1] at h; cases h
theorem attrs_text {l r : List UInt8} {as_ : List At} (h : attrsM l = .ok (as_, r)) : attrsP as_ ++ r = l := by
  unfold attrsM at h
  by_cases t : takeB 123 l = true
  · rw [if_pos t] at h
    obtain ⟨l, rfl⟩ := (takeB_iff _ _).1 t
    obtain ⟨a, m, rfl, hb⟩ := attrsF_text h
    rw [List.tail_cons] at hb
    unfold attrsP attrsB
    rw [if_neg (by simp), ← hb]
    simp [pieceP, bodyP]
  · rw [if_neg t] at h
    injection h with h; injection h with e1 e2
    subst e1 e2; rfl
theorem op_text {l r : List UInt8} {o : OpM} (h : opM l = .ok (o, r)) : opP o ++ r = l := by
  unfold opM at h
  by_cases t1 : takeB 32 l = true
  · rw [if_pos t1] at h
    obtain ⟨l, rfl⟩ := (takeB_iff _ _).1 t1
    rw [List.tail_cons] at h
    by_cases t2 : takeB 61 l = true
    · rw [if_pos t2] at h
      obtain ⟨l, rfl⟩ := (takeB_iff _ _).1 t2
      rw [List.tail_cons] at h
      unfold opKeep at h
      cases hn : numberM l with
      | error k => rw [hn] at h; cases h
      | ok p =>
        obtain ⟨n, r1⟩ := p
        rw [hn] at h
        simp only at h
        cases ha : attrsM r1 with
        | error k => rw [ha] at h; cases h
        | ok q =>
          obtain ⟨as_, r2⟩ := q
          rw [ha] at h
          simp only [Except.ok.injEq, Prod.mk.injEq] at h
          obtain ⟨rfl, rfl⟩ := h
          have e1 := (number_text hn).1
          have e2 := attrs_text ha
          rw [← e1, ← e2]; simp [opP, kindP]
    · rw [if_neg t2] at h
      by_cases t3 : takeB 43 l = true
      · rw [if_pos t3] at h
        obtain ⟨l, rfl⟩ := (takeB_iff _ _).1 t3
        rw [List.tail_cons] at h
        unfold opIns at h
        cases hn : quotedM l with
        | error k => rw [hn] at h; cases h
        | ok p =>
          obtain ⟨n, r1⟩ := p
          rw [hn] at h
          simp only at h
          cases ha : attrsM r1 with
          | error k => rw [ha] at h; cases h
          | ok q =>
            obtain ⟨as_, r2⟩ := q
            rw [ha] at h
            simp only [Except.ok.injEq, Prod.mk.injEq] at h
            obtain ⟨rfl, rfl⟩ := h
            have e1 := quoted_text hn
            have e2 := attrs_text ha
            rw [← e1, ← e2]; simp [opP, kindP, data_mkB]
      · rw [if_neg t3] at h
        by_cases t4 : takeB 45 l = true
        · rw [if_pos t4] at h
          obtain ⟨l, rfl⟩ := (takeB_iff _ _).1 t4
          rw [List.tail_cons] at h
          unfold opDel at h
          cases hn : numberM l with
          | error k => rw [hn] at h; cases h
          | ok p =>
            obtain ⟨n, r1⟩ := p
            rw [hn] at h
            simp only [Except.ok.injEq, Prod.mk.injEq] at h
            obtain ⟨rfl, rfl⟩ := h
            have e1 := (number_text hn).1
            rw [← e1]; simp [opP, kindP, attrsP]
        · rw [if_neg t4] at h; cases h
  · rw [if_neg t1] at h; cases h
theorem ops_text : ∀ {n : Nat} {l : List UInt8} {ops : List OpM}, opsF n l = .ok ops → ops.flatMap opP = l := by
  intro n
  induction n with
  | zero => intro l ops h; cases h
  | succ n ih =>
    intro l ops h
    unfold opsF at h
    by_cases hl : l = []
    · rw [if_pos hl] at h
      injection h with h; subst h hl; rfl
    · rw [if_neg hl] at h
      cases ho : opM l with
      | error k => rw [ho] at h; cases h
      | ok p =>
        obtain ⟨o, r⟩ := p
        rw [ho] at h
        simp only at h
        cases hs : opsF n r with
        | error k => rw [hs] at h; cases h
        | ok os =>
          rw [hs] at h
          simp only [Except.ok.injEq] at h
          subst h
          rw [List.flatMap_cons, ih hs, op_text ho]
theorem raw_text {l : List UInt8} {f : Int} {ops : List OpM} (h : rawM l = .ok (f, ops)) : printM f ops = l := by
  unfold rawM at h
  cases hn : numberM l with
  | error k => rw [hn] at h; cases h
  | ok p =>
    obtain ⟨n, r⟩ := p
    rw [hn] at h
    simp only at h
    cases hs : opsF (r.length + 1) r with
    | error k => rw [hs] at h; cases h
    | ok os =>
      rw [hs] at h
      simp only [Except.ok.injEq, Prod.mk.injEq] at h
      obtain ⟨rfl, rfl⟩ := h
      unfold printM
      rw [ops_text hs, (number_text hn).1]

/-! ### The laws -/
theorem tx_norm {f : Int} {ops : List OpM} (h : toE f ops = 0) : ∀ o ∈ normM ops, TxOk o := by
  intro o ho
  have h1 := (toE_iff f _).1 (normM_ok h).right
  have h2 := h1.2.2.1 o ho
  have h3 := (normM_len h).2 o ho
  exact ⟨h2.sh, by omega, keys_change h2.attrs⟩
theorem raw_norm {f : Int} {ops : List OpM} (h : toE f ops = 0) : rawM (printM f (normM ops)) = .ok (f, normM ops) := by
  have h1 := (toE_fold h).1
  exact raw_back h1.1 (by omega) (tx_norm h)
/-- what was printed is read as the normal form -/
theorem parse_print {f : Int} {ops : List OpM} (h : printE f ops = 0) : toE f ops = 0 ∧ parseM (printS f ops) = .ok (f, normM ops) := by
  have h1 : toE f ops = 0 := by
    unfold printE at h
    by_cases h1 : toE f ops = 0
    · exact h1
    · rw [if_pos h1] at h; exact absurd h h1
  refine ⟨h1, ?_⟩
  have h2 : ¬ 262144 < (printM f (normM ops)).length := by
    intro e
    unfold printE at h
    rw [if_neg (by rw [h1]; simp), if_pos e] at h
    omega
  have e : printS f ops = mkB (printM f (normM ops)) := by unfold printS mkB; rw [if_pos h]
  rw [e]
  unfold parseM
  rw [if_neg (by rw [show (mkB (printM f (normM ops))).size = _ from sz_mk _]; exact h2), data_mkB, raw_norm h1]
  simp only
  rw [if_neg (by rw [(normM_ok h1).right]; simp), if_neg (by rw [isM_norm h1]; simp)]
/-- what is read is printed as it stood -/
theorem print_parse {s : ByteArray} {f : Int} {ops : List OpM} (h : parseM s = .ok (f, ops)) : toE f ops = 0 ∧ isM f ops = true ∧ normM ops = ops ∧ printE f ops = 0 ∧ printS f ops = s := by
  unfold parseM at h
  by_cases hs : 262144 < s.size
  · rw [if_pos hs] at h; cases h
  · rw [if_neg hs] at h
    cases hr : rawM s.data.toList with
    | error k => rw [hr] at h; cases h
    | ok p =>
      obtain ⟨g, l⟩ := p
      rw [hr] at h
      simp only at h
      by_cases he : toE g l = 0
      · rw [if_neg (by rw [he]; simp)] at h
        cases hi : isM g l with
        | false => rw [hi] at h; simp at h
        | true =>
          rw [hi] at h
          simp only [Bool.true_eq_false, if_false, Except.ok.injEq, Prod.mk.injEq] at h
          obtain ⟨rfl, rfl⟩ := h
          have hn : normM l = l := by
            unfold isM at hi
            rw [Bool.and_eq_true] at hi
            exact ((sameOL_iff _ _).1 hi.2).symm
          have ht := raw_text hr
          have hp : printE g l = 0 := by
            unfold printE
            rw [if_neg (by rw [he]; simp), hn, ht, len_data, if_neg hs]
          refine ⟨he, hi, hn, hp, ?_⟩
          unfold printS
          rw [if_pos hp, hn, ht]
      · rw [if_pos he] at h; cases h
/-- two changesets have one text just if they have one normal form -/
theorem print_same {f g : Int} {a b : List OpM} (ha : printE f a = 0) (hb : printE g b = 0) : printS f a = printS g b ↔ f = g ∧ normM a = normM b := by
  obtain ⟨a1, a2⟩ := parse_print ha
  obtain ⟨b1, b2⟩ := parse_print hb
  constructor
  · intro e
    rw [e, b2] at a2
    injection a2 with a2
    injection a2 with e1 e2
    exact ⟨e1.symm, e2.symm⟩
  · rintro ⟨rfl, e⟩
    unfold printS
    rw [if_pos ha, if_pos hb, e]
end Go.Proofs.YtdpmjlkmjmookaaGreatDoor
