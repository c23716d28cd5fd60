/-
  Package spell: number, walked; the two closures that tell a digit and a byte of a key.
-/
import Derived.Test.YtdpmjlkmjmookaaGreatDoorRun
import Derived.Lib.SmallJoins
namespace Go.Proofs.YtdpmjlkmjmookaaGreatDoor
set_option linter.unusedVariables false
set_option linter.unusedSimpArgs false
open Go.RowKit Go.PlainAid

def isDig (u : UInt8) : Bool := decide (48 ≤ u.toNat) && decide (u.toNat ≤ 57)
def isKey (u : UInt8) : Bool := (decide (97 ≤ u.toNat) && decide (u.toNat ≤ 122)) || (decide (65 ≤ u.toNat) && decide (u.toNat ≤ 90)) || (decide (48 ≤ u.toNat) && decide (u.toNat ≤ 57)) || decide (u.toNat = 45) || decide (u.toNat = 95)
theorem digit_any (u : UInt8) (w : World) :
    Calls Tryz.prog 164 #[.int .u8 u.toNat] w fun e w' => e = .returned (.bool (isDig u)) ∧ w' = w := by
  by_cases h : 48 ≤ u.toNat
  all_goals
    go_enter Tryz.func164, Tryz.ntmps164
    go_wp2
    go_ret
    exact ⟨by simp [isDig, h]; try omega, rfl⟩
set_option maxHeartbeats 2000000 in
theorem keyByte_any (u : UInt8) (w : World) :
    Calls Tryz.prog 206 #[.int .u8 u.toNat] w fun e w' => e = .returned (.bool (isKey u)) ∧ w' = w := by
  have f7 : ((u.toNat : Int) == 45) = decide (u.toNat = 45) := by
    by_cases h : u.toNat = 45
    · simp [h]
    · simp [h]; omega
  have f8 : ((u.toNat : Int) == 95) = decide (u.toNat = 95) := by
    by_cases h : u.toNat = 95
    · simp [h]
    · simp [h]; omega
  by_cases a1 : 97 ≤ u.toNat <;> by_cases a2 : u.toNat ≤ 122 <;> by_cases a3 : 65 ≤ u.toNat <;> by_cases a4 : u.toNat ≤ 90 <;> by_cases a5 : 48 ≤ u.toNat <;> by_cases a6 : u.toNat ≤ 57 <;> by_cases a7 : u.toNat = 45 <;> by_cases a8 : u.toNat = 95 <;> first | omega | skip
  all_goals
    have hk : ∃ b, isKey u = b := ⟨_, rfl⟩
    obtain ⟨b, hb⟩ := hk
    have HB := Lib.hid hb
    simp only [isKey, a1, a2, a3, a4, a5, a6, a7, a8, decide_true, decide_false, Bool.true_and, Bool.false_and, Bool.and_true, Bool.and_false, Bool.or_true, Bool.or_false, Bool.true_or, Bool.false_or] at hb
    subst hb
    rw [HB.out]
    clear HB
    simp only [a7, a8, decide_true, decide_false] at f7 f8
    have b1 : decide ((97 : Int) ≤ (u.toNat : Int)) = decide (97 ≤ u.toNat) := by simp; omega
    have b2 : decide ((u.toNat : Int) ≤ 122) = decide (u.toNat ≤ 122) := by simp; omega
    have b3 : decide ((65 : Int) ≤ (u.toNat : Int)) = decide (65 ≤ u.toNat) := by simp; omega
    have b4 : decide ((u.toNat : Int) ≤ 90) = decide (u.toNat ≤ 90) := by simp; omega
    have b5 : decide ((48 : Int) ≤ (u.toNat : Int)) = decide (48 ≤ u.toNat) := by simp; omega
    have b6 : decide ((u.toNat : Int) ≤ 57) = decide (u.toNat ≤ 57) := by simp; omega
    simp only [a1, a2, a3, a4, a5, a6, decide_true, decide_false] at b1 b2 b3 b4 b5 b6
    have HA7 := Lib.hid a7; have HA8 := Lib.hid a8
    clear a7 a8
    go_enter Tryz.func206, Tryz.ntmps206
    go_wp2
    all_goals
     go_ret
     exact ⟨by first | rfl | (simp [b1, b2, b3, b4, b5, b6, f7, f8]; done) | (simp [b1, b2, b3, b4, b5, b6, f7, f8]; have := HA7.out; have := HA8.out; omega), rfl⟩
theorem entDig : ∀ args w, (callFunc 164 args).run Tryz.prog w = .ok (.enter 164 args) w := enters_of Tryz.func164 (by kernel_rfl) rfl
theorem entKey : ∀ args w, (callFunc 206 args).run Tryz.prog w = .ok (.enter 206 args) w := enters_of Tryz.func206 (by kernel_rfl) rfl

/-! ### number -/
def decN (acc : Nat) (d : List UInt8) : Nat := d.foldl (fun a c => a * 10 + (c.toNat - 48)) acc
theorem parse_dec (d : List UInt8) : ∀ (acc k : Nat), acc < 10 ^ k → k + d.length ≤ 18 → d.all isDig = true → Lib.parseUint10 acc d = .ok (decN acc d) ∧ decN acc d < 10 ^ (k + d.length) := by
  induction d with
  | nil => intro acc k h _ _; simp [Lib.parseUint10, decN]; exact h
  | cons c d ih =>
    intro acc k h hk ha
    simp only [List.all_cons, Bool.and_eq_true, isDig, decide_eq_true_eq] at ha
    simp only [List.length_cons] at hk
    have hp : 10 ^ (k + 1) ≤ 10 ^ 18 := Nat.pow_le_pow_right (by decide) (by omega)
    have hp2 : 10 ^ (k + 1) = 10 ^ k * 10 := Nat.pow_succ 10 k
    have h18 : (10 : Nat) ^ 18 = 1000000000000000000 := by decide
    have h1 : acc * 10 + (c.toNat - 48) < 10 ^ (k + 1) := by omega
    obtain ⟨i1, i2⟩ := ih _ (k + 1) h1 (by omega) (by simp only [List.all_eq_true, isDig, Bool.and_eq_true, decide_eq_true_eq]; exact ha.2 |> fun x => by simpa [isDig] using x)
    refine ⟨?_, ?_⟩
    · simp only [Lib.parseUint10]
      rw [if_pos ha.1, if_neg (by omega), if_neg (by omega), i1]; rfl
    · have : k + (c :: d).length = k + 1 + d.length := by simp; omega
      rw [this]; exact i2
def decV (d : List UInt8) : Int := (decN 0 d : Int)
theorem atoi_dec {d : List UInt8} (h0 : d ≠ []) (h1 : d.length ≤ 18) (ha : d.all isDig = true) : Lib.atoiAll d = .ok (decV d) := by
  obtain ⟨p1, p2⟩ := parse_dec d 0 0 (by decide) (by omega) ha
  cases d with
  | nil => exact absurd rfl h0
  | cons c r =>
    simp only [List.all_cons, Bool.and_eq_true, isDig, decide_eq_true_eq] at ha
    have hlt : decN 0 (c :: r) < 10 ^ 18 := Nat.lt_of_lt_of_le p2 (Nat.pow_le_pow_right (by decide) (by omega))
    have h18 : (10 : Nat) ^ 18 = 1000000000000000000 := by decide
    unfold Lib.atoiAll
    simp only
    rw [if_neg (by omega)]
    unfold Lib.parseMag
    rw [if_neg h0, p1]
    simp only
    rw [if_neg (by omega), if_neg (by omega), if_neg (by omega)]; rfl
def badNum (d : List UInt8) : Bool := decide (18 < d.length) || (d.head? == some 48 && decide (1 < d.length))
def numberM (l : List UInt8) : Except Nat (Int × List UInt8) := match runM isDig l with
  | .error k => .error k
  | .ok (d, r) => if badNum d then .error l.length else .ok (decV d, r)
def intV (n : Int) : Value := .int .i64 n
theorem RdPost.mono {α : Type} {g : Nat} {s : ByteArray} {enc : α → Value} {r : Except Nat (α × List UInt8)} {w0 w : World} (hb : KpG g w0 w) {e : Ending} {w' : World} (h : RdPost g s enc r w e w') : RdPost g s enc r w0 e w' := by
  unfold RdPost at *
  cases r with
  | ok p => exact ⟨h.1, h.2.1, hb.trans h.2.2⟩
  | error k => exact ⟨h.1, hb.trans h.2⟩
theorem runM_ok {p : UInt8 → Bool} {l d r : List UInt8} (h : runM p l = .ok (d, r)) : d ≠ [] ∧ d.all p = true ∧ d ++ r = l := by
  unfold runM at h
  split at h
  · cases h
  · rename_i hne
    injection h with h
    injection h with h1 h2
    subst h1 h2
    exact ⟨hne, List.all_takeWhile, List.takeWhile_append_dropWhile⟩

set_option maxHeartbeats 2000000 in
theorem number_any (g : Nat) (s : ByteArray) (l : List UInt8) (w : World) (hx : Txt g s l w) (hs : s.size ≤ 1099511627776) :
    Calls Tryz.prog 124 #[.pointer (some ⟨g, 0, none⟩)] w (RdPost g s intV (numberM l) w) := by
  obtain ⟨a, h1, hl, h3⟩ := hx
  obtain ⟨c0, c1⟩ := box2 h3
  have hx : Txt g s l w := ⟨a, h1, hl, h3⟩
  have HX := Lib.hid hx; clear hx
  have hll : l.length = s.size - a := by rw [hl, drop_len]
  have HL := Lib.hid hl; clear hl
  go_enter Tryz.func124, Tryz.ntmps124
  go_wp2_with fail
  refine (run_any isDig _ digit_any entDig g s l _ HX.out hs).mono ?_
  intro e w1 hpost
  cases hr : runM isDig l with
  | error k =>
    have hN : numberM l = .error k := by unfold numberM; rw [hr]
    unfold RdPost at hpost
    rw [hr] at hpost
    obtain ⟨rfl, hk⟩ := hpost
    unfold wrongE
    refine ⟨rfl, ?_⟩
    unfold RdPost; rw [hN]; exact ⟨rfl, hk⟩
  | ok p =>
    obtain ⟨d, r⟩ := p
    obtain ⟨q1, q2, q3⟩ := runM_ok hr
    unfold RdPost at hpost
    rw [hr] at hpost
    obtain ⟨rfl, ht, hk⟩ := hpost
    have HK := Lib.hid hk
    have HT := Lib.hid ht
    clear hk ht
    have hN : numberM l = if badNum d then .error l.length else .ok (decV d, r) := by unfold numberM; rw [hr]
    have hdl : d.length ≤ s.size := by have := congrArg List.length q3; rw [List.length_append] at this; omega
    obtain ⟨D, hD⟩ : ∃ D : ByteArray, (⟨d.toArray⟩ : ByteArray) = D := ⟨_, rfl⟩
    have hDs : D.size = d.length := by rw [← hD]; exact sz_mk d
    have hDd : D.data.toList = d := by rw [← hD]
    have hpos : 0 < D.size := by rw [hDs]; exact List.length_pos_iff.2 q1
    unfold strV; rw [hD]
    have hhd : d.head? = some (D[0]'hpos) := by
      have := drop_cons D 0 hpos
      rw [List.drop_zero, hDd] at this
      rw [this]; rfl
    by_cases hb18 : 18 < D.size
    · have hb : badNum d = true := by unfold badNum; rw [← hDs]; simp [hb18]
      rw [hb] at hN
      have HN := Lib.hid hN; clear hN hD
      have hd : decide ((18 : Int) < (D.size : Int)) = true := by simp; omega
      go_wp2_with fail
      refine ⟨rfl, ?_⟩
      unfold RdPost; rw [HN.out]
      simp only [if_true]
      refine ⟨?_, HK.out⟩
      unfold wrongE; rw [hll, show (s.size : Int) - ((s.size - a : Nat) : Int) = (a : Int) by omega]
    · have hd : decide ((18 : Int) < (D.size : Int)) = false := by simp; omega
      have hat := Lib.hid (atoi_dec q1 (by omega) q2)
      by_cases h48 : (D[0]'hpos).toNat = 48
      case' neg =>
        have hb : badNum d = false := by
          unfold badNum; rw [hhd, ← hDs]
          have : (D[0]'hpos == (48 : UInt8)) = false := u8_bne (n := 48) h48 (by decide)
          simp [this]; omega
        have e48 : (((D[0]'hpos).toNat : Int) == 48) = false := by simp; omega
      case' pos =>
        have e48 : (((D[0]'hpos).toNat : Int)) = 48 := by omega
        by_cases h1b : 1 < D.size
        case' neg =>
          have hb : badNum d = false := by
            unfold badNum; rw [← hDs]
            simp; omega
          have d1 : decide ((1 : Int) < (D.size : Int)) = false := by simp; omega
        case' pos =>
          have hb : badNum d = true := by
            unfold badNum; rw [hhd, ← hDs, u8_of h48 (by decide)]
            simp [h1b]
          have d1 : decide ((1 : Int) < (D.size : Int)) = true := by simp; omega
          rw [hb] at hN
          have HN := Lib.hid hN; clear hN hD
          go_wp2_with fail
          refine ⟨rfl, ?_⟩
          unfold RdPost; rw [HN.out]
          simp only [if_true]
          refine ⟨?_, HK.out⟩
          unfold wrongE; rw [hll, show (s.size : Int) - ((s.size - a : Nat) : Int) = (a : Int) by omega]
      all_goals
        rw [hb] at hN
        have HN := Lib.hid hN; clear hN hD hb
        have HDD := Lib.hid hDd; clear hDd
        go_wp2_with fail
        refine (Tryz.strconv_Atoi_ok D (by omega) (decV d) (by rw [HDD.out]; exact hat.out) w1).mono ?_
        rintro e w2 ⟨rfl, hw2⟩
        have hb2 : Below w1.heap.size w1 w2 := by
          rcases hw2 with rfl | ⟨t, rfl⟩
          · exact Below.refl _ _
          · exact Joins.below_bytesWorld _ _ _ _ (Nat.le_refl _)
        clear hw2
        go_wp2
        go_ret
        unfold RdPost; rw [HN.out]
        exact ⟨rfl, HT.out.pure hb2, HK.out.trans (KpG.pure hb2)⟩
end Go.Proofs.YtdpmjlkmjmookaaGreatDoor
