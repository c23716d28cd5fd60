/-
  Package spell: the reader's small steps (see, take, must, run), walked.
  Package spell: run (a row of bytes of one kind), walked, and the two kinds of bytes.
  Package spell: number, walked; the two closures that tell a digit and a byte of a key.
  Package spell: what stands behind a backslash (escaped), walked.
-/
import Derived.Test.YtdpmjlkmjmookaaGreatDoorPrint
import Derived.Lib.SmallJoins
namespace Go.Proofs.YtdpmjlkmjmookaaGreatDoor
section
set_option linter.unusedVariables false
set_option linter.unusedSimpArgs false
open Go.RowKit Go.PlainAid

/-! ### What is left to read -/
/-- the reader in block g stands over s, and l is left -/
def Txt (g : Nat) (s : ByteArray) (l : List UInt8) (w : World) : Prop :=
  ∃ at_ : Nat, at_ ≤ s.size ∧ l = s.data.toList.drop at_ ∧ w.heap[g]? = some (.cells #[.string s, .int .i64 at_] 115 (0, 0))
theorem Txt.pure {g : Nat} {s : ByteArray} {l : List UInt8} {w w' : World} (h : Txt g s l w) (hb : Below w.heap.size w w') : Txt g s l w' := by
  obtain ⟨a, h1, h2, h3⟩ := h
  exact ⟨a, h1, h2, (hb.block _ (heap_lt h3)).trans h3⟩
theorem Txt.lt {g : Nat} {s : ByteArray} {l : List UInt8} {w : World} (h : Txt g s l w) : g < w.heap.size := by
  obtain ⟨a, h1, h2, h3⟩ := h; exact heap_lt h3
theorem drop_len (s : ByteArray) (a : Nat) : (s.data.toList.drop a).length = s.size - a := by rw [List.length_drop, len_data]
theorem drop_cons (s : ByteArray) (a : Nat) (h : a < s.size) : s.data.toList.drop a = s[a]'h :: s.data.toList.drop (a + 1) := by
  rw [List.drop_eq_getElem_cons (by rw [len_data]; exact h)]; rfl
theorem drop_end (s : ByteArray) (a : Nat) (h : s.size ≤ a) : s.data.toList.drop a = [] := List.drop_eq_nil_of_le (by rw [len_data]; exact h)

theorem wrap_u8 (c : UInt8) : wrap64 (c.toNat : Int) = (c.toNat : Int) := by have := c.toNat_lt; unfold wrap64; omega
def seeM : List UInt8 → Int
  | [] => -1
  | c :: _ => c.toNat
def takeB (c : UInt8) : List UInt8 → Bool
  | [] => false
  | b :: _ => b == c

set_option maxHeartbeats 1000000 in
theorem see_any (g : Nat) (s : ByteArray) (l : List UInt8) (w : World) (hh : Txt g s l w) (hs : s.size ≤ 1099511627776) :
    Calls Tryz.prog 132 #[.pointer (some ⟨g, 0, none⟩)] w fun e w' => e = .returned (.int .i64 (seeM l)) ∧ Below w.heap.size w w' := by
  obtain ⟨a, h1, rfl, h3⟩ := hh
  obtain ⟨c0, c1⟩ := box2 h3
  by_cases hlt : a < s.size
  · have he : ((a : Int) == (s.size : Int)) = false := by simp; omega
    have hR := Lib.hid (show seeM (s.data.toList.drop a) = ((s[a]'hlt).toNat : Int) by rw [drop_cons s a hlt]; rfl)
    clear h3
    go_enter Tryz.func132, Tryz.ntmps132
    go_wp2_with fail
    go_quiet (fail)
    go_wp2_with fail
    go_quiet (fail)
    go_wp2
    go_ret
    exact ⟨ret_int ((wrap_u8 _).trans hR.out.symm), below_drewN (below_drewN (Below.refl _ w) _) _⟩
  · have he : ((a : Int) == (s.size : Int)) = true := by simp; omega
    have hR := Lib.hid (show seeM (s.data.toList.drop a) = -1 by rw [drop_end s a (by omega)]; rfl)
    clear h3
    go_enter Tryz.func132, Tryz.ntmps132
    go_wp2_with fail
    go_quiet (fail)
    go_wp2
    go_ret
    exact ⟨ret_int hR.out.symm, below_drewN (Below.refl _ w) _⟩

/-- what a step of the reader in block g turns -/
abbrev KpG (g : Nat) (w w' : World) : Prop := Kp (fun k => k = g) w w'
theorem KpG.pure {g : Nat} {w w' : World} (h : Below w.heap.size w w') : KpG g w w' := Kp.of_pure h

set_option maxHeartbeats 1000000 in
theorem take_any (c : UInt8) (g : Nat) (s : ByteArray) (l : List UInt8) (w : World) (hx : Txt g s l w) (hs : s.size ≤ 1099511627776) :
    Calls Tryz.prog 131 #[.pointer (some ⟨g, 0, none⟩), .int .u8 c.toNat] w fun e w' => e = .returned (.bool (takeB c l)) ∧ Txt g s (if takeB c l then l.tail else l) w' ∧ KpG g w w' := by
  cases ht : takeB c l with
  | false =>
    have hne : (seeM l != (c.toNat : Int)) = true := by
      cases l with
      | nil => simp [seeM]
      | cons b r =>
        simp only [takeB, beq_eq_false_iff_ne] at ht
        simp only [seeM, bne_iff_ne]
        intro e; exact ht (UInt8.toNat_inj.1 (by omega))
    clear ht
    have hw8 : wrap64 (c.toNat : Int) = (c.toNat : Int) := wrap_u8 c
    go_enter Tryz.func131, Tryz.ntmps131
    go_wp2_with fail
    refine (see_any g s l _ hx hs).mono ?_
    rintro e w1 ⟨rfl, b1⟩
    go_wp2
    go_ret
    exact ⟨rfl, by simpa using Txt.pure hx b1, KpG.pure b1⟩
  | true =>
    have hne : (seeM l != (c.toNat : Int)) = false := by
      cases l with
      | nil => simp [takeB] at ht
      | cons b r =>
        simp only [takeB, beq_iff_eq] at ht
        subst ht; simp [seeM]
    have hne2 : l ≠ [] := by rintro rfl; simp [takeB] at ht
    clear ht
    have hw8 : wrap64 (c.toNat : Int) = (c.toNat : Int) := wrap_u8 c
    go_enter Tryz.func131, Tryz.ntmps131
    go_wp2_with fail
    refine (see_any g s l _ hx hs).mono ?_
    rintro e w1 ⟨rfl, b1⟩
    obtain ⟨a, h1, rfl, h3⟩ := Txt.pure hx b1
    have hlt : a < s.size := by
      rcases Nat.lt_or_ge a s.size with h | h
      · exact h
      · exact absurd (drop_end s a h) hne2
    obtain ⟨c0, c1⟩ := box2 h3
    have f1 := froz_heap h3 1
    have hg := heap_lt h3
    have H3 := Lib.hid h3; clear h3
    go_wp2
    go_ret
    refine ⟨rfl, ⟨a + 1, hlt, ?_, ?_⟩, (KpG.pure b1).setCell (p := ⟨g, 1, none⟩) (.inl rfl) _⟩
    · simp
    · exact set_heap1 H3.out _

def wrongE (k : Nat) (s : ByteArray) : Ending := .panicked [{ v := .iface 160 (.int .i64 ((s.size : Int) - k)), recovered := false }]

set_option maxHeartbeats 1000000 in
theorem must_any (c : UInt8) (g : Nat) (s : ByteArray) (l : List UInt8) (w : World) (h : Txt g s l w) (hs : s.size ≤ 1099511627776) :
    Calls Tryz.prog 130 #[.pointer (some ⟨g, 0, none⟩), .int .u8 c.toNat] w fun e w' =>
      (takeB c l = true ∧ e = .returned (.tuple #[]) ∧ Txt g s l.tail w' ∧ KpG g w w') ∨ (takeB c l = false ∧ e = wrongE l.length s ∧ KpG g w w') := by
  go_enter Tryz.func130, Tryz.ntmps130
  go_wp2_with fail
  refine (take_any c g s l _ h hs).mono ?_
  rintro e w1 ⟨rfl, h1, k1⟩
  cases ht : takeB c l with
  | true =>
    rw [ht] at h1
    go_wp2
    go_end0
    exact .inl ⟨ht, rfl, by simpa using h1, k1⟩
  | false =>
    rw [ht] at h1
    obtain ⟨a, h1, h2, h3⟩ := (by simpa using h1 : Txt g s l w1)
    obtain ⟨c0, c1⟩ := box2 h3
    go_wp2_with fail
    subst h2
    refine ⟨rfl, Or.inr ⟨ht, ?_, k1⟩⟩
    unfold wrongE; rw [drop_len, show (s.size : Int) - ((s.size - a : Nat) : Int) = (a : Int) by omega]
end

section
set_option linter.unusedVariables false
set_option linter.unusedSimpArgs false
open Go.RowKit Go.PlainAid

theorem span_take {p : UInt8 → Bool} {l : List UInt8} {n : Nat} (h : (l.take n).all p = true) (hn : n ≤ l.length) (he : ∀ h : n < l.length, p l[n] = false) : l.takeWhile p = l.take n ∧ l.dropWhile p = l.drop n := by
  induction l generalizing n with
  | nil => simp
  | cons a l ih =>
    cases n with
    | zero =>
      have := he (by simp)
      simp at this
      simp [this]
    | succ n =>
      simp only [List.take_succ_cons, List.all_cons, Bool.and_eq_true] at h
      obtain ⟨i1, i2⟩ := ih h.2 (by simpa using hn) (fun hh => by have := he (by simpa using hh); simpa using this)
      simp [h.1, i1, i2]
theorem extract_is (s : ByteArray) (a j : Nat) (h : j ≤ s.size) : s.extract a j = ⟨((s.data.toList.drop a).take (j - a)).toArray⟩ := by
  apply ByteArray.ext
  rw [ByteArray.data_extract]
  apply Array.toList_inj.1
  rw [Array.toList_extract]
def runM (p : UInt8 → Bool) (l : List UInt8) : Except Nat (List UInt8 × List UInt8) := if l.takeWhile p = [] then .error l.length else .ok (l.takeWhile p, l.dropWhile p)
theorem runM_none {p : UInt8 → Bool} {l : List UInt8} (h : l.takeWhile p = []) : runM p l = .error l.length := by unfold runM; rw [if_pos h]
theorem runM_some {p : UInt8 → Bool} {l : List UInt8} (h : l.takeWhile p ≠ []) : runM p l = .ok (l.takeWhile p, l.dropWhile p) := by unfold runM; rw [if_neg h]
/-- what a reading step answers -/
def RdPost {α : Type} (g : Nat) (s : ByteArray) (enc : α → Value) (r : Except Nat (α × List UInt8)) (w : World) (e : Ending) (w' : World) : Prop :=
  match r with
  | .ok (x, l) => e = .returned (enc x) ∧ Txt g s l w' ∧ KpG g w w'
  | .error k => e = wrongE k s ∧ KpG g w w'
def strV (d : List UInt8) : Value := .string ⟨d.toArray⟩
def posOf (g : Nat) (w : World) : Nat := match w.cell? ⟨g, 1, none⟩ with
  | some v => (intOf v).toNat
  | none => 0
theorem posOf_is {g : Nat} {s : ByteArray} {j : Nat} {w : World} {t : TypeId} (h : w.heap[g]? = some (.cells #[.string s, .int .i64 j] t (0, 0))) : posOf g w = j := by
  unfold posOf; rw [(box2 h).2]; simp [intOf]

set_option maxHeartbeats 2000000 in
theorem run_any (p : UInt8 → Bool) (fid : Nat) (hp : ∀ (u : UInt8) (w : World), Calls Tryz.prog fid #[.int .u8 u.toNat] w fun e w' => e = .returned (.bool (p u)) ∧ w' = w)
    (hent : ∀ args w, (callFunc fid args).run Tryz.prog w = .ok (.enter fid args) w)
    (g : Nat) (s : ByteArray) (l : List UInt8) (w : World) (hx : Txt g s l w) (hs : s.size ≤ 1099511627776) :
    Calls Tryz.prog 163 #[.pointer (some ⟨g, 0, none⟩), .func (.func fid) #[] #[]] w (RdPost g s strV (runM p l) w) := by
  obtain ⟨a, h1, rfl, h3⟩ := hx
  have HP := Lib.hid hp; clear hp
  obtain ⟨c0, c1⟩ := box2 h3
  have hdl := drop_len s a
  go_enter Tryz.func163, Tryz.ntmps163
  go_wp2_with fail
  clear c0 c1
  go_loopw [] (fun wr => ∃ j : Nat, a ≤ j ∧ j ≤ s.size ∧ wr.heap[g]? = some (.cells #[.string s, .int .i64 j] 115 (0, 0)) ∧ ((s.data.toList.drop a).take (j - a)).all p = true ∧ KpG g w wr) (fun wr => s.size - posOf g wr)
  case atStart => exact ⟨a, by omega, h1, h3, by simp, Kp.refl _ _⟩
  case round =>
    obtain ⟨j, haj, hj, hg, hall, hk⟩ := hrel
    have HALL := Lib.hid hall; clear hall
    obtain ⟨c0, c1⟩ := box2 hg
    have f1 := froz_heap hg 1
    have hgl := heap_lt hg
    have HG := Lib.hid hg; clear hg
    by_cases hlt : j < s.size
    · have hd : decide ((j : Int) < (s.size : Int)) = true := by simp; omega
      have hjn : ((j : Int)).toNat = j := by omega
      have hjl : j - a < (s.data.toList.drop a).length := by omega
      have hel : (s.data.toList.drop a)[j - a] = s[j]'hlt := by
        rw [List.getElem_drop]; simp only [show a + (j - a) = j by omega]; rfl
      go_wp2_with fail
      by_cases hpj : p (s[j]'hlt) = true
      · have hall2 : ((s.data.toList.drop a).take (j + 1 - a)).all p = true := by
          rw [show j + 1 - a = (j - a) + 1 by omega, take_all_snoc p _ _ hjl, HALL.out, hel, hpj]; rfl
        have HA2 := Lib.hid hall2; clear hall2 hel
        have hn : (wr.setCell ⟨g, 1, none⟩ (.int .i64 ((j : Int) + 1))).heap[g]? = some (.cells #[.string s, .int .i64 ((j + 1 : Nat) : Int)] 115 (0, 0)) := set_heap1 HG.out _
        have HN := Lib.hid hn; clear hn
        go_quiet (exact Calls.quiet_of_same (HP.out _ _))
        simp only [hpj]
        go_wp2
        refine ⟨⟨j + 1, by omega, by omega, HN.out, HA2.out, (hk.drewN _).setCell (p := ⟨g, 1, none⟩) (.inl rfl) _⟩, ?_⟩
        rw [posOf_is HG.out, posOf_is (w := (wr.drewN nq).setCell ⟨g, 1, none⟩ (.int .i64 ((j : Int) + 1))) HN.out]; omega
      · have hpf : p (s[j]'hlt) = false := by simpa using hpj
        have hsp := span_take (p := p) HALL.out (by omega) (fun hh => by rw [hel]; exact hpf)
        have HSP := Lib.hid hsp; clear hsp hel
        go_quiet (exact Calls.quiet_of_same (HP.out _ _))
        simp only [hpf]
        by_cases hja : j = a
        · have hb : ((j : Int) == (a : Int)) = true := by simp; omega
          have hR := Lib.hid (runM_none (p := p) (by rw [HSP.out.1, hja]; simp))
          go_wp2_with fail
          refine ⟨rfl, ?_⟩
          unfold RdPost; rw [hR.out]
          refine ⟨?_, hk.drewN _⟩
          unfold wrongE; rw [hdl, show (s.size : Int) - ((s.size - a : Nat) : Int) = (a : Int) by omega]
        · have hb : ((j : Int) == (a : Int)) = false := by simp; omega
          have hR := Lib.hid (runM_some (p := p) (l := s.data.toList.drop a) (by rw [HSP.out.1]; intro e; have := congrArg List.length e; rw [List.length_take, hdl] at this; simp at this; omega))
          have e1 : (a : Int) ≤ (j : Int) := by omega
          go_wp2_with fail
          go_quiet (fail)
          go_wp2
          go_ret
          unfold RdPost; rw [hR.out, HSP.out.1, HSP.out.2]
          refine ⟨?_, ⟨j, hj, by rw [List.drop_drop]; congr 1; omega, HG.out⟩, (hk.drewN _).drewN _⟩
          unfold strV; rw [← extract_is s a j hj]; rfl
    · have hd : decide ((j : Int) < (s.size : Int)) = false := by simp; omega
      have hsp := span_take (p := p) HALL.out (by omega) (fun hh => by omega)
      have HSP := Lib.hid hsp; clear hsp
      go_wp2_with fail
      go_quiet (fail)
      by_cases hja : j = a
      · have hb : ((j : Int) == (a : Int)) = true := by simp; omega
        have hR := Lib.hid (runM_none (p := p) (by rw [HSP.out.1, hja]; simp))
        go_wp2_with fail
        refine ⟨rfl, ?_⟩
        unfold RdPost; rw [hR.out]
        refine ⟨?_, hk.drewN _⟩
        unfold wrongE; rw [hdl, show (s.size : Int) - ((s.size - a : Nat) : Int) = (a : Int) by omega]
      · have hb : ((j : Int) == (a : Int)) = false := by simp; omega
        have hR := Lib.hid (runM_some (p := p) (l := s.data.toList.drop a) (by rw [HSP.out.1]; intro e; have := congrArg List.length e; rw [List.length_take, hdl] at this; simp at this; omega))
        have e1 : (a : Int) ≤ (j : Int) := by omega
        go_wp2_with fail
        go_quiet (fail)
        go_wp2
        go_ret
        unfold RdPost; rw [hR.out, HSP.out.1, HSP.out.2]
        refine ⟨?_, ⟨j, hj, by rw [List.drop_drop]; congr 1; omega, HG.out⟩, (hk.drewN _).drewN _⟩
        unfold strV; rw [← extract_is s a j hj]; rfl
end

section
set_option linter.unusedVariables false
set_option linter.unusedSimpArgs false
open Go.RowKit Go.PlainAid

def isDig (u : UInt8) : Bool := decide (48 ≤ u.toNat) && decide (u.toNat ≤ 57)
def isKey (u : UInt8) : Bool := (decide (97 ≤ u.toNat) && decide (u.toNat ≤ 122)) || (decide (65 ≤ u.toNat) && decide (u.toNat ≤ 90)) || (decide (48 ≤ u.toNat) && decide (u.toNat ≤ 57)) || decide (u.toNat = 45) || decide (u.toNat = 95)
theorem digit_any (u : UInt8) (w : World) :
    Calls Tryz.prog 164 #[.int .u8 u.toNat] w fun e w' => e = .returned (.bool (isDig u)) ∧ w' = w := by
  by_cases h : 48 ≤ u.toNat
  all_goals
    go_enter Tryz.func164, Tryz.ntmps164
    go_wp2
    go_ret
    exact ⟨by simp [isDig, h]; try omega, rfl⟩
set_option maxHeartbeats 2000000 in
theorem keyByte_any (u : UInt8) (w : World) :
    Calls Tryz.prog 206 #[.int .u8 u.toNat] w fun e w' => e = .returned (.bool (isKey u)) ∧ w' = w := by
  have f7 : ((u.toNat : Int) == 45) = decide (u.toNat = 45) := by
    by_cases h : u.toNat = 45
    · simp [h]
    · simp [h]; omega
  have f8 : ((u.toNat : Int) == 95) = decide (u.toNat = 95) := by
    by_cases h : u.toNat = 95
    · simp [h]
    · simp [h]; omega
  by_cases a1 : 97 ≤ u.toNat <;> by_cases a2 : u.toNat ≤ 122 <;> by_cases a3 : 65 ≤ u.toNat <;> by_cases a4 : u.toNat ≤ 90 <;> by_cases a5 : 48 ≤ u.toNat <;> by_cases a6 : u.toNat ≤ 57 <;> by_cases a7 : u.toNat = 45 <;> by_cases a8 : u.toNat = 95 <;> first | omega | skip
  all_goals
    have hk : ∃ b, isKey u = b := ⟨_, rfl⟩
    obtain ⟨b, hb⟩ := hk
    have HB := Lib.hid hb
    simp only [isKey, a1, a2, a3, a4, a5, a6, a7, a8, decide_true, decide_false, Bool.true_and, Bool.false_and, Bool.and_true, Bool.and_false, Bool.or_true, Bool.or_false, Bool.true_or, Bool.false_or] at hb
    subst hb
    rw [HB.out]
    clear HB
    simp only [a7, a8, decide_true, decide_false] at f7 f8
    have b1 : decide ((97 : Int) ≤ (u.toNat : Int)) = decide (97 ≤ u.toNat) := by simp; omega
    have b2 : decide ((u.toNat : Int) ≤ 122) = decide (u.toNat ≤ 122) := by simp; omega
    have b3 : decide ((65 : Int) ≤ (u.toNat : Int)) = decide (65 ≤ u.toNat) := by simp; omega
    have b4 : decide ((u.toNat : Int) ≤ 90) = decide (u.toNat ≤ 90) := by simp; omega
    have b5 : decide ((48 : Int) ≤ (u.toNat : Int)) = decide (48 ≤ u.toNat) := by simp; omega
    have b6 : decide ((u.toNat : Int) ≤ 57) = decide (u.toNat ≤ 57) := by simp; omega
    simp only [a1, a2, a3, a4, a5, a6, decide_true, decide_false] at b1 b2 b3 b4 b5 b6
    have HA7 := Lib.hid a7; have HA8 := Lib.hid a8
    clear a7 a8
    go_enter Tryz.func206, Tryz.ntmps206
    go_wp2
    all_goals
     go_ret
     exact ⟨by first | rfl | (simp [b1, b2, b3, b4, b5, b6, f7, f8]; done) | (simp [b1, b2, b3, b4, b5, b6, f7, f8]; have := HA7.out; have := HA8.out; omega), rfl⟩
theorem entDig : ∀ args w, (callFunc 164 args).run Tryz.prog w = .ok (.enter 164 args) w := enters_of Tryz.func164 (by kernel_rfl) rfl
theorem entKey : ∀ args w, (callFunc 206 args).run Tryz.prog w = .ok (.enter 206 args) w := enters_of Tryz.func206 (by kernel_rfl) rfl

/-! ### number -/
def decN (acc : Nat) (d : List UInt8) : Nat := d.foldl (fun a c => a * 10 + (c.toNat - 48)) acc
theorem parse_dec (d : List UInt8) : ∀ (acc k : Nat), acc < 10 ^ k → k + d.length ≤ 18 → d.all isDig = true → Lib.parseUint10 acc d = .ok (decN acc d) ∧ decN acc d < 10 ^ (k + d.length) := by
  induction d with
  | nil => intro acc k h _ _; simp [Lib.parseUint10, decN]; exact h
  | cons c d ih =>
    intro acc k h hk ha
    simp only [List.all_cons, Bool.and_eq_true, isDig, decide_eq_true_eq] at ha
    simp only [List.length_cons] at hk
    have hp : 10 ^ (k + 1) ≤ 10 ^ 18 := Nat.pow_le_pow_right (by decide) (by omega)
    have hp2 : 10 ^ (k + 1) = 10 ^ k * 10 := Nat.pow_succ 10 k
    have h18 : (10 : Nat) ^ 18 = 1000000000000000000 := by decide
    have h1 : acc * 10 + (c.toNat - 48) < 10 ^ (k + 1) := by omega
    obtain ⟨i1, i2⟩ := ih _ (k + 1) h1 (by omega) (by simp only [List.all_eq_true, isDig, Bool.and_eq_true, decide_eq_true_eq]; exact ha.2 |> fun x => by simpa [isDig] using x)
    refine ⟨?_, ?_⟩
    · simp only [Lib.parseUint10]
      rw [if_pos ha.1, if_neg (by omega), if_neg (by omega), i1]; rfl
    · have : k + (c :: d).length = k + 1 + d.length := by simp; omega
      rw [this]; exact i2
def decV (d : List UInt8) : Int := (decN 0 d : Int)
theorem atoi_dec {d : List UInt8} (h0 : d ≠ []) (h1 : d.length ≤ 18) (ha : d.all isDig = true) : Lib.atoiAll d = .ok (decV d) := by
  obtain ⟨p1, p2⟩ := parse_dec d 0 0 (by decide) (by omega) ha
  cases d with
  | nil => exact absurd rfl h0
  | cons c r =>
    simp only [List.all_cons, Bool.and_eq_true, isDig, decide_eq_true_eq] at ha
    have hlt : decN 0 (c :: r) < 10 ^ 18 := Nat.lt_of_lt_of_le p2 (Nat.pow_le_pow_right (by decide) (by omega))
    have h18 : (10 : Nat) ^ 18 = 1000000000000000000 := by decide
    unfold Lib.atoiAll
    simp only
    rw [if_neg (by omega)]
    unfold Lib.parseMag
    rw [if_neg h0, p1]
    simp only
    rw [if_neg (by omega), if_neg (by omega), if_neg (by omega)]; rfl
def badNum (d : List UInt8) : Bool := decide (18 < d.length) || (d.head? == some 48 && decide (1 < d.length))
def numberM (l : List UInt8) : Except Nat (Int × List UInt8) := match runM isDig l with
  | .error k => .error k
  | .ok (d, r) => if badNum d then .error l.length else .ok (decV d, r)
def intV (n : Int) : Value := .int .i64 n
theorem RdPost.mono {α : Type} {g : Nat} {s : ByteArray} {enc : α → Value} {r : Except Nat (α × List UInt8)} {w0 w : World} (hb : KpG g w0 w) {e : Ending} {w' : World} (h : RdPost g s enc r w e w') : RdPost g s enc r w0 e w' := by
  unfold RdPost at *
  cases r with
  | ok p => exact ⟨h.1, h.2.1, hb.trans h.2.2⟩
  | error k => exact ⟨h.1, hb.trans h.2⟩
theorem runM_ok {p : UInt8 → Bool} {l d r : List UInt8} (h : runM p l = .ok (d, r)) : d ≠ [] ∧ d.all p = true ∧ d ++ r = l := by
  unfold runM at h
  split at h
  · cases h
  · rename_i hne
    injection h with h
    injection h with h1 h2
    subst h1 h2
    exact ⟨hne, List.all_takeWhile, List.takeWhile_append_dropWhile⟩

set_option maxHeartbeats 2000000 in
theorem number_any (g : Nat) (s : ByteArray) (l : List UInt8) (w : World) (hx : Txt g s l w) (hs : s.size ≤ 1099511627776) :
    Calls Tryz.prog 124 #[.pointer (some ⟨g, 0, none⟩)] w (RdPost g s intV (numberM l) w) := by
  obtain ⟨a, h1, hl, h3⟩ := hx
  obtain ⟨c0, c1⟩ := box2 h3
  have hx : Txt g s l w := ⟨a, h1, hl, h3⟩
  have HX := Lib.hid hx; clear hx
  have hll : l.length = s.size - a := by rw [hl, drop_len]
  have HL := Lib.hid hl; clear hl
  go_enter Tryz.func124, Tryz.ntmps124
  go_wp2_with fail
  refine (run_any isDig _ digit_any entDig g s l _ HX.out hs).mono ?_
  intro e w1 hpost
  cases hr : runM isDig l with
  | error k =>
    have hN : numberM l = .error k := by unfold numberM; rw [hr]
    unfold RdPost at hpost
    rw [hr] at hpost
    obtain ⟨rfl, hk⟩ := hpost
    unfold wrongE
    refine ⟨rfl, ?_⟩
    unfold RdPost; rw [hN]; exact ⟨rfl, hk⟩
  | ok p =>
    obtain ⟨d, r⟩ := p
    obtain ⟨q1, q2, q3⟩ := runM_ok hr
    unfold RdPost at hpost
    rw [hr] at hpost
    obtain ⟨rfl, ht, hk⟩ := hpost
    have HK := Lib.hid hk
    have HT := Lib.hid ht
    clear hk ht
    have hN : numberM l = if badNum d then .error l.length else .ok (decV d, r) := by unfold numberM; rw [hr]
    have hdl : d.length ≤ s.size := by have := congrArg List.length q3; rw [List.length_append] at this; omega
    obtain ⟨D, hD⟩ : ∃ D : ByteArray, (⟨d.toArray⟩ : ByteArray) = D := ⟨_, rfl⟩
    have hDs : D.size = d.length := by rw [← hD]; exact sz_mk d
    have hDd : D.data.toList = d := by rw [← hD]
    have hpos : 0 < D.size := by rw [hDs]; exact List.length_pos_iff.2 q1
    unfold strV; rw [hD]
    have hhd : d.head? = some (D[0]'hpos) := by
      have := drop_cons D 0 hpos
      rw [List.drop_zero, hDd] at this
      rw [this]; rfl
    by_cases hb18 : 18 < D.size
    · have hb : badNum d = true := by unfold badNum; rw [← hDs]; simp [hb18]
      rw [hb] at hN
      have HN := Lib.hid hN; clear hN hD
      have hd : decide ((18 : Int) < (D.size : Int)) = true := by simp; omega
      go_wp2_with fail
      refine ⟨rfl, ?_⟩
      unfold RdPost; rw [HN.out]
      simp only [if_true]
      refine ⟨?_, HK.out⟩
      unfold wrongE; rw [hll, show (s.size : Int) - ((s.size - a : Nat) : Int) = (a : Int) by omega]
    · have hd : decide ((18 : Int) < (D.size : Int)) = false := by simp; omega
      have hat := Lib.hid (atoi_dec q1 (by omega) q2)
      by_cases h48 : (D[0]'hpos).toNat = 48
      case' neg =>
        have hb : badNum d = false := by
          unfold badNum; rw [hhd, ← hDs]
          have : (D[0]'hpos == (48 : UInt8)) = false := u8_bne (n := 48) h48 (by decide)
          simp [this]; omega
        have e48 : (((D[0]'hpos).toNat : Int) == 48) = false := by simp; omega
      case' pos =>
        have e48 : (((D[0]'hpos).toNat : Int)) = 48 := by omega
        by_cases h1b : 1 < D.size
        case' neg =>
          have hb : badNum d = false := by
            unfold badNum; rw [← hDs]
            simp; omega
          have d1 : decide ((1 : Int) < (D.size : Int)) = false := by simp; omega
        case' pos =>
          have hb : badNum d = true := by
            unfold badNum; rw [hhd, ← hDs, u8_of h48 (by decide)]
            simp [h1b]
          have d1 : decide ((1 : Int) < (D.size : Int)) = true := by simp; omega
          rw [hb] at hN
          have HN := Lib.hid hN; clear hN hD
          go_wp2_with fail
          refine ⟨rfl, ?_⟩
          unfold RdPost; rw [HN.out]
          simp only [if_true]
          refine ⟨?_, HK.out⟩
          unfold wrongE; rw [hll, show (s.size : Int) - ((s.size - a : Nat) : Int) = (a : Int) by omega]
      all_goals
        rw [hb] at hN
        have HN := Lib.hid hN; clear hN hD hb
        have HDD := Lib.hid hDd; clear hDd
        go_wp2_with fail
        refine (Tryz.strconv_Atoi_ok D (by omega) (decV d) (by rw [HDD.out]; exact hat.out) w1).mono ?_
        rintro e w2 ⟨rfl, hw2⟩
        have hb2 : Below w1.heap.size w1 w2 := by
          rcases hw2 with rfl | ⟨t, rfl⟩
          · exact Below.refl _ _
          · exact Joins.below_bytesWorld _ _ _ _ (Nat.le_refl _)
        clear hw2
        go_wp2
        go_ret
        unfold RdPost; rw [HN.out]
        exact ⟨rfl, HT.out.pure hb2, HK.out.trans (KpG.pure hb2)⟩
end

section
set_option linter.unusedVariables false
set_option linter.unusedSimpArgs false
open Go.RowKit Go.PlainAid

def hexL : List UInt8 := [48, 49, 50, 51, 52, 53, 54, 55, 56, 57, 97, 98, 99, 100, 101, 102]
def hexI (c : UInt8) : Int := Lib.indexByte hexL c
def hd0 : List UInt8 → UInt8
  | [] => 0
  | c :: _ => c
set_option maxRecDepth 100000 in
theorem hexI_all : ∀ i : Fin 256, -1 ≤ hexI (UInt8.ofNat i.val) ∧ hexI (UInt8.ofNat i.val) < 16 := by decide
theorem hexI_lt (c : UInt8) : -1 ≤ hexI c ∧ hexI c < 16 := by
  have := hexI_all ⟨c.toNat, c.toNat_lt⟩
  simpa using this
def hexSt (l : List UInt8) : Except Nat (Int × List UInt8) := if hexI (hd0 l) < 0 then .error l.length else .ok (hexI (hd0 l), l.tail)
def hexN : Nat → List UInt8 → Except Nat (Int × List UInt8)
  | 0, l => .ok (0, l)
  | k + 1, l => match hexN k l with
    | .error e => .error e
    | .ok (n, r) => match hexSt r with
      | .error e => .error e
      | .ok (d, r') => .ok (16 * n + d, r')
def badEsc (n : Int) : Bool := (n == 10) || (decide (32 ≤ n) && (n != 127))
def escM (l : List UInt8) : Except Nat (UInt8 × List UInt8) :=
  if takeB 34 l then .ok (34, l.tail) else if takeB 92 l then .ok (92, l.tail) else if takeB 110 l then .ok (10, l.tail)
  else if takeB 120 l then match hexN 2 l.tail with
    | .error e => .error e
    | .ok (n, r) => if badEsc n then .error (l.length + 1) else .ok (n.toNat.toUInt8, r)
  else .error l.length
def byteV (c : UInt8) : Value := .int .u8 c.toNat
theorem hexN_lt {k : Nat} : ∀ {l r : List UInt8} {n : Int}, hexN k l = .ok (n, r) → 0 ≤ n ∧ n < 16 ^ k := by
  induction k with
  | zero => intro l r n h; injection h with h; injection h with h1 h2; subst h1; decide
  | succ k ih =>
    intro l r n h
    unfold hexN at h
    split at h
    · cases h
    · rename_i m r1 h1
      obtain ⟨i1, i2⟩ := ih h1
      split at h
      · cases h
      · rename_i d r2 h2
        injection h with h; injection h with h3 h4; subst h3
        unfold hexSt at h2
        split at h2
        · cases h2
        · injection h2 with h2; injection h2 with h5 h6
          have := hexI_lt (hd0 r1)
          have hp : (16 : Int) ^ (k + 1) = 16 ^ k * 16 := Int.pow_succ 16 k
          omega

theorem hexes_list : (⟨#[48, 49, 50, 51, 52, 53, 54, 55, 56, 57, 97, 98, 99, 100, 101, 102]⟩ : ByteArray).data.toList = hexL := rfl
theorem hexI_of (c : UInt8) : Lib.indexByte hexL ((c.toNat : Int).toNat.toUInt8) = hexI c := by simp [hexI]

theorem see_hd (r : List UInt8) : max (seeM r) 0 % 256 = ((hd0 r).toNat : Int) := by
  cases r with
  | nil => rfl
  | cons c r =>
    have := c.toNat_lt
    simp only [seeM, hd0]
    rw [Int.max_eq_left (by omega)]; omega
theorem byte_of {m : Int} (h0 : 0 ≤ m) (h1 : m < 256) : ((m.toNat.toUInt8).toNat : Int) = m := by
  have : m.toNat < 256 := by omega
  simp [Nat.mod_eq_of_lt this]; omega
theorem hexN_err {k : Nat} {l r : List UInt8} {m : Int} (h : hexN k l = .ok (m, r)) (hd : hexI (hd0 r) < 0) : hexN (k + 1) l = .error r.length := by
  unfold hexN; rw [h]; simp only [hexSt]; rw [if_pos hd]
theorem hexN_more {k : Nat} {l r : List UInt8} {m : Int} (h : hexN k l = .ok (m, r)) (hd : ¬ hexI (hd0 r) < 0) : hexN (k + 1) l = .ok (16 * m + hexI (hd0 r), r.tail) := by
  unfold hexN; rw [h]; simp only [hexSt]; rw [if_neg hd]
theorem hexN_first {l : List UInt8} {e : Nat} (h : hexN 1 l = .error e) : hexN 2 l = .error e := by
  unfold hexN; rw [h]
theorem Txt.len {g : Nat} {s : ByteArray} {l : List UInt8} {w : World} (h : Txt g s l w) : ∃ a : Nat, a ≤ s.size ∧ (s.size : Int) - (l.length : Int) = (a : Int) ∧ w.heap[g]? = some (.cells #[.string s, .int .i64 a] 115 (0, 0)) := by
  obtain ⟨a, h1, rfl, h3⟩ := h
  exact ⟨a, h1, by rw [drop_len]; omega, h3⟩
theorem Txt.tail {g : Nat} {s : ByteArray} {l : List UInt8} {w : World} {a : Nat} (h : l = s.data.toList.drop a) : l.tail = s.data.toList.drop (a + 1) := by
  subst h; simp

set_option maxHeartbeats 4000000 in
theorem escaped_any (g : Nat) (s : ByteArray) (l : List UInt8) (w : World) (hx : Txt g s l w) (hs : s.size ≤ 1099511627776) :
    Calls Tryz.prog 133 #[.pointer (some ⟨g, 0, none⟩)] w (RdPost g s byteV (escM l) w) := by
  have HX := Lib.hid hx
  obtain ⟨a, h1, hl, h3⟩ := hx
  obtain ⟨c0, c1⟩ := box2 h3
  have hll : l.length = s.size - a := by rw [hl, drop_len]
  clear hl
  have hi : IntKind.i64.wrap ((a : Int) - 1) = (a : Int) - 1 := IntWalk.i64_in _ (by omega)
  have hi2 : wrap64 ((a : Int) - 1) = (a : Int) - 1 := by unfold wrap64; omega
  cases t34 : takeB 34 l with
  | true =>
    have hN : escM l = .ok (34, l.tail) := by unfold escM; rw [if_pos t34]
    have HN := Lib.hid hN; clear hN
    go_enter Tryz.func133, Tryz.ntmps133
    go_wp2_with fail
    refine (take_any 34 g s l _ HX.out hs).mono ?_
    rw [t34]
    rintro e w1 ⟨rfl, h2, k2⟩
    go_wp2
    go_ret
    unfold RdPost; rw [HN.out]
    exact ⟨rfl, by simpa using h2, k2⟩
  | false =>
    cases t92 : takeB 92 l with
    | true =>
      have hN : escM l = .ok (92, l.tail) := by unfold escM; rw [if_neg (by rw [t34]; simp), if_pos t92]
      have HN := Lib.hid hN; clear hN
      go_enter Tryz.func133, Tryz.ntmps133
      go_wp2_with fail
      refine (take_any 34 g s l _ HX.out hs).mono ?_
      rw [t34]
      rintro e w1 ⟨rfl, h2, k2⟩
      go_wp2_with fail
      refine (take_any 92 g s l _ (by simpa using h2) hs).mono ?_
      rw [t92]
      rintro e w2 ⟨rfl, h4, k4⟩
      go_wp2
      go_ret
      unfold RdPost; rw [HN.out]
      exact ⟨rfl, by simpa using h4, k2.trans k4⟩
    | false =>
      cases t110 : takeB 110 l with
      | true =>
        have hN : escM l = .ok (10, l.tail) := by unfold escM; rw [if_neg (by rw [t34]; simp), if_neg (by rw [t92]; simp), if_pos t110]
        have HN := Lib.hid hN; clear hN
        go_enter Tryz.func133, Tryz.ntmps133
        go_wp2_with fail
        refine (take_any 34 g s l _ HX.out hs).mono ?_
        rw [t34]
        rintro e w1 ⟨rfl, h2, k2⟩
        go_wp2_with fail
        refine (take_any 92 g s l _ (by simpa using h2) hs).mono ?_
        rw [t92]
        rintro e w2 ⟨rfl, h4, k4⟩
        go_wp2_with fail
        refine (take_any 110 g s l _ (by simpa using h4) hs).mono ?_
        rw [t110]
        rintro e w3 ⟨rfl, h5, k5⟩
        go_wp2
        go_ret
        unfold RdPost; rw [HN.out]
        exact ⟨rfl, by simpa using h5, (k2.trans k4).trans k5⟩
      | false =>
        have hE : escM l = if takeB 120 l then match hexN 2 l.tail with
            | .error e => .error e
            | .ok (n, r) => if badEsc n then .error (l.length + 1) else .ok (n.toNat.toUInt8, r)
          else .error l.length := by unfold escM; rw [if_neg (by rw [t34]; simp), if_neg (by rw [t92]; simp), if_neg (by rw [t110]; simp)]
        have HE := Lib.hid hE; clear hE
        go_enter Tryz.func133, Tryz.ntmps133
        go_wp2_with fail
        refine (take_any 34 g s l _ HX.out hs).mono ?_
        rw [t34]
        rintro e w1 ⟨rfl, h2, k2⟩
        go_wp2_with fail
        refine (take_any 92 g s l _ (by simpa using h2) hs).mono ?_
        rw [t92]
        rintro e w2 ⟨rfl, h4, k4⟩
        go_wp2_with fail
        refine (take_any 110 g s l _ (by simpa using h4) hs).mono ?_
        rw [t110]
        rintro e w3 ⟨rfl, h5, k5⟩
        go_wp2_with fail
        have hk3 := (k2.trans k4).trans k5
        refine (must_any 120 g s l _ (by simpa using h5) hs).mono ?_
        rintro e w4 (⟨t120, rfl, h6, k6⟩ | ⟨t120, rfl, k6⟩)
        case inr =>
          unfold wrongE
          refine ⟨rfl, ?_⟩
          unfold RdPost; rw [HE.out, if_neg (by rw [t120]; simp)]
          exact ⟨rfl, hk3.trans k6⟩
        case inl =>
          rw [if_pos t120] at HE
          have hk4 := hk3.trans k6
          clear hk3 k6 k2 k4 k5 h2 h4 h5 c0 c1 h3 HX t34 t92 t110 t120
          go_wp2
          go_loopw [22, 4] (fun i n wr => ∃ (k : Nat) (m : Int) (r : List UInt8), k ≤ 2 ∧ i = .int .i64 k ∧ n = .int .i64 m ∧ hexN k l.tail = .ok (m, r) ∧ Txt g s r wr ∧ KpG g w wr) (fun i _ _ => 2 - (intOf i).toNat)
          case atStart => exact ⟨0, 0, l.tail, by omega, rfl, rfl, rfl, h6, hk4⟩
          case round =>
            obtain ⟨k, m, r, hk, rfl, rfl, hn, ht, hkw⟩ := hrel
            obtain ⟨m0, m1⟩ := hexN_lt hn
            have HN := Lib.hid hn; clear hn
            by_cases hk2 : k < 2
            · have hm16 : m < 16 := by
                have : k = 0 ∨ k = 1 := by omega
                rcases this with rfl | rfl
                · simp at m1; omega
                · simpa using m1
              go_wp2_with fail
              refine (see_any g s r _ ht hs).mono ?_
              rintro e w5 ⟨rfl, b5⟩
              go_wp2_with fail
              rw [see_hd]
              refine (Tryz.strings_IndexByte _ _ _).mono ?_
              rw [hexes_list, hexI_of]
              rintro e w6 ⟨rfl, rfl⟩
              have hdl := hexI_lt (hd0 r)
              have ht5 := ht.pure b5
              by_cases hdn : hexI (hd0 r) < 0
              · have hne := hexN_err HN.out hdn
                have h2e : hexN 2 l.tail = .error r.length := by
                  have : k = 0 ∨ k = 1 := by omega
                  rcases this with rfl | rfl
                  · exact hexN_first hne
                  · exact hne
                have H2E := Lib.hid h2e; clear h2e hne
                have hdb : decide (hexI (hd0 r) < 0) = true := by simpa using hdn
                obtain ⟨a5, q1, q2, q3⟩ := ht5.len
                obtain ⟨x0, x1⟩ := box2 q3
                go_wp2_with fail
                refine ⟨rfl, ?_⟩
                unfold RdPost; rw [HE.out, H2E.out]
                refine ⟨?_, hkw.trans (KpG.pure b5)⟩
                unfold wrongE; rw [q2]
              · have hne := hexN_more HN.out hdn
                have HNE := Lib.hid hne; clear hne
                have hdb : decide (hexI (hd0 r) < 0) = false := by simpa using hdn
                obtain ⟨a5, q1, q2, q3⟩ := ht5
                obtain ⟨x0, x1⟩ := box2 q3
                have fx := froz_heap q3 1
                have hgl := heap_lt q3
                have Q2 := Lib.hid q2; have Q3 := Lib.hid q3; clear q2 q3
                have hlt5 : a5 < s.size := by
                  rcases Nat.lt_or_ge a5 s.size with h | h
                  · exact h
                  · exfalso; apply hdn; rw [Q2.out, drop_end s a5 h]; decide
                have e1 : wrap64 (16 * m) = 16 * m := by unfold wrap64; omega
                have e2 : wrap64 (16 * m + hexI (hd0 r)) = 16 * m + hexI (hd0 r) := by unfold wrap64; omega
                generalize hexI (hd0 r) = d at *
                go_wp2
                refine ⟨⟨k + 1, _, r.tail, by omega, by go_num, rfl, HNE.out, ⟨a5 + 1, hlt5, Txt.tail (g := 0) (w := w) Q2.out, set_heap1 Q3.out _⟩, (hkw.trans (KpG.pure b5)).setCell (p := ⟨g, 1, none⟩) (.inl rfl) _⟩, by simp [intOf]; omega⟩
            · obtain rfl : k = 2 := by omega
              have m256 : m < 256 := by simpa using m1
              have H2E : escM l = if badEsc m then .error (l.length + 1) else .ok (m.toNat.toUInt8, r) := by rw [HE.out, HN.out]
              by_cases e10 : m = 10
              case' pos =>
                have hb : badEsc m = true := by rw [e10]; rfl
                have f10 : (m == 10) = true := by simpa using e10
              case' neg =>
                have f10 : (m == 10) = false := by simpa using e10
                by_cases e32 : 32 ≤ m
                case' neg =>
                  have f32 : decide ((32 : Int) ≤ m) = false := by simpa using e32
                  have hb : badEsc m = false := by unfold badEsc; rw [f10, f32]; rfl
                case' pos =>
                  have f32 : decide ((32 : Int) ≤ m) = true := by simpa using e32
                  by_cases e127 : m = 127
                  case' pos =>
                    have f127 : (m != 127) = false := by simpa using e127
                    have hb : badEsc m = false := by unfold badEsc; rw [f10, f32, f127]; rfl
                  case' neg =>
                    have f127 : (m != 127) = true := by simpa using e127
                    have hb : badEsc m = true := by unfold badEsc; rw [f10, f32, f127]; rfl
              all_goals
                rw [hb] at H2E
                have HH := Lib.hid H2E; clear H2E hb
                try clear e10
                try clear e127
                go_wp2_with fail
              all_goals first
                | (refine ⟨rfl, ?_⟩
                   unfold RdPost; rw [HH.out]
                   refine ⟨?_, hkw⟩
                   unfold wrongE
                   rw [show (s.size : Int) - ((l.length + 1 : Nat) : Int) = (a : Int) - 1 by omega])
                | (go_ret
                   unfold RdPost; rw [HH.out]
                   refine ⟨?_, ht, hkw⟩
                   unfold byteV
                   rw [byte_of m0 m256]
                   exact ret_int (by omega))
end
end Go.Proofs.YtdpmjlkmjmookaaGreatDoor
