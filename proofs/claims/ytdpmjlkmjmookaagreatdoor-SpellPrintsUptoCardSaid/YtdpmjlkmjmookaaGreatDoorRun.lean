/-
  Package spell: run (a row of bytes of one kind), walked, and the two kinds of bytes.
-/
import Derived.Test.YtdpmjlkmjmookaaGreatDoorText
namespace Go.Proofs.YtdpmjlkmjmookaaGreatDoor
set_option linter.unusedVariables false
set_option linter.unusedSimpArgs false
open Go.RowKit Go.PlainAid

theorem span_take {p : UInt8 → Bool} {l : List UInt8} {n : Nat} (h : (l.take n).all p = true) (hn : n ≤ l.length) (he : ∀ h : n < l.length, p l[n] = false) : l.takeWhile p = l.take n ∧ l.dropWhile p = l.drop n := by
  induction l generalizing n with
  | nil => simp
  | cons a l ih =>
    cases n with
    | zero =>
      have := he (by simp)
      simp at this
      simp [this]
    | succ n =>
      simp only [List.take_succ_cons, List.all_cons, Bool.and_eq_true] at h
      obtain ⟨i1, i2⟩ := ih h.2 (by simpa using hn) (fun hh => by have := he (by simpa using hh); simpa using this)
      simp [h.1, i1, i2]
theorem extract_is (s : ByteArray) (a j : Nat) (h : j ≤ s.size) : s.extract a j = ⟨((s.data.toList.drop a).take (j - a)).toArray⟩ := by
  apply ByteArray.ext
  rw [ByteArray.data_extract]
  apply Array.toList_inj.1
  rw [Array.toList_extract]
def runM (p : UInt8 → Bool) (l : List UInt8) : Except Nat (List UInt8 × List UInt8) := if l.takeWhile p = [] then .error l.length else .ok (l.takeWhile p, l.dropWhile p)
theorem runM_none {p : UInt8 → Bool} {l : List UInt8} (h : l.takeWhile p = []) : runM p l = .error l.length := by unfold runM; rw [if_pos h]
theorem runM_some {p : UInt8 → Bool} {l : List UInt8} (h : l.takeWhile p ≠ []) : runM p l = .ok (l.takeWhile p, l.dropWhile p) := by unfold runM; rw [if_neg h]
/-- what a reading step answers -/
def RdPost {α : Type} (g : Nat) (s : ByteArray) (enc : α → Value) (r : Except Nat (α × List UInt8)) (w : World) (e : Ending) (w' : World) : Prop :=
  match r with
  | .ok (x, l) => e = .returned (enc x) ∧ Txt g s l w' ∧ KpG g w w'
  | .error k => e = wrongE k s ∧ KpG g w w'
def strV (d : List UInt8) : Value := .string ⟨d.toArray⟩
def posOf (g : Nat) (w : World) : Nat := match w.cell? ⟨g, 1, none⟩ with
  | some v => (intOf v).toNat
  | none => 0
theorem posOf_is {g : Nat} {s : ByteArray} {j : Nat} {w : World} {t : TypeId} (h : w.heap[g]? = some (.cells #[.string s, .int .i64 j] t (0, 0))) : posOf g w = j := by
  unfold posOf; rw [(box2 h).2]; simp [intOf]

set_option maxHeartbeats 2000000 in
theorem run_any (p : UInt8 → Bool) (fid : Nat) (hp : ∀ (u : UInt8) (w : World), Calls Tryz.prog fid #[.int .u8 u.toNat] w fun e w' => e = .returned (.bool (p u)) ∧ w' = w)
    (hent : ∀ args w, (callFunc fid args).run Tryz.prog w = .ok (.enter fid args) w)
    (g : Nat) (s : ByteArray) (l : List UInt8) (w : World) (hx : Txt g s l w) (hs : s.size ≤ 1099511627776) :
    Calls Tryz.prog 163 #[.pointer (some ⟨g, 0, none⟩), .func (.func fid) #[] #[]] w (RdPost g s strV (runM p l) w) := by
  obtain ⟨a, h1, rfl, h3⟩ := hx
  have HP := Lib.hid hp; clear hp
  obtain ⟨c0, c1⟩ := box2 h3
  have hdl := drop_len s a
  go_enter Tryz.func163, Tryz.ntmps163
  go_wp2_with fail
  clear c0 c1
  go_loopw [] (fun wr => ∃ j : Nat, a ≤ j ∧ j ≤ s.size ∧ wr.heap[g]? = some (.cells #[.string s, .int .i64 j] 115 (0, 0)) ∧ ((s.data.toList.drop a).take (j - a)).all p = true ∧ KpG g w wr) (fun wr => s.size - posOf g wr)
  case atStart => exact ⟨a, by omega, h1, h3, by simp, Kp.refl _ _⟩
  case round =>
    obtain ⟨j, haj, hj, hg, hall, hk⟩ := hrel
    have HALL := Lib.hid hall; clear hall
    obtain ⟨c0, c1⟩ := box2 hg
    have f1 := froz_heap hg 1
    have hgl := heap_lt hg
    have HG := Lib.hid hg; clear hg
    by_cases hlt : j < s.size
    · have hd : decide ((j : Int) < (s.size : Int)) = true := by simp; omega
      have hjn : ((j : Int)).toNat = j := by omega
      have hjl : j - a < (s.data.toList.drop a).length := by omega
      have hel : (s.data.toList.drop a)[j - a] = s[j]'hlt := by
        rw [List.getElem_drop]; simp only [show a + (j - a) = j by omega]; rfl
      go_wp2_with fail
      by_cases hpj : p (s[j]'hlt) = true
      · have hall2 : ((s.data.toList.drop a).take (j + 1 - a)).all p = true := by
          rw [show j + 1 - a = (j - a) + 1 by omega, take_all_snoc p _ _ hjl, HALL.out, hel, hpj]; rfl
        have HA2 := Lib.hid hall2; clear hall2 hel
        have hn : (wr.setCell ⟨g, 1, none⟩ (.int .i64 ((j : Int) + 1))).heap[g]? = some (.cells #[.string s, .int .i64 ((j + 1 : Nat) : Int)] 115 (0, 0)) := set_heap1 HG.out _
        have HN := Lib.hid hn; clear hn
        go_quiet (exact Calls.quiet_of_same (HP.out _ _))
        simp only [hpj]
        go_wp2
        refine ⟨⟨j + 1, by omega, by omega, HN.out, HA2.out, (hk.drewN _).setCell (p := ⟨g, 1, none⟩) (.inl rfl) _⟩, ?_⟩
        rw [posOf_is HG.out, posOf_is (w := (wr.drewN nq).setCell ⟨g, 1, none⟩ (.int .i64 ((j : Int) + 1))) HN.out]; omega
      · have hpf : p (s[j]'hlt) = false := by simpa using hpj
        have hsp := span_take (p := p) HALL.out (by omega) (fun hh => by rw [hel]; exact hpf)
        have HSP := Lib.hid hsp; clear hsp hel
        go_quiet (exact Calls.quiet_of_same (HP.out _ _))
        simp only [hpf]
        by_cases hja : j = a
        · have hb : ((j : Int) == (a : Int)) = true := by simp; omega
          have hR := Lib.hid (runM_none (p := p) (by rw [HSP.out.1, hja]; simp))
          go_wp2_with fail
          refine ⟨rfl, ?_⟩
          unfold RdPost; rw [hR.out]
          refine ⟨?_, hk.drewN _⟩
          unfold wrongE; rw [hdl, show (s.size : Int) - ((s.size - a : Nat) : Int) = (a : Int) by omega]
        · have hb : ((j : Int) == (a : Int)) = false := by simp; omega
          have hR := Lib.hid (runM_some (p := p) (l := s.data.toList.drop a) (by rw [HSP.out.1]; intro e; have := congrArg List.length e; rw [List.length_take, hdl] at this; simp at this; omega))
          have e1 : (a : Int) ≤ (j : Int) := by omega
          go_wp2_with fail
          go_quiet (fail)
          go_wp2
          go_ret
          unfold RdPost; rw [hR.out, HSP.out.1, HSP.out.2]
          refine ⟨?_, ⟨j, hj, by rw [List.drop_drop]; congr 1; omega, HG.out⟩, (hk.drewN _).drewN _⟩
          unfold strV; rw [← extract_is s a j hj]; rfl
    · have hd : decide ((j : Int) < (s.size : Int)) = false := by simp; omega
      have hsp := span_take (p := p) HALL.out (by omega) (fun hh => by omega)
      have HSP := Lib.hid hsp; clear hsp
      go_wp2_with fail
      go_quiet (fail)
      by_cases hja : j = a
      · have hb : ((j : Int) == (a : Int)) = true := by simp; omega
        have hR := Lib.hid (runM_none (p := p) (by rw [HSP.out.1, hja]; simp))
        go_wp2_with fail
        refine ⟨rfl, ?_⟩
        unfold RdPost; rw [hR.out]
        refine ⟨?_, hk.drewN _⟩
        unfold wrongE; rw [hdl, show (s.size : Int) - ((s.size - a : Nat) : Int) = (a : Int) by omega]
      · have hb : ((j : Int) == (a : Int)) = false := by simp; omega
        have hR := Lib.hid (runM_some (p := p) (l := s.data.toList.drop a) (by rw [HSP.out.1]; intro e; have := congrArg List.length e; rw [List.length_take, hdl] at this; simp at this; omega))
        have e1 : (a : Int) ≤ (j : Int) := by omega
        go_wp2_with fail
        go_quiet (fail)
        go_wp2
        go_ret
        unfold RdPost; rw [hR.out, HSP.out.1, HSP.out.2]
        refine ⟨?_, ⟨j, hj, by rw [List.drop_drop]; congr 1; omega, HG.out⟩, (hk.drewN _).drewN _⟩
        unfold strV; rw [← extract_is s a j hj]; rfl

end Go.Proofs.YtdpmjlkmjmookaaGreatDoor
