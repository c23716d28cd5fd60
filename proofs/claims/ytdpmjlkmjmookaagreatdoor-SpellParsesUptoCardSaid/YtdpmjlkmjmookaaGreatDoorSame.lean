/-
  When two lists of attributes are the same: slices.Equal over attributes (attrs.Same), and the references' Same, walked.
-/
import Derived.Test.YtdpmjlkmjmookaaGreatDoorAttrs
import Derived.Laws.StructEq
namespace Go.Proofs.YtdpmjlkmjmookaaGreatDoor
open Go.RowKit

theorem ba_ext {a b : ByteArray} (h : a.toList = b.toList) : a = b := by
  rw [ByteArray.toList_eq, ByteArray.toList_eq] at h
  obtain ⟨⟨x⟩⟩ := a
  obtain ⟨⟨y⟩⟩ := b
  simp at h; rw [h]
/-- the walk's spelling of '==' on two attributes -/
def sameA1 (a b : At) : Bool := a.k.toList == b.k.toList && a.v.toList == b.v.toList
theorem sameA1_iff (a b : At) : sameA1 a b = true ↔ a = b := by
  obtain ⟨ak, av⟩ := a; obtain ⟨bk, bv⟩ := b
  simp only [sameA1, Bool.and_eq_true, beq_iff_eq, At.mk.injEq]
  exact ⟨fun h => ⟨ba_ext h.1, ba_ext h.2⟩, fun h => by rw [h.1, h.2]; exact ⟨rfl, rfl⟩⟩
def sameAL : List At → List At → Bool
  | [], [] => true
  | a :: l, b :: m => sameA1 a b && sameAL l m
  | _, _ => false
theorem sameAL_iff (l m : List At) : sameAL l m = true ↔ l = m := by
  induction l generalizing m with
  | nil => cases m <;> simp [sameAL]
  | cons a l ih => cases m with
    | nil => simp [sameAL]
    | cons b m => simp [sameAL, sameA1_iff, ih]
theorem sameAL_false {l m : List At} (h : l ≠ m) : sameAL l m = false := by
  rw [Bool.eq_false_iff]; intro e; exact h ((sameAL_iff l m).1 e)
theorem take_eq_snoc {α : Type} (l m : List α) (k : Nat) (h1 : k < l.length) (h2 : k < m.length) (ht : l.take k = m.take k) (he : l[k] = m[k]) : l.take (k + 1) = m.take (k + 1) := by
  rw [List.take_succ_eq_append_getElem h1, List.take_succ_eq_append_getElem h2, ht, he]

theorem eqA_run (d : Nat) (w : World) (a b : At) : (Op.equalIn (d + 2) 89 (.agg #[.string a.k, .string a.v]) (.agg #[.string b.k, .string b.v])).run Tryz.prog w = .ok (sameA1 a b) w := by
  have hf := run_equalIn_struct (P := Tryz.prog) w (d + 1) 89 #[.string a.k, .string a.v] #[.string b.k, .string b.v] (by kernel_rfl) (by kernel_rfl)
  rw [hf]
  unfold Program.fieldsOf
  rw [Tryz.underlying89]
  by_cases e1 : a.k.toList = b.k.toList <;> by_cases e2 : a.v.toList = b.v.toList <;> simp [go_sem, sameA1, e1, e2]

set_option maxHeartbeats 1000000 in
theorem equalA_any (v u : Value) (l m : List At) (F G : Nat → Prop) (w : World) (h : RdA w F v l) (g : RdA w G u m) :
    Calls Tryz.prog 159 #[v, u] w fun e w' => e = .returned (.bool (sameAL l m)) ∧ ∃ n, w' = w.drewN n := by
  obtain ⟨A, cap, rfl, hc, hcm, hm, hcell⟩ := h.open_
  obtain ⟨B, dap, rfl, gc, gcm, gm, gcell⟩ := g.open_
  have HC := Lib.hid hcell; clear hcell
  have GC := Lib.hid gcell; clear gcell
  have H := Lib.hid h; clear h
  have G := Lib.hid g; clear g
  have HR := eqA_run
  by_cases hl : l.length = m.length
  · go_enter Tryz.func159, Tryz.ntmps159
    go_wp2
    go_loopw [13] (fun i wr => ∃ k : Nat, k ≤ l.length ∧ i = .int .i64 k ∧ (∃ q, wr = w.drewN q) ∧ l.take k = m.take k) (fun i _ => l.length - (intOf i).toNat)
    case atStart => exact ⟨0, by omega, rfl, ⟨0, rfl⟩, by simp⟩
    case round =>
      obtain ⟨k, hk, rfl, ⟨q, rfl⟩, hf⟩ := hrel
      have HF := Lib.hid hf; clear hf
      by_cases hlt : k < l.length
      · obtain ⟨b, off, rfl, hF⟩ := HC.out (by omega)
        obtain ⟨b', off', rfl, hG⟩ := GC.out (by omega)
        have hltm : k < m.length := by omega
        obtain ⟨c0, c1⟩ := H.out.at_ k hlt
        obtain ⟨d0, d1⟩ := G.out.at_ k hltm
        have HL := Lib.hid hl
        have hlti : (k : Int) < (l.length : Int) := by omega
        have hltj : (k : Int) < (m.length : Int) := by omega
        go_wp2_with fail
        go_quiet (fail)
        by_cases hs : sameA1 l[k] m[k] = true
        · have HT := Lib.hid (take_eq_snoc l m k hlt hltm HF.out ((sameA1_iff _ _).1 hs))
          simp only [hs, Bool.not_true]
          go_wp2
          exact ⟨⟨k + 1, by omega, by go_num, by first | exact ⟨_, rfl⟩ | exact ⟨_, World.drewN_drewN _ _ _⟩, HT.out⟩, by simp [intOf]; omega⟩
        · have hs' : sameA1 l[k] m[k] = false := by simpa using hs
          have hne : sameAL l m = false := sameAL_false (fun e => hs ((sameA1_iff _ _).2 (by subst e; rfl)))
          have HN := Lib.hid hne; clear hne hs
          simp only [hs', Bool.not_false]
          go_wp2
          go_ret
          exact ⟨ret_bool HN.out.symm, by first | exact ⟨_, rfl⟩ | exact ⟨_, World.drewN_drewN _ _ _⟩⟩
      · have hee : sameAL l m = true := by
          rw [sameAL_iff]
          have h := HF.out
          rwa [List.take_of_length_le (by omega), List.take_of_length_le (by omega)] at h
        have HE := Lib.hid hee; clear hee
        go_wp2
        go_ret
        exact ⟨ret_bool HE.out.symm, by first | exact ⟨_, rfl⟩ | exact ⟨_, World.drewN_drewN _ _ _⟩⟩
  · have hne : sameAL l m = false := sameAL_false (fun e => hl (by rw [e]))
    have HN := Lib.hid hne; clear hne
    go_enter Tryz.func159, Tryz.ntmps159
    go_wp2
    go_ret
    exact ⟨ret_bool HN.out.symm, ⟨0, rfl⟩⟩

theorem below_of_drewN {w w' : World} (h : ∃ n, w' = w.drewN n) : Below w.heap.size w w' := by obtain ⟨n, rfl⟩ := h; exact below_drewN (Below.refl _ _) n
theorem attrsSame_any (v u : Value) (l m : List At) (F G : Nat → Prop) (w : World) (h : RdA w F v l) (g : RdA w G u m) :
    Calls Tryz.prog 117 #[v, u] w fun e w' => e = .returned (.bool (sameAL l m)) ∧ ∃ n, w' = w.drewN n := by
  obtain ⟨A, cap, rfl, _⟩ := h.open_
  obtain ⟨B, dap, rfl, _⟩ := g.open_
  go_enter Tryz.func117, Tryz.ntmps117
  go_wp2_with (go_at_call 159; refine (equalA_any _ _ l m F G _ h g).mono ?_)
  rintro e w' ⟨rfl, n, rfl⟩
  go_wp2
  go_ret
  exact ⟨rfl, n, rfl⟩

set_option maxHeartbeats 1000000 in
theorem refSameA_any (v u : Value) (l m : List At) (F G : Nat → Prop) (w : World) (h : RdA w F v l) (g : RdA w G u m) :
    Calls Tryz.prog 73 #[v, u] w fun e w' => e = .returned (.bool (sameAL l m)) ∧ ∃ n, w' = w.drewN n := by
  obtain ⟨A, cap, rfl, hc, hcm, hm, hcell⟩ := h.open_
  obtain ⟨B, dap, rfl, gc, gcm, gm, gcell⟩ := g.open_
  have HC := Lib.hid hcell; clear hcell
  have GC := Lib.hid gcell; clear gcell
  have H := Lib.hid h; clear h
  have G := Lib.hid g; clear g
  have HR := eqA_run
  by_cases hl : l.length = m.length
  · go_enter Tryz.func73, Tryz.ntmps73
    go_wp2
    go_loopw [5] (fun i wr => ∃ k : Nat, k ≤ l.length ∧ i = .int .i64 k ∧ (∃ q, wr = w.drewN q) ∧ l.take k = m.take k) (fun i _ => l.length - (intOf i).toNat)
    case atStart => exact ⟨0, by omega, rfl, ⟨0, rfl⟩, by simp⟩
    case round =>
      obtain ⟨k, hk, rfl, ⟨q, rfl⟩, hf⟩ := hrel
      have HF := Lib.hid hf; clear hf
      by_cases hlt : k < l.length
      · obtain ⟨b, off, rfl, hF⟩ := HC.out (by omega)
        obtain ⟨b', off', rfl, hG⟩ := GC.out (by omega)
        have hltm : k < m.length := by omega
        obtain ⟨c0, c1⟩ := H.out.at_ k hlt
        obtain ⟨d0, d1⟩ := G.out.at_ k hltm
        have HL := Lib.hid hl
        have hlti : (k : Int) < (l.length : Int) := by omega
        have hltj : (k : Int) < (m.length : Int) := by omega
        go_wp2_with fail
        go_quiet (fail)
        by_cases hs : sameA1 l[k] m[k] = true
        · have HT := Lib.hid (take_eq_snoc l m k hlt hltm HF.out ((sameA1_iff _ _).1 hs))
          simp only [hs, Bool.not_true]
          go_wp2
          exact ⟨⟨k + 1, by omega, by go_num, by first | exact ⟨_, rfl⟩ | exact ⟨_, World.drewN_drewN _ _ _⟩, HT.out⟩, by simp [intOf]; omega⟩
        · have hs' : sameA1 l[k] m[k] = false := by simpa using hs
          have hne : sameAL l m = false := sameAL_false (fun e => hs ((sameA1_iff _ _).2 (by subst e; rfl)))
          have HN := Lib.hid hne; clear hne hs
          simp only [hs', Bool.not_false]
          go_wp2
          go_ret
          exact ⟨ret_bool HN.out.symm, by first | exact ⟨_, rfl⟩ | exact ⟨_, World.drewN_drewN _ _ _⟩⟩
      · have hee : sameAL l m = true := by
          rw [sameAL_iff]
          have h := HF.out
          rwa [List.take_of_length_le (by omega), List.take_of_length_le (by omega)] at h
        have HE := Lib.hid hee; clear hee
        go_wp2
        go_ret
        exact ⟨ret_bool HE.out.symm, by first | exact ⟨_, rfl⟩ | exact ⟨_, World.drewN_drewN _ _ _⟩⟩
  · have hne : sameAL l m = false := sameAL_false (fun e => hl (by rw [e]))
    have HN := Lib.hid hne; clear hne
    go_enter Tryz.func73, Tryz.ntmps73
    go_wp2
    go_ret
    exact ⟨ret_bool HN.out.symm, ⟨0, rfl⟩⟩

end Go.Proofs.YtdpmjlkmjmookaaGreatDoor
