/-
  slices.Clone over attributes (and the reference's copied), walked: a row of the call's own that holds the same.
-/
import Derived.Test.YtdpmjlkmjmookaaGreatDoorSame
namespace Go.Proofs.YtdpmjlkmjmookaaGreatDoor
open Go.RowKit

theorem infoA : (Tryz.prog.info? 89).map (fun i => (i.zero, i.size, i.bytes)) = some (some (.agg #[.string ⟨#[]⟩, .string ⟨#[]⟩]), 2, 32) := by kernel_rfl
theorem infoO : (Tryz.prog.info? 48).map (fun i => (i.zero, i.size, i.bytes)) = some (some (.agg #[.int .i64 0, .int .i64 0, .string ⟨#[]⟩, .slice none 0 0]), 4, 56) := by kernel_rfl
/-- the post of a copy -/
def ClonedA (l : List At) (w : World) (e : Ending) (w' : World) : Prop :=
  ∃ v', e = .returned v' ∧ Below w.heap.size w w' ∧ w'.ownsRow w.heap.size 89 2 v' l.length (flat cellsA l)

theorem nilA (w : World) (a : Option Addr) (n c : Nat) : (binOp .eql 46 (.slice a n c) (.slice none 0 0)).run Tryz.prog w = .ok (.bool a.isNone) w := Lib.run_eql_slice_nil w _ _ a n c 0 0 Tryz.underlying46

set_option maxHeartbeats 1000000 in
set_option maxRecDepth 100000 in
theorem cloneA_any (v : Value) (l : List At) (F : Nat → Prop) (w : World) (h : RdA w F v l) : Calls Tryz.prog 160 #[v] w (ClonedA l w) := by
  obtain ⟨A, cap, rfl, hc, hcm, hm, hcell⟩ := h.open_
  obtain ⟨i0, hi, hz0, hz1, hz2⟩ := info_parts infoA
  have hn := nilA
  cases A with
  | none =>
    have hl : l = [] := by
      rcases Nat.eq_zero_or_pos l.length with h | h
      · exact List.eq_nil_of_length_eq_zero h
      · obtain ⟨b, off, hA, _⟩ := hcell h; cases hA
    subst hl
    clear h hcell
    go_enter Tryz.func160, Tryz.ntmps160
    go_wp2
    go_ret
    exact ⟨_, rfl, Below.refl _ _, World.ownsRow_nil _ _ _ _⟩
  | some ad =>
    have hcells : ∀ j u, (flat cellsA l)[j]? = some u → w.cell? (ad.add j) = some u := by
      intro j u hu
      have hp : 0 < l.length := by
        rcases Nat.eq_zero_or_pos l.length with h | h
        · have := List.eq_nil_of_length_eq_zero h; subst this; simp [flat] at hu
        · exact h
      obtain ⟨b, off, hA, _⟩ := hcell hp
      injection hA with hA; subst hA
      exact h.cells j u hu
    have HCC := Lib.hid hcells
    clear h hcell hcells
    have hfl : (flat cellsA l).length = l.length * 2 := flat_length _ _ _ (fun _ _ => rfl)
    have HFL := Lib.hid hfl; clear hfl
    go_enter Tryz.func160, Tryz.ntmps160
    go_wp2_with (at_builtin; refine wpList_append_own _ rfl _ _ 46 rfl w.heap.size 89 i0 (.agg #[.string ⟨#[]⟩, .string ⟨#[]⟩]) 2 32 Tryz.underlying46 hi hz0 hz1 hz2 rfl (by decide) _ 0 [] rfl (World.ownsRow_made w #[] 0 (Nat.le_refl _) (by decide) rfl) ad l.length cap (flat cellsA l) rfl ?c1 ?c2 ?c3 ?c4 ?c5 ?c6 ?_)
    case c1 => exact HFL.out
    case c2 => intro j u hu; exact (pure_cell ((Below.refl _ w).alloc (Nat.le_refl _) _) (HCC.out j u hu))
    case c3 => exact cellsA_one l
    case c4 => unfold maxLen; omega
    case c5 => omega
    case c6 => simp
    intro v' w2 hown' hgrow _
    go_wp2
    go_ret
    refine ⟨_, rfl, ((Below.refl _ w).alloc (Nat.le_refl _) _).grown hgrow (by simp) ?_, hown'⟩
    intro k hk
    simp [Value.ownBlock] at hk
    omega

set_option maxHeartbeats 1000000 in
set_option maxRecDepth 100000 in
theorem copiedA_any (v : Value) (l : List At) (F : Nat → Prop) (w : World) (h : RdA w F v l) : Calls Tryz.prog 74 #[v] w (ClonedA l w) := by
  obtain ⟨A, cap, rfl, hc, hcm, hm, hcell⟩ := h.open_
  obtain ⟨i0, hi, hz0, hz1, hz2⟩ := info_parts infoA
  have hfl : (flat cellsA l).length = l.length * 2 := flat_length _ _ _ (fun _ _ => rfl)
  have HFL := Lib.hid hfl; clear hfl
  cases A with
  | none =>
    have hl : l = [] := by
      rcases Nat.eq_zero_or_pos l.length with h | h
      · exact List.eq_nil_of_length_eq_zero h
      · obtain ⟨b, off, hA, _⟩ := hcell h; cases hA
    subst hl
    clear h hcell HFL
    go_enter Tryz.func74, Tryz.ntmps74
    go_wp2
    go_ret
    exact ⟨_, rfl, (Below.refl _ w).alloc (Nat.le_refl _) _, World.ownsRow_made w #[] 0 (Nat.le_refl _) (by decide) rfl⟩
  | some ad =>
    have hcells : ∀ j u, (flat cellsA l)[j]? = some u → w.cell? (ad.add j) = some u := by
      intro j u hu
      have hp : 0 < l.length := by
        rcases Nat.eq_zero_or_pos l.length with h | h
        · have := List.eq_nil_of_length_eq_zero h; subst this; simp [flat] at hu
        · exact h
      obtain ⟨b, off, hA, _⟩ := hcell hp
      injection hA with hA; subst hA
      exact h.cells j u hu
    have HCC := Lib.hid hcells
    clear h hcell hcells
    go_enter Tryz.func74, Tryz.ntmps74
    go_wp2_with (at_builtin; refine wpList_append_own _ rfl _ _ 46 rfl w.heap.size 89 i0 (.agg #[.string ⟨#[]⟩, .string ⟨#[]⟩]) 2 32 Tryz.underlying46 hi hz0 hz1 hz2 rfl (by decide) _ 0 [] rfl (World.ownsRow_made w #[] 0 (Nat.le_refl _) (by decide) rfl) ad l.length cap (flat cellsA l) rfl ?c1 ?c2 ?c3 ?c4 ?c5 ?c6 ?_)
    case c1 => exact HFL.out
    case c2 => intro j u hu; exact (pure_cell ((Below.refl _ w).alloc (Nat.le_refl _) _) (HCC.out j u hu))
    case c3 => exact cellsA_one l
    case c4 => unfold maxLen; omega
    case c5 => omega
    case c6 => simp
    intro v' w2 hown' hgrow _
    go_wp2
    go_ret
    refine ⟨_, rfl, ((Below.refl _ w).alloc (Nat.le_refl _) _).grown hgrow (by simp) ?_, hown'⟩
    intro k hk
    simp [Value.ownBlock] at hk
    omega

end Go.Proofs.YtdpmjlkmjmookaaGreatDoor
