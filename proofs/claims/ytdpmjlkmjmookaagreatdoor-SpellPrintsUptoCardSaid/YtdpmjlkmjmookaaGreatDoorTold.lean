/-
  Package spell: Read: the deferred closure that recovers, and the walk.
-/
import Derived.Test.YtdpmjlkmjmookaaGreatDoorRdop
import Derived.Defers
import Derived.Recover
namespace Go.Proofs.YtdpmjlkmjmookaaGreatDoor
set_option linter.unusedVariables false
set_option linter.unusedSimpArgs false
open Go.RowKit Go.PlainAid

theorem assertW (v : Value) (W : World) : (Instr.typeAssert (.iface 160 v) 20 160 true).run Tryz.prog W = .ok (.tuple #[v, .bool true]) W := by kernel_rfl
theorem told_nil (b : Nat) (w : World) :
    Calls Tryz.prog 85 #[.nilIface, .pointer (some ⟨b, 0, none⟩)] w fun e w' => e = .returned (.tuple #[]) ∧ w' = w := by
  go_enter Tryz.func85, Tryz.ntmps85
  go_wp2
  go_end0
  exact ⟨rfl, rfl⟩
set_option maxRecDepth 100000 in
theorem told_wrong (b : Nat) (k : Int) (x y : Value) (t : TypeId) (w : World) (h : w.heap[b]? = some (.cells #[x, y] t (0, 0))) :
    Calls Tryz.prog 85 #[.iface 160 (.int .i64 k), .pointer (some ⟨b, 0, none⟩)] w fun e w' => e = .returned (.tuple #[]) ∧ w' = (w.setCell ⟨b, 0, none⟩ (.int .i64 40)).setCell ⟨b, 1, none⟩ (.int .i64 k) := by
  obtain ⟨c0, c1⟩ := box2 h
  have f0 := froz_heap h 0; have f1 := froz_heap h 1
  have hl := heap_lt h
  clear h
  have hAs := assertW
  go_enter Tryz.func85, Tryz.ntmps85
  go_wp2
  first | go_end0 | refine bodyPost_ret (results_none rfl _ _ _) rfl ?_
  exact ⟨rfl, rfl⟩
theorem entTold : ∀ args w, (callFunc 85 args).run Tryz.prog w = .ok (.enter 85 args) w := enters_of Tryz.func85 (by kernel_rfl) rfl

theorem read1_panics (b : Nat) (k : Int) (x y : Value) (t : TypeId) (older : List PanicEntry) (w : World) (h : w.heap[b]? = some (.cells #[x, y] t (0, 0))) :
    CallsD Tryz.prog 84 #[.pointer (some ⟨b, 0, none⟩)] (.panicking ({ v := .iface 160 (.int .i64 k), recovered := false } :: older)) w fun e u' w' =>
      e = .returned (.tuple #[]) ∧ u' = .panicking ({ v := .iface 160 (.int .i64 k), recovered := true } :: older) ∧ w' = (w.setCell ⟨b, 0, none⟩ (.int .i64 40)).setCell ⟨b, 1, none⟩ (.int .i64 k) := by
  have hent := entTold
  refine callsD_of_wpS Tryz.func84 rfl fun c₀ cs hu => ?_
  apply wpS_region
  simp [wpOpsS, go_sem, recoverD, hu, Tryz.ntmps84, Exit.thenS]
  refine (told_wrong b k x y t w h).mono ?_
  rintro e w' ⟨rfl, rfl⟩
  simp [bodyPostS, results, Tryz.results84, go_sem]
theorem read1_idle (b : Nat) (w : World) :
    CallsD Tryz.prog 84 #[.pointer (some ⟨b, 0, none⟩)] .returning w fun e u' w' => e = .returned (.tuple #[]) ∧ u' = .returning ∧ w' = w := by
  have hent := entTold
  refine callsD_of_wpS Tryz.func84 rfl fun c₀ cs hu => ?_
  apply wpS_region
  simp [wpOpsS, go_sem, recoverD, hu, Tryz.ntmps84, Exit.thenS]
  refine (told_nil b w).mono ?_
  rintro e w' ⟨rfl, rfl⟩
  cases c₀
  simp_all [bodyPostS, results, Tryz.results84, go_sem]
end Go.Proofs.YtdpmjlkmjmookaaGreatDoor
