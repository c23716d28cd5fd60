/-
  Package spell: Read, walked.
-/
import Derived.Test.YtdpmjlkmjmookaaGreatDoorTold
namespace Go.Proofs.YtdpmjlkmjmookaaGreatDoor
set_option linter.unusedVariables false
set_option linter.unusedSimpArgs false
open Go.RowKit Go.PlainAid

def faultV (c k : Int) : Value := .agg #[.int .i64 c, .int .i64 k]
structure ReadR where
  out : List UInt8
  end_ : Int
  code : Int
  at_ : Int
  deriving DecidableEq
def readM (s : ByteArray) (i : Int) : ReadR :=
  if i < 0 ∨ (s.size : Int) < i then ⟨[], 0, 1, -1⟩ else match quotedM (s.data.toList.drop i.toNat) with
    | .ok (d, r) => ⟨d, (s.size : Int) - r.length, 0, 0⟩
    | .error k => ⟨[], 0, 40, (s.size : Int) - k⟩
def ReadPost (s : ByteArray) (i : Int) (w : World) (e : Ending) (w' : World) : Prop :=
  e = .returned (.tuple #[.string (mkB (readM s i).out), .int .i64 (readM s i).end_, faultV (readM s i).code (readM s i).at_]) ∧ Below w.heap.size w w'

set_option maxHeartbeats 4000000 in
theorem read_out (s : ByteArray) (i : Int) (w : World) (hs : s.size ≤ 1099511627776) (hi : i < 0 ∨ (s.size : Int) < i) :
    Calls Tryz.prog 26 #[.string s, .int .i64 i] w (ReadPost s i w) := by
  have hmf : ∀ (fn : Fn) (first cap : Array Value) (w : World), (Instr.makeFunc fn first cap).run Tryz.prog w = .ok (.func fn first cap) w := fun _ _ _ _ => rfl
  have hR : readM s i = ⟨[], 0, 1, -1⟩ := by unfold readM; rw [if_pos hi]
  have HR := Lib.hid hR; clear hR
  by_cases h0 : i < 0
  case' pos => have hd : decide (i < 0) = true := by simpa using h0
  case' neg =>
    have hd : decide (i < 0) = false := by simpa using h0
    have hd2 : decide ((s.size : Int) < i) = true := by simp; omega
  all_goals
    go_enter_defers Tryz.func26, Tryz.ntmps26
    go_wp2_with fail
    have hq := heap_alloc_new w (.cells #[.int .i64 1, .int .i64 (-1)] 32)
    obtain ⟨q0, q1⟩ := box2 hq
    simp [bodyPostD, Leaves, settle, results, Tryz.results26, go_sem, q0, q1]
    unfold ReadPost; rw [HR.out]
    exact ⟨rfl, (Below.refl _ w).alloc (Nat.le_refl _) _⟩

set_option maxRecDepth 100000 in
set_option maxHeartbeats 4000000 in
theorem read_in (s : ByteArray) (i : Nat) (w : World) (hs : s.size ≤ 1099511627776) (hi : i ≤ s.size) :
    Calls Tryz.prog 26 #[.string s, .int .i64 (i : Int)] w (ReadPost s i w) := by
  have hmf : ∀ (fn : Fn) (first cap : Array Value) (w : World), (Instr.makeFunc fn first cap).run Tryz.prog w = .ok (.func fn first cap) w := fun _ _ _ _ => rfl
  have hR : readM s i = match quotedM (s.data.toList.drop i) with
    | .ok (d, r) => ⟨d, (s.size : Int) - r.length, 0, 0⟩
    | .error k => ⟨[], 0, 40, (s.size : Int) - k⟩ := by unfold readM; rw [if_neg (by omega)]; rfl
  have HR := Lib.hid hR; clear hR
  have hd : decide ((i : Int) < 0) = false := by simp
  have hd2 : decide ((s.size : Int) < (i : Int)) = false := by simp; omega
  go_enter_defers Tryz.func26, Tryz.ntmps26
  go_wp2_with fail
  obtain ⟨W1, hW1⟩ : ∃ W1, (w.alloc (.cells #[.int .i64 0, .int .i64 0] 32)).alloc (.cells #[.string s, .int .i64 (i : Int)] 115) = W1 := ⟨_, rfl⟩
  have hb1 : Below w.heap.size w W1 := by rw [← hW1]; exact ((Below.refl _ w).alloc (Nat.le_refl _) _).alloc (by simp) _
  have hs1 : W1.heap.size = w.heap.size + 2 := by rw [← hW1]; simp
  have hf1 : W1.heap[w.heap.size]? = some (.cells #[.int .i64 0, .int .i64 0] 32 (0, 0)) := by
    rw [← hW1, Below.heap_alloc _ _ _ (by simp)]; exact heap_alloc_new w _
  have ht1 : Txt (w.heap.size + 1) s (s.data.toList.drop i) W1 := ⟨i, hi, rfl, by
    rw [← hW1]; have := heap_alloc_new (w.alloc (.cells #[.int .i64 0, .int .i64 0] 32)) (.cells #[.string s, .int .i64 (i : Int)] 115); simpa using this⟩
  rw [hW1]; clear hW1
  refine (rdQuoted_any (w.heap.size + 1) s (s.data.toList.drop i) W1 ht1 hs).mono ?_
  intro e w2 hp
  cases hq : quotedM (s.data.toList.drop i) with
  | error k =>
    unfold RdPost at hp; rw [hq] at hp
    obtain ⟨rfl, k2⟩ := hp
    rw [hq] at HR
    have hf2 := (k2.block _ (by omega) (by omega)).trans hf1
    unfold wrongE
    refine leaves_cons (f := 84) (args := #[.pointer (some ⟨w.heap.size, 0, none⟩)]) (by simp) (by simp [go_sem]) ?_
    refine (read1_panics w.heap.size _ _ _ _ [] _ hf2).mono ?_
    rintro e u' w3 ⟨rfl, rfl, rfl⟩
    obtain ⟨q0, q1⟩ := box2 (set_heap1 (set_heap hf2 (.int .i64 40)) (.int .i64 ((s.size : Int) - k)))
    simp [Leaves, settle, results, Tryz.results26, go_sem, q0, q1]
    unfold ReadPost; rw [HR.out]
    have hb2 : Below w.heap.size W1 w2 := k2.below (fun _ h => by omega) (by omega)
    exact ⟨rfl, ((hb1.trans hb2).setCell (p := ⟨w.heap.size, 0, none⟩) (Nat.le_refl _) _).setCell (p := ⟨w.heap.size, 1, none⟩) (Nat.le_refl _) _⟩
  | ok p =>
    obtain ⟨d, r⟩ := p
    unfold RdPost at hp; rw [hq] at hp
    obtain ⟨rfl, h2, k2⟩ := hp
    rw [hq] at HR
    have hf2 := (k2.block _ (by omega) (by omega)).trans hf1
    have hb2 : Below w.heap.size W1 w2 := k2.below (fun _ h => by omega) (by omega)
    obtain ⟨a, y1, y2, y3⟩ := h2.len
    obtain ⟨x0, x1⟩ := box2 y3
    obtain ⟨z0, z1⟩ := box2 hf2
    have f0 := froz_heap hf2 0; have f1 := froz_heap hf2 1
    have hl := heap_lt hf2
    have hbw := hb1.trans hb2
    have HF := Lib.hid hf2
    clear hq hf2 k2 hf1 ht1 hb1 hb2 hs1
    unfold strV
    go_wp2_with fail
    go_still_tail 8, (by kernel_rfl)
    change wpList _ _ _ _ _ w2.drew
    go_wp2
    refine leaves_cons (f := 84) (args := #[.pointer (some ⟨w.heap.size, 0, none⟩)]) (by simp) (by simp [go_sem]) ?_
    refine (read1_idle w.heap.size _).mono ?_
    rintro e u' w3 ⟨rfl, rfl, rfl⟩
    obtain ⟨q0, q1⟩ := box2 (set_heap1 (set_heap HF.out (.int .i64 0)) (.int .i64 0))
    simp [Leaves, settle, results, Tryz.results26, go_sem, q0, q1]
    unfold ReadPost; rw [HR.out]
    refine ⟨?_, ((hbw.setCell (p := ⟨w.heap.size, 0, none⟩) (Nat.le_refl _) _).setCell (p := ⟨w.heap.size, 1, none⟩) (Nat.le_refl _) _).drew⟩
    simp only [y2]; rfl

theorem read_any (s : ByteArray) (i : Int) (w : World) (hs : s.size ≤ 1099511627776) :
    Calls Tryz.prog 26 #[.string s, .int .i64 i] w (ReadPost s i w) := by
  by_cases hi : i < 0 ∨ (s.size : Int) < i
  · exact read_out s i w hs hi
  · have h0 : i = ((i.toNat : Nat) : Int) := by omega
    rw [h0]
    exact read_in s i.toNat w hs (by omega)
end Go.Proofs.YtdpmjlkmjmookaaGreatDoor
