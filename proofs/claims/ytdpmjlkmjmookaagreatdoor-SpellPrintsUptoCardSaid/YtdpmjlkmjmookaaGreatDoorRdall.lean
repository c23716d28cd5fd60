/-
  Package spell: read (a whole changeset), walked.
-/
import Derived.Test.YtdpmjlkmjmookaaGreatDoorRead
namespace Go.Proofs.YtdpmjlkmjmookaaGreatDoor
open Go.RowKit Go.PlainAid

def opsF : Nat → List UInt8 → Except Nat (List OpM)
  | 0, l => .error l.length
  | n + 1, l => if l = [] then .ok [] else match opM l with
    | .error k => .error k
    | .ok (o, r) => match opsF n r with
      | .error k => .error k
      | .ok os => .ok (o :: os)
def rawM (l : List UInt8) : Except Nat (Int × List OpM) := match numberM l with
  | .error k => .error k
  | .ok (f, r) => match opsF (r.length + 1) r with
    | .error k => .error k
    | .ok os => .ok (f, os)
def pushO (acc : List OpM) : Except Nat (List OpM) → Except Nat (List OpM)
  | .error k => .error k
  | .ok d => .ok (acc ++ d)
theorem pushO_nil (x : Except Nat (List OpM)) : pushO [] x = x := by cases x <;> simp [pushO]
theorem attrsF_len {n : Nat} : ∀ {l r : List UInt8} {d : List At}, attrsF n l = .ok (d, r) → r.length < l.length := by
  induction n with
  | zero => intro l r d h; cases h
  | succ n ih =>
    intro l r d h
    unfold attrsF at h
    split at h
    · cases h
    · rename_i key r1 h1
      obtain ⟨_, _, q3⟩ := runM_ok h1
      have hl : key.length + r1.length = l.length := by rw [← q3]; simp
      split at h
      · split at h
        · cases h
        · rename_i v r2 h2
          have hq := quotedM_len h2
          simp only [List.length_tail] at hq
          split at h
          · injection h with h; injection h with h3 h4; subst h4; simp only [List.length_tail]; omega
          · split at h
            · split at h
              · cases h
              · rename_i m r3 h5
                have := ih h5
                simp only [List.length_tail] at this
                injection h with h; injection h with h3 h4; subst h4; omega
            · cases h
      · cases h
theorem attrsM_len {l r : List UInt8} {d : List At} (h : attrsM l = .ok (d, r)) : r.length ≤ l.length := by
  unfold attrsM at h
  split at h
  · have := attrsF_len h; simp only [List.length_tail] at this; omega
  · injection h with h; injection h with h3 h4; subst h4; exact Nat.le_refl _
theorem numberM_len {l r : List UInt8} {n : Int} (h : numberM l = .ok (n, r)) : r.length < l.length := by
  unfold numberM at h
  split at h
  · cases h
  · rename_i d r1 h1
    obtain ⟨q1, _, q3⟩ := runM_ok h1
    have hl : d.length + r1.length = l.length := by rw [← q3]; simp
    have : 0 < d.length := List.length_pos_iff.2 q1
    split at h
    · cases h
    · injection h with h; injection h with h3 h4; subst h4; omega
theorem opM_len {l r : List UInt8} {o : OpM} (h : opM l = .ok (o, r)) : r.length < l.length := by
  have ht : ∀ (x : List UInt8), x.tail.length ≤ x.length := fun x => by simp
  have h1 := ht l; have h2 := ht l.tail
  unfold opM at h
  split at h
  · split at h
    · unfold opKeep at h
      split at h
      · cases h
      · rename_i n r1 e1
        have := numberM_len e1
        split at h
        · cases h
        · rename_i a r2 e2
          have := attrsM_len e2
          injection h with h; injection h with h3 h4; subst h4; omega
    · split at h
      · unfold opIns at h
        split at h
        · cases h
        · rename_i n r1 e1
          have := quotedM_len e1
          split at h
          · cases h
          · rename_i a r2 e2
            have := attrsM_len e2
            injection h with h; injection h with h3 h4; subst h4; omega
      · split at h
        · unfold opDel at h
          split at h
          · cases h
          · rename_i n r1 e1
            have := numberM_len e1
            injection h with h; injection h with h3 h4; subst h4; omega
        · cases h
  · cases h

/-! ### The deferred closure -/
theorem readD_panics (b c : Nat) (k : Int) (x y x2 y2 : Value) (t t2 : TypeId) (older : List PanicEntry) (w : World) (h : w.heap[b]? = some (.cells #[x, y] t (0, 0))) (h2 : w.heap[c]? = some (.cells #[x2, y2] t2 (0, 0))) (hbc : b ≠ c) :
    CallsD Tryz.prog 123 #[.pointer (some ⟨b, 0, none⟩), .pointer (some ⟨c, 0, none⟩)] (.panicking ({ v := .iface 160 (.int .i64 k), recovered := false } :: older)) w fun e u' w' =>
      e = .returned (.tuple #[]) ∧ u' = .panicking ({ v := .iface 160 (.int .i64 k), recovered := true } :: older) ∧ w' = (((w.setCell ⟨b, 0, none⟩ (.int .i64 40)).setCell ⟨b, 1, none⟩ (.int .i64 k)).setCell ⟨c, 0, none⟩ (.int .i64 0)).setCell ⟨c, 1, none⟩ (.slice none 0 0) := by
  have hent := entTold
  refine callsD_of_wpS Tryz.func123 rfl fun c₀ cs hu => ?_
  apply wpS_seq
  apply wpS_region
  simp [wpOpsS, go_sem, recoverD, hu, Tryz.ntmps123, Exit.thenS]
  refine (told_wrong b k x y t w h).mono ?_
  rintro e w' ⟨rfl, rfl⟩
  obtain ⟨q0, q1⟩ := box2 (set_heap1 (set_heap h (.int .i64 40)) (.int .i64 k))
  have hc2 : ((w.setCell ⟨b, 0, none⟩ (.int .i64 40)).setCell ⟨b, 1, none⟩ (.int .i64 k)).heap[c]? = some (.cells #[x2, y2] t2 (0, 0)) := by
    rw [Below.heap_setCell _ ⟨b, 1, none⟩ _ _ (fun e => hbc e.symm), Below.heap_setCell _ ⟨b, 0, none⟩ _ _ (fun e => hbc e.symm)]; exact h2
  obtain ⟨z0, z1⟩ := box2 hc2
  have f0 := froz_heap hc2 0; have f1 := froz_heap hc2 1
  obtain ⟨z2, z3⟩ := box2 (set_heap hc2 (.int .i64 0))
  have f3 := froz_heap (set_heap hc2 (.int .i64 0)) 1
  dsimp only
  refine wpS_of_wp ?_
  change Code.wp _ _ _ { tmps := #[.pointer (some ⟨b, 0, none⟩), .pointer (some ⟨c, 0, none⟩), .iface 160 (.int .i64 k), .tuple #[], undef, undef, undef, undef], defers := [] } _
  go_wp2
  simp [bodyPostS, results, Tryz.results123, go_sem]
theorem readD_idle (b c : Nat) (y : Value) (t : TypeId) (w : World) (h : w.heap[b]? = some (.cells #[.int .i64 0, y] t (0, 0))) :
    CallsD Tryz.prog 123 #[.pointer (some ⟨b, 0, none⟩), .pointer (some ⟨c, 0, none⟩)] .returning w fun e u' w' => e = .returned (.tuple #[]) ∧ u' = .returning ∧ w' = w := by
  have hent := entTold
  refine callsD_of_wpS Tryz.func123 rfl fun c₀ cs hu => ?_
  apply wpS_seq
  apply wpS_region
  simp [wpOpsS, go_sem, recoverD, hu, Tryz.ntmps123, Exit.thenS]
  refine (told_nil b w).mono ?_
  rintro e w' ⟨rfl, rfl⟩
  obtain ⟨q0, q1⟩ := box2 h
  dsimp only
  refine wpS_of_wp ?_
  change Code.wp _ _ _ { tmps := #[.pointer (some ⟨b, 0, none⟩), .pointer (some ⟨c, 0, none⟩), .nilIface, .tuple #[], undef, undef, undef, undef], defers := [] } _
  go_wp2
  cases c₀
  simp_all [bodyPostS, results, Tryz.results123, go_sem]
end Go.Proofs.YtdpmjlkmjmookaaGreatDoor
