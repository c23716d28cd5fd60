/-
  Package spell: Read: the deferred closure that recovers, and the walk.
  Package spell: Read, walked.
  Package spell: read (a whole changeset), walked.
  Package spell: read (a whole changeset), walked: the walk.
-/
import Derived.Test.YtdpmjlkmjmookaaGreatDoorRdb
import Derived.Defers
import Derived.Recover
namespace Go.Proofs.YtdpmjlkmjmookaaGreatDoor
section
set_option linter.unusedVariables false
set_option linter.unusedSimpArgs false
open Go.RowKit Go.PlainAid

theorem assertW (v : Value) (W : World) : (Instr.typeAssert (.iface 160 v) 20 160 true).run Tryz.prog W = .ok (.tuple #[v, .bool true]) W := by kernel_rfl
theorem told_nil (b : Nat) (w : World) :
    Calls Tryz.prog 85 #[.nilIface, .pointer (some ⟨b, 0, none⟩)] w fun e w' => e = .returned (.tuple #[]) ∧ w' = w := by
  go_enter Tryz.func85, Tryz.ntmps85
  go_wp2
  go_end0
  exact ⟨rfl, rfl⟩
set_option maxRecDepth 100000 in
theorem told_wrong (b : Nat) (k : Int) (x y : Value) (t : TypeId) (w : World) (h : w.heap[b]? = some (.cells #[x, y] t (0, 0))) :
    Calls Tryz.prog 85 #[.iface 160 (.int .i64 k), .pointer (some ⟨b, 0, none⟩)] w fun e w' => e = .returned (.tuple #[]) ∧ w' = (w.setCell ⟨b, 0, none⟩ (.int .i64 40)).setCell ⟨b, 1, none⟩ (.int .i64 k) := by
  obtain ⟨c0, c1⟩ := box2 h
  have f0 := froz_heap h 0; have f1 := froz_heap h 1
  have hl := heap_lt h
  clear h
  have hAs := assertW
  go_enter Tryz.func85, Tryz.ntmps85
  go_wp2
  first | go_end0 | refine bodyPost_ret (results_none rfl _ _ _) rfl ?_
  exact ⟨rfl, rfl⟩
theorem entTold : ∀ args w, (callFunc 85 args).run Tryz.prog w = .ok (.enter 85 args) w := enters_of Tryz.func85 (by kernel_rfl) rfl

theorem read1_panics (b : Nat) (k : Int) (x y : Value) (t : TypeId) (older : List PanicEntry) (w : World) (h : w.heap[b]? = some (.cells #[x, y] t (0, 0))) :
    CallsD Tryz.prog 84 #[.pointer (some ⟨b, 0, none⟩)] (.panicking ({ v := .iface 160 (.int .i64 k), recovered := false } :: older)) w fun e u' w' =>
      e = .returned (.tuple #[]) ∧ u' = .panicking ({ v := .iface 160 (.int .i64 k), recovered := true } :: older) ∧ w' = (w.setCell ⟨b, 0, none⟩ (.int .i64 40)).setCell ⟨b, 1, none⟩ (.int .i64 k) := by
  have hent := entTold
  refine callsD_of_wpS Tryz.func84 rfl fun c₀ cs hu => ?_
  apply wpS_region
  simp [wpOpsS, go_sem, recoverD, hu, Tryz.ntmps84, Exit.thenS]
  refine (told_wrong b k x y t w h).mono ?_
  rintro e w' ⟨rfl, rfl⟩
  simp [bodyPostS, results, Tryz.results84, go_sem]
theorem read1_idle (b : Nat) (w : World) :
    CallsD Tryz.prog 84 #[.pointer (some ⟨b, 0, none⟩)] .returning w fun e u' w' => e = .returned (.tuple #[]) ∧ u' = .returning ∧ w' = w := by
  have hent := entTold
  refine callsD_of_wpS Tryz.func84 rfl fun c₀ cs hu => ?_
  apply wpS_region
  simp [wpOpsS, go_sem, recoverD, hu, Tryz.ntmps84, Exit.thenS]
  refine (told_nil b w).mono ?_
  rintro e w' ⟨rfl, rfl⟩
  cases c₀
  simp_all [bodyPostS, results, Tryz.results84, go_sem]
end

section
set_option linter.unusedVariables false
set_option linter.unusedSimpArgs false
open Go.RowKit Go.PlainAid

def faultV (c k : Int) : Value := .agg #[.int .i64 c, .int .i64 k]
structure ReadR where
  out : List UInt8
  end_ : Int
  code : Int
  at_ : Int
  deriving DecidableEq
def readM (s : ByteArray) (i : Int) : ReadR :=
  if i < 0 ∨ (s.size : Int) < i then ⟨[], 0, 1, -1⟩ else match quotedM (s.data.toList.drop i.toNat) with
    | .ok (d, r) => ⟨d, (s.size : Int) - r.length, 0, 0⟩
    | .error k => ⟨[], 0, 40, (s.size : Int) - k⟩
def ReadPost (s : ByteArray) (i : Int) (w : World) (e : Ending) (w' : World) : Prop :=
  e = .returned (.tuple #[.string (mkB (readM s i).out), .int .i64 (readM s i).end_, faultV (readM s i).code (readM s i).at_]) ∧ Below w.heap.size w w'

set_option maxHeartbeats 4000000 in
theorem read_out (s : ByteArray) (i : Int) (w : World) (hs : s.size ≤ 1099511627776) (hi : i < 0 ∨ (s.size : Int) < i) :
    Calls Tryz.prog 26 #[.string s, .int .i64 i] w (ReadPost s i w) := by
  have hmf : ∀ (fn : Fn) (first cap : Array Value) (w : World), (Instr.makeFunc fn first cap).run Tryz.prog w = .ok (.func fn first cap) w := fun _ _ _ _ => rfl
  have hR : readM s i = ⟨[], 0, 1, -1⟩ := by unfold readM; rw [if_pos hi]
  have HR := Lib.hid hR; clear hR
  by_cases h0 : i < 0
  case' pos => have hd : decide (i < 0) = true := by simpa using h0
  case' neg =>
    have hd : decide (i < 0) = false := by simpa using h0
    have hd2 : decide ((s.size : Int) < i) = true := by simp; omega
  all_goals
    go_enter_defers Tryz.func26, Tryz.ntmps26
    go_wp2_with fail
    have hq := heap_alloc_new w (.cells #[.int .i64 1, .int .i64 (-1)] 32)
    obtain ⟨q0, q1⟩ := box2 hq
    simp [bodyPostD, Leaves, settle, results, Tryz.results26, go_sem, q0, q1]
    unfold ReadPost; rw [HR.out]
    exact ⟨rfl, (Below.refl _ w).alloc (Nat.le_refl _) _⟩

set_option maxRecDepth 100000 in
set_option maxHeartbeats 4000000 in
theorem read_in (s : ByteArray) (i : Nat) (w : World) (hs : s.size ≤ 1099511627776) (hi : i ≤ s.size) :
    Calls Tryz.prog 26 #[.string s, .int .i64 (i : Int)] w (ReadPost s i w) := by
  have hmf : ∀ (fn : Fn) (first cap : Array Value) (w : World), (Instr.makeFunc fn first cap).run Tryz.prog w = .ok (.func fn first cap) w := fun _ _ _ _ => rfl
  have hR : readM s i = match quotedM (s.data.toList.drop i) with
    | .ok (d, r) => ⟨d, (s.size : Int) - r.length, 0, 0⟩
    | .error k => ⟨[], 0, 40, (s.size : Int) - k⟩ := by unfold readM; rw [if_neg (by omega)]; rfl
  have HR := Lib.hid hR; clear hR
  have hd : decide ((i : Int) < 0) = false := by simp
  have hd2 : decide ((s.size : Int) < (i : Int)) = false := by simp; omega
  go_enter_defers Tryz.func26, Tryz.ntmps26
  go_wp2_with fail
  obtain ⟨W1, hW1⟩ : ∃ W1, (w.alloc (.cells #[.int .i64 0, .int .i64 0] 32)).alloc (.cells #[.string s, .int .i64 (i : Int)] 115) = W1 := ⟨_, rfl⟩
  have hb1 : Below w.heap.size w W1 := by rw [← hW1]; exact ((Below.refl _ w).alloc (Nat.le_refl _) _).alloc (by simp) _
  have hs1 : W1.heap.size = w.heap.size + 2 := by rw [← hW1]; simp
  have hf1 : W1.heap[w.heap.size]? = some (.cells #[.int .i64 0, .int .i64 0] 32 (0, 0)) := by
    rw [← hW1, Below.heap_alloc _ _ _ (by simp)]; exact heap_alloc_new w _
  have ht1 : Txt (w.heap.size + 1) s (s.data.toList.drop i) W1 := ⟨i, hi, rfl, by
    rw [← hW1]; have := heap_alloc_new (w.alloc (.cells #[.int .i64 0, .int .i64 0] 32)) (.cells #[.string s, .int .i64 (i : Int)] 115); simpa using this⟩
  rw [hW1]; clear hW1
  refine (rdQuoted_any (w.heap.size + 1) s (s.data.toList.drop i) W1 ht1 hs).mono ?_
  intro e w2 hp
  cases hq : quotedM (s.data.toList.drop i) with
  | error k =>
    unfold RdPost at hp; rw [hq] at hp
    obtain ⟨rfl, k2⟩ := hp
    rw [hq] at HR
    have hf2 := (k2.block _ (by omega) (by omega)).trans hf1
    unfold wrongE
    refine leaves_cons (f := 84) (args := #[.pointer (some ⟨w.heap.size, 0, none⟩)]) (by simp) (by simp [go_sem]) ?_
    refine (read1_panics w.heap.size _ _ _ _ [] _ hf2).mono ?_
    rintro e u' w3 ⟨rfl, rfl, rfl⟩
    obtain ⟨q0, q1⟩ := box2 (set_heap1 (set_heap hf2 (.int .i64 40)) (.int .i64 ((s.size : Int) - k)))
    simp [Leaves, settle, results, Tryz.results26, go_sem, q0, q1]
    unfold ReadPost; rw [HR.out]
    have hb2 : Below w.heap.size W1 w2 := k2.below (fun _ h => by omega) (by omega)
    exact ⟨rfl, ((hb1.trans hb2).setCell (p := ⟨w.heap.size, 0, none⟩) (Nat.le_refl _) _).setCell (p := ⟨w.heap.size, 1, none⟩) (Nat.le_refl _) _⟩
  | ok p =>
    obtain ⟨d, r⟩ := p
    unfold RdPost at hp; rw [hq] at hp
    obtain ⟨rfl, h2, k2⟩ := hp
    rw [hq] at HR
    have hf2 := (k2.block _ (by omega) (by omega)).trans hf1
    have hb2 : Below w.heap.size W1 w2 := k2.below (fun _ h => by omega) (by omega)
    obtain ⟨a, y1, y2, y3⟩ := h2.len
    obtain ⟨x0, x1⟩ := box2 y3
    obtain ⟨z0, z1⟩ := box2 hf2
    have f0 := froz_heap hf2 0; have f1 := froz_heap hf2 1
    have hl := heap_lt hf2
    have hbw := hb1.trans hb2
    have HF := Lib.hid hf2
    clear hq hf2 k2 hf1 ht1 hb1 hb2 hs1
    unfold strV
    go_wp2_with fail
    go_still_tail 8, (by kernel_rfl)
    change wpList _ _ _ _ _ w2.drew
    go_wp2
    refine leaves_cons (f := 84) (args := #[.pointer (some ⟨w.heap.size, 0, none⟩)]) (by simp) (by simp [go_sem]) ?_
    refine (read1_idle w.heap.size _).mono ?_
    rintro e u' w3 ⟨rfl, rfl, rfl⟩
    obtain ⟨q0, q1⟩ := box2 (set_heap1 (set_heap HF.out (.int .i64 0)) (.int .i64 0))
    simp [Leaves, settle, results, Tryz.results26, go_sem, q0, q1]
    unfold ReadPost; rw [HR.out]
    refine ⟨?_, ((hbw.setCell (p := ⟨w.heap.size, 0, none⟩) (Nat.le_refl _) _).setCell (p := ⟨w.heap.size, 1, none⟩) (Nat.le_refl _) _).drew⟩
    simp only [y2]; rfl

theorem read_any (s : ByteArray) (i : Int) (w : World) (hs : s.size ≤ 1099511627776) :
    Calls Tryz.prog 26 #[.string s, .int .i64 i] w (ReadPost s i w) := by
  by_cases hi : i < 0 ∨ (s.size : Int) < i
  · exact read_out s i w hs hi
  · have h0 : i = ((i.toNat : Nat) : Int) := by omega
    rw [h0]
    exact read_in s i.toNat w hs (by omega)
end

section
open Go.RowKit Go.PlainAid

def opsF : Nat → List UInt8 → Except Nat (List OpM)
  | 0, l => .error l.length
  | n + 1, l => if l = [] then .ok [] else match opM l with
    | .error k => .error k
    | .ok (o, r) => match opsF n r with
      | .error k => .error k
      | .ok os => .ok (o :: os)
def rawM (l : List UInt8) : Except Nat (Int × List OpM) := match numberM l with
  | .error k => .error k
  | .ok (f, r) => match opsF (r.length + 1) r with
    | .error k => .error k
    | .ok os => .ok (f, os)
def pushO (acc : List OpM) : Except Nat (List OpM) → Except Nat (List OpM)
  | .error k => .error k
  | .ok d => .ok (acc ++ d)
theorem pushO_nil (x : Except Nat (List OpM)) : pushO [] x = x := by cases x <;> simp [pushO]
theorem attrsF_len {n : Nat} : ∀ {l r : List UInt8} {d : List At}, attrsF n l = .ok (d, r) → r.length < l.length := by
  induction n with
  | zero => intro l r d h; cases h
  | succ n ih =>
    intro l r d h
    unfold attrsF at h
    split at h
    · cases h
    · rename_i key r1 h1
      obtain ⟨_, _, q3⟩ := runM_ok h1
      have hl : key.length + r1.length = l.length := by rw [← q3]; simp
      split at h
      · split at h
        · cases h
        · rename_i v r2 h2
          have hq := quotedM_len h2
          simp only [List.length_tail] at hq
          split at h
          · injection h with h; injection h with h3 h4; subst h4; simp only [List.length_tail]; omega
          · split at h
            · split at h
              · cases h
              · rename_i m r3 h5
                have := ih h5
                simp only [List.length_tail] at this
                injection h with h; injection h with h3 h4; subst h4; omega
            · cases h
      · cases h
theorem attrsM_len {l r : List UInt8} {d : List At} (h : attrsM l = .ok (d, r)) : r.length ≤ l.length := by
  unfold attrsM at h
  split at h
  · have := attrsF_len h; simp only [List.length_tail] at this; omega
  · injection h with h; injection h with h3 h4; subst h4; exact Nat.le_refl _
theorem numberM_len {l r : List UInt8} {n : Int} (h : numberM l = .ok (n, r)) : r.length < l.length := by
  unfold numberM at h
  split at h
  · cases h
  · rename_i d r1 h1
    obtain ⟨q1, _, q3⟩ := runM_ok h1
    have hl : d.length + r1.length = l.length := by rw [← q3]; simp
    have : 0 < d.length := List.length_pos_iff.2 q1
    split at h
    · cases h
    · injection h with h; injection h with h3 h4; subst h4; omega
theorem opM_len {l r : List UInt8} {o : OpM} (h : opM l = .ok (o, r)) : r.length < l.length := by
  have ht : ∀ (x : List UInt8), x.tail.length ≤ x.length := fun x => by simp
  have h1 := ht l; have h2 := ht l.tail
  unfold opM at h
  split at h
  · split at h
    · unfold opKeep at h
      split at h
      · cases h
      · rename_i n r1 e1
        have := numberM_len e1
        split at h
        · cases h
        · rename_i a r2 e2
          have := attrsM_len e2
          injection h with h; injection h with h3 h4; subst h4; omega
    · split at h
      · unfold opIns at h
        split at h
        · cases h
        · rename_i n r1 e1
          have := quotedM_len e1
          split at h
          · cases h
          · rename_i a r2 e2
            have := attrsM_len e2
            injection h with h; injection h with h3 h4; subst h4; omega
      · split at h
        · unfold opDel at h
          split at h
          · cases h
          · rename_i n r1 e1
            have := numberM_len e1
            injection h with h; injection h with h3 h4; subst h4; omega
        · cases h
  · cases h

/-! ### The deferred closure -/
theorem readD_panics (b c : Nat) (k : Int) (x y x2 y2 : Value) (t t2 : TypeId) (older : List PanicEntry) (w : World) (h : w.heap[b]? = some (.cells #[x, y] t (0, 0))) (h2 : w.heap[c]? = some (.cells #[x2, y2] t2 (0, 0))) (hbc : b ≠ c) :
    CallsD Tryz.prog 123 #[.pointer (some ⟨b, 0, none⟩), .pointer (some ⟨c, 0, none⟩)] (.panicking ({ v := .iface 160 (.int .i64 k), recovered := false } :: older)) w fun e u' w' =>
      e = .returned (.tuple #[]) ∧ u' = .panicking ({ v := .iface 160 (.int .i64 k), recovered := true } :: older) ∧ w' = (((w.setCell ⟨b, 0, none⟩ (.int .i64 40)).setCell ⟨b, 1, none⟩ (.int .i64 k)).setCell ⟨c, 0, none⟩ (.int .i64 0)).setCell ⟨c, 1, none⟩ (.slice none 0 0) := by
  have hent := entTold
  refine callsD_of_wpS Tryz.func123 rfl fun c₀ cs hu => ?_
  apply wpS_seq
  apply wpS_region
  simp [wpOpsS, go_sem, recoverD, hu, Tryz.ntmps123, Exit.thenS]
  refine (told_wrong b k x y t w h).mono ?_
  rintro e w' ⟨rfl, rfl⟩
  obtain ⟨q0, q1⟩ := box2 (set_heap1 (set_heap h (.int .i64 40)) (.int .i64 k))
  have hc2 : ((w.setCell ⟨b, 0, none⟩ (.int .i64 40)).setCell ⟨b, 1, none⟩ (.int .i64 k)).heap[c]? = some (.cells #[x2, y2] t2 (0, 0)) := by
    rw [Below.heap_setCell _ ⟨b, 1, none⟩ _ _ (fun e => hbc e.symm), Below.heap_setCell _ ⟨b, 0, none⟩ _ _ (fun e => hbc e.symm)]; exact h2
  obtain ⟨z0, z1⟩ := box2 hc2
  have f0 := froz_heap hc2 0; have f1 := froz_heap hc2 1
  obtain ⟨z2, z3⟩ := box2 (set_heap hc2 (.int .i64 0))
  have f3 := froz_heap (set_heap hc2 (.int .i64 0)) 1
  dsimp only
  refine wpS_of_wp ?_
  change Code.wp _ _ _ { tmps := #[.pointer (some ⟨b, 0, none⟩), .pointer (some ⟨c, 0, none⟩), .iface 160 (.int .i64 k), .tuple #[], undef, undef, undef, undef], defers := [] } _
  go_wp2
  simp [bodyPostS, results, Tryz.results123, go_sem]
theorem readD_idle (b c : Nat) (y : Value) (t : TypeId) (w : World) (h : w.heap[b]? = some (.cells #[.int .i64 0, y] t (0, 0))) :
    CallsD Tryz.prog 123 #[.pointer (some ⟨b, 0, none⟩), .pointer (some ⟨c, 0, none⟩)] .returning w fun e u' w' => e = .returned (.tuple #[]) ∧ u' = .returning ∧ w' = w := by
  have hent := entTold
  refine callsD_of_wpS Tryz.func123 rfl fun c₀ cs hu => ?_
  apply wpS_seq
  apply wpS_region
  simp [wpOpsS, go_sem, recoverD, hu, Tryz.ntmps123, Exit.thenS]
  refine (told_nil b w).mono ?_
  rintro e w' ⟨rfl, rfl⟩
  obtain ⟨q0, q1⟩ := box2 h
  dsimp only
  refine wpS_of_wp ?_
  change Code.wp _ _ _ { tmps := #[.pointer (some ⟨b, 0, none⟩), .pointer (some ⟨c, 0, none⟩), .nilIface, .tuple #[], undef, undef, undef, undef], defers := [] } _
  go_wp2
  cases c₀
  simp_all [bodyPostS, results, Tryz.results123, go_sem]
end

section
open Go.RowKit Go.PlainAid

/-! ### Operations of the call's own, and their attributes -/
def OwnA (w : World) (lo : Nat) (p : Item) : Prop := w.ownsRow lo 89 2 p.2 p.1.attrs.length (flat cellsA p.1.attrs)
def OwnIS (w : World) (lo : Nat) (v : Value) (items : List Item) : Prop := w.ownsRow lo 48 4 v items.length (flat cellsP items) ∧ (∀ p ∈ items, OwnItem w lo p ∧ OwnA w lo p) ∧ items.Pairwise (fun p q => ∀ k, p.2.ownBlock = some k → q.2.ownBlock ≠ some k)
def OwnS (w : World) (lo : Nat) (v : Value) (ops : List OpM) : Prop := ∃ items : List Item, items.map Prod.fst = ops ∧ OwnIS w lo v items
theorem OwnA.agree {w w' : World} {lo : Nat} {p : Item} (h : OwnA w lo p) (hw : ∀ k, lo ≤ k → TyA w k → w'.heap[k]? = w.heap[k]?) : OwnA w' lo p := by
  have hb : ∀ k, p.2.ownBlock = some k → w'.heap[k]? = w.heap[k]? := fun k hk => hw k (h.lt k hk).1 (own_kind h k hk)
  refine ⟨h.1, ?_⟩
  rcases h.2 with hn | ⟨g, cap, cur, hv, hg, hh, rest⟩
  · exact .inl hn
  · exact .inr ⟨g, cap, cur, hv, hg, (hb g (by rw [hv]; rfl)).trans hh, rest⟩
theorem OwnS.own {w : World} {lo : Nat} {v : Value} {ops : List OpM} (h : OwnS w lo v ops) : OwnO w lo v ops := by
  obtain ⟨items, e, ho, hi⟩ := h
  exact ⟨items, e, ho, fun p hp => (hi.1 p hp).1⟩
theorem OwnS.agree {w w' : World} {lo : Nat} {v : Value} {ops : List OpM} (h : OwnS w lo v ops) (hr : ∀ k, v.ownBlock = some k → w'.heap[k]? = w.heap[k]?) (ha : ∀ k, lo ≤ k → TyA w k → w'.heap[k]? = w.heap[k]?) : OwnS w' lo v ops := by
  obtain ⟨items, e, ho, hi⟩ := h
  refine ⟨items, e, ⟨ho.1, ?_⟩, fun p hp => ⟨(hi.1 p hp).1.agree ha, (hi.1 p hp).2.agree ha⟩, hi.2⟩
  rcases ho.2 with hn | ⟨g, cap, cur, hv, hg, hh, rest⟩
  · exact .inl hn
  · exact .inr ⟨g, cap, cur, hv, hg, (hr g (by rw [hv]; rfl)).trans hh, rest⟩
theorem OwnS.lt {w : World} {lo : Nat} {v : Value} {ops : List OpM} (h : OwnS w lo v ops) : ∀ k, v.ownBlock = some k → lo ≤ k ∧ k < w.heap.size := by obtain ⟨items, e, ho, hi⟩ := h; exact ho.lt
theorem OwnS.lo {w : World} {a b : Nat} {v : Value} {ops : List OpM} (h : OwnS w a v ops) (hb : b ≤ a) : OwnS w b v ops := by
  obtain ⟨items, e, ho, hi⟩ := h
  exact ⟨items, e, own_lo0 ho hb, fun p hp => ⟨⟨(hi.1 p hp).1.1.mono fun k hk _ => ⟨Nat.le_trans hb hk.1, hk.2⟩, (hi.1 p hp).1.2⟩, own_lo0 (hi.1 p hp).2 hb⟩, hi.2⟩

def RawPost (s : ByteArray) (w : World) (e : Ending) (w' : World) : Prop := match rawM s.data.toList with
  | .error k => e = .returned (.tuple #[.agg #[.int .i64 0, .slice none 0 0], faultV 40 ((s.size : Int) - k)]) ∧ Below w.heap.size w w'
  | .ok (f, ops) => ∃ v, e = .returned (.tuple #[.agg #[.int .i64 f, v], faultV 0 0]) ∧ Below w.heap.size w w' ∧ OwnS w' w.heap.size v ops

theorem raw_err {b c : Nat} {w w2 w3 : World} {v1 v2 : Value} {t t2 : TypeId} (k : Int) (hb : b = w.heap.size) (hc : c = w.heap.size + 1)
    (h1 : w2.heap[c]? = some (.cells #[.int .i64 0, .int .i64 0] t (0, 0))) (h2 : w2.heap[b]? = some (.cells #[v1, v2] t2 (0, 0))) (hbw : Below w.heap.size w w2)
    (h3 : w3 = (((w2.setCell ⟨c, 0, none⟩ (.int .i64 40)).setCell ⟨c, 1, none⟩ (.int .i64 k)).setCell ⟨b, 0, none⟩ (.int .i64 0)).setCell ⟨b, 1, none⟩ (.slice none 0 0)) :
    w3.heap[c]? = some (.cells #[.int .i64 40, .int .i64 k] t (0, 0)) ∧ w3.heap[b]? = some (.cells #[.int .i64 0, .slice none 0 0] t2 (0, 0)) ∧ Below w.heap.size w w3 := by
  subst h3 hb hc
  have hne : w.heap.size + 1 ≠ w.heap.size := by omega
  refine ⟨?_, ?_, ?_⟩
  · rw [Below.heap_setCell _ ⟨w.heap.size, 1, none⟩ _ _ hne, Below.heap_setCell _ ⟨w.heap.size, 0, none⟩ _ _ hne]
    exact set_heap1 (set_heap h1 _) _
  · refine set_heap1 (a := .int .i64 0) (b := v2) (set_heap (a := v1) (b := v2) ?_ _) _
    rw [Below.heap_setCell _ ⟨w.heap.size + 1, 1, none⟩ _ _ hne.symm, Below.heap_setCell _ ⟨w.heap.size + 1, 0, none⟩ _ _ hne.symm]; exact h2
  · exact (((hbw.setCell (p := ⟨w.heap.size + 1, 0, none⟩) (by simp) _).setCell (p := ⟨w.heap.size + 1, 1, none⟩) (by simp) _).setCell (p := ⟨w.heap.size, 0, none⟩) (by simp) _).setCell (p := ⟨w.heap.size, 1, none⟩) (by simp) _

theorem rdOp_ok (g : Nat) (s : ByteArray) (l : List UInt8) (w : World) (hx : Txt g s l w) (hs : s.size ≤ 1099511627776) {o : OpM} {r : List UInt8} (h : opM l = .ok (o, r)) :
    Calls Tryz.prog 125 #[.pointer (some ⟨g, 0, none⟩)] w fun e w' => ∃ va, e = .returned (opV o va) ∧ RdAS w' w.heap.size va o.attrs ∧ o.text.size ≤ s.size ∧ Txt g s r w' ∧ KpG g w w' := by
  refine (rdOp_any g s l w hx hs).mono fun e w' hp => ?_
  unfold OpPost at hp; rw [h] at hp; exact hp
theorem rdOp_err (g : Nat) (s : ByteArray) (l : List UInt8) (w : World) (hx : Txt g s l w) (hs : s.size ≤ 1099511627776) {k : Nat} (h : opM l = .error k) :
    Calls Tryz.prog 125 #[.pointer (some ⟨g, 0, none⟩)] w fun e w' => e = wrongE k s ∧ KpG g w w' := by
  refine (rdOp_any g s l w hx hs).mono fun e w' hp => ?_
  unfold OpPost at hp; rw [h] at hp; exact hp

theorem raw_panic (s : ByteArray) {w w2 : World} {v1 v2 : Value} {t2 t : TypeId} {k : Nat} (hR : rawM s.data.toList = .error k) (a : Act)
    (hd : a.defers = [{ target := .fn (.func 123) #[.pointer (some ⟨w.heap.size + 1, 0, none⟩), .pointer (some ⟨w.heap.size, 0, none⟩)], args := #[] }])
    (ha2 : a.tmps[2]? = some (.pointer (some ⟨w.heap.size, 0, none⟩))) (ha3 : a.tmps[3]? = some (.pointer (some ⟨w.heap.size + 1, 0, none⟩)))
    (hf2 : w2.heap[w.heap.size + 1]? = some (.cells #[.int .i64 0, .int .i64 0] t (0, 0))) (hc2 : w2.heap[w.heap.size]? = some (.cells #[v1, v2] t2 (0, 0))) (hbw2 : Below w.heap.size w w2) :
    bodyPostD Tryz.prog Tryz.f75 (RawPost s w) (Exit.panic [{ v := .iface 160 (.int .i64 ((s.size : Int) - k)), recovered := false }]) a w2 := by
  obtain ⟨tmps, defers⟩ := a
  simp only at hd ha2 ha3
  subst hd
  refine leaves_cons (f := 123) (args := #[.pointer (some ⟨w.heap.size + 1, 0, none⟩), .pointer (some ⟨w.heap.size, 0, none⟩)]) (by simp) (by simp [go_sem]) ?_
  refine (readD_panics (w.heap.size + 1) w.heap.size _ _ _ _ _ _ _ [] _ hf2 hc2 (by omega)).mono ?_
  rintro e u' w3 ⟨rfl, rfl, h3⟩
  obtain ⟨z1, z2, z3⟩ := raw_err _ rfl rfl hf2 hc2 hbw2 h3
  clear h3
  obtain ⟨q0, q1⟩ := box2 z1
  obtain ⟨q2, q3⟩ := box2 z2
  simp [Leaves, settle, results, Tryz.results75, go_sem, ha2, ha3, q0, q1, q2, q3]
  unfold RawPost; rw [hR]
  exact ⟨rfl, z3⟩

theorem own_lo {w : World} {a b : Nat} {e : TypeId} {size n : Nat} {v : Value} {xs : List Value} (h : w.ownsRow a e size v n xs) (hb : b ≤ a) : w.ownsRow b e size v n xs := by
  refine ⟨h.1, ?_⟩
  rcases h.2 with hn | ⟨g, cap, cur, hv, hg, rest⟩
  · exact .inl hn
  · exact .inr ⟨g, cap, cur, hv, Nat.le_trans hb hg, rest⟩
theorem raw_fin {w wr : World} {f : Int} {v : Value} {acc : List OpM}
    (hC : wr.heap[w.heap.size]? = some (.cells #[.int .i64 f, v] 24 (0, 0))) (hF : wr.heap[w.heap.size + 1]? = some (.cells #[.int .i64 0, .int .i64 0] 32 (0, 0)))
    (hb : Below w.heap.size w wr) (hO : OwnS wr (w.heap.size + 3) v acc) :
    let w5 := ((((wr.setCell ⟨w.heap.size, 0, none⟩ (.int .i64 f)).setCell ⟨w.heap.size, 1, none⟩ v).setCell ⟨w.heap.size + 1, 0, none⟩ (.int .i64 0)).setCell ⟨w.heap.size + 1, 1, none⟩ (.int .i64 0)).drew
    w5.heap[w.heap.size]? = some (.cells #[.int .i64 f, v] 24 (0, 0)) ∧ w5.heap[w.heap.size + 1]? = some (.cells #[.int .i64 0, .int .i64 0] 32 (0, 0)) ∧ Below w.heap.size w w5 ∧ OwnS w5 w.heap.size v acc := by
  intro w5
  have hne : w.heap.size ≠ w.heap.size + 1 := by omega
  have hag : ∀ k, w.heap.size + 3 ≤ k → w5.heap[k]? = wr.heap[k]? := fun k hk => by
    show ((((wr.setCell ⟨w.heap.size, 0, none⟩ (.int .i64 f)).setCell ⟨w.heap.size, 1, none⟩ v).setCell ⟨w.heap.size + 1, 0, none⟩ (.int .i64 0)).setCell ⟨w.heap.size + 1, 1, none⟩ (.int .i64 0)).heap[k]? = _
    rw [Below.heap_setCell _ ⟨w.heap.size + 1, 1, none⟩ _ _ (by show k ≠ w.heap.size + 1; omega), Below.heap_setCell _ ⟨w.heap.size + 1, 0, none⟩ _ _ (by show k ≠ w.heap.size + 1; omega), Below.heap_setCell _ ⟨w.heap.size, 1, none⟩ _ _ (by show k ≠ w.heap.size; omega), Below.heap_setCell _ ⟨w.heap.size, 0, none⟩ _ _ (by show k ≠ w.heap.size; omega)]
  refine ⟨?_, ?_, ?_, ?_⟩
  · show ((((wr.setCell ⟨w.heap.size, 0, none⟩ (.int .i64 f)).setCell ⟨w.heap.size, 1, none⟩ v).setCell ⟨w.heap.size + 1, 0, none⟩ (.int .i64 0)).setCell ⟨w.heap.size + 1, 1, none⟩ (.int .i64 0)).heap[w.heap.size]? = _
    rw [Below.heap_setCell _ ⟨w.heap.size + 1, 1, none⟩ _ _ hne, Below.heap_setCell _ ⟨w.heap.size + 1, 0, none⟩ _ _ hne]
    exact set_heap1 (set_heap hC _) _
  · refine set_heap1 (a := .int .i64 0) (b := .int .i64 0) (set_heap (a := .int .i64 0) (b := .int .i64 0) ?_ _) _
    rw [Below.heap_setCell _ ⟨w.heap.size, 1, none⟩ _ _ hne.symm, Below.heap_setCell _ ⟨w.heap.size, 0, none⟩ _ _ hne.symm]; exact hF
  · exact ((((hb.setCell (p := ⟨w.heap.size, 0, none⟩) (Nat.le_refl _) _).setCell (p := ⟨w.heap.size, 1, none⟩) (Nat.le_refl _) _).setCell (p := ⟨w.heap.size + 1, 0, none⟩) (by simp) _).setCell (p := ⟨w.heap.size + 1, 1, none⟩) (by simp) _).drew
  · have h1 : OwnS w5 (w.heap.size + 3) v acc := hO.agree (fun k hk => hag k (hO.lt k hk).1) (fun k hk _ => hag k hk)
    exact h1.lo (by omega)
theorem raw_c3 {w wr w4 w3 : World} {f : Int} {v : Value} {o1 : Obj} (hC : wr.heap[w.heap.size]? = some (.cells #[.int .i64 f, v] 24 (0, 0)))
    (hlt : ∀ k, v.ownBlock = some k → w.heap.size + 3 ≤ k) (k4 : KpG (w.heap.size + 1 + 1) wr w4) (hgrow : (w4.alloc o1).grownBy w3 v.ownBlock) :
    w3.heap[w.heap.size]? = some (.cells #[.int .i64 f, v] 24 (0, 0)) := by
  have hC4 := (k4.block _ (heap_lt hC) (by omega)).trans hC
  exact ((hgrow.block _ (by have := heap_lt hC4; simp; omega) (fun e => by have := hlt _ e.symm; omega)).trans (Below.heap_alloc w4 _ _ (heap_lt hC4))).trans hC4
theorem raw_done {w wr w4 w3 : World} {s : ByteArray} {r' : List UInt8} {f : Int} {v va : Value} {n gg cap2 : Nat} {items : List Item} {o : OpM} {o1 : Obj}
    (hC : wr.heap[w.heap.size]? = some (.cells #[.int .i64 f, v] 24 (0, 0))) (hF : wr.heap[w.heap.size + 1]? = some (.cells #[.int .i64 0, .int .i64 0] 32 (0, 0)))
    (hb : Below w.heap.size w wr) (hsz : w.heap.size + 3 ≤ wr.heap.size) (hO : OwnIS wr (w.heap.size + 3) v items) (hn : items.length = n)
    (hva : RdAS w4 wr.heap.size va o.attrs) (ht : o.text.size ≤ 1099511627776) (h4 : Txt (w.heap.size + 1 + 1) s r' w4) (k4 : KpG (w.heap.size + 1 + 1) wr w4)
    (hown3 : w3.ownsRow (w.heap.size + 3) 48 4 (.slice (some ⟨gg, 0, none⟩) (n + 1) cap2) (n + 1) (flat cellsP items ++ [.int .i64 o.kind, .int .i64 o.n, .string o.text, va]))
    (hgrow : (w4.alloc o1).grownBy w3 v.ownBlock) :
    let w5 := w3.setCell ⟨w.heap.size, 1, none⟩ (.slice (some ⟨gg, 0, none⟩) (n + 1) cap2)
    Below w.heap.size w w5 ∧ w.heap.size + 3 ≤ w5.heap.size ∧ w5.heap[w.heap.size]? = some (.cells #[.int .i64 f, .slice (some ⟨gg, 0, none⟩) (n + 1) cap2] 24 (0, 0)) ∧ w5.heap[w.heap.size + 1]? = some (.cells #[.int .i64 0, .int .i64 0] 32 (0, 0)) ∧
      Txt (w.heap.size + 1 + 1) s r' w5 ∧ OwnS w5 (w.heap.size + 3) (.slice (some ⟨gg, 0, none⟩) (n + 1) cap2) (items.map Prod.fst ++ [o]) := by
  intro w5
  have hlt : ∀ k, v.ownBlock = some k → w.heap.size + 3 ≤ k := fun k hk => (hO.1.lt k hk).1
  have hC4 := (k4.block _ (heap_lt hC) (by omega)).trans hC
  have hF4 := (k4.block _ (heap_lt hF) (by omega)).trans hF
  have h43 : ∀ k, k < w4.heap.size → v.ownBlock ≠ some k → w3.heap[k]? = w4.heap[k]? := fun k hk hne =>
    (hgrow.block k (by simp; omega) (fun e => hne e.symm)).trans (Below.heap_alloc w4 _ k hk)
  have hC3 := (h43 _ (heap_lt hC4) (fun e => by have := hlt _ e; omega)).trans hC4
  have hF3 := (h43 _ (heap_lt hF4) (fun e => by have := hlt _ e; omega)).trans hF4
  have hO4 : w4.ownsRow (w.heap.size + 3) 48 4 v items.length (flat cellsP items) := own_kpG hO.1 k4 (by omega)
  have hsz4 : wr.heap.size ≤ w4.heap.size := k4.size
  have hag : ∀ k, w.heap.size + 3 ≤ k → TyA w4 k → w5.heap[k]? = w4.heap[k]? := fun k hk hty => by
    obtain ⟨c, fz, hc⟩ := hty
    rw [Below.heap_setCell _ ⟨w.heap.size, 1, none⟩ _ _ (by show k ≠ w.heap.size; omega)]
    exact h43 k (heap_lt hc) (fun e => ops_nt hO4 k e ⟨c, fz, hc⟩)
  have hgg : w.heap.size + 3 ≤ gg := (hown3.lt gg (by simp [Value.ownBlock])).1
  have hsz3 : w4.heap.size ≤ w3.heap.size := by have := hgrow.size; simp at this; omega
  refine ⟨?_, by simp [w5]; omega, set_heap1 hC3 _, ?_, ?_, items ++ [(o, va)], by simp, ?_, ?_, ?_⟩
  · refine Below.setCell (p := ⟨w.heap.size, 1, none⟩) ?_ (Nat.le_refl _) _
    exact ((hb.trans (k4.below (fun _ h => by omega) (by omega))).alloc (by omega) _).grown hgrow (by simp; omega) (fun k hk => by have := hlt k hk; omega)
  · rw [Below.heap_setCell _ ⟨w.heap.size, 1, none⟩ _ _ (by show w.heap.size + 1 ≠ w.heap.size; omega)]; exact hF3
  · exact ((h4.pure ((Below.refl _ w4).alloc (Nat.le_refl _) o1)).grown hgrow (fun e => by have := hlt _ e; omega)).setCell (by omega) _
  · have h1 : w3.ownsRow (w.heap.size + 3) 48 4 (.slice (some ⟨gg, 0, none⟩) (n + 1) cap2) (items ++ [(o, va)]).length (flat cellsP (items ++ [(o, va)])) := by
      rw [flat_append, flat_one, List.length_append, hn]; exact hown3
    exact ownsRow_setCell_other h1 (by simp [Value.ownBlock]; omega) _
  · intro p hp
    rcases List.mem_append.1 hp with hp | hp
    · have hk4 : ∀ k, w.heap.size + 3 ≤ k → TyA wr k → w4.heap[k]? = wr.heap[k]? := fun k hk hty => by
        obtain ⟨c, fz, hc⟩ := hty
        exact k4.block k (heap_lt hc) (by omega)
      exact ⟨((hO.2.1 p hp).1.agree hk4).agree hag, ((hO.2.1 p hp).2.agree hk4).agree hag⟩
    · simp at hp; subst hp
      have h1 : OwnItem w4 (w.heap.size + 3) (o, va) := ⟨hva.rd.mono fun k hk _ => ⟨by have := hk.1; omega, hk.2⟩, ht⟩
      have h2 : OwnA w4 (w.heap.size + 3) (o, va) := own_lo0 hva.own hsz
      exact ⟨h1.agree hag, h2.agree hag⟩
  · rw [List.pairwise_append]
    refine ⟨hO.2.2, List.pairwise_singleton _ _, fun p hp q hq k hk e => ?_⟩
    simp at hq; subst hq
    have h1 := ((hO.2.1 p hp).2.lt k hk).2
    have h2 := (hva.own.lt k e).1
    omega

set_option maxRecDepth 100000 in
set_option maxHeartbeats 8000000 in
theorem raw_any (s : ByteArray) (w : World) (hs : s.size ≤ 16777216) :
    Calls Tryz.prog 75 #[.string s] w (RawPost s w) := by
  have hmf : ∀ (fn : Fn) (first cap : Array Value) (w : World), (Instr.makeFunc fn first cap).run Tryz.prog w = .ok (.func fn first cap) w := fun _ _ _ _ => rfl
  have hs' : s.size ≤ 1099511627776 := by omega
  obtain ⟨i0, hi, hz0, hz1, hz2⟩ := info_parts infoO
  go_enter_defers Tryz.func75, Tryz.ntmps75
  go_wp2_with fail
  obtain ⟨W1, hW1⟩ : ∃ W1, ((w.alloc (.cells #[.int .i64 0, .slice none 0 0] 24)).alloc (.cells #[.int .i64 0, .int .i64 0] 32)).alloc (.cells #[.string s, .int .i64 0] 115) = W1 := ⟨_, rfl⟩
  have hb1 : Below w.heap.size w W1 := by rw [← hW1]; exact (((Below.refl _ w).alloc (Nat.le_refl _) _).alloc (by simp) _).alloc (by simp; omega) _
  have hs1 : W1.heap.size = w.heap.size + 3 := by rw [← hW1]; simp
  have hc1 : W1.heap[w.heap.size]? = some (.cells #[.int .i64 0, .slice none 0 0] 24 (0, 0)) := by
    rw [← hW1, Below.heap_alloc _ _ _ (by simp; omega), Below.heap_alloc _ _ _ (by simp)]; exact heap_alloc_new w _
  have hf1 : W1.heap[w.heap.size + 1]? = some (.cells #[.int .i64 0, .int .i64 0] 32 (0, 0)) := by
    rw [← hW1, Below.heap_alloc _ _ _ (by simp)]
    have := heap_alloc_new (w.alloc (.cells #[.int .i64 0, .slice none 0 0] 24)) (.cells #[.int .i64 0, .int .i64 0] 32); simpa using this
  have ht1 : Txt (w.heap.size + 1 + 1) s s.data.toList W1 := ⟨0, by omega, by simp, by
    rw [← hW1]; have := heap_alloc_new ((w.alloc (.cells #[.int .i64 0, .slice none 0 0] 24)).alloc (.cells #[.int .i64 0, .int .i64 0] 32)) (.cells #[.string s, .int .i64 0] 115); simpa using this⟩
  try rw [hW1]
  clear hW1
  refine (number_any (w.heap.size + 1 + 1) s s.data.toList W1 ht1 hs').mono ?_
  intro e w2 hp
  cases hn : numberM s.data.toList with
  | error k =>
    unfold RdPost at hp; rw [hn] at hp
    obtain ⟨rfl, k2⟩ := hp
    have hR : rawM s.data.toList = .error k := by unfold rawM; rw [hn]
    have HR := Lib.hid hR; clear hR hn
    have hf2 := (k2.block _ (by omega) (by omega)).trans hf1
    have hc2 := (k2.block _ (by omega) (by omega)).trans hc1
    have hbw2 : Below w.heap.size w w2 := hb1.trans (k2.below (fun _ h => by omega) (by omega))
    unfold wrongE
    refine leaves_cons (f := 123) (args := #[.pointer (some ⟨w.heap.size + 1, 0, none⟩), .pointer (some ⟨w.heap.size, 0, none⟩)]) (by simp) (by simp [go_sem]) ?_
    refine (readD_panics (w.heap.size + 1) w.heap.size _ _ _ _ _ _ _ [] _ hf2 hc2 (by omega)).mono ?_
    rintro e u' w3 ⟨rfl, rfl, h3⟩
    obtain ⟨z1, z2, z3⟩ := raw_err _ rfl rfl hf2 hc2 hbw2 h3
    clear h3
    obtain ⟨q0, q1⟩ := box2 z1
    obtain ⟨q2, q3⟩ := box2 z2
    simp [Leaves, settle, results, Tryz.results75, go_sem, q0, q1, q2, q3]
    unfold RawPost; rw [HR.out]
    exact ⟨rfl, z3⟩
  | ok p =>
    obtain ⟨f, r0⟩ := p
    unfold RdPost at hp; rw [hn] at hp
    obtain ⟨rfl, h2, k2⟩ := hp
    have hRaw : rawM s.data.toList = match opsF (r0.length + 1) r0 with
      | .error k => .error k
      | .ok os => .ok (f, os) := by unfold rawM; rw [hn]; try rfl
    have hr0 : r0.length ≤ s.size := by obtain ⟨a, q1, q2, q3⟩ := h2.len; omega
    have hf2 := (k2.block _ (by omega) (by omega)).trans hf1
    have hc2 := (k2.block _ (by omega) (by omega)).trans hc1
    have hbw2 : Below w.heap.size w w2 := hb1.trans (k2.below (fun _ h => by omega) (by omega))
    have hs2 : w.heap.size + 3 ≤ w2.heap.size := by have := k2.size; omega
    have HRAW := Lib.hid hRaw; clear hRaw hn hf1 hc1 ht1 k2 hb1 hs1
    obtain ⟨c0, c1⟩ := box2 hc2
    have fc0 := froz_heap hc2 0
    have hlc := heap_lt hc2
    have hset : (w2.setCell ⟨w.heap.size, 0, none⟩ (.int .i64 f)).heap[w.heap.size]? = some (.cells #[.int .i64 f, .slice none 0 0] 24 (0, 0)) := set_heap hc2 _
    have hfset : (w2.setCell ⟨w.heap.size, 0, none⟩ (.int .i64 f)).heap[w.heap.size + 1]? = some (.cells #[.int .i64 0, .int .i64 0] 32 (0, 0)) := by
      rw [Below.heap_setCell _ ⟨w.heap.size, 0, none⟩ _ _ (by show w.heap.size + 1 ≠ w.heap.size; omega)]; exact hf2
    have htset : Txt (w.heap.size + 1 + 1) s r0 (w2.setCell ⟨w.heap.size, 0, none⟩ (.int .i64 f)) := h2.setCell (by omega) _
    have hbset := hbw2.setCell (p := ⟨w.heap.size, 0, none⟩) (Nat.le_refl _) (.int .i64 f)
    have hsset : (w2.setCell ⟨w.heap.size, 0, none⟩ (.int .i64 f)).heap.size = w2.heap.size := by simp
    unfold intV
    go_wp2
    go_loopw [] (fun wr => ∃ (v : Value) (acc : List OpM) (r : List UInt8) (n : Nat), Below w.heap.size w wr ∧ w.heap.size + 3 ≤ wr.heap.size ∧ wr.heap[w.heap.size]? = some (.cells #[.int .i64 f, v] 24 (0, 0)) ∧ wr.heap[w.heap.size + 1]? = some (.cells #[.int .i64 0, .int .i64 0] 32 (0, 0)) ∧ Txt (w.heap.size + 1 + 1) s r wr ∧ OwnS wr (w.heap.size + 3) v acc ∧ opsF (r0.length + 1) r0 = pushO acc (opsF n r) ∧ r.length < n ∧ acc.length + r.length ≤ s.size) (fun wr => s.size - posOf (w.heap.size + 1 + 1) wr)
    case atStart => exact ⟨.slice none 0 0, [], r0, r0.length + 1, hbset, by omega, hset, hfset, htset, ⟨[], rfl, World.ownsRow_nil _ _ _ _, by simp, List.Pairwise.nil⟩, by rw [pushO_nil], by omega, by simpa using hr0⟩
    case round =>
      clear hset hfset htset hbset hsset c0 c1 fc0 hlc hc2 hf2 h2 hbw2 hs2
      obtain ⟨v, acc, r, n, hbw2, hsz, hc2, hf2, ht, hO, hq, hrn, hal⟩ := hrel
      have HQ := Lib.hid hq; clear hq
      have HT := Lib.hid ht; have HO := Lib.hid hO
      obtain ⟨a, y1, y2, y3⟩ := ht.len
      have hpos := posOf_is y3
      obtain ⟨x0, x1⟩ := box2 y3
      obtain ⟨m, rfl⟩ : ∃ m, n = m + 1 := ⟨n - 1, by omega⟩
      obtain ⟨c0, c1⟩ := box2 hc2
      have hlc := heap_lt hc2
      have HC := Lib.hid hc2; have HF := Lib.hid hf2
      clear ht hO y3
      by_cases hlt : a < s.size
      · have hrne : r ≠ [] := by rintro rfl; simp at y2; omega
        have hd : decide ((a : Int) < (s.size : Int)) = true := by simp; omega
        cases ho : opM r with
        | error k =>
          have hR : rawM s.data.toList = .error k := by
            rw [HRAW.out, HQ.out]; unfold opsF; rw [if_neg hrne, ho]; rfl
          have HR := Lib.hid hR; clear hR
          have HOP := Lib.hid ho; clear ho
          go_wp2_with fail
          refine wp_region_any (by kernel_rfl) ?_
          change wpAny _ _ _ _ _ _ _ (World.drew _)
          refine wpAny_ready (rs := [0, 2]) (by kernel_rfl) (by simp) ?_
          refine (AllReady.cons rfl (fun K hK => ?_) (AllReady.cons rfl (fun K hK => ?_) AllReady.nil))
          · go_simp
            refine hK _ _ ?_
            clear hK K
            refine wpAny_ready (rs := [1, 2]) (by kernel_rfl) (by simp) ?_
            refine (AllReady.cons rfl (fun K hK => ?_) (AllReady.cons rfl (fun K hK => ?_) AllReady.nil))
            · go_simp
              refine hK _ _ ?_
              clear hK K
              refine wpAny_ready (rs := [2]) (by kernel_rfl) (by simp) ?_
              refine (AllReady.cons rfl (fun K hK => ?_) AllReady.nil)
              · go_simp
                refine hK _ _ ?_
                clear hK K
                refine wpAny_ready (rs := [3]) (by kernel_rfl) (by simp) ?_
                refine (AllReady.cons rfl (fun K hK => ?_) AllReady.nil)
                · go_simp
                  refine (rdOp_err _ s r wr.drew HT.out hs' HOP.out).mono ?_
                  rintro e w4 ⟨rfl, k4⟩
                  replace k4 : KpG (w.heap.size + 1 + 1) wr w4 := ((Kp.refl _ wr).drew).trans k4
                  unfold wrongE
                  exact raw_panic s HR.out _ rfl rfl rfl ((k4.block _ (heap_lt HF.out) (by omega)).trans HF.out) ((k4.block _ hlc (by omega)).trans HC.out) (hbw2.trans (k4.below (fun _ h => by omega) (show w.heap.size ≤ wr.heap.size by omega)))
            · go_simp
              refine hK _ _ ?_
              clear hK K
              refine wpAny_ready (rs := [1, 3]) (by kernel_rfl) (by simp) ?_
              refine (AllReady.cons rfl (fun K hK => ?_) (AllReady.cons rfl (fun K hK => ?_) AllReady.nil))
              · go_simp
                refine hK _ _ ?_
                clear hK K
                refine wpAny_ready (rs := [3]) (by kernel_rfl) (by simp) ?_
                refine (AllReady.cons rfl (fun K hK => ?_) AllReady.nil)
                · go_simp
                  refine (rdOp_err _ s r wr.drew HT.out hs' HOP.out).mono ?_
                  rintro e w4 ⟨rfl, k4⟩
                  replace k4 : KpG (w.heap.size + 1 + 1) wr w4 := ((Kp.refl _ wr).drew).trans k4
                  unfold wrongE
                  exact raw_panic s HR.out _ rfl rfl rfl ((k4.block _ (heap_lt HF.out) (by omega)).trans HF.out) ((k4.block _ hlc (by omega)).trans HC.out) (hbw2.trans (k4.below (fun _ h => by omega) (show w.heap.size ≤ wr.heap.size by omega)))
              · go_simp
                refine (rdOp_err _ s r wr.drew HT.out hs' HOP.out).mono ?_
                rintro e w4 ⟨rfl, k4⟩
                replace k4 : KpG (w.heap.size + 1 + 1) wr w4 := ((Kp.refl _ wr).drew).trans k4
                unfold wrongE
                exact raw_panic s HR.out _ rfl rfl rfl ((k4.block _ (heap_lt HF.out) (by omega)).trans HF.out) ((k4.block _ hlc (by omega)).trans HC.out) (hbw2.trans (k4.below (fun _ h => by omega) (show w.heap.size ≤ wr.heap.size by omega)))
          · go_simp
            refine hK _ _ ?_
            clear hK K
            refine wpAny_ready (rs := [0, 3]) (by kernel_rfl) (by simp) ?_
            refine (AllReady.cons rfl (fun K hK => ?_) (AllReady.cons rfl (fun K hK => ?_) AllReady.nil))
            · go_simp
              refine hK _ _ ?_
              clear hK K
              refine wpAny_ready (rs := [1, 3]) (by kernel_rfl) (by simp) ?_
              refine (AllReady.cons rfl (fun K hK => ?_) (AllReady.cons rfl (fun K hK => ?_) AllReady.nil))
              · go_simp
                refine hK _ _ ?_
                clear hK K
                refine wpAny_ready (rs := [3]) (by kernel_rfl) (by simp) ?_
                refine (AllReady.cons rfl (fun K hK => ?_) AllReady.nil)
                · go_simp
                  refine (rdOp_err _ s r wr.drew HT.out hs' HOP.out).mono ?_
                  rintro e w4 ⟨rfl, k4⟩
                  replace k4 : KpG (w.heap.size + 1 + 1) wr w4 := ((Kp.refl _ wr).drew).trans k4
                  unfold wrongE
                  exact raw_panic s HR.out _ rfl rfl rfl ((k4.block _ (heap_lt HF.out) (by omega)).trans HF.out) ((k4.block _ hlc (by omega)).trans HC.out) (hbw2.trans (k4.below (fun _ h => by omega) (show w.heap.size ≤ wr.heap.size by omega)))
              · go_simp
                refine (rdOp_err _ s r wr.drew HT.out hs' HOP.out).mono ?_
                rintro e w4 ⟨rfl, k4⟩
                replace k4 : KpG (w.heap.size + 1 + 1) wr w4 := ((Kp.refl _ wr).drew).trans k4
                unfold wrongE
                exact raw_panic s HR.out _ rfl rfl rfl ((k4.block _ (heap_lt HF.out) (by omega)).trans HF.out) ((k4.block _ hlc (by omega)).trans HC.out) (hbw2.trans (k4.below (fun _ h => by omega) (show w.heap.size ≤ wr.heap.size by omega)))
            · go_simp
              refine (rdOp_err _ s r wr.drew HT.out hs' HOP.out).mono ?_
              rintro e w4 ⟨rfl, k4⟩
              replace k4 : KpG (w.heap.size + 1 + 1) wr w4 := ((Kp.refl _ wr).drew).trans k4
              unfold wrongE
              exact raw_panic s HR.out _ rfl rfl rfl ((k4.block _ (heap_lt HF.out) (by omega)).trans HF.out) ((k4.block _ hlc (by omega)).trans HC.out) (hbw2.trans (k4.below (fun _ h => by omega) (show w.heap.size ≤ wr.heap.size by omega)))
        | ok p =>
          obtain ⟨o, r'⟩ := p
          have HOP := Lib.hid ho; clear ho
          obtain ⟨items, hit, hOI⟩ := HO.out
          obtain ⟨nn, hnn⟩ : ∃ nn, items.length = nn := ⟨_, rfl⟩
          obtain ⟨BB, dap, rfl⟩ : ∃ BB dap, v = .slice BB nn dap := by
            rcases hOI.1.2 with ⟨hv, h0⟩ | ⟨rb, dap, cur, hv, _⟩
            · exact ⟨_, _, by rw [← hnn, h0]; exact hv⟩
            · exact ⟨_, _, by rw [← hnn]; exact hv⟩
          have HOI := Lib.hid hOI
          have hnb : nn + r.length ≤ s.size := by have : items.length = acc.length := by rw [← hit]; simp
                                                  omega
          have HNN := Lib.hid hnn; clear hnn
          have hvl : ∀ k, (Value.slice BB nn dap).ownBlock = some k → w.heap.size + 3 ≤ k := fun k hk => (hOI.1.lt k hk).1
          have HVL := Lib.hid hvl
          have hrl := opM_len HOP.out
          have hstep : opsF (r0.length + 1) r0 = pushO (acc ++ [o]) (opsF m r') := by
            rw [HQ.out]; conv => lhs; unfold opsF
            rw [if_neg hrne, HOP.out]
            dsimp only
            cases opsF m r' <;> simp [pushO]
          have HST := Lib.hid hstep
          have HIT := Lib.hid hit
          clear hOI hvl hstep hit HO
          go_wp2_with fail
          refine wp_region_any (by kernel_rfl) ?_
          change wpAny _ _ _ _ _ _ _ (World.drew _)
          refine wpAny_ready (rs := [0, 2]) (by kernel_rfl) (by simp) ?_
          refine (AllReady.cons rfl (fun K hK => ?_) (AllReady.cons rfl (fun K hK => ?_) AllReady.nil))
          · go_simp
            refine hK _ _ ?_
            clear hK K
            refine wpAny_ready (rs := [1, 2]) (by kernel_rfl) (by simp) ?_
            refine (AllReady.cons rfl (fun K hK => ?_) (AllReady.cons rfl (fun K hK => ?_) AllReady.nil))
            · go_simp
              refine hK _ _ ?_
              clear hK K
              refine wpAny_ready (rs := [2]) (by kernel_rfl) (by simp) ?_
              refine (AllReady.cons rfl (fun K hK => ?_) AllReady.nil)
              · go_simp
                refine hK _ _ ?_
                clear hK K
                refine wpAny_ready (rs := [3]) (by kernel_rfl) (by simp) ?_
                refine (AllReady.cons rfl (fun K hK => ?_) AllReady.nil)
                · go_simp
                  refine (rdOp_ok _ s r wr.drew HT.out hs' HOP.out).mono ?_
                  rintro e w4 ⟨va, rfl, hva, hts, h4, k4⟩
                  replace k4 : KpG (w.heap.size + 1 + 1) wr w4 := ((Kp.refl _ wr).drew).trans k4
                  obtain ⟨AV, capv, rfl, _⟩ := hva.open_
                  have c14 : w4.cell? ⟨w.heap.size, 1, none⟩ = some (.slice BB nn dap) := (box2 ((k4.block _ hlc (by omega)).trans HC.out)).2
                  have hrow4 : w4.ownsRow (w.heap.size + 3) 48 4 (.slice BB nn dap) nn (flat cellsP items) := by have h := own_kpG HOI.out.1 k4 (by omega); rw [HNN.out] at h; exact h
                  have hsz4 : wr.heap.size ≤ w4.heap.size := k4.size
                  have hl4 : w.heap.size < w4.heap.size := by omega
                  simp only [opV]
                  refine hK _ _ ?_
                  clear hK K
                  refine wpAny_ready (rs := [4]) (by kernel_rfl) (by simp) ?_
                  refine (AllReady.cons rfl (fun K hK => ?_) AllReady.nil)
                  · go_simp
                    refine hK _ _ ?_
                    clear hK K
                    refine wpAny_ready (rs := [5]) (by kernel_rfl) (by simp) ?_
                    refine (AllReady.cons rfl (fun K hK => ?_) AllReady.nil)
                    · refine step_append_lies _ (by rfl) _ _ _ (by rfl) (w.heap.size + 3) 48 i0 _ 4 56 Tryz.underlying22 hi hz0 hz1 hz2 rfl (by omega) (.slice BB nn dap) nn (flat cellsP items) (by rfl) (hrow4.alloc _) ⟨w4.heap.size, 0, none⟩ 1 1 [.int .i64 o.kind, .int .i64 o.n, .string o.text, .slice AV o.attrs.length capv] (by rfl) (by rfl) (World.news_of_block (cs := #[.int .i64 o.kind, .int .i64 o.n, .string o.text, .slice AV o.attrs.length capv]) (t := 48) (fr := (0, 0)) (heap_alloc_new w4 _)) (by simp [Value.oneCell']) (by omega) (by unfold maxLen; omega) (by omega) (by simp; omega) (w4.heap.size + 1) (by simp) ?_
                      intro gg cap2 w3 hown3 hgrow hat hggl
                      obtain ⟨z1, z2, z3, z4, z5, z6⟩ := raw_done (f := f) HC.out HF.out hbw2 hsz HOI.out HNN.out hva (by omega) h4 k4 hown3 hgrow
                      have hC3 := raw_c3 HC.out HVL.out k4 hgrow
                      have q1 := (box2 hC3).2
                      have fq := froz_heap hC3 1
                      have hl3 := heap_lt hC3
                      refine hK _ _ ?_
                      clear hK K
                      refine wpAny_ready (rs := [6]) (by kernel_rfl) (by simp) ?_
                      refine (AllReady.cons rfl (fun K hK => ?_) AllReady.nil)
                      · go_simp
                        refine hK _ _ ?_
                        clear hK K
                        refine wpAny_ready (rs := [7]) (by kernel_rfl) (by simp) ?_
                        refine (AllReady.cons rfl (fun K hK => ?_) AllReady.nil)
                        · go_simp
                          refine hK _ _ ?_
                          clear hK K
                          refine wpAny_done (by kernel_rfl) ?_ _
                          go_wp2
                          refine ⟨⟨_, acc ++ [o], r', m, z1, z2, z3, z4, z5, by rw [← HIT.out]; exact z6, HST.out, by omega, by rw [List.length_append, List.length_singleton, ← HIT.out, List.length_map, HNN.out]; omega⟩, ?_⟩
                          obtain ⟨a9, y9, y10, y11⟩ := z5.len
                          rw [posOf_is y11, hpos]; omega
            · go_simp
              refine hK _ _ ?_
              clear hK K
              refine wpAny_ready (rs := [1, 3]) (by kernel_rfl) (by simp) ?_
              refine (AllReady.cons rfl (fun K hK => ?_) (AllReady.cons rfl (fun K hK => ?_) AllReady.nil))
              · go_simp
                refine hK _ _ ?_
                clear hK K
                refine wpAny_ready (rs := [3]) (by kernel_rfl) (by simp) ?_
                refine (AllReady.cons rfl (fun K hK => ?_) AllReady.nil)
                · go_simp
                  refine (rdOp_ok _ s r wr.drew HT.out hs' HOP.out).mono ?_
                  rintro e w4 ⟨va, rfl, hva, hts, h4, k4⟩
                  replace k4 : KpG (w.heap.size + 1 + 1) wr w4 := ((Kp.refl _ wr).drew).trans k4
                  obtain ⟨AV, capv, rfl, _⟩ := hva.open_
                  have c14 : w4.cell? ⟨w.heap.size, 1, none⟩ = some (.slice BB nn dap) := (box2 ((k4.block _ hlc (by omega)).trans HC.out)).2
                  have hrow4 : w4.ownsRow (w.heap.size + 3) 48 4 (.slice BB nn dap) nn (flat cellsP items) := by have h := own_kpG HOI.out.1 k4 (by omega); rw [HNN.out] at h; exact h
                  have hsz4 : wr.heap.size ≤ w4.heap.size := k4.size
                  have hl4 : w.heap.size < w4.heap.size := by omega
                  simp only [opV]
                  refine hK _ _ ?_
                  clear hK K
                  refine wpAny_ready (rs := [4]) (by kernel_rfl) (by simp) ?_
                  refine (AllReady.cons rfl (fun K hK => ?_) AllReady.nil)
                  · go_simp
                    refine hK _ _ ?_
                    clear hK K
                    refine wpAny_ready (rs := [5]) (by kernel_rfl) (by simp) ?_
                    refine (AllReady.cons rfl (fun K hK => ?_) AllReady.nil)
                    · refine step_append_lies _ (by rfl) _ _ _ (by rfl) (w.heap.size + 3) 48 i0 _ 4 56 Tryz.underlying22 hi hz0 hz1 hz2 rfl (by omega) (.slice BB nn dap) nn (flat cellsP items) (by rfl) (hrow4.alloc _) ⟨w4.heap.size, 0, none⟩ 1 1 [.int .i64 o.kind, .int .i64 o.n, .string o.text, .slice AV o.attrs.length capv] (by rfl) (by rfl) (World.news_of_block (cs := #[.int .i64 o.kind, .int .i64 o.n, .string o.text, .slice AV o.attrs.length capv]) (t := 48) (fr := (0, 0)) (heap_alloc_new w4 _)) (by simp [Value.oneCell']) (by omega) (by unfold maxLen; omega) (by omega) (by simp; omega) (w4.heap.size + 1) (by simp) ?_
                      intro gg cap2 w3 hown3 hgrow hat hggl
                      obtain ⟨z1, z2, z3, z4, z5, z6⟩ := raw_done (f := f) HC.out HF.out hbw2 hsz HOI.out HNN.out hva (by omega) h4 k4 hown3 hgrow
                      have hC3 := raw_c3 HC.out HVL.out k4 hgrow
                      have q1 := (box2 hC3).2
                      have fq := froz_heap hC3 1
                      have hl3 := heap_lt hC3
                      refine hK _ _ ?_
                      clear hK K
                      refine wpAny_ready (rs := [6]) (by kernel_rfl) (by simp) ?_
                      refine (AllReady.cons rfl (fun K hK => ?_) AllReady.nil)
                      · go_simp
                        refine hK _ _ ?_
                        clear hK K
                        refine wpAny_ready (rs := [7]) (by kernel_rfl) (by simp) ?_
                        refine (AllReady.cons rfl (fun K hK => ?_) AllReady.nil)
                        · go_simp
                          refine hK _ _ ?_
                          clear hK K
                          refine wpAny_done (by kernel_rfl) ?_ _
                          go_wp2
                          refine ⟨⟨_, acc ++ [o], r', m, z1, z2, z3, z4, z5, by rw [← HIT.out]; exact z6, HST.out, by omega, by rw [List.length_append, List.length_singleton, ← HIT.out, List.length_map, HNN.out]; omega⟩, ?_⟩
                          obtain ⟨a9, y9, y10, y11⟩ := z5.len
                          rw [posOf_is y11, hpos]; omega
              · go_simp
                refine (rdOp_ok _ s r wr.drew HT.out hs' HOP.out).mono ?_
                rintro e w4 ⟨va, rfl, hva, hts, h4, k4⟩
                replace k4 : KpG (w.heap.size + 1 + 1) wr w4 := ((Kp.refl _ wr).drew).trans k4
                obtain ⟨AV, capv, rfl, _⟩ := hva.open_
                have c14 : w4.cell? ⟨w.heap.size, 1, none⟩ = some (.slice BB nn dap) := (box2 ((k4.block _ hlc (by omega)).trans HC.out)).2
                have hrow4 : w4.ownsRow (w.heap.size + 3) 48 4 (.slice BB nn dap) nn (flat cellsP items) := by have h := own_kpG HOI.out.1 k4 (by omega); rw [HNN.out] at h; exact h
                have hsz4 : wr.heap.size ≤ w4.heap.size := k4.size
                have hl4 : w.heap.size < w4.heap.size := by omega
                simp only [opV]
                refine hK _ _ ?_
                clear hK K
                refine wpAny_ready (rs := [1, 4]) (by kernel_rfl) (by simp) ?_
                refine (AllReady.cons rfl (fun K hK => ?_) (AllReady.cons rfl (fun K hK => ?_) AllReady.nil))
                · go_simp
                  refine hK _ _ ?_
                  clear hK K
                  refine wpAny_ready (rs := [4]) (by kernel_rfl) (by simp) ?_
                  refine (AllReady.cons rfl (fun K hK => ?_) AllReady.nil)
                  · go_simp
                    refine hK _ _ ?_
                    clear hK K
                    refine wpAny_ready (rs := [5]) (by kernel_rfl) (by simp) ?_
                    refine (AllReady.cons rfl (fun K hK => ?_) AllReady.nil)
                    · refine step_append_lies _ (by rfl) _ _ _ (by rfl) (w.heap.size + 3) 48 i0 _ 4 56 Tryz.underlying22 hi hz0 hz1 hz2 rfl (by omega) (.slice BB nn dap) nn (flat cellsP items) (by rfl) (hrow4.alloc _) ⟨w4.heap.size, 0, none⟩ 1 1 [.int .i64 o.kind, .int .i64 o.n, .string o.text, .slice AV o.attrs.length capv] (by rfl) (by rfl) (World.news_of_block (cs := #[.int .i64 o.kind, .int .i64 o.n, .string o.text, .slice AV o.attrs.length capv]) (t := 48) (fr := (0, 0)) (heap_alloc_new w4 _)) (by simp [Value.oneCell']) (by omega) (by unfold maxLen; omega) (by omega) (by simp; omega) (w4.heap.size + 1) (by simp) ?_
                      intro gg cap2 w3 hown3 hgrow hat hggl
                      obtain ⟨z1, z2, z3, z4, z5, z6⟩ := raw_done (f := f) HC.out HF.out hbw2 hsz HOI.out HNN.out hva (by omega) h4 k4 hown3 hgrow
                      have hC3 := raw_c3 HC.out HVL.out k4 hgrow
                      have q1 := (box2 hC3).2
                      have fq := froz_heap hC3 1
                      have hl3 := heap_lt hC3
                      refine hK _ _ ?_
                      clear hK K
                      refine wpAny_ready (rs := [6]) (by kernel_rfl) (by simp) ?_
                      refine (AllReady.cons rfl (fun K hK => ?_) AllReady.nil)
                      · go_simp
                        refine hK _ _ ?_
                        clear hK K
                        refine wpAny_ready (rs := [7]) (by kernel_rfl) (by simp) ?_
                        refine (AllReady.cons rfl (fun K hK => ?_) AllReady.nil)
                        · go_simp
                          refine hK _ _ ?_
                          clear hK K
                          refine wpAny_done (by kernel_rfl) ?_ _
                          go_wp2
                          refine ⟨⟨_, acc ++ [o], r', m, z1, z2, z3, z4, z5, by rw [← HIT.out]; exact z6, HST.out, by omega, by rw [List.length_append, List.length_singleton, ← HIT.out, List.length_map, HNN.out]; omega⟩, ?_⟩
                          obtain ⟨a9, y9, y10, y11⟩ := z5.len
                          rw [posOf_is y11, hpos]; omega
                · go_simp
                  refine hK _ _ ?_
                  clear hK K
                  refine wpAny_ready (rs := [1]) (by kernel_rfl) (by simp) ?_
                  refine (AllReady.cons rfl (fun K hK => ?_) AllReady.nil)
                  · go_simp
                    refine hK _ _ ?_
                    clear hK K
                    refine wpAny_ready (rs := [5]) (by kernel_rfl) (by simp) ?_
                    refine (AllReady.cons rfl (fun K hK => ?_) AllReady.nil)
                    · refine step_append_lies _ (by rfl) _ _ _ (by rfl) (w.heap.size + 3) 48 i0 _ 4 56 Tryz.underlying22 hi hz0 hz1 hz2 rfl (by omega) (.slice BB nn dap) nn (flat cellsP items) (by rfl) (hrow4.alloc _) ⟨w4.heap.size, 0, none⟩ 1 1 [.int .i64 o.kind, .int .i64 o.n, .string o.text, .slice AV o.attrs.length capv] (by rfl) (by rfl) (World.news_of_block (cs := #[.int .i64 o.kind, .int .i64 o.n, .string o.text, .slice AV o.attrs.length capv]) (t := 48) (fr := (0, 0)) (heap_alloc_new w4 _)) (by simp [Value.oneCell']) (by omega) (by unfold maxLen; omega) (by omega) (by simp; omega) (w4.heap.size + 1) (by simp) ?_
                      intro gg cap2 w3 hown3 hgrow hat hggl
                      obtain ⟨z1, z2, z3, z4, z5, z6⟩ := raw_done (f := f) HC.out HF.out hbw2 hsz HOI.out HNN.out hva (by omega) h4 k4 hown3 hgrow
                      have hC3 := raw_c3 HC.out HVL.out k4 hgrow
                      have q1 := (box2 hC3).2
                      have fq := froz_heap hC3 1
                      have hl3 := heap_lt hC3
                      refine hK _ _ ?_
                      clear hK K
                      refine wpAny_ready (rs := [6]) (by kernel_rfl) (by simp) ?_
                      refine (AllReady.cons rfl (fun K hK => ?_) AllReady.nil)
                      · go_simp
                        refine hK _ _ ?_
                        clear hK K
                        refine wpAny_ready (rs := [7]) (by kernel_rfl) (by simp) ?_
                        refine (AllReady.cons rfl (fun K hK => ?_) AllReady.nil)
                        · go_simp
                          refine hK _ _ ?_
                          clear hK K
                          refine wpAny_done (by kernel_rfl) ?_ _
                          go_wp2
                          refine ⟨⟨_, acc ++ [o], r', m, z1, z2, z3, z4, z5, by rw [← HIT.out]; exact z6, HST.out, by omega, by rw [List.length_append, List.length_singleton, ← HIT.out, List.length_map, HNN.out]; omega⟩, ?_⟩
                          obtain ⟨a9, y9, y10, y11⟩ := z5.len
                          rw [posOf_is y11, hpos]; omega
          · go_simp
            refine hK _ _ ?_
            clear hK K
            refine wpAny_ready (rs := [0, 3]) (by kernel_rfl) (by simp) ?_
            refine (AllReady.cons rfl (fun K hK => ?_) (AllReady.cons rfl (fun K hK => ?_) AllReady.nil))
            · go_simp
              refine hK _ _ ?_
              clear hK K
              refine wpAny_ready (rs := [1, 3]) (by kernel_rfl) (by simp) ?_
              refine (AllReady.cons rfl (fun K hK => ?_) (AllReady.cons rfl (fun K hK => ?_) AllReady.nil))
              · go_simp
                refine hK _ _ ?_
                clear hK K
                refine wpAny_ready (rs := [3]) (by kernel_rfl) (by simp) ?_
                refine (AllReady.cons rfl (fun K hK => ?_) AllReady.nil)
                · go_simp
                  refine (rdOp_ok _ s r wr.drew HT.out hs' HOP.out).mono ?_
                  rintro e w4 ⟨va, rfl, hva, hts, h4, k4⟩
                  replace k4 : KpG (w.heap.size + 1 + 1) wr w4 := ((Kp.refl _ wr).drew).trans k4
                  obtain ⟨AV, capv, rfl, _⟩ := hva.open_
                  have c14 : w4.cell? ⟨w.heap.size, 1, none⟩ = some (.slice BB nn dap) := (box2 ((k4.block _ hlc (by omega)).trans HC.out)).2
                  have hrow4 : w4.ownsRow (w.heap.size + 3) 48 4 (.slice BB nn dap) nn (flat cellsP items) := by have h := own_kpG HOI.out.1 k4 (by omega); rw [HNN.out] at h; exact h
                  have hsz4 : wr.heap.size ≤ w4.heap.size := k4.size
                  have hl4 : w.heap.size < w4.heap.size := by omega
                  simp only [opV]
                  refine hK _ _ ?_
                  clear hK K
                  refine wpAny_ready (rs := [4]) (by kernel_rfl) (by simp) ?_
                  refine (AllReady.cons rfl (fun K hK => ?_) AllReady.nil)
                  · go_simp
                    refine hK _ _ ?_
                    clear hK K
                    refine wpAny_ready (rs := [5]) (by kernel_rfl) (by simp) ?_
                    refine (AllReady.cons rfl (fun K hK => ?_) AllReady.nil)
                    · refine step_append_lies _ (by rfl) _ _ _ (by rfl) (w.heap.size + 3) 48 i0 _ 4 56 Tryz.underlying22 hi hz0 hz1 hz2 rfl (by omega) (.slice BB nn dap) nn (flat cellsP items) (by rfl) (hrow4.alloc _) ⟨w4.heap.size, 0, none⟩ 1 1 [.int .i64 o.kind, .int .i64 o.n, .string o.text, .slice AV o.attrs.length capv] (by rfl) (by rfl) (World.news_of_block (cs := #[.int .i64 o.kind, .int .i64 o.n, .string o.text, .slice AV o.attrs.length capv]) (t := 48) (fr := (0, 0)) (heap_alloc_new w4 _)) (by simp [Value.oneCell']) (by omega) (by unfold maxLen; omega) (by omega) (by simp; omega) (w4.heap.size + 1) (by simp) ?_
                      intro gg cap2 w3 hown3 hgrow hat hggl
                      obtain ⟨z1, z2, z3, z4, z5, z6⟩ := raw_done (f := f) HC.out HF.out hbw2 hsz HOI.out HNN.out hva (by omega) h4 k4 hown3 hgrow
                      have hC3 := raw_c3 HC.out HVL.out k4 hgrow
                      have q1 := (box2 hC3).2
                      have fq := froz_heap hC3 1
                      have hl3 := heap_lt hC3
                      refine hK _ _ ?_
                      clear hK K
                      refine wpAny_ready (rs := [6]) (by kernel_rfl) (by simp) ?_
                      refine (AllReady.cons rfl (fun K hK => ?_) AllReady.nil)
                      · go_simp
                        refine hK _ _ ?_
                        clear hK K
                        refine wpAny_ready (rs := [7]) (by kernel_rfl) (by simp) ?_
                        refine (AllReady.cons rfl (fun K hK => ?_) AllReady.nil)
                        · go_simp
                          refine hK _ _ ?_
                          clear hK K
                          refine wpAny_done (by kernel_rfl) ?_ _
                          go_wp2
                          refine ⟨⟨_, acc ++ [o], r', m, z1, z2, z3, z4, z5, by rw [← HIT.out]; exact z6, HST.out, by omega, by rw [List.length_append, List.length_singleton, ← HIT.out, List.length_map, HNN.out]; omega⟩, ?_⟩
                          obtain ⟨a9, y9, y10, y11⟩ := z5.len
                          rw [posOf_is y11, hpos]; omega
              · go_simp
                refine (rdOp_ok _ s r wr.drew HT.out hs' HOP.out).mono ?_
                rintro e w4 ⟨va, rfl, hva, hts, h4, k4⟩
                replace k4 : KpG (w.heap.size + 1 + 1) wr w4 := ((Kp.refl _ wr).drew).trans k4
                obtain ⟨AV, capv, rfl, _⟩ := hva.open_
                have c14 : w4.cell? ⟨w.heap.size, 1, none⟩ = some (.slice BB nn dap) := (box2 ((k4.block _ hlc (by omega)).trans HC.out)).2
                have hrow4 : w4.ownsRow (w.heap.size + 3) 48 4 (.slice BB nn dap) nn (flat cellsP items) := by have h := own_kpG HOI.out.1 k4 (by omega); rw [HNN.out] at h; exact h
                have hsz4 : wr.heap.size ≤ w4.heap.size := k4.size
                have hl4 : w.heap.size < w4.heap.size := by omega
                simp only [opV]
                refine hK _ _ ?_
                clear hK K
                refine wpAny_ready (rs := [1, 4]) (by kernel_rfl) (by simp) ?_
                refine (AllReady.cons rfl (fun K hK => ?_) (AllReady.cons rfl (fun K hK => ?_) AllReady.nil))
                · go_simp
                  refine hK _ _ ?_
                  clear hK K
                  refine wpAny_ready (rs := [4]) (by kernel_rfl) (by simp) ?_
                  refine (AllReady.cons rfl (fun K hK => ?_) AllReady.nil)
                  · go_simp
                    refine hK _ _ ?_
                    clear hK K
                    refine wpAny_ready (rs := [5]) (by kernel_rfl) (by simp) ?_
                    refine (AllReady.cons rfl (fun K hK => ?_) AllReady.nil)
                    · refine step_append_lies _ (by rfl) _ _ _ (by rfl) (w.heap.size + 3) 48 i0 _ 4 56 Tryz.underlying22 hi hz0 hz1 hz2 rfl (by omega) (.slice BB nn dap) nn (flat cellsP items) (by rfl) (hrow4.alloc _) ⟨w4.heap.size, 0, none⟩ 1 1 [.int .i64 o.kind, .int .i64 o.n, .string o.text, .slice AV o.attrs.length capv] (by rfl) (by rfl) (World.news_of_block (cs := #[.int .i64 o.kind, .int .i64 o.n, .string o.text, .slice AV o.attrs.length capv]) (t := 48) (fr := (0, 0)) (heap_alloc_new w4 _)) (by simp [Value.oneCell']) (by omega) (by unfold maxLen; omega) (by omega) (by simp; omega) (w4.heap.size + 1) (by simp) ?_
                      intro gg cap2 w3 hown3 hgrow hat hggl
                      obtain ⟨z1, z2, z3, z4, z5, z6⟩ := raw_done (f := f) HC.out HF.out hbw2 hsz HOI.out HNN.out hva (by omega) h4 k4 hown3 hgrow
                      have hC3 := raw_c3 HC.out HVL.out k4 hgrow
                      have q1 := (box2 hC3).2
                      have fq := froz_heap hC3 1
                      have hl3 := heap_lt hC3
                      refine hK _ _ ?_
                      clear hK K
                      refine wpAny_ready (rs := [6]) (by kernel_rfl) (by simp) ?_
                      refine (AllReady.cons rfl (fun K hK => ?_) AllReady.nil)
                      · go_simp
                        refine hK _ _ ?_
                        clear hK K
                        refine wpAny_ready (rs := [7]) (by kernel_rfl) (by simp) ?_
                        refine (AllReady.cons rfl (fun K hK => ?_) AllReady.nil)
                        · go_simp
                          refine hK _ _ ?_
                          clear hK K
                          refine wpAny_done (by kernel_rfl) ?_ _
                          go_wp2
                          refine ⟨⟨_, acc ++ [o], r', m, z1, z2, z3, z4, z5, by rw [← HIT.out]; exact z6, HST.out, by omega, by rw [List.length_append, List.length_singleton, ← HIT.out, List.length_map, HNN.out]; omega⟩, ?_⟩
                          obtain ⟨a9, y9, y10, y11⟩ := z5.len
                          rw [posOf_is y11, hpos]; omega
                · go_simp
                  refine hK _ _ ?_
                  clear hK K
                  refine wpAny_ready (rs := [1]) (by kernel_rfl) (by simp) ?_
                  refine (AllReady.cons rfl (fun K hK => ?_) AllReady.nil)
                  · go_simp
                    refine hK _ _ ?_
                    clear hK K
                    refine wpAny_ready (rs := [5]) (by kernel_rfl) (by simp) ?_
                    refine (AllReady.cons rfl (fun K hK => ?_) AllReady.nil)
                    · refine step_append_lies _ (by rfl) _ _ _ (by rfl) (w.heap.size + 3) 48 i0 _ 4 56 Tryz.underlying22 hi hz0 hz1 hz2 rfl (by omega) (.slice BB nn dap) nn (flat cellsP items) (by rfl) (hrow4.alloc _) ⟨w4.heap.size, 0, none⟩ 1 1 [.int .i64 o.kind, .int .i64 o.n, .string o.text, .slice AV o.attrs.length capv] (by rfl) (by rfl) (World.news_of_block (cs := #[.int .i64 o.kind, .int .i64 o.n, .string o.text, .slice AV o.attrs.length capv]) (t := 48) (fr := (0, 0)) (heap_alloc_new w4 _)) (by simp [Value.oneCell']) (by omega) (by unfold maxLen; omega) (by omega) (by simp; omega) (w4.heap.size + 1) (by simp) ?_
                      intro gg cap2 w3 hown3 hgrow hat hggl
                      obtain ⟨z1, z2, z3, z4, z5, z6⟩ := raw_done (f := f) HC.out HF.out hbw2 hsz HOI.out HNN.out hva (by omega) h4 k4 hown3 hgrow
                      have hC3 := raw_c3 HC.out HVL.out k4 hgrow
                      have q1 := (box2 hC3).2
                      have fq := froz_heap hC3 1
                      have hl3 := heap_lt hC3
                      refine hK _ _ ?_
                      clear hK K
                      refine wpAny_ready (rs := [6]) (by kernel_rfl) (by simp) ?_
                      refine (AllReady.cons rfl (fun K hK => ?_) AllReady.nil)
                      · go_simp
                        refine hK _ _ ?_
                        clear hK K
                        refine wpAny_ready (rs := [7]) (by kernel_rfl) (by simp) ?_
                        refine (AllReady.cons rfl (fun K hK => ?_) AllReady.nil)
                        · go_simp
                          refine hK _ _ ?_
                          clear hK K
                          refine wpAny_done (by kernel_rfl) ?_ _
                          go_wp2
                          refine ⟨⟨_, acc ++ [o], r', m, z1, z2, z3, z4, z5, by rw [← HIT.out]; exact z6, HST.out, by omega, by rw [List.length_append, List.length_singleton, ← HIT.out, List.length_map, HNN.out]; omega⟩, ?_⟩
                          obtain ⟨a9, y9, y10, y11⟩ := z5.len
                          rw [posOf_is y11, hpos]; omega
            · go_simp
              refine (rdOp_ok _ s r wr.drew HT.out hs' HOP.out).mono ?_
              rintro e w4 ⟨va, rfl, hva, hts, h4, k4⟩
              replace k4 : KpG (w.heap.size + 1 + 1) wr w4 := ((Kp.refl _ wr).drew).trans k4
              obtain ⟨AV, capv, rfl, _⟩ := hva.open_
              have c14 : w4.cell? ⟨w.heap.size, 1, none⟩ = some (.slice BB nn dap) := (box2 ((k4.block _ hlc (by omega)).trans HC.out)).2
              have hrow4 : w4.ownsRow (w.heap.size + 3) 48 4 (.slice BB nn dap) nn (flat cellsP items) := by have h := own_kpG HOI.out.1 k4 (by omega); rw [HNN.out] at h; exact h
              have hsz4 : wr.heap.size ≤ w4.heap.size := k4.size
              have hl4 : w.heap.size < w4.heap.size := by omega
              simp only [opV]
              refine hK _ _ ?_
              clear hK K
              refine wpAny_ready (rs := [0, 4]) (by kernel_rfl) (by simp) ?_
              refine (AllReady.cons rfl (fun K hK => ?_) (AllReady.cons rfl (fun K hK => ?_) AllReady.nil))
              · go_simp
                refine hK _ _ ?_
                clear hK K
                refine wpAny_ready (rs := [1, 4]) (by kernel_rfl) (by simp) ?_
                refine (AllReady.cons rfl (fun K hK => ?_) (AllReady.cons rfl (fun K hK => ?_) AllReady.nil))
                · go_simp
                  refine hK _ _ ?_
                  clear hK K
                  refine wpAny_ready (rs := [4]) (by kernel_rfl) (by simp) ?_
                  refine (AllReady.cons rfl (fun K hK => ?_) AllReady.nil)
                  · go_simp
                    refine hK _ _ ?_
                    clear hK K
                    refine wpAny_ready (rs := [5]) (by kernel_rfl) (by simp) ?_
                    refine (AllReady.cons rfl (fun K hK => ?_) AllReady.nil)
                    · refine step_append_lies _ (by rfl) _ _ _ (by rfl) (w.heap.size + 3) 48 i0 _ 4 56 Tryz.underlying22 hi hz0 hz1 hz2 rfl (by omega) (.slice BB nn dap) nn (flat cellsP items) (by rfl) (hrow4.alloc _) ⟨w4.heap.size, 0, none⟩ 1 1 [.int .i64 o.kind, .int .i64 o.n, .string o.text, .slice AV o.attrs.length capv] (by rfl) (by rfl) (World.news_of_block (cs := #[.int .i64 o.kind, .int .i64 o.n, .string o.text, .slice AV o.attrs.length capv]) (t := 48) (fr := (0, 0)) (heap_alloc_new w4 _)) (by simp [Value.oneCell']) (by omega) (by unfold maxLen; omega) (by omega) (by simp; omega) (w4.heap.size + 1) (by simp) ?_
                      intro gg cap2 w3 hown3 hgrow hat hggl
                      obtain ⟨z1, z2, z3, z4, z5, z6⟩ := raw_done (f := f) HC.out HF.out hbw2 hsz HOI.out HNN.out hva (by omega) h4 k4 hown3 hgrow
                      have hC3 := raw_c3 HC.out HVL.out k4 hgrow
                      have q1 := (box2 hC3).2
                      have fq := froz_heap hC3 1
                      have hl3 := heap_lt hC3
                      refine hK _ _ ?_
                      clear hK K
                      refine wpAny_ready (rs := [6]) (by kernel_rfl) (by simp) ?_
                      refine (AllReady.cons rfl (fun K hK => ?_) AllReady.nil)
                      · go_simp
                        refine hK _ _ ?_
                        clear hK K
                        refine wpAny_ready (rs := [7]) (by kernel_rfl) (by simp) ?_
                        refine (AllReady.cons rfl (fun K hK => ?_) AllReady.nil)
                        · go_simp
                          refine hK _ _ ?_
                          clear hK K
                          refine wpAny_done (by kernel_rfl) ?_ _
                          go_wp2
                          refine ⟨⟨_, acc ++ [o], r', m, z1, z2, z3, z4, z5, by rw [← HIT.out]; exact z6, HST.out, by omega, by rw [List.length_append, List.length_singleton, ← HIT.out, List.length_map, HNN.out]; omega⟩, ?_⟩
                          obtain ⟨a9, y9, y10, y11⟩ := z5.len
                          rw [posOf_is y11, hpos]; omega
                · go_simp
                  refine hK _ _ ?_
                  clear hK K
                  refine wpAny_ready (rs := [1]) (by kernel_rfl) (by simp) ?_
                  refine (AllReady.cons rfl (fun K hK => ?_) AllReady.nil)
                  · go_simp
                    refine hK _ _ ?_
                    clear hK K
                    refine wpAny_ready (rs := [5]) (by kernel_rfl) (by simp) ?_
                    refine (AllReady.cons rfl (fun K hK => ?_) AllReady.nil)
                    · refine step_append_lies _ (by rfl) _ _ _ (by rfl) (w.heap.size + 3) 48 i0 _ 4 56 Tryz.underlying22 hi hz0 hz1 hz2 rfl (by omega) (.slice BB nn dap) nn (flat cellsP items) (by rfl) (hrow4.alloc _) ⟨w4.heap.size, 0, none⟩ 1 1 [.int .i64 o.kind, .int .i64 o.n, .string o.text, .slice AV o.attrs.length capv] (by rfl) (by rfl) (World.news_of_block (cs := #[.int .i64 o.kind, .int .i64 o.n, .string o.text, .slice AV o.attrs.length capv]) (t := 48) (fr := (0, 0)) (heap_alloc_new w4 _)) (by simp [Value.oneCell']) (by omega) (by unfold maxLen; omega) (by omega) (by simp; omega) (w4.heap.size + 1) (by simp) ?_
                      intro gg cap2 w3 hown3 hgrow hat hggl
                      obtain ⟨z1, z2, z3, z4, z5, z6⟩ := raw_done (f := f) HC.out HF.out hbw2 hsz HOI.out HNN.out hva (by omega) h4 k4 hown3 hgrow
                      have hC3 := raw_c3 HC.out HVL.out k4 hgrow
                      have q1 := (box2 hC3).2
                      have fq := froz_heap hC3 1
                      have hl3 := heap_lt hC3
                      refine hK _ _ ?_
                      clear hK K
                      refine wpAny_ready (rs := [6]) (by kernel_rfl) (by simp) ?_
                      refine (AllReady.cons rfl (fun K hK => ?_) AllReady.nil)
                      · go_simp
                        refine hK _ _ ?_
                        clear hK K
                        refine wpAny_ready (rs := [7]) (by kernel_rfl) (by simp) ?_
                        refine (AllReady.cons rfl (fun K hK => ?_) AllReady.nil)
                        · go_simp
                          refine hK _ _ ?_
                          clear hK K
                          refine wpAny_done (by kernel_rfl) ?_ _
                          go_wp2
                          refine ⟨⟨_, acc ++ [o], r', m, z1, z2, z3, z4, z5, by rw [← HIT.out]; exact z6, HST.out, by omega, by rw [List.length_append, List.length_singleton, ← HIT.out, List.length_map, HNN.out]; omega⟩, ?_⟩
                          obtain ⟨a9, y9, y10, y11⟩ := z5.len
                          rw [posOf_is y11, hpos]; omega
              · go_simp
                refine hK _ _ ?_
                clear hK K
                refine wpAny_ready (rs := [0]) (by kernel_rfl) (by simp) ?_
                refine (AllReady.cons rfl (fun K hK => ?_) AllReady.nil)
                · go_simp
                  refine hK _ _ ?_
                  clear hK K
                  refine wpAny_ready (rs := [1]) (by kernel_rfl) (by simp) ?_
                  refine (AllReady.cons rfl (fun K hK => ?_) AllReady.nil)
                  · go_simp
                    refine hK _ _ ?_
                    clear hK K
                    refine wpAny_ready (rs := [5]) (by kernel_rfl) (by simp) ?_
                    refine (AllReady.cons rfl (fun K hK => ?_) AllReady.nil)
                    · refine step_append_lies _ (by rfl) _ _ _ (by rfl) (w.heap.size + 3) 48 i0 _ 4 56 Tryz.underlying22 hi hz0 hz1 hz2 rfl (by omega) (.slice BB nn dap) nn (flat cellsP items) (by rfl) (hrow4.alloc _) ⟨w4.heap.size, 0, none⟩ 1 1 [.int .i64 o.kind, .int .i64 o.n, .string o.text, .slice AV o.attrs.length capv] (by rfl) (by rfl) (World.news_of_block (cs := #[.int .i64 o.kind, .int .i64 o.n, .string o.text, .slice AV o.attrs.length capv]) (t := 48) (fr := (0, 0)) (heap_alloc_new w4 _)) (by simp [Value.oneCell']) (by omega) (by unfold maxLen; omega) (by omega) (by simp; omega) (w4.heap.size + 1) (by simp) ?_
                      intro gg cap2 w3 hown3 hgrow hat hggl
                      obtain ⟨z1, z2, z3, z4, z5, z6⟩ := raw_done (f := f) HC.out HF.out hbw2 hsz HOI.out HNN.out hva (by omega) h4 k4 hown3 hgrow
                      have hC3 := raw_c3 HC.out HVL.out k4 hgrow
                      have q1 := (box2 hC3).2
                      have fq := froz_heap hC3 1
                      have hl3 := heap_lt hC3
                      refine hK _ _ ?_
                      clear hK K
                      refine wpAny_ready (rs := [6]) (by kernel_rfl) (by simp) ?_
                      refine (AllReady.cons rfl (fun K hK => ?_) AllReady.nil)
                      · go_simp
                        refine hK _ _ ?_
                        clear hK K
                        refine wpAny_ready (rs := [7]) (by kernel_rfl) (by simp) ?_
                        refine (AllReady.cons rfl (fun K hK => ?_) AllReady.nil)
                        · go_simp
                          refine hK _ _ ?_
                          clear hK K
                          refine wpAny_done (by kernel_rfl) ?_ _
                          go_wp2
                          refine ⟨⟨_, acc ++ [o], r', m, z1, z2, z3, z4, z5, by rw [← HIT.out]; exact z6, HST.out, by omega, by rw [List.length_append, List.length_singleton, ← HIT.out, List.length_map, HNN.out]; omega⟩, ?_⟩
                          obtain ⟨a9, y9, y10, y11⟩ := z5.len
                          rw [posOf_is y11, hpos]; omega
      · have hr0 : r = [] := by
          apply List.eq_nil_of_length_eq_zero; omega
        have hR : rawM s.data.toList = .ok (f, acc) := by
          rw [HRAW.out, HQ.out, hr0]; simp [opsF, pushO]
        have HR := Lib.hid hR; clear hR hr0
        have hd : decide ((a : Int) < (s.size : Int)) = false := by simp; omega
        obtain ⟨BB, nn, dap, rfl⟩ : ∃ BB nn dap, v = .slice BB nn dap := by
          obtain ⟨items, hit, hOI⟩ := HO.out
          rcases hOI.1.2 with ⟨hv, h0⟩ | ⟨rb, dap, cur, hv, _⟩
          · exact ⟨_, _, _, hv⟩
          · exact ⟨_, _, _, hv⟩
        obtain ⟨d0, d1⟩ := box2 HF.out
        have fc0 := froz_heap HC.out 0; have fc1 := froz_heap HC.out 1
        have ff0 := froz_heap HF.out 0; have ff1 := froz_heap HF.out 1
        have hlf := heap_lt HF.out
        obtain ⟨z1, z2, z3, z4⟩ := raw_fin HC.out HF.out hbw2 HO.out
        have Z1 := Lib.hid z1; have Z2 := Lib.hid z2; have Z3 := Lib.hid z3; have Z4 := Lib.hid z4
        clear z1 z2 z3 z4
        go_wp2_with fail
        go_region
        all_goals
          try go_wp2
          refine leaves_cons (f := 123) (args := #[.pointer (some ⟨w.heap.size + 1, 0, none⟩), .pointer (some ⟨w.heap.size, 0, none⟩)]) (by simp) (by simp [go_sem]) ?_
          refine (readD_idle (w.heap.size + 1) w.heap.size _ _ _ Z2.out).mono ?_
          rintro e u' w3 ⟨rfl, rfl, rfl⟩
          obtain ⟨q0, q1⟩ := box2 Z2.out
          obtain ⟨q2, q3⟩ := box2 Z1.out
          simp [Leaves, settle, results, Tryz.results75, go_sem, q0, q1, q2, q3]
          unfold RawPost; rw [HR.out]
          exact ⟨_, rfl, Z3.out, Z4.out⟩
end
end Go.Proofs.YtdpmjlkmjmookaaGreatDoor
