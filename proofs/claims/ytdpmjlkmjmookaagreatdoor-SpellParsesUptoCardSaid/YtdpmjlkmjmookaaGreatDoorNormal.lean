/-
  Package change: put at any row, flush, Clip, Normal: the normal form, walked.
-/
import Derived.Test.YtdpmjlkmjmookaaGreatDoorRow2
import Derived.Test.YtdpmjlkmjmookaaGreatDoorUtf
import Derived.StillTailTactics
namespace Go.Proofs.YtdpmjlkmjmookaaGreatDoor
open Go.RowKit

theorem putM_snoc (init : List OpM) (l o : OpM) : putM (init ++ [l]) o = if joins l o then init ++ [joined l o] else init ++ [l] ++ [o] := by
  simp [putM]
theorem put_any (lo g : Nat) (gone : Value) (o : OpM) (va : Value) (F : Nat → Prop) (v : Value) (ops : List OpM) (w : World) (hg : w.heap[g]? = some (.cells #[v, gone] 147 (0, 0))) (hlo : lo ≤ g) (hO : OwnO w lo v ops)
    (hA : RdA w F va o.attrs) (ht : o.text.size ≤ 1099511627776) (hlen : ops.length ≤ 1000000) (hn : 0 ≤ o.n) (hb : ∀ l ∈ ops, 0 ≤ l.n ∧ l.n + o.n ≤ 1099511627776 ∧ l.text.size + o.text.size ≤ 1099511627776) :
    Calls Tryz.prog 119 #[.pointer (some ⟨g, 0, none⟩), opV o va] w (PutPost lo g v gone (putM ops o) w) := by
  obtain ⟨items, rfl, hI⟩ := hO
  rcases List.eq_nil_or_concat items with rfl | ⟨init, last, rfl⟩
  · exact put_push lo g gone o va F v [] w hg hlo hI hA ht (by simp) (fun h => by simp at h)
  · rw [List.concat_eq_append] at *
    have hlen' : init.length + 1 ≤ 1000000 := by simpa using hlen
    rw [List.map_append, List.map_cons, List.map_nil, putM_snoc]
    cases hj : joins last.1 o with
    | true =>
      rw [if_pos rfl]
      obtain ⟨q0, q1, q2⟩ := hb last.1 (by simp)
      exact put_join lo g gone o va F v init last w hg hlo hI hA (by omega) hj q0 hn q1 q2
    | false =>
      have h1 := put_push lo g gone o va F v (init ++ [last]) w hg hlo hI hA ht (by simpa using hlen') (fun h => by
        have e : (init ++ [last])[(init ++ [last]).length - 1]'(by simp) = last := by rw [List.getElem_append_right (by simp)]; simp
        rw [e]; exact hj)
      rw [List.map_append, List.map_cons, List.map_nil] at h1
      exact h1

/-! ### flush -/
def delOp (n : Int) : OpM := ⟨3, n, ⟨#[]⟩, []⟩
def flushM (ops : List OpM) (gone : Int) : List OpM := if 0 < gone then putM ops (delOp gone) else ops
def FlushPost (lo g : Nat) (v : Value) (ops : List OpM) (w : World) (e : Ending) (w' : World) : Prop :=
  e = .returned (.tuple #[]) ∧ ∃ v', w'.heap[g]? = some (.cells #[v', .int .i64 0] 147 (0, 0)) ∧ OwnO w' lo v' ops ∧ Put g v.ownBlock w w' ∧ FreshOr v v' w.heap.size
theorem maker_ne {w : World} {g lo : Nat} {cs : Array Value} {fz : Nat × Nat} {v : Value} {ops : List OpM} (hg : w.heap[g]? = some (.cells cs 147 fz)) (h : OwnO w lo v ops) : ∀ k, v.ownBlock = some k → k ≠ g := by
  obtain ⟨items, e, ho, hi⟩ := h
  intro k hk e
  exact own_ne ho hg (by decide) (by rw [hk, e])
theorem set_heap1 {w : World} {g : Nat} {a b : Value} {t : TypeId} (h : w.heap[g]? = some (.cells #[a, b] t (0, 0))) (u : Value) : (w.setCell ⟨g, 1, none⟩ u).heap[g]? = some (.cells #[a, u] t (0, 0)) := by
  simp [World.setCell, Array.getElem?_modify, h]
/-- A row of operations stands where its own block and all rows of attributes stand. -/
theorem OwnO.agree {w w' : World} {lo : Nat} {v : Value} {ops : List OpM} (h : OwnO w lo v ops) (hr : ∀ k, v.ownBlock = some k → w'.heap[k]? = w.heap[k]?) (ha : ∀ k, lo ≤ k → TyA w k → w'.heap[k]? = w.heap[k]?) : OwnO w' lo v ops := by
  obtain ⟨items, e, ho, hi⟩ := h
  refine ⟨items, e, ⟨ho.1, ?_⟩, fun p hp' => (hi p hp').agree ha⟩
  rcases ho.2 with hn | ⟨g', cap, cur, rfl, hb, hgg, rest⟩
  · exact .inl hn
  · exact .inr ⟨g', cap, cur, rfl, hb, by rw [hr g' rfl]; exact hgg, rest⟩
/-- a store into the maker's own count -/
theorem OwnO.count {w : World} {lo g : Nat} {v gone u : Value} {ops : List OpM} (hg : w.heap[g]? = some (.cells #[v, gone] 147 (0, 0))) (h : OwnO w lo v ops) :
    (w.setCell ⟨g, 1, none⟩ u).heap[g]? = some (.cells #[v, u] 147 (0, 0)) ∧ OwnO (w.setCell ⟨g, 1, none⟩ u) lo v ops ∧ Put g none w (w.setCell ⟨g, 1, none⟩ u) := by
  refine ⟨set_heap1 hg u, h.agree (fun k hk => Below.heap_setCell _ _ _ _ (maker_ne hg h k hk)) (fun k _ ht => Below.heap_setCell _ _ _ _ (fun e => maker_nt hg (by have e : k = g := e; exact e ▸ ht))), (Kp.refl _ w).setCell (p := ⟨g, 1, none⟩) (.inl (.inl rfl)) _⟩
theorem OwnO.lt {w : World} {lo : Nat} {v : Value} {ops : List OpM} (h : OwnO w lo v ops) : ∀ k, v.ownBlock = some k → lo ≤ k ∧ k < w.heap.size := by obtain ⟨items, e, ho, hi⟩ := h; exact ho.lt
theorem Put.more {g : Nat} {rb : Option Nat} {w w' : World} (h : Put g none w w') : Put g rb w w' := h.mono fun k _ hk => by rcases hk with e | e; exact .inl e; cases e
/-- two steps, the second over the row that the first left -/
theorem Put.then {g : Nat} {v v' : Value} {w w1 w2 : World} (h : Put g v.ownBlock w w1) (hf : FreshOr v v' w.heap.size) (h2 : Put g v'.ownBlock w1 w2) : Put g v.ownBlock w w2 :=
  ⟨h2.os.trans h.os, h2.tape.trans h.tape, h2.output.trans h.output, Nat.le_trans h.size h2.size, fun k hk hs => by
    rw [h2.block k (Nat.lt_of_lt_of_le hk h.size) (by
      rintro (e | e)
      · exact hs (.inl e)
      · rcases hf k e.symm with e2 | e2
        · exact hs (.inr e2.symm)
        · omega)]
    exact h.block k hk hs⟩
theorem FreshOr.then {v v1 v2 : Value} {n m : Nat} (h : FreshOr v v1 n) (h2 : FreshOr v1 v2 m) (hnm : n ≤ m) : FreshOr v v2 n := fun k hk => by
  rcases h2 k hk with e | e
  · exact h k e
  · right; omega
theorem FreshOr.refl (v : Value) (n : Nat) : FreshOr v v n := fun _ h => .inl h

set_option maxHeartbeats 1000000 in
set_option maxRecDepth 100000 in
theorem flush_any (lo g : Nat) (gone : Int) (v : Value) (ops : List OpM) (w : World) (hg : w.heap[g]? = some (.cells #[v, .int .i64 gone] 147 (0, 0))) (hlo : lo ≤ g) (hO : OwnO w lo v ops)
    (hlen : ops.length ≤ 1000000) (hn : 0 ≤ gone) (hb : ∀ l ∈ ops, 0 ≤ l.n ∧ l.n + gone ≤ 1099511627776 ∧ l.text.size ≤ 1099511627776) :
    Calls Tryz.prog 118 #[.pointer (some ⟨g, 0, none⟩)] w (FlushPost lo g v (flushM ops gone) w) := by
  obtain ⟨c0, c1⟩ := box2 hg
  have hgl := heap_lt hg
  by_cases h0 : 0 < gone
  · have HF := Lib.hid (show flushM ops gone = putM ops (delOp gone) by unfold flushM; rw [if_pos h0])
    rw [HF.out]
    have hp := put_any lo g (.int .i64 gone) (delOp gone) (.slice none 0 0) (fun _ => False) v ops w.drew hg hlo (by exact hO.agree (fun _ _ => rfl) (fun _ _ _ => rfl)) (Rd.nil _ _ _ _) (by show 0 ≤ _; omega) hlen hn (fun l hl => by
      obtain ⟨q0, q1, q2⟩ := hb l hl; exact ⟨q0, q1, by show l.text.size + 0 ≤ _; omega⟩)
    have HP := Lib.hid hp; clear hp
    go_enter Tryz.func118, Tryz.ntmps118
    go_wp2_with fail
    go_still_tail 8, (by kernel_rfl)
    change wpList _ _ _ _ _ w.drew
    go_wp2_with fail
    refine HP.out.mono ?_
    rintro e w1 ⟨rfl, v1, hg1, hO1, hp1, hf1⟩
    obtain ⟨d0, d1⟩ := box2 hg1
    have f1 := froz_heap hg1 1
    obtain ⟨hg2, hO2, hp2⟩ := hO1.count (u := .int .i64 0) hg1
    go_wp2
    go_end0
    exact ⟨rfl, v1, hg2, hO2, ((Kp.refl _ w).drew.trans hp1).trans hp2.more, hf1⟩
  · have HF := Lib.hid (show flushM ops gone = ops by unfold flushM; rw [if_neg h0])
    rw [HF.out]
    obtain rfl : gone = 0 := by omega
    go_enter Tryz.func118, Tryz.ntmps118
    go_wp2
    go_end0
    exact ⟨rfl, v, hg, hO, Kp.refl _ _, FreshOr.refl _ _⟩

/-! ### Normal, plain -/
structure NormSt where
  ops : List OpM
  gone : Int
def normStep (s : NormSt) (o : OpM) : NormSt :=
  if o.kind = 1 then ⟨putM (flushM s.ops s.gone) o, 0⟩
  else if o.kind = 2 then ⟨putM s.ops o, s.gone⟩
  else if o.kind = 3 then ⟨s.ops, s.gone + o.n⟩
  else s
def normFold (ops : List OpM) : NormSt := ops.foldl normStep ⟨[], 0⟩
def normTail (ops : List OpM) : List OpM := match ops.getLast? with
  | some l => if l.kind = 1 ∧ l.attrs = [] then ops.dropLast else ops
  | none => ops
def normM (ops : List OpM) : List OpM := let s := normFold ops; normTail (flushM s.ops s.gone)

/-! ### What a changeset that may be is made of -/
theorem cntE_size {s : ByteArray} (h : cntE s = 0) : s.size ≤ 80000 := by
  have hc : cntOk s = true := by
    cases hb : cntOk s with
    | true => rfl
    | false => simp [cntE, hb] at h
  simp only [cntOk, Bool.and_eq_true, decide_eq_true_eq] at hc
  have := size_le_runes s
  omega
structure OpOk (o : OpM) : Prop where
  n0 : 0 ≤ o.n
  n1 : o.n ≤ 20000
  t : o.text.size ≤ 80000
  k : o.kind = 1 ∨ o.kind = 2 ∨ o.kind = 3
theorem toE_fold {f : Int} {ops : List OpM} (h : toE f ops = 0) : (0 ≤ f ∧ f ≤ 20000) ∧ ops.length ≤ 2000 ∧ (toFold f ops).e = 0 := by
  unfold toE at h
  split at h
  · omega
  · split at h
    · omega
    · split at h
      · omega
      · rename_i h1 h2 h3
        exact ⟨by omega, by omega, by simpa using h3⟩
theorem empty_of_isEmpty {s : ByteArray} (h : s.toList.isEmpty = true) : s.size = 0 := by
  rw [ByteArray.toList_eq] at h
  obtain ⟨⟨x⟩⟩ := s
  simp at h; subst h; rfl
theorem op_ok {f : Int} {ops : List OpM} (h : toE f ops = 0) : ∀ o ∈ ops, OpOk o := by
  obtain ⟨hf, hl, he⟩ := toE_fold h
  intro o ho
  obtain ⟨k, hk, rfl⟩ := List.getElem_of_mem ho
  have hz : ∀ j, (toFold f (ops.take j)).e = 0 := fun j => by
    rcases Decidable.em ((toFold f (ops.take j)).e = 0) with h1 | h1
    · exact h1
    · rw [toFold_bad f ops j h1] at he; exact absurd he h1
  have h1 := toFold_ok f ops k hf (by omega) (hz k)
  have h2 := hz (k + 1)
  rw [toFold_snoc f ops k hk] at h2
  have h3 : oneE ops[k] (toFold f (ops.take k)).left = 0 := by
    unfold toStep at h2
    rw [if_neg (by rw [hz k]; simp)] at h2
    by_cases h4 : oneE ops[k] (toFold f (ops.take k)).left = 0
    · exact h4
    · rw [if_pos h4] at h2; exact h2
  generalize (toFold f (ops.take k)).left = left at *
  generalize ops[k] = o at *
  unfold oneE at h3
  cases hs : shapedB o with
  | false => simp [hs] at h3
  | true =>
    simp only [hs, Bool.not_true, Bool.false_eq_true, if_false] at h3
    by_cases k2 : o.kind = 2
    · rw [if_pos k2] at h3
      have hc : cntE o.text = 0 := by
        by_cases h5 : cntE o.text = 0
        · exact h5
        · rw [if_pos h5] at h3; exact absurd h3 h5
      have hn : o.n = 0 := by unfold shapedB at hs; rw [if_pos k2] at hs; simp at hs; exact hs.1
      exact ⟨by omega, by omega, cntE_size hc, .inr (.inl k2)⟩
    · rw [if_neg k2] at h3
      have hlt : ¬ left < o.n := by
        intro h5
        by_cases h6 : changeE o.attrs = 0
        · simp [h6, h5] at h3
        · simp [h6] at h3
      by_cases k3 : o.kind = 3
      · unfold shapedB at hs
        rw [if_neg k2, if_pos k3] at hs
        simp only [Bool.and_eq_true, decide_eq_true_eq] at hs
        exact ⟨by omega, by omega, by rw [empty_of_isEmpty hs.1.2]; omega, .inr (.inr k3)⟩
      · unfold shapedB at hs
        rw [if_neg k2, if_neg k3] at hs
        simp only [Bool.and_eq_true, decide_eq_true_eq] at hs
        exact ⟨by omega, by omega, by rw [empty_of_isEmpty hs.2]; omega, .inl hs.1.1⟩

def sumN (ops : List OpM) : Int := (ops.map (·.n)).sum
def sumT (ops : List OpM) : Nat := (ops.map (·.text.size)).sum
theorem sumN_append (a b : List OpM) : sumN (a ++ b) = sumN a + sumN b := by simp [sumN]
theorem sumT_append (a b : List OpM) : sumT (a ++ b) = sumT a + sumT b := by simp [sumT]
theorem sumN_le {ops : List OpM} (h : ∀ l ∈ ops, 0 ≤ l.n) : 0 ≤ sumN ops ∧ ∀ l ∈ ops, l.n ≤ sumN ops := by
  induction ops with
  | nil => simp [sumN]
  | cons a l ih =>
    obtain ⟨h1, h2⟩ := ih (fun x hx => h x (by simp [hx]))
    have h3 := h a (by simp)
    simp only [sumN, List.map_cons, List.sum_cons] at *
    refine ⟨by omega, fun x hx => ?_⟩
    rcases List.mem_cons.1 hx with rfl | hx
    · omega
    · have := h2 x hx; omega
theorem sumT_le (ops : List OpM) : ∀ l ∈ ops, l.text.size ≤ sumT ops := by
  induction ops with
  | nil => simp
  | cons a l ih =>
    intro x hx
    simp only [sumT, List.map_cons, List.sum_cons] at *
    rcases List.mem_cons.1 hx with rfl | hx
    · omega
    · have := ih x hx; omega
/-- what the maker's row is bounded by behind k operations -/
structure StOk (k : Nat) (ops : List OpM) (gone : Int) : Prop where
  len : ops.length ≤ 2 * k
  nn : ∀ l ∈ ops, 0 ≤ l.n
  g0 : 0 ≤ gone
  sum : sumN ops + gone ≤ 20000 * k
  txt : sumT ops ≤ 80000 * k
theorem putM_sum (ops : List OpM) (o : OpM) : sumN (putM ops o) = sumN ops + o.n ∧ sumT (putM ops o) = sumT ops + o.text.size ∧ (putM ops o).length ≤ ops.length + 1 := by
  rcases List.eq_nil_or_concat ops with rfl | ⟨init, last, rfl⟩
  · simp [putM, sumN, sumT]
  · rw [List.concat_eq_append, putM_snoc]
    split
    · simp only [sumN_append, sumT_append, List.length_append]
      simp [sumN, sumT, joined, ByteArray.size_append]; omega
    · simp only [sumN_append, sumT_append, List.length_append]
      simp [sumN, sumT]
theorem putM_nn {ops : List OpM} {o : OpM} (h : ∀ l ∈ ops, 0 ≤ l.n) (h0 : 0 ≤ o.n) : ∀ l ∈ putM ops o, 0 ≤ l.n := by
  intro l hl
  rcases List.eq_nil_or_concat ops with rfl | ⟨init, last, rfl⟩
  · simp [putM] at hl; subst hl; exact h0
  · rw [List.concat_eq_append] at *
    rw [putM_snoc] at hl
    split at hl
    · rcases List.mem_append.1 hl with hl | hl
      · exact h l (by simp [hl])
      · simp at hl; subst hl
        have h3 := h last (by simp)
        simp only [joined]; omega
    · rcases List.mem_append.1 hl with hl | hl
      · exact h l hl
      · simp at hl; subst hl; exact h0
theorem StOk.put {k : Nat} {ops : List OpM} {g : Int} {o : OpM} (h : StOk k ops g) (ho : OpOk o) : sumN (putM ops o) + g ≤ 20000 * (k + 1) ∧ sumT (putM ops o) ≤ 80000 * (k + 1) ∧ ∀ l ∈ putM ops o, 0 ≤ l.n := by
  obtain ⟨s1, s2, _⟩ := putM_sum ops o
  have := ho.n1; have := ho.t; have := h.sum; have := h.txt
  exact ⟨by omega, by omega, putM_nn h.nn ho.n0⟩
theorem flushM_sum (ops : List OpM) (g : Int) (h : 0 ≤ g) : sumN (flushM ops g) = sumN ops + g ∧ sumT (flushM ops g) = sumT ops ∧ (flushM ops g).length ≤ ops.length + 1 := by
  unfold flushM
  split
  · obtain ⟨s1, s2, s3⟩ := putM_sum ops (delOp g)
    exact ⟨s1, by rw [s2]; show sumT ops + 0 = _; omega, s3⟩
  · exact ⟨by omega, rfl, by omega⟩
theorem flushM_nn {ops : List OpM} {g : Int} (h : ∀ l ∈ ops, 0 ≤ l.n) (h0 : 0 ≤ g) : ∀ l ∈ flushM ops g, 0 ≤ l.n := by
  unfold flushM
  split
  · exact putM_nn h h0
  · exact h
theorem StOk.step {k : Nat} {s : NormSt} {o : OpM} (h : StOk k s.ops s.gone) (ho : OpOk o) : StOk (k + 1) (normStep s o).ops (normStep s o).gone := by
  have h1 := ho.n0; have h2 := ho.n1; have h3 := ho.t; have h4 := h.sum; have h5 := h.txt; have h6 := h.len; have h7 := h.g0
  unfold normStep
  split
  · obtain ⟨f1, f2, f3⟩ := flushM_sum s.ops s.gone h.g0
    obtain ⟨p1, p2, p3⟩ := putM_sum (flushM s.ops s.gone) o
    exact ⟨by simp only; omega, putM_nn (flushM_nn h.nn h.g0) ho.n0, by simp, by simp only; omega, by simp only; omega⟩
  · split
    · obtain ⟨p1, p2, p3⟩ := putM_sum s.ops o
      exact ⟨by simp only; omega, putM_nn h.nn ho.n0, h.g0, by simp only; omega, by simp only; omega⟩
    · split
      · exact ⟨by simp only; omega, h.nn, by simp only; omega, by simp only; omega, by simp only; omega⟩
      · exact ⟨by omega, h.nn, h.g0, by omega, by omega⟩
theorem StOk.zero : StOk 0 [] 0 := ⟨by simp, by simp, by simp, by simp [sumN], by simp [sumT]⟩
theorem normFold_snoc (ops : List OpM) (k : Nat) (h : k < ops.length) : normFold (ops.take (k + 1)) = normStep (normFold (ops.take k)) ops[k] := by
  unfold normFold; rw [List.take_succ_eq_append_getElem h, List.foldl_append]; rfl
theorem normFold_ok {ops : List OpM} (h : ∀ o ∈ ops, OpOk o) (k : Nat) (hk : k ≤ ops.length) : StOk k (normFold (ops.take k)).ops (normFold (ops.take k)).gone := by
  induction k with
  | zero => exact StOk.zero
  | succ k ih => rw [normFold_snoc ops k (by omega)]; exact (ih (by omega)).step (h _ (List.getElem_mem (by omega)))
end Go.Proofs.YtdpmjlkmjmookaaGreatDoor
