/-
  Frames and readings that the walks share: what a slice of attributes, of operations reads as in a world, and that a reading stands in a later world.
-/
import Derived.WalkKit
import Derived.WalkLawsBesides
import Derived.WalkSpells
import Derived.Lib.Hide
import Derived.Deep.LoopGhost
import Derived.Deep.Draws
namespace Go.Proofs.YtdpmjlkmjmookaaGreatDoor
open Go.RowKit

/-! ### Frames -/

/-- Every block of w outside S stands in w' as it stood. -/
structure Kp (S : Nat → Prop) (w w' : World) : Prop where
  os : w'.os = w.os
  tape : w'.tape = w.tape
  output : w'.output = w.output
  size : w.heap.size ≤ w'.heap.size
  block : ∀ k, k < w.heap.size → ¬ S k → w'.heap[k]? = w.heap[k]?

theorem Kp.refl (S : Nat → Prop) (w : World) : Kp S w w := ⟨rfl, rfl, rfl, Nat.le_refl _, fun _ _ _ => rfl⟩
theorem Kp.trans {S : Nat → Prop} {a b c : World} (h : Kp S a b) (k : Kp S b c) : Kp S a c :=
  ⟨k.os.trans h.os, k.tape.trans h.tape, k.output.trans h.output, Nat.le_trans h.size k.size, fun i hi hs => (k.block i (Nat.lt_of_lt_of_le hi h.size) hs).trans (h.block i hi hs)⟩
theorem Kp.mono {S T : Nat → Prop} {a b : World} (h : Kp S a b) (hs : ∀ k, k < a.heap.size → S k → T k) : Kp T a b :=
  ⟨h.os, h.tape, h.output, h.size, fun i hi ht => h.block i hi (fun hk => ht (hs i hi hk))⟩
theorem Kp.drew {S : Nat → Prop} {a b : World} (h : Kp S a b) : Kp S a b.drew := ⟨h.os, h.tape, h.output, h.size, h.block⟩
theorem Kp.drewN {S : Nat → Prop} {a b : World} (h : Kp S a b) (n : Nat) : Kp S a (b.drewN n) := ⟨h.os, h.tape, h.output, h.size, h.block⟩
theorem Kp.alloc {S : Nat → Prop} {a b : World} (h : Kp S a b) (o : Obj) : Kp S a (b.alloc o) :=
  h.trans ⟨rfl, rfl, rfl, by simp, fun k hk _ => Below.heap_alloc _ _ _ hk⟩
theorem Kp.setCell {S : Nat → Prop} {a b : World} (h : Kp S a b) {p : Addr} (hp : S p.block ∨ a.heap.size ≤ p.block) (u : Value) : Kp S a (b.setCell p u) :=
  ⟨h.os, h.tape, h.output, by simpa [World.setCell] using h.size, fun k hk hs => by
    rw [Below.heap_setCell _ _ _ _ (by intro e; subst e; rcases hp with hp | hp; exact hs hp; omega)]
    exact h.block k hk hs⟩
theorem Kp.grown {S : Nat → Prop} {a b c : World} {row : Option Nat} (h : Kp S a b) (hg : b.grownBy c row) (hr : ∀ k, row = some k → S k ∨ a.heap.size ≤ k) : Kp S a c :=
  ⟨hg.os.trans h.os, hg.tape.trans h.tape, hg.output.trans h.output, Nat.le_trans h.size hg.size, fun k hk hs => by
    rw [hg.block k (Nat.lt_of_lt_of_le hk h.size) (by intro e; rcases hr k e.symm with h1 | h1; exact hs h1; omega)]
    exact h.block k hk hs⟩
theorem Kp.below {S : Nat → Prop} {a b : World} (h : Kp S a b) {B : Nat} (hB : ∀ k, S k → B ≤ k) (hs : B ≤ a.heap.size) : Below B a b :=
  ⟨h.os, h.tape, h.output, h.size, fun k hk => h.block k (by omega) (fun e => by have := hB k e; omega)⟩
theorem Kp.of_below {S : Nat → Prop} {a b : World} {B : Nat} (h : Below B a b) (hS : ∀ k, B ≤ k → k < a.heap.size → S k) : Kp S a b :=
  ⟨h.os, h.tape, h.output, h.size, fun k hk hs => h.block k (by rcases Nat.lt_or_ge k B with g | g; exact g; exact absurd (hS k g hk) hs)⟩
theorem Kp.of_pure {S : Nat → Prop} {a b : World} (h : Below a.heap.size a b) : Kp S a b := ⟨h.os, h.tape, h.output, h.size, fun k hk _ => h.block k hk⟩
theorem Kp.cell {S : Nat → Prop} {a b : World} (h : Kp S a b) {p : Addr} {v : Value} (hc : a.cell? p = some v) (hs : ¬ S p.block) : b.cell? p = some v :=
  (World.cell?_of_block (h.block p.block (World.block_lt_of_cell? a p hc) hs)).trans hc
theorem below_drewN {B : Nat} {a b : World} (h : Below B a b) (n : Nat) : Below B a (b.drewN n) := ⟨h.os, h.tape, h.output, h.size, h.block⟩
theorem pure_trans {a b c : World} (h : Below a.heap.size a b) (k : Below b.heap.size b c) : Below a.heap.size a c := h.trans (k.mono h.size)
theorem pure_cell {a b : World} (h : Below a.heap.size a b) {p : Addr} {v : Value} (hc : a.cell? p = some v) : b.cell? p = some v :=
  (h.cell (World.block_lt_of_cell? a p hc)).trans hc

/-! ### Readings: slices whose elements take several cells -/

/-- The slice value v reads as the list l: element i's cells (sz of them) stand in E; they lie in a block of F. -/
def Rd {α : Type} (w : World) (F : Nat → Prop) (sz : Nat) (E : α → List Value → Prop) (v : Value) (l : List α) : Prop :=
  ∃ A cap, v = .slice A l.length cap ∧ l.length ≤ cap ∧ cap ≤ 9223372036854775807 ∧ l.length ≤ 1099511627776 ∧ (0 < l.length → ∃ b off, A = some ⟨b, off, none⟩ ∧ F b ∧
    ∀ i (h : i < l.length), ∃ cs, cs.length = sz ∧ E l[i] cs ∧ ∀ j (hj : j < cs.length), w.cell? ⟨b, off + (i * sz + j), none⟩ = some cs[j])

theorem Rd.len {α : Type} {w : World} {F : Nat → Prop} {sz : Nat} {E : α → List Value → Prop} {v : Value} {l : List α} (h : Rd w F sz E v l) : ∃ A cap, v = .slice A l.length cap ∧ l.length ≤ cap ∧ l.length ≤ 1099511627776 := by
  obtain ⟨A, cap, e, h1, _, h2, _⟩ := h; exact ⟨A, cap, e, h1, h2⟩
theorem Rd.agree {α : Type} {w w' : World} {F : Nat → Prop} {sz : Nat} {E E' : α → List Value → Prop} {v : Value} {l : List α} (h : Rd w F sz E v l)
    (hw : ∀ k, F k → k < w.heap.size → w'.heap[k]? = w.heap[k]?) (hE : ∀ x ∈ l, ∀ cs, E x cs → E' x cs) (_hsz : 0 < sz) : Rd w' F sz E' v l := by
  obtain ⟨A, cap, e, h1, h1', h2, h3⟩ := h
  refine ⟨A, cap, e, h1, h1', h2, fun h0 => ?_⟩
  obtain ⟨b, off, eA, hF, hc⟩ := h3 h0
  refine ⟨b, off, eA, hF, fun i hi => ?_⟩
  obtain ⟨cs, hl, hx, hcc⟩ := hc i hi
  refine ⟨cs, hl, hE _ (List.getElem_mem hi) _ hx, fun j hj => ?_⟩
  have hlt := World.block_lt_of_cell? w _ (hcc j hj)
  rw [World.cell?_of_block (hw b hF hlt)]
  exact hcc j hj
theorem Rd.mono {α : Type} {w : World} {F G : Nat → Prop} {sz : Nat} {E E' : α → List Value → Prop} {v : Value} {l : List α} (h : Rd w F sz E v l) (hG : ∀ k, F k → k < w.heap.size → G k) (hE : ∀ x ∈ l, ∀ cs, E x cs → E' x cs) (hsz : 0 < sz) : Rd w G sz E' v l := by
  obtain ⟨A, cap, e, h1, h1', h2, h3⟩ := h
  refine ⟨A, cap, e, h1, h1', h2, fun h0 => ?_⟩
  obtain ⟨b, off, eA, hF, hc⟩ := h3 h0
  have hlt : b < w.heap.size := by
    obtain ⟨cs, hl, _, hcc⟩ := hc 0 h0
    exact World.block_lt_of_cell? w _ (hcc 0 (by omega))
  exact ⟨b, off, eA, hG b hF hlt, fun i hi => by obtain ⟨cs, hl, hx, hcc⟩ := hc i hi; exact ⟨cs, hl, hE _ (List.getElem_mem hi) _ hx, hcc⟩⟩
theorem Rd.nil {α : Type} (w : World) (F : Nat → Prop) (sz : Nat) (E : α → List Value → Prop) : Rd w F sz E (.slice none 0 0) [] := ⟨none, 0, rfl, by simp, by simp, by simp, fun h => by simp at h⟩
theorem Rd.take {α : Type} {w : World} {F : Nat → Prop} {sz : Nat} {E : α → List Value → Prop} {A : Option Addr} {n cap : Nat} {l : List α} (h : Rd w F sz E (.slice A n cap) l) (k : Nat) (hk : k ≤ l.length) (cap' : Nat) (hc : k ≤ cap') (hc' : cap' ≤ 9223372036854775807) : Rd w F sz E (.slice A k cap') (l.take k) := by
  obtain ⟨A', cap0, e, h1, h1', h2, h3⟩ := h
  injection e with e1 e2 e3
  subst e1
  have hl : (l.take k).length = k := by simp; omega
  refine ⟨A, cap', by rw [hl], by omega, hc', by omega, fun h0 => ?_⟩
  obtain ⟨b, off, eA, hF, hcc⟩ := h3 (by omega)
  refine ⟨b, off, eA, hF, fun i hi => ?_⟩
  obtain ⟨cs, q1, q2, q3⟩ := hcc i (by omega)
  exact ⟨cs, q1, by rw [List.getElem_take]; exact q2, q3⟩

/-! ### Attributes, operations -/
structure At where
  k : ByteArray
  v : ByteArray
structure OpM where
  kind : Int
  n : Int
  text : ByteArray
  attrs : List At

def cellsA (a : At) : List Value := [.string a.k, .string a.v]
/-- a slice of attributes (or of fields: two strings each) -/
def RdA (w : World) (F : Nat → Prop) (v : Value) (l : List At) : Prop := Rd w F 2 (fun a cs => cs = cellsA a ∧ a.k.size ≤ 1099511627776 ∧ a.v.size ≤ 1099511627776) v l
def cellsO (o : OpM) (va : Value) : List Value := [.int .i64 o.kind, .int .i64 o.n, .string o.text, va]
def RdO (w : World) (F : Nat → Prop) (v : Value) (l : List OpM) : Prop := Rd w F 4 (fun o cs => ∃ va, cs = cellsO o va ∧ o.text.size ≤ 1099511627776 ∧ RdA w F va o.attrs) v l

theorem RdA.agree {w w' : World} {F : Nat → Prop} {v : Value} {l : List At} (h : RdA w F v l) (hw : ∀ k, F k → k < w.heap.size → w'.heap[k]? = w.heap[k]?) : RdA w' F v l :=
  Rd.agree h hw (fun _ _ _ h => h) (by omega)
theorem RdA.pure {w w' : World} {F : Nat → Prop} {v : Value} {l : List At} (h : RdA w F v l) (hb : Below w.heap.size w w') : RdA w' F v l := h.agree fun k _ hk => hb.block k hk
theorem RdA.mono {w : World} {F G : Nat → Prop} {v : Value} {l : List At} (h : RdA w F v l) (hG : ∀ k, F k → k < w.heap.size → G k) : RdA w G v l := Rd.mono h hG (fun _ _ _ h => h) (by omega)
theorem RdA.kp {w w' : World} {S F : Nat → Prop} {v : Value} {l : List At} (h : RdA w F v l) (hb : Kp S w w') (hS : ∀ k, F k → k < w.heap.size → ¬ S k) : RdA w' F v l := h.agree fun k hF hk => hb.block k hk (hS k hF hk)
theorem RdO.agree {w w' : World} {F : Nat → Prop} {v : Value} {l : List OpM} (h : RdO w F v l) (hw : ∀ k, F k → k < w.heap.size → w'.heap[k]? = w.heap[k]?) : RdO w' F v l :=
  Rd.agree h hw (fun _ _ _ ⟨va, e, t, h⟩ => ⟨va, e, t, h.agree hw⟩) (by omega)
theorem RdO.pure {w w' : World} {F : Nat → Prop} {v : Value} {l : List OpM} (h : RdO w F v l) (hb : Below w.heap.size w w') : RdO w' F v l := h.agree fun k _ hk => hb.block k hk
theorem RdO.mono {w : World} {F G : Nat → Prop} {v : Value} {l : List OpM} (h : RdO w F v l) (hG : ∀ k, F k → k < w.heap.size → G k) : RdO w G v l :=
  Rd.mono h hG (fun _ _ _ ⟨va, e, t, h⟩ => ⟨va, e, t, h.mono hG⟩) (by omega)
theorem RdO.kp {w w' : World} {S F : Nat → Prop} {v : Value} {l : List OpM} (h : RdO w F v l) (hb : Kp S w w') (hS : ∀ k, F k → k < w.heap.size → ¬ S k) : RdO w' F v l := h.agree fun k hF hk => hb.block k hk (hS k hF hk)

/-- Element i of a slice of attributes. -/
theorem RdA.at_ {w : World} {F : Nat → Prop} {b off n cap : Nat} {l : List At} (h : RdA w F (.slice (some ⟨b, off, none⟩) n cap) l) (i : Nat) (hi : i < l.length) :
    w.cell? ⟨b, off + i * 2, none⟩ = some (.string l[i].k) ∧ w.cell? ⟨b, off + i * 2 + 1, none⟩ = some (.string l[i].v) := by
  obtain ⟨A, cap', e, _, _, _, h3⟩ := h
  obtain ⟨b', off', eA, _, hc⟩ := h3 (by omega)
  injection e with e1 _ _
  rw [eA] at e1
  injection e1 with e1
  injection e1 with e1 e2 _
  subst e1; subst e2
  obtain ⟨cs, hl, ⟨rfl, _⟩, hcc⟩ := hc i hi
  exact ⟨hcc 0 (by omega), hcc 1 (by omega)⟩
theorem RdA.sizes {w : World} {F : Nat → Prop} {v : Value} {l : List At} (h : RdA w F v l) : ∀ a ∈ l, a.k.size ≤ 1099511627776 ∧ a.v.size ≤ 1099511627776 := by
  intro a ha
  obtain ⟨i, hi, rfl⟩ := List.getElem_of_mem ha
  obtain ⟨A, cap', e, _, _, _, h3⟩ := h
  obtain ⟨b', off', eA, _, hc⟩ := h3 (by omega)
  obtain ⟨cs, hl, ⟨_, h1⟩, hcc⟩ := hc i hi
  exact h1
theorem RdA.open_ {w : World} {F : Nat → Prop} {v : Value} {l : List At} (h : RdA w F v l) : ∃ A cap, v = .slice A l.length cap ∧ l.length ≤ cap ∧ cap ≤ 9223372036854775807 ∧ l.length ≤ 1099511627776 ∧ (0 < l.length → ∃ b off, A = some ⟨b, off, none⟩ ∧ F b) := by
  obtain ⟨A, cap, e, h1, h1', h2, h3⟩ := h
  exact ⟨A, cap, e, h1, h1', h2, fun h0 => by obtain ⟨b, off, eA, hF, _⟩ := h3 h0; exact ⟨b, off, eA, hF⟩⟩
/-- Element i of a slice of operations. -/
theorem RdO.at_ {w : World} {F : Nat → Prop} {b off n cap : Nat} {l : List OpM} (h : RdO w F (.slice (some ⟨b, off, none⟩) n cap) l) (i : Nat) (hi : i < l.length) :
    ∃ va, w.cell? ⟨b, off + i * 4, none⟩ = some (.int .i64 l[i].kind) ∧ w.cell? ⟨b, off + i * 4 + 1, none⟩ = some (.int .i64 l[i].n) ∧ w.cell? ⟨b, off + i * 4 + 2, none⟩ = some (.string l[i].text) ∧ w.cell? ⟨b, off + i * 4 + 3, none⟩ = some va ∧ RdA w F va l[i].attrs := by
  obtain ⟨A, cap', e, _, _, _, h3⟩ := h
  obtain ⟨b', off', eA, _, hc⟩ := h3 (by omega)
  injection e with e1 _ _
  rw [eA] at e1
  injection e1 with e1
  injection e1 with e1 e2 _
  subst e1; subst e2
  obtain ⟨cs, hl, ⟨va, rfl, _, hA⟩, hcc⟩ := hc i hi
  exact ⟨va, hcc 0 (by omega), hcc 1 (by omega), hcc 2 (by omega), hcc 3 (by omega), hA⟩
theorem RdO.open_ {w : World} {F : Nat → Prop} {v : Value} {l : List OpM} (h : RdO w F v l) : ∃ A cap, v = .slice A l.length cap ∧ l.length ≤ cap ∧ cap ≤ 9223372036854775807 ∧ l.length ≤ 1099511627776 ∧ (0 < l.length → ∃ b off, A = some ⟨b, off, none⟩ ∧ F b) := by
  obtain ⟨A, cap, e, h1, h1', h2, h3⟩ := h
  exact ⟨A, cap, e, h1, h1', h2, fun h0 => by obtain ⟨b, off, eA, hF, _⟩ := h3 h0; exact ⟨b, off, eA, hF⟩⟩
theorem RdO.elem {w : World} {F : Nat → Prop} {v : Value} {l : List OpM} (h : RdO w F v l) : ∀ o ∈ l, o.text.size ≤ 1099511627776 ∧ ∃ va, RdA w F va o.attrs := by
  intro o ho
  obtain ⟨i, hi, rfl⟩ := List.getElem_of_mem ho
  obtain ⟨A, cap', e, _, _, _, h3⟩ := h
  obtain ⟨b', off', eA, _, hc⟩ := h3 (by omega)
  obtain ⟨cs, hl, ⟨va, _, ht, hA⟩, hcc⟩ := hc i hi
  exact ⟨ht, va, hA⟩
/-- flat cells -/
def flat {α : Type} (f : α → List Value) (l : List α) : List Value := (l.map f).flatten
theorem flat_length {α : Type} (f : α → List Value) (sz : Nat) (l : List α) (h : ∀ x ∈ l, (f x).length = sz) : (flat f l).length = l.length * sz := by
  induction l with
  | nil => simp [flat]
  | cons a l ih =>
    have := ih (fun x hx => h x (by simp [hx]))
    simp only [flat, List.map_cons, List.flatten_cons, List.length_append, List.length_cons] at *
    rw [this, h a (by simp), Nat.add_mul]; omega
theorem flat_append {α : Type} (f : α → List Value) (l m : List α) : flat f (l ++ m) = flat f l ++ flat f m := by simp [flat]
theorem flat_get {α : Type} (f : α → List Value) (sz : Nat) (l : List α) (h : ∀ x ∈ l, (f x).length = sz) (i j : Nat) (hi : i < l.length) (hj : j < sz) : (flat f l)[i * sz + j]? = (f l[i])[j]? := by
  induction l generalizing i with
  | nil => simp at hi
  | cons a l ih =>
    have ha : (f a).length = sz := h a (by simp)
    simp only [flat, List.map_cons, List.flatten_cons]
    cases i with
    | zero => rw [List.getElem?_append_left (by omega)]; simp
    | succ i =>
      rw [List.getElem?_append_right (by rw [ha, Nat.succ_mul]; omega), ha]
      have e : (i + 1) * sz + j - sz = i * sz + j := by rw [Nat.succ_mul]; omega
      rw [e]
      exact ih (fun x hx => h x (by simp [hx])) i (by simpa using hi)
/-- The cells of a slice of attributes, flat, as append wants them. -/
theorem RdA.cells {w : World} {F : Nat → Prop} {b off n cap : Nat} {l : List At} (h : RdA w F (.slice (some ⟨b, off, none⟩) n cap) l) : ∀ j u, (flat cellsA l)[j]? = some u → w.cell? ((⟨b, off, none⟩ : Addr).add j) = some u := by
  intro j u hu
  have hl2 : ∀ x ∈ l, (cellsA x).length = 2 := fun _ _ => rfl
  have hj : j < (flat cellsA l).length := (List.getElem?_eq_some_iff.1 hu).1
  rw [flat_length cellsA 2 l hl2] at hj
  have hi : j / 2 < l.length := by omega
  have e : j = j / 2 * 2 + j % 2 := by omega
  rw [Addr.add_lit]
  obtain ⟨c0, c1⟩ := h.at_ (j / 2) hi
  rw [e, flat_get cellsA 2 l hl2 (j / 2) (j % 2) hi (by omega)] at hu
  rcases Nat.mod_two_eq_zero_or_one j with m | m
  · rw [m] at hu; simp [cellsA] at hu; subst hu; rw [show off + j = off + j / 2 * 2 from by omega]; exact c0
  · rw [m] at hu; simp [cellsA] at hu; subst hu; rw [show off + j = off + j / 2 * 2 + 1 from by omega]; exact c1

/-! ### Rows of the call's own -/
/-- v owns a row (element type e, sz cells each) that holds l; its block lies from lo on. -/
theorem rd_of_owns {α : Type} {w : World} {lo : Nat} {e : TypeId} {sz : Nat} {v : Value} {l : List α} {f : α → List Value} {F : Nat → Prop} {E : α → List Value → Prop} (h : w.ownsRow lo e sz v l.length (flat f l))
    (hf : ∀ x ∈ l, (f x).length = sz) (hE : ∀ x ∈ l, E x (f x)) (hF : ∀ k, v.ownBlock = some k → F k) (hn : l.length ≤ 1099511627776) : Rd w F sz E v l := by
  rcases h.2 with ⟨rfl, h0⟩ | ⟨g, cap, cur, rfl, hlo, hg, hnc, hcm, hcs, htake⟩
  · have : l = [] := List.eq_nil_of_length_eq_zero h0
    subst this; exact Rd.nil _ _ _ _
  · refine ⟨_, cap, rfl, hnc, by simpa [maxLen] using hcm, hn, fun h0 => ⟨g, 0, rfl, hF g rfl, fun i hi => ⟨f l[i], hf _ (List.getElem_mem hi), hE _ (List.getElem_mem hi), fun j hj => ?_⟩⟩⟩
    have hj' : j < sz := by rw [hf _ (List.getElem_mem hi)] at hj; exact hj
    have hc := h.cells (g := g) rfl (i * sz + j) ((f l[i])[j]) (by rw [flat_get f sz l hf i j hi hj']; exact List.getElem?_eq_getElem hj)
    rw [Addr.add_lit] at hc
    exact hc
theorem rdA_of_owns {w : World} {lo : Nat} {e : TypeId} {v : Value} {l : List At} {F : Nat → Prop} (h : w.ownsRow lo e 2 v l.length (flat cellsA l)) (hs : ∀ a ∈ l, a.k.size ≤ 1099511627776 ∧ a.v.size ≤ 1099511627776) (hF : ∀ k, v.ownBlock = some k → F k) (hn : l.length ≤ 1099511627776) : RdA w F v l :=
  rd_of_owns h (fun _ _ => rfl) (fun x hx => ⟨rfl, hs x hx⟩) hF hn
theorem cellsA_one (l : List At) : ∀ u ∈ flat cellsA l, u.oneCell' = true := by
  intro u hu
  simp only [flat, List.mem_flatten, List.mem_map] at hu
  obtain ⟨c, ⟨a, _, rfl⟩, hu⟩ := hu
  simp [cellsA] at hu
  rcases hu with rfl | rfl <;> rfl

/-! ### A box of the call's own, in a later world -/
theorem box_heap {w w1 : World} {o : Obj} (h : Below (w.alloc o).heap.size (w.alloc o) w1) : w1.heap[w.heap.size]? = some o ∧ w.heap.size < w1.heap.size := by
  have e : w1.heap[w.heap.size]? = some o := (h.block _ (by simp)).trans (heap_alloc_new w o)
  exact ⟨e, (Array.getElem?_eq_some_iff.1 e).1⟩
theorem cell_heap {w : World} {b : Nat} {cs : Array Value} {T : TypeId} {fr : Nat × Nat} (hb : w.heap[b]? = some (.cells cs T fr)) (j : Nat) : w.cell? ⟨b, j, none⟩ = cs[j]? := by
  simp [World.cell?, hb]
theorem froz_heap {w : World} {b : Nat} {cs : Array Value} {T : TypeId} (hb : w.heap[b]? = some (.cells cs T (0, 0))) (j : Nat) : w.frozen? ⟨b, j, none⟩ = false := by
  simp [World.frozen?, hb]
theorem heap_lt {w : World} {b : Nat} {o : Obj} (hb : w.heap[b]? = some o) : b < w.heap.size := (Array.getElem?_eq_some_iff.1 hb).1
theorem box2 {w : World} {k : Nat} {a b : Value} {t : TypeId} (h : w.heap[k]? = some (.cells #[a, b] t (0, 0))) : w.cell? ⟨k, 0, none⟩ = some a ∧ w.cell? ⟨k, 1, none⟩ = some b :=
  ⟨cell_heap h 0, cell_heap h 1⟩
theorem box3 {w : World} {k : Nat} {a b c : Value} {t : TypeId} (h : w.heap[k]? = some (.cells #[a, b, c] t (0, 0))) : w.cell? ⟨k, 0, none⟩ = some a ∧ w.cell? ⟨k, 1, none⟩ = some b ∧ w.cell? ⟨k, 2, none⟩ = some c :=
  ⟨cell_heap h 0, cell_heap h 1, cell_heap h 2⟩
theorem box4 {w : World} {k : Nat} {a b c d : Value} {t : TypeId} (h : w.heap[k]? = some (.cells #[a, b, c, d] t (0, 0))) : w.cell? ⟨k, 0, none⟩ = some a ∧ w.cell? ⟨k, 1, none⟩ = some b ∧ w.cell? ⟨k, 2, none⟩ = some c ∧ w.cell? ⟨k, 3, none⟩ = some d :=
  ⟨cell_heap h 0, cell_heap h 1, cell_heap h 2, cell_heap h 3⟩
end Go.Proofs.YtdpmjlkmjmookaaGreatDoor
