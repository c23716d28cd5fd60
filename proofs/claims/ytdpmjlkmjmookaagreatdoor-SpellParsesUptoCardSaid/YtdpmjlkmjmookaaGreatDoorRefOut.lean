/-
  The references' Normal (blotterref03): what is written out, step by step.
-/
import Derived.Test.YtdpmjlkmjmookaaGreatDoorRefGInv
namespace Go.Proofs.YtdpmjlkmjmookaaGreatDoor
open Go.RowKit Go.PlainAid

/-- what has been written stands in the box at V's end: a row of its own -/
structure OutSt (f : Int) (V : World) (lo : Nat) (W : World) (ov : Value) (acc : List Item) : Prop where
  below : Below V.heap.size V W
  box : W.heap[V.heap.size]? = some (.cells #[.int .i64 f, ov] 24 (0, 0))
  own : OwnI W lo ov acc
  fresh : ∀ k, ov.ownBlock = some k → V.heap.size ≤ k
theorem chg_nt {w : World} {g : Nat} {cs : Array Value} {fz : Nat × Nat} (hg : w.heap[g]? = some (.cells cs 24 fz)) : ¬ TyA w g := by
  rintro ⟨c, fz', hc⟩; rw [hg] at hc; injection hc with hc; injection hc with _ e _; cases e
theorem OutSt.push {f : Int} {V W X w3 : World} {lo gg n' cap : Nat} {ov : Value} {acc news : List Item} (h : OutSt f V lo W ov acc) (hX : Below W.heap.size W X) (hgrow : X.grownBy w3 ov.ownBlock)
    (hown : w3.ownsRow lo 48 4 (.slice (some ⟨gg, 0, none⟩) n' cap) n' (flat cellsP acc ++ flat cellsP news)) (hn : acc.length + news.length = n') (hi : ∀ p ∈ news, OwnItem X lo p) (hat : ov.ownBlock = some gg ∨ V.heap.size ≤ gg) :
    OutSt f V lo (w3.setCell ⟨V.heap.size, 1, none⟩ (.slice (some ⟨gg, 0, none⟩) n' cap)) (.slice (some ⟨gg, 0, none⟩) n' cap) (acc ++ news) := by
  have hVW := h.below.size
  have hbl := heap_lt h.box
  have hbx := (hX.block _ hbl).trans h.box
  have hne : ov.ownBlock ≠ some V.heap.size := own_ne h.own.1 h.box (by decide)
  have hb3 : w3.heap[V.heap.size]? = some (.cells #[.int .i64 f, ov] 24 (0, 0)) := (hgrow.block _ (heap_lt hbx) (fun e => hne e.symm)).trans hbx
  have hgg : gg ≠ V.heap.size := fun e => own_ne hown hb3 (by decide) (by simp [Value.ownBlock, e])
  have hnt := ops_nt (own_below h.own.1 hX)
  have hg3 : ∀ k, TyA X k → w3.heap[k]? = X.heap[k]? := fun k ht => hgrow.block k (tyA_lt ht) (fun e => hnt k e.symm ht)
  have hag : ∀ p, OwnItem X lo p → OwnItem (w3.setCell ⟨V.heap.size, 1, none⟩ (.slice (some ⟨gg, 0, none⟩) n' cap)) lo p := fun p hp => hp.agree fun k _ ht => by
    rw [Below.heap_setCell _ _ _ _ (fun e => by have e : k = V.heap.size := e; subst e; exact chg_nt hbx ht)]
    exact hg3 k ht
  have hXo := h.own.pure hX
  refine ⟨?_, ?_, ⟨?_, ?_⟩, ?_⟩
  · exact ((h.below.trans (hX.mono hVW)).grown hgrow (by have := hX.size; omega) (fun k hk => h.fresh k hk)).setCell (p := ⟨V.heap.size, 1, none⟩) (Nat.le_refl _) _
  · exact set_heap1 hb3 _
  · have h1 : w3.ownsRow lo 48 4 (.slice (some ⟨gg, 0, none⟩) n' cap) (acc ++ news).length (flat cellsP (acc ++ news)) := by
      rw [flat_append, List.length_append, hn]; exact hown
    exact ownsRow_setCell_other h1 (by simp [Value.ownBlock]; exact hgg) _
  · intro p hp
    rcases List.mem_append.1 hp with hp | hp
    · exact hag p (hXo.2 p hp)
    · exact hag p (hi p hp)
  · intro k hk
    simp [Value.ownBlock] at hk
    subst hk
    rcases hat with e | e
    · exact h.fresh _ e
    · exact e
theorem OutSt.drew {f : Int} {V W : World} {lo : Nat} {ov : Value} {acc : List Item} (h : OutSt f V lo W ov acc) : OutSt f V lo W.drew ov acc :=
  ⟨below_drew h.below, h.box, h.own.agree (fun _ _ => rfl) (fun _ _ _ => rfl), h.fresh⟩
theorem OutSt.same {f : Int} {V W : World} {lo : Nat} {ov : Value} {acc : List Item} (h : OutSt f V lo W ov acc) : OutSt f V lo (W.setCell ⟨V.heap.size, 1, none⟩ ov).drew ov acc := by
  have hne : ov.ownBlock ≠ some V.heap.size := own_ne h.own.1 h.box (by decide)
  refine OutSt.drew ⟨h.below.setCell (p := ⟨V.heap.size, 1, none⟩) (Nat.le_refl _) _, set_heap1 h.box _, h.own.agree (fun k hk => ?_) (fun k _ ht => ?_), h.fresh⟩
  · rw [Below.heap_setCell _ _ _ _ (fun e => hne (by rw [hk]; congr 1))]
  · rw [Below.heap_setCell _ _ _ _ (fun e => by have e : k = V.heap.size := e; subst e; exact chg_nt h.box ht)]
theorem GInv.at_ {w : World} {lo gb n cap : Nat} {kv : Value} {gs : List GIt} {ks : List Item} (h : GInv w lo (.slice (some ⟨gb, 0, none⟩) n cap) kv gs ks) (hn : gs.length = n) (k : Nat) (hk : k < gs.length) : w.cell? ⟨gb, k * 2, none⟩ = some gs[k].v ∧ w.cell? ⟨gb, k * 2 + 1, none⟩ = some (.int .i64 gs[k].gone) ∧ gb < w.heap.size := by
  have ho := h.own
  rw [hn] at ho
  have c0 := ho.cellAt (k * 2) (by omega)
  have c1 := ho.cellAt (k * 2 + 1) (by omega)
  have g0 := flat_get cellsG 2 gs (cellsG_len _) k 0 hk (by omega)
  have g1 := flat_get cellsG 2 gs (cellsG_len _) k 1 hk (by omega)
  rw [Nat.add_zero] at g0
  rw [g0] at c0; rw [g1] at c1
  exact ⟨c0, c1, (ho.lt gb rfl).2⟩
theorem own_cap {w : World} {base : Nat} {e : TypeId} {size n cap : Nat} {A : Option Addr} {xs : List Value} (h : w.ownsRow base e size (.slice A n cap) n xs) : n ≤ cap := by
  rcases h.2 with ⟨hv, h0⟩ | ⟨g, c2, cur, hv, _, _, hnc, _⟩
  · omega
  · injection hv with _ _ hv; omega
theorem cellsP_one {w : World} {lo : Nat} {items : List Item} (h : ∀ p ∈ items, OwnItem w lo p) : ∀ u ∈ flat cellsP items, u.oneCell' = true := by
  intro u hu
  simp only [flat, List.mem_flatten, List.mem_map] at hu
  obtain ⟨c, ⟨p, hp, rfl⟩, hu⟩ := hu
  obtain ⟨A, cap, e, _⟩ := (h p hp).1.open_
  simp only [cellsP, cellsO, List.mem_cons, List.not_mem_nil, or_false] at hu
  rcases hu with rfl | rfl | rfl | rfl
  · rfl
  · rfl
  · rfl
  · rw [e]; rfl
theorem idx6 (n : Nat) (h0 : 0 < n) (h : n ≤ 100000000) : (0 : Int) ≤ (n : Int) - 1 ∧ ((n : Int) - 1).toNat = n - 1 ∧ (n : Int) - 1 < (n : Int) ∧ IntKind.i64.wrap ((n : Int) - 1) = (n : Int) - 1 :=
  ⟨by omega, by omega, by omega, IntWalk.i64_in _ (by omega)⟩
theorem rdO_of_own3 {w : World} {lo g : Nat} {v : Value} {ops : List OpM} {cs : Array Value} {fz : Nat × Nat} (h : OwnO w lo v ops) (hn : ops.length ≤ 1099511627776) (hg : w.heap[g]? = some (.cells cs 24 fz)) : RdO w (fun k => lo ≤ k ∧ k ≠ g) v ops := by
  obtain ⟨items, rfl, ho, hi⟩ := h
  have hne := own_ne ho hg (by decide)
  have hb : ∀ k, v.ownBlock = some k → lo ≤ k ∧ k ≠ g := fun k hk => ⟨(ho.lt k hk).1, fun e => hne (by rw [hk, e])⟩
  have h1 := rd_of_owns (F := fun k => lo ≤ k ∧ k ≠ g) (E := fun p cs => ∃ va, cs = cellsO p.1 va ∧ p.1.text.size ≤ 1099511627776 ∧ RdA w (fun k => lo ≤ k ∧ k ≠ g) va p.1.attrs) ho (cellsP_len _) (fun x hx => ⟨x.2, rfl, (hi x hx).2, (hi x hx).1.mono fun k hk _ => ⟨hk.1, fun e => chg_nt hg (e ▸ hk.2)⟩⟩) hb (by simpa using hn)
  obtain ⟨A, cap, e, q1, q1', q2, q3⟩ := h1
  refine ⟨A, cap, by simpa using e, by simpa using q1, q1', by simpa using q2, fun h0 => ?_⟩
  obtain ⟨b, off, eA, hF, hc⟩ := q3 (by simpa using h0)
  refine ⟨b, off, eA, hF, fun i hi => ?_⟩
  obtain ⟨cs, r1, r2, r3⟩ := hc i (by simpa using hi)
  exact ⟨cs, r1, by simpa using r2, r3⟩
/-- how much is written in k rounds, at most -/
def bnd (k : Nat) : Nat := 3000 * k
theorem bnd_le {k : Nat} (h : k ≤ 2002) : bnd k ≤ 6006000 := by unfold bnd; omega
theorem le29 {a k : Nat} (h : a ≤ bnd k + 2001) : a ≤ bnd (k + 1) := by unfold bnd at *; omega
theorem le29' {acc : List Item} {p : Item} {k : Nat} (h : acc.length ≤ bnd k + 2001) : (acc ++ [p]).length ≤ bnd (k + 1) := by unfold bnd at *; simp; omega
/-- the loop's relation: what k turns have written -/
def OMid (f : Int) (V : World) (lo : Nat) (L : List OpM) (b : Nat) (W : World) : Prop :=
  ∃ (ov : Value) (acc : List Item), OutSt f V lo W ov acc ∧ acc.length ≤ b ∧ acc.map Prod.fst = L
def ORel (f : Int) (V : World) (lo m : Nat) (G : List RG) (K : List OpM) (g : Nat) (i : Value) (W : World) : Prop :=
  ∃ k : Nat, k + g = m + 1 ∧ i = .int .i64 k ∧ OMid f V lo (rAcc G K k) (bnd k) W
end Go.Proofs.YtdpmjlkmjmookaaGreatDoor
