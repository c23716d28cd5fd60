/-
  Lent of the laws (blotterlaw02, blotterlaw03), walked: a copy with a mark behind it, in capacity that the answer doesn't show.
  Kept of the laws (blotterlaw02, blotterlaw03), walked: what was lent is as it was; then it is written over.
-/
import Derived.Test.YtdpmjlkmjmookaaGreatDoorRefOut
import Derived.Test.YtdpmjlkmjmookaaGreatDoorRefQuote
import Derived.Laws.MakeOwn
import Derived.Test.YtdpmjlkmjmookaaGreatDoorRefSame
import Derived.StillTailTactics
namespace Go.Proofs.YtdpmjlkmjmookaaGreatDoor
section
set_option linter.unusedVariables false
set_option linter.unusedSimpArgs false
open Go.RowKit Go.PlainAid

def markA : At := ⟨⟨#[109, 97, 114, 107]⟩, ⟨#[]⟩⟩
/-- v' shows l, and the mark stands behind it; the row lies from lo on -/
def LentA (w' : World) (lo : Nat) (v' : Value) (l : List At) : Prop :=
  ∃ g cap, v' = .slice (some ⟨g, 0, none⟩) l.length cap ∧ w'.ownsRow lo 89 2 (.slice (some ⟨g, 0, none⟩) (l.length + 1) cap) (l.length + 1) (flat cellsA (l ++ [markA]))
def Lent2Post (l : List At) (w : World) (e : Ending) (w' : World) : Prop := ∃ v', e = .returned v' ∧ Below w.heap.size w w' ∧ LentA w' w.heap.size v' l
theorem made_row (t e : TypeId) (i : TypeInfo) (z : Value) (size bytes : Nat) (ht : Tryz.prog.underlying t = some (.slice e)) (hi : Tryz.prog.info? e = some i) (hz : i.zero = some z) (hs : i.size = size) (hb : i.bytes = bytes) (hbb : bytes ≤ 64) (c : Nat) (hc : c ≤ 1099511627777) :
    ∃ mc : Array Value, mc.size = c * size ∧ ∀ w, (Instr.makeSlice t (.int .i64 0) (.int .i64 (c : Int))).run Tryz.prog w = .ok (.slice (some ⟨w.heap.size, 0, none⟩) 0 c) (w.alloc (.cells mc e)) := by
  refine ⟨madeCells z.cells (c * size), size_madeCells _ _, fun w => ?_⟩
  have h1 : bytes * c ≤ 64 * c := Nat.mul_le_mul_right _ hbb
  have := run_make (P := Tryz.prog) w t e i z ht hi hz .i64 .i64 0 (c : Int) (Int.le_refl _) (by omega) (by rw [hb]; omega) (by omega)
  rw [hs] at this
  simpa using this
theorem own_lo' {w : World} {a b : Nat} {e : TypeId} {size n : Nat} {v : Value} {xs : List Value} (h : w.ownsRow a e size v n xs) (hb : b ≤ a) : w.ownsRow b e size v n xs := by
  refine ⟨h.1, ?_⟩
  rcases h.2 with hn | ⟨g, cap, cur, hv, hg, rest⟩
  · exact .inl hn
  · exact .inr ⟨g, cap, cur, hv, Nat.le_trans hb hg, rest⟩
theorem own_cap2 {w : World} {base g n cap : Nat} {e : TypeId} {size : Nat} {xs : List Value} (h : w.ownsRow base e size (.slice (some ⟨g, 0, none⟩) n cap) n xs) : n ≤ cap ∧ cap ≤ 9223372036854775807 := by
  rcases h.2 with ⟨hv, h0⟩ | ⟨g, cap, cur, hv, _, _, h1, h2, _⟩
  · cases hv
  · injection hv with _ _ e; subst e; exact ⟨h1, h2⟩
theorem own_some {w : World} {base : Nat} {e : TypeId} {size n : Nat} {v : Value} {xs : List Value} (h : w.ownsRow base e size v n xs) (hn : 0 < n) : ∃ g cap, v = .slice (some ⟨g, 0, none⟩) n cap ∧ n ≤ cap ∧ cap ≤ 9223372036854775807 := by
  rcases h.2 with ⟨_, h0⟩ | ⟨g, cap, cur, hv, _, _, h1, h2, _⟩
  · omega
  · exact ⟨g, cap, hv, h1, h2⟩

theorem cellsA_one' (a : At) : ∀ u ∈ cellsA a, u.oneCell' = true := by
  intro u hu; simp [cellsA] at hu; rcases hu with rfl | rfl <;> rfl
set_option maxHeartbeats 2000000 in
set_option maxRecDepth 100000 in
theorem lent2_any (v : Value) (l : List At) (F : Nat → Prop) (w : World) (h : RdA w F v l) : Calls Tryz.prog 78 #[v] w (Lent2Post l w) := by
  obtain ⟨A, cap, rfl, hc, hcm, hm, hcell⟩ := h.open_
  obtain ⟨i0, hi, hz0, hz1, hz2⟩ := info_parts infoA
  have hfl : (flat cellsA l).length = l.length * 2 := flat_length _ _ _ (fun _ _ => rfl)
  have HFL := Lib.hid hfl; clear hfl
  obtain ⟨mc, hsz, hmk⟩ := made_row 46 89 i0 _ 2 32 Tryz.underlying46 hi hz0 hz1 hz2 (by decide) (l.length + 1) (by omega)
  have HSZ := Lib.hid hsz; clear hsz
  cases A with
  | none =>
    have hl : l = [] := by
      rcases Nat.eq_zero_or_pos l.length with h | h
      · exact List.eq_nil_of_length_eq_zero h
      · obtain ⟨b, off, hA, _⟩ := hcell h; cases hA
    subst hl
    clear h hcell HFL
    have hmk1 : ∀ w, (Instr.makeSlice 46 (.int .i64 0) (.int .i64 1)).run Tryz.prog w = .ok (.slice (some ⟨w.heap.size, 0, none⟩) 0 1) (w.alloc (.cells mc 89)) := hmk
    clear hmk
    have hnw := World.ownsRow_made (base := w.heap.size) (e := 89) (size := 2) w mc 1 (Nat.le_refl _) (by decide) HSZ.out
    have HNW := Lib.hid hnw; clear hnw
    go_enter Tryz.func78, Tryz.ntmps78
    go_wp2_with (at_builtin; refine wpList_append_own _ rfl (.tmp 10) (.tmp 12) 46 rfl w.heap.size 89 i0 (.agg #[.string ⟨#[]⟩, .string ⟨#[]⟩]) 2 32 Tryz.underlying46 hi hz0 hz1 hz2 rfl (by decide) _ 0 [] rfl (HNW.out.alloc _) ⟨w.heap.size + 1, 0, none⟩ 1 1 (cellsA markA) rfl (by decide) (World.news_of_block (cs := #[.string ⟨#[109, 97, 114, 107]⟩, .string ⟨#[]⟩]) (t := 89) (fr := (0, 0)) (by have := heap_alloc_new (w.alloc (.cells mc 89)) (.cells #[.string ⟨#[109, 97, 114, 107]⟩, .string ⟨#[]⟩] 89); simpa using this)) (cellsA_one' markA) (by unfold maxLen; omega) (by omega) (by simp; omega) ?_)
    intro v' w2 hown hgrow _
    obtain ⟨g, cap2, rfl, h1, h2⟩ := own_some hown (by omega)
    have h0 : (0 : Int) ≤ (cap2 : Int) := by omega
    have HO := Lib.hid hown
    have HB := Lib.hid ((((Below.refl _ w).alloc (Nat.le_refl _) (.cells mc 89)).alloc (by simp) _).grown hgrow (by simp; omega) (fun k hk => by simp [Value.ownBlock] at hk; omega))
    clear hown hgrow
    go_wp2
    go_ret
    exact ⟨_, rfl, HB.out, g, cap2, rfl, by simpa [flat] using HO.out⟩
  | some ad =>
    have hcells : ∀ j u, (flat cellsA l)[j]? = some u → w.cell? (ad.add j) = some u := by
      intro j u hu
      have hp : 0 < l.length := by
        rcases Nat.eq_zero_or_pos l.length with h | h
        · have := List.eq_nil_of_length_eq_zero h; subst this; simp [flat] at hu
        · exact h
      obtain ⟨b, off, hA, _⟩ := hcell hp
      injection hA with hA; subst hA
      exact h.cells j u hu
    have HCC := Lib.hid hcells
    clear h hcell hcells
    have hmk1 : ∀ w, (Instr.makeSlice 46 (.int .i64 0) (.int .i64 ((l.length : Int) + 1))).run Tryz.prog w = .ok (.slice (some ⟨w.heap.size, 0, none⟩) 0 (l.length + 1)) (w.alloc (.cells mc 89)) := hmk
    clear hmk
    have hnw := World.ownsRow_made (base := w.heap.size) (e := 89) (size := 2) w mc (l.length + 1) (Nat.le_refl _) (by unfold maxLen; omega) HSZ.out
    have HNW := Lib.hid hnw; clear hnw
    go_enter Tryz.func78, Tryz.ntmps78
    go_wp2_with (at_builtin; refine wpList_append_own _ rfl (.tmp 7) (.tmp 8) 46 rfl w.heap.size 89 i0 (.agg #[.string ⟨#[]⟩, .string ⟨#[]⟩]) 2 32 Tryz.underlying46 hi hz0 hz1 hz2 rfl (by decide) _ 0 [] rfl HNW.out ad l.length cap (flat cellsA l) rfl HFL.out (fun j u hu => pure_cell ((Below.refl _ w).alloc (Nat.le_refl _) _) (HCC.out j u hu)) (cellsA_one l) (by unfold maxLen; omega) (by omega) (by simp) ?_)
    intro v1 w1 hown1 hgrow1 _
    have HB1 := Lib.hid (((Below.refl _ w).alloc (Nat.le_refl _) (.cells mc 89)).grown hgrow1 (by simp) (fun k hk => by simp [Value.ownBlock] at hk; omega))
    try simp only [Nat.zero_add, List.nil_append] at hown1
    have HO1 := Lib.hid hown1
    have hs1 := HB1.out.size
    obtain ⟨A1, cap1, rfl⟩ := ownF hown1
    clear hown1 hgrow1 hmk1
    go_wp2_with (at_builtin; refine wpList_append_own _ rfl (.tmp 10) (.tmp 12) 46 rfl w.heap.size 89 i0 (.agg #[.string ⟨#[]⟩, .string ⟨#[]⟩]) 2 32 Tryz.underlying46 hi hz0 hz1 hz2 rfl (by decide) _ l.length (flat cellsA l) rfl (HO1.out.alloc _) ⟨w1.heap.size, 0, none⟩ 1 1 (cellsA markA) rfl (by decide) (World.news_of_block (cs := #[.string ⟨#[109, 97, 114, 107]⟩, .string ⟨#[]⟩]) (t := 89) (fr := (0, 0)) (heap_alloc_new w1 _)) (cellsA_one' markA) (by unfold maxLen; omega) (by omega) (by simp; omega) ?_)
    intro v2 w2 hown hgrow _
    obtain ⟨g, cap2, rfl, h1, h2⟩ := own_some hown (by omega)
    have h0 : (0 : Int) ≤ (l.length : Int) := by omega
    have h3 : (l.length : Int) ≤ (cap2 : Int) := by omega
    have HO := Lib.hid hown
    have HB := Lib.hid ((HB1.out.alloc hs1 _).grown hgrow (by simp; omega) (fun k hk => (HO1.out.lt k hk).1))
    clear hown hgrow
    go_wp2
    go_ret
    exact ⟨_, rfl, HB.out, g, cap2, rfl, by rw [flat_append, flat_one]; exact HO.out⟩

/-! ### of a changeset -/
theorem LentA.agree {W W' : World} {lo : Nat} {v : Value} {l : List At} (h : LentA W lo v l) (hw : ∀ k, v.ownBlock = some k → TyA W k → W'.heap[k]? = W.heap[k]?) : LentA W' lo v l := by
  obtain ⟨g, cap, rfl, ho⟩ := h
  exact ⟨g, cap, rfl, own_agree ho fun k hk => hw k hk (own_kind ho k hk)⟩
theorem LentA.lo {W : World} {a b : Nat} {v : Value} {l : List At} (h : LentA W a v l) (hb : b ≤ a) : LentA W b v l := by
  obtain ⟨g, cap, rfl, ho⟩ := h
  exact ⟨g, cap, rfl, own_lo' ho hb⟩
theorem LentA.blk {W : World} {lo : Nat} {v : Value} {l : List At} (h : LentA W lo v l) : ∀ k, v.ownBlock = some k → lo ≤ k ∧ k < W.heap.size ∧ TyA W k := by
  obtain ⟨g, cap, rfl, ho⟩ := h
  exact fun k hk => ⟨(ho.lt k hk).1, (ho.lt k hk).2, own_kind ho k hk⟩
/-- how far the copy has come -/
structure LSt (w : World) (g3 : Nat) (f : Int) (v : Value) (W : World) (rv : Value) (items : List Item) : Prop where
  lt : w.heap.size + 1 < g3
  below : Below w.heap.size w W
  par : W.heap[w.heap.size]? = some (.cells #[.int .i64 f, v] 24 (0, 0))
  res : W.heap[w.heap.size + 1]? = some (.cells #[.int .i64 0, .slice none 0 0] 24 (0, 0))
  box : W.heap[g3]? = some (.cells #[.int .i64 f, rv] 24 (0, 0))
  own : W.ownsRow w.heap.size 48 4 rv items.length (flat cellsP items)
  lent : ∀ p ∈ items, LentA W w.heap.size p.2 p.1.attrs ∧ p.1.text.size ≤ 1099511627776
  apart : items.Pairwise (fun p q => p.2.ownBlock ≠ q.2.ownBlock)
theorem LSt.push {w : World} {g3 : Nat} {f : Int} {v : Value} {W W3 W5 : World} {rv rv' v' : Value} {items : List Item} {o : OpM} {ob : Obj} (h : LSt w g3 f v W rv items) (hP : Below W.heap.size W W3) (hl : LentA W3 W.heap.size v' o.attrs) (ht : o.text.size ≤ 1099511627776)
    (hown : W5.ownsRow w.heap.size 48 4 rv' (items.length + 1) (flat cellsP items ++ cellsO o v')) (hgrow : (W3.alloc ob).grownBy W5 rv.ownBlock) :
    LSt w g3 f v (W5.setCell ⟨g3, 1, none⟩ rv') rv' (items ++ [(o, v')]) := by
  have hlo : ∀ k, rv.ownBlock = some k → w.heap.size ≤ k := fun k hk => (h.own.lt k hk).1
  have hsz := hP.size
  have hwz := h.below.size
  have hO3 := own_below h.own hP
  have hblk : ∀ k, k < W3.heap.size → rv.ownBlock ≠ some k → W5.heap[k]? = W3.heap[k]? := fun k hk hne => (hgrow.block k (by simp; omega) (fun e => hne e.symm)).trans (Below.heap_alloc W3 _ k hk)
  have hch : ∀ (k : Nat) (a b : Value), W.heap[k]? = some (.cells #[a, b] 24 (0, 0)) → W5.heap[k]? = some (.cells #[a, b] 24 (0, 0)) := fun k a b hk => by
    have h3 := (hP.block k (heap_lt hk)).trans hk
    exact (hblk k (heap_lt h3) (own_ne hO3 h3 (by decide))).trans h3
  have hb5 := hch _ _ _ h.box
  have hat : ∀ k, TyA W3 k → (W5.setCell ⟨g3, 1, none⟩ rv').heap[k]? = W3.heap[k]? := fun k hk => by
    have hk3 : k ≠ g3 := fun e => by subst e; exact chg_nt ((hP.block _ (heap_lt h.box)).trans h.box) hk
    rw [Below.heap_setCell _ ⟨g3, 1, none⟩ _ _ hk3]
    exact hblk k (tyA_lt hk) (fun e => ops_nt hO3 k e hk)
  have hlt := h.lt
  refine ⟨h.lt, ?_, ?_, ?_, set_heap1 hb5 _, ?_, ?_, ?_⟩
  · exact (((h.below.trans (hP.mono hwz)).alloc (by omega) _).grown hgrow (by simp; omega) hlo).setCell (p := ⟨g3, 1, none⟩) (by show w.heap.size ≤ g3; omega) _
  · rw [Below.heap_setCell _ ⟨g3, 1, none⟩ _ _ (by show w.heap.size ≠ g3; omega)]; exact hch _ _ _ h.par
  · rw [Below.heap_setCell _ ⟨g3, 1, none⟩ _ _ (by show w.heap.size + 1 ≠ g3; omega)]; exact hch _ _ _ h.res
  · have h1 : W5.ownsRow w.heap.size 48 4 rv' (items ++ [(o, v')]).length (flat cellsP (items ++ [(o, v')])) := by
      rw [flat_append, flat_one, List.length_append]; exact hown
    exact ownsRow_setCell_other h1 (own_ne h1 hb5 (by decide)) _
  · intro p hp
    rcases List.mem_append.1 hp with hp | hp
    · have h0 := h.lent p hp
      have h1 : LentA W3 w.heap.size p.2 p.1.attrs := h0.1.agree fun k hk hty => hP.block k (tyA_lt hty)
      exact ⟨h1.agree fun k hk hty => hat k hty, h0.2⟩
    · simp at hp; subst hp
      exact ⟨(hl.lo hwz).agree fun k hk hty => hat k hty, ht⟩
  · rw [List.pairwise_append]
    refine ⟨h.apart, List.pairwise_singleton _ _, fun p hp q hq => ?_⟩
    simp at hq; subst hq
    intro e
    obtain ⟨g, cap, hv, ho⟩ := (h.lent p hp).1
    have h1 := ((h.lent p hp).1.blk g (by rw [hv]; rfl)).2.1
    have h2 := (hl.blk g (by rw [← e, hv]; rfl)).1
    omega
def LCut (w : World) (f : Int) (v : Value) (p : Value) (wx : World) : Prop := ∃ g3 rv, p = .pointer (some ⟨g3, 0, none⟩) ∧ LSt w g3 f v wx rv []
def markO : OpM := ⟨99, 0, ⟨#[]⟩, []⟩
/-- v' shows ops, and the mark stands behind it; each operation's attributes are lent, too, no two of them in one row -/
def LentO (W : World) (lo : Nat) (v' : Value) (ops : List OpM) : Prop :=
  ∃ g cap items, v' = .slice (some ⟨g, 0, none⟩) ops.length cap ∧ W.ownsRow lo 48 4 (.slice (some ⟨g, 0, none⟩) (ops.length + 1) cap) (ops.length + 1) (flat cellsP (items ++ [(markO, .slice none 0 0)])) ∧ items.map Prod.fst = ops ∧
    (∀ p ∈ items, LentA W lo p.2 p.1.attrs ∧ p.1.text.size ≤ 1099511627776) ∧ items.Pairwise (fun p q => p.2.ownBlock ≠ q.2.ownBlock)
def LentPost (f : Int) (ops : List OpM) (w : World) (e : Ending) (w' : World) : Prop := ∃ v', e = .returned (.agg #[.int .i64 f, v']) ∧ Below w.heap.size w w' ∧ LentO w' w.heap.size v' ops
def LRel (w : World) (g3 : Nat) (f : Int) (v : Value) (ops : List OpM) (i : Value) (wr : World) : Prop :=
  ∃ (k : Nat) (rv : Value) (items : List Item), k ≤ ops.length ∧ i = .int .i64 k ∧ items.map Prod.fst = ops.take k ∧ LSt w g3 f v wr rv items

theorem four (w : World) (a b c d : Array Value) (ta tb tc td : TypeId) :
    ((((w.alloc (.cells a ta)).alloc (.cells b tb)).alloc (.cells c tc)).alloc (.cells d td)).drew.heap[w.heap.size]? = some (.cells a ta (0, 0)) ∧
    ((((w.alloc (.cells a ta)).alloc (.cells b tb)).alloc (.cells c tc)).alloc (.cells d td)).drew.heap[w.heap.size + 1]? = some (.cells b tb (0, 0)) ∧
    ((((w.alloc (.cells a ta)).alloc (.cells b tb)).alloc (.cells c tc)).alloc (.cells d td)).drew.heap[w.heap.size + 1 + 1]? = some (.cells c tc (0, 0)) ∧
    ((((w.alloc (.cells a ta)).alloc (.cells b tb)).alloc (.cells c tc)).alloc (.cells d td)).drew.heap[w.heap.size + 1 + 1 + 1]? = some (.cells d td (0, 0)) ∧
    Below w.heap.size w ((((w.alloc (.cells a ta)).alloc (.cells b tb)).alloc (.cells c tc)).alloc (.cells d td)).drew := by
  have h1 := heap_alloc_new w (.cells a ta)
  have h2 := heap_alloc_new (w.alloc (.cells a ta)) (.cells b tb)
  have h3 := heap_alloc_new ((w.alloc (.cells a ta)).alloc (.cells b tb)) (.cells c tc)
  have h4 := heap_alloc_new (((w.alloc (.cells a ta)).alloc (.cells b tb)).alloc (.cells c tc)) (.cells d td)
  refine ⟨?_, ?_, ?_, ?_, below_drew (((((Below.refl _ w).alloc (Nat.le_refl _) _).alloc (by simp) _).alloc (by first | (simp; done) | (simp; omega)) _).alloc (by first | (simp; done) | (simp; omega)) _)⟩
  · show ((((w.alloc (.cells a ta)).alloc (.cells b tb)).alloc (.cells c tc)).alloc (.cells d td)).heap[_]? = _
    rw [Below.heap_alloc _ _ _ (by first | (simp; done) | (simp; omega)), Below.heap_alloc _ _ _ (by first | (simp; done) | (simp; omega)), Below.heap_alloc _ _ _ (by simp)]; exact h1
  · show ((((w.alloc (.cells a ta)).alloc (.cells b tb)).alloc (.cells c tc)).alloc (.cells d td)).heap[_]? = _
    rw [Below.heap_alloc _ _ _ (by first | (simp; done) | (simp; omega)), Below.heap_alloc _ _ _ (by simp)]; simpa using h2
  · show ((((w.alloc (.cells a ta)).alloc (.cells b tb)).alloc (.cells c tc)).alloc (.cells d td)).heap[_]? = _
    rw [Below.heap_alloc _ _ _ (by simp)]; simpa using h3
  · show ((((w.alloc (.cells a ta)).alloc (.cells b tb)).alloc (.cells c tc)).alloc (.cells d td)).heap[_]? = _
    simpa using h4
theorem own_made {W : World} {lo g n : Nat} {e : TypeId} {size : Nat} {mc : Array Value} (h : W.heap[g]? = some (.cells mc e (0, 0))) (hlo : lo ≤ g) (hn : n ≤ 9223372036854775807) (hs : mc.size = n * size) : W.ownsRow lo e size (.slice (some ⟨g, 0, none⟩) 0 n) 0 [] :=
  ⟨by simp, .inr ⟨g, n, mc, rfl, hlo, h, Nat.zero_le _, hn, hs, by simp⟩⟩

set_option maxHeartbeats 4000000 in
set_option maxRecDepth 100000 in
theorem lent_any (f : Int) (v : Value) (ops : List OpM) (F : Nat → Prop) (w : World) (h : RdO w F v ops) :
    Calls Tryz.prog 21 #[.agg #[.int .i64 f, v]] w (LentPost f ops w) := by
  obtain ⟨A, cap, rfl, hc, hcm, hm, hcell⟩ := h.open_
  have H := Lib.hid h
  have HC := Lib.hid hcell
  clear h hcell
  obtain ⟨i0, hi, hz0, hz1, hz2⟩ := info_parts infoO
  obtain ⟨mc, hsz, hmk⟩ := made_row 22 48 i0 _ 4 56 Tryz.underlying22 hi hz0 hz1 hz2 (by decide) (ops.length + 1) (by omega)
  have HSZ := Lib.hid hsz; clear hsz
  have hmk1 : ∀ w, (Instr.makeSlice 22 (.int .i64 0) (.int .i64 ((ops.length : Int) + 1))).run Tryz.prog w = .ok (.slice (some ⟨w.heap.size, 0, none⟩) 0 (ops.length + 1)) (w.alloc (.cells mc 48)) := hmk
  clear hmk
  go_enter Tryz.func21, Tryz.ntmps21
  go_upto_region 1 with fail
  go_cut [3] from 6 to 13 (fun p wx => LCut w f (.slice A ops.length cap) p wx)
  case first =>
    go_region
    · go_wp2
      go_meet
      obtain ⟨x0, x1, x2, x3, x4⟩ := four w #[.int .i64 f, .slice A ops.length cap] #[.int .i64 0, .slice none 0 0] mc #[.int .i64 f, .slice (some ⟨w.heap.size + 1 + 1, 0, none⟩) 0 (ops.length + 1)] 24 24 48 24
      exact ⟨_, _, rfl, by omega, x4, x0, x1, x3, own_made x2 (by omega) (by omega) HSZ.out, by simp, List.Pairwise.nil⟩
    · go_wp2
      go_meet
      obtain ⟨x0, x1, x2, x3, x4⟩ := four w #[.int .i64 f, .slice A ops.length cap] #[.int .i64 0, .slice none 0 0] #[.int .i64 f, .slice (some ⟨w.heap.size + 1 + 1 + 1, 0, none⟩) 0 (ops.length + 1)] mc 24 24 24 48
      exact ⟨_, _, rfl, by omega, x4, x0, x1, x2, own_made x3 (by omega) (by omega) HSZ.out, by simp, List.Pairwise.nil⟩
  case rest =>
    clear hmk1
    obtain ⟨g3, rv, rfl, hst⟩ := hcut
    have HST := Lib.hid (show LRel w g3 f (.slice A ops.length cap) ops (.int .i64 0) wc from ⟨0, rv, [], by omega, rfl, rfl, hst⟩)
    clear hst
    go_wp2_with fail
    go_loopw [4, 5] (fun i o wr => LRel w g3 f (.slice A ops.length cap) ops i wr) (fun i _ _ => ops.length - (intOf i).toNat)
    case atStart => exact HST.out
    case round =>
      clear HST
      obtain ⟨k, rv, items, hk, rfl, hit, hst⟩ := hrel
      have HIT := Lib.hid hit
      have HST := Lib.hid hst
      have hlen : items.length = k := by have := congrArg List.length hit; rw [List.length_map, List.length_take] at this; omega
      have HLEN := Lib.hid hlen
      obtain ⟨rA, rcap, rfl⟩ := ownF hst.own
      obtain ⟨p0, p1⟩ := box2 hst.par
      obtain ⟨q0, q1⟩ := box2 hst.box
      have hws := hst.below.size
      have hgl := heap_lt hst.box
      have hg3 := hst.lt
      clear hst hit hlen
      by_cases hlt : k < ops.length
      · have dk : decide ((k : Int) < (ops.length : Int)) = true := decide_eq_true (by omega)
        obtain ⟨b, off, rfl, hFb⟩ := HC.out (by omega)
        have hrd := H.out.pure HST.out.below
        obtain ⟨va, c0, c1, c2, c3, hva⟩ := hrd.at_ k hlt
        have htx := (H.out.elem _ (List.getElem_mem hlt)).1
        obtain ⟨A2, cap2, rfl, _⟩ := hva.open_
        have HVA := Lib.hid hva
        have HSN := Lib.hid (show ops.take (k + 1) = ops.take k ++ [ops[k]] from List.take_succ_eq_append_getElem hlt)
        clear hrd hva
        generalize ops[k] = o at *
        have hB1 := (Below.refl wr.heap.size wr).alloc (Nat.le_refl _) (.cells #[.int .i64 o.kind, .int .i64 o.n, .string o.text, .slice A2 o.attrs.length cap2] 48)
        have hbx := heap_alloc_new wr (.cells #[.int .i64 o.kind, .int .i64 o.n, .string o.text, .slice A2 o.attrs.length cap2] 48)
        have HB1 := Lib.hid hB1; have HBX := Lib.hid hbx
        clear hB1 hbx
        go_wp2_with fail
        refine (lent2_any _ o.attrs _ _ (HVA.out.pure HB1.out)).mono ?_
        rintro e w2 ⟨v', rfl, hb2, hl2⟩
        have hbx2 := (hb2.block _ (heap_lt HBX.out)).trans HBX.out
        have HL2 := Lib.hid hl2
        obtain ⟨A3, m3, cap3, rfl⟩ : ∃ A3 m3 cap3, v' = .slice A3 m3 cap3 := by obtain ⟨g, c, e, _⟩ := hl2; exact ⟨_, _, _, e⟩
        have hb12 := pure_trans HB1.out hb2
        have HB12 := Lib.hid hb12
        obtain ⟨x0, x1, x2, x3⟩ := box4 hbx2
        have f3 := froz_heap hbx2 3
        have hl2 := heap_lt hbx2
        have HBX2 := Lib.hid hbx2
        have hg2 := (hb12.block _ hgl).trans HST.out.box
        obtain ⟨y0, y1⟩ := box2 hg2
        have HG2 := Lib.hid hg2
        have hlo : ∀ q, (Value.slice rA items.length rcap).ownBlock = some q → w.heap.size ≤ q ∧ q < wr.heap.size := HST.out.own.lt
        have HLO := Lib.hid hlo
        have HO3 := Lib.hid (ownsRow_setCell_other (a := ⟨wr.heap.size, 3, none⟩) (own_below HST.out.own hb12) (fun e => by have := (hlo _ e).2; exact absurd this (Nat.lt_irrefl _)) (.slice A3 m3 cap3))
        have hil : items.length ≤ 1099511627776 := by have := HLEN.out; omega
        have hs2 := hb12.size
        have HP3 := Lib.hid (show Below wr.heap.size wr (w2.setCell ⟨wr.heap.size, 3, none⟩ (.slice A3 m3 cap3)) from hb12.setCell (p := ⟨wr.heap.size, 3, none⟩) (Nat.le_refl _) _)
        have HL3 := Lib.hid (show LentA (w2.setCell ⟨wr.heap.size, 3, none⟩ (.slice A3 m3 cap3)) wr.heap.size (.slice A3 m3 cap3) o.attrs from
          (HL2.out.agree fun q hq hty => Below.heap_setCell _ ⟨wr.heap.size, 3, none⟩ _ _ (fun e => by
            have e : q = wr.heap.size := e
            subst e
            obtain ⟨c, fz, hc⟩ := hty
            rw [HBX2.out] at hc; injection hc with hc; injection hc with _ e _; cases e)).lo (by simp))
        have hgne : g3 ≠ wr.heap.size := by omega
        clear hb2 hbx2 hb12 hlo hg2
        go_wp2_with (first | (at_builtin; refine wpList_append_own _ rfl (.tmp 31) (.tmp 33) 22 rfl w.heap.size 48 i0 (.agg #[.int .i64 0, .int .i64 0, .string ⟨#[]⟩, .slice none 0 0]) 4 56 Tryz.underlying22 hi hz0 hz1 hz2 rfl (by decide) (.slice rA items.length rcap) items.length (flat cellsP items) rfl (HO3.out.alloc _) ⟨w2.heap.size, 0, none⟩ 1 1 [.int .i64 o.kind, .int .i64 o.n, .string o.text, .slice A3 m3 cap3] rfl rfl (World.news_of_block (cs := #[.int .i64 o.kind, .int .i64 o.n, .string o.text, .slice A3 m3 cap3]) (t := 48) (fr := (0, 0)) (by have := heap_alloc_new (w2.setCell ⟨wr.heap.size, 3, none⟩ (.slice A3 m3 cap3)) (.cells #[.int .i64 o.kind, .int .i64 o.n, .string o.text, .slice A3 m3 cap3] 48); simpa using this)) (by simp [Value.oneCell']) (by unfold maxLen; omega) (by omega) (by simp; omega) ?_) | fail)
        intro rv' w5 hown hgrow _
        obtain ⟨A5, cap5, rfl⟩ := ownF hown
        have hg5 : w5.heap[g3]? = some (.cells #[.int .i64 f, .slice rA items.length rcap] 24 (0, 0)) :=
          ((hgrow.block g3 (by simp; omega) (fun e => own_ne HO3.out ((Below.heap_setCell _ ⟨wr.heap.size, 3, none⟩ _ _ hgne).trans HG2.out) (by decide) e.symm)).trans (Below.heap_alloc _ _ g3 (by simp; omega))).trans ((Below.heap_setCell _ ⟨wr.heap.size, 3, none⟩ _ _ hgne).trans HG2.out)
        obtain ⟨z0, z1⟩ := box2 hg5
        have fz := froz_heap hg5 1
        have hg5l := heap_lt hg5
        have HN := Lib.hid (show LRel w g3 f (.slice (some ⟨b, off, none⟩) ops.length cap) ops (.int .i64 ((k + 1 : Nat) : Int)) (w5.setCell ⟨g3, 1, none⟩ (.slice A5 (items.length + 1) cap5)) from
          ⟨k + 1, _, _, by omega, rfl, by rw [List.map_append, HIT.out, HSN.out]; rfl, HST.out.push HP3.out HL3.out htx hown hgrow⟩)
        clear hown hgrow hg5
        go_wp2
        exact ⟨HN.out, by simp [intOf]; omega⟩
      · obtain rfl : k = ops.length := by omega
        have dk : decide ((ops.length : Int) < (ops.length : Int)) = false := decide_eq_false (by omega)
        have hil : items.length ≤ 1099511627776 := by have := HLEN.out; omega
        have hn1 := HLEN.out
        have HRES := Lib.hid HST.out.res
        have HNE1 := Lib.hid (own_ne HST.out.own HST.out.res (by decide))
        have HNE2 := Lib.hid (own_ne HST.out.own HST.out.par (by decide))
        have h01 := Lib.hid (heap_lt HST.out.res)
        have h02 := heap_lt HST.out.par
        have hle1 : ops.length ≤ items.length := by omega
        have hle2 : items.length ≤ ops.length := by omega
        clear hn1
        have hgq := HST.out.box
        have HNE3 := Lib.hid (own_ne HST.out.own HST.out.box (by decide))
        have hgn1 : g3 ≠ w.heap.size + 1 := by omega
        have hgn2 : w.heap.size + 1 ≠ g3 := by omega
        clear hgq
        go_upto_region 8 with fail
        go_region_held3 (fun w' => w'.cell? ⟨w.heap.size, 0, none⟩ = some (.int .i64 f) ∧ w'.cell? ⟨w.heap.size, 1, none⟩ = some (.slice A ops.length cap) ∧ w'.cell? ⟨g3, 1, none⟩ = some (.slice rA items.length rcap)) (go_keep)
          ((refine step_append_lies _ (by rfl) _ _ _ (by rfl) w.heap.size 48 i0 _ 4 56 Tryz.underlying22 hi hz0 hz1 hz2 rfl (by omega) (.slice rA items.length rcap) items.length (flat cellsP items) (by rfl) (by exact HST.out.own.alloc _)
              ⟨wr.heap.size, 0, none⟩ 1 1 [.int .i64 99, .int .i64 0, .string ⟨#[]⟩, .slice none 0 0] (by rfl) (by rfl) (World.news_of_block (cs := #[.int .i64 99, .int .i64 0, .string ⟨#[]⟩, .slice none 0 0]) (t := 48) (fr := (0, 0)) (heap_alloc_new wr _)) (by simp [Value.oneCell'])
              (by omega) (by unfold maxLen; omega) (by omega) (by first | (simp; done) | (simp; omega)) (wr.heap.size + 1) (by simp) ?_; intro gg dap2 w3 hown3 hgrow hat hlt3; have hr3 := (hgrow.block (w.heap.size + 1) (by have := h01.out; first | (simp; done) | (simp; omega)) (fun e => HNE1.out e.symm)).trans ((Below.heap_alloc wr _ _ h01.out).trans HRES.out); have hp3 := (hgrow.block w.heap.size (by have := h02; first | (simp; done) | (simp; omega)) (fun e => HNE2.out e.symm)).trans ((Below.heap_alloc wr _ _ h02).trans HST.out.par); have z0 := (box2 hr3).1; have z1 := (box2 hr3).2; have z2 := (box2 hp3).1; have z3 := (box2 hp3).2; have fz0 := froz_heap hr3 0; have fz1 := froz_heap hr3 1; have hx3 := (hgrow.block g3 (by first | (simp; done) | (simp; omega)) (fun e => HNE3.out e.symm)).trans ((Below.heap_alloc wr _ _ hgl).trans HST.out.box); have z4 := (box2 hx3).2; have hd1 := (own_cap2 hown3).1; have hd2 : (ops.length : Int) ≤ (dap2 : Int) := (by omega); have hd3 : (0 : Int) ≤ (ops.length : Int) := (by omega)))
        all_goals
          have hrf := set_heap1 (set_heap hr3 (.int .i64 f)) (.slice (some ⟨gg, 0, none⟩) ops.length dap2)
          obtain ⟨y0, y1⟩ := box2 hrf
          have hgg : gg ≠ w.heap.size + 1 := fun e => own_ne hown3 hr3 (by decide) (by simp [Value.ownBlock, e])
          have hat : ∀ k, TyA wr k → ((w3.setCell ⟨w.heap.size + 1, 0, none⟩ (.int .i64 f)).setCell ⟨w.heap.size + 1, 1, none⟩ (.slice (some ⟨gg, 0, none⟩) ops.length dap2)).heap[k]? = wr.heap[k]? := fun k hk => by
            have hk1 : k ≠ w.heap.size + 1 := fun e => by subst e; exact chg_nt HRES.out hk
            rw [Below.heap_setCell _ ⟨w.heap.size + 1, 1, none⟩ _ _ hk1, Below.heap_setCell _ ⟨w.heap.size + 1, 0, none⟩ _ _ hk1]
            exact (hgrow.block k (by have := tyA_lt hk; first | (simp; done) | (simp; omega)) (fun e => ops_nt HST.out.own k e.symm hk)).trans (Below.heap_alloc wr _ k (tyA_lt hk))
          have HF := Lib.hid (show LentPost f ops w (.returned (.agg #[.int .i64 f, .slice (some ⟨gg, 0, none⟩) ops.length dap2])) ((w3.setCell ⟨w.heap.size + 1, 0, none⟩ (.int .i64 f)).setCell ⟨w.heap.size + 1, 1, none⟩ (.slice (some ⟨gg, 0, none⟩) ops.length dap2)) from by
            refine ⟨_, rfl, ?_, gg, dap2, items, rfl, ?_, by rw [HIT.out, List.take_length], fun p hp => ⟨(HST.out.lent p hp).1.agree fun k hk hty => hat k hty, (HST.out.lent p hp).2⟩, HST.out.apart⟩
            · exact (((below_drew (HST.out.below.alloc hws _)).grown hgrow (by first | (simp; done) | (simp; omega) | (show w.heap.size ≤ (wr.alloc _).heap.size; simp; omega)) (fun k hk => (HST.out.own.lt k hk).1)).setCell (p := ⟨w.heap.size + 1, 0, none⟩) (by simp) _).setCell (p := ⟨w.heap.size + 1, 1, none⟩) (by simp) _
            · rw [← HLEN.out, flat_append, flat_one]
              have h1 := ownsRow_setCell_other (ownsRow_setCell_other hown3 (a := ⟨w.heap.size + 1, 0, none⟩) (fun e => hgg (by simpa [Value.ownBlock] using e)) (.int .i64 f)) (a := ⟨w.heap.size + 1, 1, none⟩) (fun e => hgg (by simpa [Value.ownBlock] using e)) (.slice (some ⟨gg, 0, none⟩) items.length dap2)
              exact h1)
          clear hown3 hgrow hat hr3 hp3 hx3 hrf
          go_wp2_with fail
          refine bodyPost_ret (v := .agg #[.int .i64 f, .slice (some ⟨gg, 0, none⟩) ops.length dap2]) (by simp [results, Tryz.results21, go_sem, y0, y1]) rfl HF.out
end

section
set_option linter.unusedVariables false
set_option linter.unusedSimpArgs false
open Go.RowKit Go.PlainAid

/-- block g is a row of cells of type t, that many, which may be written -/
def Row (w : World) (g : Nat) (t : TypeId) (n : Nat) : Prop := ∃ cs, w.heap[g]? = some (.cells cs t (0, 0)) ∧ cs.size = n
theorem Row.set {w : World} {g n : Nat} {t : TypeId} (h : Row w g t n) (j : Nat) (u : Value) : Row (w.setCell ⟨g, j, none⟩ u) g t n := by
  obtain ⟨cs, h1, h2⟩ := h
  exact ⟨_, set_one h1 u, by simpa using h2⟩
theorem Row.cell {w : World} {g n : Nat} {t : TypeId} (h : Row w g t n) {j : Nat} (hj : j < n) : ∃ x, w.cell? ⟨g, j, none⟩ = some x := by
  obtain ⟨cs, h1, h2⟩ := h
  exact ⟨cs[j]'(by omega), by rw [cell_heap h1, Array.getElem?_eq_getElem (by omega)]⟩
theorem Row.froz {w : World} {g n : Nat} {t : TypeId} (h : Row w g t n) (j : Nat) : w.frozen? ⟨g, j, none⟩ = false := by
  obtain ⟨cs, h1, h2⟩ := h
  exact froz_heap h1 j
theorem Row.lt {w : World} {g n : Nat} {t : TypeId} (h : Row w g t n) : g < w.heap.size := by
  obtain ⟨cs, h1, h2⟩ := h
  exact heap_lt h1
theorem row_of_own {w : World} {base g n cap size : Nat} {e : TypeId} {xs : List Value} (h : w.ownsRow base e size (.slice (some ⟨g, 0, none⟩) n cap) n xs) : Row w g e (cap * size) := by
  rcases h.2 with ⟨hv, h0⟩ | ⟨g', cap', cur, hv, _, hg, h1, h2, h3, _⟩
  · cases hv
  · injection hv with e1 _ e3
    injection e1 with e1; injection e1 with e1 _ _
    subst e1 e3
    exact ⟨cur, hg, h3⟩
theorem rd_front {α : Type} {w : World} {lo : Nat} {e : TypeId} {sz g n cap : Nat} {l m : List α} {f : α → List Value} {F : Nat → Prop} {E : α → List Value → Prop} (h : w.ownsRow lo e sz (.slice (some ⟨g, 0, none⟩) n cap) n (flat f (l ++ m)))
    (hf : ∀ x, (f x).length = sz) (hE : ∀ x ∈ l, E x (f x)) (hF : F g) (hn : l.length ≤ 1099511627776) (hl : l.length ≤ n) : Rd w F sz E (.slice (some ⟨g, 0, none⟩) l.length cap) l := by
  obtain ⟨h1, h2⟩ := own_cap2 h
  refine ⟨_, cap, rfl, by omega, h2, hn, fun h0 => ⟨g, 0, rfl, hF, fun i hi => ⟨f l[i], hf _, hE _ (List.getElem_mem hi), fun j hj => ?_⟩⟩⟩
  have hj' : j < sz := by rw [← hf l[i]]; exact hj
  have hlt : i * sz + j < n * sz := by
    have : (i + 1) * sz ≤ n * sz := Nat.mul_le_mul_right _ (by omega)
    rw [Nat.succ_mul] at this; omega
  have hi2 : i < (l ++ m).length := by rw [List.length_append]; omega
  have := h.cellAt (i * sz + j) hlt
  rw [Nat.zero_add, this, flat_get f sz (l ++ m) (fun x _ => hf x) i j hi2 hj', List.getElem_append_left hi, List.getElem?_eq_getElem hj]
theorem LentA.rdA {w : World} {lo : Nat} {v u : Value} {l : List At} {G : Nat → Prop} (h : LentA w lo v l) (hu : RdA w G u l) : RdA w (fun _ => True) v l := by
  obtain ⟨g, cap, rfl, ho⟩ := h
  obtain ⟨_, _, _, _, _, hn, _⟩ := hu.open_
  exact rd_front ho (fun _ => rfl) (fun a ha => ⟨rfl, hu.sizes a ha⟩) trivial hn (by omega)

set_option maxHeartbeats 2000000 in
set_option maxRecDepth 100000 in
theorem kept2_any (lo : Nat) (v u : Value) (l : List At) (G : Nat → Prop) (w : World) (h : LentA w lo v l) (hu : RdA w G u l) :
    Calls Tryz.prog 79 #[v, u] w fun e w' => e = .returned (.bool true) ∧ Kp (fun k => v.ownBlock = some k) w w' := by
  have HR := Lib.hid (h.rdA hu)
  have HU := Lib.hid hu
  obtain ⟨B, dap, rfl, _, _, hn, _⟩ := hu.open_
  obtain ⟨g, cap, rfl, ho⟩ := h
  have HO := Lib.hid ho
  obtain ⟨hc1, hc2⟩ := own_cap2 ho
  have hrow := row_of_own ho
  have HROW := Lib.hid hrow
  have hsame := Lib.hid ((sameAL_iff l l).2 rfl)
  have hmk : w.cell? ⟨g, l.length * 2, none⟩ = some (.string ⟨#[109, 97, 114, 107]⟩) := by
    have h1 := ho.cellAt (l.length * 2) (by omega)
    have h2 := flat_get cellsA 2 (l ++ [markA]) (fun _ _ => rfl) l.length 0 (by simp) (by omega)
    simp only [Nat.add_zero] at h2
    rw [h1, h2]; simp [cellsA, markA]
  obtain ⟨nl, hnl⟩ : ∃ nl, l.length = nl := ⟨_, rfl⟩
  rw [hnl] at hn hc1 hmk HU HR ⊢
  have HNL := Lib.hid hnl
  clear ho hrow hnl hu
  have i1 : ((nl : Int) + 1) ≤ (cap : Int) := by omega
  have i0 : (0 : Int) ≤ (nl : Int) := by omega
  have i2 : (nl : Int) < (nl : Int) + 1 := by omega
  go_enter Tryz.func79, Tryz.ntmps79
  go_wp2_with fail
  refine (refSameA_any _ _ l l _ _ _ HR.out HU.out).mono ?_
  rw [hsame.out]
  rintro e w1 ⟨rfl, q, rfl⟩
  go_wp2_with fail
  go_loopw [8] (fun i wr => ∃ k : Nat, k ≤ nl + 1 ∧ i = .int .i64 k ∧ Row wr g 89 (cap * 2) ∧ Kp (fun q => (Value.slice (some ⟨g, 0, none⟩) nl cap).ownBlock = some q) w wr) (fun i _ => nl + 1 - (intOf i).toNat)
  case atStart => exact ⟨0, by omega, rfl, HROW.out, (Kp.refl _ w).drewN _⟩
  case round =>
    obtain ⟨k, hk, rfl, hrow, hkp⟩ := hrel
    have HRW := Lib.hid hrow; have HK := Lib.hid hkp
    clear hrow hkp
    by_cases hlt : k < nl + 1
    · have dk : decide ((k : Int) < (nl : Int) + 1) = true := decide_eq_true (by omega)
      obtain ⟨x0, e0⟩ := HRW.out.cell (j := k * 2) (by omega)
      obtain ⟨x1, e1⟩ := HRW.out.cell (j := k * 2 + 1) (by omega)
      have f0 := HRW.out.froz (k * 2)
      have f1 := HRW.out.froz (k * 2 + 1)
      have hgl := HRW.out.lt
      have k0 : (0 : Int) ≤ (k : Int) := by omega
      have k1 : (k : Int) < (nl : Int) + 1 := by omega
      go_wp2
      exact ⟨⟨k + 1, by omega, by go_num, (HRW.out.set _ _).set _ _, (HK.out.setCell (p := ⟨g, k * 2, none⟩) (.inl rfl) _).setCell (p := ⟨g, k * 2 + 1, none⟩) (.inl rfl) _⟩, by simp [intOf]; omega⟩
    · have dk : decide ((k : Int) < (nl : Int) + 1) = false := decide_eq_false (by omega)
      go_wp2
      go_ret
      exact ⟨rfl, HK.out⟩

/-! ### of a changeset -/
theorem rdO_of_items {w : World} {F : Nat → Prop} {v : Value} {items : List Item} (h : Rd w F 4 (fun p cs => ∃ va, cs = cellsO p.1 va ∧ p.1.text.size ≤ 1099511627776 ∧ RdA w F va p.1.attrs) v items) : RdO w F v (items.map Prod.fst) := by
  obtain ⟨A, cap, e, q1, q1', q2, q3⟩ := h
  refine ⟨A, cap, by simpa using e, by simpa using q1, q1', by simpa using q2, fun h0 => ?_⟩
  obtain ⟨b, off, eA, hF, hc⟩ := q3 (by simpa using h0)
  refine ⟨b, off, eA, hF, fun i hi => ?_⟩
  obtain ⟨cs, r1, r2, r3⟩ := hc i (by simpa using hi)
  exact ⟨cs, r1, by simpa using r2, r3⟩
theorem LentO.rdO {w : World} {lo : Nat} {v u : Value} {ops : List OpM} {G : Nat → Prop} (h : LentO w lo v ops) (hu : RdO w G u ops) : RdO w (fun _ => True) v ops := by
  obtain ⟨g, cap, items, rfl, ho, rfl, hl, _⟩ := h
  obtain ⟨_, _, _, _, _, hn, _⟩ := hu.open_
  have hn' : items.length ≤ 1099511627776 := by simpa using hn
  have h1 := rd_front (F := fun _ => True) (E := fun p cs => ∃ va, cs = cellsO p.1 va ∧ p.1.text.size ≤ 1099511627776 ∧ RdA w (fun _ => True) va p.1.attrs) ho (fun _ => rfl) (fun p hp => ⟨p.2, rfl, (hl p hp).2, by
    obtain ⟨_, va, hva⟩ := hu.elem p.1 (List.mem_map_of_mem hp)
    exact (hl p hp).1.rdA hva⟩) trivial hn' (by simp)
  rw [List.length_map]
  exact rdO_of_items h1
/-- the attributes of the first k have been written over -/
def KBlk (items : List Item) (k : Nat) (q : Nat) : Prop := ∃ j, ∃ h : j < items.length, j < k ∧ items[j].2.ownBlock = some q
def KRel (w2 : World) (items : List Item) (ok i : Value) (wr : World) : Prop := ∃ k, k ≤ items.length ∧ i = .int .i64 (k : Nat) ∧ ok = .bool true ∧ Kp (KBlk items k) w2 wr

set_option maxHeartbeats 4000000 in
set_option maxRecDepth 100000 in
theorem kept_any (lo : Nat) (f : Int) (v u : Value) (ops : List OpM) (G : Nat → Prop) (w : World) (h : LentO w lo v ops) (hu : RdO w G u ops) (hG : ∀ k, G k → k < lo) (hlo : lo ≤ w.heap.size) :
    Calls Tryz.prog 22 #[.agg #[.int .i64 f, v], .agg #[.int .i64 f, u]] w fun e w' => e = .returned (.bool true) ∧ Below lo w w' := by
  have HV := Lib.hid (h.rdO hu)
  have HU := Lib.hid hu
  obtain ⟨B, dap, rfl, _, _, hn, hcell⟩ := hu.open_
  have HC := Lib.hid hcell
  obtain ⟨g, cap, items, rfl, ho, hit, hl, hap⟩ := h
  have HO := Lib.hid ho; have HIT := Lib.hid hit; have HL := Lib.hid hl; have HAP := Lib.hid hap
  have hlen : items.length = ops.length := by rw [← hit, List.length_map]
  have HLEN := Lib.hid hlen
  obtain ⟨hc1, hc2⟩ := own_cap2 ho
  have HROW := Lib.hid (row_of_own ho)
  have hsame := Lib.hid ((sameC_iff f ops f ops).2 ⟨rfl, rfl⟩)
  have hmk : w.cell? ⟨g, ops.length * 4, none⟩ = some (.int .i64 99) := by
    have h1 := ho.cellAt (ops.length * 4) (by omega)
    have h2 := flat_get cellsP 4 (items ++ [(markO, .slice none 0 0)]) (fun _ _ => rfl) items.length 0 (by simp) (by omega)
    simp only [Nat.add_zero] at h2
    rw [h1, ← hlen, h2]; simp [cellsP, cellsO, markO]
  have HMK := Lib.hid hmk
  have hKB : ∀ k q, KBlk items k q → lo ≤ q ∧ q < w.heap.size ∧ TyA w q := fun k q hq => by
    obtain ⟨j, hj, _, hb⟩ := hq
    exact (hl _ (List.getElem_mem hj)).1.blk q hb
  have HKB := Lib.hid hKB
  have hgnt := Lib.hid (ops_nt ho g rfl)
  have hglo := Lib.hid (ho.lt g rfl)
  obtain ⟨n, hn'⟩ : ∃ n, ops.length = n := ⟨_, rfl⟩
  rw [hn'] at hn hc1 hlen HLEN HU HV HC ⊢
  have HN := Lib.hid hn'
  clear ho hit hl hap hmk hKB hu hcell hn' hlen
  have hW1 : Below w.heap.size w ((w.alloc (.cells #[.int .i64 f, .slice (some ⟨g, 0, none⟩) n cap] 24)).alloc (.cells #[.int .i64 f, .slice B n dap] 24)) := ((Below.refl _ w).alloc (Nat.le_refl _) _).alloc (by simp) _
  have hp1 : ((w.alloc (.cells #[.int .i64 f, .slice (some ⟨g, 0, none⟩) n cap] 24)).alloc (.cells #[.int .i64 f, .slice B n dap] 24)).heap[w.heap.size]? = some (.cells #[.int .i64 f, .slice (some ⟨g, 0, none⟩) n cap] 24 (0, 0)) := by
    rw [Below.heap_alloc _ _ _ (by simp)]; exact heap_alloc_new w _
  have hq1 : ((w.alloc (.cells #[.int .i64 f, .slice (some ⟨g, 0, none⟩) n cap] 24)).alloc (.cells #[.int .i64 f, .slice B n dap] 24)).heap[w.heap.size + 1]? = some (.cells #[.int .i64 f, .slice B n dap] 24 (0, 0)) := by
    have := heap_alloc_new (w.alloc (.cells #[.int .i64 f, .slice (some ⟨g, 0, none⟩) n cap] 24)) (.cells #[.int .i64 f, .slice B n dap] 24); simpa using this
  have HW1 := Lib.hid hW1; have HP1 := Lib.hid hp1; have HQ1 := Lib.hid hq1
  clear hW1 hp1 hq1
  go_enter Tryz.func22, Tryz.ntmps22
  go_wp2_with fail
  refine (refSame_any f f _ _ ops ops _ _ _ (HV.out.pure HW1.out) (HU.out.pure HW1.out)).mono ?_
  rw [hsame.out]
  rintro e w2 ⟨rfl, b2⟩
  have hb2 := pure_trans HW1.out b2
  have hp2 := (b2.block _ (heap_lt HP1.out)).trans HP1.out
  have hq2 := (b2.block _ (heap_lt HQ1.out)).trans HQ1.out
  obtain ⟨p0, p1⟩ := box2 hp2
  obtain ⟨q0, q1⟩ := box2 hq2
  have hmk2 := pure_cell hb2 HMK.out
  rw [HN.out] at hmk2
  have HB2 := Lib.hid hb2; have HP2 := Lib.hid hp2; have HQ2 := Lib.hid hq2
  have hw2 := heap_lt hq2
  clear b2 hb2 hp2 hq2
  have i1 : ((n : Int) + 1) ≤ (cap : Int) := by omega
  have i0 : (0 : Int) ≤ (n : Int) := by omega
  have i2 : (n : Int) < (n : Int) + 1 := by omega
  have HST := Lib.hid (show KRel w2 items (.bool true) (.int .i64 0) w2 from ⟨0, by omega, rfl, rfl, Kp.refl _ _⟩)
  go_wp2_with fail
  clear p0 p1 q0 q1 hmk2 i2
  go_loopw [7, 8, 9] (fun ok i kp wr => KRel w2 items ok i wr) (fun _ i _ _ => n - (intOf i).toNat)
  case atStart => exact HST.out
  case round =>
    clear HST
    obtain ⟨k, hk, rfl, rfl, hkp⟩ := hrel
    have HK := Lib.hid hkp
    have hws := hkp.size
    have hpr := (hkp.block w.heap.size (by omega) (fun hq => by have := (HKB.out _ _ hq).2.1; omega)).trans HP2.out
    have hqr := (hkp.block (w.heap.size + 1) (by omega) (fun hq => by have := (HKB.out _ _ hq).2.1; omega)).trans HQ2.out
    obtain ⟨p0, p1⟩ := box2 hpr
    obtain ⟨q0, q1⟩ := box2 hqr
    clear hkp hpr hqr
    have hkn : k ≤ n := by have := HLEN.out; omega
    by_cases hlt : k < n
    · have dk : decide ((k : Int) < (n : Int)) = true := decide_eq_true (by omega)
      have hki : k < items.length := by have := HLEN.out; omega
      have hko : k < ops.length := by have := HN.out; omega
      obtain ⟨b, off, rfl, hGb⟩ := HC.out (by have := HN.out; omega)
      have hgr : wr.heap[g]? = w.heap[g]? := (HK.out.block g (by have := HB2.out.size; have := hglo.out.2; omega) (fun hq => hgnt.out (HKB.out _ _ hq).2.2)).trans (HB2.out.block g hglo.out.2)
      have hrd : RdO wr G (.slice (some ⟨b, off, none⟩) n dap) ops := HU.out.agree fun q hq _ => (HK.out.block q (by have := hG q hq; have := HB2.out.size; omega) (fun hb => by have := (HKB.out _ _ hb).1; have := hG q hq; omega)).trans (HB2.out.block q (by have := hG q hq; omega))
      obtain ⟨va, _, _, _, c3, hva⟩ := hrd.at_ k hko
      have hx3 : wr.cell? ⟨g, k * 4 + 3, none⟩ = some items[k].2 := by
        rw [World.cell?_of_block hgr, HO.out.cellAt (k * 4 + 3) (by have := HN.out; omega), flat_get cellsP 4 (items ++ [((markO, .slice none 0 0) : Item)]) (fun _ _ => rfl) k 3 (by simp; omega) (by omega), List.getElem_append_left hki]
        rfl
      have hio : items[k].1 = ops[k] := by
        have := HIT.out
        subst this
        simp
      have hlk : LentA wr lo items[k].2 ops[k].attrs := by
        have h1 := (HL.out _ (List.getElem_mem hki)).1
        rw [hio] at h1
        refine h1.agree fun q hq hty => ?_
        refine (HK.out.block q (by have := tyA_lt hty; have := HB2.out.size; omega) (fun hb => ?_)).trans (HB2.out.block q (tyA_lt hty))
        obtain ⟨j, hj, hjk, hb⟩ := hb
        exact (List.pairwise_iff_getElem.1 HAP.out) j k hj hki hjk (hb.trans hq.symm)
      obtain ⟨A2, cap2, rfl, _⟩ := hva.open_
      obtain ⟨gk, capk, hvk⟩ : ∃ gk capk, items[k].2 = .slice (some ⟨gk, 0, none⟩) ops[k].attrs.length capk := by obtain ⟨a, b, e, _⟩ := hlk; exact ⟨a, b, e⟩
      have hlk' := hlk
      rw [hvk] at hx3 hlk'
      have HLK := Lib.hid hlk'; have HVA := Lib.hid hva
      have HBK := Lib.hid (show ∀ q, (Value.slice (some ⟨gk, 0, none⟩) ops[k].attrs.length capk).ownBlock = some q → KBlk items (k + 1) q from fun q hq => ⟨k, hki, by omega, by rw [hvk]; exact hq⟩)
      clear hrd hva hlk hlk' hvk hgr hio
      generalize ops[k] = o at *
      have k0 : (0 : Int) ≤ (k : Int) := by omega
      have k1 : (k : Int) < (n : Int) := by omega
      have k2 : (k : Int) < (n : Int) + 1 := by omega
      go_upto_region 9 with fail
      go_still_tail 11, (by kernel_rfl)
      change wpList _ _ _ _ _ wr.drew
      go_wp2_with fail
      refine (kept2_any lo _ _ o.attrs _ _ (by exact HLK.out.agree (fun _ _ _ => rfl)) (by exact HVA.out.agree (fun _ _ _ => rfl))).mono ?_
      rintro e w4 ⟨rfl, k4⟩
      have HN4 := Lib.hid (show KRel w2 items (.bool true) (.int .i64 ((k + 1 : Nat) : Int)) w4 from
        ⟨k + 1, by omega, rfl, rfl, ((HK.out.mono (fun q _ hq => by obtain ⟨j, hj, hjk, hb⟩ := hq; exact ⟨j, hj, by omega, hb⟩)).drew).trans (k4.mono (fun q _ hq => HBK.out q hq))⟩)
      clear k4
      go_wp2
      exact ⟨HN4.out, by simp [intOf]; omega⟩
    · obtain rfl : k = n := by omega
      have dk : decide ((k : Int) < (k : Int)) = false := decide_eq_false (by omega)
      have hrow : Row wr g 48 (cap * 4) := by
        obtain ⟨cs, h1, h2⟩ := HROW.out
        exact ⟨cs, ((HK.out.block g (by have := HB2.out.size; have := hglo.out.2; omega) (fun hq => hgnt.out (HKB.out _ _ hq).2.2)).trans (HB2.out.block g hglo.out.2)).trans h1, h2⟩
      have hbl : Below lo w wr := (HB2.out.mono hlo).trans (HK.out.below (fun q hq => (HKB.out _ _ hq).1) (by have := HB2.out.size; omega))
      have HROW2 := Lib.hid hrow; have HBL := Lib.hid hbl
      clear hrow hbl
      go_wp2_with fail
      go_loopw [10] (fun i wx => ∃ j : Nat, j ≤ k + 1 ∧ i = .int .i64 j ∧ Row wx g 48 (cap * 4) ∧ Below lo w wx) (fun i _ => k + 1 - (intOf i).toNat)
      case atStart => exact ⟨0, by omega, rfl, HROW2.out, HBL.out⟩
      case round =>
        obtain ⟨j, hj, rfl, hrow, hbl⟩ := hrel
        have HRW := Lib.hid hrow; have HB := Lib.hid hbl
        clear hrow hbl
        by_cases hjl : j < k + 1
        · have dj : decide ((j : Int) < (k : Int) + 1) = true := decide_eq_true (by omega)
          obtain ⟨x0, e0⟩ := HRW.out.cell (j := j * 4) (by omega)
          obtain ⟨x1, e1⟩ := HRW.out.cell (j := j * 4 + 1) (by omega)
          obtain ⟨x2, e2⟩ := HRW.out.cell (j := j * 4 + 2) (by omega)
          obtain ⟨x3, e3⟩ := HRW.out.cell (j := j * 4 + 3) (by omega)
          have f0 := HRW.out.froz (j * 4)
          have f1 := HRW.out.froz (j * 4 + 1)
          have f2 := HRW.out.froz (j * 4 + 2)
          have f3 := HRW.out.froz (j * 4 + 3)
          have hgl := HRW.out.lt
          have k0 : (0 : Int) ≤ (j : Int) := by omega
          have k1 : (j : Int) < (k : Int) + 1 := by omega
          have hgg := hglo.out.1
          have HS := Lib.hid (fun (W : World) (hB : Below lo w W) (q : Nat) (x : Value) => hB.setCell (p := ⟨g, q, none⟩) hgg x)
          go_wp2
          exact ⟨⟨j + 1, by omega, by go_num, (((HRW.out.set _ _).set _ _).set _ _).set _ _, HS.out _ (HS.out _ (HS.out _ (HS.out _ HB.out _ _) _ _) _ _) _ _⟩, by simp [intOf]; omega⟩
        · have dj : decide ((j : Int) < (k : Int) + 1) = false := decide_eq_false (by omega)
          go_wp2
          go_ret
          exact ⟨rfl, HB.out⟩
end
end Go.Proofs.YtdpmjlkmjmookaaGreatDoor
