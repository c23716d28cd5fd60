/-
  Package change: the row of operations that the normal form is made in (put, flush), walked.
-/
import Derived.Test.YtdpmjlkmjmookaaGreatDoorChange
import Derived.Deep.AppendLies
import Derived.Deep.RegionHeld3
import Derived.Lib.BufferKept
import Derived.Deep.RegionLaw
import Derived.OneCell
namespace Go.Proofs.YtdpmjlkmjmookaaGreatDoor
open Go.RowKit

/-! ### Rows of operations of the call's own -/
/-- block k is a row of attributes -/
def TyA (w : World) (k : Nat) : Prop := ∃ c fz, w.heap[k]? = some (.cells c 89 fz)
/-- an operation and the slice of its attributes -/
abbrev Item := OpM × Value
def cellsP (p : Item) : List Value := cellsO p.1 p.2
def OwnItem (w : World) (lo : Nat) (p : Item) : Prop := RdA w (fun k => lo ≤ k ∧ TyA w k) p.2 p.1.attrs ∧ p.1.text.size ≤ 1099511627776
def OwnI (w : World) (lo : Nat) (v : Value) (items : List Item) : Prop := w.ownsRow lo 48 4 v items.length (flat cellsP items) ∧ ∀ p ∈ items, OwnItem w lo p
def OwnO (w : World) (lo : Nat) (v : Value) (ops : List OpM) : Prop := ∃ items : List Item, items.map Prod.fst = ops ∧ OwnI w lo v items
theorem cellsP_len (l : List Item) : ∀ x ∈ l, (cellsP x).length = 4 := fun _ _ => rfl
theorem OwnItem.agree {w w' : World} {lo : Nat} {p : Item} (h : OwnItem w lo p) (hw : ∀ k, lo ≤ k → TyA w k → w'.heap[k]? = w.heap[k]?) : OwnItem w' lo p := by
  refine ⟨(h.1.agree fun k hk _ => hw k hk.1 hk.2).mono (fun k hk _ => ⟨hk.1, ?_⟩), h.2⟩
  obtain ⟨c, fz, hc⟩ := hk.2
  exact ⟨c, fz, by rw [hw k hk.1 ⟨c, fz, hc⟩]; exact hc⟩
/-- what a write to the row rb, or to the block g, turns: nothing else that was there -/
abbrev Put (g : Nat) (rb : Option Nat) (w w' : World) : Prop := Kp (fun k => k = g ∨ some k = rb) w w'
theorem Put.blk {g : Nat} {rb : Option Nat} {w w' : World} (h : Put g rb w w') {k : Nat} (hk : k < w.heap.size) (h1 : k ≠ g) (h2 : some k ≠ rb) : w'.heap[k]? = w.heap[k]? := h.block k hk (by rintro (e | e); exact h1 e; exact h2 e)
/-- no row of attributes is turned -/
theorem OwnItem.put {w w' : World} {lo g : Nat} {rb : Option Nat} {p : Item} (h : OwnItem w lo p) (hp : Put g rb w w') (hg : ¬ TyA w g) (hr : ∀ k, rb = some k → ¬ TyA w k) : OwnItem w' lo p :=
  h.agree fun k _ ht => by
    obtain ⟨c, fz, hc⟩ := ht
    exact hp.blk (heap_lt hc) (fun e => hg (e ▸ ⟨c, fz, hc⟩)) (fun e => hr k e.symm ⟨c, fz, hc⟩)
/-- where a new row lies -/
def FreshOr (v v' : Value) (n : Nat) : Prop := ∀ k, v'.ownBlock = some k → v.ownBlock = some k ∨ n ≤ k
theorem rdO_of_own {w : World} {lo : Nat} {v : Value} {ops : List OpM} (h : OwnO w lo v ops) (hn : ops.length ≤ 1099511627776) : RdO w (fun k => lo ≤ k) v ops := by
  obtain ⟨items, rfl, ho, hi⟩ := h
  have hb : ∀ k, v.ownBlock = some k → lo ≤ k := fun k hk => (ho.lt k hk).1
  have h1 := rd_of_owns (F := fun k => lo ≤ k) (E := fun p cs => ∃ va, cs = cellsO p.1 va ∧ p.1.text.size ≤ 1099511627776 ∧ RdA w (fun k => lo ≤ k) va p.1.attrs) ho (cellsP_len _) (fun x hx => ⟨x.2, rfl, (hi x hx).2, (hi x hx).1.mono fun k hk _ => hk.1⟩) hb (by simpa using hn)
  obtain ⟨A, cap, e, q1, q1', q2, q3⟩ := h1
  refine ⟨A, cap, by simpa using e, by simpa using q1, q1', by simpa using q2, fun h0 => ?_⟩
  obtain ⟨b, off, eA, hF, hc⟩ := q3 (by simpa using h0)
  refine ⟨b, off, eA, hF, fun i hi => ?_⟩
  obtain ⟨cs, r1, r2, r3⟩ := hc i (by simpa using hi)
  exact ⟨cs, r1, by simpa using r2, r3⟩

/-! ### put -/
/-- do o and the last operation come together? -/
def joins (l o : OpM) : Bool := decide (l.kind = o.kind) && sameAL l.attrs o.attrs
def joined (l o : OpM) : OpM := ⟨l.kind, l.n + o.n, l.text ++ o.text, l.attrs⟩
def putM (ops : List OpM) (o : OpM) : List OpM := match ops.getLast? with
  | none => [o]
  | some l => if joins l o then ops.dropLast ++ [joined l o] else ops ++ [o]
def PutPost (lo g : Nat) (v gone : Value) (ops : List OpM) (w : World) (e : Ending) (w' : World) : Prop :=
  e = .returned (.tuple #[]) ∧ ∃ v', w'.heap[g]? = some (.cells #[v', gone] 147 (0, 0)) ∧ OwnO w' lo v' ops ∧ Put g v.ownBlock w w' ∧ FreshOr v v' w.heap.size

theorem idx_facts (n : Nat) (h0 : 0 < n) (h : n ≤ 1000000) : (0 : Int) ≤ (n : Int) - 1 ∧ ((n : Int) - 1).toNat = n - 1 ∧ (n : Int) - 1 < (n : Int) ∧ IntKind.i64.wrap ((n : Int) - 1) = (n : Int) - 1 :=
  ⟨by omega, by omega, by omega, IntWalk.i64_in _ (by omega)⟩
theorem flat_one {α : Type} (f : α → List Value) (x : α) : flat f [x] = f x := by simp [flat]
theorem OwnI.at_ {w : World} {lo rb n dap : Nat} {items : List Item} (h : OwnI w lo (.slice (some ⟨rb, 0, none⟩) n dap) items) (hn : n = items.length) (i : Nat) (hi : i < items.length) :
    w.cell? ⟨rb, i * 4, none⟩ = some (.int .i64 items[i].1.kind) ∧ w.cell? ⟨rb, i * 4 + 1, none⟩ = some (.int .i64 items[i].1.n) ∧ w.cell? ⟨rb, i * 4 + 2, none⟩ = some (.string items[i].1.text) ∧ w.cell? ⟨rb, i * 4 + 3, none⟩ = some items[i].2 ∧ rb < w.heap.size := by
  subst hn
  have hg : ∀ j, j < 4 → w.cell? ⟨rb, i * 4 + j, none⟩ = (cellsP items[i])[j]? := fun j hj => by
    rw [h.1.cellAt (i * 4 + j) (by omega), flat_get cellsP 4 items (cellsP_len _) i j hi hj]
  have h0 := hg 0 (by omega); have h1 := hg 1 (by omega); have h2 := hg 2 (by omega); have h3 := hg 3 (by omega)
  exact ⟨h0, h1, h2, h3, World.block_lt_of_cell? w _ h0⟩

theorem own_below {w w1 : World} {base : Nat} {e : TypeId} {size n : Nat} {v : Value} {xs : List Value} (h : w.ownsRow base e size v n xs) (hb : Below w.heap.size w w1) : w1.ownsRow base e size v n xs :=
  h.kept (row := none) ⟨hb.os, hb.tape, hb.output, hb.size, fun k hk _ => hb.block k hk⟩ (by cases v.ownBlock <;> simp)
/-- an owned row is no block of another type -/
theorem own_ne {w : World} {base : Nat} {e T : TypeId} {size n : Nat} {v : Value} {xs : List Value} {g : Nat} {cs : Array Value} {fr : Nat × Nat} (h : w.ownsRow base e size v n xs) (hb : w.heap[g]? = some (.cells cs T fr)) (hTe : T ≠ e) : v.ownBlock ≠ some g := by
  rcases h.2 with ⟨rfl, _⟩ | ⟨g', cap, cur, rfl, _, hg, _⟩
  · simp [Value.ownBlock]
  · intro h
    simp only [Value.ownBlock, Option.some.injEq] at h
    subst h
    rw [hg] at hb
    simp only [Option.some.injEq, Obj.cells.injEq] at hb
    exact hTe hb.2.1.symm
theorem own_kind {w : World} {base : Nat} {e : TypeId} {size n : Nat} {v : Value} {xs : List Value} (h : w.ownsRow base e size v n xs) : ∀ g, v.ownBlock = some g → ∃ c fz, w.heap[g]? = some (.cells c e fz) := by
  intro g hg
  rcases h.2 with ⟨rfl, _⟩ | ⟨g', cap, cur, rfl, _, hgg, _⟩
  · simp [Value.ownBlock] at hg
  · simp [Value.ownBlock] at hg; subst hg; exact ⟨cur, _, hgg⟩
theorem own_rdA {w : World} {base lo : Nat} {v : Value} {l : List At} (h : w.ownsRow base 89 2 v l.length (flat cellsA l)) (hlo : lo ≤ base) (hs : ∀ a ∈ l, a.k.size ≤ 1099511627776 ∧ a.v.size ≤ 1099511627776) (hn : l.length ≤ 1099511627776) : RdA w (fun k => lo ≤ k ∧ TyA w k) v l :=
  rdA_of_owns h hs (fun k hk => ⟨Nat.le_trans hlo (h.lt k hk).1, own_kind h k hk⟩) hn
theorem set_heap {w : World} {g : Nat} {a b : Value} {t : TypeId} (h : w.heap[g]? = some (.cells #[a, b] t (0, 0))) (u : Value) : (w.setCell ⟨g, 0, none⟩ u).heap[g]? = some (.cells #[u, b] t (0, 0)) := by
  simp [World.setCell, Array.getElem?_modify, h]

theorem maker_nt {w : World} {g : Nat} {cs : Array Value} {fz : Nat × Nat} (hg : w.heap[g]? = some (.cells cs 147 fz)) : ¬ TyA w g := by
  rintro ⟨c, fz', hc⟩; rw [hg] at hc; injection hc with hc; injection hc with _ e _; cases e
theorem ops_nt {w : World} {base size n : Nat} {v : Value} {xs : List Value} (h : w.ownsRow base 48 size v n xs) : ∀ k, v.ownBlock = some k → ¬ TyA w k := by
  rintro k hk ⟨c, fz', hc⟩
  obtain ⟨c2, fz2, h2⟩ := own_kind h k hk
  rw [h2] at hc; injection hc with hc; injection hc with _ e _; cases e

theorem push_done {lo g n gg dap2 k0 : Nat} {gone v va1 : Value} {o : OpM} {items : List Item} {w W2 w3 : World} {o1 : Obj} (hg : w.heap[g]? = some (.cells #[v, gone] 147 (0, 0))) (_hlo : lo ≤ g) (hO : OwnI w lo v items) (hn : items.length = n)
    (ht : o.text.size ≤ 1099511627776) (hP2 : Below w.heap.size w W2) (hk0 : lo ≤ k0) (hown2 : W2.ownsRow k0 89 2 va1 o.attrs.length (flat cellsA o.attrs)) (hs : ∀ a ∈ o.attrs, a.k.size ≤ 1099511627776 ∧ a.v.size ≤ 1099511627776) (hna : o.attrs.length ≤ 1099511627776)
    (hown3 : w3.ownsRow lo 48 4 (.slice (some ⟨gg, 0, none⟩) (n + 1) dap2) (n + 1) (flat cellsP items ++ [.int .i64 o.kind, .int .i64 o.n, .string o.text, va1]))
    (hgrow : (W2.alloc o1).drew.grownBy w3 v.ownBlock) (hat : v.ownBlock = some gg ∨ gg = W2.heap.size + 1) :
    PutPost lo g v gone (items.map Prod.fst ++ [o]) w (.returned (.tuple #[])) (w3.setCell ⟨g, 0, none⟩ (.slice (some ⟨gg, 0, none⟩) (n + 1) dap2)) := by
  have hgl := heap_lt hg
  have hg2 := (hP2.block g hgl).trans hg
  have hne : v.ownBlock ≠ some g := own_ne hO.1 hg (by decide)
  have hO2 := own_below hO.1 hP2
  have hO3 : (W2.alloc o1).drew.ownsRow lo 48 4 v items.length (flat cellsP items) := hO2.alloc o1
  have hg3 : w3.heap[g]? = some (.cells #[v, gone] 147 (0, 0)) := (hgrow.block g (Nat.lt_of_lt_of_le (heap_lt hg2) (by simp [World.drew])) (fun e => hne e.symm)).trans ((Below.heap_alloc W2 _ g (heap_lt hg2)).trans hg2)
  have hp24 : Put g v.ownBlock W2 (w3.setCell ⟨g, 0, none⟩ (.slice (some ⟨gg, 0, none⟩) (n + 1) dap2)) :=
    ((((Kp.refl _ W2).alloc o1).drew).grown hgrow (fun k hk => .inl (.inr hk.symm))).setCell (p := ⟨g, 0, none⟩) (.inl (.inl rfl)) _
  have hp4 : Put g v.ownBlock w (w3.setCell ⟨g, 0, none⟩ (.slice (some ⟨gg, 0, none⟩) (n + 1) dap2)) := (Kp.of_pure hP2).trans hp24
  have hgg : gg ≠ g := fun e => own_ne hown3 hg3 (by decide) (by simp [Value.ownBlock, e])
  refine ⟨rfl, _, set_heap hg3 _, ⟨items ++ [(o, va1)], by simp, ?_, ?_⟩, hp4, ?_⟩
  · have h1 : w3.ownsRow lo 48 4 (.slice (some ⟨gg, 0, none⟩) (n + 1) dap2) (items ++ [(o, va1)]).length (flat cellsP (items ++ [(o, va1)])) := by
      rw [flat_append, flat_one, List.length_append, hn]; exact hown3
    exact ownsRow_setCell_other h1 (by simp [Value.ownBlock]; exact hgg) _
  · intro p hp
    rcases List.mem_append.1 hp with hp | hp
    · exact (hO.2 p hp).put hp4 (maker_nt hg) (ops_nt hO.1)
    · simp at hp; subst hp
      have hi2 : OwnItem W2 lo (o, va1) := ⟨own_rdA hown2 hk0 hs hna, ht⟩
      exact hi2.put hp24 (maker_nt hg2) (ops_nt hO2)
  · intro k hk
    simp [Value.ownBlock] at hk
    subst hk
    rcases hat with h | h
    · exact .inl h
    · right; have := hP2.size; omega

set_option maxHeartbeats 4000000 in
set_option maxRecDepth 100000 in
theorem put_push (lo g : Nat) (gone : Value) (o : OpM) (va : Value) (F : Nat → Prop) (v : Value) (items : List Item) (w : World) (hg : w.heap[g]? = some (.cells #[v, gone] 147 (0, 0))) (hlo : lo ≤ g) (hO : OwnI w lo v items)
    (hA : RdA w F va o.attrs) (ht : o.text.size ≤ 1099511627776) (hlen : items.length ≤ 1000000) (hno : ∀ h : 0 < items.length, joins (items[items.length - 1]'(by omega)).1 o = false) :
    Calls Tryz.prog 119 #[.pointer (some ⟨g, 0, none⟩), opV o va] w (PutPost lo g v gone (items.map Prod.fst ++ [o]) w) := by
  obtain ⟨A, cap, rfl, hc, hcm, hm, hcell⟩ := hA.open_
  clear hcell
  obtain ⟨i0, hi, hz0, hz1, hz2⟩ := info_parts infoO
  have HAA := Lib.hid hA; clear hA
  have HO := Lib.hid hO; clear hO
  have HG := Lib.hid hg
  obtain ⟨c0, c1⟩ := box2 hg
  have hgl := heap_lt hg
  clear hg
  have HNO := Lib.hid hno; clear hno
  obtain ⟨n, hn⟩ : ∃ n, items.length = n := ⟨_, rfl⟩
  obtain ⟨B, dap, rfl⟩ : ∃ B dap, v = .slice B n dap := by
    rcases HO.out.1.2 with ⟨hv, h0⟩ | ⟨rb, dap, cur, hv, _⟩
    · exact ⟨_, _, by rw [← hn, h0]; exact hv⟩
    · exact ⟨_, _, by rw [← hn]; exact hv⟩
  have hlen' : n ≤ 1000000 := by omega
  simp only [opV]
  have HN := Lib.hid hn
  by_cases h0 : 0 < n
  case' neg =>
    have hd0 : decide ((0 : Int) < (n : Int)) = false := by simp; omega
    clear hn
    go_enter Tryz.func119, Tryz.ntmps119
    go_wp2_with fail
    go_quiet (fail)
    clear hd0
  case' pos =>
    have hd0 : decide ((0 : Int) < (n : Int)) = true := by simp; omega
    obtain ⟨rb, rfl⟩ : ∃ rb, B = some ⟨rb, 0, none⟩ := by
      rcases HO.out.1.2 with ⟨hv, h0⟩ | ⟨rb, dap, cur, hv, _⟩
      · omega
      · injection hv with hv; exact ⟨_, hv⟩
    have hix : n - 1 < items.length := by omega
    obtain ⟨x0, x1, x2, x3, hrl⟩ := HO.out.at_ hn.symm (n - 1) hix
    have hno := HNO.out (by omega)
    have hit := (HO.out.2 _ (List.getElem_mem hix)).1
    have hidx : items[items.length - 1]'(by omega) = items[n - 1] := by congr 1; omega
    rw [hidx] at hno
    generalize hlast : items[n - 1] = last at *
    clear hidx hn
    have HLAST := Lib.hid hlast; clear hlast
    obtain ⟨A9, cap9, h9, _⟩ := hit.open_
    rw [h9] at x3 hit
    have HIT := Lib.hid hit; clear hit
    clear h9
    obtain ⟨e2, e3, e4, e1⟩ := idx_facts n h0 hlen'
    by_cases hk : last.1.kind = o.kind
    case' pos =>
      have hk' : (last.1.kind == o.kind) = true := by simpa using hk
      have hsm : sameAL last.1.attrs o.attrs = false := by
        simp only [joins, hk, decide_true, Bool.true_and] at hno; exact hno
      clear hk hno
      go_enter Tryz.func119, Tryz.ntmps119
      go_wp2_with fail
      go_quiet ((go_at_call 117; exact Calls.quiet_of (attrsSame_any _ _ last.1.attrs o.attrs _ F _ (HIT.out.pure (below_drewN ((Below.refl _ w).alloc (Nat.le_refl _) _) _)) (HAA.out.pure (below_drewN ((Below.refl _ w).alloc (Nat.le_refl _) _) _)))))
      simp only [hsm]
      clear e1 e2 e3 e4 x0 x1 x2 x3 hk' hsm hd0
      generalize hBB : (some (⟨rb, 0, none⟩ : Addr)) = B at *
      clear hBB
    case' neg =>
      have hk' : (last.1.kind == o.kind) = false := by simpa using hk
      clear hk hno
      go_enter Tryz.func119, Tryz.ntmps119
      go_wp2_with fail
      go_quiet (fail)
      clear e1 e2 e3 e4 x0 x1 x2 x3 hk' hd0
      generalize hBB : (some (⟨rb, 0, none⟩ : Addr)) = B at *
      clear hBB
  all_goals
    have hB : Below w.heap.size w ((w.alloc (.cells #[.int .i64 o.kind, .int .i64 o.n, .string o.text, .slice A o.attrs.length cap] 48)).drewN nq) := below_drewN ((Below.refl _ w).alloc (Nat.le_refl _) _) nq
    have hbx : ((w.alloc (.cells #[.int .i64 o.kind, .int .i64 o.n, .string o.text, .slice A o.attrs.length cap] 48)).drewN nq).heap[w.heap.size]? = some (.cells #[.int .i64 o.kind, .int .i64 o.n, .string o.text, .slice A o.attrs.length cap] 48 (0, 0)) := heap_alloc_new w _
    have hsz : ((w.alloc (.cells #[.int .i64 o.kind, .int .i64 o.n, .string o.text, .slice A o.attrs.length cap] 48)).drewN nq).heap.size = w.heap.size + 1 := by simp [World.drewN]
    go_wp2_with fail
    refine (cloneA_any _ o.attrs F _ (HAA.out.pure hB)).mono ?_
    rintro e w1 ⟨v', rfl, hb1, hown1⟩
    have hbx1 := (hb1.block _ (heap_lt hbx)).trans hbx
    have hbw1 := pure_trans hB hb1
    have hg1 := (hbw1.block _ hgl).trans HG.out
    have hlt1 := heap_lt hbx1
    rw [hsz] at hown1
    clear hsz hbx hB hb1
    obtain ⟨A1, cap1, rfl⟩ : ∃ A1 cap1, v' = .slice A1 o.attrs.length cap1 := by
      rcases hown1.2 with ⟨hv, h0⟩ | ⟨rb, dap, cur, hv, _⟩
      · exact ⟨_, _, by rw [h0]; exact hv⟩
      · exact ⟨_, _, hv⟩
    obtain ⟨d0, d1, d2, d3⟩ := box4 hbx1
    have f3 := froz_heap hbx1 3
    -- the world behind the store into the box, under a name
    obtain ⟨W2, hW2⟩ : ∃ W2, w1.setCell ⟨w.heap.size, 3, none⟩ (.slice A1 o.attrs.length cap1) = W2 := ⟨_, rfl⟩
    have hbx2 : W2.heap[w.heap.size]? = some (.cells #[.int .i64 o.kind, .int .i64 o.n, .string o.text, .slice A1 o.attrs.length cap1] 48 (0, 0)) := by
      rw [← hW2]; simp [World.setCell, Array.getElem?_modify, hbx1]
    have hP2 : Below w.heap.size w W2 := by rw [← hW2]; exact hbw1.setCell (p := ⟨w.heap.size, 3, none⟩) (Nat.le_refl _) _
    have hown2 : W2.ownsRow (w.heap.size + 1) 89 2 (.slice A1 o.attrs.length cap1) o.attrs.length (flat cellsA o.attrs) := by
      rw [← hW2]; exact ownsRow_setCell_below hown1 (a := ⟨w.heap.size, 3, none⟩) (by simp) _
    have HW2 := Lib.hid hW2
    clear hown1
    have HOWN2 := Lib.hid hown2; clear hown2
    go_wp2_with fail
    clear hW2
    have hg2 := (hP2.block _ hgl).trans HG.out
    obtain ⟨g0, g1⟩ := box2 hg2
    obtain ⟨y0, y1, y2, y3⟩ := box4 hbx2
    have hl2 := heap_lt hbx2
    have hgl2 := heap_lt hg2
    clear d0 d1 d2 d3 f3
    have fg := froz_heap hg2 0
    have fzA : ∀ o1, (W2.alloc o1).drew.frozen? ⟨g, 0, none⟩ = false := fun o1 => froz_heap ((Below.heap_alloc W2 o1 g hgl2).trans hg2) 0
    have hoo : W2.ownsRow lo 48 4 (.slice B n dap) items.length (flat cellsP items) := own_below HO.out.1 hP2
    have hownr : W2.ownsRow lo 48 4 (.slice B n dap) n (flat cellsP items) := by rw [HN.out] at hoo; exact hoo
    have hne : (Value.slice B n dap).ownBlock ≠ some g := own_ne HO.out.1 HG.out (by decide)
    clear hoo hg1 hbw1 hlt1 hbx1 c0 c1
    go_region_law
      ((refine step_append_lies _ (by rfl) _ _ _ (by rfl) lo 48 i0 _ 4 56 Tryz.underlying22 hi hz0 hz1 hz2 rfl (by omega) (.slice B n dap) n (flat cellsP items) (by rfl) ((hownr.alloc _).drew)
            ⟨W2.heap.size, 0, none⟩ 1 1 [.int .i64 o.kind, .int .i64 o.n, .string o.text, .slice A1 o.attrs.length cap1] (by rfl) (by rfl) (World.news_of_block (cs := #[.int .i64 o.kind, .int .i64 o.n, .string o.text, .slice A1 o.attrs.length cap1]) (t := 48) (fr := (0, 0)) (heap_alloc_new W2 _)) (by simp [Value.oneCell'])
            (by omega) (by unfold maxLen; omega) (by omega) (by simp; omega) (W2.heap.size + 1) (by simp) ?_; intro gg dap2 w3 hown3 hgrow hat hlt; have hg3 := (hgrow.block g (by simp; omega) (fun e => hne e.symm)).trans ((Below.heap_alloc W2 _ g hgl2).trans hg2); have q0 := (box2 hg3).1; have q1 := froz_heap hg3 0))
    all_goals
      go_end0
      exact push_done HG.out hlo HO.out HN.out ht hP2 (by omega) HOWN2.out HAA.out.sizes hm hown3 hgrow hat
end Go.Proofs.YtdpmjlkmjmookaaGreatDoor
