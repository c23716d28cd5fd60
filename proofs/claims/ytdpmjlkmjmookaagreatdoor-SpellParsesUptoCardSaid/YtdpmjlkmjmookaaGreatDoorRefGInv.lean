/-
  The references' normal form (blotterref03): groups and keeps in memory, step by step.
-/
import Derived.Test.YtdpmjlkmjmookaaGreatDoorRefGrp
namespace Go.Proofs.YtdpmjlkmjmookaaGreatDoor
open Go.RowKit Go.PlainAid

theorem infoG : (Tryz.prog.info? 104).map (fun i => (i.zero, i.size, i.bytes)) = some (some (.agg #[.slice none 0 0, .int .i64 0]), 2, 32) := by kernel_rfl
structure GIt where
  v : Value
  gone : Int
  items : List Item
def cellsG (x : GIt) : List Value := [x.v, .int .i64 x.gone]
def rgOf (x : GIt) : RG := ⟨x.items.map Prod.fst, x.gone⟩
theorem cellsG_len (l : List GIt) : ∀ x ∈ l, (cellsG x).length = 2 := fun _ _ => rfl
/-- the groups' row, each group's row, the keeps' row: each in blocks of its own -/
structure GInv (w : World) (lo : Nat) (gv kv : Value) (gs : List GIt) (ks : List Item) : Prop where
  own : w.ownsRow lo 104 2 gv gs.length (flat cellsG gs)
  grp : ∀ x ∈ gs, OwnI w lo x.v x.items
  keep : OwnI w lo kv ks
  dis : ∀ (i j : Nat) (x y : GIt), gs[i]? = some x → gs[j]? = some y → i ≠ j → ∀ k, x.v.ownBlock = some k → y.v.ownBlock ≠ some k
  disk : ∀ x ∈ gs, ∀ k, x.v.ownBlock = some k → kv.ownBlock ≠ some k
  nil : ∀ x ∈ gs, x.items = [] → x.v = .slice none 0 0
theorem own_agree {w w' : World} {base : Nat} {e : TypeId} {size n : Nat} {v : Value} {xs : List Value} (h : w.ownsRow base e size v n xs) (hr : ∀ k, v.ownBlock = some k → w'.heap[k]? = w.heap[k]?) : w'.ownsRow base e size v n xs := by
  refine ⟨h.1, ?_⟩
  rcases h.2 with hn | ⟨g', cap, cur, rfl, hb, hgg, rest⟩
  · exact .inl hn
  · exact .inr ⟨g', cap, cur, rfl, hb, by rw [hr g' rfl]; exact hgg, rest⟩
theorem OwnI.agree {w w' : World} {lo : Nat} {v : Value} {items : List Item} (h : OwnI w lo v items) (hr : ∀ k, v.ownBlock = some k → w'.heap[k]? = w.heap[k]?) (ha : ∀ k, lo ≤ k → TyA w k → w'.heap[k]? = w.heap[k]?) : OwnI w' lo v items :=
  ⟨own_agree h.1 hr, fun p hp => (h.2 p hp).agree ha⟩
theorem tyA_lt {w : World} {k : Nat} (h : TyA w k) : k < w.heap.size := by obtain ⟨c, fz, hc⟩ := h; exact heap_lt hc
theorem OwnI.pure {w w' : World} {lo : Nat} {v : Value} {items : List Item} (h : OwnI w lo v items) (hb : Below w.heap.size w w') : OwnI w' lo v items :=
  h.agree (fun k hk => hb.block k (h.1.lt k hk).2) (fun k _ ht => hb.block k (tyA_lt ht))
theorem GInv.pure {w w' : World} {lo : Nat} {gv kv : Value} {gs : List GIt} {ks : List Item} (h : GInv w lo gv kv gs ks) (hb : Below w.heap.size w w') : GInv w' lo gv kv gs ks :=
  ⟨own_below h.own hb, fun x hx => (h.grp x hx).pure hb, h.keep.pure hb, h.dis, h.disk, h.nil⟩
theorem tyG_nt {w : World} {lo : Nat} {gv : Value} {n : Nat} {xs : List Value} (h : w.ownsRow lo 104 2 gv n xs) : ∀ k, gv.ownBlock = some k → ¬ TyA w k := by
  intro k hk
  obtain ⟨c, fz, hc⟩ := own_kind h k hk
  exact grp_nt hc
theorem own_two {w : World} {base b2 : Nat} {e e2 : TypeId} {s s2 n n2 : Nat} {v v2 : Value} {xs ys : List Value} (h : w.ownsRow base e s v n xs) (h2 : w.ownsRow b2 e2 s2 v2 n2 ys) (hne : e ≠ e2) : ∀ k, v.ownBlock = some k → v2.ownBlock ≠ some k := by
  intro k hk hk2
  obtain ⟨c, fz, hc⟩ := own_kind h k hk
  obtain ⟨c2, fz2, hc2⟩ := own_kind h2 k hk2
  rw [hc] at hc2; injection hc2 with hc2; injection hc2 with _ q _; exact hne q
/-- what a write to the block gb and to the row rb leaves of another row of operations -/
theorem OwnI.put {w w' : World} {lo gb : Nat} {rb : Option Nat} {v : Value} {items : List Item} (h : OwnI w lo v items) (hp : Put gb rb w w') (hg : ¬ TyA w gb) (hr : ∀ k, rb = some k → ¬ TyA w k) (h1 : ∀ k, v.ownBlock = some k → k ≠ gb) (h2 : ∀ k, v.ownBlock = some k → rb ≠ some k) : OwnI w' lo v items :=
  ⟨own_agree h.1 (fun k hk => hp.blk (h.1.lt k hk).2 (h1 k hk) (fun e => h2 k hk e.symm)), fun p hp' => (h.2 p hp').put hp hg hr⟩

theorem flatG_set (init : List GIt) (x : GIt) (u : Value) (its : List Item) : (flat cellsG (init ++ [x])).set (init.length * 2) u = flat cellsG (init ++ [⟨u, x.gone, its⟩]) := by
  rw [flat_append, flat_append, flat_one, flat_one]
  have hl : (flat cellsG init).length = init.length * 2 := flat_length _ _ _ (cellsG_len _)
  rw [List.set_append_right _ _ (by omega), hl, Nat.sub_self]; rfl
theorem flatG_set1 (init : List GIt) (x : GIt) (g : Int) : (flat cellsG (init ++ [x])).set (init.length * 2 + 1) (.int .i64 g) = flat cellsG (init ++ [⟨x.v, g, x.items⟩]) := by
  rw [flat_append, flat_append, flat_one, flat_one]
  have hl : (flat cellsG init).length = init.length * 2 := flat_length _ _ _ (cellsG_len _)
  rw [List.set_append_right _ _ (by omega), hl, show init.length * 2 + 1 - init.length * 2 = 1 by omega]; rfl
/-- the groups' row, its last group: its block, its two cells -/
theorem GInv.head {w : World} {lo : Nat} {gv kv : Value} {init : List GIt} {x : GIt} {ks : List Item} (h : GInv w lo gv kv (init ++ [x]) ks) : ∃ gb cap cur, gv = .slice (some ⟨gb, 0, none⟩) (init.length + 1) cap ∧ lo ≤ gb ∧ w.heap[gb]? = some (.cells cur 104 (0, 0)) ∧ cur[init.length * 2]? = some x.v ∧ cur[init.length * 2 + 1]? = some (.int .i64 x.gone) := by
  have hl : (init ++ [x]).length = init.length + 1 := by simp
  have ho := h.own
  rw [hl] at ho
  have ho' := ho
  rcases ho.2 with ⟨_, h0⟩ | ⟨gb, cap, cur, hv, hb, hg, hnc, hcm, hcs, ht⟩
  · omega
  · subst hv
    have hf : (flat cellsG init).length = init.length * 2 := flat_length _ _ _ (cellsG_len _)
    have c0 := ho'.cellAt (init.length * 2) (by omega)
    have c1 := ho'.cellAt (init.length * 2 + 1) (by omega)
    rw [cell_heap hg, flat_append, flat_one, List.getElem?_append_right (by omega), hf] at c0 c1
    rw [Nat.sub_self] at c0
    rw [show init.length * 2 + 1 - init.length * 2 = 1 by omega] at c1
    exact ⟨gb, cap, cur, rfl, hb, hg, c0, c1⟩
theorem mem_init {α : Type} {init : List α} {x y : α} (h : y ∈ init) : ∃ i, i < init.length ∧ (init ++ [x])[i]? = some y ∧ init[i]? = some y := by
  obtain ⟨i, hi, rfl⟩ := List.getElem_of_mem h
  exact ⟨i, hi, by rw [List.getElem?_append_left hi, List.getElem?_eq_getElem hi], List.getElem?_eq_getElem hi⟩
theorem last_at {α : Type} (init : List α) (x : α) : (init ++ [x])[init.length]? = some x := by simp
theorem dis_swap {init : List GIt} {x x' : GIt} (hd : ∀ (i j : Nat) (a b : GIt), (init ++ [x])[i]? = some a → (init ++ [x])[j]? = some b → i ≠ j → ∀ k, a.v.ownBlock = some k → b.v.ownBlock ≠ some k)
    (hx : ∀ y ∈ init, ∀ k, x'.v.ownBlock = some k → y.v.ownBlock ≠ some k) : ∀ (i j : Nat) (a b : GIt), (init ++ [x'])[i]? = some a → (init ++ [x'])[j]? = some b → i ≠ j → ∀ k, a.v.ownBlock = some k → b.v.ownBlock ≠ some k := by
  intro i j a b ha hb hij k hk hk2
  have hi : i < init.length + 1 := by have := (List.getElem?_eq_some_iff.1 ha).1; simpa using this
  have hj : j < init.length + 1 := by have := (List.getElem?_eq_some_iff.1 hb).1; simpa using this
  by_cases h1 : i < init.length
  · rw [List.getElem?_append_left h1] at ha
    by_cases h2 : j < init.length
    · rw [List.getElem?_append_left h2] at hb
      exact hd i j a b (by rw [List.getElem?_append_left h1]; exact ha) (by rw [List.getElem?_append_left h2]; exact hb) hij k hk hk2
    · obtain rfl : j = init.length := by omega
      rw [last_at] at hb; injection hb with hb; subst hb
      exact hx a (List.mem_of_getElem? ha) k hk2 hk
  · obtain rfl : i = init.length := by omega
    rw [last_at] at ha; injection ha with ha; subst ha
    rw [List.getElem?_append_left (by omega)] at hb
    exact hx b (List.mem_of_getElem? hb) k hk hk2

/-- L2: insert into the last group -/
theorem GInv.insert {W W' : World} {lo gb cap : Nat} {kv : Value} {init : List GIt} {x : GIt} {ks : List Item} {cur : Array Value} {ops' : List OpM} {e : Ending} (h : GInv W lo (.slice (some ⟨gb, 0, none⟩) (init.length + 1) cap) kv (init ++ [x]) ks)
    (hg : W.heap[gb]? = some (.cells cur 104 (0, 0))) (hp : GPost lo gb (init.length * 2) cur x.v ops' W e W') (hne : ops' ≠ []) (hlo : lo ≤ W.heap.size) :
    ∃ x', GInv W' lo (.slice (some ⟨gb, 0, none⟩) (init.length + 1) cap) kv (init ++ [x']) ks ∧ rgOf x' = ⟨ops', x.gone⟩ ∧ Below lo W W' := by
  obtain ⟨rfl, v', hg', ⟨items', hit, hO'⟩, hput, hfr⟩ := hp
  have hx : OwnI W lo x.v x.items := h.grp x (by simp)
  have hgnt := grp_nt hg
  have hrnt := ops_nt hx.1
  have hlx : ∀ k, x.v.ownBlock = some k → lo ≤ k ∧ k < W.heap.size := fun k hk => hx.1.lt k hk
  have hl : (init ++ [x]).length = init.length + 1 := by simp
  have hown := h.own
  rw [hl] at hown
  have hgb : lo ≤ gb := (hown.lt gb rfl).1
  refine ⟨⟨v', x.gone, items'⟩, ⟨?_, ?_, ?_, ?_, ?_, ?_⟩, by unfold rgOf; rw [hit], hput.below (fun k hk => by
    rcases hk with hk | hk
    · omega
    · exact (hlx k hk.symm).1) hlo⟩
  · have hs := (hown.stored (init.length * 2) v').1
    rw [flatG_set init x v' items'] at hs
    rw [show (init ++ [(⟨v', x.gone, items'⟩ : GIt)]).length = init.length + 1 by simp]
    refine own_agree hs fun k hk => ?_
    have : k = gb := by simp [Value.ownBlock] at hk; omega
    subst this
    rw [hg', set_at hg]
  · intro y hy
    rcases List.mem_append.1 hy with hy | hy
    · have hyI := h.grp y (by simp [hy])
      obtain ⟨i, hi, hyi, _⟩ := mem_init (x := x) hy
      refine hyI.put hput hgnt hrnt (fun k hk e => ?_) (fun k hk e => ?_)
      · subst e
        exact own_two hyI.1 hown (by decide) k hk rfl
      · exact h.dis i init.length y x hyi (last_at init x) (by omega) k hk e
    · simp at hy; subst hy; exact hO'
  · refine h.keep.put hput hgnt hrnt (fun k hk e => ?_) (fun k hk e => ?_)
    · subst e
      exact own_two h.keep.1 hown (by decide) k hk rfl
    · exact h.disk x (by simp) k e hk
  · refine dis_swap h.dis fun y hy k hk hk2 => ?_
    obtain ⟨i, hi, hyi, _⟩ := mem_init (x := x) hy
    rcases hfr k hk with q | q
    · exact h.dis i init.length y x hyi (last_at init x) (by omega) k hk2 q
    · have := ((h.grp y (by simp [hy])).1.lt k hk2).2; omega
  · intro y hy k hk hk2
    rcases List.mem_append.1 hy with hy | hy
    · exact h.disk y (by simp [hy]) k hk hk2
    · simp at hy; subst hy
      rcases hfr k hk with q | q
      · exact h.disk x (by simp) k q hk2
      · have := (h.keep.1.lt k hk2).2; omega
  · intro y hy hn
    rcases List.mem_append.1 hy with hy | hy
    · exact h.nil y (by simp [hy]) hn
    · simp at hy; subst hy
      simp only at hn
      rw [hn] at hit
      exact absurd hit.symm hne
/-- L3: the last group's count -/
theorem GInv.count {W : World} {lo gb cap : Nat} {kv : Value} {init : List GIt} {x : GIt} {ks : List Item} (h : GInv W lo (.slice (some ⟨gb, 0, none⟩) (init.length + 1) cap) kv (init ++ [x]) ks) (g : Int) :
    GInv (W.setCell ⟨gb, init.length * 2 + 1, none⟩ (.int .i64 g)) lo (.slice (some ⟨gb, 0, none⟩) (init.length + 1) cap) kv (init ++ [⟨x.v, g, x.items⟩]) ks := by
  have hl : (init ++ [x]).length = init.length + 1 := by simp
  have hown := h.own
  rw [hl] at hown
  obtain ⟨c, fz, hgk⟩ := own_kind hown gb rfl
  have hgnt := grp_nt hgk
  have hput : Put gb none W (W.setCell ⟨gb, init.length * 2 + 1, none⟩ (.int .i64 g)) := (Kp.refl _ W).setCell (p := ⟨gb, _, none⟩) (.inl (.inl rfl)) _
  have hothers : ∀ (v : Value) (items : List Item), OwnI W lo v items → OwnI (W.setCell ⟨gb, init.length * 2 + 1, none⟩ (.int .i64 g)) lo v items := fun v items hv =>
    hv.put hput hgnt (fun k hk => by cases hk) (fun k hk e => by subst e; exact own_two hv.1 hown (by decide) k hk rfl) (fun k _ e => by cases e)
  refine ⟨?_, ?_, hothers _ _ h.keep, ?_, ?_, ?_⟩
  · have hs := (hown.stored (init.length * 2 + 1) (.int .i64 g)).1
    rw [flatG_set1] at hs
    rw [show (init ++ [(⟨x.v, g, x.items⟩ : GIt)]).length = init.length + 1 by simp]
    exact hs
  · intro y hy
    rcases List.mem_append.1 hy with hy | hy
    · exact hothers _ _ (h.grp y (by simp [hy]))
    · simp at hy; subst hy; exact hothers _ _ (h.grp x (by simp))
  · refine dis_swap h.dis fun y hy k hk hk2 => ?_
    obtain ⟨i, hi, hyi, _⟩ := mem_init (x := x) hy
    exact h.dis i init.length y x hyi (last_at init x) (by omega) k hk2 hk
  · intro y hy k hk hk2
    rcases List.mem_append.1 hy with hy | hy
    · exact h.disk y (by simp [hy]) k hk hk2
    · simp at hy; subst hy; exact h.disk x (by simp) k hk hk2
  · intro y hy hn
    rcases List.mem_append.1 hy with hy | hy
    · exact h.nil y (by simp [hy]) hn
    · simp at hy; subst hy; exact h.nil x (by simp) hn
theorem GInv.drew {w : World} {lo : Nat} {gv kv : Value} {gs : List GIt} {ks : List Item} (h : GInv w lo gv kv gs ks) : GInv w.drew lo gv kv gs ks := h.pure ⟨rfl, rfl, rfl, Nat.le_refl _, fun _ _ => rfl⟩
theorem flatP_set1 (init : List Item) (p : Item) (n' : Int) : (flat cellsP (init ++ [p])).set (init.length * 4 + 1) (.int .i64 n') = flat cellsP (init ++ [(⟨p.1.kind, n', p.1.text, p.1.attrs⟩, p.2)]) := by
  rw [flat_append, flat_append, flat_one, flat_one]
  have hl : (flat cellsP init).length = init.length * 4 := flat_length _ _ _ (cellsP_len _)
  rw [List.set_append_right _ _ (by omega), hl, show init.length * 4 + 1 - init.length * 4 = 1 by omega]; rfl
/-- L4: the last keep's count -/
theorem GInv.keepN {W : World} {lo kb cap : Nat} {gv : Value} {gs : List GIt} {ki : List Item} {p : Item} (h : GInv W lo gv (.slice (some ⟨kb, 0, none⟩) (ki.length + 1) cap) gs (ki ++ [p])) (n' : Int) :
    GInv (W.setCell ⟨kb, ki.length * 4 + 1, none⟩ (.int .i64 n')) lo gv (.slice (some ⟨kb, 0, none⟩) (ki.length + 1) cap) gs (ki ++ [(⟨p.1.kind, n', p.1.text, p.1.attrs⟩, p.2)]) := by
  have hk := h.keep
  have hl : (ki ++ [p]).length = ki.length + 1 := by simp
  have hk1 := hk.1
  rw [hl] at hk1
  have hknt := ops_nt hk1 kb rfl
  have hput : Put kb none W (W.setCell ⟨kb, ki.length * 4 + 1, none⟩ (.int .i64 n')) := (Kp.refl _ W).setCell (p := ⟨kb, _, none⟩) (.inl (.inl rfl)) _
  refine ⟨own_agree h.own (fun k hk' => Below.heap_setCell _ _ _ _ (fun e => ?_)), ?_, ⟨?_, ?_⟩, h.dis, h.disk, h.nil⟩
  · subst e
    exact own_two h.own hk1 (by decide) _ hk' rfl
  · intro y hy
    exact (h.grp y hy).put hput hknt (fun k hk => by cases hk) (fun k hk' e => by subst e; exact h.disk y hy _ hk' rfl) (fun k _ e => by cases e)
  · have hs := (hk1.stored (ki.length * 4 + 1) (.int .i64 n')).1
    rw [flatP_set1] at hs
    rw [show (ki ++ [((⟨p.1.kind, n', p.1.text, p.1.attrs⟩ : OpM), p.2)]).length = ki.length + 1 by simp]
    exact hs
  · intro q hq
    rcases List.mem_append.1 hq with hq | hq
    · exact (hk.2 q (by simp [hq])).put hput hknt (fun k hk => by cases hk)
    · simp at hq; subst hq
      exact (hk.2 p (by simp)).put hput hknt (fun k hk => by cases hk)
/-- L5: one more keep -/
theorem GInv.keepPush {X w3 : World} {lo : Nat} {gv kv kv' : Value} {gs : List GIt} {ks : List Item} {p : Item} (h : GInv X lo gv kv gs ks) (hgrow : X.grownBy w3 kv.ownBlock) (hown : w3.ownsRow lo 48 4 kv' (ks ++ [p]).length (flat cellsP (ks ++ [p])))
    (hp : OwnItem X lo p) (hfr : FreshOr kv kv' X.heap.size) : GInv w3 lo gv kv' gs (ks ++ [p]) := by
  have hknt := ops_nt h.keep.1
  have hblk : ∀ k, k < X.heap.size → kv.ownBlock ≠ some k → w3.heap[k]? = X.heap[k]? := fun k hk hne => hgrow.block k hk (fun e => hne e.symm)
  have hitem : ∀ q, OwnItem X lo q → OwnItem w3 lo q := fun q hq => hq.agree fun k _ ht => hblk k (tyA_lt ht) (fun e => hknt k e ht)
  refine ⟨own_agree h.own (fun k hk => hblk k (h.own.lt k hk).2 (own_two h.own h.keep.1 (by decide) k hk)), ?_, ⟨hown, ?_⟩, h.dis, ?_, h.nil⟩
  · intro y hy
    have hyI := h.grp y hy
    exact ⟨own_agree hyI.1 (fun k hk => hblk k (hyI.1.lt k hk).2 (h.disk y hy k hk)), fun q hq => hitem q (hyI.2 q hq)⟩
  · intro q hq
    rcases List.mem_append.1 hq with hq | hq
    · exact hitem q (h.keep.2 q hq)
    · simp at hq; subst hq; exact hitem q hp
  · intro y hy k hk hk2
    rcases hfr k hk2 with q | q
    · exact h.disk y hy k hk q
    · have := ((h.grp y hy).1.lt k hk).2; omega
/-- L6: one more group -/
theorem GInv.grpPush {X w3 : World} {lo : Nat} {gv gv' kv : Value} {gs : List GIt} {ks : List Item} (h : GInv X lo gv kv gs ks) (hgrow : X.grownBy w3 gv.ownBlock) (hown : w3.ownsRow lo 104 2 gv' (gs.length + 1) (flat cellsG gs ++ [.slice none 0 0, .int .i64 0])) :
    GInv w3 lo gv' kv (gs ++ [⟨.slice none 0 0, 0, []⟩]) ks := by
  have hgnt := tyG_nt h.own
  have hblk : ∀ k, k < X.heap.size → gv.ownBlock ≠ some k → w3.heap[k]? = X.heap[k]? := fun k hk hne => hgrow.block k hk (fun e => hne e.symm)
  have hothers : ∀ (v : Value) (items : List Item), OwnI X lo v items → OwnI w3 lo v items := fun v items hv =>
    hv.agree (fun k hk => hblk k (hv.1.lt k hk).2 (own_two hv.1 h.own (by decide) k hk)) (fun k _ ht => hblk k (tyA_lt ht) (fun e => hgnt k e ht))
  refine ⟨?_, ?_, hothers _ _ h.keep, ?_, ?_, ?_⟩
  · rw [flat_append, flat_one, show (gs ++ [(⟨.slice none 0 0, 0, []⟩ : GIt)]).length = gs.length + 1 by simp]
    exact hown
  · intro y hy
    rcases List.mem_append.1 hy with hy | hy
    · exact hothers _ _ (h.grp y hy)
    · simp at hy; subst hy
      exact ⟨World.ownsRow_nil _ _ _ _, by simp⟩
  · intro i j a b ha hb hij k hk hk2
    have hi : i < gs.length + 1 := by have := (List.getElem?_eq_some_iff.1 ha).1; simpa using this
    have hj : j < gs.length + 1 := by have := (List.getElem?_eq_some_iff.1 hb).1; simpa using this
    by_cases h1 : i < gs.length
    · rw [List.getElem?_append_left h1] at ha
      by_cases h2 : j < gs.length
      · rw [List.getElem?_append_left h2] at hb
        exact h.dis i j a b ha hb hij k hk hk2
      · obtain rfl : j = gs.length := by omega
        rw [last_at] at hb; injection hb with hb; subst hb
        simp [Value.ownBlock] at hk2
    · obtain rfl : i = gs.length := by omega
      rw [last_at] at ha; injection ha with ha; subst ha
      simp [Value.ownBlock] at hk
  · intro y hy k hk hk2
    rcases List.mem_append.1 hy with hy | hy
    · exact h.disk y hy k hk hk2
    · simp at hy; subst hy; simp [Value.ownBlock] at hk
  · intro y hy hn
    rcases List.mem_append.1 hy with hy | hy
    · exact h.nil y hy hn
    · simp at hy; subst hy; rfl
end Go.Proofs.YtdpmjlkmjmookaaGreatDoor
