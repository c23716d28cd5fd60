/-
  The references' normal form (blotterref03): a group's insert, walked.
-/
import Derived.Test.YtdpmjlkmjmookaaGreatDoorRefRight
import Derived.Test.YtdpmjlkmjmookaaGreatDoorRefNormM
import Derived.Deep.RegionHeld3
namespace Go.Proofs.YtdpmjlkmjmookaaGreatDoor
open Go.RowKit Go.PlainAid

/-! ### A group: its inserts, how many runes go -/
theorem grp_nt {w : World} {g : Nat} {cs : Array Value} {fz : Nat × Nat} (hg : w.heap[g]? = some (.cells cs 104 fz)) : ¬ TyA w g := by
  rintro ⟨c, fz', hc⟩; rw [hg] at hc; injection hc with hc; injection hc with _ e _; cases e
theorem own_form {w : World} {base : Nat} {e : TypeId} {size n : Nat} {v : Value} {xs : List Value} (h : w.ownsRow base e size v n xs) : ∃ A cap, v = .slice A n cap := by
  rcases h.2 with ⟨hv, h0⟩ | ⟨g, cap, cur, hv, _⟩
  · exact ⟨none, 0, by rw [hv, h0]⟩
  · exact ⟨_, cap, hv⟩
theorem own_form0 {w : World} {base : Nat} {e : TypeId} {size n : Nat} {v : Value} {xs : List Value} (h : w.ownsRow base e size v n xs) (hn : 0 < n) : ∃ rb cap, v = .slice (some ⟨rb, 0, none⟩) n cap ∧ base ≤ rb := by
  rcases h.2 with ⟨hv, h0⟩ | ⟨g, cap, cur, hv, hb, _⟩
  · omega
  · exact ⟨_, cap, hv, hb⟩
theorem set_at {w : World} {g j : Nat} {cs : Array Value} {t : TypeId} {fz : Nat × Nat} (h : w.heap[g]? = some (.cells cs t fz)) (u : Value) : (w.setCell ⟨g, j, none⟩ u).heap[g]? = some (.cells (cs.setIfInBounds j u) t fz) := by
  simp [World.setCell, Array.getElem?_modify, h]
theorem set_same {cs : Array Value} {j : Nat} {v : Value} (h : cs[j]? = some v) : cs.setIfInBounds j v = cs := by
  apply Array.ext_getElem?
  intro i
  rw [Array.getElem?_setIfInBounds]
  split
  · rename_i e; subst e
    have := (Array.getElem?_eq_some_iff.1 h).1
    rw [if_pos this, h]
  · rfl
/-- what insert does to the group whose cells lie at offset off of block gb -/
def GPost (lo gb off : Nat) (cur : Array Value) (v : Value) (ops : List OpM) (w : World) (e : Ending) (w' : World) : Prop :=
  e = .returned (.tuple #[]) ∧ ∃ v', w'.heap[gb]? = some (.cells (cur.setIfInBounds off v') 104 (0, 0)) ∧ OwnO w' lo v' ops ∧ Put gb v.ownBlock w w' ∧ FreshOr v v' w.heap.size
theorem gpush_done {lo gb off n gg dap2 k0 : Nat} {cur : Array Value} {v va1 : Value} {o : OpM} {items : List Item} {w X w3 : World} (hg : w.heap[gb]? = some (.cells cur 104 (0, 0))) (hO : OwnI w lo v items) (hn : items.length = n)
    (ht : o.text.size ≤ 1099511627776) (hX : Below w.heap.size w X) (hk0 : lo ≤ k0) (hown2 : X.ownsRow k0 89 2 va1 o.attrs.length (flat cellsA o.attrs)) (hs : ∀ a ∈ o.attrs, a.k.size ≤ 1099511627776 ∧ a.v.size ≤ 1099511627776) (hna : o.attrs.length ≤ 1099511627776)
    (hown3 : w3.ownsRow lo 48 4 (.slice (some ⟨gg, 0, none⟩) (n + 1) dap2) (n + 1) (flat cellsP items ++ [.int .i64 o.kind, .int .i64 o.n, .string o.text, va1]))
    (hgrow : X.grownBy w3 v.ownBlock) (hat : v.ownBlock = some gg ∨ w.heap.size ≤ gg) :
    GPost lo gb off cur v (items.map Prod.fst ++ [o]) w (.returned (.tuple #[])) (w3.setCell ⟨gb, off, none⟩ (.slice (some ⟨gg, 0, none⟩) (n + 1) dap2)) := by
  have hgl := heap_lt hg
  have hg2 := (hX.block gb hgl).trans hg
  have hne : v.ownBlock ≠ some gb := own_ne hO.1 hg (by decide)
  have hO2 := own_below hO.1 hX
  have hg3 : w3.heap[gb]? = some (.cells cur 104 (0, 0)) := (hgrow.block gb (heap_lt hg2) (fun e => hne e.symm)).trans hg2
  have hp24 : Put gb v.ownBlock X (w3.setCell ⟨gb, off, none⟩ (.slice (some ⟨gg, 0, none⟩) (n + 1) dap2)) :=
    ((Kp.refl _ X).grown hgrow (fun k hk => .inl (.inr hk.symm))).setCell (p := ⟨gb, off, none⟩) (.inl (.inl rfl)) _
  have hp4 : Put gb v.ownBlock w (w3.setCell ⟨gb, off, none⟩ (.slice (some ⟨gg, 0, none⟩) (n + 1) dap2)) := (Kp.of_pure hX).trans hp24
  have hgg : gg ≠ gb := fun e => own_ne hown3 hg3 (by decide) (by simp [Value.ownBlock, e])
  refine ⟨rfl, _, set_at hg3 _, ⟨items ++ [(o, va1)], by simp, ?_, ?_⟩, hp4, ?_⟩
  · have h1 : w3.ownsRow lo 48 4 (.slice (some ⟨gg, 0, none⟩) (n + 1) dap2) (items ++ [(o, va1)]).length (flat cellsP (items ++ [(o, va1)])) := by
      rw [flat_append, flat_one, List.length_append, hn]; exact hown3
    exact ownsRow_setCell_other h1 (by simp [Value.ownBlock]; exact hgg) _
  · intro p hp
    rcases List.mem_append.1 hp with hp | hp
    · exact (hO.2 p hp).put hp4 (grp_nt hg) (ops_nt hO.1)
    · simp at hp; subst hp
      have hi2 : OwnItem X lo (o, va1) := ⟨own_rdA hown2 hk0 hs hna, ht⟩
      exact hi2.put hp24 (grp_nt hg2) (ops_nt hO2)
  · intro k hk
    simp [Value.ownBlock] at hk
    subst hk
    exact hat
theorem gjoin_done {lo gb off n rb dap : Nat} {cur : Array Value} {o : OpM} {init : List Item} {last : Item} {w W1 : World} (hg : w.heap[gb]? = some (.cells cur 104 (0, 0))) (hc : cur[off]? = some (.slice (some ⟨rb, 0, none⟩) n dap)) (hO : OwnI w lo (.slice (some ⟨rb, 0, none⟩) n dap) (init ++ [last]))
    (hn : init.length + 1 = n) (hB : Below w.heap.size w W1) (hon : o.n = 0) (hts : last.1.text.size + o.text.size ≤ 1099511627776) :
    GPost lo gb off cur (.slice (some ⟨rb, 0, none⟩) n dap) (init.map Prod.fst ++ [joined last.1 o]) w (.returned (.tuple #[]))
      (W1.setCell ⟨rb, (n - 1) * 4 + 2, none⟩ (.string (last.1.text ++ o.text))) := by
  have hgl := heap_lt hg
  have hp1 : Put gb (some rb) w W1 := Kp.of_pure hB
  have hg1 := (hB.block gb hgl).trans hg
  have hO1 := own_below hO.1 hB
  have hlen : (init ++ [last]).length = n := by simpa using hn
  rw [hlen] at hO1
  have hrg : rb ≠ gb := fun e => own_ne hO.1 hg (by decide) (by simp [Value.ownBlock, e])
  obtain ⟨hO3, hG3⟩ := hO1.stored ((n - 1) * 4 + 2) (.string (last.1.text ++ o.text))
  have hp3 : Put gb (some rb) w (W1.setCell ⟨rb, (n - 1) * 4 + 2, none⟩ (.string (last.1.text ++ o.text))) :=
    hp1.setCell (p := ⟨rb, (n - 1) * 4 + 2, none⟩) (.inl (.inr rfl)) _
  have hg3 : (W1.setCell ⟨rb, (n - 1) * 4 + 2, none⟩ (.string (last.1.text ++ o.text))).heap[gb]? = some (.cells cur 104 (0, 0)) := by
    rw [Below.heap_setCell _ _ _ _ (fun e => hrg e.symm)]; exact hg1
  have hnt := grp_nt hg
  have hnr := ops_nt hO.1
  refine ⟨rfl, .slice (some ⟨rb, 0, none⟩) n dap, by rw [set_same hc]; exact hg3, ⟨init ++ [(joined last.1 o, last.2)], by simp, ?_, ?_⟩, hp3, fun k hk => .inl hk⟩
  · have e1 : n - 1 = init.length := by omega
    rw [e1] at hO3 ⊢
    have e3 : (flat cellsP (init ++ [last])).set (init.length * 4 + 2) (.string (last.1.text ++ o.text)) = flat cellsP (init ++ [(joined last.1 o, last.2)]) := by
      rw [flat_append, flat_append, flat_one, flat_one]
      have hl : (flat cellsP init).length = init.length * 4 := flat_length _ _ _ (cellsP_len _)
      rw [List.set_append_right _ _ (by omega), hl, show init.length * 4 + 2 - init.length * 4 = 2 by omega]
      have : last.1.n + o.n = last.1.n := by omega
      simp [cellsP, cellsO, joined, this]
    rw [e3] at hO3
    have e2 : (init ++ [(joined last.1 o, last.2)]).length = n := by simpa using hn
    rw [e2]
    exact hO3
  · intro p hp
    rcases List.mem_append.1 hp with hp | hp
    · exact (hO.2 p (by simp [hp])).put hp3 hnt hnr
    · simp at hp; subst hp
      have h1 := (hO.2 last (by simp)).put hp3 hnt hnr
      exact ⟨h1.1, by show (last.1.text ++ o.text).size ≤ _; rw [ByteArray.size_append]; exact hts⟩
theorem below_drew {B : Nat} {a b : World} (h : Below B a b) : Below B a b.drew := ⟨h.os, h.tape, h.output, h.size, h.block⟩
theorem below_ofdrewN {a b : World} {n : Nat} (h : Below (a.drewN n).heap.size (a.drewN n) b) : Below a.heap.size a b := ⟨h.os, h.tape, h.output, h.size, h.block⟩

set_option maxHeartbeats 4000000 in
set_option maxRecDepth 100000 in
theorem insert_push (lo gb off : Nat) (cur : Array Value) (o : OpM) (va : Value) (F : Nat → Prop) (v : Value) (items : List Item) (w : World) (hg : w.heap[gb]? = some (.cells cur 104 (0, 0))) (hcu : cur[off]? = some v) (hlo : lo ≤ w.heap.size) (hO : OwnI w lo v items)
    (hA : RdA w F va o.attrs) (ht : o.text.size ≤ 1099511627776) (hk : o.kind = 2) (hon : o.n = 0) (hlen : items.length ≤ 1000000) (hno : ∀ h : 0 < items.length, sameAL (items[items.length - 1]'(by omega)).1.attrs o.attrs = false) :
    Calls Tryz.prog 72 #[.pointer (some ⟨gb, off, none⟩), .string o.text, va] w (GPost lo gb off cur v (items.map Prod.fst ++ [o]) w) := by
  obtain ⟨A, cap, rfl, hc, hcm, hm, hcell⟩ := hA.open_
  clear hcell
  obtain ⟨i0, hi, hz0, hz1, hz2⟩ := info_parts infoO
  have HAA := Lib.hid hA; clear hA
  have HO := Lib.hid hO; clear hO
  have HG := Lib.hid hg
  have c0 : w.cell? ⟨gb, off, none⟩ = some v := by rw [cell_heap hg]; exact hcu
  have hgl := heap_lt hg
  have hfz : ∀ W : World, W.heap[gb]? = some (.cells cur 104 (0, 0)) → W.frozen? ⟨gb, off, none⟩ = false := fun W h => froz_heap h off
  have HFZ := Lib.hid hfz; clear hfz
  have HCU := Lib.hid hcu
  clear hg hcu
  have HNO := Lib.hid hno; clear hno
  obtain ⟨n, hn⟩ : ∃ n, items.length = n := ⟨_, rfl⟩
  obtain ⟨B, dap, rfl⟩ := own_form HO.out.1
  have hdp : Value.slice B items.length dap = .slice B n dap := by rw [hn]
  have HO0 := HO.out
  rw [hdp] at c0 HO0 HCU ⊢
  clear HO hdp
  have HO := Lib.hid HO0; clear HO0
  have hlen' : n ≤ 1000000 := by omega
  have HN := Lib.hid hn
  have HKN := Lib.hid (And.intro hk hon); clear hk hon
  by_cases h0 : 0 < n
  case' neg =>
    have hd0 : decide ((0 : Int) ≤ (n : Int) - 1) = false := by simp; omega
    have hd1 : decide ((1 : Int) ≤ (n : Int)) = false := by simp; omega
    clear hn
    go_enter Tryz.func72, Tryz.ntmps72
    go_wp2_with fail
    clear hd0 hd1
  case' pos =>
    have hd0 : decide ((0 : Int) ≤ (n : Int) - 1) = true := by simp; omega
    have hd1 : decide ((1 : Int) ≤ (n : Int)) = true := by simp; omega
    obtain ⟨rb, rfl⟩ : ∃ rb, B = some ⟨rb, 0, none⟩ := by
      obtain ⟨rb, cap2, hv, _⟩ := own_form0 HO.out.1 (by omega)
      injection hv with hv; exact ⟨rb, hv⟩
    have hix : n - 1 < items.length := by omega
    obtain ⟨x0, x1, x2, x3, hrl⟩ := HO.out.at_ hn.symm (n - 1) hix
    have hno := HNO.out (by omega)
    have hit := (HO.out.2 _ (List.getElem_mem hix)).1
    have hidx : items[items.length - 1]'(by omega) = items[n - 1] := by congr 1; omega
    rw [hidx] at hno
    generalize hlast : items[n - 1] = last at *
    clear hidx hn
    have HLAST := Lib.hid hlast; clear hlast
    obtain ⟨A9, cap9, h9, _⟩ := hit.open_
    rw [h9] at x3 hit
    have HIT := Lib.hid hit; clear hit
    clear h9
    obtain ⟨e2, e3, e4, e1⟩ := idx_facts n h0 hlen'
    go_enter Tryz.func72, Tryz.ntmps72
    go_wp2_with fail
    refine (refSameA_any _ _ last.1.attrs o.attrs _ F _ (HIT.out) (HAA.out)).mono ?_
    rintro e w' ⟨rfl, nq, rfl⟩
    rw [hno]
    go_wp2_with fail
    clear e1 e2 e3 e4 x0 x1 x2 x3 hd0 hd1 hno
    generalize hBB : (some (⟨rb, 0, none⟩ : Addr)) = B at *
    clear hBB
  case neg =>
    have HQ : Below w.heap.size w w := Below.refl _ _
    have hownw := HO.out.1
    rw [HN.out] at hownw
    have HOW := Lib.hid hownw; clear hownw
    have HOB : ∀ w1 : World, Below w.heap.size w w1 → w1.cell? ⟨gb, off, none⟩ = some (.slice B n dap) := fun w1 hb => pure_cell hb c0
    have HNE : (Value.slice B n dap).ownBlock ≠ some gb := own_ne HO.out.1 HG.out (by decide)
    have HCE := Lib.hid HOB; clear HOB
    go_region_law
      (first
        | (go_simp; (go_at_call 74); refine (copiedA_any _ o.attrs F _ (by exact HAA.out.agree (fun _ _ _ => rfl))).mono ?_; rintro e w1 ⟨v1, rfl, hb1, hown1⟩; obtain ⟨A1, cap1, rfl⟩ := own_form hown1; have hbw1 : Below w.heap.size w w1 := ⟨hb1.os, hb1.tape, hb1.output, hb1.size, hb1.block⟩; have hcw1 := HCE.out w1 hbw1; have hsz1 := hbw1.size; have hgl1 : gb < w1.heap.size := Nat.lt_of_lt_of_le hgl hsz1; have hgw1 := Lib.hid ((hbw1.block gb hgl).trans HG.out); clear hb1)
        | (refine step_append_lies _ (by rfl) _ _ _ (by rfl) lo 48 i0 _ 4 56 Tryz.underlying22 hi hz0 hz1 hz2 rfl (by omega) (.slice B n dap) n (flat cellsP items) (by rfl) ((own_below HOW.out hbw1).alloc _)
            ⟨w1.heap.size, 0, none⟩ 1 1 [.int .i64 2, .int .i64 0, .string o.text, .slice A1 o.attrs.length cap1] (by rfl) (by rfl) (World.news_of_block (cs := #[.int .i64 2, .int .i64 0, .string o.text, .slice A1 o.attrs.length cap1]) (t := 48) (fr := (0, 0)) (heap_alloc_new w1 _)) (by simp [Value.oneCell'])
            (by omega) (by unfold maxLen; omega) (by omega) (by have := hbw1.size; simp; omega) (w1.heap.size + 1) (by simp) ?_; intro gg dap2 w3 hown3 hgrow hat hlt; have hg3 := (hgrow.block gb (by simp; omega) (fun e => HNE e.symm)).trans ((Below.heap_alloc w1 _ gb (by omega)).trans hgw1.out); have q1 := froz_heap hg3 off; have q0 := (cell_heap hg3 off).trans HCU.out))
    all_goals
      go_end0
      exact gpush_done (k0 := w.heap.size) (X := w1.alloc (.cells #[.int .i64 2, .int .i64 0, .string o.text, .slice A1 o.attrs.length cap1] 48)) HG.out HO.out HN.out ht (by exact hbw1.alloc hsz1 _) hlo (by exact hown1.alloc _) HAA.out.sizes hm (by rw [HKN.out.1, HKN.out.2]; exact hown3) hgrow (by rcases hat with q | q; exact .inl q; exact .inr (by omega))
  case pos =>
    have HQ : Below w.heap.size w (w.drewN nq) := below_drewN (Below.refl _ _) _
    have hownw := HO.out.1
    rw [HN.out] at hownw
    have HOW := Lib.hid hownw; clear hownw
    have HOB : ∀ w1 : World, Below w.heap.size w w1 → w1.cell? ⟨gb, off, none⟩ = some (.slice B n dap) := fun w1 hb => pure_cell hb c0
    have HNE : (Value.slice B n dap).ownBlock ≠ some gb := own_ne HO.out.1 HG.out (by decide)
    have HCE := Lib.hid HOB; clear HOB
    go_region_law
      (first
        | (go_simp; (go_at_call 74); refine (copiedA_any _ o.attrs F _ (by exact HAA.out.agree (fun _ _ _ => rfl))).mono ?_; rintro e w1 ⟨v1, rfl, hb1, hown1⟩; obtain ⟨A1, cap1, rfl⟩ := own_form hown1; have hbw1 : Below w.heap.size w w1 := ⟨hb1.os, hb1.tape, hb1.output, hb1.size, hb1.block⟩; have hcw1 := HCE.out w1 hbw1; have hsz1 := hbw1.size; have hgl1 : gb < w1.heap.size := Nat.lt_of_lt_of_le hgl hsz1; have hgw1 := Lib.hid ((hbw1.block gb hgl).trans HG.out); clear hb1)
        | (refine step_append_lies _ (by rfl) _ _ _ (by rfl) lo 48 i0 _ 4 56 Tryz.underlying22 hi hz0 hz1 hz2 rfl (by omega) (.slice B n dap) n (flat cellsP items) (by rfl) ((own_below HOW.out hbw1).alloc _)
            ⟨w1.heap.size, 0, none⟩ 1 1 [.int .i64 2, .int .i64 0, .string o.text, .slice A1 o.attrs.length cap1] (by rfl) (by rfl) (World.news_of_block (cs := #[.int .i64 2, .int .i64 0, .string o.text, .slice A1 o.attrs.length cap1]) (t := 48) (fr := (0, 0)) (heap_alloc_new w1 _)) (by simp [Value.oneCell'])
            (by omega) (by unfold maxLen; omega) (by omega) (by have := hbw1.size; simp; omega) (w1.heap.size + 1) (by simp) ?_; intro gg dap2 w3 hown3 hgrow hat hlt; have hg3 := (hgrow.block gb (by simp; omega) (fun e => HNE e.symm)).trans ((Below.heap_alloc w1 _ gb (by omega)).trans hgw1.out); have q1 := froz_heap hg3 off; have q0 := (cell_heap hg3 off).trans HCU.out))
    all_goals
      go_end0
      exact gpush_done (k0 := w.heap.size) (X := w1.alloc (.cells #[.int .i64 2, .int .i64 0, .string o.text, .slice A1 o.attrs.length cap1] 48)) HG.out HO.out HN.out ht (by exact hbw1.alloc hsz1 _) hlo (by exact hown1.alloc _) HAA.out.sizes hm (by rw [HKN.out.1, HKN.out.2]; exact hown3) hgrow (by rcases hat with q | q; exact .inl q; exact .inr (by omega))
end Go.Proofs.YtdpmjlkmjmookaaGreatDoor
