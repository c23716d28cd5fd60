/-
  Package change: put where the operation comes together with the last one; flush; walked.
-/
import Derived.Test.YtdpmjlkmjmookaaGreatDoorRow
import Derived.BigRegion
namespace Go.Proofs.YtdpmjlkmjmookaaGreatDoor
open Go.RowKit

theorem idx_facts' (n : Nat) (h0 : 0 < n) (h : n ≤ 1000001) : (0 : Int) ≤ (n : Int) - 1 ∧ ((n : Int) - 1).toNat = n - 1 ∧ (n : Int) - 1 < (n : Int) ∧ IntKind.i64.wrap ((n : Int) - 1) = (n : Int) - 1 :=
  ⟨by omega, by omega, by omega, IntWalk.i64_in _ (by omega)⟩
theorem sum_fact (a b : Int) (ha : 0 ≤ a) (hb : 0 ≤ b) (h : a + b ≤ 1099511627776) : IntKind.i64.wrap (a + b) = a + b ∧ True := ⟨IntWalk.i64_in _ (by omega), trivial⟩
theorem flat_last (init : List Item) (p : Item) (n' : Int) (t' : ByteArray) :
    ((flat cellsP (init ++ [p])).set (init.length * 4 + 1) (.int .i64 n')).set (init.length * 4 + 2) (.string t') = flat cellsP (init ++ [(⟨p.1.kind, n', t', p.1.attrs⟩, p.2)]) := by
  rw [flat_append, flat_append, flat_one, flat_one]
  have hl : (flat cellsP init).length = init.length * 4 := flat_length _ _ _ (cellsP_len _)
  rw [List.set_append_right _ _ (by omega), List.set_append_right _ _ (by omega), hl]
  have e1 : init.length * 4 + 1 - init.length * 4 = 1 := by omega
  have e2 : init.length * 4 + 2 - init.length * 4 = 2 := by omega
  rw [e1, e2]; rfl

theorem join_done {lo g n rb dap : Nat} {gone : Value} {o : OpM} {init : List Item} {last : Item} {w W1 : World} (hg : w.heap[g]? = some (.cells #[.slice (some ⟨rb, 0, none⟩) n dap, gone] 147 (0, 0))) (_hlo : lo ≤ g) (hO : OwnI w lo (.slice (some ⟨rb, 0, none⟩) n dap) (init ++ [last]))
    (hn : init.length + 1 = n) (hB : Below w.heap.size w W1) (hts : last.1.text.size + o.text.size ≤ 1099511627776) :
    PutPost lo g (.slice (some ⟨rb, 0, none⟩) n dap) gone (init.map Prod.fst ++ [joined last.1 o]) w (.returned (.tuple #[]))
      ((W1.setCell ⟨rb, (n - 1) * 4 + 1, none⟩ (.int .i64 (last.1.n + o.n))).setCell ⟨rb, (n - 1) * 4 + 2, none⟩ (.string (last.1.text ++ o.text))).drew.drew := by
  have hgl := heap_lt hg
  have hp1 : Put g (some rb) w W1 := Kp.of_pure hB
  have hg1 := (hB.block g hgl).trans hg
  have hO1 := own_below hO.1 hB
  have hlen : (init ++ [last]).length = n := by simpa using hn
  rw [hlen] at hO1
  have hrg : rb ≠ g := fun e => own_ne hO.1 hg (by decide) (by simp [Value.ownBlock, e])
  obtain ⟨cur, hrlo, hcur⟩ : ∃ cur, lo ≤ rb ∧ W1.heap[rb]? = some (.cells cur 48 (0, 0)) := by
    rcases hO1.2 with ⟨hv, h0⟩ | ⟨g', cap, cur, hv, hb, hc, _⟩
    · cases hv
    · injection hv with hv; injection hv with hv; injection hv with hv; subst hv; exact ⟨cur, hb, hc⟩
  obtain ⟨hO2, hG2⟩ := hO1.stored ((n - 1) * 4 + 1) (.int .i64 (last.1.n + o.n))
  obtain ⟨cur2, hcur2⟩ : ∃ cur, (W1.setCell ⟨rb, (n - 1) * 4 + 1, none⟩ (.int .i64 (last.1.n + o.n))).heap[rb]? = some (.cells cur 48 (0, 0)) := by
    rcases hO2.2 with ⟨hv, h0⟩ | ⟨g', cap, cur, hv, hb, hc, _⟩
    · cases hv
    · injection hv with hv; injection hv with hv; injection hv with hv; subst hv; exact ⟨cur, hc⟩
  obtain ⟨hO3, hG3⟩ := hO2.stored ((n - 1) * 4 + 2) (.string (last.1.text ++ o.text))
  have hp3 : Put g (some rb) w ((W1.setCell ⟨rb, (n - 1) * 4 + 1, none⟩ (.int .i64 (last.1.n + o.n))).setCell ⟨rb, (n - 1) * 4 + 2, none⟩ (.string (last.1.text ++ o.text))) :=
    (hp1.setCell (p := ⟨rb, (n - 1) * 4 + 1, none⟩) (.inl (.inr rfl)) _).setCell (p := ⟨rb, (n - 1) * 4 + 2, none⟩) (.inl (.inr rfl)) _
  have hg3 : ((W1.setCell ⟨rb, (n - 1) * 4 + 1, none⟩ (.int .i64 (last.1.n + o.n))).setCell ⟨rb, (n - 1) * 4 + 2, none⟩ (.string (last.1.text ++ o.text))).heap[g]? = some (.cells #[.slice (some ⟨rb, 0, none⟩) n dap, gone] 147 (0, 0)) := by
    rw [Below.heap_setCell _ _ _ _ (fun e => hrg e.symm), Below.heap_setCell _ _ _ _ (fun e => hrg e.symm)]; exact hg1
  have hp5 : Put g (some rb) w ((W1.setCell ⟨rb, (n - 1) * 4 + 1, none⟩ (.int .i64 (last.1.n + o.n))).setCell ⟨rb, (n - 1) * 4 + 2, none⟩ (.string (last.1.text ++ o.text))).drew.drew := hp3.drew.drew
  have hnt := maker_nt hg
  have hnr := ops_nt hO.1
  refine ⟨rfl, _, hg3, ⟨init ++ [(joined last.1 o, last.2)], by simp, ?_, ?_⟩, hp5, fun k hk => .inl hk⟩
  · have e1 : n - 1 = init.length := by omega
    rw [e1] at hO3 ⊢
    rw [flat_last] at hO3
    have e2 : (init ++ [(joined last.1 o, last.2)]).length = n := by simpa using hn
    rw [e2]
    exact hO3
  · intro p hp
    rcases List.mem_append.1 hp with hp | hp
    · exact (hO.2 p (by simp [hp])).put hp5 hnt hnr
    · simp at hp; subst hp
      have h1 := (hO.2 last (by simp)).put hp5 hnt hnr
      exact ⟨h1.1, by show (last.1.text ++ o.text).size ≤ _; rw [ByteArray.size_append]; exact hts⟩

set_option maxHeartbeats 4000000 in
set_option maxRecDepth 100000 in
theorem put_join (lo g : Nat) (gone : Value) (o : OpM) (va : Value) (F : Nat → Prop) (v : Value) (init : List Item) (last : Item) (w : World) (hg : w.heap[g]? = some (.cells #[v, gone] 147 (0, 0))) (hlo : lo ≤ g) (hO : OwnI w lo v (init ++ [last]))
    (hA : RdA w F va o.attrs) (hlen : init.length ≤ 1000000) (hj : joins last.1 o = true) (hn0 : 0 ≤ last.1.n) (hn1 : 0 ≤ o.n) (hns : last.1.n + o.n ≤ 1099511627776) (hts : last.1.text.size + o.text.size ≤ 1099511627776) :
    Calls Tryz.prog 119 #[.pointer (some ⟨g, 0, none⟩), opV o va] w (PutPost lo g v gone (init.map Prod.fst ++ [joined last.1 o]) w) := by
  obtain ⟨A, cap, rfl, hc, hcm, hm, hcell⟩ := hA.open_
  clear hcell
  have HAA := Lib.hid hA; clear hA
  have HO := Lib.hid hO; clear hO
  have HG := Lib.hid hg
  obtain ⟨c0, c1⟩ := box2 hg
  have hgl := heap_lt hg
  clear hg
  obtain ⟨n, hn⟩ : ∃ n, init.length + 1 = n := ⟨_, rfl⟩
  have hnl : (init ++ [last]).length = n := by simpa using hn
  obtain ⟨rb, dap, rfl, hrlo⟩ : ∃ rb dap, v = .slice (some ⟨rb, 0, none⟩) n dap ∧ lo ≤ rb := by
    rcases HO.out.1.2 with ⟨hv, h0⟩ | ⟨rb, dap, cur, hv, hr, _⟩
    · omega
    · exact ⟨_, _, by rw [← hnl]; exact hv, hr⟩
  have h0 : 0 < n := by omega
  have hlen' : n ≤ 1000001 := by omega
  simp only [opV]
  have hd0 : decide ((0 : Int) < (n : Int)) = true := by simp; omega
  have hix : n - 1 < (init ++ [last]).length := by omega
  obtain ⟨x0, x1, x2, x3, hrl⟩ := HO.out.at_ hnl.symm (n - 1) hix
  have hlast : (init ++ [last])[n - 1] = last := by
    rw [List.getElem_append_right (by omega)]; simp
  rw [hlast] at x0 x1 x2 x3
  have hit := (HO.out.2 last (by simp)).1
  have hne : (Value.slice (some ⟨rb, 0, none⟩) n dap).ownBlock ≠ some g := own_ne HO.out.1 HG.out (by decide)
  have hrg : rb ≠ g := fun e => hne (by simp [Value.ownBlock, e])
  have y1 := HO.out.1
  rw [hnl] at y1
  have z1 := y1.frozenAt ((n - 1) * 4 + 1)
  have z2 := y1.frozenAt ((n - 1) * 4 + 2)
  clear y1 hne hlast
  obtain ⟨A9, cap9, h9, _, _, _, _⟩ := hit.open_
  rw [h9] at x3 hit
  have H9 := Lib.hid h9; clear h9
  have HIT := Lib.hid hit; clear hit
  have hsm : sameAL last.1.attrs o.attrs = true := by simp only [joins, Bool.and_eq_true] at hj; exact hj.2
  have hk : last.1.kind = o.kind := by simp only [joins, Bool.and_eq_true, decide_eq_true_eq] at hj; exact hj.1
  have hk' : (last.1.kind == o.kind) = true := by simpa using hk
  have HN := Lib.hid hn; have HNL := Lib.hid hnl
  clear hk hj hn hnl
  obtain ⟨e2, e3, e4, e1⟩ := idx_facts' n h0 hlen'
  obtain ⟨e5, _⟩ := sum_fact last.1.n o.n hn0 hn1 hns
  go_enter Tryz.func119, Tryz.ntmps119
  go_wp2_with fail
  go_quiet ((go_at_call 117; exact Calls.quiet_of (attrsSame_any _ _ last.1.attrs o.attrs _ F _ (HIT.out.pure (below_drewN ((Below.refl _ w).alloc (Nat.le_refl _) _) _)) (HAA.out.pure (below_drewN ((Below.refl _ w).alloc (Nat.le_refl _) _) _)))))
  simp only [hsm]
  go_wp2_with fail
  have hB : Below w.heap.size w ((w.alloc (.cells #[.int .i64 o.kind, .int .i64 o.n, .string o.text, .slice A o.attrs.length cap] 48)).drewN nq) := below_drewN ((Below.refl _ w).alloc (Nat.le_refl _) _) nq
  have hbx : ((w.alloc (.cells #[.int .i64 o.kind, .int .i64 o.n, .string o.text, .slice A o.attrs.length cap] 48)).drewN nq).heap[w.heap.size]? = some (.cells #[.int .i64 o.kind, .int .i64 o.n, .string o.text, .slice A o.attrs.length cap] 48 (0, 0)) := heap_alloc_new w _
  generalize (w.alloc (.cells #[.int .i64 o.kind, .int .i64 o.n, .string o.text, .slice A o.attrs.length cap] 48)).drewN nq = W1 at *
  have HOW := Lib.hid (own_below HO.out.1 hB)
  have x1' := pure_cell hB x1
  have x2' := pure_cell hB x2
  have c0' := pure_cell hB c0
  obtain ⟨d0, d1, d2, d3⟩ := box4 hbx
  have z1' : W1.frozen? ⟨rb, (n - 1) * 4 + 1, none⟩ = false := by rw [hB.frozen (p := ⟨rb, _, none⟩) hrl]; exact z1
  have z2' : W1.frozen? ⟨rb, (n - 1) * 4 + 2, none⟩ = false := by rw [hB.frozen (p := ⟨rb, _, none⟩) hrl]; exact z2
  have hrk : rb ≠ w.heap.size := by omega
  have hgk : g ≠ w.heap.size := by omega
  clear x0 x1 x2 x3 c0 c1 z1 z2
  go_region
  go_wp2_with fail
  go_region
  go_wp2
  refine bodyPost_ret (results_none rfl _ _ _) rfl ?_
  exact join_done HG.out hlo HO.out HN.out hB hts
end Go.Proofs.YtdpmjlkmjmookaaGreatDoor
