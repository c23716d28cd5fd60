/-
  The references' normal form (blotterref03): a group's insert where it joins the last one; walked.
-/
import Derived.Test.YtdpmjlkmjmookaaGreatDoorRefGrp
import Derived.BigRegion
namespace Go.Proofs.YtdpmjlkmjmookaaGreatDoor
open Go.RowKit Go.PlainAid

theorem GPost.drew {lo gb off : Nat} {cur : Array Value} {v : Value} {ops : List OpM} {w w' : World} {e : Ending} (h : GPost lo gb off cur v ops w e w') : GPost lo gb off cur v ops w e w'.drew := by
  obtain ⟨h1, v', h2, h3, h4, h5⟩ := h
  exact ⟨h1, v', h2, h3.agree (fun _ _ => rfl) (fun _ _ _ => rfl), Kp.drew h4, h5⟩
set_option maxHeartbeats 4000000 in
set_option maxRecDepth 100000 in
theorem insert_join (lo gb off : Nat) (cur : Array Value) (o : OpM) (va : Value) (F : Nat → Prop) (v : Value) (init : List Item) (last : Item) (w : World) (hg : w.heap[gb]? = some (.cells cur 104 (0, 0))) (hcu : cur[off]? = some v) (hO : OwnI w lo v (init ++ [last]))
    (hA : RdA w F va o.attrs) (hon : o.n = 0) (hlen : init.length ≤ 999999) (hj : sameAL last.1.attrs o.attrs = true) (hts : last.1.text.size + o.text.size ≤ 1099511627776) :
    Calls Tryz.prog 72 #[.pointer (some ⟨gb, off, none⟩), .string o.text, va] w (GPost lo gb off cur v (init.map Prod.fst ++ [joined last.1 o]) w) := by
  obtain ⟨A, cap, rfl, hc, hcm, hm, hcell⟩ := hA.open_
  clear hcell
  have HAA := Lib.hid hA; clear hA
  have HO := Lib.hid hO; clear hO
  have HG := Lib.hid hg
  have c0 : w.cell? ⟨gb, off, none⟩ = some v := by rw [cell_heap hg]; exact hcu
  have hgl := heap_lt hg
  obtain ⟨n, hn⟩ : ∃ n, init.length + 1 = n := ⟨_, rfl⟩
  have hnl : (init ++ [last]).length = n := by simpa using hn
  obtain ⟨rb, dap, hv, hrlo⟩ := own_form0 HO.out.1 (by simp)
  rw [hnl] at hv
  subst hv
  have HCU := Lib.hid hcu
  clear hg hcu
  have h0 : 0 < n := by omega
  have hlen' : n ≤ 1000000 := by omega
  have hd0 : decide ((0 : Int) ≤ (n : Int) - 1) = true := by simp; omega
  have hd1 : decide ((1 : Int) ≤ (n : Int)) = true := by simp; omega
  have hix : n - 1 < (init ++ [last]).length := by omega
  obtain ⟨x0, x1, x2, x3, hrl⟩ := HO.out.at_ hnl.symm (n - 1) hix
  have hlast : (init ++ [last])[n - 1] = last := by
    rw [List.getElem_append_right (by omega)]; simp
  rw [hlast] at x0 x1 x2 x3
  have hit := (HO.out.2 last (by simp)).1
  have hne : (Value.slice (some ⟨rb, 0, none⟩) n dap).ownBlock ≠ some gb := own_ne HO.out.1 HG.out (by decide)
  have hrg : rb ≠ gb := fun e => hne (by simp [Value.ownBlock, e])
  have y1 := HO.out.1
  rw [hnl] at y1
  have z2 := y1.frozenAt ((n - 1) * 4 + 2)
  clear y1 hne hlast
  obtain ⟨A9, cap9, h9, _, _, _, _⟩ := hit.open_
  rw [h9] at x3 hit
  have H9 := Lib.hid h9; clear h9
  have HIT := Lib.hid hit; clear hit
  have HN := Lib.hid hn
  clear hn hnl
  obtain ⟨e2, e3, e4, e1⟩ := idx_facts n h0 hlen'
  go_enter Tryz.func72, Tryz.ntmps72
  go_wp2_with fail
  refine (refSameA_any _ _ last.1.attrs o.attrs _ F _ (HIT.out) (HAA.out)).mono ?_
  rintro e w' ⟨rfl, nq, rfl⟩
  rw [hj]
  clear hj
  go_wp2_with fail
  have hB : Below w.heap.size w (w.drewN nq) := below_drewN (Below.refl _ _) nq
  have x2' := pure_cell hB x2
  have c0' := pure_cell hB c0
  have z2' : (w.drewN nq).frozen? ⟨rb, (n - 1) * 4 + 2, none⟩ = false := z2
  generalize w.drewN nq = W1 at *
  clear x0 x1 x2 x3 c0 z2
  go_region
  go_wp2
  refine bodyPost_ret (results_none rfl _ _ _) rfl ?_
  exact (gjoin_done HG.out HCU.out HO.out HN.out hB hon hts).drew

theorem refInsert_any (lo gb off : Nat) (cur : Array Value) (o : OpM) (va : Value) (F : Nat → Prop) (v : Value) (items : List Item) (w : World) (hg : w.heap[gb]? = some (.cells cur 104 (0, 0))) (hcu : cur[off]? = some v) (hlo : lo ≤ w.heap.size) (hO : OwnI w lo v items)
    (hA : RdA w F va o.attrs) (hk : o.kind = 2) (hon : o.n = 0) (hlen : items.length ≤ 999999) (ht : o.text.size ≤ 1073741824) (hts : ∀ x ∈ items.map Prod.fst, x.text.size ≤ 1073741824) :
    Calls Tryz.prog 72 #[.pointer (some ⟨gb, off, none⟩), .string o.text, va] w (GPost lo gb off cur v (insM (items.map Prod.fst) o) w) := by
  rcases List.eq_nil_or_concat items with rfl | ⟨init, last, rfl⟩
  · exact insert_push lo gb off cur o va F v [] w hg hcu hlo hO hA (by omega) hk hon (by simp) (fun h => by simp at h)
  · rw [List.concat_eq_append] at *
    have hlen' : init.length + 1 ≤ 999999 := by simpa using hlen
    rw [List.map_append, List.map_cons, List.map_nil, insM_snoc]
    cases hj : sameAL last.1.attrs o.attrs with
    | true =>
      rw [if_pos rfl]
      have := hts last.1 (by simp)
      exact insert_join lo gb off cur o va F v init last w hg hcu hO hA hon (by omega) hj (by omega)
    | false =>
      have h1 := insert_push lo gb off cur o va F v (init ++ [last]) w hg hcu hlo hO hA (by omega) hk hon (by omega) (fun h => by
        have e : (init ++ [last])[(init ++ [last]).length - 1]'(by simp) = last := by rw [List.getElem_append_right (by simp)]; simp
        rw [e]; exact hj)
      rw [List.map_append, List.map_cons, List.map_nil] at h1
      exact h1
end Go.Proofs.YtdpmjlkmjmookaaGreatDoor
