/-
  The references' Normal (blotterref03), walked whole.
-/
import Derived.Test.YtdpmjlkmjmookaaGreatDoorRefIns
import Derived.Test.YtdpmjlkmjmookaaGreatDoorRefGInv
import Derived.Test.YtdpmjlkmjmookaaGreatDoorRefOut
import Derived.Test.YtdpmjlkmjmookaaGreatDoorRefSame
namespace Go.Proofs.YtdpmjlkmjmookaaGreatDoor
set_option linter.unusedVariables false
set_option linter.unusedSimpArgs false
open Go.RowKit Go.PlainAid

set_option maxHeartbeats 4000000 in
set_option maxRecDepth 100000 in
theorem refNormal_bad (f : Int) (v : Value) (ops : List OpM) (F : Nat → Prop) (w : World) (h : RdO w F v ops) (he : toE f ops ≠ 0) :
    Calls Tryz.prog 17 #[.agg #[.int .i64 f, v]] w (NormalPost f ops w) := by
  obtain ⟨A, cap, rfl, hc, hcm, hm, hcell⟩ := h.open_
  clear hcell
  have H := Lib.hid h; clear h
  have hB : Below w.heap.size w ((w.alloc (.cells #[.int .i64 f, .slice A ops.length cap] 24)).alloc (.cells #[.int .i64 0, .slice none 0 0] 24)) := ((Below.refl _ w).alloc (Nat.le_refl _) _).alloc (by simp) _
  have hbx : ((w.alloc (.cells #[.int .i64 f, .slice A ops.length cap] 24)).alloc (.cells #[.int .i64 0, .slice none 0 0] 24)).heap[w.heap.size + 1]? = some (.cells #[.int .i64 0, .slice none 0 0] 24 (0, 0)) := by
    have := heap_alloc_new (w.alloc (.cells #[.int .i64 f, .slice A ops.length cap] 24)) (.cells #[.int .i64 0, .slice none 0 0] 24); simpa using this
  have he' : (toE f ops == 0) = false := by simpa using he
  have he2 : (toE f ops != 0) = true := by simpa using he
  have HE := Lib.hid he; clear he
  go_enter Tryz.func17, Tryz.ntmps17
  go_wp2_with fail
  refine (refRight_any f _ ops F _ (H.out.pure hB)).mono ?_
  rintro e w1 ⟨rfl, h1⟩
  have hbx1 := (h1.block _ (heap_lt hbx)).trans hbx
  obtain ⟨c0, c1⟩ := box2 hbx1
  have f0 := froz_heap hbx1 0
  have f1 := froz_heap hbx1 1
  have hl1 := heap_lt hbx1
  have hb1 := pure_trans hB h1
  clear hbx
  obtain ⟨W3, hW3⟩ : ∃ W3, (w1.setCell ⟨w.heap.size + 1, 0, none⟩ (.int .i64 0)).setCell ⟨w.heap.size + 1, 1, none⟩ (.slice none 0 0) = W3 := ⟨_, rfl⟩
  have hbx3 : W3.heap[w.heap.size + 1]? = some (.cells #[.int .i64 0, .slice none 0 0] 24 (0, 0)) := by
    rw [← hW3]; exact set_heap1 (set_heap hbx1 _) _
  have hb3 : Below w.heap.size w W3 := by rw [← hW3]; exact (hb1.setCell (p := ⟨w.heap.size + 1, 0, none⟩) (by simp) _).setCell (p := ⟨w.heap.size + 1, 1, none⟩) (by simp) _
  obtain ⟨q0, q1⟩ := box2 hbx3
  go_wp2
  refine bodyPost_ret (v := .tuple #[.agg #[.int .i64 0, .slice none 0 0], .int .i64 (toE f ops)]) (by simp [results, Tryz.results17, go_sem, q0, q1]) rfl ⟨.slice none 0 0, by rw [if_neg HE.out], hb3, by rw [if_neg HE.out]; exact Rd.nil _ _ _ _⟩

theorem two_cells' {w : World} {x y : Value} {t : TypeId} : ∀ (j : Nat) (u : Value), ([x, y] : List Value)[j]? = some u → (w.alloc (.cells #[x, y] t)).cell? ((⟨w.heap.size, 0, none⟩ : Addr).add j) = some u := by
  intro j u hj
  match j, hj with
  | 0, hj => simp at hj; subst hj; simp [Addr.add]
  | 1, hj => simp at hj; subst hj; simp [Addr.add]
theorem two_one : ∀ u ∈ ([.slice none 0 0, .int .i64 0] : List Value), u.oneCell' = true := by intro u hu; simp at hu; rcases hu with rfl | rfl <;> rfl
/-- what stands at the head of the first loop's rounds -/
def NRel (f : Int) (A : Option Addr) (cap : Nat) (ops : List OpM) (wl : Nat) (w1 : World) (gv kv : Value) (k : Nat) (wr : World) : Prop :=
  ∃ (init : List GIt) (x : GIt) (ks : List Item), Below w1.heap.size w1 wr ∧ wr.heap[wl]? = some (.cells #[.int .i64 f, .slice A ops.length cap] 24 (0, 0)) ∧ GInv wr w1.heap.size gv kv (init ++ [x]) ks ∧ rFold (ops.take k) = ⟨(init ++ [x]).map rgOf, ks.map Prod.fst⟩

set_option maxHeartbeats 64000000 in
set_option maxRecDepth 100000 in
theorem refNormal_good (f : Int) (v : Value) (ops : List OpM) (F : Nat → Prop) (w : World) (h : RdO w F v ops) (he : toE f ops = 0) :
    Calls Tryz.prog 17 #[.agg #[.int .i64 f, v]] w (NormalPost f ops w) := by
  replace h : RdO w (fun k => k < w.heap.size) v ops := h.mono fun k _ hk => hk
  obtain ⟨A, cap, rfl, hc, hcm, hm, hcell⟩ := h.open_
  have HC := Lib.hid hcell; clear hcell
  have H := Lib.hid h; clear h
  obtain ⟨i0, hi, hz0, hz1, hz2⟩ := info_parts infoO
  obtain ⟨j0, hj, hy0, hy1, hy2⟩ := info_parts infoG
  have hB : Below w.heap.size w ((w.alloc (.cells #[.int .i64 f, .slice A ops.length cap] 24)).alloc (.cells #[.int .i64 0, .slice none 0 0] 24)) := ((Below.refl _ w).alloc (Nat.le_refl _) _).alloc (by simp) _
  have hbx : ((w.alloc (.cells #[.int .i64 f, .slice A ops.length cap] 24)).alloc (.cells #[.int .i64 0, .slice none 0 0] 24)).heap[w.heap.size + 1]? = some (.cells #[.int .i64 0, .slice none 0 0] 24 (0, 0)) := by
    have := heap_alloc_new (w.alloc (.cells #[.int .i64 f, .slice A ops.length cap] 24)) (.cells #[.int .i64 0, .slice none 0 0] 24); simpa using this
  have hcx : ((w.alloc (.cells #[.int .i64 f, .slice A ops.length cap] 24)).alloc (.cells #[.int .i64 0, .slice none 0 0] 24)).heap[w.heap.size]? = some (.cells #[.int .i64 f, .slice A ops.length cap] 24 (0, 0)) := by
    rw [Below.heap_alloc _ _ _ (by simp)]; exact heap_alloc_new w _
  have HE := Lib.hid he
  have hok := op_ok he
  have hof := toE_fold he
  have HOK := Lib.hid hok; clear hok
  have hlen : ops.length ≤ 2000 := hof.2.1
  have HOKO := Lib.hid ((toE_iff f ops).1 he).2.2.1
  clear hof
  go_enter Tryz.func17, Tryz.ntmps17
  go_wp2_with fail
  refine (refRight_any f _ ops _ _ (H.out.pure hB)).mono ?_
  rintro e w1 ⟨rfl, h1⟩
  rw [he]
  clear he
  have hbx1 := (h1.block _ (heap_lt hbx)).trans hbx
  have hcx1 := (h1.block _ (heap_lt hcx)).trans hcx
  have hl1 := heap_lt hbx1
  have hb1 := pure_trans hB h1
  clear hbx hcx h1 hB
  have HBX1 := Lib.hid hbx1; clear hbx1
  have hcx2 : (w1.alloc (.cells #[.slice none 0 0, .int .i64 0] 104)).heap[w.heap.size]? = some (.cells #[.int .i64 f, .slice A ops.length cap] 24 (0, 0)) := by
    rw [Below.heap_alloc _ _ _ (by omega)]; exact hcx1
  have HCX3 := Lib.hid hcx1
  have HST := Lib.hid (show NRel f A cap ops w.heap.size w1 (.slice (some ⟨w1.heap.size, 0, none⟩) 1 1) (.slice none 0 0) 0 (w1.alloc (.cells #[.slice none 0 0, .int .i64 0] 104)) from
    ⟨[], ⟨.slice none 0 0, 0, []⟩, [], (Below.refl _ _).alloc (Nat.le_refl _) _, hcx2,
      ⟨World.ownsRow_lit w1 #[.slice none 0 0, .int .i64 0] 1 (Nat.le_refl _) (by decide) rfl, fun x hx => by simp at hx; subst hx; exact ⟨World.ownsRow_nil _ _ _ _, by simp⟩, ⟨World.ownsRow_nil _ _ _ _, by simp⟩,
        fun i j x y hx hy hij k hk => by
          have h1 := (List.getElem?_eq_some_iff.1 hx).1; have h2 := (List.getElem?_eq_some_iff.1 hy).1
          simp at h1 h2; omega,
        fun x hx k hk => by simp at hx; subst hx; simp [Value.ownBlock] at hk, fun x hx _ => by simp at hx; subst hx; rfl⟩, by simp [rFold, rgOf]⟩)
  obtain ⟨c0, c1⟩ := box2 hcx2
  have hws : w.heap.size + 1 < w1.heap.size := hl1
  go_wp2_with fail
  clear c0 c1 hcx2 hcx1
  go_loopw [7, 5, 6] (fun i gv kv wr => ∃ k : Nat, k ≤ ops.length ∧ i = .int .i64 k ∧ NRel f A cap ops w.heap.size w1 gv kv k wr) (fun i _ _ _ => ops.length - (intOf i).toNat)
  case atStart => exact ⟨0, by omega, rfl, HST.out⟩
  case round =>
    obtain ⟨k, hk, rfl, init, x, ks, hb, hcb, hG, hR⟩ := hrel
    have HR := Lib.hid hR; clear hR
    have HG := Lib.hid hG; clear hG
    have HCB := Lib.hid hcb
    obtain ⟨c0, c1⟩ := box2 hcb
    have hcl := heap_lt hcb
    clear hcb
    by_cases hlt : k < ops.length
    · have dk : decide ((k : Int) < (ops.length : Int)) = true := decide_eq_true (by omega)
      obtain ⟨b, off, rfl, hFb⟩ := HC.out (by omega)
      have hb' : Below w.heap.size w wr := hb1.trans (hb.mono (by omega))
      have hrd := H.out.pure hb'
      obtain ⟨va, d0, d1, d2, d3, hva⟩ := hrd.at_ k hlt
      obtain ⟨A2, cap2, rfl, _, _, _, _⟩ := hva.open_
      have HVA := Lib.hid hva; clear hva hrd
      have hbl : b < wr.heap.size := World.block_lt_of_cell? wr _ d0
      have HOO := Lib.hid (HOK.out _ (List.getElem_mem hlt))
      have HRS := Lib.hid (rFold_snoc ops k hlt)
      have HBD := Lib.hid (RBd.all HOK.out k hk)
      have HSH := Lib.hid (HOKO.out _ (List.getElem_mem hlt)).sh
      generalize ops[k] = o at *
      have hB2 : Below wr.heap.size wr (wr.alloc (.cells #[.int .i64 o.kind, .int .i64 o.n, .string o.text, .slice A2 o.attrs.length cap2] 48)) := (Below.refl _ wr).alloc (Nat.le_refl _) _
      have hbx2 : (wr.alloc (.cells #[.int .i64 o.kind, .int .i64 o.n, .string o.text, .slice A2 o.attrs.length cap2] 48)).heap[wr.heap.size]? = some (.cells #[.int .i64 o.kind, .int .i64 o.n, .string o.text, .slice A2 o.attrs.length cap2] 48 (0, 0)) := heap_alloc_new wr _
      obtain ⟨gb, gcap, cur, hgv, hgb, hgx, hcu0, hcu1⟩ := HG.out.head
      subst hgv
      obtain ⟨m, hm'⟩ : ∃ m, ks.length = m := ⟨_, rfl⟩
      obtain ⟨kc, kA, hkv⟩ : ∃ kc kA, u6 = .slice kA m kc := by
        obtain ⟨a, b, h⟩ := own_form HG.out.keep.1; exact ⟨b, a, by rw [← hm']; exact h⟩
      subst hkv
      have hbd := HBD.out
      rw [HR.out] at hbd
      have hil : init.length ≤ 2000 := by have := hbd.lg; simp at this; omega
      have hkl : m ≤ 2000 := by have := hbd.lk; simp at this; omega
      have HKM := Lib.hid hm'; clear hm'
      have hxb := hbd.gs (rgOf x) (by simp)
      obtain ⟨hx0, hx1, hx2, hx3⟩ := hxb
      have hx0' : 0 ≤ x.gone := hx0
      have hx1' : x.gone ≤ 20000 * k := hx1
      have hx2' : x.items.length ≤ k := by have : (x.items.map Prod.fst).length ≤ k := hx2; simpa using this
      have HX3 := Lib.hid (show ∀ y ∈ x.items.map Prod.fst, y.text.size ≤ 80000 * k from hx3)
      have HKB := Lib.hid hbd.ks
      clear hbd hx0 hx1 hx2 hx3
      have hgl := heap_lt hgx
      have hgx2 := (hB2.block gb hgl).trans hgx
      have HGW := Lib.hid (HG.out.pure hB2)
      have HCW := Lib.hid ((hB2.block _ hcl).trans HCB.out)
      have hbW : Below w1.heap.size w1 (wr.alloc (.cells #[.int .i64 o.kind, .int .i64 o.n, .string o.text, .slice A2 o.attrs.length cap2] 48)) := hb.alloc hb.size _
      have HVW := Lib.hid (HVA.out.pure hB2)
      have hWs : (wr.alloc (.cells #[.int .i64 o.kind, .int .i64 o.n, .string o.text, .slice A2 o.attrs.length cap2] 48)).heap.size = wr.heap.size + 1 := by simp
      have hwr1 := hb.size
      have hn0 := HOO.out.n0; have hn1 := HOO.out.n1; have hT0 := HOO.out.t
      rcases shaped_kinds HSH.out with ⟨hk1, hp1, ht1⟩ | ⟨hk2, hp2, ht2⟩ | ⟨hk3, hp3, ht3, hl3⟩
      · have kf : (o.kind == 2) = false := by simp; omega
        have kf3 : (o.kind == 3) = false := by simp; omega
        have HK1 := Lib.hid (And.intro hk1 (And.intro hp1 ht1)); clear hk1 hp1 ht1
        have hk1z : o.kind = 1 := HK1.out.1
        have HBX := Lib.hid hbx2
        have HBW2 := Lib.hid hB2
        have HBW := Lib.hid hbW
        have HXV := Lib.hid (own_form (HG.out.grp x (by simp)).1)
        have hRK0 : rFold (ops.take (k + 1)) = rKeep ((init ++ [x]).map rgOf) (rgOf x) (ks.map Prod.fst) o := by
          rw [HRS.out, HR.out, List.map_append, List.map_cons, List.map_nil, rStep_snoc, if_neg (by omega), if_neg (by omega)]
        have HRK0 := Lib.hid hRK0; clear hRK0
        have c4 : (wr.alloc (.cells #[.int .i64 o.kind, .int .i64 o.n, .string o.text, .slice A2 o.attrs.length cap2] 48)).cell? ⟨gb, init.length * 2, none⟩ = some x.v := (cell_heap hgx2 _).trans hcu0
        have c5 : (wr.alloc (.cells #[.int .i64 o.kind, .int .i64 o.n, .string o.text, .slice A2 o.attrs.length cap2] 48)).cell? ⟨gb, init.length * 2 + 1, none⟩ = some (.int .i64 x.gone) := (cell_heap hgx2 _).trans hcu1
        have hgbl : gb < wr.heap.size := hgl
        clear hcu0 hcu1 hgx hk1z hbW
        obtain ⟨W, hW⟩ : ∃ W, wr.alloc (.cells #[.int .i64 o.kind, .int .i64 o.n, .string o.text, .slice A2 o.attrs.length cap2] 48) = W := ⟨_, rfl⟩
        rw [hW] at c4 c5 hWs HBX HBW2 HBW hgx2 HCW HGW HVW hbx2
        have HW := Lib.hid hW
        clear hW hB2
        obtain ⟨z0, z1, z2, z3⟩ := box4 hbx2
        clear hbx2
        by_cases hm0 : 0 < m
        · obtain ⟨kb, hkA⟩ : ∃ kb, kA = some ⟨kb, 0, none⟩ := by
            have hkp := HG.out.keep.1
            rw [HKM.out] at hkp
            obtain ⟨rb, cap2, hv, _⟩ := own_form0 hkp hm0
            injection hv with hv; exact ⟨rb, hv⟩
          subst hkA
          obtain ⟨ki, p, hks⟩ : ∃ ki p, ks = ki ++ [p] := by
            rcases List.eq_nil_or_concat ks with e | ⟨ki, p, e⟩
            · have := HKM.out; rw [e] at this; simp at this; omega
            · exact ⟨ki, p, by rw [e, List.concat_eq_append]⟩
          subst hks
          have hm1 : m - 1 = ki.length := by have := HKM.out; simp at this; omega
          have HM1 := Lib.hid hm1; clear hm1
          have hix : m - 1 < (ki ++ [p]).length := by rw [HKM.out]; omega
          obtain ⟨y0, y1, y2, y3, hkbl⟩ := HG.out.keep.at_ HKM.out.symm (m - 1) hix
          have hlastp : (ki ++ [p])[m - 1] = p := by
            have := HM1.out
            rw [List.getElem_append_right (by omega)]; simp
          rw [hlastp] at y0 y1 y2 y3
          clear hlastp hix
          have hit := (HG.out.keep.2 p (by simp)).1
          obtain ⟨A9, cap9, h9, _⟩ := hit.open_
          rw [h9] at y3 hit
          have H9 := Lib.hid h9; clear h9
          have HIT := Lib.hid (hit.pure HBW2.out); clear hit
          have y3' := pure_cell HBW2.out y3
          have y1' := pure_cell HBW2.out y1
          clear y0 y1 y2 y3
          obtain ⟨e2, e3, e4, e1⟩ := idx_facts m hm0 (by omega)
          have g1 : decide ((0 : Int) ≤ (m : Int) - 1) = true := decide_eq_true (by omega)
          have g2 : decide ((1 : Int) ≤ (m : Int)) = true := decide_eq_true (by omega)
          obtain ⟨xa, xc, hxv⟩ := HXV.out
          have hmp : (ki ++ [p]).map Prod.fst = ki.map Prod.fst ++ [p.1] := by simp
          have HRK1 := Lib.hid (show rFold (ops.take (k + 1)) = if (x.items.map Prod.fst).length = 0 ∧ x.gone = 0 ∧ sameAL p.1.attrs o.attrs = true then ⟨(init ++ [x]).map rgOf, ki.map Prod.fst ++ [⟨p.1.kind, p.1.n + o.n, p.1.text, p.1.attrs⟩]⟩ else ⟨(init ++ [x]).map rgOf ++ [⟨[], 0⟩], ki.map Prod.fst ++ [p.1] ++ [keepOp o.n o.attrs]⟩ by
            rw [HRK0.out, hmp]; exact rKeep_snoc _ _ _ _ _)
          have HMP := Lib.hid hmp; clear hmp
          have HRKF := Lib.hid (fun (hn : ¬ ((x.items.map Prod.fst).length = 0 ∧ x.gone = 0 ∧ sameAL p.1.attrs o.attrs = true)) => show rFold (ops.take (k + 1)) = ⟨(init ++ [x]).map rgOf ++ [⟨[], 0⟩], (ki ++ [p]).map Prod.fst ++ [keepOp o.n o.attrs]⟩ by
            rw [HRK1.out, if_neg hn, HMP.out])
          by_cases hxi : 0 < x.items.length
          · rw [hxv] at c4
            have HRK := Lib.hid (HRKF.out (fun e => by have := e.1; simp at this; rw [this] at hxi; simp at hxi))
            have j1 : ((x.items.length : Int) == 0) = false := by simp; intro e; rw [e] at hxi; simp at hxi
            have j2 : (x.items.length == 0) = false := by simp; intro e; rw [e] at hxi; simp at hxi
            go_wp2_with fail
            rw [HW.out]
            go_quiet (fail)
            clear g1 g2 e1 e2 e3 e4 j1 j2 y1' y3' c4 c5
            generalize (some (⟨kb, 0, none⟩ : Addr)) = kA at *
            have hBQ : Below wr.heap.size wr (W.drewN nq) := below_drewN HBW2.out _
            have hbxQ : (W.drewN nq).heap[wr.heap.size]? = some (.cells #[.int .i64 o.kind, .int .i64 o.n, .string o.text, .slice A2 o.attrs.length cap2] 48 (0, 0)) := HBX.out
            have hWQ : (W.drewN nq).heap.size = wr.heap.size + 1 := hWs
            generalize W.drewN nq = W5 at *
            have HBQ := Lib.hid hBQ
            have HBXQ := Lib.hid hbxQ
            have HVQ := Lib.hid (HVA.out.pure hBQ)
            have hgQ := HG.out.pure hBQ
            have HGQ := Lib.hid hgQ
            have hkoQ : W5.ownsRow w1.heap.size 48 4 (.slice kA m kc) m (flat cellsP (ki ++ [p])) := by have := hgQ.keep.1; rwa [HKM.out] at this
            have HKOQ := Lib.hid hkoQ
            have hneQ : (Value.slice kA m kc).ownBlock ≠ some wr.heap.size := fun e => by
              have := HG.out.keep.1
              have := (this.lt _ e).2; omega
            have HNEQ := Lib.hid hneQ
            obtain ⟨b0, b1, b2, b3⟩ := box4 hbxQ
            have hlQ := heap_lt hbxQ
            clear hBQ hbxQ hgQ hkoQ hneQ
            go_wp2_with fail
            go_region_held3 (fun w' => w'.cell? ⟨wr.heap.size, 1, none⟩ = some (.int .i64 o.n) ∧ w'.cell? ⟨wr.heap.size, 3, none⟩ = some (.slice A2 o.attrs.length cap2))
              (first | go_keep | exact ⟨(box4 hbd).2.1, (box4 hbd).2.2.2⟩ | exact ⟨(box4 hbc).2.1, (box4 hbc).2.2.2⟩)
              (first
                | ((go_at_call 74); refine (copiedA_any _ o.attrs _ _ (by exact HVQ.out.agree (fun _ _ _ => rfl))).mono ?_; rintro e w1c ⟨v1, rfl, hb1c, hown1⟩; obtain ⟨A1, cap1, rfl⟩ := own_form hown1; have hbw1 : Below W5.heap.size W5 w1c := ⟨hb1c.os, hb1c.tape, hb1c.output, hb1c.size, hb1c.block⟩; have hsz1 := hbw1.size; have hbc := (hbw1.block _ hlQ).trans HBXQ.out; have hlc := heap_lt hbc; clear hb1c)
                | (refine step_append_lies _ (by rfl) _ _ _ (by rfl) w1.heap.size 48 i0 _ 4 56 Tryz.underlying22 hi hz0 hz1 hz2 rfl (by omega) (.slice kA m kc) m (flat cellsP (ki ++ [p])) (by rfl) ((own_below HKOQ.out hbw1).alloc _)
                    ⟨w1c.heap.size, 0, none⟩ 1 1 [.int .i64 1, .int .i64 o.n, .string ⟨#[]⟩, .slice A1 o.attrs.length cap1] (by rfl) (by rfl) (World.news_of_block (cs := #[.int .i64 1, .int .i64 o.n, .string ⟨#[]⟩, .slice A1 o.attrs.length cap1]) (t := 48) (fr := (0, 0)) (heap_alloc_new w1c _)) (by simp [Value.oneCell'])
                    (by omega) (by unfold maxLen; omega) (by omega) (by simp; omega) (w1c.heap.size + 1) (by simp) ?_; intro gg dap2 w3 hown3 hgrow hat hlt3; have hbd := (hgrow.block wr.heap.size (by simp; omega) (fun e => HNEQ.out e.symm)).trans ((Below.heap_alloc w1c _ wr.heap.size hlc).trans hbc)))
            have hX3 := HGQ.out.pure (hbw1.alloc hsz1 (.cells #[.int .i64 1, .int .i64 o.n, .string ⟨#[]⟩, .slice A1 o.attrs.length cap1] 48))
            have hG15 := hX3.keepPush (p := (keepOp o.n o.attrs, .slice A1 o.attrs.length cap1)) hgrow (by
              rw [flat_append, flat_one, List.length_append, HKM.out]; exact hown3) ⟨own_rdA (hown1.alloc _) (by show w1.heap.size ≤ W5.heap.size; omega) HVQ.out.sizes (by have := HVA.out.open_; obtain ⟨_, _, _, _, _, q, _⟩ := this; exact q), by show (⟨#[]⟩ : ByteArray).size ≤ _; decide⟩ (fun q hq => by
                simp [Value.ownBlock] at hq
                subst hq
                rcases hat with e | e
                · exact .inl e
                · right; rw [e]; simp)
            have hg15 := hG15.own
            rw [show (init ++ [x]).length = init.length + 1 by simp] at hg15
            have hbw3 : Below w1.heap.size w1 w3 := (((hb.trans (HBQ.out.mono (by omega))).trans (hbw1.mono (by have := HBQ.out.size; omega))).alloc (by omega) _).grown hgrow (by simp; omega) (fun q hq => by
              have hkp := HG.out.keep.1
              rw [HKM.out] at hkp
              exact (hkp.lt q hq).1)
            have hc15 := hbw3.block w.heap.size (by omega)
            have HG15 := Lib.hid hG15; have Hg15 := Lib.hid hg15; have HB3 := Lib.hid hbw3; have HC15 := Lib.hid hc15
            have hs15 := hbw3.size
            clear hX3 hG15 hg15 hbw3 hc15 hbc hbd hgrow hown3 hown1 hat b0 b1 b2 b3
            have q1 : init.length + 1 + 1 ≤ maxLen := by unfold maxLen; omega
            have q2 : w1.heap.size ≤ (w3.alloc (.cells #[.slice none 0 0, .int .i64 0] 104)).heap.size := by simp; omega
            have Q1 := Lib.hid q1; have Q2 := Lib.hid q2; clear q1 q2
            go_wp2_with (at_builtin; refine wpList_append_own _ rfl _ _ 105 rfl w1.heap.size 104 j0 (.agg #[.slice none 0 0, .int .i64 0]) 2 32 Tryz.underlying105 hj hy0 hy1 hy2 rfl (by decide) _ _ _ rfl (Hg15.out.alloc _) ⟨w3.heap.size, 0, none⟩ 1 1 [.slice none 0 0, .int .i64 0] rfl rfl two_cells' two_one Q1.out (by omega) Q2.out ?_)
            intro v4 w4 hown4 hgrow4 _
            have hG16 := (HG15.out.pure ((Below.refl _ w3).alloc (Nat.le_refl _) (.cells #[.slice none 0 0, .int .i64 0] 104))).grpPush hgrow4 (by
              rw [show (init ++ [x]).length = init.length + 1 by simp]; exact hown4)
            have hb16 : Below w1.heap.size w1 w4 := (HB3.out.alloc HB3.out.size _).grown hgrow4 (by simp; omega) (fun q hq => (Hg15.out.lt q hq).1)
            have hc16 := (hb16.block w.heap.size (by omega)).trans HCX3.out
            have HF := Lib.hid (show NRel f (some ⟨b, off, none⟩) cap ops w.heap.size w1 v4 (.slice (some ⟨gg, 0, none⟩) (m + 1) dap2) (k + 1) w4 from
              ⟨init ++ [x], _, _, hb16, hc16, hG16, by rw [HRK.out]; simp [rgOf]⟩)
            clear hG16 hb16 hc16 hgrow4 hown4
            go_wp2
            exact ⟨⟨k + 1, by omega, by go_num, HF.out⟩, by simp [intOf]; omega⟩
          · have hxn : x.items = [] := List.eq_nil_of_length_eq_zero (by omega)
            rw [HG.out.nil x (by simp) hxn] at c4
            by_cases hxg : x.gone = 0
            · rw [hxg] at c5
              cases hsm : sameAL p.1.attrs o.attrs with
              | true =>
                have HRJ := Lib.hid (show rFold (ops.take (k + 1)) = ⟨(init ++ [x]).map rgOf, ki.map Prod.fst ++ [⟨p.1.kind, p.1.n + o.n, p.1.text, p.1.attrs⟩]⟩ by
                  rw [HRK1.out, if_pos ⟨by rw [hxn]; rfl, hxg, hsm⟩])
                have HXN := Lib.hid (And.intro hxn hxg); clear hxn hxg
                go_wp2_with fail
                rw [HW.out]
                go_quiet ((go_at_call 73; exact Calls.quiet_of (refSameA_any _ _ p.1.attrs o.attrs _ _ _ (by exact HIT.out.agree (fun _ _ _ => rfl)) (by exact HVW.out.agree (fun _ _ _ => rfl)))))
                simp only [hsm]
                clear hsm
                have hpn := HKB.out p.1 (by simp)
                have hBQ : Below wr.heap.size wr (W.drewN nq) := below_drewN HBW2.out _
                have y1q : (W.drewN nq).cell? ⟨kb, (m - 1) * 4 + 1, none⟩ = some (.int .i64 p.1.n) := y1'
                have fzq : (W.drewN nq).frozen? ⟨kb, (m - 1) * 4 + 1, none⟩ = false := by
                  have hkp := (HG.out.pure hBQ).keep.1
                  rw [HKM.out] at hkp
                  exact hkp.frozenAt _
                have hbxQ : (W.drewN nq).heap[wr.heap.size]? = some (.cells #[.int .i64 o.kind, .int .i64 o.n, .string o.text, .slice A2 o.attrs.length cap2] 48 (0, 0)) := HBX.out
                have hGJ : GInv ((W.drewN nq).setCell ⟨kb, (m - 1) * 4 + 1, none⟩ (.int .i64 (p.1.n + o.n))).drew w1.heap.size (.slice (some ⟨gb, 0, none⟩) (init.length + 1) gcap) (.slice (some ⟨kb, 0, none⟩) m kc) (init ++ [x]) (ki ++ [(⟨p.1.kind, p.1.n + o.n, p.1.text, p.1.attrs⟩, p.2)]) := by
                  have hg0 := HG.out.pure hBQ
                  have hmm : m = ki.length + 1 := by have := HM1.out; omega
                  rw [hmm] at hg0 ⊢
                  rw [show ki.length + 1 - 1 = ki.length by omega]
                  exact (hg0.keepN (p.1.n + o.n)).drew
                have hbJ : Below w1.heap.size w1 ((W.drewN nq).setCell ⟨kb, (m - 1) * 4 + 1, none⟩ (.int .i64 (p.1.n + o.n))).drew := by
                  have hkp := HG.out.keep.1
                  rw [HKM.out] at hkp
                  exact below_drew ((below_drewN HBW.out nq).setCell (p := ⟨kb, (m - 1) * 4 + 1, none⟩) (hkp.lt kb rfl).1 _)
                have hcJ := (hbJ.block w.heap.size (by omega)).trans HCX3.out
                have HF := Lib.hid (show NRel f (some ⟨b, off, none⟩) cap ops w.heap.size w1 (.slice (some ⟨gb, 0, none⟩) (init.length + 1) gcap) (.slice (some ⟨kb, 0, none⟩) m kc) (k + 1) ((W.drewN nq).setCell ⟨kb, (m - 1) * 4 + 1, none⟩ (.int .i64 (p.1.n + o.n))).drew from
                  ⟨init, x, _, hbJ, hcJ, hGJ, by rw [HRJ.out]; simp⟩)
                clear hGJ hbJ hcJ
                have hWQ : (W.drewN nq).heap.size = wr.heap.size + 1 := hWs
                generalize W.drewN nq = W5 at *
                obtain ⟨b0, b1, b2, b3⟩ := box4 hbxQ
                have hkne : kb ≠ wr.heap.size := by omega
                have e5 : IntKind.i64.wrap (p.1.n + o.n) = p.1.n + o.n := IntWalk.i64_in _ (by omega)
                clear hbxQ y1' y3' c4 c5 z0 z1 z2 z3 hBQ
                go_wp2_with fail
                go_region
                go_wp2
                exact ⟨⟨k + 1, by omega, by go_num, HF.out⟩, by simp [intOf]; omega⟩
              | false =>
                have HRK := Lib.hid (HRKF.out (fun e => by rw [hsm] at e; cases e.2.2))
                go_wp2_with fail
                rw [HW.out]
                go_quiet ((go_at_call 73; exact Calls.quiet_of (refSameA_any _ _ p.1.attrs o.attrs _ _ _ (by exact HIT.out.agree (fun _ _ _ => rfl)) (by exact HVW.out.agree (fun _ _ _ => rfl)))))
                simp only [hsm]
                clear hsm g1 g2 e1 e2 e3 e4 y1' y3' c4 c5
                generalize (some (⟨kb, 0, none⟩ : Addr)) = kA at *
                have hBQ : Below wr.heap.size wr (W.drewN nq) := below_drewN HBW2.out _
                have hbxQ : (W.drewN nq).heap[wr.heap.size]? = some (.cells #[.int .i64 o.kind, .int .i64 o.n, .string o.text, .slice A2 o.attrs.length cap2] 48 (0, 0)) := HBX.out
                have hWQ : (W.drewN nq).heap.size = wr.heap.size + 1 := hWs
                generalize W.drewN nq = W5 at *
                have HBQ := Lib.hid hBQ
                have HBXQ := Lib.hid hbxQ
                have HVQ := Lib.hid (HVA.out.pure hBQ)
                have hgQ := HG.out.pure hBQ
                have HGQ := Lib.hid hgQ
                have hkoQ : W5.ownsRow w1.heap.size 48 4 (.slice kA m kc) m (flat cellsP (ki ++ [p])) := by have := hgQ.keep.1; rwa [HKM.out] at this
                have HKOQ := Lib.hid hkoQ
                have hneQ : (Value.slice kA m kc).ownBlock ≠ some wr.heap.size := fun e => by
                  have := HG.out.keep.1
                  have := (this.lt _ e).2; omega
                have HNEQ := Lib.hid hneQ
                obtain ⟨b0, b1, b2, b3⟩ := box4 hbxQ
                have hlQ := heap_lt hbxQ
                clear hBQ hbxQ hgQ hkoQ hneQ
                go_wp2_with fail
                go_region_held3 (fun w' => w'.cell? ⟨wr.heap.size, 1, none⟩ = some (.int .i64 o.n) ∧ w'.cell? ⟨wr.heap.size, 3, none⟩ = some (.slice A2 o.attrs.length cap2))
                  (first | go_keep | exact ⟨(box4 hbd).2.1, (box4 hbd).2.2.2⟩ | exact ⟨(box4 hbc).2.1, (box4 hbc).2.2.2⟩)
                  (first
                    | ((go_at_call 74); refine (copiedA_any _ o.attrs _ _ (by exact HVQ.out.agree (fun _ _ _ => rfl))).mono ?_; rintro e w1c ⟨v1, rfl, hb1c, hown1⟩; obtain ⟨A1, cap1, rfl⟩ := own_form hown1; have hbw1 : Below W5.heap.size W5 w1c := ⟨hb1c.os, hb1c.tape, hb1c.output, hb1c.size, hb1c.block⟩; have hsz1 := hbw1.size; have hbc := (hbw1.block _ hlQ).trans HBXQ.out; have hlc := heap_lt hbc; clear hb1c)
                    | (refine step_append_lies _ (by rfl) _ _ _ (by rfl) w1.heap.size 48 i0 _ 4 56 Tryz.underlying22 hi hz0 hz1 hz2 rfl (by omega) (.slice kA m kc) m (flat cellsP (ki ++ [p])) (by rfl) ((own_below HKOQ.out hbw1).alloc _)
                        ⟨w1c.heap.size, 0, none⟩ 1 1 [.int .i64 1, .int .i64 o.n, .string ⟨#[]⟩, .slice A1 o.attrs.length cap1] (by rfl) (by rfl) (World.news_of_block (cs := #[.int .i64 1, .int .i64 o.n, .string ⟨#[]⟩, .slice A1 o.attrs.length cap1]) (t := 48) (fr := (0, 0)) (heap_alloc_new w1c _)) (by simp [Value.oneCell'])
                        (by omega) (by unfold maxLen; omega) (by omega) (by simp; omega) (w1c.heap.size + 1) (by simp) ?_; intro gg dap2 w3 hown3 hgrow hat hlt3; have hbd := (hgrow.block wr.heap.size (by simp; omega) (fun e => HNEQ.out e.symm)).trans ((Below.heap_alloc w1c _ wr.heap.size hlc).trans hbc)))
                have hX3 := HGQ.out.pure (hbw1.alloc hsz1 (.cells #[.int .i64 1, .int .i64 o.n, .string ⟨#[]⟩, .slice A1 o.attrs.length cap1] 48))
                have hG15 := hX3.keepPush (p := (keepOp o.n o.attrs, .slice A1 o.attrs.length cap1)) hgrow (by
                  rw [flat_append, flat_one, List.length_append, HKM.out]; exact hown3) ⟨own_rdA (hown1.alloc _) (by show w1.heap.size ≤ W5.heap.size; omega) HVQ.out.sizes (by have := HVA.out.open_; obtain ⟨_, _, _, _, _, q, _⟩ := this; exact q), by show (⟨#[]⟩ : ByteArray).size ≤ _; decide⟩ (fun q hq => by
                    simp [Value.ownBlock] at hq
                    subst hq
                    rcases hat with e | e
                    · exact .inl e
                    · right; rw [e]; simp)
                have hg15 := hG15.own
                rw [show (init ++ [x]).length = init.length + 1 by simp] at hg15
                have hbw3 : Below w1.heap.size w1 w3 := (((hb.trans (HBQ.out.mono (by omega))).trans (hbw1.mono (by have := HBQ.out.size; omega))).alloc (by omega) _).grown hgrow (by simp; omega) (fun q hq => by
                  have hkp := HG.out.keep.1
                  rw [HKM.out] at hkp
                  exact (hkp.lt q hq).1)
                have hc15 := hbw3.block w.heap.size (by omega)
                have HG15 := Lib.hid hG15; have Hg15 := Lib.hid hg15; have HB3 := Lib.hid hbw3; have HC15 := Lib.hid hc15
                have hs15 := hbw3.size
                clear hX3 hG15 hg15 hbw3 hc15 hbc hbd hgrow hown3 hown1 hat b0 b1 b2 b3
                have q1 : init.length + 1 + 1 ≤ maxLen := by unfold maxLen; omega
                have q2 : w1.heap.size ≤ (w3.alloc (.cells #[.slice none 0 0, .int .i64 0] 104)).heap.size := by simp; omega
                have Q1 := Lib.hid q1; have Q2 := Lib.hid q2; clear q1 q2
                go_wp2_with (at_builtin; refine wpList_append_own _ rfl _ _ 105 rfl w1.heap.size 104 j0 (.agg #[.slice none 0 0, .int .i64 0]) 2 32 Tryz.underlying105 hj hy0 hy1 hy2 rfl (by decide) _ _ _ rfl (Hg15.out.alloc _) ⟨w3.heap.size, 0, none⟩ 1 1 [.slice none 0 0, .int .i64 0] rfl rfl two_cells' two_one Q1.out (by omega) Q2.out ?_)
                intro v4 w4 hown4 hgrow4 _
                have hG16 := (HG15.out.pure ((Below.refl _ w3).alloc (Nat.le_refl _) (.cells #[.slice none 0 0, .int .i64 0] 104))).grpPush hgrow4 (by
                  rw [show (init ++ [x]).length = init.length + 1 by simp]; exact hown4)
                have hb16 : Below w1.heap.size w1 w4 := (HB3.out.alloc HB3.out.size _).grown hgrow4 (by simp; omega) (fun q hq => (Hg15.out.lt q hq).1)
                have hc16 := (hb16.block w.heap.size (by omega)).trans HCX3.out
                have HF := Lib.hid (show NRel f (some ⟨b, off, none⟩) cap ops w.heap.size w1 v4 (.slice (some ⟨gg, 0, none⟩) (m + 1) dap2) (k + 1) w4 from
                  ⟨init ++ [x], _, _, hb16, hc16, hG16, by rw [HRK.out]; simp [rgOf]⟩)
                clear hG16 hb16 hc16 hgrow4 hown4
                go_wp2
                exact ⟨⟨k + 1, by omega, by go_num, HF.out⟩, by simp [intOf]; omega⟩
            · have HRK := Lib.hid (HRKF.out (fun e => hxg e.2.1))
              have j1 : (x.gone == 0) = false := by simpa using hxg
              clear hxg
              go_wp2_with fail
              rw [HW.out]
              go_quiet (fail)
              clear g1 g2 e1 e2 e3 e4 j1 y1' y3' c4 c5
              generalize (some (⟨kb, 0, none⟩ : Addr)) = kA at *
              have hBQ : Below wr.heap.size wr (W.drewN nq) := below_drewN HBW2.out _
              have hbxQ : (W.drewN nq).heap[wr.heap.size]? = some (.cells #[.int .i64 o.kind, .int .i64 o.n, .string o.text, .slice A2 o.attrs.length cap2] 48 (0, 0)) := HBX.out
              have hWQ : (W.drewN nq).heap.size = wr.heap.size + 1 := hWs
              generalize W.drewN nq = W5 at *
              have HBQ := Lib.hid hBQ
              have HBXQ := Lib.hid hbxQ
              have HVQ := Lib.hid (HVA.out.pure hBQ)
              have hgQ := HG.out.pure hBQ
              have HGQ := Lib.hid hgQ
              have hkoQ : W5.ownsRow w1.heap.size 48 4 (.slice kA m kc) m (flat cellsP (ki ++ [p])) := by have := hgQ.keep.1; rwa [HKM.out] at this
              have HKOQ := Lib.hid hkoQ
              have hneQ : (Value.slice kA m kc).ownBlock ≠ some wr.heap.size := fun e => by
                have := HG.out.keep.1
                have := (this.lt _ e).2; omega
              have HNEQ := Lib.hid hneQ
              obtain ⟨b0, b1, b2, b3⟩ := box4 hbxQ
              have hlQ := heap_lt hbxQ
              clear hBQ hbxQ hgQ hkoQ hneQ
              go_wp2_with fail
              go_region_held3 (fun w' => w'.cell? ⟨wr.heap.size, 1, none⟩ = some (.int .i64 o.n) ∧ w'.cell? ⟨wr.heap.size, 3, none⟩ = some (.slice A2 o.attrs.length cap2))
                (first | go_keep | exact ⟨(box4 hbd).2.1, (box4 hbd).2.2.2⟩ | exact ⟨(box4 hbc).2.1, (box4 hbc).2.2.2⟩)
                (first
                  | ((go_at_call 74); refine (copiedA_any _ o.attrs _ _ (by exact HVQ.out.agree (fun _ _ _ => rfl))).mono ?_; rintro e w1c ⟨v1, rfl, hb1c, hown1⟩; obtain ⟨A1, cap1, rfl⟩ := own_form hown1; have hbw1 : Below W5.heap.size W5 w1c := ⟨hb1c.os, hb1c.tape, hb1c.output, hb1c.size, hb1c.block⟩; have hsz1 := hbw1.size; have hbc := (hbw1.block _ hlQ).trans HBXQ.out; have hlc := heap_lt hbc; clear hb1c)
                  | (refine step_append_lies _ (by rfl) _ _ _ (by rfl) w1.heap.size 48 i0 _ 4 56 Tryz.underlying22 hi hz0 hz1 hz2 rfl (by omega) (.slice kA m kc) m (flat cellsP (ki ++ [p])) (by rfl) ((own_below HKOQ.out hbw1).alloc _)
                      ⟨w1c.heap.size, 0, none⟩ 1 1 [.int .i64 1, .int .i64 o.n, .string ⟨#[]⟩, .slice A1 o.attrs.length cap1] (by rfl) (by rfl) (World.news_of_block (cs := #[.int .i64 1, .int .i64 o.n, .string ⟨#[]⟩, .slice A1 o.attrs.length cap1]) (t := 48) (fr := (0, 0)) (heap_alloc_new w1c _)) (by simp [Value.oneCell'])
                      (by omega) (by unfold maxLen; omega) (by omega) (by simp; omega) (w1c.heap.size + 1) (by simp) ?_; intro gg dap2 w3 hown3 hgrow hat hlt3; have hbd := (hgrow.block wr.heap.size (by simp; omega) (fun e => HNEQ.out e.symm)).trans ((Below.heap_alloc w1c _ wr.heap.size hlc).trans hbc)))
              have hX3 := HGQ.out.pure (hbw1.alloc hsz1 (.cells #[.int .i64 1, .int .i64 o.n, .string ⟨#[]⟩, .slice A1 o.attrs.length cap1] 48))
              have hG15 := hX3.keepPush (p := (keepOp o.n o.attrs, .slice A1 o.attrs.length cap1)) hgrow (by
                rw [flat_append, flat_one, List.length_append, HKM.out]; exact hown3) ⟨own_rdA (hown1.alloc _) (by show w1.heap.size ≤ W5.heap.size; omega) HVQ.out.sizes (by have := HVA.out.open_; obtain ⟨_, _, _, _, _, q, _⟩ := this; exact q), by show (⟨#[]⟩ : ByteArray).size ≤ _; decide⟩ (fun q hq => by
                  simp [Value.ownBlock] at hq
                  subst hq
                  rcases hat with e | e
                  · exact .inl e
                  · right; rw [e]; simp)
              have hg15 := hG15.own
              rw [show (init ++ [x]).length = init.length + 1 by simp] at hg15
              have hbw3 : Below w1.heap.size w1 w3 := (((hb.trans (HBQ.out.mono (by omega))).trans (hbw1.mono (by have := HBQ.out.size; omega))).alloc (by omega) _).grown hgrow (by simp; omega) (fun q hq => by
                have hkp := HG.out.keep.1
                rw [HKM.out] at hkp
                exact (hkp.lt q hq).1)
              have hc15 := hbw3.block w.heap.size (by omega)
              have HG15 := Lib.hid hG15; have Hg15 := Lib.hid hg15; have HB3 := Lib.hid hbw3; have HC15 := Lib.hid hc15
              have hs15 := hbw3.size
              clear hX3 hG15 hg15 hbw3 hc15 hbc hbd hgrow hown3 hown1 hat b0 b1 b2 b3
              have q1 : init.length + 1 + 1 ≤ maxLen := by unfold maxLen; omega
              have q2 : w1.heap.size ≤ (w3.alloc (.cells #[.slice none 0 0, .int .i64 0] 104)).heap.size := by simp; omega
              have Q1 := Lib.hid q1; have Q2 := Lib.hid q2; clear q1 q2
              go_wp2_with (at_builtin; refine wpList_append_own _ rfl _ _ 105 rfl w1.heap.size 104 j0 (.agg #[.slice none 0 0, .int .i64 0]) 2 32 Tryz.underlying105 hj hy0 hy1 hy2 rfl (by decide) _ _ _ rfl (Hg15.out.alloc _) ⟨w3.heap.size, 0, none⟩ 1 1 [.slice none 0 0, .int .i64 0] rfl rfl two_cells' two_one Q1.out (by omega) Q2.out ?_)
              intro v4 w4 hown4 hgrow4 _
              have hG16 := (HG15.out.pure ((Below.refl _ w3).alloc (Nat.le_refl _) (.cells #[.slice none 0 0, .int .i64 0] 104))).grpPush hgrow4 (by
                rw [show (init ++ [x]).length = init.length + 1 by simp]; exact hown4)
              have hb16 : Below w1.heap.size w1 w4 := (HB3.out.alloc HB3.out.size _).grown hgrow4 (by simp; omega) (fun q hq => (Hg15.out.lt q hq).1)
              have hc16 := (hb16.block w.heap.size (by omega)).trans HCX3.out
              have HF := Lib.hid (show NRel f (some ⟨b, off, none⟩) cap ops w.heap.size w1 v4 (.slice (some ⟨gg, 0, none⟩) (m + 1) dap2) (k + 1) w4 from
                ⟨init ++ [x], _, _, hb16, hc16, hG16, by rw [HRK.out]; simp [rgOf]⟩)
              clear hG16 hb16 hc16 hgrow4 hown4
              go_wp2
              exact ⟨⟨k + 1, by omega, by go_num, HF.out⟩, by simp [intOf]; omega⟩
        · have hks : ks = [] := List.eq_nil_of_length_eq_zero (by have := HKM.out; omega)
          have HRK := Lib.hid (show rFold (ops.take (k + 1)) = ⟨(init ++ [x]).map rgOf ++ [⟨[], 0⟩], ks.map Prod.fst ++ [keepOp o.n o.attrs]⟩ by rw [HRK0.out, hks]; exact rKeep_nil _ _ _)
          clear hks
          have g1 : decide ((0 : Int) ≤ (m : Int) - 1) = false := decide_eq_false (by omega)
          have g2 : decide ((1 : Int) ≤ (m : Int)) = false := decide_eq_false (by omega)
          go_wp2_with fail
          rw [HW.out]
          go_quiet (fail)
          clear g1 g2
          have hBQ : Below wr.heap.size wr (W.drewN nq) := below_drewN HBW2.out _
          have hbxQ : (W.drewN nq).heap[wr.heap.size]? = some (.cells #[.int .i64 o.kind, .int .i64 o.n, .string o.text, .slice A2 o.attrs.length cap2] 48 (0, 0)) := HBX.out
          have hWQ : (W.drewN nq).heap.size = wr.heap.size + 1 := hWs
          generalize W.drewN nq = W5 at *
          have HBQ := Lib.hid hBQ
          have HBXQ := Lib.hid hbxQ
          have HVQ := Lib.hid (HVA.out.pure hBQ)
          have hgQ := HG.out.pure hBQ
          have HGQ := Lib.hid hgQ
          have hkoQ : W5.ownsRow w1.heap.size 48 4 (.slice kA m kc) m (flat cellsP ks) := by have := hgQ.keep.1; rwa [HKM.out] at this
          have HKOQ := Lib.hid hkoQ
          have hneQ : (Value.slice kA m kc).ownBlock ≠ some wr.heap.size := fun e => by
            have := HG.out.keep.1
            have := (this.lt _ e).2; omega
          have HNEQ := Lib.hid hneQ
          obtain ⟨b0, b1, b2, b3⟩ := box4 hbxQ
          have hlQ := heap_lt hbxQ
          clear hBQ hbxQ hgQ hkoQ hneQ
          go_wp2_with fail
          go_region_held3 (fun w' => w'.cell? ⟨wr.heap.size, 1, none⟩ = some (.int .i64 o.n) ∧ w'.cell? ⟨wr.heap.size, 3, none⟩ = some (.slice A2 o.attrs.length cap2))
            (first | go_keep | exact ⟨(box4 hbd).2.1, (box4 hbd).2.2.2⟩ | exact ⟨(box4 hbc).2.1, (box4 hbc).2.2.2⟩)
            (first
              | ((go_at_call 74); refine (copiedA_any _ o.attrs _ _ (by exact HVQ.out.agree (fun _ _ _ => rfl))).mono ?_; rintro e w1c ⟨v1, rfl, hb1c, hown1⟩; obtain ⟨A1, cap1, rfl⟩ := own_form hown1; have hbw1 : Below W5.heap.size W5 w1c := ⟨hb1c.os, hb1c.tape, hb1c.output, hb1c.size, hb1c.block⟩; have hsz1 := hbw1.size; have hbc := (hbw1.block _ hlQ).trans HBXQ.out; have hlc := heap_lt hbc; clear hb1c)
              | (refine step_append_lies _ (by rfl) _ _ _ (by rfl) w1.heap.size 48 i0 _ 4 56 Tryz.underlying22 hi hz0 hz1 hz2 rfl (by omega) (.slice kA m kc) m (flat cellsP ks) (by rfl) ((own_below HKOQ.out hbw1).alloc _)
                  ⟨w1c.heap.size, 0, none⟩ 1 1 [.int .i64 1, .int .i64 o.n, .string ⟨#[]⟩, .slice A1 o.attrs.length cap1] (by rfl) (by rfl) (World.news_of_block (cs := #[.int .i64 1, .int .i64 o.n, .string ⟨#[]⟩, .slice A1 o.attrs.length cap1]) (t := 48) (fr := (0, 0)) (heap_alloc_new w1c _)) (by simp [Value.oneCell'])
                  (by omega) (by unfold maxLen; omega) (by omega) (by simp; omega) (w1c.heap.size + 1) (by simp) ?_; intro gg dap2 w3 hown3 hgrow hat hlt3; have hbd := (hgrow.block wr.heap.size (by simp; omega) (fun e => HNEQ.out e.symm)).trans ((Below.heap_alloc w1c _ wr.heap.size hlc).trans hbc)))
          have hX3 := HGQ.out.pure (hbw1.alloc hsz1 (.cells #[.int .i64 1, .int .i64 o.n, .string ⟨#[]⟩, .slice A1 o.attrs.length cap1] 48))
          have hG15 := hX3.keepPush (p := (keepOp o.n o.attrs, .slice A1 o.attrs.length cap1)) hgrow (by
            rw [flat_append, flat_one, List.length_append, HKM.out]; exact hown3) ⟨own_rdA (hown1.alloc _) (by show w1.heap.size ≤ W5.heap.size; omega) HVQ.out.sizes (by have := HVA.out.open_; obtain ⟨_, _, _, _, _, q, _⟩ := this; exact q), by show (⟨#[]⟩ : ByteArray).size ≤ _; decide⟩ (fun q hq => by
              simp [Value.ownBlock] at hq
              subst hq
              rcases hat with e | e
              · exact .inl e
              · right; rw [e]; simp)
          have hg15 := hG15.own
          rw [show (init ++ [x]).length = init.length + 1 by simp] at hg15
          have hbw3 : Below w1.heap.size w1 w3 := (((hb.trans (HBQ.out.mono (by omega))).trans (hbw1.mono (by have := HBQ.out.size; omega))).alloc (by omega) _).grown hgrow (by simp; omega) (fun q hq => by
            have hkp := HG.out.keep.1
            rw [HKM.out] at hkp
            exact (hkp.lt q hq).1)
          have hc15 := hbw3.block w.heap.size (by omega)
          have HG15 := Lib.hid hG15; have Hg15 := Lib.hid hg15; have HB3 := Lib.hid hbw3; have HC15 := Lib.hid hc15
          have hs15 := hbw3.size
          clear hX3 hG15 hg15 hbw3 hc15 hbc hbd hgrow hown3 hown1 hat b0 b1 b2 b3
          have q1 : init.length + 1 + 1 ≤ maxLen := by unfold maxLen; omega
          have q2 : w1.heap.size ≤ (w3.alloc (.cells #[.slice none 0 0, .int .i64 0] 104)).heap.size := by simp; omega
          have Q1 := Lib.hid q1; have Q2 := Lib.hid q2; clear q1 q2
          go_wp2_with (at_builtin; refine wpList_append_own _ rfl _ _ 105 rfl w1.heap.size 104 j0 (.agg #[.slice none 0 0, .int .i64 0]) 2 32 Tryz.underlying105 hj hy0 hy1 hy2 rfl (by decide) _ _ _ rfl (Hg15.out.alloc _) ⟨w3.heap.size, 0, none⟩ 1 1 [.slice none 0 0, .int .i64 0] rfl rfl two_cells' two_one Q1.out (by omega) Q2.out ?_)
          intro v4 w4 hown4 hgrow4 _
          have hG16 := (HG15.out.pure ((Below.refl _ w3).alloc (Nat.le_refl _) (.cells #[.slice none 0 0, .int .i64 0] 104))).grpPush hgrow4 (by
            rw [show (init ++ [x]).length = init.length + 1 by simp]; exact hown4)
          have hb16 : Below w1.heap.size w1 w4 := (HB3.out.alloc HB3.out.size _).grown hgrow4 (by simp; omega) (fun q hq => (Hg15.out.lt q hq).1)
          have hc16 := (hb16.block w.heap.size (by omega)).trans HCX3.out
          have HF := Lib.hid (show NRel f (some ⟨b, off, none⟩) cap ops w.heap.size w1 v4 (.slice (some ⟨gg, 0, none⟩) (m + 1) dap2) (k + 1) w4 from
            ⟨init ++ [x], _, _, hb16, hc16, hG16, by rw [HRK.out]; simp [rgOf]⟩)
          clear hG16 hb16 hc16 hgrow4 hown4
          go_wp2
          exact ⟨⟨k + 1, by omega, by go_num, HF.out⟩, by simp [intOf]; omega⟩
      · have kt : (o.kind == 2) = true := by simpa using hk2
        have HK2 := Lib.hid (And.intro hk2 hp2); clear hk2 hp2 ht2
        have HGX2 := Lib.hid (And.intro hgx2 (And.intro hcu0 hcu1)); clear hgx2 hcu0 hcu1 hgx
        have HBW := Lib.hid hbW; clear hbW
        go_wp2_with fail
        refine (refInsert_any w1.heap.size gb (init.length * 2) cur o _ _ x.v x.items _ HGX2.out.1 HGX2.out.2.1 (by omega) (HGW.out.grp x (by simp)) HVW.out HK2.out.1 HK2.out.2 (by omega) (by omega) (fun y hy => by have := HX3.out y hy; omega)).mono ?_
        intro e w2 hp
        obtain ⟨x', hG2, hrg, hbl2⟩ := HGW.out.insert HGX2.out.1 hp (by
          unfold insM
          split
          · simp
          · split <;> simp) (by omega)
        have hpe := hp.1
        subst hpe
        have hcb2 := (hbl2.block _ (by omega)).trans HCW.out
        have HF2 := Lib.hid (show NRel f (some ⟨b, off, none⟩) cap ops w.heap.size w1 (.slice (some ⟨gb, 0, none⟩) (init.length + 1) gcap) (.slice kA m kc) (k + 1) w2 from
          ⟨init, x', ks, HBW.out.trans hbl2, hcb2, hG2, by
            rw [HRS.out, HR.out, List.map_append, List.map_cons, List.map_nil, rStep_snoc, if_pos HK2.out.1, List.map_append, List.map_cons, List.map_nil, hrg]; rfl⟩)
        clear hp hG2 hcb2 hbl2
        go_wp2
        exact ⟨⟨k + 1, by omega, by go_num, HF2.out⟩, by simp [intOf]; omega⟩
      · have kf : (o.kind == 2) = false := by simp; omega
        have kt : (o.kind == 3) = true := by simpa using hk3
        have HK3 := Lib.hid hk3; clear hk3 hl3 ht3
        have c4 : (wr.alloc (.cells #[.int .i64 o.kind, .int .i64 o.n, .string o.text, .slice A2 o.attrs.length cap2] 48)).cell? ⟨gb, init.length * 2 + 1, none⟩ = some (.int .i64 x.gone) := (cell_heap hgx2 _).trans hcu1
        have f4 := froz_heap hgx2 (init.length * 2 + 1)
        have hne : gb ≠ wr.heap.size := by omega
        obtain ⟨z0, z1, z2, z3⟩ := box4 hbx2
        have e5 : IntKind.i64.wrap (x.gone + o.n) = x.gone + o.n := IntWalk.i64_in _ (by omega)
        have HBW := Lib.hid hbW; clear hbW
        obtain ⟨W, hW⟩ : ∃ W, wr.alloc (.cells #[.int .i64 o.kind, .int .i64 o.n, .string o.text, .slice A2 o.attrs.length cap2] 48) = W := ⟨_, rfl⟩
        have hgc : gb < W.heap.size := by rw [← hW]; simp; omega
        have hG3 : GInv (W.setCell ⟨gb, init.length * 2 + 1, none⟩ (.int .i64 (x.gone + o.n))).drew w1.heap.size (.slice (some ⟨gb, 0, none⟩) (init.length + 1) gcap) (.slice kA m kc) (init ++ [⟨x.v, x.gone + o.n, x.items⟩]) ks := by
          rw [← hW]; exact (HGW.out.count (x.gone + o.n)).drew
        have hb3 : Below w1.heap.size w1 (W.setCell ⟨gb, init.length * 2 + 1, none⟩ (.int .i64 (x.gone + o.n))).drew := by
          rw [← hW]; exact below_drew (HBW.out.setCell (p := ⟨gb, init.length * 2 + 1, none⟩) hgb _)
        have hc3 : (W.setCell ⟨gb, init.length * 2 + 1, none⟩ (.int .i64 (x.gone + o.n))).drew.heap[w.heap.size]? = some (.cells #[.int .i64 f, .slice (some ⟨b, off, none⟩) ops.length cap] 24 (0, 0)) := by
          rw [← hW]
          show ((wr.alloc _).setCell _ _).heap[w.heap.size]? = _
          rw [Below.heap_setCell _ _ _ _ (by show w.heap.size ≠ gb; omega)]; exact HCW.out
        have HF3 := Lib.hid (show NRel f (some ⟨b, off, none⟩) cap ops w.heap.size w1 (.slice (some ⟨gb, 0, none⟩) (init.length + 1) gcap) (.slice kA m kc) (k + 1) (W.setCell ⟨gb, init.length * 2 + 1, none⟩ (.int .i64 (x.gone + o.n))).drew from
          ⟨init, _, ks, hb3, hc3, hG3, by
            rw [HRS.out, HR.out, List.map_append, List.map_cons, List.map_nil, rStep_snoc, if_neg (by have := HK3.out; omega), if_pos HK3.out, List.map_append, List.map_cons, List.map_nil]; rfl⟩)
        have HW := Lib.hid hW
        clear hG3 hb3 hc3 hgx2 hcu0 hcu1 hgx
        rw [hW] at c4 f4 z0 z1 z2 z3 hWs
        clear hW
        go_wp2_with fail
        rw [HW.out]
        go_region
        go_wp2
        exact ⟨⟨k + 1, by omega, by go_num, HF3.out⟩, by simp [intOf]; omega⟩
    · have dk : decide ((k : Int) < (ops.length : Int)) = false := decide_eq_false (by omega)
      obtain rfl : k = ops.length := by omega
      have HRA := Lib.hid (show rFold ops = ⟨(init ++ [x]).map rgOf, ks.map Prod.fst⟩ by rw [← HR.out, List.take_of_length_le (Nat.le_refl _)])
      have HBD := Lib.hid (show RBd ⟨(init ++ [x]).map rgOf, ks.map Prod.fst⟩ ops.length by
        have := RBd.all HOK.out ops.length (Nat.le_refl _)
        rw [HR.out] at this; exact this)
      have hlens : ks.length = init.length := by
        obtain ⟨init', g, pre, r1, r2, _⟩ := (RInv.all ops HOKO.out).rep
        rw [HRA.out] at r1 r2
        have a1 := congrArg List.length r1
        have a2 := r2.len
        simp at a1 a2; omega
      obtain ⟨gb, gcap, cur, hgv, hgb, hgx, hcu0, hcu1⟩ := HG.out.head
      obtain ⟨kc, kA, hkv⟩ : ∃ kc kA, u6 = .slice kA ks.length kc := by
        obtain ⟨a, b, h⟩ := own_form HG.out.keep.1; exact ⟨b, a, h⟩
      obtain ⟨m, hm'⟩ : ∃ m, init.length = m := ⟨_, rfl⟩
      rw [hm'] at hgv
      rw [hlens, hm'] at hkv
      subst hgv
      subst hkv
      have hmb : m ≤ 2000 := by have := HBD.out.lg; simp at this; omega
      rw [hm'] at hlens
      have HMM := Lib.hid (And.intro hm' hlens); clear hm' hlens
      obtain ⟨gs, hgs⟩ : ∃ gs, init ++ [x] = gs := ⟨_, rfl⟩
      have hgl : gs.length = m + 1 := by rw [← hgs, List.length_append, HMM.out.1]; rfl
      rw [hgs] at HG HRA HBD
      have HGL := Lib.hid hgl
      clear hgs hgl hgx hcu0 hcu1
      have hwr1 := hb.size
      have hO0 : OutSt f wr w1.heap.size (wr.alloc (.cells #[.int .i64 f, .slice none 0 0] 24)) (.slice none 0 0) [] :=
        ⟨(Below.refl _ _).alloc (Nat.le_refl _) _, heap_alloc_new wr _, ⟨World.ownsRow_nil _ _ _ _, by simp⟩, fun k hk => by simp [Value.ownBlock] at hk⟩
      have HO0 := Lib.hid hO0; clear hO0
      go_wp2_with fail
      obtain ⟨V, rfl⟩ : ∃ V, V = wr := ⟨_, rfl⟩
      go_loopg [12] (m + 1) (fun g i wr => ORel f V w1.heap.size m (gs.map rgOf) (ks.map Prod.fst) g i wr)
      case atStart => exact ⟨0, by omega, rfl, _, [], HO0.out, by simp, rfl⟩
      case round =>
        clear HO0
        obtain ⟨k, hk, rfl, hM⟩ := hrel
        obtain ⟨ov, acc0, hO, hal, hacc⟩ := hM
        obtain ⟨oA0, oc0, hov⟩ := own_form hO.own.1
        subst hov
        have HO0 := Lib.hid hO; clear hO
        have HAC := Lib.hid hacc; clear hacc
        have HGW0 := Lib.hid (HG.out.pure HO0.out.below)
        have hVs0 := HO0.out.below.size
        obtain ⟨o00, o10⟩ := box2 HO0.out.box
        have hol0 := heap_lt HO0.out.box
        have fo10 := froz_heap HO0.out.box 1
        have HGW0 := Lib.hid (HG.out.pure HO0.out.below)
        have hne0 : (Value.slice oA0 acc0.length oc0).ownBlock ≠ some V.heap.size := own_ne HO0.out.own.1 HO0.out.box (by decide)
        have HOW0 := Lib.hid HO0.out.own.1
        by_cases hlt : k < m + 1
        · have dk : decide ((k : Int) < (m : Int) + 1) = true := decide_eq_true (by omega)
          have hbk : bnd k ≤ 6006000 := bnd_le (by omega)
          have hgbV : gb < V.heap.size := (HG.out.own.lt gb rfl).2
          have hkg : k < gs.length := by rw [HGL.out]; exact hlt
          have HYM := Lib.hid (List.getElem_mem hkg)
          have HYK := Lib.hid (List.getElem?_eq_getElem hkg)
          have HBY := Lib.hid (HBD.out.gs (rgOf gs[k]) (List.mem_map_of_mem (List.getElem_mem hkg)))
          obtain ⟨y, hye⟩ : ∃ y, gs[k] = y := ⟨_, rfl⟩
          have HYE := Lib.hid hye
          rw [hye] at HYM HYK HBY
          clear hye
          have hyl : y.items.length ≤ 2000 := by
            have := HBY.out.2.2.1
            have e : (rgOf y).ins.length = y.items.length := by simp [rgOf]
            omega
          obtain ⟨L1, hL1⟩ : ∃ L1 : List OpM, L1 = (if k = 0 then [] else (ks.map Prod.fst)[k - 1]?.toList) := ⟨_, rfl⟩
          have HRP := Lib.hid (show rAcc (gs.map rgOf) (ks.map Prod.fst) (k + 1) = rAcc (gs.map rgOf) (ks.map Prod.fst) k ++ L1 ++ y.items.map Prod.fst ++ (if 0 < y.gone then [delOp y.gone] else []) by
            show rAcc _ _ k ++ rPiece _ _ k = _
            unfold rPiece
            rw [← hL1, List.getElem?_map, HYK.out, List.append_assoc, List.append_assoc]; rfl)
          have HLA := Lib.hid (show (k = 0 → L1 = []) ∧ ∀ p, ks[k - 1]? = some p → 0 < k → L1 = [p.1] from ⟨fun h => by rw [hL1, if_pos h], fun p hp h => by rw [hL1, if_neg (by omega), List.getElem?_map, hp]; rfl⟩)
          clear hL1
          go_upto_block 4 with fail
          go_cut [12] from 119 to 162 (fun i wx => i = .int .i64 k ∧ OMid f V w1.heap.size (rAcc (gs.map rgOf) (ks.map Prod.fst) (k + 1)) (bnd (k + 1)) wx)
          case first =>
            go_upto_if 126 with fail
            go_cut [12] from 119 to 162 (fun i wx => i = .int .i64 k ∧ OMid f V w1.heap.size (rAcc (gs.map rgOf) (ks.map Prod.fst) k ++ L1) (bnd k + 1) wx)
            case first =>
              by_cases hk0 : 0 < k
              · obtain ⟨kb, hkA⟩ : ∃ kb, kA = some ⟨kb, 0, none⟩ := by
                  have hkp := HG.out.keep.1
                  rw [HMM.out.2] at hkp
                  obtain ⟨rb, cap2, hv, _⟩ := own_form0 hkp (by omega)
                  injection hv with hv; exact ⟨rb, hv⟩
                subst hkA
                have hix : k - 1 < ks.length := by rw [HMM.out.2]; omega
                obtain ⟨y0, y1, y2, y3, hkbl⟩ := HGW0.out.keep.at_ HMM.out.2.symm (k - 1) hix
                have hpit := HGW0.out.keep.2 ks[k - 1] (List.getElem_mem hix)
                have HL1 := Lib.hid (HLA.out.2 ks[k - 1] (List.getElem?_eq_getElem hix) hk0)
                generalize ks[k - 1] = p at *
                have HPIT := Lib.hid hpit; clear hpit
                obtain ⟨A9, cap9, h9, _⟩ := HPIT.out.1.open_
                rw [h9] at y3
                have H9 := Lib.hid h9; clear h9
                clear hix
                obtain ⟨e2, e3, e4, e1⟩ := idx_facts k hk0 (by omega)
                have e6 : (k : Int) - 1 < (m : Int) := by omega
                have e7 : (1 : Int) ≤ (k : Int) := by omega
                have d26 : decide ((0 : Int) < (k : Int)) = true := decide_eq_true (by omega)
                have hkne : kb ≠ V.heap.size := by
                  have hkp := HG.out.keep.1
                  rw [HMM.out.2] at hkp
                  have := (hkp.lt kb rfl).2; omega
                go_wp2_with fail
                go_region_law
                  ((refine step_append_lies _ (by rfl) _ _ _ (by rfl) w1.heap.size 48 i0 _ 4 56 Tryz.underlying22 hi hz0 hz1 hz2 rfl (by omega) (.slice oA0 acc0.length oc0) acc0.length (flat cellsP acc0) (by rfl) (by exact HOW0.out.alloc _)
                      ⟨wr.heap.size, 0, none⟩ 1 1 [.int .i64 p.1.kind, .int .i64 p.1.n, .string p.1.text, .slice A9 p.1.attrs.length cap9] (by rfl) (by rfl) (World.news_of_block (cs := #[.int .i64 p.1.kind, .int .i64 p.1.n, .string p.1.text, .slice A9 p.1.attrs.length cap9]) (t := 48) (fr := (0, 0)) (heap_alloc_new wr _)) (by simp [Value.oneCell'])
                      (by omega) (by unfold maxLen; omega) (by omega) (by first | omega | (simp; omega) | (show w1.heap.size ≤ wr.heap.size; omega)) (wr.heap.size + 1) (by simp) ?_; intro gg dap2 w3 hown3 hgrow hat hlt3; have hb3 := (hgrow.block V.heap.size (by first | omega | (simp; omega) | (show V.heap.size < wr.heap.size; omega)) (fun e => hne0 e.symm)).trans ((Below.heap_alloc wr _ V.heap.size hol0).trans HO0.out.box); have q0 := (box2 hb3).2; have q1 := froz_heap hb3 1))
                all_goals have hfl : flat cellsP [p] = [.int .i64 p.1.kind, .int .i64 p.1.n, .string p.1.text, .slice A9 p.1.attrs.length cap9] := by simp [flat, cellsP, cellsO, H9.out]
                all_goals have hO1 := HO0.out.push (X := (wr.alloc (.cells #[.int .i64 p.1.kind, .int .i64 p.1.n, .string p.1.text, .slice A9 p.1.attrs.length cap9] 48)).drew) (news := [p]) (n' := acc0.length + 1) (by exact below_drew ((Below.refl _ _).alloc (Nat.le_refl _) _)) hgrow (by rw [hfl]; exact hown3) (by simp) (fun q hq => by simp at hq; subst hq; exact HPIT.out.agree (fun _ _ ht => Below.heap_alloc _ _ _ (tyA_lt ht))) (by
                  have hq := HO0.out.below.size
                  rcases hat with e | e
                  · exact .inl e
                  · exact .inr (by omega))
                all_goals have hn1 : acc0.length + 1 = (acc0 ++ [p]).length := by simp
                all_goals
                  rw [hn1] at hO1 ⊢
                  have hac1 : (acc0 ++ [p]).map Prod.fst = rAcc (gs.map rgOf) (ks.map Prod.fst) k ++ L1 := by rw [List.map_append, HAC.out, HL1.out]; rfl
                  have HF := Lib.hid (show OMid f V w1.heap.size _ (bnd k + 1) _ from ⟨_, _, hO1, by simp; omega, hac1⟩)
                  clear hO1 hac1 hb3 q0 q1 hown3 hgrow hat hlt3
                  go_wp2_with fail
                  go_meet
                  exact ⟨rfl, HF.out⟩
              · have HL1 := Lib.hid (HLA.out.1 (by omega))
                have d26 : decide ((0 : Int) < (k : Int)) = false := decide_eq_false (by omega)
                go_wp2_with fail
                go_meet
                exact ⟨rfl, _, _, HO0.out, by omega, by rw [HAC.out, HL1.out, List.append_nil]⟩
            case rest =>
              obtain ⟨rfl, hM⟩ := hcut
              clear hVs0 o00 o10 hol0 fo10 HGW0 hne0 HOW0 HO0 HAC hal
              obtain ⟨wx, rfl⟩ : ∃ W, W = wc := ⟨_, rfl⟩
              obtain ⟨ov, acc1, hO, hal, hacc⟩ := hM
              obtain ⟨oA1, oc1, hov⟩ := own_form hO.own.1
              subst hov
              have HO1 := Lib.hid hO; clear hO
              have HAC1 := Lib.hid hacc; clear hacc
              have HGW1 := Lib.hid (HG.out.pure HO1.out.below)
              have hVs1 := HO1.out.below.size
              obtain ⟨o01, o11⟩ := box2 HO1.out.box
              have hol1 := heap_lt HO1.out.box
              have fo11 := froz_heap HO1.out.box 1
              have HGW1 := Lib.hid (HG.out.pure HO1.out.below)
              have hne1 : (Value.slice oA1 acc1.length oc1).ownBlock ≠ some V.heap.size := own_ne HO1.out.own.1 HO1.out.box (by decide)
              have HOW1 := Lib.hid HO1.out.own.1
              go_upto_region 27 with fail
              go_cut [12] from 119 to 162 (fun i wx => i = .int .i64 k ∧ OMid f V w1.heap.size (rAcc (gs.map rgOf) (ks.map Prod.fst) k ++ L1 ++ y.items.map Prod.fst) (bnd k + 2001) wx)
              case first =>
                have hyw := HGW1.out.at_ HGL.out k hkg
                rw [HYE.out] at hyw
                obtain ⟨g0, g1, hgbl⟩ := hyw
                have dk2 : (k : Int) < (m : Int) + 1 := by omega
                have dk3 : (0 : Int) ≤ (k : Int) := by omega
                have hgne : gb ≠ V.heap.size := by omega
                by_cases hyn : 0 < y.items.length
                · have hyI := HGW1.out.grp y HYM.out
                  obtain ⟨rb, rc, hyv, hyb⟩ := own_form0 hyI.1 hyn
                  rw [hyv] at g0
                  have hyo := hyI.1
                  rw [hyv] at hyo
                  have HYO := Lib.hid hyo; have HYI := Lib.hid hyI; have HYV := Lib.hid hyv
                  clear hyo hyI hyv
                  go_region_law
                    ((refine step_append_lies _ (by rfl) _ _ _ (by rfl) w1.heap.size 48 i0 _ 4 56 Tryz.underlying22 hi hz0 hz1 hz2 rfl (by omega) (.slice oA1 acc1.length oc1) acc1.length (flat cellsP acc1) (by rfl) (by exact HOW1.out)
                        ⟨rb, 0, none⟩ y.items.length rc (flat cellsP y.items) (by rfl) (by rw [flat_length cellsP 4 _ (cellsP_len _)]) (by exact HYO.out.cells rfl) (cellsP_one HYI.out.2)
                        hyn (by unfold maxLen; omega) (by omega) (by first | omega | (simp; omega) | (show w1.heap.size ≤ wx.heap.size; omega)) wx.heap.size (by rfl) ?_; intro gg dap2 w3 hown3 hgrow hat hlt3; have hb3 := (hgrow.block V.heap.size (by first | omega | (simp; omega) | (show V.heap.size < wx.heap.size; omega)) (fun e => hne1 e.symm)).trans (HO1.out.box); have q0 := (box2 hb3).2; have q1 := froz_heap hb3 1))
                  all_goals have hO2 := HO1.out.push (X := wx.drew) (news := y.items) (n' := acc1.length + y.items.length) (by exact below_drew (Below.refl _ _)) hgrow (by exact hown3) (by simp) HYI.out.2 (by
                    have hq := HO1.out.below.size
                    rcases hat with e | e
                    · exact .inl e
                    · exact .inr (by omega))
                  all_goals have hn2 : acc1.length + y.items.length = (acc1 ++ y.items).length := by simp
                  all_goals
                    rw [hn2] at hO2 ⊢
                    have hac2 : (acc1 ++ y.items).map Prod.fst = rAcc (gs.map rgOf) (ks.map Prod.fst) k ++ L1 ++ y.items.map Prod.fst := by rw [List.map_append, HAC1.out]
                    have HF := Lib.hid (show OMid f V w1.heap.size _ (bnd k + 2001) _ from ⟨_, _, hO2, by simp; omega, hac2⟩)
                    clear hO2 hac2 hb3 q0 q1 hown3 hgrow hat hlt3 g0 g1 dk2 dk3
                    go_wp2_with fail
                    go_meet
                    exact ⟨rfl, HF.out⟩
                · have hyz : y.items = [] := List.eq_nil_of_length_eq_zero (by omega)
                  rw [HGW1.out.nil y HYM.out hyz] at g0
                  have hcp := own_cap HOW1.out
                  have HF := Lib.hid (show OMid f V w1.heap.size (rAcc (gs.map rgOf) (ks.map Prod.fst) k ++ L1 ++ y.items.map Prod.fst) (bnd k + 2001) _ from ⟨_, _, HO1.out.same, by omega, by rw [HAC1.out, hyz]; simp⟩)
                  rcases HOW1.out.2 with ⟨hv, h0⟩ | ⟨rb, rc, cur, hv, _⟩
                  all_goals
                    injection hv with hv1 hv2 hv3
                    subst hv1 hv3
                    go_region
                    go_wp2_with fail
                    go_meet
                    first
                    | exact ⟨rfl, HF.out⟩
                    | (have hz := HF.out; rw [hv2] at hz; exact ⟨rfl, hz⟩)
              case rest =>
                obtain ⟨rfl, hM⟩ := hcut
                clear hVs1 o01 o11 hol1 fo11 HGW1 hne1 HOW1 HO1 HAC1 hal
                obtain ⟨wx, rfl⟩ : ∃ W, W = wc := ⟨_, rfl⟩
                obtain ⟨ov, acc2, hO, hal, hacc⟩ := hM
                obtain ⟨oA2, oc2, hov⟩ := own_form hO.own.1
                subst hov
                have HO2 := Lib.hid hO; clear hO
                have HAC2 := Lib.hid hacc; clear hacc
                have HGW2 := Lib.hid (HG.out.pure HO2.out.below)
                have hVs2 := HO2.out.below.size
                obtain ⟨o02, o12⟩ := box2 HO2.out.box
                have hol2 := heap_lt HO2.out.box
                have fo12 := froz_heap HO2.out.box 1
                have HGW2 := Lib.hid (HG.out.pure HO2.out.below)
                have hne2 : (Value.slice oA2 acc2.length oc2).ownBlock ≠ some V.heap.size := own_ne HO2.out.own.1 HO2.out.box (by decide)
                have HOW2 := Lib.hid HO2.out.own.1
                have hyw := HGW2.out.at_ HGL.out k hkg
                rw [HYE.out] at hyw
                obtain ⟨g0, g1, hgbl⟩ := hyw
                have dk2 : (k : Int) < (m : Int) + 1 := by omega
                have dk3 : (0 : Int) ≤ (k : Int) := by omega
                have hgne : gb ≠ V.heap.size := by omega
                by_cases hyg : 0 < y.gone
                · have d29 : decide ((0 : Int) < y.gone) = true := decide_eq_true hyg
                  go_wp2_with fail
                  go_region_law
                    ((refine step_append_lies _ (by rfl) _ _ _ (by rfl) w1.heap.size 48 i0 _ 4 56 Tryz.underlying22 hi hz0 hz1 hz2 rfl (by omega) (.slice oA2 acc2.length oc2) acc2.length (flat cellsP acc2) (by rfl) (by exact HOW2.out.alloc _)
                        ⟨wx.heap.size, 0, none⟩ 1 1 [.int .i64 3, .int .i64 y.gone, .string ⟨#[]⟩, .slice none 0 0] (by rfl) (by rfl) (World.news_of_block (cs := #[.int .i64 3, .int .i64 y.gone, .string ⟨#[]⟩, .slice none 0 0]) (t := 48) (fr := (0, 0)) (heap_alloc_new wx _)) (by simp [Value.oneCell'])
                        (by omega) (by unfold maxLen; omega) (by omega) (by first | omega | (simp; omega) | (show w1.heap.size ≤ wx.heap.size; omega)) (wx.heap.size + 1) (by simp) ?_; intro gg dap2 w3 hown3 hgrow hat hlt3; have hb3 := (hgrow.block V.heap.size (by first | omega | (simp; omega) | (show V.heap.size < wx.heap.size; omega)) (fun e => hne2 e.symm)).trans ((Below.heap_alloc wx _ V.heap.size hol2).trans HO2.out.box); have q0 := (box2 hb3).2; have q1 := froz_heap hb3 1))
                  all_goals have hO3 := HO2.out.push (X := (wx.alloc (.cells #[.int .i64 3, .int .i64 y.gone, .string ⟨#[]⟩, .slice none 0 0] 48)).drew) (news := [((delOp y.gone, .slice none 0 0) : Item)]) (n' := acc2.length + 1) (by exact below_drew ((Below.refl _ _).alloc (Nat.le_refl _) _)) hgrow (by exact hown3) (by simp) (fun q hq => by simp at hq; subst hq; exact ⟨Rd.nil _ _ _ _, by show (⟨#[]⟩ : ByteArray).size ≤ _; decide⟩) (by
                    have hq := HO2.out.below.size
                    rcases hat with e | e
                    · exact .inl e
                    · exact .inr (by omega))
                  all_goals have hn3 : acc2.length + 1 = (acc2 ++ [((delOp y.gone, .slice none 0 0) : Item)]).length := by simp
                  all_goals
                    rw [hn3] at hO3 ⊢
                    have hac3 : (acc2 ++ [((delOp y.gone, .slice none 0 0) : Item)]).map Prod.fst = rAcc (gs.map rgOf) (ks.map Prod.fst) (k + 1) := by
                      rw [List.map_append, HAC2.out, HRP.out, if_pos hyg]; simp
                    have HF := Lib.hid (show OMid f V w1.heap.size _ (bnd (k + 1)) _ from ⟨_, _, hO3, le29' hal, hac3⟩)
                    clear hO3 hac3 hb3 q0 q1 hown3 hgrow hat hlt3 g0 g1 d29
                    go_wp2_with fail
                    go_meet
                    exact ⟨rfl, HF.out⟩
                · have d29 : decide ((0 : Int) < y.gone) = false := decide_eq_false hyg
                  have hac3 : acc2.map Prod.fst = rAcc (gs.map rgOf) (ks.map Prod.fst) (k + 1) := by
                    rw [HAC2.out, HRP.out, if_neg hyg]; simp
                  have HF := Lib.hid (show OMid f V w1.heap.size _ (bnd (k + 1)) _ from ⟨_, _, HO2.out, le29 hal, hac3⟩)
                  clear hac3
                  go_wp2_with fail
                  go_meet
                  exact ⟨rfl, HF.out⟩
          case rest =>
            obtain ⟨rfl, hM⟩ := hcut
            have HM := Lib.hid hM
            clear hM hVs0 o00 o10 hol0 fo10 HGW0 hne0 HOW0 HO0 HAC hal HRP HLA
            go_wp2
            go_roundg (m - k)
            case measure => omega
            case rel => exact ⟨k + 1, by omega, by go_num, HM.out⟩
        · have dk : decide ((k : Int) < (m : Int) + 1) = false := decide_eq_false (by omega)
          obtain rfl : k = m + 1 := by omega
          have hall : normM ops = normTail (acc0.map Prod.fst) := by
            rw [← rNormM_is HE.out, HAC.out]; unfold rNormM; rw [HRA.out]
            show normTail (rAcc _ _ (gs.map rgOf).length) = _
            rw [List.length_map, HGL.out]
          have HALL := Lib.hid hall; clear hall
          have hO3 : OwnO wr w1.heap.size (.slice oA0 acc0.length oc0) (acc0.map Prod.fst) := ⟨acc0, rfl, HO0.out.own⟩
          have hbk : bnd (m + 1) ≤ 6006000 := bnd_le (by omega)
          have HR3 := Lib.hid (rdO_of_own3 hO3 (by rw [List.length_map]; omega) HO0.out.box); clear hO3
          have hbV : Below w1.heap.size w1 wr := hb.trans (HO0.out.below.mono hwr1)
          have HBX3 := Lib.hid ((hbV.block _ hl1).trans HBX1.out)
          have hbF : Below w.heap.size w wr := hb1.trans (hbV.mono (by omega))
          clear hbV
          have hgH : V.heap.size ≠ w.heap.size + 1 := by omega
          have hcp := own_cap HO0.out.own.1
          have hoc : oc0 ≤ 9223372036854775807 := by
            obtain ⟨_, _, e, _, h, _⟩ := HR3.out.open_
            injection e with _ _ e; subst e; exact h
          by_cases h0 : 0 < acc0.length
          · have hd0 : decide ((0 : Int) < (acc0.length : Int)) = true := decide_eq_true (by omega)
            obtain ⟨rb, rc, hv, hrb⟩ := own_form0 HO0.out.own.1 h0
            injection hv with hv1 _ hv3
            subst hv1 hv3
            obtain ⟨p0, p1, p2, p3, hrl⟩ := HO0.out.own.at_ rfl (acc0.length - 1) (by omega)
            have hit := HO0.out.own.2 acc0[acc0.length - 1] (List.getElem_mem (by omega))
            have HLA := Lib.hid (show (acc0.map Prod.fst).getLast? = some acc0[acc0.length - 1].1 by
              rw [List.getLast?_eq_getElem?, List.length_map, List.getElem?_map, List.getElem?_eq_getElem (by omega)]; rfl)
            obtain ⟨e2, e3, e4, e1⟩ := idx6 acc0.length h0 (by omega)
            generalize acc0[acc0.length - 1] = p at *
            obtain ⟨A9, cap9, h9, _⟩ := hit.1.open_
            rw [h9] at p3
            have H9 := Lib.hid h9
            clear h9 hit
            by_cases hk1 : p.1.kind = 1
            · have hk1' : (p.1.kind == 1) = true := by simpa using hk1
              by_cases ha0 : p.1.attrs.length = 0
              · have ha0' : ((p.1.attrs.length : Int) == 0) = true := by rw [ha0]; rfl
                have hL : normM ops = (acc0.map Prod.fst).dropLast := by
                  rw [HALL.out]; unfold normTail; rw [HLA.out]
                  have : p.1.attrs = [] := List.eq_nil_of_length_eq_zero ha0
                  simp [this, hk1]
                have HL := Lib.hid hL; clear hL hk1 ha0
                have e6 : (acc0.length : Int) - 1 ≤ (oc0 : Int) := by omega
                obtain ⟨W4, hW4⟩ : ∃ W4, wr.setCell ⟨V.heap.size, 1, none⟩ (.slice (some ⟨rb, 0, none⟩) (acc0.length - 1) oc0) = W4 := ⟨_, rfl⟩
                have hz4 : W4.heap[V.heap.size]? = some (.cells #[.int .i64 f, .slice (some ⟨rb, 0, none⟩) (acc0.length - 1) oc0] 24 (0, 0)) := by rw [← hW4]; exact set_heap1 HO0.out.box _
                have hx4 : W4.heap[w.heap.size + 1]? = some (.cells #[.int .i64 0, .slice none 0 0] 24 (0, 0)) := by rw [← hW4, Below.heap_setCell _ _ _ _ (fun e => hgH e.symm)]; exact HBX3.out
                have hb4 : Below w.heap.size w W4 := by rw [← hW4]; exact hbF.setCell (p := ⟨V.heap.size, 1, none⟩) (by show w.heap.size ≤ V.heap.size; omega) _
                have hR4 : RdO W4 (fun k => w1.heap.size ≤ k ∧ k ≠ V.heap.size) (.slice (some ⟨rb, 0, none⟩) (acc0.length - 1) oc0) (acc0.map Prod.fst).dropLast := by
                  have h1 : RdO wr (fun k => w1.heap.size ≤ k ∧ k ≠ V.heap.size) (.slice (some ⟨rb, 0, none⟩) (acc0.length - 1) oc0) (acc0.map Prod.fst).dropLast := by
                    have := Rd.take HR3.out (acc0.length - 1) (by simp) oc0 (by omega) hoc
                    have e : (acc0.map Prod.fst).take (acc0.length - 1) = (acc0.map Prod.fst).dropLast := by rw [List.dropLast_eq_take, List.length_map]
                    rw [e] at this; exact this
                  rw [← hW4]; exact h1.agree fun k hk _ => Below.heap_setCell _ _ _ _ hk.2
                obtain ⟨v0, v1⟩ := box2 hz4
                obtain ⟨x0, x1⟩ := box2 hx4
                have fx0 := froz_heap hx4 0
                have fx1 := froz_heap hx4 1
                have hxl := heap_lt hx4
                obtain ⟨W6, hW6⟩ : ∃ W6, (W4.setCell ⟨w.heap.size + 1, 0, none⟩ (.int .i64 f)).setCell ⟨w.heap.size + 1, 1, none⟩ (.slice (some ⟨rb, 0, none⟩) (acc0.length - 1) oc0) = W6 := ⟨_, rfl⟩
                have hx6 : W6.heap[w.heap.size + 1]? = some (.cells #[.int .i64 f, .slice (some ⟨rb, 0, none⟩) (acc0.length - 1) oc0] 24 (0, 0)) := by rw [← hW6]; exact set_heap1 (set_heap hx4 _) _
                have hb6 : Below w.heap.size w W6 := by
                  rw [← hW6]; exact (hb4.setCell (p := ⟨w.heap.size + 1, 0, none⟩) (by simp) _).setCell (p := ⟨w.heap.size + 1, 1, none⟩) (by simp) _
                have hR6 : RdO W6 (fun k => w.heap.size ≤ k) (.slice (some ⟨rb, 0, none⟩) (acc0.length - 1) oc0) (normM ops) := by
                  rw [HL.out, ← hW6]
                  exact (hR4.agree fun k hk _ => by
                    rw [Below.heap_setCell _ _ _ _ (by have := hk.1; show k ≠ w.heap.size + 1; omega), Below.heap_setCell _ _ _ _ (by have := hk.1; show k ≠ w.heap.size + 1; omega)]).mono fun k hk _ => by have := hk.1; omega
                obtain ⟨q0, q1⟩ := box2 hx6
                have HR6 := Lib.hid hR6; have HB6 := Lib.hid hb6; clear hR6 hx6 hx4 hR4 hb6 hb4 hz4
                go_wp2
                refine bodyPost_ret (v := .tuple #[.agg #[.int .i64 f, .slice (some ⟨rb, 0, none⟩) (acc0.length - 1) oc0], .int .i64 0]) (by simp [results, Tryz.results17, go_sem, q0, q1]) rfl ⟨.slice (some ⟨rb, 0, none⟩) (acc0.length - 1) oc0, by rw [HE.out]; rfl, HB6.out, by rw [if_pos HE.out]; exact HR6.out⟩
              · have ha0' : ((p.1.attrs.length : Int) == 0) = false := by
                  have : ¬ (p.1.attrs.length : Int) = 0 := by omega
                  simpa using this
                have hL : normM ops = acc0.map Prod.fst := by
                  rw [HALL.out]; unfold normTail; rw [HLA.out]
                  have : p.1.attrs ≠ [] := fun e => ha0 (by rw [e]; rfl)
                  simp [this]
                have HL := Lib.hid hL; clear hL hk1 ha0
                have hx4 := HBX3.out
                have hb4 := hbF
                have hR4 := HR3.out
                obtain ⟨x0, x1⟩ := box2 hx4
                have fx0 := froz_heap hx4 0
                have fx1 := froz_heap hx4 1
                have hxl := heap_lt hx4
                obtain ⟨W6, hW6⟩ : ∃ W6, (wr.setCell ⟨w.heap.size + 1, 0, none⟩ (.int .i64 f)).setCell ⟨w.heap.size + 1, 1, none⟩ (.slice (some ⟨rb, 0, none⟩) (acc0.length) oc0) = W6 := ⟨_, rfl⟩
                have hx6 : W6.heap[w.heap.size + 1]? = some (.cells #[.int .i64 f, .slice (some ⟨rb, 0, none⟩) (acc0.length) oc0] 24 (0, 0)) := by rw [← hW6]; exact set_heap1 (set_heap hx4 _) _
                have hb6 : Below w.heap.size w W6 := by
                  rw [← hW6]; exact (hb4.setCell (p := ⟨w.heap.size + 1, 0, none⟩) (by simp) _).setCell (p := ⟨w.heap.size + 1, 1, none⟩) (by simp) _
                have hR6 : RdO W6 (fun k => w.heap.size ≤ k) (.slice (some ⟨rb, 0, none⟩) (acc0.length) oc0) (normM ops) := by
                  rw [HL.out, ← hW6]
                  exact (hR4.agree fun k hk _ => by
                    rw [Below.heap_setCell _ _ _ _ (by have := hk.1; show k ≠ w.heap.size + 1; omega), Below.heap_setCell _ _ _ _ (by have := hk.1; show k ≠ w.heap.size + 1; omega)]).mono fun k hk _ => by have := hk.1; omega
                obtain ⟨q0, q1⟩ := box2 hx6
                have HR6 := Lib.hid hR6; have HB6 := Lib.hid hb6; clear hR6 hx6 hx4 hR4 hb6 hb4 
                go_wp2
                refine bodyPost_ret (v := .tuple #[.agg #[.int .i64 f, .slice (some ⟨rb, 0, none⟩) (acc0.length) oc0], .int .i64 0]) (by simp [results, Tryz.results17, go_sem, q0, q1]) rfl ⟨.slice (some ⟨rb, 0, none⟩) (acc0.length) oc0, by rw [HE.out]; rfl, HB6.out, by rw [if_pos HE.out]; exact HR6.out⟩
            · have hk1' : (p.1.kind == 1) = false := by simpa using hk1
              have hL : normM ops = acc0.map Prod.fst := by rw [HALL.out]; unfold normTail; rw [HLA.out]; simp [hk1]
              have HL := Lib.hid hL; clear hL hk1
              have hx4 := HBX3.out
              have hb4 := hbF
              have hR4 := HR3.out
              obtain ⟨x0, x1⟩ := box2 hx4
              have fx0 := froz_heap hx4 0
              have fx1 := froz_heap hx4 1
              have hxl := heap_lt hx4
              obtain ⟨W6, hW6⟩ : ∃ W6, (wr.setCell ⟨w.heap.size + 1, 0, none⟩ (.int .i64 f)).setCell ⟨w.heap.size + 1, 1, none⟩ (.slice (some ⟨rb, 0, none⟩) (acc0.length) oc0) = W6 := ⟨_, rfl⟩
              have hx6 : W6.heap[w.heap.size + 1]? = some (.cells #[.int .i64 f, .slice (some ⟨rb, 0, none⟩) (acc0.length) oc0] 24 (0, 0)) := by rw [← hW6]; exact set_heap1 (set_heap hx4 _) _
              have hb6 : Below w.heap.size w W6 := by
                rw [← hW6]; exact (hb4.setCell (p := ⟨w.heap.size + 1, 0, none⟩) (by simp) _).setCell (p := ⟨w.heap.size + 1, 1, none⟩) (by simp) _
              have hR6 : RdO W6 (fun k => w.heap.size ≤ k) (.slice (some ⟨rb, 0, none⟩) (acc0.length) oc0) (normM ops) := by
                rw [HL.out, ← hW6]
                exact (hR4.agree fun k hk _ => by
                  rw [Below.heap_setCell _ _ _ _ (by have := hk.1; show k ≠ w.heap.size + 1; omega), Below.heap_setCell _ _ _ _ (by have := hk.1; show k ≠ w.heap.size + 1; omega)]).mono fun k hk _ => by have := hk.1; omega
              obtain ⟨q0, q1⟩ := box2 hx6
              have HR6 := Lib.hid hR6; have HB6 := Lib.hid hb6; clear hR6 hx6 hx4 hR4 hb6 hb4 
              go_wp2
              refine bodyPost_ret (v := .tuple #[.agg #[.int .i64 f, .slice (some ⟨rb, 0, none⟩) (acc0.length) oc0], .int .i64 0]) (by simp [results, Tryz.results17, go_sem, q0, q1]) rfl ⟨.slice (some ⟨rb, 0, none⟩) (acc0.length) oc0, by rw [HE.out]; rfl, HB6.out, by rw [if_pos HE.out]; exact HR6.out⟩
          · have hL : normM ops = acc0.map Prod.fst := by rw [HALL.out, List.eq_nil_of_length_eq_zero (by omega : acc0.length = 0)]; rfl
            have HL := Lib.hid hL; clear hL
            have hd0 : decide ((0 : Int) < (acc0.length : Int)) = false := decide_eq_false (by omega)
            have hx4 := HBX3.out
            have hb4 := hbF
            have hR4 := HR3.out
            obtain ⟨x0, x1⟩ := box2 hx4
            have fx0 := froz_heap hx4 0
            have fx1 := froz_heap hx4 1
            have hxl := heap_lt hx4
            obtain ⟨W6, hW6⟩ : ∃ W6, (wr.setCell ⟨w.heap.size + 1, 0, none⟩ (.int .i64 f)).setCell ⟨w.heap.size + 1, 1, none⟩ (.slice oA0 (acc0.length) oc0) = W6 := ⟨_, rfl⟩
            have hx6 : W6.heap[w.heap.size + 1]? = some (.cells #[.int .i64 f, .slice oA0 (acc0.length) oc0] 24 (0, 0)) := by rw [← hW6]; exact set_heap1 (set_heap hx4 _) _
            have hb6 : Below w.heap.size w W6 := by
              rw [← hW6]; exact (hb4.setCell (p := ⟨w.heap.size + 1, 0, none⟩) (by simp) _).setCell (p := ⟨w.heap.size + 1, 1, none⟩) (by simp) _
            have hR6 : RdO W6 (fun k => w.heap.size ≤ k) (.slice oA0 (acc0.length) oc0) (normM ops) := by
              rw [HL.out, ← hW6]
              exact (hR4.agree fun k hk _ => by
                rw [Below.heap_setCell _ _ _ _ (by have := hk.1; show k ≠ w.heap.size + 1; omega), Below.heap_setCell _ _ _ _ (by have := hk.1; show k ≠ w.heap.size + 1; omega)]).mono fun k hk _ => by have := hk.1; omega
            obtain ⟨q0, q1⟩ := box2 hx6
            have HR6 := Lib.hid hR6; have HB6 := Lib.hid hb6; clear hR6 hx6 hx4 hR4 hb6 hb4 
            go_wp2
            refine bodyPost_ret (v := .tuple #[.agg #[.int .i64 f, .slice oA0 (acc0.length) oc0], .int .i64 0]) (by simp [results, Tryz.results17, go_sem, q0, q1]) rfl ⟨.slice oA0 (acc0.length) oc0, by rw [HE.out]; rfl, HB6.out, by rw [if_pos HE.out]; exact HR6.out⟩
/-- THE CONTRACT OF THE REFERENCES' Normal. -/
theorem refNormal_any (f : Int) (v : Value) (ops : List OpM) (F : Nat → Prop) (w : World) (h : RdO w F v ops) :
    Calls Tryz.prog 17 #[.agg #[.int .i64 f, v]] w (NormalPost f ops w) := by
  by_cases he : toE f ops = 0
  · exact refNormal_good f v ops F w h he
  · exact refNormal_bad f v ops F w h he
end Go.Proofs.YtdpmjlkmjmookaaGreatDoor
