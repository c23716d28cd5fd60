/-
  Package change: Right, Clip, Normal, walked: what Normal answers is the plain normal form, in memory of its own.
-/
import Derived.Test.YtdpmjlkmjmookaaGreatDoorNormal
import Derived.Deep.RegionWith
namespace Go.Proofs.YtdpmjlkmjmookaaGreatDoor
open Go.RowKit

theorem clipO_any (A : Option Addr) (n cap : Nat) (h : n ≤ cap) (hc : cap ≤ 9223372036854775807) (w : World) :
    Calls Tryz.prog 120 #[.slice A n cap] w fun e w' => e = .returned (.slice A n n) ∧ w = w' := by
  have h1 : n ≤ 9223372036854775807 := by omega
  go_enter Tryz.func120, Tryz.ntmps120
  go_wp2
  go_ret
  exact ⟨rfl, rfl⟩

theorem clipO_same (A : Option Addr) (n cap : Nat) (h : n ≤ cap) (hc : cap ≤ 9223372036854775807) (w : World) :
    Calls Tryz.prog 120 #[.slice A n cap] w fun e w' => e = .returned (.slice A n n) ∧ w' = w := (clipO_any A n cap h hc w).mono fun _ _ ⟨h1, h2⟩ => ⟨h1, h2.symm⟩

theorem right_any (f : Int) (v : Value) (ops : List OpM) (F : Nat → Prop) (w : World) (h : RdO w F v ops) (hT : Tabs w) :
    Calls Tryz.prog 76 #[.agg #[.int .i64 f, v]] w fun e w' => e = .returned (.int .i64 (toE f ops)) ∧ Below w.heap.size w w' := by
  obtain ⟨A, cap, rfl, hc, hcm, hm, hcell⟩ := h.open_
  clear hcell
  have H := Lib.hid h; clear h
  have HT := Lib.hid hT; clear hT
  have hB : Below w.heap.size w (w.alloc (.cells #[.int .i64 f, .slice A ops.length cap] 24)) := (Below.refl _ w).alloc (Nat.le_refl _) _
  go_enter Tryz.func76, Tryz.ntmps76
  go_wp2_with fail
  refine (to_any f _ ops F _ (H.out.pure hB) (HT.out.pure hB)).mono ?_
  rintro e w1 ⟨rfl, h1⟩
  go_wp2
  go_ret
  exact ⟨rfl, pure_trans hB h1⟩

/-- what Normal answers -/
def NormalPost (f : Int) (ops : List OpM) (w : World) (e : Ending) (w' : World) : Prop :=
  ∃ v', e = .returned (.tuple #[.agg #[.int .i64 (if toE f ops = 0 then f else 0), v'], .int .i64 (toE f ops)]) ∧ Below w.heap.size w w' ∧ RdO w' (fun k => w.heap.size ≤ k) v' (if toE f ops = 0 then normM ops else [])

set_option maxHeartbeats 4000000 in
set_option maxRecDepth 100000 in
theorem normal_bad (f : Int) (v : Value) (ops : List OpM) (F : Nat → Prop) (w : World) (h : RdO w F v ops) (hT : Tabs w) (he : toE f ops ≠ 0) :
    Calls Tryz.prog 65 #[.agg #[.int .i64 f, v]] w (NormalPost f ops w) := by
  obtain ⟨A, cap, rfl, hc, hcm, hm, hcell⟩ := h.open_
  clear hcell
  have H := Lib.hid h; clear h
  have HT := Lib.hid hT; clear hT
  have hB : Below w.heap.size w ((w.alloc (.cells #[.int .i64 f, .slice A ops.length cap] 24)).alloc (.cells #[.int .i64 0, .slice none 0 0] 24)) := ((Below.refl _ w).alloc (Nat.le_refl _) _).alloc (by simp) _
  have hbx : ((w.alloc (.cells #[.int .i64 f, .slice A ops.length cap] 24)).alloc (.cells #[.int .i64 0, .slice none 0 0] 24)).heap[w.heap.size + 1]? = some (.cells #[.int .i64 0, .slice none 0 0] 24 (0, 0)) := by
    have := heap_alloc_new (w.alloc (.cells #[.int .i64 f, .slice A ops.length cap] 24)) (.cells #[.int .i64 0, .slice none 0 0] 24); simpa using this
  have he' : (toE f ops == 0) = false := by simpa using he
  have HE := Lib.hid he; clear he
  go_enter Tryz.func65, Tryz.ntmps65
  go_wp2_with fail
  refine (right_any f _ ops F _ (H.out.pure hB) (HT.out.pure hB)).mono ?_
  rintro e w1 ⟨rfl, h1⟩
  have hbx1 := (h1.block _ (heap_lt hbx)).trans hbx
  obtain ⟨c0, c1⟩ := box2 hbx1
  have f0 := froz_heap hbx1 0
  have f1 := froz_heap hbx1 1
  have hl1 := heap_lt hbx1
  have hb1 := pure_trans hB h1
  clear hbx
  obtain ⟨W3, hW3⟩ : ∃ W3, (w1.setCell ⟨w.heap.size + 1, 0, none⟩ (.int .i64 0)).setCell ⟨w.heap.size + 1, 1, none⟩ (.slice none 0 0) = W3 := ⟨_, rfl⟩
  have hbx3 : W3.heap[w.heap.size + 1]? = some (.cells #[.int .i64 0, .slice none 0 0] 24 (0, 0)) := by
    rw [← hW3]; exact set_heap1 (set_heap hbx1 _) _
  have hb3 : Below w.heap.size w W3 := by rw [← hW3]; exact (hb1.setCell (p := ⟨w.heap.size + 1, 0, none⟩) (by simp) _).setCell (p := ⟨w.heap.size + 1, 1, none⟩) (by simp) _
  obtain ⟨q0, q1⟩ := box2 hbx3
  go_wp2
  refine bodyPost_ret (v := .tuple #[.agg #[.int .i64 0, .slice none 0 0], .int .i64 (toE f ops)]) (by simp [results, Tryz.results65, go_sem, q0, q1]) rfl ⟨.slice none 0 0, by rw [if_neg HE.out], hb3, by rw [if_neg HE.out]; exact Rd.nil _ _ _ _⟩

theorem rdO_of_own2 {w : World} {lo g : Nat} {v : Value} {ops : List OpM} {cs : Array Value} {fz : Nat × Nat} (h : OwnO w lo v ops) (hn : ops.length ≤ 1099511627776) (hg : w.heap[g]? = some (.cells cs 147 fz)) : RdO w (fun k => lo ≤ k ∧ k ≠ g) v ops := by
  have hne := maker_ne hg h
  obtain ⟨items, rfl, ho, hi⟩ := h
  have hb : ∀ k, v.ownBlock = some k → lo ≤ k ∧ k ≠ g := fun k hk => ⟨(ho.lt k hk).1, hne k hk⟩
  have h1 := rd_of_owns (F := fun k => lo ≤ k ∧ k ≠ g) (E := fun p cs => ∃ va, cs = cellsO p.1 va ∧ p.1.text.size ≤ 1099511627776 ∧ RdA w (fun k => lo ≤ k ∧ k ≠ g) va p.1.attrs) ho (cellsP_len _) (fun x hx => ⟨x.2, rfl, (hi x hx).2, (hi x hx).1.mono fun k hk _ => ⟨hk.1, fun e => maker_nt hg (e ▸ hk.2)⟩⟩) hb (by simpa using hn)
  obtain ⟨A, cap, e, q1, q1', q2, q3⟩ := h1
  refine ⟨A, cap, by simpa using e, by simpa using q1, q1', by simpa using q2, fun h0 => ?_⟩
  obtain ⟨b, off, eA, hF, hc⟩ := q3 (by simpa using h0)
  refine ⟨b, off, eA, hF, fun i hi => ?_⟩
  obtain ⟨cs, r1, r2, r3⟩ := hc i (by simpa using hi)
  exact ⟨cs, r1, by simpa using r2, r3⟩
theorem RdO.take {w : World} {F : Nat → Prop} {A : Option Addr} {n cap : Nat} {l : List OpM} (h : RdO w F (.slice A n cap) l) (k : Nat) (hk : k ≤ l.length) (hn : k ≤ 9223372036854775807) : RdO w F (.slice A k k) (l.take k) := Rd.take h k hk k (Nat.le_refl _) hn
theorem normTail_nil : normTail [] = [] := rfl
theorem normTail_snoc (init : List OpM) (l : OpM) : normTail (init ++ [l]) = if l.kind = 1 ∧ l.attrs = [] then init else init ++ [l] := by
  simp [normTail]
theorem RdA.old {w w' : World} {S F : Nat → Prop} {v : Value} {l : List At} {B : Nat} (h : RdA w F v l) (hF : ∀ k, F k → k < B) (hb : Kp S w w') (hS : ∀ k, S k → B ≤ k) : RdA w' F v l :=
  h.kp hb fun k hk _ hs => by have := hF k hk; have := hS k hs; omega

set_option maxHeartbeats 8000000 in
set_option maxRecDepth 100000 in
theorem normal_good (f : Int) (v : Value) (ops : List OpM) (F : Nat → Prop) (w : World) (h : RdO w F v ops) (hT : Tabs w) (he : toE f ops = 0) :
    Calls Tryz.prog 65 #[.agg #[.int .i64 f, v]] w (NormalPost f ops w) := by
  replace h : RdO w (fun k => k < w.heap.size) v ops := h.mono fun k _ hk => hk
  obtain ⟨A, cap, rfl, hc, hcm, hm, hcell⟩ := h.open_
  have HC := Lib.hid hcell; clear hcell
  have H := Lib.hid h; clear h
  have HT := Lib.hid hT; clear hT
  have hB : Below w.heap.size w ((w.alloc (.cells #[.int .i64 f, .slice A ops.length cap] 24)).alloc (.cells #[.int .i64 0, .slice none 0 0] 24)) := ((Below.refl _ w).alloc (Nat.le_refl _) _).alloc (by simp) _
  have hbx : ((w.alloc (.cells #[.int .i64 f, .slice A ops.length cap] 24)).alloc (.cells #[.int .i64 0, .slice none 0 0] 24)).heap[w.heap.size + 1]? = some (.cells #[.int .i64 0, .slice none 0 0] 24 (0, 0)) := by
    have := heap_alloc_new (w.alloc (.cells #[.int .i64 f, .slice A ops.length cap] 24)) (.cells #[.int .i64 0, .slice none 0 0] 24); simpa using this
  have hcx : ((w.alloc (.cells #[.int .i64 f, .slice A ops.length cap] 24)).alloc (.cells #[.int .i64 0, .slice none 0 0] 24)).heap[w.heap.size]? = some (.cells #[.int .i64 f, .slice A ops.length cap] 24 (0, 0)) := by
    rw [Below.heap_alloc _ _ _ (by simp)]; exact heap_alloc_new w _
  have HE := Lib.hid he
  have hok := op_ok he
  have hof := toE_fold he
  have HOK := Lib.hid hok; clear hok
  have hlen : ops.length ≤ 2000 := hof.2.1
  clear hof
  have he0 : (toE f ops == 0) = true := by simpa using he
  go_enter Tryz.func65, Tryz.ntmps65
  go_wp2_with fail
  refine (right_any f _ ops _ _ (H.out.pure hB) (HT.out.pure hB)).mono ?_
  rintro e w1 ⟨rfl, h1⟩
  rw [he]
  clear he he0
  have hbx1 := (h1.block _ (heap_lt hbx)).trans hbx
  have hcx1 := (h1.block _ (heap_lt hcx)).trans hcx
  have hl1 := heap_lt hbx1
  have hb1 := pure_trans hB h1
  clear hbx hcx h1 hB
  have HR := Lib.hid (H.out.pure hb1)
  have hgx : (w1.alloc (.cells #[.slice none 0 0, .int .i64 0] 147)).heap[w1.heap.size]? = some (.cells #[.slice none 0 0, .int .i64 0] 147 (0, 0)) := heap_alloc_new w1 _
  have hcx2 : (w1.alloc (.cells #[.slice none 0 0, .int .i64 0] 147)).heap[w.heap.size]? = some (.cells #[.int .i64 f, .slice A ops.length cap] 24 (0, 0)) := by
    rw [Below.heap_alloc _ _ _ (by omega)]; exact hcx1
  obtain ⟨c0, c1⟩ := box2 hcx2
  have hws : w.heap.size + 1 < w1.heap.size := hl1
  go_wp2_with fail
  clear c0 c1 hcx2
  go_loopw [18] (fun i wr => ∃ (k : Nat) (v1 : Value) (st : NormSt), k ≤ ops.length ∧ i = .int .i64 k ∧ Below w1.heap.size w1 wr ∧ wr.heap[w1.heap.size]? = some (.cells #[v1, .int .i64 st.gone] 147 (0, 0)) ∧ OwnO wr w1.heap.size v1 st.ops ∧ st = normFold (ops.take k)) (fun i _ => ops.length - (intOf i).toNat)
  case atStart => exact ⟨0, .slice none 0 0, ⟨[], 0⟩, by omega, rfl, (Below.refl _ _).alloc (Nat.le_refl _) _, hgx, ⟨[], rfl, World.ownsRow_nil _ _ _ _, by simp⟩, rfl⟩
  case round =>
    obtain ⟨k, v1, st, hk, rfl, hb, hg, hO, hst⟩ := hrel
    have hso := normFold_ok HOK.out k hk
    rw [← hst] at hso
    have HST := Lib.hid hst; clear hst
    have HG := Lib.hid hg
    have hgl := heap_lt hg
    clear hg
    have HO := Lib.hid hO; clear hO
    by_cases hlt : k < ops.length
    · obtain ⟨b, off, rfl, hFb⟩ := HC.out (by omega)
      have hb' : Below w.heap.size w wr := hb1.trans (hb.mono (by omega))
      have hrd := H.out.pure hb'
      obtain ⟨va, c0, c1, c2, c3, hva⟩ := hrd.at_ k hlt
      obtain ⟨A2, cap2, rfl, _, _, _, _⟩ := hva.open_
      have HVA := Lib.hid hva; clear hva hrd
      have hbl : b < wr.heap.size := World.block_lt_of_cell? wr _ c0
      have hts := (H.out.elem _ (List.getElem_mem hlt)).1
      have HOO := Lib.hid (HOK.out _ (List.getElem_mem hlt))
      have HNS := Lib.hid (normFold_snoc ops k hlt)
      have hB2 : Below wr.heap.size wr (wr.alloc (.cells #[.int .i64 ops[k].kind, .int .i64 ops[k].n, .string ops[k].text, .slice A2 ops[k].attrs.length cap2] 48)) := (Below.refl _ wr).alloc (Nat.le_refl _) _
      have hg2 := (hB2.block _ hgl).trans HG.out
      have hbx2 : (wr.alloc (.cells #[.int .i64 ops[k].kind, .int .i64 ops[k].n, .string ops[k].text, .slice A2 ops[k].attrs.length cap2] 48)).heap[wr.heap.size]? = some (.cells #[.int .i64 ops[k].kind, .int .i64 ops[k].n, .string ops[k].text, .slice A2 ops[k].attrs.length cap2] 48 (0, 0)) := heap_alloc_new wr _
      have hO2 : OwnO (wr.alloc (.cells #[.int .i64 ops[k].kind, .int .i64 ops[k].n, .string ops[k].text, .slice A2 ops[k].attrs.length cap2] 48)) w1.heap.size v1 st.ops := HO.out.agree (fun k hk => hB2.block k (HO.out.lt k hk).2) (fun k _ ⟨c, fz, hc⟩ => hB2.block k (heap_lt hc))
      have hown1 : ∀ k, v1.ownBlock = some k → k < wr.heap.size := fun k hk => (HO.out.lt k hk).2
      have hown0 : ∀ k, v1.ownBlock = some k → w1.heap.size ≤ k := fun k hk => (HO.out.lt k hk).1
      have hVA2 := HVA.out.pure hB2
      have hbw2 : Below w1.heap.size w1 (wr.alloc (.cells #[.int .i64 ops[k].kind, .int .i64 ops[k].n, .string ops[k].text, .slice A2 ops[k].attrs.length cap2] 48)) := hb.alloc hb.size _
      obtain ⟨W, hW⟩ : ∃ W, wr.alloc (.cells #[.int .i64 ops[k].kind, .int .i64 ops[k].n, .string ops[k].text, .slice A2 ops[k].attrs.length cap2] 48) = W := ⟨_, rfl⟩
      rw [hW] at hg2 hbx2 hO2 hVA2 hbw2 hB2
      have hWs : W.heap.size = wr.heap.size + 1 := by rw [← hW]; simp
      obtain ⟨d0, d1, d2, d3⟩ := box4 hbx2
      obtain ⟨g0, g1⟩ := box2 hg2
      have HO2 := Lib.hid hO2; have HG2 := Lib.hid hg2; have HBX2 := Lib.hid hbx2; have HV2 := Lib.hid hVA2
      have hlen1 := hso.len
      have hEL : ∀ l ∈ st.ops, 0 ≤ l.n ∧ l.n ≤ 20000 * k ∧ l.text.size ≤ 80000 * k := fun l hl => by
        have q1 := hso.nn l hl
        have q2 := (sumN_le hso.nn).2 l hl
        have q3 := sumT_le _ l hl
        have := hso.sum; have := hso.txt; have := hso.g0
        omega
      have HEL := Lib.hid hEL; clear hEL
      have hg0 := hso.g0
      have hg1 : st.gone ≤ 20000 * k := by have := (sumN_le hso.nn).1; have := hso.sum; omega
      clear hO2 hg2 hbx2 hVA2
      have hn0 := HOO.out.n0
      have hn1 := HOO.out.n1
      have hT0 := HOO.out.t
      rcases HOO.out.k with hk1 | hk2 | hk3
      · have hkt : (ops[k].kind == 1) = true := by simpa using hk1
        have hns : normFold (ops.take (k + 1)) = ⟨putM (flushM st.ops st.gone) ops[k], 0⟩ := by rw [HNS.out, ← HST.out]; unfold normStep; rw [if_pos hk1]
        have HN1 := Lib.hid hns; clear hns hk1
        go_wp2_with fail
        clear hW
        refine (flush_any w1.heap.size w1.heap.size st.gone v1 st.ops _ HG2.out (Nat.le_refl _) HO2.out (by omega) hg0 (fun l hl => by have := HEL.out l hl; omega)).mono ?_
        rintro e W3 ⟨rfl, v3, hg3, hO3, hp3, hf3⟩
        have hbx3 := (hp3.blk (heap_lt HBX2.out) (by omega) (fun e => by have := hown1 _ e.symm; omega)).trans HBX2.out
        have hVA3 := HV2.out.old (B := w1.heap.size) (fun k hk => by omega) hp3 (fun k hk => by rcases hk with hk | hk; omega; exact hown0 k hk.symm)
        have hb3 : Below w1.heap.size W W3 := hp3.below (fun k hk => by rcases hk with hk | hk; omega; exact hown0 k hk.symm) (by omega)
        obtain ⟨x0, x1, x2, x3⟩ := box4 hbx3
        obtain ⟨y0, y1⟩ := box2 hg3
        have hs3 := heap_lt hbx3
        have hfs := flushM_sum st.ops st.gone hg0
        have hfn := flushM_nn hso.nn hso.g0
        have HFE : ∀ l ∈ flushM st.ops st.gone, 0 ≤ l.n ∧ l.n ≤ 20000 * k ∧ l.text.size ≤ 80000 * k := fun l hl => by
          have q1 := hfn l hl
          have q2 := (sumN_le hfn).2 l hl
          have q3 := sumT_le _ l hl
          have := hso.sum; have := hso.txt
          omega
        have HF3 := Lib.hid HFE; clear HFE
        have hfl := hfs.2.2
        clear hfs hfn d0 d1 d2 d3 g0 g1
        go_wp2_with fail
        refine (put_any w1.heap.size w1.heap.size (.int .i64 0) ops[k] _ _ v3 _ _ hg3 (Nat.le_refl _) hO3 hVA3 (by omega) (by omega) hn0 (fun l hl => by have := HF3.out l hl; omega)).mono ?_
        rintro e W4 ⟨rfl, v4, hg4, hO4, hp4, hf4⟩
        have hown3 : ∀ k, v3.ownBlock = some k → w1.heap.size ≤ k := fun k hk => (hO3.lt k hk).1
        have hb4 : Below w1.heap.size W3 W4 := hp4.below (fun k hk => by rcases hk with hk | hk; omega; exact hown3 k hk.symm) (by have := hp3.size; omega)
        have hbf := (hbw2.trans hb3).trans hb4
        go_wp2
        exact ⟨⟨k + 1, v4, ⟨putM (flushM st.ops st.gone) ops[k], 0⟩, by omega, by go_num, hbf, hg4, hO4, HN1.out.symm⟩, by simp [intOf]; omega⟩
      · have hkf : (ops[k].kind == 1) = false := by rw [hk2]; rfl
        have hkt : (ops[k].kind == 2) = true := by simpa using hk2
        have hns : normFold (ops.take (k + 1)) = ⟨putM st.ops ops[k], st.gone⟩ := by rw [HNS.out, ← HST.out]; unfold normStep; rw [if_neg (by omega), if_pos hk2]
        have HN1 := Lib.hid hns; clear hns hk2
        go_wp2_with fail
        clear hW
        refine (put_any w1.heap.size w1.heap.size (.int .i64 st.gone) ops[k] _ _ v1 _ _ HG2.out (Nat.le_refl _) HO2.out HV2.out (by omega) (by omega) hn0 (fun l hl => by have := HEL.out l hl; omega)).mono ?_
        rintro e W4 ⟨rfl, v4, hg4, hO4, hp4, hf4⟩
        have hb4 : Below w1.heap.size W W4 := hp4.below (fun k hk => by rcases hk with hk | hk; omega; exact hown0 k hk.symm) (by omega)
        have hbf := hbw2.trans hb4
        clear d0 d1 d2 d3 g0 g1
        go_wp2
        exact ⟨⟨k + 1, v4, ⟨putM st.ops ops[k], st.gone⟩, by omega, by go_num, hbf, hg4, hO4, HN1.out.symm⟩, by simp [intOf]; omega⟩
      · have hkf : (ops[k].kind == 1) = false := by rw [hk3]; rfl
        have hkf2 : (ops[k].kind == 2) = false := by rw [hk3]; rfl
        have hkt : (ops[k].kind == 3) = true := by simpa using hk3
        have hns : normFold (ops.take (k + 1)) = ⟨st.ops, st.gone + ops[k].n⟩ := by rw [HNS.out, ← HST.out]; unfold normStep; rw [if_neg (by omega), if_neg (by omega), if_pos hk3]
        have HN1 := Lib.hid hns; clear hns hk3
        have fz1 := froz_heap HG2.out 1
        obtain ⟨hg4, hO4, hp4⟩ := HO2.out.count (u := .int .i64 (st.gone + ops[k].n)) HG2.out
        have hb4 : Below w1.heap.size W (W.setCell ⟨w1.heap.size, 1, none⟩ (.int .i64 (st.gone + ops[k].n))) := (Below.refl _ W).setCell (p := ⟨w1.heap.size, 1, none⟩) (Nat.le_refl _) _
        have hbf := hbw2.trans hb4
        have HG4 := Lib.hid hg4; have HO4 := Lib.hid hO4; have HB4 := Lib.hid hbf
        clear hg4 hO4 hp4 hb4 hbf
        go_wp2
        exact ⟨⟨k + 1, v1, ⟨st.ops, st.gone + ops[k].n⟩, by omega, by go_num, HB4.out, HG4.out, HO4.out, HN1.out.symm⟩, by simp [intOf]; omega⟩
    · have hall : normM ops = normTail (flushM st.ops st.gone) := by
        have e : normFold ops = st := by rw [HST.out, List.take_of_length_le (by omega)]
        unfold normM; rw [e]
      have HALL := Lib.hid hall; clear hall
      have hlen1 := hso.len
      have hEL : ∀ l ∈ st.ops, 0 ≤ l.n ∧ l.n ≤ 20000 * k ∧ l.text.size ≤ 80000 * k := fun l hl => by
        have q1 := hso.nn l hl
        have q2 := (sumN_le hso.nn).2 l hl
        have q3 := sumT_le _ l hl
        have := hso.sum; have := hso.txt; have := hso.g0
        omega
      have HEL := Lib.hid hEL; clear hEL
      have hg0 := hso.g0
      have hg1 : st.gone ≤ 20000 * k := by have := (sumN_le hso.nn).1; have := hso.sum; omega
      have hfl := (flushM_sum st.ops st.gone hg0).2.2
      have hown0 : ∀ k, v1.ownBlock = some k → w1.heap.size ≤ k := fun k hk => (HO.out.lt k hk).1
      go_wp2_with fail
      refine (flush_any w1.heap.size w1.heap.size st.gone v1 st.ops _ HG.out (Nat.le_refl _) HO.out (by omega) hg0 (fun l hl => by have := HEL.out l hl; omega)).mono ?_
      rintro e W3 ⟨rfl, v3, hg3, hO3, hp3, hf3⟩
      have hb3 : Below w1.heap.size w1 W3 := hb.trans (hp3.below (fun k hk => by rcases hk with hk | hk; omega; exact hown0 k hk.symm) hb.size)
      generalize hops3 : flushM st.ops st.gone = ops3 at *
      clear hso HEL HST HO HG hg0 hg1 hown0 hp3 hf3 hb hops3
      have hl3 : ops3.length ≤ 5000 := by omega
      have hbx3 := (hb3.block _ hl1).trans hbx1
      have hcx3 := (hb3.block _ (by omega)).trans hcx1
      obtain ⟨x0, x1⟩ := box2 hbx3
      obtain ⟨y0, y1⟩ := box2 hcx3
      obtain ⟨z0, z1⟩ := box2 hg3
      have fx0 := froz_heap hbx3 0
      have fx1 := froz_heap hbx3 1
      have fg0 := froz_heap hg3 0
      have hgl3 := heap_lt hg3
      have hbl3 := heap_lt hbx3
      have hcl3 := heap_lt hcx3
      have hR3 := rdO_of_own2 hO3 (by omega) hg3
      have HO3 := Lib.hid hO3; clear hO3
      have HG3 := Lib.hid hg3; have HBX3 := Lib.hid hbx3; have HCX3 := Lib.hid hcx3; clear hg3 hbx3 hcx3
      obtain ⟨B, dap, rfl, hcp, hcp2, _, hBs⟩ := hR3.open_
      have HBS := Lib.hid hBs; clear hBs
      have HR3 := Lib.hid hR3; clear hR3
      have hgH : w1.heap.size ≠ w.heap.size := by omega
      have hgH1 : w1.heap.size ≠ w.heap.size + 1 := by omega
      by_cases h0 : 0 < ops3.length
      case' neg =>
        have hL : normM ops = ops3 := by rw [HALL.out, List.eq_nil_of_length_eq_zero (by omega : ops3.length = 0)]; rfl
        have HL := Lib.hid hL; clear hL
        have hd0 : decide ((0 : Int) < (ops3.length : Int)) = false := decide_eq_false (by omega)
        go_wp2_with fail
        obtain ⟨W4, rfl⟩ : ∃ W4, W4 = W3 := ⟨_, rfl⟩
        have hR4 : RdO W4 (fun k => w1.heap.size ≤ k ∧ k ≠ w1.heap.size) (.slice B ops3.length ops3.length) ops3 := by
          have := HR3.out.take ops3.length (Nat.le_refl _) (by omega); rwa [List.take_of_length_le (Nat.le_refl _)] at this
        have hg4 := HG3.out; have hbx4 := HBX3.out; have hcx4 := HCX3.out; have hb4 := hb3
        have hcp' := hcp
        generalize ops3.length = n at *
      case' pos =>
        have hd0 : decide ((0 : Int) < (ops3.length : Int)) = true := decide_eq_true (by omega)
        obtain ⟨rb, off, rfl, _, _⟩ := HBS.out h0
        obtain ⟨va, p0, p1, p2, p3, hva⟩ := HR3.out.at_ (ops3.length - 1) (by omega)
        have hrl := World.block_lt_of_cell? _ _ p0
        obtain ⟨A9, cap9, rfl, _, _, _, _⟩ := hva.open_
        have hlast : ops3.getLast? = some ops3[ops3.length - 1] := by rw [List.getLast?_eq_getElem?]; exact List.getElem?_eq_getElem (by omega)
        have HLA := Lib.hid hlast; clear hlast hva
        obtain ⟨e2, e3, e4, e1⟩ := idx_facts ops3.length h0 (by omega)
        generalize hla : ops3[ops3.length - 1] = last at *
        clear hla
        by_cases hk1 : last.kind = 1
        case' neg =>
          have hk1' : (last.kind == 1) = false := by simpa using hk1
          have hL : normM ops = ops3 := by rw [HALL.out]; unfold normTail; rw [HLA.out]; simp [hk1]
          have HL := Lib.hid hL; clear hL hk1
          go_wp2_with fail
          obtain ⟨W4, rfl⟩ : ∃ W4, W4 = W3 := ⟨_, rfl⟩
          have hR4 : RdO W4 (fun k => w1.heap.size ≤ k ∧ k ≠ w1.heap.size) (.slice (some ⟨rb, off, none⟩) ops3.length ops3.length) ops3 := by
            have := HR3.out.take ops3.length (Nat.le_refl _) (by omega); rwa [List.take_of_length_le (Nat.le_refl _)] at this
          have hg4 := HG3.out; have hbx4 := HBX3.out; have hcx4 := HCX3.out; have hb4 := hb3
          have hcp' := hcp
          clear e1 e2 e3 e4
          generalize ops3.length = n at *
          generalize hBB : (some (⟨rb, off, none⟩ : Addr)) = B at *
          clear hBB
        case' pos =>
          have hk1' : (last.kind == 1) = true := by simpa using hk1
          by_cases ha0 : last.attrs.length = 0
          case' neg =>
            have ha0' : ((last.attrs.length : Int) == 0) = false := by simpa using ha0
            have hL : normM ops = ops3 := by
              rw [HALL.out]; unfold normTail; rw [HLA.out]
              have : last.attrs ≠ [] := fun e => ha0 (by rw [e]; rfl)
              simp [this]
            have HL := Lib.hid hL; clear hL hk1 ha0
            go_wp2_with fail
            obtain ⟨W4, rfl⟩ : ∃ W4, W4 = W3 := ⟨_, rfl⟩
            have hR4 : RdO W4 (fun k => w1.heap.size ≤ k ∧ k ≠ w1.heap.size) (.slice (some ⟨rb, off, none⟩) ops3.length ops3.length) ops3 := by
              have := HR3.out.take ops3.length (Nat.le_refl _) (by omega); rwa [List.take_of_length_le (Nat.le_refl _)] at this
            have hg4 := HG3.out; have hbx4 := HBX3.out; have hcx4 := HCX3.out; have hb4 := hb3
            have hcp' := hcp
            clear e1 e2 e3 e4
            generalize ops3.length = n at *
            generalize hBB : (some (⟨rb, off, none⟩ : Addr)) = B at *
            clear hBB
          case' pos =>
            have hL : normM ops = ops3.dropLast := by
              rw [HALL.out]; unfold normTail; rw [HLA.out]
              have : last.attrs = [] := List.eq_nil_of_length_eq_zero ha0
              simp [this, hk1]
            have HL := Lib.hid hL; clear hL hk1
            have hR5 : RdO W3 (fun k => w1.heap.size ≤ k ∧ k ≠ w1.heap.size) (.slice (some ⟨rb, off, none⟩) (ops3.length - 1) (ops3.length - 1)) ops3.dropLast := by
              have := HR3.out.take (ops3.length - 1) (by omega) (by omega); rwa [← List.dropLast_eq_take] at this
            have HR5 := Lib.hid hR5; clear hR5
            have e6 : (ops3.length : Int) - 1 ≤ (dap : Int) := by omega
            have ha0' : ((last.attrs.length : Int) == 0) = true := by rw [ha0]; rfl
            obtain ⟨W4, hW4⟩ : ∃ W4, W3.setCell ⟨w1.heap.size, 0, none⟩ (.slice (some ⟨rb, off, none⟩) (ops3.length - 1) dap) = W4 := ⟨_, rfl⟩
            have hg4 : W4.heap[w1.heap.size]? = some (.cells #[.slice (some ⟨rb, off, none⟩) (ops3.length - 1) dap, .int .i64 0] 147 (0, 0)) := by rw [← hW4]; exact set_heap HG3.out _
            have hbx4 : W4.heap[w.heap.size + 1]? = some (.cells #[.int .i64 0, .slice none 0 0] 24 (0, 0)) := by rw [← hW4, Below.heap_setCell _ _ _ _ (fun e => hgH1 e.symm)]; exact HBX3.out
            have hcx4 : W4.heap[w.heap.size]? = some (.cells #[.int .i64 f, .slice A ops.length cap] 24 (0, 0)) := by rw [← hW4, Below.heap_setCell _ _ _ _ (fun e => hgH e.symm)]; exact HCX3.out
            have hb4 : Below w1.heap.size w1 W4 := by rw [← hW4]; exact hb3.setCell (p := ⟨w1.heap.size, 0, none⟩) (Nat.le_refl _) _
            have hR4 : RdO W4 (fun k => w1.heap.size ≤ k ∧ k ≠ w1.heap.size) (.slice (some ⟨rb, off, none⟩) (ops3.length - 1) (ops3.length - 1)) ops3.dropLast := by
              rw [← hW4]; exact HR5.out.agree fun k hk _ => Below.heap_setCell _ _ _ _ hk.2
            have HG4 := Lib.hid hg4; have HBX4 := Lib.hid hbx4; have HCX4 := Lib.hid hcx4; have HR4 := Lib.hid hR4
            clear hg4 hbx4 hcx4 hR4
            go_wp2_with fail
            clear hW4
            have hR4 := HR4.out
            have hg4 := HG4.out; have hbx4 := HBX4.out; have hcx4 := HCX4.out
            have hcp' : ops3.length - 1 ≤ dap := by omega
            clear e1 e2 e3 e4 e6
            generalize ops3.length - 1 = n at *
            generalize hBB : (some (⟨rb, off, none⟩ : Addr)) = B at *
            clear hBB
      all_goals
        clear x0 x1 y0 y1 z0 z1 fx0 fx1 fg0 hgl3 hbl3 hcl3
        obtain ⟨x0, x1⟩ := box2 hbx4
        obtain ⟨y0, y1⟩ := box2 hcx4
        obtain ⟨z0, z1⟩ := box2 hg4
        have fx0 := froz_heap hbx4 0
        have fx1 := froz_heap hbx4 1
        have hgl3 := heap_lt hg4
        have hbl3 := heap_lt hbx4
        have hcl3 := heap_lt hcx4
        have HR4 := Lib.hid hR4; have HB4 := Lib.hid hb4
        clear hR4 hb4 hg4 hcx4
        obtain ⟨W6, hW6⟩ : ∃ W6, (W4.setCell ⟨w.heap.size + 1, 0, none⟩ (.int .i64 f)).setCell ⟨w.heap.size + 1, 1, none⟩ (.slice B n n) = W6 := ⟨_, rfl⟩
        have hbx6 : W6.heap[w.heap.size + 1]? = some (.cells #[.int .i64 f, .slice B n n] 24 (0, 0)) := by rw [← hW6]; exact set_heap1 (set_heap hbx4 _) _
        have hb6 : Below w.heap.size w W6 := by
          rw [← hW6]; exact ((hb1.trans (HB4.out.mono (by omega))).setCell (p := ⟨w.heap.size + 1, 0, none⟩) (by simp) _).setCell (p := ⟨w.heap.size + 1, 1, none⟩) (by simp) _
        have hR6 : RdO W6 (fun k => w.heap.size ≤ k) (.slice B n n) (normM ops) := by
          rw [HL.out, ← hW6]
          exact (HR4.out.agree fun k hk _ => by
            rw [Below.heap_setCell _ _ _ _ (by have := hk.1; show k ≠ w.heap.size + 1; omega), Below.heap_setCell _ _ _ _ (by have := hk.1; show k ≠ w.heap.size + 1; omega)]).mono fun k hk _ => by have := hk.1; omega
        obtain ⟨q0, q1⟩ := box2 hbx6
        have HR6 := Lib.hid hR6; clear hR6 hbx6 hbx4
        refine wp_region_still_tail 7 (by kernel_rfl) (by kernel_rfl) ?_
        simp only [List.take_succ_cons, List.take_zero, List.drop_succ_cons, List.drop_zero]
        repeat still_step
        still_call (clipO_same B n dap hcp' hcp2 _)
        repeat still_step
        try refine wpStill_nil ?_
        change wpList _ _ _ _ _ (World.drew _)
        go_wp2
        refine bodyPost_ret (v := .tuple #[.agg #[.int .i64 f, .slice B n n], .int .i64 0]) (by simp [results, Tryz.results65, go_sem, q0, q1]) rfl ⟨.slice B n n, by rw [HE.out]; rfl, hb6.drew, by rw [if_pos HE.out]; exact HR6.out.agree fun _ _ _ => rfl⟩
end Go.Proofs.YtdpmjlkmjmookaaGreatDoor
