/-
  Package change: when two changesets are the same (Same), whether one has its normal form (Is), walked.
-/
import Derived.Test.YtdpmjlkmjmookaaGreatDoorNormal2
namespace Go.Proofs.YtdpmjlkmjmookaaGreatDoor
open Go.RowKit

theorem normal_any (f : Int) (v : Value) (ops : List OpM) (F : Nat → Prop) (w : World) (h : RdO w F v ops) (hT : Tabs w) :
    Calls Tryz.prog 65 #[.agg #[.int .i64 f, v]] w (NormalPost f ops w) := by
  by_cases he : toE f ops = 0
  · exact normal_good f v ops F w h hT he
  · exact normal_bad f v ops F w h hT he

def sameO1 (a b : OpM) : Bool := (a.kind == b.kind) && (a.n == b.n) && (a.text.toList == b.text.toList) && sameAL a.attrs b.attrs
theorem sameO1_iff (a b : OpM) : sameO1 a b = true ↔ a = b := by
  obtain ⟨k, n, t, l⟩ := a; obtain ⟨k', n', t', l'⟩ := b
  simp only [sameO1, Bool.and_eq_true, beq_iff_eq, OpM.mk.injEq, sameAL_iff]
  exact ⟨fun h => ⟨h.1.1.1, h.1.1.2, ba_ext h.1.2, h.2⟩, fun h => ⟨⟨⟨h.1, h.2.1⟩, by rw [h.2.2.1]⟩, h.2.2.2⟩⟩
def sameOL : List OpM → List OpM → Bool
  | [], [] => true
  | a :: l, b :: m => sameO1 a b && sameOL l m
  | _, _ => false
theorem sameOL_iff (l m : List OpM) : sameOL l m = true ↔ l = m := by
  induction l generalizing m with
  | nil => cases m <;> simp [sameOL]
  | cons a l ih => cases m with
    | nil => simp [sameOL]
    | cons b m => simp [sameOL, sameO1_iff, ih]
theorem sameOL_false {l m : List OpM} (h : l ≠ m) : sameOL l m = false := by
  rw [Bool.eq_false_iff]; intro e; exact h ((sameOL_iff l m).1 e)

set_option maxHeartbeats 2000000 in
theorem same1_any (a b : OpM) (va vb : Value) (F G : Nat → Prop) (w : World) (h : RdA w F va a.attrs) (g : RdA w G vb b.attrs) :
    Calls Tryz.prog 169 #[opV a va, opV b vb] w fun e w' => e = .returned (.bool (sameO1 a b)) ∧ Below w.heap.size w w' := by
  obtain ⟨A, cap, rfl, hc, hcm, hm, _⟩ := h.open_
  obtain ⟨A2, cap2, rfl, gc, gcm, gm, _⟩ := g.open_
  have H := Lib.hid h; have G := Lib.hid g; clear h g
  have hB : Below w.heap.size w ((w.alloc (.cells #[.int .i64 a.kind, .int .i64 a.n, .string a.text, .slice A a.attrs.length cap] 48)).alloc (.cells #[.int .i64 b.kind, .int .i64 b.n, .string b.text, .slice A2 b.attrs.length cap2] 48)) := ((Below.refl _ w).alloc (Nat.le_refl _) _).alloc (by simp) _
  simp only [opV]
  have FIN : ∀ r : Bool, sameO1 a b = r → ∀ x : Bool, x = r → Ending.returned (.bool x) = .returned (.bool (sameO1 a b)) := fun r h1 x h2 => by rw [h1, h2]
  have HF := Lib.hid FIN; clear FIN
  by_cases h1 : a.kind = b.kind
  · have h1' : (a.kind == b.kind) = true := by simpa using h1
    have H1 := Lib.hid h1; clear h1
    by_cases h2 : a.n = b.n
    · have h2' : (a.n == b.n) = true := by simpa using h2
      have H2 := Lib.hid h2; clear h2
      by_cases h3 : a.text.toList = b.text.toList
      · have h3' : (a.text.toList == b.text.toList) = true := by simpa using h3
        have H3 := Lib.hid h3; clear h3
        go_enter Tryz.func169, Tryz.ntmps169
        go_wp2_with fail
        refine (attrsSame_any _ _ a.attrs b.attrs F _ _ (H.out.pure hB) (G.out.pure hB)).mono ?_
        rintro e w' ⟨rfl, n, rfl⟩
        go_wp2
        go_ret
        exact ⟨HF.out (sameAL a.attrs b.attrs) (by simp [sameO1, H1.out, H2.out, H3.out]) _ rfl, below_drewN hB n⟩
      · have h3' : (a.text.toList == b.text.toList) = false := by simpa using h3
        have H3 := Lib.hid h3'; clear h3
        go_enter Tryz.func169, Tryz.ntmps169
        go_wp2
        go_ret
        exact ⟨HF.out false (by unfold sameO1; rw [H3.out]; simp) _ rfl, hB⟩
    · have h2' : (a.n == b.n) = false := by simpa using h2
      have H2 := Lib.hid h2'; clear h2
      go_enter Tryz.func169, Tryz.ntmps169
      go_wp2
      go_ret
      exact ⟨HF.out false (by unfold sameO1; rw [H2.out]; simp) _ rfl, hB⟩
  · have h1' : (a.kind == b.kind) = false := by simpa using h1
    have H1 := Lib.hid h1'; clear h1
    go_enter Tryz.func169, Tryz.ntmps169
    go_wp2
    go_ret
    exact ⟨HF.out false (by unfold sameO1; rw [H1.out]; simp) _ rfl, hB⟩
theorem ent169 : ∀ args w, (callFunc 169 args).run Tryz.prog w = .ok (.enter 169 args) w := enters_of Tryz.func169 (by kernel_rfl) rfl

set_option maxHeartbeats 2000000 in
theorem equalFuncO_any (v u : Value) (l m : List OpM) (F G : Nat → Prop) (w : World) (h : RdO w F v l) (g : RdO w G u m) :
    Calls Tryz.prog 168 #[v, u, .func (.func 169) #[] #[]] w fun e w' => e = .returned (.bool (sameOL l m)) ∧ Below w.heap.size w w' := by
  obtain ⟨A, cap, rfl, hc, hcm, hm, hcell⟩ := h.open_
  obtain ⟨B, dap, rfl, gc, gcm, gm, gcell⟩ := g.open_
  have HC := Lib.hid hcell; clear hcell
  have GC := Lib.hid gcell; clear gcell
  have H := Lib.hid h; clear h
  have G := Lib.hid g; clear g
  have hen := ent169
  by_cases hl : l.length = m.length
  · rw [← hl]
    have HL := Lib.hid hl; clear hl
    go_enter Tryz.func168, Tryz.ntmps168
    go_wp2
    go_loopw [17] (fun i wr => ∃ k : Nat, k ≤ l.length ∧ i = .int .i64 k ∧ Below w.heap.size w wr ∧ l.take k = m.take k) (fun i _ => l.length - (intOf i).toNat)
    case atStart => exact ⟨0, by omega, rfl, Below.refl _ _, by simp⟩
    case round =>
      obtain ⟨k, hk, rfl, hb, hf⟩ := hrel
      have HF := Lib.hid hf; clear hf
      by_cases hlt : k < l.length
      · obtain ⟨b, off, rfl, hF⟩ := HC.out (by omega)
        have hltm : k < m.length := by rw [← HL.out]; exact hlt
        obtain ⟨b', off', rfl, hG⟩ := GC.out (by omega)
        obtain ⟨va, c0, c1, c2, c3, hva⟩ := (H.out.pure hb).at_ k hlt
        obtain ⟨vb, d0, d1, d2, d3, hvb⟩ := (G.out.pure hb).at_ k hltm
        obtain ⟨A3, cap3, rfl, _⟩ := hva.open_
        obtain ⟨A4, cap4, rfl, _⟩ := hvb.open_
        have hbl := World.block_lt_of_cell? wr _ c0
        have hbl2 := World.block_lt_of_cell? wr _ d0
        have HVA := Lib.hid hva; have HVB := Lib.hid hvb; clear hva hvb
        have hB : Below wr.heap.size wr ((wr.alloc (.cells #[.int .i64 l[k].kind, .int .i64 l[k].n, .string l[k].text, .slice A3 l[k].attrs.length cap3] 48)).alloc (.cells #[.int .i64 m[k].kind, .int .i64 m[k].n, .string m[k].text, .slice A4 m[k].attrs.length cap4] 48)) := ((Below.refl _ wr).alloc (Nat.le_refl _) _).alloc (by simp) _
        have hbb := hb.trans (hB.mono hb.size)
        have HLT := Lib.hid hltm
        go_wp2_with fail
        refine (same1_any l[k] m[k] _ _ F _ _ (HVA.out.pure hB) (HVB.out.pure hB)).mono ?_
        rintro e w2 ⟨rfl, h2⟩
        have hb2 := pure_trans hbb h2
        by_cases hs : sameO1 l[k] m[k] = true
        · have HT := Lib.hid (take_eq_snoc l m k hlt HLT.out HF.out ((sameO1_iff _ _).1 hs))
          rw [hs]; clear hs
          go_wp2
          exact ⟨⟨k + 1, by omega, by go_num, hb2, HT.out⟩, by simp [intOf]; omega⟩
        · have hs' : sameO1 l[k] m[k] = false := by simpa using hs
          have hne : sameOL l m = false := sameOL_false (fun e => hs ((sameO1_iff _ _).2 (by subst e; rfl)))
          have HN := Lib.hid hne; clear hne hs
          rw [hs']; clear hs'
          go_wp2
          go_ret
          exact ⟨ret_bool HN.out.symm, hb2⟩
      · have hee : sameOL l m = true := by
          rw [sameOL_iff]
          have h := HF.out
          have hL := HL.out
          rwa [List.take_of_length_le (by omega), List.take_of_length_le (by omega)] at h
        have HE := Lib.hid hee; clear hee
        go_wp2
        go_ret
        exact ⟨ret_bool HE.out.symm, hb⟩
  · have hne : sameOL l m = false := sameOL_false (fun e => hl (by rw [e]))
    have HN := Lib.hid hne; clear hne
    go_enter Tryz.func168, Tryz.ntmps168
    go_wp2
    go_ret
    exact ⟨ret_bool HN.out.symm, Below.refl _ _⟩

/-! ### Same, Is -/
def sameC (f : Int) (l : List OpM) (g : Int) (m : List OpM) : Bool := (f == g) && sameOL l m
theorem sameC_iff (f : Int) (l : List OpM) (g : Int) (m : List OpM) : sameC f l g m = true ↔ f = g ∧ l = m := by simp [sameC, sameOL_iff]

set_option maxHeartbeats 1000000 in
theorem changeSame_any (f g : Int) (v u : Value) (l m : List OpM) (F G : Nat → Prop) (w : World) (h : RdO w F v l) (hg : RdO w G u m) :
    Calls Tryz.prog 127 #[.agg #[.int .i64 f, v], .agg #[.int .i64 g, u]] w fun e w' => e = .returned (.bool (sameC f l g m)) ∧ Below w.heap.size w w' := by
  obtain ⟨A, cap, rfl, hc, hcm, hm, _⟩ := h.open_
  obtain ⟨B, dap, rfl, gc, gcm, gm, _⟩ := hg.open_
  have H := Lib.hid h; clear h
  have G := Lib.hid hg; clear hg
  have hB : Below w.heap.size w ((w.alloc (.cells #[.int .i64 f, .slice A l.length cap] 24)).alloc (.cells #[.int .i64 g, .slice B m.length dap] 24)) := ((Below.refl _ w).alloc (Nat.le_refl _) _).alloc (by simp) _
  by_cases h1 : f = g
  · have h1' : (f == g) = true := by simpa using h1
    have HS := Lib.hid (show sameC f l g m = sameOL l m by unfold sameC; rw [h1']; simp)
    clear h1
    go_enter Tryz.func127, Tryz.ntmps127
    go_wp2_with fail
    refine (equalFuncO_any _ _ l m F _ _ (H.out.pure hB) (G.out.pure hB)).mono ?_
    rintro e w2 ⟨rfl, h2⟩
    go_wp2
    go_ret
    exact ⟨ret_bool HS.out.symm, pure_trans hB h2⟩
  · have h1' : (f == g) = false := by simpa using h1
    have HS := Lib.hid (show sameC f l g m = false by unfold sameC; rw [h1']; simp)
    clear h1
    go_enter Tryz.func127, Tryz.ntmps127
    go_wp2
    go_ret
    exact ⟨ret_bool HS.out.symm, hB⟩

def isM (f : Int) (ops : List OpM) : Bool := decide (toE f ops = 0) && sameOL ops (normM ops)
set_option maxHeartbeats 1000000 in
theorem is_any (f : Int) (v : Value) (ops : List OpM) (F : Nat → Prop) (w : World) (h : RdO w F v ops) (hT : Tabs w) :
    Calls Tryz.prog 77 #[.agg #[.int .i64 f, v]] w fun e w' => e = .returned (.bool (isM f ops)) ∧ Below w.heap.size w w' := by
  obtain ⟨A, cap, rfl, hc, hcm, hm, _⟩ := h.open_
  have H := Lib.hid h; clear h
  have HT := Lib.hid hT; clear hT
  have hB : Below w.heap.size w (w.alloc (.cells #[.int .i64 f, .slice A ops.length cap] 24)) := (Below.refl _ w).alloc (Nat.le_refl _) _
  have hbx : (w.alloc (.cells #[.int .i64 f, .slice A ops.length cap] 24)).heap[w.heap.size]? = some (.cells #[.int .i64 f, .slice A ops.length cap] 24 (0, 0)) := heap_alloc_new w _
  go_enter Tryz.func77, Tryz.ntmps77
  go_wp2_with fail
  refine (normal_any f _ ops F _ (H.out.pure hB) (HT.out.pure hB)).mono ?_
  rintro e w1 ⟨v', rfl, h1, hR⟩
  have hbx1 := (h1.block _ (heap_lt hbx)).trans hbx
  obtain ⟨c0, c1⟩ := box2 hbx1
  have hl1 := heap_lt hbx1
  have hb1 := pure_trans hB h1
  obtain ⟨A2, cap2, rfl, _⟩ := hR.open_
  have HR := Lib.hid hR; clear hR h1 hbx hbx1
  by_cases he : toE f ops = 0
  · have HI := Lib.hid (show isM f ops = sameOL ops (normM ops) by unfold isM; rw [he]; simp)
    have HRR : RdO w1 (fun k => (w.alloc (.cells #[.int .i64 f, .slice A ops.length cap] 24)).heap.size ≤ k) (.slice A2 (normM ops).length cap2) (normM ops) := by
      have := HR.out; rw [if_pos he] at this; exact this
    have HR2 := Lib.hid HRR; clear HRR
    rw [he, if_pos rfl, if_pos rfl]
    have hB2 : Below w1.heap.size w1 (w1.alloc (.cells #[.int .i64 f, .slice A2 (normM ops).length cap2] 24)) := (Below.refl _ w1).alloc (Nat.le_refl _) _
    clear he HR
    go_wp2_with fail
    refine (changeSame_any f f _ _ ops (normM ops) F _ _ ((H.out.pure hb1).pure hB2) (HR2.out.pure hB2)).mono ?_
    rintro e w2 ⟨rfl, h2⟩
    go_wp2
    go_ret
    exact ⟨ret_bool (by rw [HI.out]; simp [sameC]), pure_trans (pure_trans hb1 hB2) h2⟩
  · have HI := Lib.hid (show isM f ops = false by unfold isM; simp [he])
    have he' : (toE f ops == 0) = false := by simpa using he
    have hB2 : Below w1.heap.size w1 (w1.alloc (.cells #[.int .i64 (if toE f ops = 0 then f else 0), .slice A2 (if toE f ops = 0 then normM ops else []).length cap2] 24)) := (Below.refl _ w1).alloc (Nat.le_refl _) _
    rw [if_neg he, if_neg he] at *
    clear he
    go_wp2
    go_ret
    exact ⟨ret_bool HI.out.symm, pure_trans hb1 hB2⟩
end Go.Proofs.YtdpmjlkmjmookaaGreatDoor
