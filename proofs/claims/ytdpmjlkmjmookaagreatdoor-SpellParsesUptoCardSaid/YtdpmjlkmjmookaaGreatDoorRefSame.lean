/-
  The references' Same of two changesets (blotterref03), walked.
-/
import Derived.Test.YtdpmjlkmjmookaaGreatDoorRefRight
namespace Go.Proofs.YtdpmjlkmjmookaaGreatDoor
open Go.RowKit Go.PlainAid

theorem eq_facts {α : Type} [BEq α] [LawfulBEq α] {a b : α} (h : a = b) : (a == b) = true ∧ (a != b) = false := by subst h; simp
theorem ne_facts {α : Type} [BEq α] [LawfulBEq α] {a b : α} (h : ¬ a = b) : (a == b) = false ∧ (a != b) = true := by simpa using h
theorem sameO1_false {a b : OpM} (h : ¬ (a.kind = b.kind ∧ a.n = b.n ∧ a.text.toList = b.text.toList ∧ sameAL a.attrs b.attrs = true)) : a ≠ b := by
  intro e; subst e; exact h ⟨rfl, rfl, rfl, (sameAL_iff _ _).2 rfl⟩
theorem sameO1_mk {a b : OpM} (h1 : a.kind = b.kind) (h2 : a.n = b.n) (h3 : a.text.toList = b.text.toList) (h4 : sameAL a.attrs b.attrs = true) : a = b := by
  obtain ⟨k, n, t, l⟩ := a; obtain ⟨k', n', t', l'⟩ := b
  simp only at h1 h2 h3 h4
  rw [h1, h2, ba_ext h3, (sameAL_iff _ _).1 h4]

set_option maxHeartbeats 8000000 in
set_option maxRecDepth 100000 in
theorem refSame_any (f g : Int) (v u : Value) (l m : List OpM) (F G : Nat → Prop) (w : World) (h : RdO w F v l) (hg : RdO w G u m) :
    Calls Tryz.prog 19 #[.agg #[.int .i64 f, v], .agg #[.int .i64 g, u]] w fun e w' => e = .returned (.bool (sameC f l g m)) ∧ Below w.heap.size w w' := by
  obtain ⟨A, cap, rfl, hc, hcm, hm, hcell⟩ := h.open_
  obtain ⟨B, dap, rfl, gc, gcm, gm, gcell⟩ := hg.open_
  have H := Lib.hid h; clear h
  have G' := Lib.hid hg; clear hg
  have HC := Lib.hid hcell; clear hcell
  have GC := Lib.hid gcell; clear gcell
  have FIN : ∀ b : Bool, sameC f l g m = b → Ending.returned (.bool b) = .returned (.bool (sameC f l g m)) := fun b e => by rw [e]
  have HFIN := Lib.hid FIN; clear FIN
  obtain ⟨nl, hnl⟩ : ∃ nl, l.length = nl := ⟨_, rfl⟩
  obtain ⟨nm, hnm⟩ : ∃ nm, m.length = nm := ⟨_, rfl⟩
  rw [hnl] at hc hm HC H ⊢
  rw [hnm] at gc gm GC G' ⊢
  have HNL := Lib.hid hnl; have HNM := Lib.hid hnm
  clear hnl hnm
  have hB : Below w.heap.size w ((w.alloc (.cells #[.int .i64 f, .slice A nl cap] 24)).alloc (.cells #[.int .i64 g, .slice B nm dap] 24)) := ((Below.refl _ w).alloc (Nat.le_refl _) _).alloc (by simp) _
  by_cases h1 : f = g
  · subst h1
    have HS := Lib.hid (show sameC f l f m = sameOL l m by unfold sameC; simp)
    by_cases hl : nl = nm
    · subst hl
      have hx0 : ((w.alloc (.cells #[.int .i64 f, .slice A nl cap] 24)).alloc (.cells #[.int .i64 f, .slice B nl dap] 24)).heap[w.heap.size]? = some (.cells #[.int .i64 f, .slice A nl cap] 24 (0, 0)) := by
        rw [Below.heap_alloc _ _ _ (by simp)]; exact heap_alloc_new w _
      have hx1 : ((w.alloc (.cells #[.int .i64 f, .slice A nl cap] 24)).alloc (.cells #[.int .i64 f, .slice B nl dap] 24)).heap[w.heap.size + 1]? = some (.cells #[.int .i64 f, .slice B nl dap] 24 (0, 0)) := by
        have := heap_alloc_new (w.alloc (.cells #[.int .i64 f, .slice A nl cap] 24)) (.cells #[.int .i64 f, .slice B nl dap] 24); simpa using this
      have HX0 := Lib.hid hx0; have HX1 := Lib.hid hx1; clear hx0 hx1
      go_enter Tryz.func19, Tryz.ntmps19
      go_wp2
      go_loopw [5] (fun i wr => ∃ k : Nat, k ≤ nl ∧ i = .int .i64 k ∧ Below w.heap.size w wr ∧ l.take k = m.take k ∧ wr.heap[w.heap.size]? = some (.cells #[.int .i64 f, .slice A nl cap] 24 (0, 0)) ∧ wr.heap[w.heap.size + 1]? = some (.cells #[.int .i64 f, .slice B nl dap] 24 (0, 0))) (fun i _ => nl - (intOf i).toNat)
      case atStart => exact ⟨0, by omega, rfl, hB, by simp, HX0.out, HX1.out⟩
      case round =>
        obtain ⟨k, hk, rfl, hb, hf, y0, y1⟩ := hrel
        have HF := Lib.hid hf; clear hf
        have Y0 := Lib.hid y0; have Y1 := Lib.hid y1
        obtain ⟨p0, p1⟩ := box2 y0
        obtain ⟨p2, p3⟩ := box2 y1
        have hyl := heap_lt y1
        clear y0 y1
        by_cases hlt : k < nl
        · have dk : decide ((k : Int) < (nl : Int)) = true := decide_eq_true (by omega)
          obtain ⟨b, off, rfl, hF⟩ := HC.out (by omega)
          have hltl : k < l.length := by rw [HNL.out]; exact hlt
          have hltm : k < m.length := by rw [HNM.out]; exact hlt
          obtain ⟨b', off', rfl, hG⟩ := GC.out (by omega)
          obtain ⟨va, c0, c1, c2, c3, hva⟩ := (H.out.pure hb).at_ k hltl
          obtain ⟨vb, e0, e1, e2, e3, hvb⟩ := (G'.out.pure hb).at_ k hltm
          obtain ⟨A3, cap3, rfl, _⟩ := hva.open_
          obtain ⟨A4, cap4, rfl, _⟩ := hvb.open_
          have hbl := World.block_lt_of_cell? wr _ c0
          have hbl2 := World.block_lt_of_cell? wr _ e0
          have hTE := fun (hs : l[k] = m[k]) => take_eq_snoc l m k hltl hltm HF.out hs
          have hNE := fun (hs : ¬ l[k] = m[k]) => HS.out.trans (sameOL_false (l := l) (m := m) (fun e => hs (by subst e; rfl)))
          have HTE := Lib.hid hTE; have HNE := Lib.hid hNE
          clear hTE hNE
          generalize l[k] = oa at *
          generalize m[k] = ob at *
          obtain ⟨ka, na, ta, la⟩ := oa
          obtain ⟨kb, nb, tb, lb⟩ := ob
          simp only at c0 c1 c2 c3 e0 e1 e2 e3 hva hvb
          have HVA := Lib.hid hva; have HVB := Lib.hid hvb; clear hva hvb
          have HLT := Lib.hid (And.intro hltl hltm); clear hltl hltm
          obtain ⟨ak, hak⟩ : ∃ ak, sameAL la lb = ak := ⟨_, rfl⟩
          have HAK := Lib.hid hak; clear hak
          by_cases hkk : ka = kb
          case' neg =>
            obtain ⟨k1, k2⟩ := ne_facts hkk
            have HN := Lib.hid (HNE.out (fun e => by injection e with e _ _ _; exact hkk e))
            clear hkk
          case' pos =>
            subst hkk
            by_cases hnn : na = nb
            case' neg =>
              obtain ⟨n1, n2⟩ := ne_facts hnn
              have HN := Lib.hid (HNE.out (fun e => by injection e with _ e _ _; exact hnn e))
              clear hnn
            case' pos =>
              subst hnn
              by_cases htt : ta = tb
              case' neg =>
                obtain ⟨t1, t2⟩ := ne_facts (show ¬ ta.toList = tb.toList from fun e => htt (ba_ext e))
                have HN := Lib.hid (HNE.out (fun e => by injection e with _ _ e _; exact htt e))
                clear htt
              case' pos =>
                subst htt
                cases ak
                case' false =>
                  have HN := Lib.hid (HNE.out (fun e => by
                    injection e with _ _ _ e
                    have := HAK.out
                    rw [(sameAL_iff la lb).2 e] at this; cases this))
                case' true =>
                  have HT := Lib.hid (HTE.out (by rw [(sameAL_iff la lb).1 HAK.out]))
                  have hB2 : Below wr.heap.size wr ((wr.alloc (.cells #[.int .i64 ka, .int .i64 na, .string ta, .slice A3 la.length cap3] 48)).alloc (.cells #[.int .i64 ka, .int .i64 na, .string ta, .slice A4 lb.length cap4] 48)) := ((Below.refl _ wr).alloc (Nat.le_refl _) _).alloc (by simp) _
                  have hbb := hb.trans (hB2.mono hb.size)
                  have Z0 := Lib.hid ((hB2.block _ (heap_lt Y0.out)).trans Y0.out)
                  have Z1 := Lib.hid ((hB2.block _ (heap_lt Y1.out)).trans Y1.out)
                  go_wp2_with fail
                  refine (refSameA_any _ _ la lb F G _ (HVA.out.pure hB2) (HVB.out.pure hB2)).mono ?_
                  rintro e w2 ⟨rfl, nq, rfl⟩
                  rw [HAK.out]
                  go_wp2
                  exact ⟨⟨k + 1, by omega, by go_num, below_drewN hbb _, HT.out, Z0.out, Z1.out⟩, by simp [intOf]; omega⟩
          all_goals
            go_wp2_with fail
            refine (refSameA_any _ _ la lb F G _ (HVA.out.agree (fun q _ hq => by rw [Below.heap_alloc _ _ _ (by simp; omega), Below.heap_alloc _ _ _ hq])) (HVB.out.agree (fun q _ hq => by rw [Below.heap_alloc _ _ _ (by simp; omega), Below.heap_alloc _ _ _ hq]))).mono ?_
            rintro e w2 ⟨rfl, nq, rfl⟩
            rw [HAK.out]
            go_wp2
            go_ret
            exact ⟨HFIN.out _ HN.out, below_drewN ((hb.alloc hb.size _).alloc (by have := hb.size; simp; omega) _) _⟩
        · have dk : decide ((k : Int) < (nl : Int)) = false := decide_eq_false (by omega)
          have hee : sameOL l m = true := by
            rw [sameOL_iff]
            have h := HF.out
            have h1 := HNL.out; have h2 := HNM.out
            rwa [List.take_of_length_le (by omega), List.take_of_length_le (by omega)] at h
          have HE := Lib.hid (HS.out.trans hee); clear hee
          go_wp2
          go_ret
          exact ⟨HFIN.out _ HE.out, hb⟩
    · have hne : sameOL l m = false := sameOL_false (fun e => hl (by rw [← HNL.out, ← HNM.out, e]))
      have HN := Lib.hid (HS.out.trans hne); clear hne
      have q1 : ((nl : Int) == (nm : Int)) = false := by simp; omega
      have q2 : ((nl : Int) != (nm : Int)) = true := by simp; omega
      have q3 : (nl == nm) = false := by simpa using hl
      have q4 : (nl != nm) = true := by simpa using hl
      clear hl
      go_enter Tryz.func19, Tryz.ntmps19
      go_wp2
      go_ret
      exact ⟨HFIN.out _ HN.out, hB⟩
  · obtain ⟨d1, d2⟩ := ne_facts h1
    have HS := Lib.hid (show sameC f l g m = false by unfold sameC; rw [d1]; simp)
    clear h1
    go_enter Tryz.func19, Tryz.ntmps19
    go_wp2
    go_ret
    exact ⟨HFIN.out _ HS.out, hB⟩
end Go.Proofs.YtdpmjlkmjmookaaGreatDoor
