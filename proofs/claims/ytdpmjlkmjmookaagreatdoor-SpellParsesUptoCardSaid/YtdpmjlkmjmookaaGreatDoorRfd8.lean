/-
  The references' Read and Parse (blotterref04), walked.
-/
import Derived.Test.YtdpmjlkmjmookaaGreatDoorRfdB
import Derived.Test.YtdpmjlkmjmookaaGreatDoorParse
import Derived.Test.YtdpmjlkmjmookaaGreatDoorLawBF
import Derived.StillTailTactics
namespace Go.Proofs.YtdpmjlkmjmookaaGreatDoor
set_option linter.unusedVariables false
set_option linter.unusedSimpArgs false
open Go.RowKit Go.PlainAid

set_option maxRecDepth 100000 in
set_option maxHeartbeats 4000000 in
theorem rread_out (s : ByteArray) (i : Int) (w : World) (hs : s.size ≤ 1099511627776) (hi : i < 0 ∨ (s.size : Int) < i) :
    Calls Tryz.prog 27 #[.string s, .int .i64 i] w (ReadPost s i w) := by
  have hR : readM s i = ⟨[], 0, 1, -1⟩ := by unfold readM; rw [if_pos hi]
  have HR := Lib.hid hR; clear hR
  by_cases h0 : i < 0
  case' pos => have hd : decide (i < 0) = true := by simpa using h0
  case' neg =>
    have hd : decide (i < 0) = false := by simpa using h0
    have hd2 : decide ((s.size : Int) < i) = true := by simp; omega
  all_goals
    go_enter Tryz.func27, Tryz.ntmps27
    go_wp2_with fail
    have hq := heap_alloc_new w (.cells #[.int .i64 1, .int .i64 (-1)] 32)
    obtain ⟨q0, q1⟩ := box2 hq
    refine bodyPost_ret (v := .tuple #[.string ⟨#[]⟩, .int .i64 0, faultV 1 (-1)]) (by simp [results, Tryz.results27, go_sem, faultV, q0, q1]) rfl ?_
    unfold ReadPost; rw [HR.out]
    exact ⟨rfl, (Below.refl _ w).alloc (Nat.le_refl _) _⟩
set_option maxRecDepth 100000 in
set_option maxHeartbeats 4000000 in
theorem rread_in (s : ByteArray) (i : Nat) (w : World) (hs : s.size ≤ 1099511627776) (hi : i ≤ s.size) :
    Calls Tryz.prog 27 #[.string s, .int .i64 (i : Int)] w (ReadPost s i w) := by
  have hR : readM s i = match quotedM (s.data.toList.drop i) with
    | .ok (d, r) => ⟨d, (s.size : Int) - r.length, 0, 0⟩
    | .error k => ⟨[], 0, 40, (s.size : Int) - k⟩ := by unfold readM; rw [if_neg (by omega)]; rfl
  have HR := Lib.hid hR; clear hR
  have hd : decide ((i : Int) < 0) = false := by simp
  have hd2 : decide ((s.size : Int) < (i : Int)) = false := by simp; omega
  go_enter Tryz.func27, Tryz.ntmps27
  go_wp2_with fail
  obtain ⟨W1, hW1⟩ : ∃ W1, (w.alloc (.cells #[.int .i64 0, .int .i64 0] 32)).alloc (.cells #[.string s, .int .i64 (i : Int), .int .i64 (-1)] 118) = W1 := ⟨_, rfl⟩
  have hb1 : Below w.heap.size w W1 := by rw [← hW1]; exact ((Below.refl _ w).alloc (Nat.le_refl _) _).alloc (by simp) _
  have hs1 : W1.heap.size = w.heap.size + 2 := by rw [← hW1]; simp
  have hf1 : W1.heap[w.heap.size]? = some (.cells #[.int .i64 0, .int .i64 0] 32 (0, 0)) := by
    rw [← hW1, Below.heap_alloc _ _ _ (by simp)]; exact heap_alloc_new w _
  have ht1 : RTx (w.heap.size + 1) s (s.data.toList.drop i) W1 := ⟨i, hi, rfl, by
    rw [← hW1]; have := heap_alloc_new (w.alloc (.cells #[.int .i64 0, .int .i64 0] 32)) (.cells #[.string s, .int .i64 (i : Int), .int .i64 (-1)] 118); simpa using this⟩
  rw [hW1]; clear hW1
  refine (rquoted_any (w.heap.size + 1) s (s.data.toList.drop i) W1 ht1 hs).mono ?_
  intro e w2 hp
  cases hq : quotedM (s.data.toList.drop i) with
  | error k =>
    unfold RRd at hp; rw [hq] at hp
    obtain ⟨⟨v, rfl, rfl⟩, hB, k2⟩ := hp
    rw [hq] at HR
    have hf2 := (k2.block _ (by omega) (by omega)).trans hf1
    have hb2 : Below w.heap.size W1 w2 := k2.below (fun _ h => by omega) (by omega)
    obtain ⟨hk, a, ha, h3⟩ := hB
    obtain ⟨c0, c1, c2⟩ := box3 h3
    obtain ⟨m, hm⟩ : ∃ m : Nat, (s.size : Int) - (k : Int) = (m : Int) := ⟨s.size - k, by omega⟩
    have hR2 : readM s (i : Int) = ⟨[], 0, 40, (s.size : Int) - k⟩ := HR.out
    rw [hm] at c2 hR2
    have HR2 := Lib.hid hR2
    clear hR2
    obtain ⟨z0, z1⟩ := box2 hf2
    have f0 := froz_heap hf2 0; have f1 := froz_heap hf2 1
    have hl := heap_lt hf2
    have hbw := hb1.trans hb2
    have HF := Lib.hid hf2
    have hd3 : decide ((0 : Int) ≤ (m : Int)) = true := by simp
    clear hq hf2 k2 hf1 ht1 hb1 hb2 hs1 h3 hm
    go_wp2_with fail
    go_still_tail 7, (by kernel_rfl)
    change wpList _ _ _ _ _ w2.drew
    go_wp2
    obtain ⟨q0, q1⟩ := box2 (set_heap1 (set_heap HF.out (.int .i64 40)) (.int .i64 (m : Int)))
    refine bodyPost_ret (v := .tuple #[.string ⟨#[]⟩, .int .i64 0, faultV 40 m]) (by simp [results, Tryz.results27, go_sem, faultV, q0, q1]) rfl ?_
    unfold ReadPost; rw [HR2.out]
    exact ⟨rfl, ((hbw.setCell (p := ⟨w.heap.size, 0, none⟩) (Nat.le_refl _) _).setCell (p := ⟨w.heap.size, 1, none⟩) (Nat.le_refl _) _).drew⟩
  | ok p =>
    obtain ⟨d, r⟩ := p
    unfold RRd at hp; rw [hq] at hp
    obtain ⟨rfl, h2, k2⟩ := hp
    rw [hq] at HR
    have hf2 := (k2.block _ (by omega) (by omega)).trans hf1
    have hb2 : Below w.heap.size W1 w2 := k2.below (fun _ h => by omega) (by omega)
    obtain ⟨a, y1, y2, y3⟩ := h2
    have hra : (s.size : Int) - (r.length : Int) = (a : Int) := by rw [y2, drop_len]; omega
    obtain ⟨x0, x1, x2⟩ := box3 y3
    obtain ⟨z0, z1⟩ := box2 hf2
    have f0 := froz_heap hf2 0; have f1 := froz_heap hf2 1
    have hl := heap_lt hf2
    have hbw := hb1.trans hb2
    have HF := Lib.hid hf2
    have HRA := Lib.hid hra
    clear hq hf2 k2 hf1 ht1 hb1 hb2 hs1 y2 y3 hra
    unfold strV
    go_wp2_with fail
    go_still_tail 8, (by kernel_rfl)
    change wpList _ _ _ _ _ w2.drew
    go_wp2
    obtain ⟨q0, q1⟩ := box2 (set_heap1 (set_heap HF.out (.int .i64 0)) (.int .i64 0))
    refine bodyPost_ret (v := .tuple #[.string (mkB d), .int .i64 (a : Int), faultV 0 0]) (by simp [results, Tryz.results27, go_sem, faultV, q0, q1, mkB]) rfl ?_
    unfold ReadPost; rw [HR.out]
    refine ⟨?_, ((hbw.setCell (p := ⟨w.heap.size, 0, none⟩) (Nat.le_refl _) _).setCell (p := ⟨w.heap.size, 1, none⟩) (Nat.le_refl _) _).drew⟩
    simp only [HRA.out]
theorem rread_any (s : ByteArray) (i : Int) (w : World) (hs : s.size ≤ 1099511627776) :
    Calls Tryz.prog 27 #[.string s, .int .i64 i] w (ReadPost s i w) := by
  by_cases hi : i < 0 ∨ (s.size : Int) < i
  · exact rread_out s i w hs hi
  · have h0 : i = ((i.toNat : Nat) : Int) := by omega
    rw [h0]
    exact rread_in s i.toNat w hs (by omega)

/-! ### Parse -/
theorem own_sO {w : World} {a b : Nat} {v : Value} {ops : List OpM} (h : OwnO w a v ops) (hb : b ≤ a) : OwnO w b v ops := by
  obtain ⟨items, e, ho, hi⟩ := h
  exact ⟨items, e, own_lo ho hb, fun p hp => ⟨(hi p hp).1.mono fun k hk _ => ⟨Nat.le_trans hb hk.1, hk.2⟩, (hi p hp).2⟩⟩
/-- as ParsePost, and the rows of attributes need not be whole -/
def RParsePost (s : ByteArray) (w : World) (e : Ending) (w' : World) : Prop := match parseM s with
  | .error (c, k) => e = .returned (.tuple #[.agg #[.int .i64 0, .slice none 0 0], faultV c k]) ∧ Below w.heap.size w w'
  | .ok (f, ops) => ∃ v, e = .returned (.tuple #[.agg #[.int .i64 f, v], faultV 0 0]) ∧ Below w.heap.size w w' ∧ OwnO w' w.heap.size v ops
structure PSt (w : World) (f : Int) (W : World) (rv : Value) (items : List Item) : Prop where
  below : Below w.heap.size w W
  rc : W.heap[w.heap.size]? = some (.cells #[.int .i64 0, .slice none 0 0] 24 (0, 0))
  rf : W.heap[w.heap.size + 1]? = some (.cells #[.int .i64 0, .int .i64 0] 32 (0, 0))
  cb : W.heap[w.heap.size + 1 + 1 + 1]? = some (.cells #[.int .i64 f, rv] 24 (0, 0))
  own : OwnI W (w.heap.size + 4) rv items
theorem PSt.push {w W W4 w6 : World} {f : Int} {rv rv' va : Value} {items : List Item} {o : OpM} {o1 o2 : Obj} {n : Nat} (h : PSt w f W rv items) (hk : KpG (w.heap.size + 1 + 1) W W4) (hva : RdA W4 (fun k => W.heap.size ≤ k ∧ TyA W4 k) va o.attrs) (ht : o.text.size ≤ 1099511627776)
    (hn : items.length = n) (hown : w6.ownsRow (w.heap.size + 4) 48 4 rv' (n + 1) (flat cellsP items ++ cellsO o va)) (hgrow : ((W4.alloc o1).alloc o2).grownBy w6 rv.ownBlock) :
    PSt w f (w6.setCell ⟨w.heap.size + 1 + 1 + 1, 1, none⟩ rv') rv' (items ++ [(o, va)]) ∧ (w6.setCell ⟨w.heap.size + 1 + 1 + 1, 1, none⟩ rv').heap[w.heap.size + 1 + 1]? = W4.heap[w.heap.size + 1 + 1]? := by
  have hsz := hk.size
  have hcl := heap_lt h.cb
  have hlo : ∀ k, rv.ownBlock = some k → w.heap.size + 4 ≤ k := fun k hk => (h.own.1.lt k hk).1
  have hO4 := own_kpG h.own.1 hk (by omega)
  have h4 : ∀ k, k < W.heap.size → k ≠ w.heap.size + 1 + 1 → W4.heap[k]? = W.heap[k]? := fun k h1 h2 => hk.block k h1 h2
  have h64 : ∀ k, k < W4.heap.size → rv.ownBlock ≠ some k → w6.heap[k]? = W4.heap[k]? := fun k h1 hne => by
    rw [hgrow.block k (by simp; omega) (fun e => hne e.symm), Below.heap_alloc _ _ _ (by simp; omega), Below.heap_alloc _ _ _ h1]
  have hlow : ∀ k, k < w.heap.size + 4 → k ≠ w.heap.size + 1 + 1 + 1 → (w6.setCell ⟨w.heap.size + 1 + 1 + 1, 1, none⟩ rv').heap[k]? = W4.heap[k]? := fun k h1 h2 => by
    rw [Below.heap_setCell _ ⟨w.heap.size + 1 + 1 + 1, 1, none⟩ _ _ h2]
    exact h64 k (by omega) (fun e => by have := hlo k e; omega)
  have hcb4 := (h4 _ hcl (by omega)).trans h.cb
  have hcb6 := (h64 _ (heap_lt hcb4) (fun e => by have := hlo _ e; omega)).trans hcb4
  have hat : ∀ k, w.heap.size + 4 ≤ k → TyA W4 k → (w6.setCell ⟨w.heap.size + 1 + 1 + 1, 1, none⟩ rv').heap[k]? = W4.heap[k]? := fun k h1 hty => by
    rw [Below.heap_setCell _ ⟨w.heap.size + 1 + 1 + 1, 1, none⟩ _ _ (by show k ≠ w.heap.size + 1 + 1 + 1; omega)]
    exact h64 k (tyA_lt hty) (fun e => ops_nt hO4 k e hty)
  have hwz := h.below.size
  have h64s : W4.heap.size ≤ w6.heap.size := by have := hgrow.size; simp at this; omega
  refine ⟨⟨?_, ?_, ?_, set_heap1 hcb6 _, ?_, ?_⟩, hlow _ (by omega) (by omega)⟩
  · refine Below.setCell (p := ⟨w.heap.size + 1 + 1 + 1, 1, none⟩) ?_ (by show w.heap.size ≤ w.heap.size + 1 + 1 + 1; omega) _
    exact (((h.below.trans (hk.below (fun _ h => by omega) (by omega))).alloc (by omega) _).alloc (by simp; omega) _).grown hgrow (by simp; omega) (fun k hk => by have := hlo k hk; omega)
  · exact (hlow _ (by omega) (by omega)).trans ((h4 _ (by omega) (by omega)).trans h.rc)
  · exact (hlow _ (by omega) (by omega)).trans ((h4 _ (by omega) (by omega)).trans h.rf)
  · have h1 : w6.ownsRow (w.heap.size + 4) 48 4 rv' (items ++ [(o, va)]).length (flat cellsP (items ++ [(o, va)])) := by
      rw [flat_append, flat_one, List.length_append, hn]; exact hown
    exact ownsRow_setCell_other h1 (own_ne h1 hcb6 (by decide)) _
  · intro p hp
    rcases List.mem_append.1 hp with hp | hp
    · have h1 : OwnItem W4 (w.heap.size + 4) p := (h.own.2 p hp).agree fun k hk1 hty => h4 k (tyA_lt hty) (by omega)
      exact h1.agree hat
    · simp at hp; subst hp
      have h1 : OwnItem W4 (w.heap.size + 4) (o, va) := ⟨hva.mono fun k hk1 _ => ⟨by have := hk1.1; omega, hk1.2⟩, ht⟩
      exact h1.agree hat
theorem four8 (w : World) (a b c d : Array Value) (ta tb tc td : TypeId) :
    ((((w.alloc (.cells a ta)).alloc (.cells b tb)).alloc (.cells c tc)).alloc (.cells d td)).drew.heap[w.heap.size]? = some (.cells a ta (0, 0)) ∧
    ((((w.alloc (.cells a ta)).alloc (.cells b tb)).alloc (.cells c tc)).alloc (.cells d td)).drew.heap[w.heap.size + 1]? = some (.cells b tb (0, 0)) ∧
    ((((w.alloc (.cells a ta)).alloc (.cells b tb)).alloc (.cells c tc)).alloc (.cells d td)).drew.heap[w.heap.size + 1 + 1]? = some (.cells c tc (0, 0)) ∧
    ((((w.alloc (.cells a ta)).alloc (.cells b tb)).alloc (.cells c tc)).alloc (.cells d td)).drew.heap[w.heap.size + 1 + 1 + 1]? = some (.cells d td (0, 0)) ∧
    Below w.heap.size w ((((w.alloc (.cells a ta)).alloc (.cells b tb)).alloc (.cells c tc)).alloc (.cells d td)).drew := by
  have h1 := heap_alloc_new w (.cells a ta)
  have h2 := heap_alloc_new (w.alloc (.cells a ta)) (.cells b tb)
  have h3 := heap_alloc_new ((w.alloc (.cells a ta)).alloc (.cells b tb)) (.cells c tc)
  have h4 := heap_alloc_new (((w.alloc (.cells a ta)).alloc (.cells b tb)).alloc (.cells c tc)) (.cells d td)
  refine ⟨?_, ?_, ?_, ?_, below_drew (((((Below.refl _ w).alloc (Nat.le_refl _) _).alloc (by simp) _).alloc (by first | (simp; done) | (simp; omega)) _).alloc (by first | (simp; done) | (simp; omega)) _)⟩
  · show ((((w.alloc (.cells a ta)).alloc (.cells b tb)).alloc (.cells c tc)).alloc (.cells d td)).heap[_]? = _
    rw [Below.heap_alloc _ _ _ (by first | (simp; done) | (simp; omega)), Below.heap_alloc _ _ _ (by first | (simp; done) | (simp; omega)), Below.heap_alloc _ _ _ (by simp)]; exact h1
  · show ((((w.alloc (.cells a ta)).alloc (.cells b tb)).alloc (.cells c tc)).alloc (.cells d td)).heap[_]? = _
    rw [Below.heap_alloc _ _ _ (by first | (simp; done) | (simp; omega)), Below.heap_alloc _ _ _ (by simp)]; simpa using h2
  · show ((((w.alloc (.cells a ta)).alloc (.cells b tb)).alloc (.cells c tc)).alloc (.cells d td)).heap[_]? = _
    rw [Below.heap_alloc _ _ _ (by simp)]; simpa using h3
  · show ((((w.alloc (.cells a ta)).alloc (.cells b tb)).alloc (.cells c tc)).alloc (.cells d td)).heap[_]? = _
    simpa using h4
def rawThen (f : Int) : Except Nat (List OpM) → Except Nat (Int × List OpM)
  | .error k => .error k
  | .ok os => .ok (f, os)
def PaRel (s : ByteArray) (w : World) (gm : Nat) (wr : World) : Prop :=
  ∃ (q : Nat) (f : Int) (rv : Value) (items : List Item), q = gm ∧ PSt w f wr rv items ∧
    ((∃ r n, RTx (w.heap.size + 1 + 1) s r wr ∧ r.length + 1 ≤ gm ∧ rawM s.data.toList = rawThen f (pushO (items.map Prod.fst) (opsF n r)) ∧ r.length < n ∧ items.length + r.length ≤ s.size) ∨
     (∃ k, RBad (w.heap.size + 1 + 1) s k wr ∧ rawM s.data.toList = .error k))
theorem pushO_step (acc : List OpM) (o : OpM) (x : Except Nat (List OpM)) : pushO acc (match x with | .error k => .error k | .ok os => .ok (o :: os)) = pushO (acc ++ [o]) x := by
  cases x <;> simp [pushO]

set_option maxRecDepth 100000 in
set_option maxHeartbeats 8000000 in
theorem rparse_any (s : ByteArray) (w : World) (hs : s.size ≤ 16777216) (hT : Tabs w) :
    Calls Tryz.prog 28 #[.string s] w (RParsePost s w) := by
  obtain ⟨i0, hi, hz0, hz1, hz2⟩ := info_parts infoO
  by_cases hbig : 262144 < s.size
  · have hM : parseM s = .error (2, -1) := by unfold parseM; rw [if_pos hbig]
    have HM := Lib.hid hM; clear hM
    have hd : decide ((262144 : Int) < (s.size : Int)) = true := by simp; omega
    go_enter Tryz.func28, Tryz.ntmps28
    go_wp2_with fail
    have hC1 : ((w.alloc (.cells #[.int .i64 0, .slice none 0 0] 24)).alloc (.cells #[.int .i64 2, .int .i64 (-1)] 32)).heap[w.heap.size]? = some (.cells #[.int .i64 0, .slice none 0 0] 24 (0, 0)) := by
      rw [Below.heap_alloc _ _ _ (by simp)]; exact heap_alloc_new w _
    have hF1 : ((w.alloc (.cells #[.int .i64 0, .slice none 0 0] 24)).alloc (.cells #[.int .i64 2, .int .i64 (-1)] 32)).heap[w.heap.size + 1]? = some (.cells #[.int .i64 2, .int .i64 (-1)] 32 (0, 0)) := by
      have := heap_alloc_new (w.alloc (.cells #[.int .i64 0, .slice none 0 0] 24)) (.cells #[.int .i64 2, .int .i64 (-1)] 32); simpa using this
    obtain ⟨q0, q1⟩ := box2 hC1
    obtain ⟨q2, q3⟩ := box2 hF1
    refine bodyPost_ret (v := .tuple #[.agg #[.int .i64 0, .slice none 0 0], faultV 2 (-1)]) (by simp [results, Tryz.results28, go_sem, faultV, q0, q1, q2, q3]) rfl ?_
    unfold RParsePost; rw [HM.out]
    exact ⟨rfl, ((Below.refl _ w).alloc (Nat.le_refl _) _).alloc (by simp) _⟩
  · have hM : parseM s = match rawM s.data.toList with
      | .error k => .error (40, (s.size : Int) - k)
      | .ok (f, ops) => if toE f ops ≠ 0 then .error (toE f ops, -1) else if isM f ops = false then .error (40, -1) else .ok (f, ops) := by unfold parseM; rw [if_neg hbig]; rfl
    have HM := Lib.hid hM; clear hM
    have hd : decide ((262144 : Int) < (s.size : Int)) = false := by simp; omega
    obtain ⟨x0, x1, x2, x3, x4⟩ := four8 w #[.int .i64 0, .slice none 0 0] #[.int .i64 0, .int .i64 0] #[.string s, .int .i64 0, .int .i64 (-1)] #[.int .i64 0, .slice none 0 0] 24 32 118 24
    have X0 := Lib.hid x0; have X1 := Lib.hid x1; have X2 := Lib.hid x2; have X3 := Lib.hid x3; have X4 := Lib.hid x4
    clear x0 x1 x2 x3 x4
    by_cases h0 : s.size = 0
    · have hd0 : ((s.size : Int) == 0) = true := by rw [h0]; rfl
      have hs0 : s.data.toList = [] := List.eq_nil_of_length_eq_zero (by rw [len_data]; exact h0)
      have HM2 := Lib.hid (show parseM s = .error (40, 0) by
        rw [HM.out, hs0]
        show Except.error (40, (s.size : Int) - ((0 : Nat) : Int)) = _
        rw [h0]; rfl)
      clear h0 hs0 HM
      go_enter Tryz.func28, Tryz.ntmps28
      go_upto_region 6 with fail
      obtain ⟨W, hW⟩ : ∃ W, (((w.alloc (.cells #[.int .i64 0, .slice none 0 0] 24)).alloc (.cells #[.int .i64 0, .int .i64 0] 32)).alloc (.cells #[.string s, .int .i64 0, .int .i64 (-1)] 118)).alloc (.cells #[.int .i64 0, .slice none 0 0] 24) = W := ⟨_, rfl⟩
      have hC : W.heap[w.heap.size]? = some (.cells #[.int .i64 0, .slice none 0 0] 24 (0, 0)) := by rw [← hW]; exact X0.out
      have hF : W.heap[w.heap.size + 1]? = some (.cells #[.int .i64 0, .int .i64 0] 32 (0, 0)) := by rw [← hW]; exact X1.out
      have hD : W.heap[w.heap.size + 1 + 1 + 1]? = some (.cells #[.int .i64 0, .slice none 0 0] 24 (0, 0)) := by rw [← hW]; exact X3.out
      have hB : Below w.heap.size w W := by rw [← hW]; exact ⟨X4.out.os, X4.out.tape, X4.out.output, X4.out.size, X4.out.block⟩
      rw [hW]
      clear hW
      obtain ⟨e0, e1⟩ := box2 hD
      obtain ⟨z1, z2, z3, z4⟩ := two_cells hC hF hB (.int .i64 0) (.slice none 0 0) (.int .i64 40) (.int .i64 0)
      have Z1 := Lib.hid z1; have Z2 := Lib.hid z2; have Z3 := Lib.hid z3; have Z4 := Lib.hid z4
      clear z1 z2 z3 z4
      obtain ⟨c0, c1⟩ := box2 hC
      obtain ⟨d0, d1⟩ := box2 hF
      have fc0 := froz_heap hC 0; have fc1 := froz_heap hC 1
      have ff0 := froz_heap hF 0; have ff1 := froz_heap hF 1
      have hl0 := heap_lt hC; have hl1 := heap_lt hF
      clear hC hF hD
      go_wp2
      obtain ⟨q0, q1⟩ := box2 Z1.out
      obtain ⟨q2, q3⟩ := box2 Z2.out
      refine bodyPost_ret (v := .tuple #[.agg #[.int .i64 0, .slice none 0 0], faultV 40 0]) (by simp [results, Tryz.results28, go_sem, faultV, q0, q1, q2, q3]) rfl ?_
      unfold RParsePost; rw [HM2.out]
      exact ⟨rfl, Z3.out⟩
    · have hd0 : ((s.size : Int) == 0) = false := beq_eq_false_iff_ne.2 (by omega)
      go_enter Tryz.func28, Tryz.ntmps28
      go_upto_region 7 with fail
      obtain ⟨W, hW⟩ : ∃ W, (((w.alloc (.cells #[.int .i64 0, .slice none 0 0] 24)).alloc (.cells #[.int .i64 0, .int .i64 0] 32)).alloc (.cells #[.string s, .int .i64 0, .int .i64 (-1)] 118)).alloc (.cells #[.int .i64 0, .slice none 0 0] 24) = W := ⟨_, rfl⟩
      have hC : W.heap[w.heap.size]? = some (.cells #[.int .i64 0, .slice none 0 0] 24 (0, 0)) := by rw [← hW]; exact X0.out
      have hF : W.heap[w.heap.size + 1]? = some (.cells #[.int .i64 0, .int .i64 0] 32 (0, 0)) := by rw [← hW]; exact X1.out
      have hR : W.heap[w.heap.size + 1 + 1]? = some (.cells #[.string s, .int .i64 0, .int .i64 (-1)] 118 (0, 0)) := by rw [← hW]; exact X2.out
      have hD : W.heap[w.heap.size + 1 + 1 + 1]? = some (.cells #[.int .i64 0, .slice none 0 0] 24 (0, 0)) := by rw [← hW]; exact X3.out
      have hB : Below w.heap.size w W := by rw [← hW]; exact ⟨X4.out.os, X4.out.tape, X4.out.output, X4.out.size, X4.out.block⟩
      rw [hW]
      clear hW hd hd0
      have HXW := Lib.hid (show RTx (w.heap.size + 1 + 1) s s.data.toList W from ⟨0, by omega, by simp, hR⟩)
      have HCW := Lib.hid hC; have HFW := Lib.hid hF; have HDW := Lib.hid hD; have HBW := Lib.hid hB
      clear hC hF hR hD hB
      go_wp2_with fail
      refine (rnumber_step (w.heap.size + 1 + 1) s s.data.toList W HXW.out (by omega)).mono ?_
      rintro e w3 ⟨f, rfl, k3, hst⟩
      have hls := HDW.out
      have hlw := heap_lt hls
      have hC3 := (k3.block w.heap.size (by omega) (by omega)).trans HCW.out
      have hF3 := (k3.block (w.heap.size + 1) (by omega) (by omega)).trans HFW.out
      have hD3 := (k3.block (w.heap.size + 1 + 1 + 1) (by omega) (by omega)).trans HDW.out
      have hB3 := HBW.out.trans (k3.below (fun _ h => by omega) (by omega))
      obtain ⟨e0, e1⟩ := box2 hD3
      have fe := froz_heap hD3 0
      have hel := heap_lt hD3
      have HST := Lib.hid (show PaRel s w (s.size + 1) (w3.setCell ⟨w.heap.size + 1 + 1 + 1, 0, none⟩ (.int .i64 f)) from by
        refine ⟨_, f, .slice none 0 0, [], rfl, ⟨hB3.setCell (p := ⟨w.heap.size + 1 + 1 + 1, 0, none⟩) (by show w.heap.size ≤ w.heap.size + 1 + 1 + 1; omega) _, ?_, ?_, set_heap hD3 _, ⟨World.ownsRow_nil _ _ _ _, by simp⟩⟩, ?_⟩
        · rw [Below.heap_setCell _ ⟨w.heap.size + 1 + 1 + 1, 0, none⟩ _ _ (by show w.heap.size ≠ w.heap.size + 1 + 1 + 1; omega)]; exact hC3
        · rw [Below.heap_setCell _ ⟨w.heap.size + 1 + 1 + 1, 0, none⟩ _ _ (by show w.heap.size + 1 ≠ w.heap.size + 1 + 1 + 1; omega)]; exact hF3
        have hg : (w3.setCell ⟨w.heap.size + 1 + 1 + 1, 0, none⟩ (.int .i64 f)).heap[w.heap.size + 1 + 1]? = w3.heap[w.heap.size + 1 + 1]? := Below.heap_setCell _ ⟨w.heap.size + 1 + 1 + 1, 0, none⟩ _ _ (by show w.heap.size + 1 + 1 ≠ w.heap.size + 1 + 1 + 1; omega)
        rcases hst with ⟨r, e1, e2⟩ | ⟨k, e1, e2⟩
        · have hl := e2.left
          refine .inl ⟨r, r.length + 1, e2.agree hg, by omega, ?_, by omega, by simpa using hl⟩
          unfold rawM; rw [e1]; simp only [List.map_nil, pushO_nil]
          cases opsF (r.length + 1) r <;> rfl
        · exact .inr ⟨k, e2.agree hg, by unfold rawM; rw [e1]⟩)
      clear k3 hst hls hlw hC3 hF3 hD3 hB3
      go_wp2_with fail
      clear e0 e1 fe hel
      go_loopg [6] (s.size + 1) (fun gm o wr => PaRel s w gm wr)
      case atStart => exact HST.out
      case round =>
        clear HST
        obtain ⟨gm, f, rv, items, hgm0, hps, hcase⟩ := hrel
        have HG0 := Lib.hid hgm0
        rw [← hgm0] at hcase
        have HPS := Lib.hid hps
        have hbz := hps.below.size
        obtain ⟨rA, rcap, rfl⟩ := ownF hps.own.1
        have hcl := heap_lt hps.cb
        clear hgm0 hps
        rcases hcase with ⟨r, n, hr, hgm, hq, hrn, hal⟩ | ⟨k, hb, hq⟩
        case inr =>
          have HM2 := Lib.hid (show parseM s = .error (40, (s.size : Int) - k) by rw [HM.out, hq])
          obtain ⟨hk, a, ha, h3⟩ := hb
          obtain ⟨c0, c1, c2⟩ := box3 h3
          obtain ⟨m, hm⟩ : ∃ m : Nat, (s.size : Int) - (k : Int) = (m : Int) := ⟨s.size - k, by omega⟩
          rw [hm] at c2 HM2
          have HC := HPS.out.rc
          have HF := HPS.out.rf
          have hd1 : decide ((m : Int) < 0) = false := by simp
          have hd2 : decide ((0 : Int) ≤ (m : Int)) = true := by simp
          clear h3 hm hq
          obtain ⟨z1, z2, z3, z4⟩ := two_cells HC HF HPS.out.below (.int .i64 0) (.slice none 0 0) (.int .i64 40) (.int .i64 m)
          have Z1 := Lib.hid z1; have Z2 := Lib.hid z2; have Z3 := Lib.hid z3; have Z4 := Lib.hid z4
          clear z1 z2 z3 z4
          obtain ⟨b0, b1⟩ := box2 HC
          obtain ⟨d0, d1⟩ := box2 HF
          have fc0 := froz_heap HC 0; have fc1 := froz_heap HC 1
          have ff0 := froz_heap HF 0; have ff1 := froz_heap HF 1
          have hl0 := heap_lt HC; have hl1 := heap_lt HF
          clear HC HF
          go_wp2_with fail
          go_region
          all_goals
            try go_wp2
            obtain ⟨q0, q1⟩ := box2 Z1.out
            obtain ⟨q2, q3⟩ := box2 Z2.out
            refine bodyPost_ret (v := .tuple #[.agg #[.int .i64 0, .slice none 0 0], faultV 40 m]) (by simp [results, Tryz.results28, go_sem, faultV, q0, q1, q2, q3]) rfl ?_
            unfold RParsePost; rw [HM2.out]
            exact ⟨rfl, Z3.out.drew⟩
        case inl =>
          have HQ := Lib.hid hq
          have HR := Lib.hid hr
          obtain ⟨a, ha, hra, h3⟩ := hr
          have HRA := Lib.hid hra
          have hrl : r.length = s.size - a := by rw [hra, drop_len]
          obtain ⟨c0, c1, c2⟩ := box3 h3
          have hgl := heap_lt h3
          obtain ⟨m, rfl⟩ : ∃ m, n = m + 1 := ⟨n - 1, by omega⟩
          clear hra h3 hq
          by_cases hre : a < s.size
          · have dk : decide ((a : Int) < (s.size : Int)) = true := decide_eq_true (by omega)
            have hrne : r ≠ [] := by rintro rfl; simp at hrl; omega
            have HRN := Lib.hid hrne
            clear hrne
            go_wp2_with fail
            refine (rop_any (w.heap.size + 1 + 1) s r wr HR.out (by omega)).mono ?_
            rintro e w4 ⟨o, va, rfl, hva, htx, k4, hO⟩
            obtain ⟨AV, capv, rfl, _⟩ := hva.open_
            have HVA := Lib.hid hva; have HOS := Lib.hid hO; have HK4 := Lib.hid k4
            have hcb4 := (k4.block (w.heap.size + 1 + 1 + 1) hcl (by omega)).trans HPS.out.cb
            have HCB4 := Lib.hid hcb4
            obtain ⟨e0, e1⟩ := box2 hcb4
            have hcl4 := heap_lt hcb4
            have hO4 := Lib.hid (own_kpG HPS.out.own.1 k4 (by omega))
            have hs4 := k4.size
            have hil : items.length ≤ 16777216 := by omega
            have HNE4 := Lib.hid (own_ne hO4.out hcb4 (by decide))
            clear hva hO k4 hcb4 c0 c1 c2 dk
            unfold opV
            go_wp2_with (first | (at_builtin; refine wpList_append_own _ rfl (.tmp 43) (.tmp 45) 22 rfl (w.heap.size + 4) 48 i0 (.agg #[.int .i64 0, .int .i64 0, .string ⟨#[]⟩, .slice none 0 0]) 4 56 Tryz.underlying22 hi hz0 hz1 hz2 rfl (by decide) (.slice rA items.length rcap) items.length (flat cellsP items) rfl ((hO4.out.alloc _).alloc _) ⟨w4.heap.size + 1, 0, none⟩ 1 1 [.int .i64 o.kind, .int .i64 o.n, .string o.text, .slice AV o.attrs.length capv] rfl rfl (World.news_of_block (cs := #[.int .i64 o.kind, .int .i64 o.n, .string o.text, .slice AV o.attrs.length capv]) (t := 48) (fr := (0, 0)) (by have := heap_alloc_new (w4.alloc (.cells #[.int .i64 o.kind, .int .i64 o.n, .string o.text, .slice AV o.attrs.length capv] 48)) (.cells #[.int .i64 o.kind, .int .i64 o.n, .string o.text, .slice AV o.attrs.length capv] 48); simpa using this)) (by simp [Value.oneCell']) (by unfold maxLen; omega) (by omega) (by simp; omega) ?_) | fail)
            intro rv' w6 hown hgrow _
            obtain ⟨A6, cap6, rfl⟩ := ownF hown
            obtain ⟨hps6, hg6⟩ := HPS.out.push HK4.out HVA.out (by omega) rfl hown hgrow
            have hcb6 : w6.heap[w.heap.size + 1 + 1 + 1]? = some (.cells #[.int .i64 f, .slice rA items.length rcap] 24 (0, 0)) :=
              ((hgrow.block _ (by simp; omega) (fun e => HNE4.out e.symm)).trans ((Below.heap_alloc _ _ _ (by simp; omega)).trans (Below.heap_alloc _ _ _ hcl4))).trans HCB4.out
            obtain ⟨z0, z1⟩ := box2 hcb6
            have fz := froz_heap hcb6 1
            have hzl := heap_lt hcb6
            have HN := Lib.hid (show PaRel s w (gm - 1) (w6.setCell ⟨w.heap.size + 1 + 1 + 1, 1, none⟩ (.slice A6 (items.length + 1) cap6)) from by
              refine ⟨_, f, _, _, rfl, hps6, ?_⟩
              rcases HOS.out with ⟨r2, h1, h2⟩ | ⟨k, h1, h2⟩
              · have hl := opM_len h1
                refine .inl ⟨r2, m, h2.agree hg6, by omega, ?_, by omega, by rw [List.length_append]; simp; omega⟩
                rw [HQ.out, List.map_append]
                conv => lhs; unfold opsF
                rw [if_neg HRN.out, h1]
                cases hX : opsF m r2 <;> simp [pushO, hX]
              · refine .inr ⟨k, h2.agree hg6, ?_⟩
                rw [HQ.out]
                conv => lhs; unfold opsF
                rw [if_neg HRN.out, h1]; rfl)
            clear hown hgrow hps6 hg6 hcb6
            go_wp2
            go_roundg (gm - 1)
            case measure => have := HG0.out; omega
            case rel => exact HN.out
          · have dk : decide ((a : Int) < (s.size : Int)) = false := decide_eq_false (by omega)
            have dk2 : decide (a < s.size) = false := decide_eq_false hre
            have hre0 : r = [] := List.eq_nil_of_length_eq_zero (by omega)
            have hraw : rawM s.data.toList = .ok (f, items.map Prod.fst) := by
              rw [HQ.out, hre0]; simp [opsF, pushO, rawThen]
            have HM2 := Lib.hid (show parseM s = if toE f (items.map Prod.fst) ≠ 0 then .error (toE f (items.map Prod.fst), -1) else if isM f (items.map Prod.fst) = false then .error (40, -1) else .ok (f, items.map Prod.fst) by rw [HM.out, hraw])
            have hil : items.length ≤ 16777216 := by omega
            have hOO : OwnO wr (w.heap.size + 4) (.slice rA items.length rcap) (items.map Prod.fst) := ⟨items, rfl, HPS.out.own⟩
            have HRO := Lib.hid (rdO_of_own hOO (by simp; omega))
            have HOO := Lib.hid hOO
            have HCB := Lib.hid HPS.out.cb
            clear hraw hre0 hre hOO
            generalize items.map Prod.fst = ops at *
            obtain ⟨e0, e1⟩ := box2 HCB.out
            go_wp2_with fail
            refine (refRight_any f _ ops _ wr HRO.out).mono ?_
            rintro e w4 ⟨rfl, b4⟩
            have HB4 := Lib.hid (HPS.out.below.trans (b4.mono hbz))
            have HC4 := Lib.hid ((b4.block _ (heap_lt HPS.out.rc)).trans HPS.out.rc)
            have HF4 := Lib.hid ((b4.block _ (heap_lt HPS.out.rf)).trans HPS.out.rf)
            have HCB4 := Lib.hid ((b4.block _ hcl).trans HCB.out)
            have HRO4 := Lib.hid (HRO.out.pure b4)
            have HOO4 := Lib.hid (HOO.out.agree (fun k hk => b4.block k (HOO.out.lt k hk).2) (fun k _ hty => b4.block k (tyA_lt hty)))
            clear b4 e0 e1 c0 c1 c2 dk dk2 hgl hcl
            by_cases he : toE f ops = 0
            · rw [he]
              rw [if_neg (by rw [he]; simp)] at HM2
              clear he
              obtain ⟨e0, e1⟩ := box2 HCB4.out
              have hcl := heap_lt HCB4.out
              go_wp2_with fail
              refine (refIs_any f _ ops _ w4 HRO4.out).mono ?_
              rintro e w5 ⟨rfl, b5⟩
              have HB5 := Lib.hid (HB4.out.trans (b5.mono HB4.out.size))
              have HC5 := (b5.block _ (heap_lt HC4.out)).trans HC4.out
              have HF5 := (b5.block _ (heap_lt HF4.out)).trans HF4.out
              have HCB5 := Lib.hid ((b5.block _ hcl).trans HCB4.out)
              have HOO5 := Lib.hid (HOO4.out.agree (fun k hk => b5.block k (HOO4.out.lt k hk).2) (fun k _ hty => b5.block k (tyA_lt hty)))
              clear b5 e0 e1 hcl
              cases hi' : isM f ops with
              | false =>
                rw [if_pos hi'] at HM2
                clear hi'
                obtain ⟨z1, z2, z3, z4⟩ := two_cells HC5 HF5 HB5.out (.int .i64 0) (.slice none 0 0) (.int .i64 40) (.int .i64 (-1))
                have Z1 := Lib.hid z1; have Z2 := Lib.hid z2; have Z3 := Lib.hid z3; have Z4 := Lib.hid z4
                clear z1 z2 z3 z4
                obtain ⟨b0, b1⟩ := box2 HC5
                obtain ⟨d0, d1⟩ := box2 HF5
                have fc0 := froz_heap HC5 0; have fc1 := froz_heap HC5 1
                have ff0 := froz_heap HF5 0; have ff1 := froz_heap HF5 1
                have hl0 := heap_lt HC5; have hl1 := heap_lt HF5
                clear HC5 HF5
                go_wp2
                obtain ⟨q0, q1⟩ := box2 Z1.out
                obtain ⟨q2, q3⟩ := box2 Z2.out
                refine bodyPost_ret (v := .tuple #[.agg #[.int .i64 0, .slice none 0 0], faultV 40 (-1)]) (by simp [results, Tryz.results28, go_sem, faultV, q0, q1, q2, q3]) rfl ?_
                unfold RParsePost; rw [HM2.out]
                exact ⟨rfl, Z3.out⟩
              | true =>
                rw [if_neg (by rw [hi']; simp)] at HM2
                clear hi'
                obtain ⟨z1, z2, z3, z4⟩ := two_cells HC5 HF5 HB5.out (.int .i64 f) (.slice rA items.length rcap) (.int .i64 0) (.int .i64 0)
                have Z1 := Lib.hid z1; have Z2 := Lib.hid z2; have Z3 := Lib.hid z3; have Z4 := Lib.hid z4
                clear z1 z2 z3 z4
                obtain ⟨b0, b1⟩ := box2 HC5
                obtain ⟨d0, d1⟩ := box2 HF5
                have fc0 := froz_heap HC5 0; have fc1 := froz_heap HC5 1
                have ff0 := froz_heap HF5 0; have ff1 := froz_heap HF5 1
                have hl0 := heap_lt HC5; have hl1 := heap_lt HF5
                clear HC5 HF5
                obtain ⟨e0, e1⟩ := box2 HCB5.out
                have hcl := heap_lt HCB5.out
                go_wp2
                obtain ⟨q0, q1⟩ := box2 Z1.out
                obtain ⟨q2, q3⟩ := box2 Z2.out
                refine bodyPost_ret (v := .tuple #[.agg #[.int .i64 f, .slice rA items.length rcap], faultV 0 0]) (by simp [results, Tryz.results28, go_sem, faultV, q0, q1, q2, q3]) rfl ?_
                unfold RParsePost; rw [HM2.out]
                refine ⟨_, rfl, Z3.out, ?_⟩
                have h1 := HOO5.out.agree (fun k hk => Z4.out k (by have := (HOO5.out.lt k hk).1; omega)) (fun k hk _ => Z4.out k (by omega))
                exact own_sO h1 (by omega)
            · have heb : (toE f ops != 0) = true := by simpa using he
              rw [if_pos he] at HM2
              have HC5 := HC4.out
              have HF5 := HF4.out
              clear he
              obtain ⟨z1, z2, z3, z4⟩ := two_cells HC5 HF5 HB4.out (.int .i64 0) (.slice none 0 0) (.int .i64 (toE f ops)) (.int .i64 (-1))
              have Z1 := Lib.hid z1; have Z2 := Lib.hid z2; have Z3 := Lib.hid z3; have Z4 := Lib.hid z4
              clear z1 z2 z3 z4
              obtain ⟨b0, b1⟩ := box2 HC5
              obtain ⟨d0, d1⟩ := box2 HF5
              have fc0 := froz_heap HC5 0; have fc1 := froz_heap HC5 1
              have ff0 := froz_heap HF5 0; have ff1 := froz_heap HF5 1
              have hl0 := heap_lt HC5; have hl1 := heap_lt HF5
              clear HC5 HF5
              generalize toE f ops = E at *
              go_wp2
              obtain ⟨q0, q1⟩ := box2 Z1.out
              obtain ⟨q2, q3⟩ := box2 Z2.out
              refine bodyPost_ret (v := .tuple #[.agg #[.int .i64 0, .slice none 0 0], faultV E (-1)]) (by simp [results, Tryz.results28, go_sem, faultV, q0, q1, q2, q3]) rfl ?_
              unfold RParsePost; rw [HM2.out]
              exact ⟨rfl, Z3.out⟩
end Go.Proofs.YtdpmjlkmjmookaaGreatDoor
