/-
  The law SpellPlain, walked.
-/
import Derived.Test.YtdpmjlkmjmookaaGreatDoorTextL
import Derived.Test.YtdpmjlkmjmookaaGreatDoorRefRight
namespace Go.Proofs.YtdpmjlkmjmookaaGreatDoor
open Go.RowKit Go.PlainAid

set_option maxRecDepth 100000 in
theorem esc_plain_all : ∀ i : Fin 256, (esc (UInt8.ofNat i.val)).all (fun b => decide (32 ≤ b.toNat) && decide (b.toNat ≠ 127)) = true := by decide
theorem esc_plain (c : UInt8) : (esc c).all (fun b => decide (32 ≤ b.toNat) && decide (b.toNat ≠ 127)) = true := by
  have := esc_plain_all ⟨c.toNat, c.toNat_lt⟩
  simpa using this
theorem quoteL_plain (s : List UInt8) : (quoteL s).all (fun b => decide (32 ≤ b.toNat) && decide (b.toNat ≠ 127)) = true := by
  have he : (escL s).all (fun b => decide (32 ≤ b.toNat) && decide (b.toNat ≠ 127)) = true := by
    unfold escL
    induction s with
    | nil => rfl
    | cons a s ih => rw [List.flatMap_cons, List.all_append, esc_plain, ih]; rfl
  unfold quoteL
  rw [List.all_cons, List.all_append, he]; rfl
theorem quote_bytes (s : ByteArray) (k : Nat) (h : k < (mkB (quoteL s.data.toList)).size) : 32 ≤ ((mkB (quoteL s.data.toList))[k]'h).toNat ∧ ((mkB (quoteL s.data.toList))[k]'h).toNat ≠ 127 := by
  have h1 := quoteL_plain s.data.toList
  rw [List.all_eq_true] at h1
  have h2 := h1 ((mkB (quoteL s.data.toList))[k]'h) (by
    have hk : k < (quoteL s.data.toList).length := by rw [← show (mkB (quoteL s.data.toList)).size = _ from sz_mk _]; exact h
    have e : (mkB (quoteL s.data.toList))[k]'h = (quoteL s.data.toList)[k]'hk := by
      show ((quoteL s.data.toList).toArray)[k] = _
      simp
    rw [e]; exact List.getElem_mem hk)
  simpa using h2
theorem data_ext {a b : ByteArray} (h : a.data.toList = b.data.toList) : a = b := by
  obtain ⟨⟨x⟩⟩ := a; obtain ⟨⟨y⟩⟩ := b
  simp at h; rw [h]
def insOp (s : ByteArray) : OpM := ⟨2, 0, s, []⟩
theorem raw_ins (s : List UInt8) : rawM (48 :: 32 :: 43 :: quoteL s) = .ok (0, [insOp (mkB s)]) := by
  have hn : numberM (48 :: 32 :: 43 :: quoteL s) = .ok (0, 32 :: 43 :: quoteL s) := by
    have h := number_back (n := 0) (by omega) (by omega) (r := 32 :: 43 :: quoteL s) (fun c t e => by injection e with e _; subst e; rfl)
    rw [show Lib.itoa 0 = [48] by rw [itoa_nat (by omega), show (0 : Int).toNat = 0 from rfl, dd_small (by omega)]; rfl] at h
    exact h
  have hq := quoted_back s []
  rw [List.append_nil] at hq
  have ho : opM (32 :: 43 :: quoteL s) = .ok (insOp (mkB s), []) := by
    have t1 : takeB 32 (32 :: 43 :: quoteL s) = true := rfl
    have t2 : takeB 61 (43 :: quoteL s) = false := rfl
    have t3 : takeB 43 (43 :: quoteL s) = true := rfl
    unfold opM
    simp only [t1, if_true, List.tail_cons, t2, Bool.false_eq_true, if_false, t3]
    unfold opIns
    rw [hq]
    rfl
  unfold rawM
  rw [hn]
  simp only
  have hf : opsF ((32 :: 43 :: quoteL s).length + 1) (32 :: 43 :: quoteL s) = .ok [insOp (mkB s)] := by
    unfold opsF
    rw [if_neg (by simp), ho]
    rfl
  rw [hf]
theorem ins_right {s : ByteArray} (h : toE 0 [insOp s] = 0) : isM 0 [insOp s] = true := by
  have h1 := (toE_iff 0 _).1 h
  have hs := (h1.2.2.1 (insOp s) (by simp)).sh
  have hn : normM [insOp s] = [insOp s] := normM_self (NF.one _) (fun o ho => by simp at ho; subst ho; exact hs) (fun x a e => by
    have := congrArg List.getLast? e
    simp at this; subst this
    intro hk; have := hk.1; have e : (2 : Int) = 1 := this; omega)
  unfold isM
  rw [h, hn, (sameOL_iff _ _).2 rfl]; rfl
theorem ins_empty : toE 0 [insOp ⟨#[]⟩] = 30 := by kernel_rfl
theorem plain_parse (s : ByteArray) : parseM ((⟨#[48, 32, 43]⟩ : ByteArray) ++ mkB (quoteL s.data.toList)) =
    if 262144 < (mkB (quoteL s.data.toList)).size + 3 then .error (2, -1) else if toE 0 [insOp s] ≠ 0 then .error (toE 0 [insOp s], -1) else .ok (0, [insOp s]) := by
  have hsz : ((⟨#[48, 32, 43]⟩ : ByteArray) ++ mkB (quoteL s.data.toList)).size = (mkB (quoteL s.data.toList)).size + 3 := by
    rw [ByteArray.size_append, show (⟨#[48, 32, 43]⟩ : ByteArray).size = 3 from rfl]; omega
  have hd : ((⟨#[48, 32, 43]⟩ : ByteArray) ++ mkB (quoteL s.data.toList)).data.toList = 48 :: 32 :: 43 :: quoteL s.data.toList := by
    rw [append_list, data_mkB]; rfl
  unfold parseM
  rw [hsz, hd, raw_ins, mkB_data]
  by_cases hb : 262144 < (mkB (quoteL s.data.toList)).size + 3
  · rw [if_pos hb, if_pos hb]
  · rw [if_neg hb, if_neg hb]
    simp only
    by_cases he : toE 0 [insOp s] = 0
    · have h0 : ¬ (toE 0 [insOp s] ≠ 0) := by rw [he]; simp
      have h1 : ¬ (isM 0 [insOp s] = false) := by rw [ins_right he]; simp
      rw [if_neg h0, if_neg h1, if_neg h0]
    · rw [if_pos he, if_pos he]
theorem rdO_ins {W : World} {b : Nat} {s : ByteArray} {t : TypeId} {fz : Nat × Nat} (h : W.heap[b]? = some (.cells #[.int .i64 2, .int .i64 0, .string s, .slice none 0 0] t fz)) (hs : s.size ≤ 1099511627776) : RdO W (fun _ => True) (.slice (some ⟨b, 0, none⟩) 1 1) [insOp s] := by
  refine ⟨_, _, rfl, by simp, by simp, by simp, fun _ => ⟨b, 0, rfl, trivial, fun i hi => ?_⟩⟩
  obtain rfl : i = 0 := by simpa using hi
  refine ⟨[.int .i64 2, .int .i64 0, .string s, .slice none 0 0], rfl, ⟨.slice none 0 0, rfl, hs, Rd.nil _ _ _ _⟩, fun j hj => ?_⟩
  simp only [Nat.zero_mul, Nat.zero_add]
  rw [cell_heap h]
  match j, hj with
  | 0, _ => rfl
  | 1, _ => rfl
  | 2, _ => rfl
  | 3, _ => rfl
theorem quoteL_nil : mkB (quoteL (⟨#[]⟩ : ByteArray).data.toList) = ⟨#[34, 34]⟩ := rfl

theorem read_plain (s : ByteArray) : readM (mkB (quoteL s.data.toList)) 0 = ⟨s.data.toList, ((mkB (quoteL s.data.toList)).size : Int), 0, 0⟩ := by
  have hrb := read_back s ⟨#[]⟩ ⟨#[]⟩
  have e0 : (⟨#[]⟩ : ByteArray) ++ mkB (quoteL s.data.toList) ++ ⟨#[]⟩ = mkB (quoteL s.data.toList) := by
    refine data_ext ?_
    rw [append_list, append_list]; simp
  rw [e0] at hrb
  have hz : ((⟨#[]⟩ : ByteArray).size : Int) = 0 := rfl
  rw [hz, Int.zero_add] at hrb
  exact hrb
theorem size_plus {q : ByteArray} (h : q.size ≤ 4194306) : ((⟨#[48, 32, 43]⟩ : ByteArray) ++ q).size ≤ 16777216 := by
  rw [ByteArray.size_append, show (⟨#[48, 32, 43]⟩ : ByteArray).size = 3 from rfl]; omega

set_option maxHeartbeats 4000000 in
set_option maxRecDepth 100000 in
theorem plain_empty (s q : ByteArray) (w : World) (hT : Tabs w) (hs : s.size ≤ 1048576) (hv : Lib.validD s.data.toList = true) (hq : mkB (quoteL s.data.toList) = q) (hqs : q.size ≤ 4194306) (he : s.toList = []) (hq2 : q.toList = [34, 34]) (hp : parseM ((⟨#[48, 32, 43]⟩ : ByteArray) ++ q) = .error (30, -1)) :
    Calls Tryz.prog 8 #[.string s] w fun e w' => e = .returned (.bool true) ∧ Below w.heap.size w w' := by
  have HV := Lib.hid hv; clear hv
  have HQB := Lib.hid (hq ▸ quote_bytes s)
  have HR := Lib.hid (hq ▸ read_plain s)
  have HQ := Lib.hid hq; clear hq
  have HP := Lib.hid hp; clear hp
  go_enter Tryz.func8, Tryz.ntmps8
  go_wp2_with fail
  refine (awake_any w hT).mono ?_
  rintro e w1 ⟨rfl, b1⟩
  go_wp2_with fail
  refine (quote_any s w1 (by omega) (hT.pure b1)).mono ?_
  rw [HV.out]
  simp only [if_true]
  rintro e w2 ⟨rfl, b2⟩
  have hb := pure_trans b1 b2
  have hmk : (⟨(quoteL s.data.toList).toArray⟩ : ByteArray) = mkB (quoteL s.data.toList) := rfl
  rw [hmk, HQ.out]
  clear hmk b1 b2
  have HB := Lib.hid hb; clear hb
  go_wp2_with fail
  go_loop [6] (fun i => ∃ k : Nat, k ≤ q.size ∧ i = .int .i64 k) (fun i => q.size - (intOf i).toNat)
  case atStart => exact ⟨0, by omega, rfl⟩
  case round =>
    obtain ⟨k, hk, rfl⟩ := hrel
    by_cases hlt : k < q.size
    · obtain ⟨g1, g2⟩ := HQB.out k hlt
      have d1 : decide (((q[k]'hlt).toNat : Int) < 32) = false := decide_eq_false (by omega)
      have d2 : (((q[k]'hlt).toNat : Int) == 127) = false := by simp; omega
      clear g2
      go_wp2
      exact ⟨⟨k + 1, by omega, by go_num⟩, by simp [intOf]; omega⟩
    · have dk : decide ((k : Int) < (q.size : Int)) = false := decide_eq_false (by omega)
      go_wp2_with fail
      refine (read_any q 0 w2 (by omega)).mono ?_
      intro e w3 hp
      unfold ReadPost at hp
      rw [HR.out] at hp
      obtain ⟨rfl, b3⟩ := hp
      have hb3 := pure_trans HB.out b3
      have HB3 := Lib.hid hb3
      have hss : (mkB s.data.toList) = s := mkB_data s
      unfold faultV
      simp only [hss]
      have hT4 := (hT.pure hb3).pure ((Below.refl _ w3).alloc (Nat.le_refl _) (.cells #[.int .i64 0, .int .i64 0] 32))
      clear b3 hb3 hss
      go_wp2_with fail
      refine (parse_any _ _ (size_plus hqs) hT4).mono ?_
      intro e w5 hp
      unfold ParsePost at hp
      rw [HP.out] at hp
      have hF := eqF_run
      obtain ⟨rfl, b5⟩ := hp
      have hb5 : Below w.heap.size w w5 := (HB3.out.alloc HB3.out.size _).trans (b5.mono (by have := HB3.out.size; simp; omega))
      have HB5 := Lib.hid hb5
      clear b5 hb5 hT4
      have he2 : s.toList.isEmpty = true := by rw [he]; rfl
      unfold faultV
      go_wp2_with fail
      go_ret
      exact ⟨rfl, (HB5.out.alloc HB5.out.size _).alloc (by have := HB5.out.size; simp; omega) _⟩

set_option maxHeartbeats 4000000 in
set_option maxRecDepth 100000 in
theorem plain_err1 (s q : ByteArray) (w : World) (hT : Tabs w) (hs : s.size ≤ 1048576) (hv : Lib.validD s.data.toList = true) (hq : mkB (quoteL s.data.toList) = q) (hqs : q.size ≤ 4194306) (he : s.toList.isEmpty = false) (hr : toE 0 [insOp s] ≠ 0) (c k0 : Int) (hc : c ≠ 0) (hp : parseM ((⟨#[48, 32, 43]⟩ : ByteArray) ++ q) = .error (c, k0)) :
    Calls Tryz.prog 8 #[.string s] w fun e w' => e = .returned (.bool true) ∧ Below w.heap.size w w' := by
  have HV := Lib.hid hv; clear hv
  have HQB := Lib.hid (hq ▸ quote_bytes s)
  have HR := Lib.hid (hq ▸ read_plain s)
  have HQ := Lib.hid hq; clear hq
  have hr1 : (toE 0 [insOp s] == 0) = false := by simpa using hr
  have hr0 : (toE 0 [insOp s] != 0) = true := by simpa using hr
  have HP := Lib.hid hp; clear hp hr
  have hc1 : (c == 0) = false := by simpa using hc
  have hc2 : (c != 0) = true := by simpa using hc
  have he3 : (s.toList == []) = false := by cases h : s.toList with
    | nil => rw [h] at he; simp at he
    | cons a l => rfl
  clear hc
  generalize hrr : toE 0 [insOp s] = r at *
  have HRR := Lib.hid hrr; clear hrr
  go_enter Tryz.func8, Tryz.ntmps8
  go_wp2_with fail
  refine (awake_any w hT).mono ?_
  rintro e w1 ⟨rfl, b1⟩
  go_wp2_with fail
  refine (quote_any s w1 (by omega) (hT.pure b1)).mono ?_
  rw [HV.out]
  simp only [if_true]
  rintro e w2 ⟨rfl, b2⟩
  have hb := pure_trans b1 b2
  have hmk : (⟨(quoteL s.data.toList).toArray⟩ : ByteArray) = mkB (quoteL s.data.toList) := rfl
  rw [hmk, HQ.out]
  clear hmk b1 b2
  have HB := Lib.hid hb; clear hb
  go_wp2_with fail
  go_loop [6] (fun i => ∃ k : Nat, k ≤ q.size ∧ i = .int .i64 k) (fun i => q.size - (intOf i).toNat)
  case atStart => exact ⟨0, by omega, rfl⟩
  case round =>
    obtain ⟨k, hk, rfl⟩ := hrel
    by_cases hlt : k < q.size
    · obtain ⟨g1, g2⟩ := HQB.out k hlt
      have d1 : decide (((q[k]'hlt).toNat : Int) < 32) = false := decide_eq_false (by omega)
      have d2 : (((q[k]'hlt).toNat : Int) == 127) = false := by simp; omega
      clear g2
      go_wp2
      exact ⟨⟨k + 1, by omega, by go_num⟩, by simp [intOf]; omega⟩
    · have dk : decide ((k : Int) < (q.size : Int)) = false := decide_eq_false (by omega)
      go_wp2_with fail
      refine (read_any q 0 w2 (by omega)).mono ?_
      intro e w3 hp
      unfold ReadPost at hp
      rw [HR.out] at hp
      obtain ⟨rfl, b3⟩ := hp
      have hb3 := pure_trans HB.out b3
      have HB3 := Lib.hid hb3
      have hss : (mkB s.data.toList) = s := mkB_data s
      unfold faultV
      simp only [hss]
      have hT4 := (hT.pure hb3).pure ((Below.refl _ w3).alloc (Nat.le_refl _) (.cells #[.int .i64 0, .int .i64 0] 32))
      clear b3 hb3 hss
      go_wp2_with fail
      refine (parse_any _ _ (size_plus hqs) hT4).mono ?_
      intro e w5 hp
      unfold ParsePost at hp
      rw [HP.out] at hp
      have hF := eqF_run
      obtain ⟨rfl, b5⟩ := hp
      have hb5 : Below w.heap.size w w5 := (HB3.out.alloc HB3.out.size _).trans (b5.mono (by have := HB3.out.size; simp; omega))
      obtain ⟨W6, hW6⟩ : ∃ W6, (w5.alloc (.cells #[.int .i64 0, .slice none 0 0] 24)).alloc (.cells #[.int .i64 c, .int .i64 k0] 32) = W6 := ⟨_, rfl⟩
      have b6 : Below w5.heap.size w5 W6 := by rw [← hW6]; exact ((Below.refl _ w5).alloc (Nat.le_refl _) _).alloc (by simp) _
      have hx0 : W6.heap[w5.heap.size]? = some (.cells #[.int .i64 0, .slice none 0 0] 24 (0, 0)) := by
        rw [← hW6, Below.heap_alloc _ _ _ (by simp)]; exact heap_alloc_new w5 _
      have hx1 : W6.heap[w5.heap.size + 1]? = some (.cells #[.int .i64 c, .int .i64 k0] 32 (0, 0)) := by
        rw [← hW6]; have := heap_alloc_new (w5.alloc (.cells #[.int .i64 0, .slice none 0 0] 24)) (.cells #[.int .i64 c, .int .i64 k0] 32); simpa using this
      have hb6 := pure_trans hb5 b6
      have HW6 := Lib.hid hW6
      clear hW6 b5 hb5 hT4
      unfold faultV
      go_wp2_with fail
      rw [HW6.out]
      refine (lawPut_any s none 0 0 W6).mono ?_
      rintro e w7 ⟨rfl, b7⟩
      go_wp2_with fail
      have b7' : Below w7.heap.size w7 (w7.alloc (.cells #[.int .i64 2, .int .i64 0, .string s, .slice none 0 0] 48)) := (Below.refl _ w7).alloc (Nat.le_refl _) _
      refine (refRight_any 0 _ [insOp s] _ _ (rdO_ins (heap_alloc_new w7 _) (by omega))).mono ?_
      rintro e w8 ⟨rfl, b8⟩
      have b68 := pure_trans (pure_trans b7 b7') b8
      have hy0 := (b68.block _ (heap_lt hx0)).trans hx0
      have hy1 := (b68.block _ (heap_lt hx1)).trans hx1
      have HB8 := Lib.hid (pure_trans hb6 b68)
      have hl0 := heap_lt hy0; have hl1 := heap_lt hy1
      obtain ⟨p0, p1⟩ := box2 hy0
      obtain ⟨p2, p3⟩ := box2 hy1
      clear b6 b7 b7' b8 b68 hx0 hx1 hy0 hy1 hb6
      rw [HRR.out]
      go_wp2_with fail
      go_ret
      exact ⟨rfl, HB8.out⟩

set_option maxHeartbeats 4000000 in
set_option maxRecDepth 100000 in
theorem plain_err2 (s q : ByteArray) (w : World) (hT : Tabs w) (hs : s.size ≤ 1048576) (hv : Lib.validD s.data.toList = true) (hq : mkB (quoteL s.data.toList) = q) (hqs : q.size ≤ 4194306) (he : s.toList.isEmpty = false) (hr : toE 0 [insOp s] = 0) (hr2 : 200000 < q.size) (c k0 : Int) (hc : c ≠ 0) (hp : parseM ((⟨#[48, 32, 43]⟩ : ByteArray) ++ q) = .error (c, k0)) :
    Calls Tryz.prog 8 #[.string s] w fun e w' => e = .returned (.bool true) ∧ Below w.heap.size w w' := by
  have HV := Lib.hid hv; clear hv
  have HQB := Lib.hid (hq ▸ quote_bytes s)
  have HR := Lib.hid (hq ▸ read_plain s)
  have HQ := Lib.hid hq; clear hq
  have hr1 : (toE 0 [insOp s] == 0) = true := by simpa using hr
  have hr0 : (toE 0 [insOp s] != 0) = false := by simpa using hr
  have hr3 : decide ((200000 : Int) < (q.size : Int)) = true := decide_eq_true (by omega)
  have HP := Lib.hid hp; clear hp hr
  have hc1 : (c == 0) = false := by simpa using hc
  have hc2 : (c != 0) = true := by simpa using hc
  have he3 : (s.toList == []) = false := by cases h : s.toList with
    | nil => rw [h] at he; simp at he
    | cons a l => rfl
  clear hc
  generalize hrr : toE 0 [insOp s] = r at *
  have HRR := Lib.hid hrr; clear hrr
  go_enter Tryz.func8, Tryz.ntmps8
  go_wp2_with fail
  refine (awake_any w hT).mono ?_
  rintro e w1 ⟨rfl, b1⟩
  go_wp2_with fail
  refine (quote_any s w1 (by omega) (hT.pure b1)).mono ?_
  rw [HV.out]
  simp only [if_true]
  rintro e w2 ⟨rfl, b2⟩
  have hb := pure_trans b1 b2
  have hmk : (⟨(quoteL s.data.toList).toArray⟩ : ByteArray) = mkB (quoteL s.data.toList) := rfl
  rw [hmk, HQ.out]
  clear hmk b1 b2
  have HB := Lib.hid hb; clear hb
  go_wp2_with fail
  go_loop [6] (fun i => ∃ k : Nat, k ≤ q.size ∧ i = .int .i64 k) (fun i => q.size - (intOf i).toNat)
  case atStart => exact ⟨0, by omega, rfl⟩
  case round =>
    obtain ⟨k, hk, rfl⟩ := hrel
    by_cases hlt : k < q.size
    · obtain ⟨g1, g2⟩ := HQB.out k hlt
      have d1 : decide (((q[k]'hlt).toNat : Int) < 32) = false := decide_eq_false (by omega)
      have d2 : (((q[k]'hlt).toNat : Int) == 127) = false := by simp; omega
      clear g2
      go_wp2
      exact ⟨⟨k + 1, by omega, by go_num⟩, by simp [intOf]; omega⟩
    · have dk : decide ((k : Int) < (q.size : Int)) = false := decide_eq_false (by omega)
      go_wp2_with fail
      refine (read_any q 0 w2 (by omega)).mono ?_
      intro e w3 hp
      unfold ReadPost at hp
      rw [HR.out] at hp
      obtain ⟨rfl, b3⟩ := hp
      have hb3 := pure_trans HB.out b3
      have HB3 := Lib.hid hb3
      have hss : (mkB s.data.toList) = s := mkB_data s
      unfold faultV
      simp only [hss]
      have hT4 := (hT.pure hb3).pure ((Below.refl _ w3).alloc (Nat.le_refl _) (.cells #[.int .i64 0, .int .i64 0] 32))
      clear b3 hb3 hss
      go_wp2_with fail
      refine (parse_any _ _ (size_plus hqs) hT4).mono ?_
      intro e w5 hp
      unfold ParsePost at hp
      rw [HP.out] at hp
      have hF := eqF_run
      obtain ⟨rfl, b5⟩ := hp
      have hb5 : Below w.heap.size w w5 := (HB3.out.alloc HB3.out.size _).trans (b5.mono (by have := HB3.out.size; simp; omega))
      obtain ⟨W6, hW6⟩ : ∃ W6, (w5.alloc (.cells #[.int .i64 0, .slice none 0 0] 24)).alloc (.cells #[.int .i64 c, .int .i64 k0] 32) = W6 := ⟨_, rfl⟩
      have b6 : Below w5.heap.size w5 W6 := by rw [← hW6]; exact ((Below.refl _ w5).alloc (Nat.le_refl _) _).alloc (by simp) _
      have hx0 : W6.heap[w5.heap.size]? = some (.cells #[.int .i64 0, .slice none 0 0] 24 (0, 0)) := by
        rw [← hW6, Below.heap_alloc _ _ _ (by simp)]; exact heap_alloc_new w5 _
      have hx1 : W6.heap[w5.heap.size + 1]? = some (.cells #[.int .i64 c, .int .i64 k0] 32 (0, 0)) := by
        rw [← hW6]; have := heap_alloc_new (w5.alloc (.cells #[.int .i64 0, .slice none 0 0] 24)) (.cells #[.int .i64 c, .int .i64 k0] 32); simpa using this
      have hb6 := pure_trans hb5 b6
      have HW6 := Lib.hid hW6
      clear hW6 b5 hb5 hT4
      unfold faultV
      go_wp2_with fail
      rw [HW6.out]
      refine (lawPut_any s none 0 0 W6).mono ?_
      rintro e w7 ⟨rfl, b7⟩
      go_wp2_with fail
      have b7' : Below w7.heap.size w7 (w7.alloc (.cells #[.int .i64 2, .int .i64 0, .string s, .slice none 0 0] 48)) := (Below.refl _ w7).alloc (Nat.le_refl _) _
      refine (refRight_any 0 _ [insOp s] _ _ (rdO_ins (heap_alloc_new w7 _) (by omega))).mono ?_
      rintro e w8 ⟨rfl, b8⟩
      have b68 := pure_trans (pure_trans b7 b7') b8
      have hy0 := (b68.block _ (heap_lt hx0)).trans hx0
      have hy1 := (b68.block _ (heap_lt hx1)).trans hx1
      have HB8 := Lib.hid (pure_trans hb6 b68)
      have hl0 := heap_lt hy0; have hl1 := heap_lt hy1
      obtain ⟨p0, p1⟩ := box2 hy0
      obtain ⟨p2, p3⟩ := box2 hy1
      clear b6 b7 b7' b8 b68 hx0 hx1 hy0 hy1 hb6
      rw [HRR.out]
      go_wp2_with fail
      go_ret
      exact ⟨rfl, HB8.out⟩

set_option maxHeartbeats 4000000 in
set_option maxRecDepth 100000 in
theorem plain_ok1 (s q : ByteArray) (w : World) (hT : Tabs w) (hs : s.size ≤ 1048576) (hv : Lib.validD s.data.toList = true) (hq : mkB (quoteL s.data.toList) = q) (hqs : q.size ≤ 4194306) (he : s.toList.isEmpty = false) (hr : toE 0 [insOp s] = 0) (hr2 : 200000 < q.size) (hp : parseM ((⟨#[48, 32, 43]⟩ : ByteArray) ++ q) = .ok (0, [insOp s])) :
    Calls Tryz.prog 8 #[.string s] w fun e w' => e = .returned (.bool true) ∧ Below w.heap.size w w' := by
  have HV := Lib.hid hv; clear hv
  have HQB := Lib.hid (hq ▸ quote_bytes s)
  have HR := Lib.hid (hq ▸ read_plain s)
  have HQ := Lib.hid hq; clear hq
  have hr3 : decide ((200000 : Int) < (q.size : Int)) = true := decide_eq_true (by omega)
  have HP := Lib.hid hp; clear hp
  have he3 : (s.toList == []) = false := by cases h : s.toList with
    | nil => rw [h] at he; simp at he
    | cons a l => rfl
  have HRR := Lib.hid hr; clear hr
  go_enter Tryz.func8, Tryz.ntmps8
  go_wp2_with fail
  refine (awake_any w hT).mono ?_
  rintro e w1 ⟨rfl, b1⟩
  go_wp2_with fail
  refine (quote_any s w1 (by omega) (hT.pure b1)).mono ?_
  rw [HV.out]
  simp only [if_true]
  rintro e w2 ⟨rfl, b2⟩
  have hb := pure_trans b1 b2
  have hmk : (⟨(quoteL s.data.toList).toArray⟩ : ByteArray) = mkB (quoteL s.data.toList) := rfl
  rw [hmk, HQ.out]
  clear hmk b1 b2
  have HB := Lib.hid hb; clear hb
  go_wp2_with fail
  go_loop [6] (fun i => ∃ k : Nat, k ≤ q.size ∧ i = .int .i64 k) (fun i => q.size - (intOf i).toNat)
  case atStart => exact ⟨0, by omega, rfl⟩
  case round =>
    obtain ⟨k, hk, rfl⟩ := hrel
    by_cases hlt : k < q.size
    · obtain ⟨g1, g2⟩ := HQB.out k hlt
      have d1 : decide (((q[k]'hlt).toNat : Int) < 32) = false := decide_eq_false (by omega)
      have d2 : (((q[k]'hlt).toNat : Int) == 127) = false := by simp; omega
      clear g2
      go_wp2
      exact ⟨⟨k + 1, by omega, by go_num⟩, by simp [intOf]; omega⟩
    · have dk : decide ((k : Int) < (q.size : Int)) = false := decide_eq_false (by omega)
      go_wp2_with fail
      refine (read_any q 0 w2 (by omega)).mono ?_
      intro e w3 hp
      unfold ReadPost at hp
      rw [HR.out] at hp
      obtain ⟨rfl, b3⟩ := hp
      have hb3 := pure_trans HB.out b3
      have HB3 := Lib.hid hb3
      have hss : (mkB s.data.toList) = s := mkB_data s
      unfold faultV
      simp only [hss]
      have hT4 := (hT.pure hb3).pure ((Below.refl _ w3).alloc (Nat.le_refl _) (.cells #[.int .i64 0, .int .i64 0] 32))
      clear b3 hb3 hss
      go_wp2_with fail
      refine (parse_any _ _ (size_plus hqs) hT4).mono ?_
      intro e w5 hp
      unfold ParsePost at hp
      rw [HP.out] at hp
      have hF := eqF_run
      obtain ⟨v, rfl, b5, hO⟩ := hp
      have hRO := rdO_of_own hO (by simp)
      obtain ⟨A, cap, rfl, hc1', hc2', hc3', hcell⟩ := hRO.open_
      obtain ⟨b, off, rfl, _⟩ := hcell (by simp)
      obtain ⟨va, x0, x1, x2', x3, _⟩ := hRO.at_ 0 (by simp)
      have x2 : w5.cell? ⟨b, off + 2, none⟩ = some (.string s) := x2'
      rw [show [insOp s].length = 1 from rfl] at hc1' ⊢
      clear hcell hRO hO x0 x1 x2' x3
      have hb5 : Below w.heap.size w w5 := (HB3.out.alloc HB3.out.size _).trans (b5.mono (by have := HB3.out.size; simp; omega))
      obtain ⟨W6, hW6⟩ : ∃ W6, (w5.alloc (.cells #[.int .i64 0, .slice (some ⟨b, off, none⟩) 1 cap] 24)).alloc (.cells #[.int .i64 0, .int .i64 0] 32) = W6 := ⟨_, rfl⟩
      have b6 : Below w5.heap.size w5 W6 := by rw [← hW6]; exact ((Below.refl _ w5).alloc (Nat.le_refl _) _).alloc (by simp) _
      have hx0 : W6.heap[w5.heap.size]? = some (.cells #[.int .i64 0, .slice (some ⟨b, off, none⟩) 1 cap] 24 (0, 0)) := by
        rw [← hW6, Below.heap_alloc _ _ _ (by simp)]; exact heap_alloc_new w5 _
      have hx1 : W6.heap[w5.heap.size + 1]? = some (.cells #[.int .i64 0, .int .i64 0] 32 (0, 0)) := by
        rw [← hW6]; have := heap_alloc_new (w5.alloc (.cells #[.int .i64 0, .slice (some ⟨b, off, none⟩) 1 cap] 24)) (.cells #[.int .i64 0, .int .i64 0] 32); simpa using this
      have hb6 := pure_trans hb5 b6
      have x26 := pure_cell b6 x2
      clear x2
      have HW6 := Lib.hid hW6
      clear hW6 b5 hb5 hT4
      unfold faultV
      go_wp2_with fail
      rw [HW6.out]
      refine (lawPut_any s none 0 0 W6).mono ?_
      rintro e w7 ⟨rfl, b7⟩
      go_wp2_with fail
      have b7' : Below w7.heap.size w7 (w7.alloc (.cells #[.int .i64 2, .int .i64 0, .string s, .slice none 0 0] 48)) := (Below.refl _ w7).alloc (Nat.le_refl _) _
      refine (refRight_any 0 _ [insOp s] _ _ (rdO_ins (heap_alloc_new w7 _) (by omega))).mono ?_
      rintro e w8 ⟨rfl, b8⟩
      have b68 := pure_trans (pure_trans b7 b7') b8
      have hy0 := (b68.block _ (heap_lt hx0)).trans hx0
      have hy1 := (b68.block _ (heap_lt hx1)).trans hx1
      have x28 := pure_cell b68 x26
      have hbl8 := World.block_lt_of_cell? w8 _ x28
      clear x26
      have HB8 := Lib.hid (pure_trans hb6 b68)
      have hl0 := heap_lt hy0; have hl1 := heap_lt hy1
      obtain ⟨p0, p1⟩ := box2 hy0
      obtain ⟨p2, p3⟩ := box2 hy1
      clear b6 b7 b7' b8 b68 hx0 hx1 hy0 hy1 hb6
      rw [HRR.out]
      go_wp2_with fail
      go_ret
      exact ⟨rfl, HB8.out⟩

set_option maxHeartbeats 4000000 in
set_option maxRecDepth 100000 in
theorem plain_ok2 (s q : ByteArray) (w : World) (hT : Tabs w) (hs : s.size ≤ 1048576) (hv : Lib.validD s.data.toList = true) (hq : mkB (quoteL s.data.toList) = q) (hqs : q.size ≤ 4194306) (he : s.toList.isEmpty = false) (hr : toE 0 [insOp s] = 0) (hr2 : ¬ 200000 < q.size) (hp : parseM ((⟨#[48, 32, 43]⟩ : ByteArray) ++ q) = .ok (0, [insOp s])) :
    Calls Tryz.prog 8 #[.string s] w fun e w' => e = .returned (.bool true) ∧ Below w.heap.size w w' := by
  have HV := Lib.hid hv; clear hv
  have HQB := Lib.hid (hq ▸ quote_bytes s)
  have HR := Lib.hid (hq ▸ read_plain s)
  have HQ := Lib.hid hq; clear hq
  have hr3 : decide ((200000 : Int) < (q.size : Int)) = false := decide_eq_false (by omega)
  have HP := Lib.hid hp; clear hp
  have he3 : (s.toList == []) = false := by cases h : s.toList with
    | nil => rw [h] at he; simp at he
    | cons a l => rfl
  have HRR := Lib.hid hr; clear hr
  go_enter Tryz.func8, Tryz.ntmps8
  go_wp2_with fail
  refine (awake_any w hT).mono ?_
  rintro e w1 ⟨rfl, b1⟩
  go_wp2_with fail
  refine (quote_any s w1 (by omega) (hT.pure b1)).mono ?_
  rw [HV.out]
  simp only [if_true]
  rintro e w2 ⟨rfl, b2⟩
  have hb := pure_trans b1 b2
  have hmk : (⟨(quoteL s.data.toList).toArray⟩ : ByteArray) = mkB (quoteL s.data.toList) := rfl
  rw [hmk, HQ.out]
  clear hmk b1 b2
  have HB := Lib.hid hb; clear hb
  go_wp2_with fail
  go_loop [6] (fun i => ∃ k : Nat, k ≤ q.size ∧ i = .int .i64 k) (fun i => q.size - (intOf i).toNat)
  case atStart => exact ⟨0, by omega, rfl⟩
  case round =>
    obtain ⟨k, hk, rfl⟩ := hrel
    by_cases hlt : k < q.size
    · obtain ⟨g1, g2⟩ := HQB.out k hlt
      have d1 : decide (((q[k]'hlt).toNat : Int) < 32) = false := decide_eq_false (by omega)
      have d2 : (((q[k]'hlt).toNat : Int) == 127) = false := by simp; omega
      clear g2
      go_wp2
      exact ⟨⟨k + 1, by omega, by go_num⟩, by simp [intOf]; omega⟩
    · have dk : decide ((k : Int) < (q.size : Int)) = false := decide_eq_false (by omega)
      go_wp2_with fail
      refine (read_any q 0 w2 (by omega)).mono ?_
      intro e w3 hp
      unfold ReadPost at hp
      rw [HR.out] at hp
      obtain ⟨rfl, b3⟩ := hp
      have hb3 := pure_trans HB.out b3
      have HB3 := Lib.hid hb3
      have hss : (mkB s.data.toList) = s := mkB_data s
      unfold faultV
      simp only [hss]
      have hT4 := (hT.pure hb3).pure ((Below.refl _ w3).alloc (Nat.le_refl _) (.cells #[.int .i64 0, .int .i64 0] 32))
      clear b3 hb3 hss
      go_wp2_with fail
      refine (parse_any _ _ (size_plus hqs) hT4).mono ?_
      intro e w5 hp
      unfold ParsePost at hp
      rw [HP.out] at hp
      have hF := eqF_run
      obtain ⟨v, rfl, b5, hO⟩ := hp
      have hRO := rdO_of_own hO (by simp)
      obtain ⟨A, cap, rfl, hc1', hc2', hc3', hcell⟩ := hRO.open_
      obtain ⟨b, off, rfl, _⟩ := hcell (by simp)
      obtain ⟨va, x0, x1, x2', x3, _⟩ := hRO.at_ 0 (by simp)
      have x2 : w5.cell? ⟨b, off + 2, none⟩ = some (.string s) := x2'
      rw [show [insOp s].length = 1 from rfl] at hc1' ⊢
      clear hcell hRO hO x0 x1 x2' x3
      have hb5 : Below w.heap.size w w5 := (HB3.out.alloc HB3.out.size _).trans (b5.mono (by have := HB3.out.size; simp; omega))
      obtain ⟨W6, hW6⟩ : ∃ W6, (w5.alloc (.cells #[.int .i64 0, .slice (some ⟨b, off, none⟩) 1 cap] 24)).alloc (.cells #[.int .i64 0, .int .i64 0] 32) = W6 := ⟨_, rfl⟩
      have b6 : Below w5.heap.size w5 W6 := by rw [← hW6]; exact ((Below.refl _ w5).alloc (Nat.le_refl _) _).alloc (by simp) _
      have hx0 : W6.heap[w5.heap.size]? = some (.cells #[.int .i64 0, .slice (some ⟨b, off, none⟩) 1 cap] 24 (0, 0)) := by
        rw [← hW6, Below.heap_alloc _ _ _ (by simp)]; exact heap_alloc_new w5 _
      have hx1 : W6.heap[w5.heap.size + 1]? = some (.cells #[.int .i64 0, .int .i64 0] 32 (0, 0)) := by
        rw [← hW6]; have := heap_alloc_new (w5.alloc (.cells #[.int .i64 0, .slice (some ⟨b, off, none⟩) 1 cap] 24)) (.cells #[.int .i64 0, .int .i64 0] 32); simpa using this
      have hb6 := pure_trans hb5 b6
      have x26 := pure_cell b6 x2
      clear x2
      have HW6 := Lib.hid hW6
      clear hW6 b5 hb5 hT4
      unfold faultV
      go_wp2_with fail
      rw [HW6.out]
      refine (lawPut_any s none 0 0 W6).mono ?_
      rintro e w7 ⟨rfl, b7⟩
      go_wp2_with fail
      have b7' : Below w7.heap.size w7 (w7.alloc (.cells #[.int .i64 2, .int .i64 0, .string s, .slice none 0 0] 48)) := (Below.refl _ w7).alloc (Nat.le_refl _) _
      refine (refRight_any 0 _ [insOp s] _ _ (rdO_ins (heap_alloc_new w7 _) (by omega))).mono ?_
      rintro e w8 ⟨rfl, b8⟩
      have b68 := pure_trans (pure_trans b7 b7') b8
      have hy0 := (b68.block _ (heap_lt hx0)).trans hx0
      have hy1 := (b68.block _ (heap_lt hx1)).trans hx1
      have x28 := pure_cell b68 x26
      have hbl8 := World.block_lt_of_cell? w8 _ x28
      clear x26
      have HB8 := Lib.hid (pure_trans hb6 b68)
      have hl0 := heap_lt hy0; have hl1 := heap_lt hy1
      obtain ⟨p0, p1⟩ := box2 hy0
      obtain ⟨p2, p3⟩ := box2 hy1
      clear b6 b7 b7' b8 b68 hx0 hx1 hy0 hy1 hb6
      rw [HRR.out]
      go_wp2_with fail
      go_ret
      exact ⟨rfl, HB8.out⟩

theorem spellPlain_any (s : ByteArray) (w : World) (hT : Tabs w) (hs : s.size ≤ 1048576) :
    Calls Tryz.prog 8 #[.string s] w fun e w' => e = .returned (.bool true) ∧ Below w.heap.size w w' := by
  cases hv : Lib.validD s.data.toList with
  | false =>
    have HV := Lib.hid hv; clear hv
    go_enter Tryz.func8, Tryz.ntmps8
    go_wp2_with fail
    refine (awake_any w hT).mono ?_
    rintro e w1 ⟨rfl, b1⟩
    go_wp2_with fail
    refine (quote_any s w1 (by omega) (hT.pure b1)).mono ?_
    rw [HV.out]
    rintro e w2 ⟨rfl, b2⟩
    have hb := pure_trans b1 b2
    go_wp2_with fail
    go_ret
    exact ⟨rfl, hb⟩
  | true =>
    have hq := quoteL_len s.data.toList
    have hql : (mkB (quoteL s.data.toList)).size = (quoteL s.data.toList).length := sz_mk _
    have hsl := len_data s
    have hqs : (mkB (quoteL s.data.toList)).size ≤ 4194306 := by omega
    have hP := plain_parse s
    by_cases he : s.toList.isEmpty = true
    · have hse := empty_text he
      have hq2 : (mkB (quoteL s.data.toList)).toList = [34, 34] := by rw [hse, quoteL_nil, ByteArray.toList_eq]
      refine plain_empty s _ w hT hs hv rfl hqs (by rw [hse, ByteArray.toList_eq]) hq2 ?_
      rw [hP]
      have h2 : (mkB (quoteL s.data.toList)).size = 2 := by rw [hse]; rfl
      rw [if_neg (by rw [h2]; decide), hse, if_pos (by rw [ins_empty]; omega), ins_empty]
    · have he' : s.toList.isEmpty = false := by simpa using he
      by_cases hbig : 262144 < (mkB (quoteL s.data.toList)).size + 3
      · rw [if_pos hbig] at hP
        by_cases hr : toE 0 [insOp s] = 0
        · exact plain_err2 s _ w hT hs hv rfl hqs he' hr (by omega) 2 (-1) (by omega) hP
        · exact plain_err1 s _ w hT hs hv rfl hqs he' hr 2 (-1) (by omega) hP
      · rw [if_neg hbig] at hP
        by_cases hr : toE 0 [insOp s] = 0
        · rw [if_neg (show ¬ (toE 0 [insOp s] ≠ 0) by rw [hr]; simp)] at hP
          by_cases h2 : 200000 < (mkB (quoteL s.data.toList)).size
          · exact plain_ok1 s _ w hT hs hv rfl hqs he' hr h2 hP
          · exact plain_ok2 s _ w hT hs hv rfl hqs he' hr h2 hP
        · rw [if_pos hr] at hP
          exact plain_err1 s _ w hT hs hv rfl hqs he' hr _ (-1) hr hP
end Go.Proofs.YtdpmjlkmjmookaaGreatDoor
