/-
  The document's examples (awake), walked: true.
-/
import Derived.Test.YtdpmjlkmjmookaaGreatDoorAwakeM
namespace Go.Proofs.YtdpmjlkmjmookaaGreatDoor
open Go.RowKit Go.PlainAid

theorem lawKeep_any (n : Int) (A : Option Addr) (m c : Nat) (w : World) : Calls Tryz.prog 63 #[.int .i64 n, .slice A m c] w fun e w' => e = .returned (.agg #[.int .i64 1, .int .i64 n, .string ⟨#[]⟩, .slice A m c]) ∧ Below w.heap.size w w' := by
  obtain ⟨q0, q1, q2, q3⟩ := box4 (heap_alloc_new w (.cells #[.int .i64 1, .int .i64 n, .string ⟨#[]⟩, .slice A m c] 48))
  go_enter Tryz.func63, Tryz.ntmps63
  go_wp2
  refine bodyPost_ret (v := .agg #[.int .i64 1, .int .i64 n, .string ⟨#[]⟩, .slice A m c]) (by simp [results, Tryz.results63, go_sem, q0, q1, q2, q3]) rfl ?_
  exact ⟨rfl, (Below.refl _ w).alloc (Nat.le_refl _) _⟩
theorem lawPut_any (s : ByteArray) (A : Option Addr) (m c : Nat) (w : World) : Calls Tryz.prog 31 #[.string s, .slice A m c] w fun e w' => e = .returned (.agg #[.int .i64 2, .int .i64 0, .string s, .slice A m c]) ∧ Below w.heap.size w w' := by
  obtain ⟨q0, q1, q2, q3⟩ := box4 (heap_alloc_new w (.cells #[.int .i64 2, .int .i64 0, .string s, .slice A m c] 48))
  go_enter Tryz.func31, Tryz.ntmps31
  go_wp2
  refine bodyPost_ret (v := .agg #[.int .i64 2, .int .i64 0, .string s, .slice A m c]) (by simp [results, Tryz.results31, go_sem, q0, q1, q2, q3]) rfl ?_
  exact ⟨rfl, (Below.refl _ w).alloc (Nat.le_refl _) _⟩
theorem lawCut_any (n : Int) (w : World) : Calls Tryz.prog 64 #[.int .i64 n] w fun e w' => e = .returned (.agg #[.int .i64 3, .int .i64 n, .string ⟨#[]⟩, .slice none 0 0]) ∧ Below w.heap.size w w' := by
  obtain ⟨q0, q1, q2, q3⟩ := box4 (heap_alloc_new w (.cells #[.int .i64 3, .int .i64 n, .string ⟨#[]⟩, .slice none 0 0] 48))
  go_enter Tryz.func64, Tryz.ntmps64
  go_wp2
  refine bodyPost_ret (v := .agg #[.int .i64 3, .int .i64 n, .string ⟨#[]⟩, .slice none 0 0]) (by simp [results, Tryz.results64, go_sem, q0, q1, q2, q3]) rfl ?_
  exact ⟨rfl, (Below.refl _ w).alloc (Nat.le_refl _) _⟩

theorem eqF_run (d : Nat) (w : World) (a b x y : Int) : (Op.equalIn (d + 2) 32 (.agg #[.int .i64 a, .int .i64 b]) (.agg #[.int .i64 x, .int .i64 y])).run Tryz.prog w = .ok (a == x && b == y) w := by
  have hf := run_equalIn_struct (P := Tryz.prog) w (d + 1) 32 #[.int .i64 a, .int .i64 b] #[.int .i64 x, .int .i64 y] (by kernel_rfl) (by kernel_rfl)
  rw [hf]
  unfold Program.fieldsOf
  rw [Tryz.underlying32]
  by_cases e1 : a = x <;> by_cases e2 : b = y <;> simp [go_sem, e1, e2]

theorem rdA_lit {W : World} {b : Nat} {x y : ByteArray} {t : TypeId} {fz : Nat × Nat} (h : W.heap[b]? = some (.cells #[.string x, .string y] t fz)) (hx : x.size ≤ 1099511627776) (hy : y.size ≤ 1099511627776) : RdA W (fun _ => True) (.slice (some ⟨b, 0, none⟩) 1 1) [⟨x, y⟩] := by
  refine ⟨_, _, rfl, by simp, by simp, by simp, fun _ => ⟨b, 0, rfl, trivial, fun i hi => ?_⟩⟩
  obtain rfl : i = 0 := by simpa using hi
  refine ⟨[.string x, .string y], rfl, ⟨rfl, hx, hy⟩, fun j hj => ?_⟩
  simp only [Nat.zero_mul, Nat.zero_add]
  rw [cell_heap h]
  match j, hj with
  | 0, _ => rfl
  | 1, _ => rfl
theorem rdO_lit {W : World} {r ra : Nat} {t t2 : TypeId} {fz fz2 : Nat × Nat}
    (h : W.heap[r]? = some (.cells #[.int .i64 1, .int .i64 2, .string ⟨#[]⟩, .slice none 0 0, .int .i64 2, .int .i64 0, .string ⟨#[120, 10]⟩, .slice (some ⟨ra, 0, none⟩) 1 1, .int .i64 3, .int .i64 1, .string ⟨#[]⟩, .slice none 0 0] t fz))
    (ha : W.heap[ra]? = some (.cells #[.string ⟨#[98]⟩, .string ⟨#[49]⟩] t2 fz2)) : RdO W (fun _ => True) (.slice (some ⟨r, 0, none⟩) 3 3) awOps := by
  refine ⟨_, _, rfl, by simp [awOps], by simp, by simp [awOps], fun _ => ⟨r, 0, rfl, trivial, fun i hi => ?_⟩⟩
  have hi3 : i < 3 := by simpa [awOps] using hi
  match i, hi3 with
  | 0, _ =>
    refine ⟨[.int .i64 1, .int .i64 2, .string ⟨#[]⟩, .slice none 0 0], rfl, ⟨.slice none 0 0, rfl, (show (⟨#[]⟩ : ByteArray).size ≤ 1099511627776 by decide), Rd.nil _ _ _ _⟩, fun j hj => ?_⟩
    rw [cell_heap h]
    match j, hj with
    | 0, _ => rfl
    | 1, _ => rfl
    | 2, _ => rfl
    | 3, _ => rfl
  | 1, _ =>
    refine ⟨[.int .i64 2, .int .i64 0, .string ⟨#[120, 10]⟩, .slice (some ⟨ra, 0, none⟩) 1 1], rfl, ⟨.slice (some ⟨ra, 0, none⟩) 1 1, rfl, (show (⟨#[120, 10]⟩ : ByteArray).size ≤ 1099511627776 by decide), rdA_lit ha (by decide) (by decide)⟩, fun j hj => ?_⟩
    rw [cell_heap h]
    match j, hj with
    | 0, _ => rfl
    | 1, _ => rfl
    | 2, _ => rfl
    | 3, _ => rfl
  | 2, _ =>
    refine ⟨[.int .i64 3, .int .i64 1, .string ⟨#[]⟩, .slice none 0 0], rfl, ⟨.slice none 0 0, rfl, (show (⟨#[]⟩ : ByteArray).size ≤ 1099511627776 by decide), Rd.nil _ _ _ _⟩, fun j hj => ?_⟩
    rw [cell_heap h]
    match j, hj with
    | 0, _ => rfl
    | 1, _ => rfl
    | 2, _ => rfl
    | 3, _ => rfl

set_option maxHeartbeats 4000000 in
set_option maxRecDepth 100000 in
theorem awake_any (w : World) (hT : Tabs w) : Calls Tryz.prog 15 #[] w fun e w' => e = .returned (.bool true) ∧ Below w.heap.size w w' := by
  go_enter Tryz.func15, Tryz.ntmps15
  go_wp2_with fail
  refine (lawKeep_any 2 none 0 0 _).mono ?_
  rintro e w1 ⟨rfl, b1⟩
  go_wp2_with fail
  refine (lawPut_any ⟨#[120, 10]⟩ _ _ _ _).mono ?_
  rintro e w2 ⟨rfl, b2⟩
  have hat := (b2.block _ (by simp)).trans (heap_alloc_new w1 (.cells #[.string ⟨#[98]⟩, .string ⟨#[49]⟩] 89))
  have b2' := ((Below.refl _ w1).alloc (Nat.le_refl _) _).trans (b2.mono (by simp))
  have hb2 := pure_trans b1 b2'
  go_wp2_with fail
  refine (lawCut_any 1 _).mono ?_
  rintro e w3 ⟨rfl, b3⟩
  have hat3 := (b3.block _ (heap_lt hat)).trans hat
  have hb3 := pure_trans hb2 b3
  go_wp2_with fail
  obtain ⟨W4, hW4⟩ : ∃ W4, (w3.alloc (.cells #[.int .i64 1, .int .i64 2, .string ⟨#[]⟩, .slice none 0 0, .int .i64 2, .int .i64 0, .string ⟨#[120, 10]⟩, .slice (some ⟨w1.heap.size, 0, none⟩) 1 1, .int .i64 3, .int .i64 1, .string ⟨#[]⟩, .slice none 0 0] 48)).alloc (.cells #[.int .i64 5, .slice (some ⟨w3.heap.size, 0, none⟩) 3 3] 24) = W4 := ⟨_, rfl⟩
  have b4 : Below w3.heap.size w3 W4 := by rw [← hW4]; exact ((Below.refl _ w3).alloc (Nat.le_refl _) _).alloc (by simp) _
  have hrow : W4.heap[w3.heap.size]? = some (.cells #[.int .i64 1, .int .i64 2, .string ⟨#[]⟩, .slice none 0 0, .int .i64 2, .int .i64 0, .string ⟨#[120, 10]⟩, .slice (some ⟨w1.heap.size, 0, none⟩) 1 1, .int .i64 3, .int .i64 1, .string ⟨#[]⟩, .slice none 0 0] 48 (0, 0)) := by
    rw [← hW4, Below.heap_alloc _ _ _ (by simp)]; exact heap_alloc_new w3 _
  have hat4 := (b4.block _ (heap_lt hat3)).trans hat3
  have hR := rdO_lit hrow hat4
  have hb4 := pure_trans hb3 b4
  have HW4 := Lib.hid hW4
  rw [hW4]
  clear hW4 hrow hat4 hat3 hat b1 b2 b2' b3 b4 hb2 hb3
  refine (print_any 5 _ awOps _ W4 hR (hT.pure hb4)).mono ?_
  rintro e w5 ⟨rfl, b5⟩
  rw [aw_printS, aw_printE]
  have hb5 := pure_trans hb4 b5
  go_wp2_with fail
  refine (parse_any awText w5 (by decide) (hT.pure hb5)).mono ?_
  intro e w6 hp
  unfold ParsePost at hp; rw [aw_parse] at hp
  obtain ⟨v, rfl, b6, hO⟩ := hp
  have hb6 := pure_trans hb5 b6
  have hRO := rdO_of_own hO.own (by decide)
  obtain ⟨A, cap, rfl, hc1, hc2, hc3, hcell⟩ := hRO.open_
  obtain ⟨b, off, rfl, _⟩ := hcell (by decide)
  obtain ⟨va, x0, x1, x2, x3, _⟩ := hRO.at_ 1 (by decide)
  have hbl := World.block_lt_of_cell? w6 _ x2
  obtain ⟨W7, hW7⟩ : ∃ W7, (w6.alloc (.cells #[.int .i64 5, .slice (some ⟨b, off, none⟩) awOps.length cap] 24)).alloc (.cells #[.int .i64 0, .int .i64 0] 32) = W7 := ⟨_, rfl⟩
  have b7 : Below w6.heap.size w6 W7 := by rw [← hW7]; exact ((Below.refl _ w6).alloc (Nat.le_refl _) _).alloc (by simp) _
  have hq0 : W7.heap[w6.heap.size]? = some (.cells #[.int .i64 5, .slice (some ⟨b, off, none⟩) awOps.length cap] 24 (0, 0)) := by
    rw [← hW7, Below.heap_alloc _ _ _ (by simp)]; exact heap_alloc_new w6 _
  have hq1 : W7.heap[w6.heap.size + 1]? = some (.cells #[.int .i64 0, .int .i64 0] 32 (0, 0)) := by
    rw [← hW7]; have := heap_alloc_new (w6.alloc (.cells #[.int .i64 5, .slice (some ⟨b, off, none⟩) awOps.length cap] 24)) (.cells #[.int .i64 0, .int .i64 0] 32); simpa using this
  have x27 := pure_cell b7 x2
  have hb7 := pure_trans hb6 b7
  have HW7 := Lib.hid hW7; clear hW7 x0 x1 x2 x3 b5 b6 hO hRO hR
  unfold faultV
  go_wp2_with fail
  rw [HW7.out]
  refine (parse_any awBad W7 (by decide) (hT.pure hb7)).mono ?_
  intro e w8 hp
  unfold ParsePost at hp; rw [aw_parse2] at hp
  obtain ⟨rfl, b8⟩ := hp
  have hq08 := (b8.block _ (heap_lt hq0)).trans hq0
  have hq18 := (b8.block _ (heap_lt hq1)).trans hq1
  have x28 := pure_cell b8 x27
  have hb8 := pure_trans hb7 b8
  have hl0 := heap_lt hq08; have hl1 := heap_lt hq18
  have hbl8 := World.block_lt_of_cell? w8 _ x28
  obtain ⟨p0, p1⟩ := box2 hq08
  obtain ⟨p2, p3⟩ := box2 hq18
  have HB8 := Lib.hid hb8
  clear hq0 hq1 hq08 hq18 x27 b7 b8 hb4 hb5 hb6 hb7 hb8
  have hF := eqF_run
  have x28' : w8.cell? ⟨b, off + 6, none⟩ = some (.string ⟨#[120, 10]⟩) := x28
  have hlen3 : awOps.length = 3 := rfl
  rw [hlen3]
  clear hlen3 x28
  have ht1 : awText.toList = [53, 32, 61, 50, 32, 43, 34, 120, 92, 110, 34, 123, 98, 58, 34, 49, 34, 125, 32, 45, 49] := by rw [ByteArray.toList_eq]; rfl
  unfold faultV
  go_wp2_with fail
  go_ret
  exact ⟨rfl, (HB8.out.alloc HB8.out.size _).alloc (by have := HB8.out.size; simp; omega) _⟩
end Go.Proofs.YtdpmjlkmjmookaaGreatDoor
