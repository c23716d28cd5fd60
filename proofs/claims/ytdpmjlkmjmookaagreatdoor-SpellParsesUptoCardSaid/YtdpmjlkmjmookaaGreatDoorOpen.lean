/-
  Arguments: attributes, operations, a changeset, read out of the rows' data.
-/
import Derived.Test.YtdpmjlkmjmookaaGreatDoorRows
import Derived.Test.YtdpmjlkmjmookaaGreatDoorRow
import Derived.Deep.SlicePairs
import Derived.Lib.SmallJoins
namespace Go.Proofs.YtdpmjlkmjmookaaGreatDoor
open Go.RowKit Go.ChangeShapes Go.WideShapes Go.Deep

instance : Inhabited OpM := ⟨⟨0, 0, ⟨#[]⟩, []⟩⟩
set_option maxRecDepth 100000
section
variable {H : Type} {enc : TypeId × Value → H} {w : World} {base : Nat} {spare : Nat → Bool} {held : Bool}

theorem bulk_pos : ∀ d : DataW H, 1 ≤ Rows.uptoBulk d
  | .lit (.string _) => by simp [Rows.uptoBulk]
  | .lit (.bool _) => by simp [Rows.uptoBulk]
  | .lit (.int _ _) => by simp [Rows.uptoBulk]
  | .lit (.float _ _) => by simp [Rows.uptoBulk]
  | .lit .nil => by simp [Rows.uptoBulk]
  | .nil => by simp [Rows.uptoBulk]
  | .ptr _ => by simp [Rows.uptoBulk]
  | .slice _ _ => by simp [Rows.uptoBulk]
  | .agg _ => by simp [Rows.uptoBulk]
  | .iface _ _ => by simp [Rows.uptoBulk]
  | .map _ => by simp [Rows.uptoBulk]
  | .held _ => by simp [Rows.uptoBulk]
theorem bulk_mem : ∀ {l : List (DataW H)} {d : DataW H}, d ∈ l → Rows.uptoBulk d ≤ Rows.uptoBulkAll l
  | [], _, h => by cases h
  | a :: l, d, h => by
    simp only [Rows.uptoBulkAll]
    rcases List.mem_cons.1 h with rfl | h
    · omega
    · have := bulk_mem h; omega
theorem bulk_len : ∀ l : List (DataW H), l.length ≤ Rows.uptoBulkAll l
  | [] => by simp
  | a :: l => by
    have := bulk_len l; have := bulk_pos a
    simp only [Rows.uptoBulkAll, List.length_cons]; omega
def strOf : Value → ByteArray
  | .string s => s
  | _ => ⟨#[]⟩
theorem addr_plain {a : Addr} {v : Value} (h : w.cell? a = some v) : a = ⟨a.block, a.off, none⟩ := by
  obtain ⟨b, o, s⟩ := a
  cases s with
  | none => rfl
  | some s =>
    unfold World.cell? at h
    split at h
    · simp at h
    · cases h
theorem add_zero' (a : Addr) : a.add 0 = a := by unfold Addr.add; rw [if_pos rfl]

theorem open_attrs {fuel : Nat} {v : Value} {x : DataW H × List MemPlace} (h : DataW.trod enc Tryz.prog w base spare held fuel 46 [v] = some x) (hb : Rows.uptoBulk x.1 ≤ 1099511627776) : ∃ l : List At, RdA w (fun _ => True) v l := by
  rcases open_slice_pairs Tryz.underlying46 Tryz.underlying89 (by kernel_rfl) rfl rfl (by kernel_rfl) (by kernel_rfl) h with ⟨hv, _⟩ | ⟨a, len, cap, m, n, V0, V1, D0, D1, P0, P1, hv, _, hl, hm, hmm, hx, hc⟩
  · injection hv with hv; subst hv; exact ⟨[], Rd.nil _ _ _ _⟩
  · injection hv with hv
    subst hv
    have hlm : len ≤ m := by rw [hmm]; split <;> omega
    have hbx : Rows.uptoBulkAll ((List.range len).map fun i => DataW.agg [D0 i, D1 i]) ≤ 1099511627776 := by
      rw [hx] at hb; simp only [Rows.uptoBulk] at hb; omega
    have hlen : len ≤ 1099511627776 := by
      have := bulk_len ((List.range len).map fun i => DataW.agg [D0 i, D1 i])
      simp at this; omega
    have hel : ∀ i, i < len → ∃ s t : ByteArray, V0 i = .string s ∧ V1 i = .string t ∧ s.size ≤ 1099511627776 ∧ t.size ≤ 1099511627776 := by
      intro i hi
      obtain ⟨_, _, h3, h4⟩ := hc i (by omega)
      obtain ⟨s, e1, e2, _⟩ := DataW.trod_string Tryz.underlying9 h3
      obtain ⟨t, f1, f2, _⟩ := DataW.trod_string Tryz.underlying9 h4
      have hmem := bulk_mem (l := (List.range len).map fun i => DataW.agg [D0 i, D1 i]) (d := .agg [D0 i, D1 i]) (List.mem_map.2 ⟨i, by simpa using hi, rfl⟩)
      injection e1 with e1; injection f1 with f1
      injection e2 with e2 _; injection f2 with f2 _
      rw [e2, f2] at hmem
      simp only [Rows.uptoBulk, Rows.uptoBulkAll, Array.length_toList] at hmem
      have h1 : s.data.size = s.size := rfl
      have h2 : t.data.size = t.size := rfl
      exact ⟨s, t, e1, f1, by omega, by omega⟩
    refine ⟨(List.range len).map fun i => ⟨strOf (V0 i), strOf (V1 i)⟩, some a, cap, by simp, by simpa using hl, by simpa [maxLen] using hm, by simpa using hlen, fun h0 => ?_⟩
    have h0' : 0 < len := by simpa using h0
    have hap : a = ⟨a.block, a.off, none⟩ := addr_plain (by have := (hc 0 (by omega)).1; rw [Nat.zero_mul, add_zero'] at this; exact this)
    obtain ⟨b, off, he⟩ : ∃ b off, a = ⟨b, off, none⟩ := ⟨_, _, hap⟩
    subst he
    refine ⟨b, off, rfl, trivial, fun i hi => ?_⟩
    have hi' : i < len := by simpa using hi
    obtain ⟨s, t, e1, e2, q1, q2⟩ := hel i hi'
    obtain ⟨c1, c2, _, _⟩ := hc i (by omega)
    rw [Addr.add_lit] at c1 c2
    refine ⟨[.string s, .string t], rfl, ⟨by simp [cellsA, e1, e2, strOf], by simp [e1, strOf]; exact q1, by simp [e2, strOf]; exact q2⟩, fun j hj => ?_⟩
    match j, hj with
    | 0, _ => rw [e1] at c1; exact c1
    | 1, _ => rw [e2] at c2; exact c2
def intV' : Value → Int
  | .int _ n => n
  | _ => 0
theorem open_ops {fuel : Nat} {v : Value} {x : DataW H × List MemPlace} (h : DataW.trod enc Tryz.prog w base spare held fuel 22 [v] = some x) (hb : Rows.uptoBulk x.1 ≤ 1099511627776) : ∃ l : List OpM, RdO w (fun _ => True) v l := by
  rcases open_slice Tryz.underlying22 h with ⟨hv, _⟩ | ⟨a, len, cap, m, n, D, Pl, hv, _, hl, hm, hmm, hx, hc⟩
  · injection hv with hv; subst hv; exact ⟨[], Rd.nil _ _ _ _⟩
  · injection hv with hv
    subst hv
    have hlm : len ≤ m := by rw [hmm]; split <;> omega
    have hbx : Rows.uptoBulkAll ((List.range len).map D) ≤ 1099511627776 := by
      rw [hx] at hb; simp only [Rows.uptoBulk] at hb; omega
    have hlen : len ≤ 1099511627776 := by
      have := bulk_len ((List.range len).map D)
      simp at this; omega
    have ce : Tryz.prog.cellsOf 48 = 4 := by kernel_rfl
    have hel : ∀ i, i < len → ∃ (o : OpM) (va : Value), (∀ j (hj : j < (cellsO o va).length), w.cell? (a.add (i * 4 + j)) = some (cellsO o va)[j]) ∧ o.text.size ≤ 1099511627776 ∧ RdA w (fun _ => True) va o.attrs := by
      intro i hi
      obtain ⟨cs', h1, h2⟩ := hc i (by omega)
      have hmem := bulk_mem (l := (List.range len).map D) (d := D i) (List.mem_map.2 ⟨i, by simpa using hi, rfl⟩)
      rw [ce] at h1
      obtain ⟨_, hlen', hcell⟩ := World.cells?_some h1
      obtain ⟨xs, k, hk, hxy, _, hxl, hf⟩ := DataW.trod_struct Tryz.underlying48 h2
      match xs, hxl, cs', hlen' with
      | [y0, y1, y2, y3], _, [v0, v1, v2, v3], _ =>
        have g0 := hf 0 _ rfl
        have g1 := hf 1 _ rfl
        have g2 := hf 2 _ rfl
        have g3 := hf 3 _ rfl
        have ci : Tryz.prog.cellsOf 3 = 1 := by kernel_rfl
        have cst : Tryz.prog.cellsOf 9 = 1 := by kernel_rfl
        have csl : Tryz.prog.cellsOf 46 = 1 := by kernel_rfl
        simp [ci, cst, csl] at g0 g1 g2 g3
        obtain ⟨k0, e0, _, _⟩ := DataW.trod_int Tryz.underlying3 g0
        obtain ⟨k1, e1, _, _⟩ := DataW.trod_int Tryz.underlying3 g1
        obtain ⟨s, e2, f2, _⟩ := DataW.trod_string Tryz.underlying9 g2
        injection hxy with hxy _
        rw [hxy] at hmem
        simp only [List.map_cons, List.map_nil, Rows.uptoBulk, Rows.uptoBulkAll] at hmem
        obtain ⟨l, hl⟩ := open_attrs g3 (by omega)
        injection e0 with e0; injection e1 with e1; injection e2 with e2
        subst e0 e1 e2
        rw [f2] at hmem
        simp only [Rows.uptoBulk, Array.length_toList] at hmem
        have h1 : s.data.size = s.size := rfl
        refine ⟨⟨k0, k1, s, l⟩, v3, fun j hj => ?_, by show s.size ≤ _; omega, hl⟩
        have hj' : j < 4 := hj
        have e := hcell j hj'
        rw [add_add] at e
        match j, hj' with
        | 0, _ => simpa [cellsO] using e
        | 1, _ => simpa [cellsO] using e
        | 2, _ => simpa [cellsO] using e
        | 3, _ => simpa [cellsO] using e
    obtain ⟨q, hq⟩ := choose_lt (α := OpM × Value) (p := fun i q => (∀ j (hj : j < (cellsO q.1 q.2).length), w.cell? (a.add (i * 4 + j)) = some (cellsO q.1 q.2)[j]) ∧ q.1.text.size ≤ 1099511627776 ∧ RdA w (fun _ => True) q.2 q.1.attrs) (fun i (hi : i < len) => by
      obtain ⟨o, va, h1, h2, h3⟩ := hel i hi; exact ⟨(o, va), h1, h2, h3⟩)
    refine ⟨(List.range len).map fun i => (q i).1, some a, cap, by simp, by simpa using hl, by simpa [maxLen] using hm, by simpa using hlen, fun h0 => ?_⟩
    have h0' : 0 < len := by simpa using h0
    have hap : a = ⟨a.block, a.off, none⟩ := addr_plain (by have := (hq 0 h0').1 0 (by simp [cellsO]); rw [Nat.zero_mul, Nat.add_zero, add_zero'] at this; exact this)
    obtain ⟨b, off, he⟩ : ∃ b off, a = ⟨b, off, none⟩ := ⟨_, _, hap⟩
    subst he
    refine ⟨b, off, rfl, trivial, fun i hi => ?_⟩
    have hi' : i < len := by simpa using hi
    obtain ⟨c1, c2, c3⟩ := hq i hi'
    refine ⟨cellsO (q i).1 (q i).2, rfl, ⟨(q i).2, by simp, by simpa using c2, by simpa using c3⟩, fun j hj => ?_⟩
    have := c1 j hj
    rw [Addr.add_lit] at this
    exact this
theorem open_change {r : Reach} {b0 : Nat} {v : Value} {d : DataW H} {p : List MemPlace} (hv : Value.okWide Tryz.prog w r b0 24 v) (h : DataW.Trod enc Tryz.prog w base spare held 24 v d p) (hb : Rows.uptoBulk d ≤ 1099511627776) :
    ∃ (f : Int) (sl : Value) (ops : List OpM), v = .agg #[.int .i64 f, sl] ∧ RdO w (fun _ => True) sl ops := by
  obtain ⟨v0, v1, y0, y1, n, rfl, rfl, _, h0, h1⟩ := Go.Joins.open_agg2 Tryz.underlying24 (by kernel_rfl) (by kernel_rfl) hv h
  obtain ⟨f, e0, _, _⟩ := DataW.trod_int Tryz.underlying3 h0
  injection e0 with e0
  subst e0
  simp only [Rows.uptoBulk, Rows.uptoBulkAll] at hb
  obtain ⟨l, hl⟩ := open_ops h1 (by omega)
  exact ⟨f, v1, l, rfl, hl⟩
end
end Go.Proofs.YtdpmjlkmjmookaaGreatDoor
