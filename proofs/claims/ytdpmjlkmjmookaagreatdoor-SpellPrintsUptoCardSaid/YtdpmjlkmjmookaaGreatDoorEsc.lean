/-
  Package spell: what stands behind a backslash (escaped), walked.
-/
import Derived.Test.YtdpmjlkmjmookaaGreatDoorNum
namespace Go.Proofs.YtdpmjlkmjmookaaGreatDoor
set_option linter.unusedVariables false
set_option linter.unusedSimpArgs false
open Go.RowKit Go.PlainAid

def hexL : List UInt8 := [48, 49, 50, 51, 52, 53, 54, 55, 56, 57, 97, 98, 99, 100, 101, 102]
def hexI (c : UInt8) : Int := Lib.indexByte hexL c
def hd0 : List UInt8 → UInt8
  | [] => 0
  | c :: _ => c
set_option maxRecDepth 100000 in
theorem hexI_all : ∀ i : Fin 256, -1 ≤ hexI (UInt8.ofNat i.val) ∧ hexI (UInt8.ofNat i.val) < 16 := by decide
theorem hexI_lt (c : UInt8) : -1 ≤ hexI c ∧ hexI c < 16 := by
  have := hexI_all ⟨c.toNat, c.toNat_lt⟩
  simpa using this
def hexSt (l : List UInt8) : Except Nat (Int × List UInt8) := if hexI (hd0 l) < 0 then .error l.length else .ok (hexI (hd0 l), l.tail)
def hexN : Nat → List UInt8 → Except Nat (Int × List UInt8)
  | 0, l => .ok (0, l)
  | k + 1, l => match hexN k l with
    | .error e => .error e
    | .ok (n, r) => match hexSt r with
      | .error e => .error e
      | .ok (d, r') => .ok (16 * n + d, r')
def badEsc (n : Int) : Bool := (n == 10) || (decide (32 ≤ n) && (n != 127))
def escM (l : List UInt8) : Except Nat (UInt8 × List UInt8) :=
  if takeB 34 l then .ok (34, l.tail) else if takeB 92 l then .ok (92, l.tail) else if takeB 110 l then .ok (10, l.tail)
  else if takeB 120 l then match hexN 2 l.tail with
    | .error e => .error e
    | .ok (n, r) => if badEsc n then .error (l.length + 1) else .ok (n.toNat.toUInt8, r)
  else .error l.length
def byteV (c : UInt8) : Value := .int .u8 c.toNat
theorem hexN_lt {k : Nat} : ∀ {l r : List UInt8} {n : Int}, hexN k l = .ok (n, r) → 0 ≤ n ∧ n < 16 ^ k := by
  induction k with
  | zero => intro l r n h; injection h with h; injection h with h1 h2; subst h1; decide
  | succ k ih =>
    intro l r n h
    unfold hexN at h
    split at h
    · cases h
    · rename_i m r1 h1
      obtain ⟨i1, i2⟩ := ih h1
      split at h
      · cases h
      · rename_i d r2 h2
        injection h with h; injection h with h3 h4; subst h3
        unfold hexSt at h2
        split at h2
        · cases h2
        · injection h2 with h2; injection h2 with h5 h6
          have := hexI_lt (hd0 r1)
          have hp : (16 : Int) ^ (k + 1) = 16 ^ k * 16 := Int.pow_succ 16 k
          omega

theorem hexes_list : (⟨#[48, 49, 50, 51, 52, 53, 54, 55, 56, 57, 97, 98, 99, 100, 101, 102]⟩ : ByteArray).data.toList = hexL := rfl
theorem hexI_of (c : UInt8) : Lib.indexByte hexL ((c.toNat : Int).toNat.toUInt8) = hexI c := by simp [hexI]

theorem see_hd (r : List UInt8) : max (seeM r) 0 % 256 = ((hd0 r).toNat : Int) := by
  cases r with
  | nil => rfl
  | cons c r =>
    have := c.toNat_lt
    simp only [seeM, hd0]
    rw [Int.max_eq_left (by omega)]; omega
theorem byte_of {m : Int} (h0 : 0 ≤ m) (h1 : m < 256) : ((m.toNat.toUInt8).toNat : Int) = m := by
  have : m.toNat < 256 := by omega
  simp [Nat.mod_eq_of_lt this]; omega
theorem hexN_err {k : Nat} {l r : List UInt8} {m : Int} (h : hexN k l = .ok (m, r)) (hd : hexI (hd0 r) < 0) : hexN (k + 1) l = .error r.length := by
  unfold hexN; rw [h]; simp only [hexSt]; rw [if_pos hd]
theorem hexN_more {k : Nat} {l r : List UInt8} {m : Int} (h : hexN k l = .ok (m, r)) (hd : ¬ hexI (hd0 r) < 0) : hexN (k + 1) l = .ok (16 * m + hexI (hd0 r), r.tail) := by
  unfold hexN; rw [h]; simp only [hexSt]; rw [if_neg hd]
theorem hexN_first {l : List UInt8} {e : Nat} (h : hexN 1 l = .error e) : hexN 2 l = .error e := by
  unfold hexN; rw [h]
theorem Txt.len {g : Nat} {s : ByteArray} {l : List UInt8} {w : World} (h : Txt g s l w) : ∃ a : Nat, a ≤ s.size ∧ (s.size : Int) - (l.length : Int) = (a : Int) ∧ w.heap[g]? = some (.cells #[.string s, .int .i64 a] 115 (0, 0)) := by
  obtain ⟨a, h1, rfl, h3⟩ := h
  exact ⟨a, h1, by rw [drop_len]; omega, h3⟩
theorem Txt.tail {g : Nat} {s : ByteArray} {l : List UInt8} {w : World} {a : Nat} (h : l = s.data.toList.drop a) : l.tail = s.data.toList.drop (a + 1) := by
  subst h; simp

set_option maxHeartbeats 4000000 in
theorem escaped_any (g : Nat) (s : ByteArray) (l : List UInt8) (w : World) (hx : Txt g s l w) (hs : s.size ≤ 1099511627776) :
    Calls Tryz.prog 133 #[.pointer (some ⟨g, 0, none⟩)] w (RdPost g s byteV (escM l) w) := by
  have HX := Lib.hid hx
  obtain ⟨a, h1, hl, h3⟩ := hx
  obtain ⟨c0, c1⟩ := box2 h3
  have hll : l.length = s.size - a := by rw [hl, drop_len]
  clear hl
  have hi : IntKind.i64.wrap ((a : Int) - 1) = (a : Int) - 1 := IntWalk.i64_in _ (by omega)
  have hi2 : wrap64 ((a : Int) - 1) = (a : Int) - 1 := by unfold wrap64; omega
  cases t34 : takeB 34 l with
  | true =>
    have hN : escM l = .ok (34, l.tail) := by unfold escM; rw [if_pos t34]
    have HN := Lib.hid hN; clear hN
    go_enter Tryz.func133, Tryz.ntmps133
    go_wp2_with fail
    refine (take_any 34 g s l _ HX.out hs).mono ?_
    rw [t34]
    rintro e w1 ⟨rfl, h2, k2⟩
    go_wp2
    go_ret
    unfold RdPost; rw [HN.out]
    exact ⟨rfl, by simpa using h2, k2⟩
  | false =>
    cases t92 : takeB 92 l with
    | true =>
      have hN : escM l = .ok (92, l.tail) := by unfold escM; rw [if_neg (by rw [t34]; simp), if_pos t92]
      have HN := Lib.hid hN; clear hN
      go_enter Tryz.func133, Tryz.ntmps133
      go_wp2_with fail
      refine (take_any 34 g s l _ HX.out hs).mono ?_
      rw [t34]
      rintro e w1 ⟨rfl, h2, k2⟩
      go_wp2_with fail
      refine (take_any 92 g s l _ (by simpa using h2) hs).mono ?_
      rw [t92]
      rintro e w2 ⟨rfl, h4, k4⟩
      go_wp2
      go_ret
      unfold RdPost; rw [HN.out]
      exact ⟨rfl, by simpa using h4, k2.trans k4⟩
    | false =>
      cases t110 : takeB 110 l with
      | true =>
        have hN : escM l = .ok (10, l.tail) := by unfold escM; rw [if_neg (by rw [t34]; simp), if_neg (by rw [t92]; simp), if_pos t110]
        have HN := Lib.hid hN; clear hN
        go_enter Tryz.func133, Tryz.ntmps133
        go_wp2_with fail
        refine (take_any 34 g s l _ HX.out hs).mono ?_
        rw [t34]
        rintro e w1 ⟨rfl, h2, k2⟩
        go_wp2_with fail
        refine (take_any 92 g s l _ (by simpa using h2) hs).mono ?_
        rw [t92]
        rintro e w2 ⟨rfl, h4, k4⟩
        go_wp2_with fail
        refine (take_any 110 g s l _ (by simpa using h4) hs).mono ?_
        rw [t110]
        rintro e w3 ⟨rfl, h5, k5⟩
        go_wp2
        go_ret
        unfold RdPost; rw [HN.out]
        exact ⟨rfl, by simpa using h5, (k2.trans k4).trans k5⟩
      | false =>
        have hE : escM l = if takeB 120 l then match hexN 2 l.tail with
            | .error e => .error e
            | .ok (n, r) => if badEsc n then .error (l.length + 1) else .ok (n.toNat.toUInt8, r)
          else .error l.length := by unfold escM; rw [if_neg (by rw [t34]; simp), if_neg (by rw [t92]; simp), if_neg (by rw [t110]; simp)]
        have HE := Lib.hid hE; clear hE
        go_enter Tryz.func133, Tryz.ntmps133
        go_wp2_with fail
        refine (take_any 34 g s l _ HX.out hs).mono ?_
        rw [t34]
        rintro e w1 ⟨rfl, h2, k2⟩
        go_wp2_with fail
        refine (take_any 92 g s l _ (by simpa using h2) hs).mono ?_
        rw [t92]
        rintro e w2 ⟨rfl, h4, k4⟩
        go_wp2_with fail
        refine (take_any 110 g s l _ (by simpa using h4) hs).mono ?_
        rw [t110]
        rintro e w3 ⟨rfl, h5, k5⟩
        go_wp2_with fail
        have hk3 := (k2.trans k4).trans k5
        refine (must_any 120 g s l _ (by simpa using h5) hs).mono ?_
        rintro e w4 (⟨t120, rfl, h6, k6⟩ | ⟨t120, rfl, k6⟩)
        case inr =>
          unfold wrongE
          refine ⟨rfl, ?_⟩
          unfold RdPost; rw [HE.out, if_neg (by rw [t120]; simp)]
          exact ⟨rfl, hk3.trans k6⟩
        case inl =>
          rw [if_pos t120] at HE
          have hk4 := hk3.trans k6
          clear hk3 k6 k2 k4 k5 h2 h4 h5 c0 c1 h3 HX t34 t92 t110 t120
          go_wp2
          go_loopw [22, 4] (fun i n wr => ∃ (k : Nat) (m : Int) (r : List UInt8), k ≤ 2 ∧ i = .int .i64 k ∧ n = .int .i64 m ∧ hexN k l.tail = .ok (m, r) ∧ Txt g s r wr ∧ KpG g w wr) (fun i _ _ => 2 - (intOf i).toNat)
          case atStart => exact ⟨0, 0, l.tail, by omega, rfl, rfl, rfl, h6, hk4⟩
          case round =>
            obtain ⟨k, m, r, hk, rfl, rfl, hn, ht, hkw⟩ := hrel
            obtain ⟨m0, m1⟩ := hexN_lt hn
            have HN := Lib.hid hn; clear hn
            by_cases hk2 : k < 2
            · have hm16 : m < 16 := by
                have : k = 0 ∨ k = 1 := by omega
                rcases this with rfl | rfl
                · simp at m1; omega
                · simpa using m1
              go_wp2_with fail
              refine (see_any g s r _ ht hs).mono ?_
              rintro e w5 ⟨rfl, b5⟩
              go_wp2_with fail
              rw [see_hd]
              refine (Tryz.strings_IndexByte _ _ _).mono ?_
              rw [hexes_list, hexI_of]
              rintro e w6 ⟨rfl, rfl⟩
              have hdl := hexI_lt (hd0 r)
              have ht5 := ht.pure b5
              by_cases hdn : hexI (hd0 r) < 0
              · have hne := hexN_err HN.out hdn
                have h2e : hexN 2 l.tail = .error r.length := by
                  have : k = 0 ∨ k = 1 := by omega
                  rcases this with rfl | rfl
                  · exact hexN_first hne
                  · exact hne
                have H2E := Lib.hid h2e; clear h2e hne
                have hdb : decide (hexI (hd0 r) < 0) = true := by simpa using hdn
                obtain ⟨a5, q1, q2, q3⟩ := ht5.len
                obtain ⟨x0, x1⟩ := box2 q3
                go_wp2_with fail
                refine ⟨rfl, ?_⟩
                unfold RdPost; rw [HE.out, H2E.out]
                refine ⟨?_, hkw.trans (KpG.pure b5)⟩
                unfold wrongE; rw [q2]
              · have hne := hexN_more HN.out hdn
                have HNE := Lib.hid hne; clear hne
                have hdb : decide (hexI (hd0 r) < 0) = false := by simpa using hdn
                obtain ⟨a5, q1, q2, q3⟩ := ht5
                obtain ⟨x0, x1⟩ := box2 q3
                have fx := froz_heap q3 1
                have hgl := heap_lt q3
                have Q2 := Lib.hid q2; have Q3 := Lib.hid q3; clear q2 q3
                have hlt5 : a5 < s.size := by
                  rcases Nat.lt_or_ge a5 s.size with h | h
                  · exact h
                  · exfalso; apply hdn; rw [Q2.out, drop_end s a5 h]; decide
                have e1 : wrap64 (16 * m) = 16 * m := by unfold wrap64; omega
                have e2 : wrap64 (16 * m + hexI (hd0 r)) = 16 * m + hexI (hd0 r) := by unfold wrap64; omega
                generalize hexI (hd0 r) = d at *
                go_wp2
                refine ⟨⟨k + 1, _, r.tail, by omega, by go_num, rfl, HNE.out, ⟨a5 + 1, hlt5, Txt.tail (g := 0) (w := w) Q2.out, set_heap1 Q3.out _⟩, (hkw.trans (KpG.pure b5)).setCell (p := ⟨g, 1, none⟩) (.inl rfl) _⟩, by simp [intOf]; omega⟩
            · obtain rfl : k = 2 := by omega
              have m256 : m < 256 := by simpa using m1
              have H2E : escM l = if badEsc m then .error (l.length + 1) else .ok (m.toNat.toUInt8, r) := by rw [HE.out, HN.out]
              by_cases e10 : m = 10
              case' pos =>
                have hb : badEsc m = true := by rw [e10]; rfl
                have f10 : (m == 10) = true := by simpa using e10
              case' neg =>
                have f10 : (m == 10) = false := by simpa using e10
                by_cases e32 : 32 ≤ m
                case' neg =>
                  have f32 : decide ((32 : Int) ≤ m) = false := by simpa using e32
                  have hb : badEsc m = false := by unfold badEsc; rw [f10, f32]; rfl
                case' pos =>
                  have f32 : decide ((32 : Int) ≤ m) = true := by simpa using e32
                  by_cases e127 : m = 127
                  case' pos =>
                    have f127 : (m != 127) = false := by simpa using e127
                    have hb : badEsc m = false := by unfold badEsc; rw [f10, f32, f127]; rfl
                  case' neg =>
                    have f127 : (m != 127) = true := by simpa using e127
                    have hb : badEsc m = true := by unfold badEsc; rw [f10, f32, f127]; rfl
              all_goals
                rw [hb] at H2E
                have HH := Lib.hid H2E; clear H2E hb
                try clear e10
                try clear e127
                go_wp2_with fail
              all_goals first
                | (refine ⟨rfl, ?_⟩
                   unfold RdPost; rw [HH.out]
                   refine ⟨?_, hkw⟩
                   unfold wrongE
                   rw [show (s.size : Int) - ((l.length + 1 : Nat) : Int) = (a : Int) - 1 by omega])
                | (go_ret
                   unfold RdPost; rw [HH.out]
                   refine ⟨?_, ht, hkw⟩
                   unfold byteV
                   rw [byte_of m0 m256]
                   exact ret_int (by omega))
end Go.Proofs.YtdpmjlkmjmookaaGreatDoor
