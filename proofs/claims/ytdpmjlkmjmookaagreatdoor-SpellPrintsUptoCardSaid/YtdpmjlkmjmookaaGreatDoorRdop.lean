/-
  Package spell: an operation read (op), walked.
-/
import Derived.Test.YtdpmjlkmjmookaaGreatDoorRdattrs
namespace Go.Proofs.YtdpmjlkmjmookaaGreatDoor
open Go.RowKit Go.PlainAid

def opKeep (l : List UInt8) : Except Nat (OpM × List UInt8) := match numberM l with
  | .error k => .error k
  | .ok (n, r) => match attrsM r with
    | .error k => .error k
    | .ok (as_, r2) => .ok (⟨1, n, ⟨#[]⟩, as_⟩, r2)
def opIns (l : List UInt8) : Except Nat (OpM × List UInt8) := match quotedM l with
  | .error k => .error k
  | .ok (d, r) => match attrsM r with
    | .error k => .error k
    | .ok (as_, r2) => .ok (⟨2, 0, mkB d, as_⟩, r2)
def opDel (l : List UInt8) : Except Nat (OpM × List UInt8) := match numberM l with
  | .error k => .error k
  | .ok (n, r) => .ok (⟨3, n, ⟨#[]⟩, []⟩, r)
def opM (l : List UInt8) : Except Nat (OpM × List UInt8) :=
  if takeB 32 l then
    if takeB 61 l.tail then opKeep l.tail.tail
    else if takeB 43 l.tail then opIns l.tail.tail
    else if takeB 45 l.tail then opDel l.tail.tail
    else .error l.tail.length
  else .error l.length
def OpPost (g : Nat) (s : ByteArray) (r : Except Nat (OpM × List UInt8)) (w : World) (e : Ending) (w' : World) : Prop :=
  match r with
  | .ok (o, l) => ∃ va, e = .returned (opV o va) ∧ RdA w' (fun k => w.heap.size ≤ k ∧ TyA w' k) va o.attrs ∧ o.text.size ≤ s.size ∧ Txt g s l w' ∧ KpG g w w'
  | .error k => e = wrongE k s ∧ KpG g w w'
theorem set_one {w : World} {g j : Nat} {cs : Array Value} {t : TypeId} {fz : Nat × Nat} (h : w.heap[g]? = some (.cells cs t fz)) (u : Value) : (w.setCell ⟨g, j, none⟩ u).heap[g]? = some (.cells (cs.setIfInBounds j u) t fz) := by
  simp [World.setCell, Array.getElem?_modify, h]
theorem set4 {w : World} {g : Nat} {a b c d : Value} {t : TypeId} (h : w.heap[g]? = some (.cells #[a, b, c, d] t (0, 0))) (p q r u : Value) :
    ((((w.setCell ⟨g, 0, none⟩ p).setCell ⟨g, 1, none⟩ q).setCell ⟨g, 2, none⟩ r).setCell ⟨g, 3, none⟩ u).heap[g]? = some (.cells #[p, q, r, u] t (0, 0)) :=
  set_one (set_one (set_one (set_one h p) q) r) u
theorem KpG.fresh {g : Nat} {w w1 : World} (h : KpG g w w1) {b : Nat} (hb : w.heap.size ≤ b) (j : Nat) (u : Value) : KpG g w (w1.setCell ⟨b, j, none⟩ u) := Kp.setCell (p := ⟨b, j, none⟩) h (.inr hb) u
theorem Txt.setCell {g b j : Nat} {s : ByteArray} {l : List UInt8} {w : World} (h : Txt g s l w) (hb : g ≠ b) (u : Value) : Txt g s l (w.setCell ⟨b, j, none⟩ u) := by
  obtain ⟨a, h1, h2, h3⟩ := h
  exact ⟨a, h1, h2, by rw [Below.heap_setCell _ ⟨b, j, none⟩ _ _ hb]; exact h3⟩
theorem RdA.setCell {b j : Nat} {F : Nat → Prop} {v : Value} {l : List At} {w : World} (h : RdA w F v l) (hb : ∀ k, F k → k ≠ b) (u : Value) : RdA (w.setCell ⟨b, j, none⟩ u) F v l :=
  h.agree fun k hk _ => Below.heap_setCell _ ⟨b, j, none⟩ _ _ (hb k hk)

theorem op_fin {g : Nat} {s : ByteArray} {r : List UInt8} {w w4 : World} {a b c d v : Value} {t : TypeId} {m : Nat} {as_ : List At} (hm : w.heap.size < m) (hgw : g < w.heap.size)
    (hbx : w4.heap[w.heap.size]? = some (.cells #[a, b, c, d] t (0, 0))) (h4 : Txt g s r w4) (hk : KpG g w w4) (hva : RdA w4 (fun k => m ≤ k ∧ TyA w4 k) v as_) (p q x u : Value) :
    ((((w4.setCell ⟨w.heap.size, 0, none⟩ p).setCell ⟨w.heap.size, 1, none⟩ q).setCell ⟨w.heap.size, 2, none⟩ x).setCell ⟨w.heap.size, 3, none⟩ u).heap[w.heap.size]? = some (.cells #[p, q, x, u] t (0, 0)) ∧
    Txt g s r ((((w4.setCell ⟨w.heap.size, 0, none⟩ p).setCell ⟨w.heap.size, 1, none⟩ q).setCell ⟨w.heap.size, 2, none⟩ x).setCell ⟨w.heap.size, 3, none⟩ u) ∧
    KpG g w ((((w4.setCell ⟨w.heap.size, 0, none⟩ p).setCell ⟨w.heap.size, 1, none⟩ q).setCell ⟨w.heap.size, 2, none⟩ x).setCell ⟨w.heap.size, 3, none⟩ u) ∧
    RdA ((((w4.setCell ⟨w.heap.size, 0, none⟩ p).setCell ⟨w.heap.size, 1, none⟩ q).setCell ⟨w.heap.size, 2, none⟩ x).setCell ⟨w.heap.size, 3, none⟩ u) (fun k => w.heap.size ≤ k ∧ TyA ((((w4.setCell ⟨w.heap.size, 0, none⟩ p).setCell ⟨w.heap.size, 1, none⟩ q).setCell ⟨w.heap.size, 2, none⟩ x).setCell ⟨w.heap.size, 3, none⟩ u) k) v as_ := by
  have hne : g ≠ w.heap.size := by omega
  refine ⟨set4 hbx p q x u, (((h4.setCell hne _).setCell hne _).setCell hne _).setCell hne _, (((hk.fresh (Nat.le_refl _) _ _).fresh (Nat.le_refl _) _ _).fresh (Nat.le_refl _) _ _).fresh (Nat.le_refl _) _ _, ?_⟩
  have hx : ∀ k, (m ≤ k ∧ TyA w4 k) → k ≠ w.heap.size := fun k hk => by have := hk.1; omega
  refine ((((hva.setCell hx _).setCell hx _).setCell hx _).setCell hx _).mono fun k hk _ => ⟨by have := hk.1; omega, ?_⟩
  obtain ⟨c, fz, hc⟩ := hk.2
  have hkn := hx k hk
  exact ⟨c, fz, by rw [Below.heap_setCell _ ⟨w.heap.size, 3, none⟩ _ _ hkn, Below.heap_setCell _ ⟨w.heap.size, 2, none⟩ _ _ hkn, Below.heap_setCell _ ⟨w.heap.size, 1, none⟩ _ _ hkn, Below.heap_setCell _ ⟨w.heap.size, 0, none⟩ _ _ hkn]; exact hc⟩
theorem rdA_nil_slice {w : World} {F : Nat → Prop} : RdA w F (.slice none 0 0) [] := Rd.nil _ _ _ _

set_option maxHeartbeats 4000000 in
theorem rdOp_any (g : Nat) (s : ByteArray) (l : List UInt8) (w : World) (hx : Txt g s l w) (hs : s.size ≤ 1099511627776) :
    Calls Tryz.prog 125 #[.pointer (some ⟨g, 0, none⟩)] w (OpPost g s (opM l) w) := by
  have hgw := hx.lt
  have hA : Below w.heap.size w (w.alloc (.cells #[.int .i64 0, .int .i64 0, .string ⟨#[]⟩, .slice none 0 0] 48)) := (Below.refl _ w).alloc (Nat.le_refl _) _
  have hbx : (w.alloc (.cells #[.int .i64 0, .int .i64 0, .string ⟨#[]⟩, .slice none 0 0] 48)).heap[w.heap.size]? = some (.cells #[.int .i64 0, .int .i64 0, .string ⟨#[]⟩, .slice none 0 0] 48 (0, 0)) := heap_alloc_new w _
  have hx0 := hx.pure hA
  have hk0 : KpG g w (w.alloc (.cells #[.int .i64 0, .int .i64 0, .string ⟨#[]⟩, .slice none 0 0] 48)) := KpG.pure hA
  have HBX := Lib.hid hbx; clear hbx hx hA
  go_enter Tryz.func125, Tryz.ntmps125
  go_wp2_with fail
  refine (must_any 32 g s l _ hx0 hs).mono ?_
  rintro e w1 (⟨t32, rfl, h1, k1⟩ | ⟨t32, rfl, k1⟩)
  case inr =>
    unfold wrongE
    refine ⟨rfl, ?_⟩
    unfold OpPost opM; rw [if_neg (by rw [t32]; simp)]
    exact ⟨rfl, hk0.trans k1⟩
  case inl =>
    have HM : Hid (opM l = if takeB 61 l.tail then opKeep l.tail.tail
      else if takeB 43 l.tail then opIns l.tail.tail
      else if takeB 45 l.tail then opDel l.tail.tail
      else .error l.tail.length) := Lib.hid (by unfold opM; rw [if_pos t32])
    clear t32
    have hk1 := hk0.trans k1
    have hbx1 := (k1.block _ (heap_lt HBX.out) (by omega)).trans HBX.out
    have HBX1 := Lib.hid hbx1; clear hbx1 k1 hk0 hx0 HBX
    cases t61 : takeB 61 l.tail with
    | true =>
      rw [if_pos t61] at HM
      go_wp2_with fail
      refine (take_any 61 g s l.tail _ h1 hs).mono ?_
      rw [t61]
      rintro e w2 ⟨rfl, h2, k2⟩
      have h2' : Txt g s l.tail.tail w2 := by simpa using h2
      have hk2 := hk1.trans k2
      have hbx2 := (k2.block _ (heap_lt HBX1.out) (by omega)).trans HBX1.out
      have HBX2 := Lib.hid hbx2; clear hbx2 h2 t61
      go_wp2_with fail
      refine (number_any g s l.tail.tail _ h2' hs).mono ?_
      intro e w3 hp
      cases hn : numberM l.tail.tail with
      | error k =>
        unfold RdPost at hp; rw [hn] at hp
        obtain ⟨rfl, k3⟩ := hp
        unfold wrongE
        refine ⟨rfl, ?_⟩
        unfold OpPost; rw [HM.out]; unfold opKeep; rw [hn]; exact ⟨rfl, hk2.trans k3⟩
      | ok p =>
        obtain ⟨n, r⟩ := p
        unfold RdPost at hp; rw [hn] at hp
        obtain ⟨rfl, h3, k3⟩ := hp
        have hk3 := hk2.trans k3
        have hbx3 := (k3.block _ (heap_lt HBX2.out) (by omega)).trans HBX2.out
        have HBX3 := Lib.hid hbx3; clear hbx3
        unfold intV
        go_wp2_with fail
        refine (rdAttrs_any g s r _ h3 hs).mono ?_
        intro e w4 hp
        cases ha : attrsM r with
        | error k =>
          unfold AttrPost at hp; rw [ha] at hp
          obtain ⟨rfl, k4⟩ := hp
          unfold wrongE
          refine ⟨rfl, ?_⟩
          unfold OpPost; rw [HM.out]; unfold opKeep; rw [hn]; simp only; rw [ha]; exact ⟨rfl, hk3.trans k4⟩
        | ok p =>
          obtain ⟨as_, r2⟩ := p
          unfold AttrPost at hp; rw [ha] at hp
          obtain ⟨va, rfl, hva, h4, k4⟩ := hp
          have hk4 := hk3.trans k4
          have hw3 : w.heap.size < w3.heap.size := heap_lt HBX3.out
          have hbx4 := (k4.block _ (heap_lt HBX3.out) (by omega)).trans HBX3.out
          have hR : opM l = .ok (⟨1, n, ⟨#[]⟩, as_⟩, r2) := by rw [HM.out]; unfold opKeep; rw [hn]; simp only; rw [ha]
          have HR := Lib.hid hR; clear hR HM hn ha
          obtain ⟨b0, b1, b2, b3⟩ := box4 hbx4
          have f0 := froz_heap hbx4 0; have f1 := froz_heap hbx4 1; have f2 := froz_heap hbx4 2; have f3 := froz_heap hbx4 3
          have HBX4 := Lib.hid hbx4; clear hbx4
          obtain ⟨AV, capv, rfl, _⟩ := hva.open_
          go_wp2_with fail
          obtain ⟨x0, x1, x2, x3⟩ := op_fin hw3 hgw HBX4.out h4 hk4 hva (.int .i64 1) (.int .i64 n) (.string ⟨#[]⟩) (.slice AV as_.length capv)
          obtain ⟨q0, q1, q2, q3⟩ := box4 x0
          refine bodyPost_ret (v := opV ⟨1, n, ⟨#[]⟩, as_⟩ (.slice AV as_.length capv)) (by simp [results, Tryz.results125, go_sem, q0, q1, q2, q3, opV]) rfl ?_
          unfold OpPost; rw [HR.out]
          exact ⟨_, rfl, x3, Nat.zero_le _, x1, x2⟩
    | false =>
      rw [if_neg (by rw [t61]; simp)] at HM
      go_wp2_with fail
      refine (take_any 61 g s l.tail _ h1 hs).mono ?_
      rw [t61]
      rintro e w2 ⟨rfl, h2, k2⟩
      have h2' : Txt g s l.tail w2 := by simpa using h2
      have hk2 := hk1.trans k2
      have hbx2 := (k2.block _ (heap_lt HBX1.out) (by omega)).trans HBX1.out
      have HBX2 := Lib.hid hbx2; clear hbx2 h2 t61
      cases t43 : takeB 43 l.tail with
      | true =>
        rw [if_pos t43] at HM
        go_wp2_with fail
        refine (take_any 43 g s l.tail _ h2' hs).mono ?_
        rw [t43]
        rintro e w2b ⟨rfl, h2b, k2b⟩
        have h2c : Txt g s l.tail.tail w2b := by simpa using h2b
        have hk2b := hk2.trans k2b
        have hbx2b := (k2b.block _ (heap_lt HBX2.out) (by omega)).trans HBX2.out
        have HBX2b := Lib.hid hbx2b; clear hbx2b h2b t43
        go_wp2_with fail
        refine (rdQuoted_any g s l.tail.tail _ h2c hs).mono ?_
        intro e w3 hp
        cases hn : quotedM l.tail.tail with
        | error k =>
          unfold RdPost at hp; rw [hn] at hp
          obtain ⟨rfl, k3⟩ := hp
          unfold wrongE
          refine ⟨rfl, ?_⟩
          unfold OpPost; rw [HM.out]; unfold opIns; rw [hn]; exact ⟨rfl, hk2b.trans k3⟩
        | ok p =>
          obtain ⟨d, r⟩ := p
          unfold RdPost at hp; rw [hn] at hp
          obtain ⟨rfl, h3, k3⟩ := hp
          have hk3 := hk2b.trans k3
          have hbx3 := (k3.block _ (heap_lt HBX2b.out) (by omega)).trans HBX2b.out
          have HBX3 := Lib.hid hbx3; clear hbx3
          unfold strV
          go_wp2_with fail
          refine (rdAttrs_any g s r _ h3 hs).mono ?_
          intro e w4 hp
          cases ha : attrsM r with
          | error k =>
            unfold AttrPost at hp; rw [ha] at hp
            obtain ⟨rfl, k4⟩ := hp
            unfold wrongE
            refine ⟨rfl, ?_⟩
            unfold OpPost; rw [HM.out]; unfold opIns; rw [hn]; simp only; rw [ha]; exact ⟨rfl, hk3.trans k4⟩
          | ok p =>
            obtain ⟨as_, r2⟩ := p
            unfold AttrPost at hp; rw [ha] at hp
            obtain ⟨va, rfl, hva, h4, k4⟩ := hp
            have hk4 := hk3.trans k4
            have hw3 : w.heap.size < w3.heap.size := heap_lt HBX3.out
            have hbx4 := (k4.block _ (heap_lt HBX3.out) (by omega)).trans HBX3.out
            have hdsz : (mkB d).size ≤ s.size := by
              have q1 := quotedM_len hn
              obtain ⟨a, y1, y2, y3⟩ := h2c.len
              have : (mkB d).size = d.length := sz_mk d
              omega
            have hR : opM l = .ok (⟨2, 0, mkB d, as_⟩, r2) := by rw [HM.out]; unfold opIns; rw [hn]; simp only; rw [ha]
            have HR := Lib.hid hR; clear hR HM hn ha
            obtain ⟨b0, b1, b2, b3⟩ := box4 hbx4
            have f0 := froz_heap hbx4 0; have f1 := froz_heap hbx4 1; have f2 := froz_heap hbx4 2; have f3 := froz_heap hbx4 3
            have HBX4 := Lib.hid hbx4; clear hbx4
            obtain ⟨AV, capv, rfl, _⟩ := hva.open_
            go_wp2_with fail
            obtain ⟨x0, x1, x2, x3⟩ := op_fin hw3 hgw HBX4.out h4 hk4 hva (.int .i64 2) (.int .i64 0) (.string ⟨d.toArray⟩) (.slice AV as_.length capv)
            obtain ⟨q0, q1, q2, q3⟩ := box4 x0
            refine bodyPost_ret (v := opV ⟨2, 0, mkB d, as_⟩ (.slice AV as_.length capv)) (by simp [results, Tryz.results125, go_sem, q0, q1, q2, q3, opV, mkB]) rfl ?_
            unfold OpPost; rw [HR.out]
            exact ⟨_, rfl, x3, hdsz, x1, x2⟩
      | false =>
        rw [if_neg (by rw [t43]; simp)] at HM
        go_wp2_with fail
        refine (take_any 43 g s l.tail _ h2' hs).mono ?_
        rw [t43]
        rintro e w2b ⟨rfl, h2b, k2b⟩
        have h2c : Txt g s l.tail w2b := by simpa using h2b
        have hk2b := hk2.trans k2b
        have hbx2b := (k2b.block _ (heap_lt HBX2.out) (by omega)).trans HBX2.out
        have HBX2b := Lib.hid hbx2b; clear hbx2b h2b t43
        go_wp2_with fail
        refine (must_any 45 g s l.tail _ h2c hs).mono ?_
        rintro e w2d (⟨t45, rfl, h2d, k2d⟩ | ⟨t45, rfl, k2d⟩)
        case inr =>
          unfold wrongE
          refine ⟨rfl, ?_⟩
          unfold OpPost; rw [HM.out, if_neg (by rw [t45]; simp)]
          exact ⟨rfl, hk2b.trans k2d⟩
        case inl =>
          rw [if_pos t45] at HM
          have hk2d := hk2b.trans k2d
          have hbx2d := (k2d.block _ (heap_lt HBX2b.out) (by omega)).trans HBX2b.out
          have HBX2d := Lib.hid hbx2d; clear hbx2d t45
          go_wp2_with fail
          refine (number_any g s l.tail.tail _ h2d hs).mono ?_
          intro e w3 hp
          cases hn : numberM l.tail.tail with
          | error k =>
            unfold RdPost at hp; rw [hn] at hp
            obtain ⟨rfl, k3⟩ := hp
            unfold wrongE
            refine ⟨rfl, ?_⟩
            unfold OpPost; rw [HM.out]; unfold opDel; rw [hn]; exact ⟨rfl, hk2d.trans k3⟩
          | ok p =>
            obtain ⟨n, r⟩ := p
            unfold RdPost at hp; rw [hn] at hp
            obtain ⟨rfl, h4, k3⟩ := hp
            have hk4 := hk2d.trans k3
            have hw3 : w.heap.size < w2d.heap.size := heap_lt HBX2d.out
            have hbx4 := (k3.block _ (heap_lt HBX2d.out) (by omega)).trans HBX2d.out
            have hR : opM l = .ok (⟨3, n, ⟨#[]⟩, []⟩, r) := by rw [HM.out]; unfold opDel; rw [hn]
            have HR := Lib.hid hR; clear hR HM hn
            obtain ⟨b0, b1, b2, b3⟩ := box4 hbx4
            have f0 := froz_heap hbx4 0; have f1 := froz_heap hbx4 1; have f2 := froz_heap hbx4 2; have f3 := froz_heap hbx4 3
            have HBX4 := Lib.hid hbx4; clear hbx4
            unfold intV
            go_wp2_with fail
            obtain ⟨x0, x1, x2, x3⟩ := op_fin hw3 hgw HBX4.out h4 hk4 (rdA_nil_slice (F := fun k => w2d.heap.size ≤ k ∧ TyA w3 k)) (.int .i64 3) (.int .i64 n) (.string ⟨#[]⟩) (.slice none 0 0)
            obtain ⟨q0, q1, q2, q3⟩ := box4 x0
            refine bodyPost_ret (v := opV ⟨3, n, ⟨#[]⟩, []⟩ (.slice none 0 0)) (by simp [results, Tryz.results125, go_sem, q0, q1, q2, q3, opV]) rfl ?_
            unfold OpPost; rw [HR.out]
            exact ⟨_, rfl, x3, Nat.zero_le _, x1, x2⟩
end Go.Proofs.YtdpmjlkmjmookaaGreatDoor
