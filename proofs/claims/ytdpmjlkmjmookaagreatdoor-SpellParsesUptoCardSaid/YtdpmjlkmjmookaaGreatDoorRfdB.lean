/-
  The references' reader: a text in quotes (quoted), walked.
  The references' reader: the attributes (attrs), walked.
  The references' reader: an operation (op), walked.
-/
import Derived.Test.YtdpmjlkmjmookaaGreatDoorRfdA
import Derived.Test.YtdpmjlkmjmookaaGreatDoorRdb
import Derived.Test.YtdpmjlkmjmookaaGreatDoorAppS
import Derived.Test.YtdpmjlkmjmookaaGreatDoorRefGInv
namespace Go.Proofs.YtdpmjlkmjmookaaGreatDoor
section
set_option linter.unusedVariables false
set_option linter.unusedSimpArgs false
open Go.RowKit Go.PlainAid

theorem convNil (W : World) : (convert 92 9 (.slice none 0 0)).run Tryz.prog W = .ok (.string ⟨#[]⟩) W := by kernel_rfl
/-- a row of bytes of one's own, as a string -/
theorem conv_BR {W : World} {lo : Nat} {v : Value} {l : List UInt8} (h : BR W lo v l) : (convert 92 9 v).run Tryz.prog W = .ok (.string ⟨l.toArray⟩) W := by
  rcases h.2 with ⟨hv, h0⟩ | ⟨g, cap, cur, hv, _⟩
  · have hl : l = [] := List.eq_nil_of_length_eq_zero h0
    subst hl hv
    exact convNil W
  · subst hv
    refine run_convert_bytes_back (P := Tryz.prog) W 92 9 5 ⟨g, 0, none⟩ cap l Tryz.underlying92 Tryz.underlying5 Tryz.underlying9 (fun j hj => ?_)
    have := World.ownsRow.cellAt h j (by omega)
    rw [Addr.add_lit, Nat.zero_add, this, List.getElem?_map, List.getElem?_eq_getElem hj]; rfl
theorem BR.form {W : World} {lo : Nat} {v : Value} {l : List UInt8} (h : BR W lo v l) : ∃ A cap, v = .slice A l.length cap := ownF h
theorem BR.kpG {w w1 : World} {base g : Nat} {v : Value} {l : List UInt8} (h : BR w base v l) (hb : KpG g w w1) (hg : g < base) : BR w1 base v l := own_kpG h hb hg

/-- what the loop holds -/
def QdRel (g : Nat) (s : ByteArray) (l : List UInt8) (w : World) (gm : Nat) (v : Value) (wr : World) : Prop :=
  ∃ (q : Nat) (acc : List UInt8), q = gm ∧ BR wr w.heap.size v acc ∧ acc.length ≤ s.size ∧ KpG g w wr ∧ (∃ A n cap, v = .slice A n cap) ∧
    ((∃ r n, RTx g s r wr ∧ r.length + 1 ≤ gm ∧ quotedM l = pushR acc (strF n r) ∧ r.length < n ∧ acc.length + r.length ≤ s.size) ∨ (∃ k, RBad g s k wr ∧ quotedM l = .error k))

set_option maxRecDepth 100000 in
set_option maxHeartbeats 8000000 in
theorem rquoted_any (g : Nat) (s : ByteArray) (l : List UInt8) (w : World) (hx : RTx g s l w) (hs : s.size ≤ 1099511627776) :
    Calls Tryz.prog 87 #[.pointer (some ⟨g, 0, none⟩)] w (RRd g s strV (fun v => v = .string ⟨#[]⟩) (quotedM l) w) := by
  have HX := Lib.hid hx
  have hgw := hx.lt
  have hls := hx.left
  clear hx
  obtain ⟨i0, hi, hz0, hz1, hz2⟩ := info_parts infoB
  go_enter Tryz.func87, Tryz.ntmps87
  go_wp2_with fail
  refine (rmust_any 34 (by decide) g s l _ HX.out hs).mono ?_
  rintro e w1 ⟨rfl, k1, hm⟩
  have HST := Lib.hid (show QdRel g s l w (s.size + 1) (.slice none 0 0) w1 from by
    refine ⟨_, [], rfl, World.ownsRow_nil _ _ _ _, by simp, k1, ⟨_, _, _, rfl⟩, ?_⟩
    rcases hm with ⟨t34, h1⟩ | ⟨t34, h1⟩
    · have hQ : quotedM l = strF l.length l.tail := by unfold quotedM; rw [if_pos t34]
      have hlen : l.tail.length < l.length := by
        obtain ⟨r, rfl⟩ := (takeB_iff _ _).1 t34; simp
      exact .inl ⟨l.tail, l.length, h1, by have := h1.left; omega, by rw [pushR_nil]; exact hQ, hlen, by have := h1.left; simpa using this⟩
    · exact .inr ⟨l.length, h1, by unfold quotedM; rw [if_neg (by rw [t34]; simp)]⟩)
  clear hm k1
  go_wp2_with fail
  go_loopg [3] (s.size + 1) (fun gm v wr => QdRel g s l w gm v wr)
  case atStart => exact HST.out
  case round =>
    clear HST
    obtain ⟨gm, acc, hgm0, hbr, hal, hk, ⟨A, n0, cap, rfl⟩, hcase⟩ := hrel
    have HG0 := Lib.hid hgm0
    rw [← hgm0] at hcase
    clear hgm0
    have HBR := Lib.hid hbr; have HK := Lib.hid hk
    have hsz := hk.size
    clear hbr hk
    rcases hcase with ⟨r, n, hr, hgm, hq, hrn, hacc⟩ | ⟨k, hb, hq⟩
    case inr =>
      have HB := Lib.hid hb
      have HQ := Lib.hid hq
      obtain ⟨hk, a, ha, h3⟩ := hb
      obtain ⟨c0, c1, c2⟩ := box3 h3
      obtain ⟨m, hm⟩ : ∃ m : Nat, (s.size : Int) - (k : Int) = (m : Int) := ⟨s.size - k, by omega⟩
      rw [hm] at c2
      have hd : decide ((m : Int) < 0) = false := by simp
      clear h3 hm hq
      go_wp2
      go_ret
      unfold RRd; rw [HQ.out]
      exact ⟨⟨_, rfl, rfl⟩, HB.out, HK.out⟩
    case inl =>
      have HQ := Lib.hid hq; clear hq
      have HR := Lib.hid hr
      obtain ⟨a, ha, hra, h3⟩ := hr
      have HRA := Lib.hid hra
      have hrl : r.length = s.size - a := by rw [hra, drop_len]
      obtain ⟨c0, c1, c2⟩ := box3 h3
      have f1 := froz_heap h3 1
      have hgl := heap_lt h3
      have H3 := Lib.hid h3
      clear hra h3
      obtain ⟨c, hc⟩ : ∃ c, hd0 r = c := ⟨_, rfl⟩
      have HC := Lib.hid hc
      have HNX := Lib.hid (fun (W : World) (h : RTx g s r W) => rnext_any g s r W h hs)
      rw [hc] at HNX
      have t34 := hd0_take (c := 34) (l := r) (by decide)
      have q34 := u8_eqb c 34; have q92 := u8_neb c 92
      rw [hc] at t34
      rw [← t34] at q34
      simp only [show ((34 : UInt8).toNat : Int) = 34 from rfl] at q34
      simp only [show ((92 : UInt8).toNat : Int) = 92 from rfl] at q92
      have hct := ctl_iff c
      clear hc t34
      obtain ⟨m, rfl⟩ : ∃ m, n = m + 1 := ⟨n - 1, by omega⟩
      cases t34 : takeB 34 r with
      | true =>
        rw [t34] at q34
        obtain ⟨r', hr'⟩ := (takeB_iff _ _).1 t34
        have hR : quotedM l = .ok (acc, r') := by rw [HQ.out, hr']; simp [strF, pushR]
        have HRR := Lib.hid hR
        have halt : a < s.size := by have := congrArg List.length hr'; simp at this; omega
        have hrt := Lib.hid (show r' = s.data.toList.drop (a + 1) by have := Txt.tail (g := 0) (w := w) HRA.out; rw [hr'] at this; exact this)
        have hW : ∀ n, KpG g w ((wr.drewN n).setCell ⟨g, 1, none⟩ (.int .i64 ((a : Int) + 1))) := fun n => (HK.out.drewN _).setCell (p := ⟨g, 1, none⟩) (.inl rfl) _
        have hcv : ∀ n, (convert 92 9 (.slice A n0 cap)).run Tryz.prog ((wr.drewN n).setCell ⟨g, 1, none⟩ (.int .i64 ((a : Int) + 1))) = .ok (.string ⟨acc.toArray⟩) ((wr.drewN n).setCell ⟨g, 1, none⟩ (.int .i64 ((a : Int) + 1))) := fun n =>
          conv_BR (HBR.out.kpG (((Kp.refl (fun k => k = g) wr).drewN n).setCell (p := ⟨g, 1, none⟩) (.inl rfl) (.int .i64 ((a : Int) + 1))) hgw)
        have HW := Lib.hid hW
        clear hR hr' hW hct q92 t34
        go_wp2_with fail
        refine (HNX.out _ HR.out).mono ?_
        rintro e w2 ⟨rfl, n1, rfl⟩
        have hcv1 := hcv n1
        clear hcv
        go_wp2
        go_ret
        unfold RRd; rw [HRR.out]
        exact ⟨rfl, ⟨a + 1, halt, hrt.out, set_heap1' H3.out _⟩, HW.out _⟩
      | false =>
        rw [t34] at q34
        cases hcc : ctl c with
        | true =>
          rw [hcc] at hct
          have hE : quotedM l = .error r.length := by
            rw [HQ.out]
            cases hrc : r with
            | nil => simp [strF, pushR]
            | cons c' r' =>
              have : c' = c := by rw [← HC.out, hrc]; rfl
              subst this
              have h34 : c' ≠ 34 := by rintro rfl; rw [hrc] at t34; simp [takeB] at t34
              simp [strF, h34, hcc, pushR]
          have HE := Lib.hid hE
          clear hE
          by_cases hlt : c.toNat < 32
          case' pos =>
            have hd : decide ((c.toNat : Int) < 32) = true := by simp; omega
          case' neg =>
            have hd : decide ((c.toNat : Int) < 32) = false := by simp; omega
            have h127 : ((c.toNat : Int) == 127) = true := by rw [hd] at hct; simpa using hct.symm
          all_goals
            clear hct hcc hlt q92 t34
            go_wp2_with fail
            refine (HNX.out _ HR.out).mono ?_
            rintro e w2 ⟨rfl, n1, rfl⟩
            go_wp2_with fail
            refine (rbad_good g s r r.length _ (HR.out.drewN _) HR.out.left _ ?_ hs).mono ?_
            · omega
            rintro e w3 ⟨rfl, q3, k3⟩
            have hN := Lib.hid (show QdRel g s l w (gm - 1) (.slice A n0 cap) w3 from
              ⟨_, acc, rfl, HBR.out.kpG (((Kp.refl (fun k => k = g) wr).drewN n1).trans k3) hgw, hal, (HK.out.drewN _).trans k3, ⟨_, _, _, rfl⟩, .inr ⟨r.length, q3, HE.out⟩⟩)
            clear q3 k3
            go_wp2
            go_roundg (gm - 1)
            case measure => have := HG0.out; omega
            case rel => exact hN.out
        | false =>
          rw [hcc] at hct
          have hd : decide ((c.toNat : Int) < 32) = false := by
            cases h : decide ((c.toNat : Int) < 32) with
            | true => rw [h] at hct; simp at hct
            | false => rfl
          have h127 : ((c.toNat : Int) == 127) = false := by rw [hd] at hct; simpa using hct.symm
          have hcons : ∃ r', r = c :: r' := by
            cases hrc : r with
            | nil => have := HC.out; rw [hrc] at this; subst this; simp [hd0, ctl] at hcc
            | cons c' r' => exact ⟨r', by have := HC.out; rw [hrc] at this; rw [← this]; rfl⟩
          obtain ⟨r', hr'⟩ := hcons
          have hrl' : r.length = r'.length + 1 := by rw [hr']; rfl
          have halt : a < s.size := by omega
          have hrt := Lib.hid (show r' = s.data.toList.drop (a + 1) by have := Txt.tail (g := 0) (w := w) HRA.out; rw [hr'] at this; exact this)
          have hne34 : c ≠ 34 := by rintro rfl; rw [hr'] at t34; simp [takeB] at t34
          have HRC := Lib.hid hr'
          have HCC := Lib.hid hcc
          clear hct hcc t34 hr'
          by_cases h92 : c = 92
          · have f92 : ((c.toNat : Int) != 92) = false := by subst h92; rfl
            have hS : quotedM l = pushR acc (match escM r' with
                | .error k => .error k
                | .ok (b, r2) => match strF m r2 with
                  | .error k => .error k
                  | .ok (d, r3) => .ok (b :: d, r3)) := by rw [HQ.out, HRC.out]; simp only [strF]; rw [if_neg hne34, HCC.out, if_neg (by simp), if_pos h92]; rfl
            have HS := Lib.hid hS
            clear hS h92 q92 hne34
            go_wp2_with fail
            refine (HNX.out _ HR.out).mono ?_
            rintro e w2 ⟨rfl, n1, rfl⟩
            have hK2 := ((Kp.refl (fun k => k = g) wr).drewN n1).setCell (p := ⟨g, 1, none⟩) (.inl rfl) (.int .i64 ((a : Int) + 1))
            have HT2 := Lib.hid (show RTx g s r' ((wr.drewN n1).setCell ⟨g, 1, none⟩ (.int .i64 ((a : Int) + 1))) from ⟨a + 1, halt, hrt.out, set_heap1' H3.out _⟩)
            have HK2 := Lib.hid hK2
            clear hK2
            go_wp2_with fail
            refine (rbehind_any g s r' _ HT2.out (by omega) hs).mono ?_
            intro e w3 hp
            have hp2 : ∃ b : UInt8, e = .returned (byteV b) ∧ KpG g ((wr.drewN n1).setCell ⟨g, 1, none⟩ (.int .i64 ((a : Int) + 1))) w3 ∧
                ((∃ r2, escM r' = .ok (b, r2) ∧ RTx g s r2 w3) ∨ (∃ k, escM r' = .error k ∧ RBad g s k w3)) := by
              unfold RRd at hp
              cases he : escM r' with
              | error k =>
                rw [he] at hp
                obtain ⟨⟨v, ⟨b, rfl⟩, rfl⟩, q, k3⟩ := hp
                exact ⟨b, rfl, k3, .inr ⟨k, rfl, q⟩⟩
              | ok p =>
                obtain ⟨b, r2⟩ := p
                rw [he] at hp
                obtain ⟨rfl, q, k3⟩ := hp
                exact ⟨b, rfl, k3, .inl ⟨r2, rfl, q⟩⟩
            obtain ⟨b, rfl, k3, hres⟩ := hp2
            have HK3 := Lib.hid (HK2.out.trans k3)
            have HRES := Lib.hid hres
            have HBR3 := Lib.hid (HBR.out.kpG HK3.out hgw)
            have hsz3 := HK3.out.size
            clear hp k3 hres c0 c1 c2 f1
            unfold byteV
            go_wp2_with (first | (at_builtin; refine wpList_append_own _ rfl _ _ 92 rfl w.heap.size 5 i0 (.int .u8 0) 1 1 Tryz.underlying92 hi hz0 hz1 hz2 rfl (by decide) (.slice A n0 cap) acc.length (acc.map bv) rfl (by exact HBR3.out.alloc _) ⟨w3.heap.size, 0, none⟩ 1 1 [.int .u8 (b.toNat : Int)] rfl rfl (World.news_of_block (cs := #[.int .u8 (b.toNat : Int)]) (t := 5) (fr := (0, 0)) (heap_alloc_new w3 _)) (by simp [Value.oneCell']) (by unfold maxLen; omega) (by omega) (by simp; omega) ?_) | fail)
            intro v' w4 hown hgrow _
            obtain ⟨A4, cap4, rfl⟩ := ownF hown
            have hlo : ∀ q, (Value.slice A n0 cap).ownBlock = some q → w.heap.size ≤ q := fun q hq => (HBR.out.lt q hq).1
            have hg4 : ∀ q, q < w.heap.size → w4.heap[q]? = w3.heap[q]? := fun q hq => (hgrow.block q (by simp; omega) (fun e => by have := hlo q e.symm; omega)).trans (Below.heap_alloc w3 _ q (by omega))
            have hK4 : KpG g w w4 := ((HK.out.trans HK3.out).alloc _).grown hgrow (fun q hq => .inr (hlo q hq))
            have hN := Lib.hid (show QdRel g s l w (gm - 1) (.slice A4 (acc.length + 1) cap4) w4 from by
              refine ⟨_, acc ++ [b], rfl, BR.push (l := acc) (m := [b]) (n := 1) rfl hown, by simp; omega, hK4, ⟨_, _, _, rfl⟩, ?_⟩
              rcases HRES.out with ⟨r2, he, q⟩ | ⟨k, he, q⟩
              · have hel := escM_len he
                refine .inl ⟨r2, m, q.agree (hg4 g hgw), by omega, ?_, by omega, by simp; omega⟩
                rw [HS.out, he]
                dsimp only
                cases strF m r2 <;> simp [pushR]
              · exact .inr ⟨k, q.agree (hg4 g hgw), by rw [HS.out, he]; rfl⟩)
            clear hown hgrow hlo hg4 hK4
            go_wp2
            go_roundg (gm - 1)
            case measure => have := HG0.out; omega
            case rel => exact hN.out
          · have f92 : ((c.toNat : Int) != 92) = true := by rw [q92]; simpa using h92
            have hS : quotedM l = pushR acc (match strF m r' with
                  | .error k => .error k
                  | .ok (d, r3) => .ok (c :: d, r3)) := by rw [HQ.out, HRC.out]; simp only [strF]; rw [if_neg hne34, HCC.out, if_neg (by simp), if_neg h92]; rfl
            have HS := Lib.hid hS
            clear hS h92 q92 hne34
            go_wp2_with fail
            refine (HNX.out _ HR.out).mono ?_
            rintro e w2 ⟨rfl, n1, rfl⟩
            have HBR2 := Lib.hid (show BR (wr.drewN n1) w.heap.size (.slice A n0 cap) acc from own_agree HBR.out (fun _ _ => rfl))
            go_wp2_with (first | (at_builtin; refine wpList_append_own _ rfl _ _ 92 rfl w.heap.size 5 i0 (.int .u8 0) 1 1 Tryz.underlying92 hi hz0 hz1 hz2 rfl (by decide) (.slice A n0 cap) acc.length (acc.map bv) rfl (by exact HBR2.out.alloc _) ⟨wr.heap.size, 0, none⟩ 1 1 [.int .u8 (c.toNat : Int)] rfl rfl (World.news_of_block (cs := #[.int .u8 (c.toNat : Int)]) (t := 5) (fr := (0, 0)) (heap_alloc_new (wr.drewN n1) _)) (by simp [Value.oneCell']) (by unfold maxLen; omega) (by omega) (by simp; omega) ?_) | fail)
            intro v' w4 hown hgrow _
            obtain ⟨A4, cap4, rfl⟩ := ownF hown
            have hlo : ∀ q, (Value.slice A n0 cap).ownBlock = some q → w.heap.size ≤ q := fun q hq => (HBR.out.lt q hq).1
            have h34 : w4.heap[g]? = _ := ((hgrow.block g (by simp; omega) (fun e => by have := hlo g e.symm; omega)).trans (Below.heap_alloc (wr.drewN n1) _ g hgl)).trans H3.out
            have hK4 : KpG g w w4 := ((HK.out.drewN n1).alloc _).grown hgrow (fun q hq => .inr (hlo q hq))
            obtain ⟨x0, x1, x2⟩ := box3 h34
            have y1 := froz_heap h34 1
            have hgl4 := heap_lt h34
            have hN := Lib.hid (show QdRel g s l w (gm - 1) (.slice A4 (acc.length + 1) cap4) (w4.setCell ⟨g, 1, none⟩ (.int .i64 ((a : Int) + 1))) from by
              refine ⟨_, acc ++ [c], rfl, BR.kpG (BR.push (l := acc) (m := [c]) (n := 1) rfl hown) ((Kp.refl (fun k => k = g) w4).setCell (p := ⟨g, 1, none⟩) (.inl rfl) _) hgw, by simp; omega, hK4.setCell (p := ⟨g, 1, none⟩) (.inl rfl) _, ⟨_, _, _, rfl⟩, .inl ⟨r', m, ⟨a + 1, halt, hrt.out, set_heap1' h34 _⟩, by omega, ?_, by omega, by simp; omega⟩⟩
              rw [HS.out]
              cases strF m r' <;> simp [pushR])
            clear hown hgrow hlo h34 hK4
            go_wp2
            go_roundg (gm - 1)
            case measure => have := HG0.out; omega
            case rel => exact hN.out
end

section
set_option linter.unusedVariables false
set_option linter.unusedSimpArgs false
open Go.RowKit Go.PlainAid

set_option maxHeartbeats 2000000 in
theorem rplain_any (u : UInt8) (w : World) :
    Calls Tryz.prog 172 #[.int .u8 u.toNat] w fun e w' => e = .returned (.bool (isKey u)) ∧ w' = w := by
  have f7 : ((u.toNat : Int) == 45) = decide (u.toNat = 45) := by
    by_cases h : u.toNat = 45
    · simp [h]
    · simp [h]; omega
  have f8 : ((u.toNat : Int) == 95) = decide (u.toNat = 95) := by
    by_cases h : u.toNat = 95
    · simp [h]
    · simp [h]; omega
  by_cases a1 : 97 ≤ u.toNat <;> by_cases a2 : u.toNat ≤ 122 <;> by_cases a3 : 65 ≤ u.toNat <;> by_cases a4 : u.toNat ≤ 90 <;> by_cases a5 : 48 ≤ u.toNat <;> by_cases a6 : u.toNat ≤ 57 <;> by_cases a7 : u.toNat = 45 <;> by_cases a8 : u.toNat = 95 <;> first | omega | skip
  all_goals
    have hk : ∃ b, isKey u = b := ⟨_, rfl⟩
    obtain ⟨b, hb⟩ := hk
    have HB := Lib.hid hb
    simp only [isKey, a1, a2, a3, a4, a5, a6, a7, a8, decide_true, decide_false, Bool.true_and, Bool.false_and, Bool.and_true, Bool.and_false, Bool.or_true, Bool.or_false, Bool.true_or, Bool.false_or] at hb
    subst hb
    rw [HB.out]
    clear HB
    simp only [a7, a8, decide_true, decide_false] at f7 f8
    have b1 : decide ((97 : Int) ≤ (u.toNat : Int)) = decide (97 ≤ u.toNat) := by simp; omega
    have b2 : decide ((u.toNat : Int) ≤ 122) = decide (u.toNat ≤ 122) := by simp; omega
    have b3 : decide ((65 : Int) ≤ (u.toNat : Int)) = decide (65 ≤ u.toNat) := by simp; omega
    have b4 : decide ((u.toNat : Int) ≤ 90) = decide (u.toNat ≤ 90) := by simp; omega
    have b5 : decide ((48 : Int) ≤ (u.toNat : Int)) = decide (48 ≤ u.toNat) := by simp; omega
    have b6 : decide ((u.toNat : Int) ≤ 57) = decide (u.toNat ≤ 57) := by simp; omega
    simp only [a1, a2, a3, a4, a5, a6, decide_true, decide_false] at b1 b2 b3 b4 b5 b6
    have HA7 := Lib.hid a7; have HA8 := Lib.hid a8
    clear a7 a8
    go_enter Tryz.func172, Tryz.ntmps172
    go_wp2
    all_goals
     go_ret
     exact ⟨by first | rfl | (simp [b1, b2, b3, b4, b5, b6, f7, f8]; done) | (simp [b1, b2, b3, b4, b5, b6, f7, f8]; have := HA7.out; have := HA8.out; omega), rfl⟩
/-- in the bad state: no text in quotes -/
theorem rquoted_bad (g k : Nat) (s : ByteArray) (w : World) (hx : RBad g s k w) (hs : s.size ≤ 1099511627776) :
    Calls Tryz.prog 87 #[.pointer (some ⟨g, 0, none⟩)] w fun e w' => e = .returned (.string ⟨#[]⟩) ∧ ∃ n, w' = w.drewN n := by
  have HX := Lib.hid hx
  obtain ⟨hk, a, ha, h3⟩ := hx
  obtain ⟨m, hm⟩ : ∃ m : Nat, (s.size : Int) - (k : Int) = (m : Int) := ⟨s.size - k, by omega⟩
  have H3 := Lib.hid h3
  have hd : decide ((m : Int) < 0) = false := by simp
  clear h3
  go_enter Tryz.func87, Tryz.ntmps87
  go_wp2_with fail
  refine (rmust_bad 34 (by decide) g k s _ HX.out hs).mono ?_
  rintro e w1 ⟨rfl, n, rfl⟩
  have h3 := H3.out
  rw [hm] at h3
  obtain ⟨c0, c1, c2⟩ := box3 h3
  clear h3 hm
  go_wp2
  go_loopw [3] (fun v wr => v = .slice none 0 0 ∧ wr = w.drewN n) (fun _ _ => 0)
  case atStart => exact ⟨rfl, rfl⟩
  case round =>
    obtain ⟨rfl, rfl⟩ := hrel
    go_wp2
    go_ret
    exact ⟨rfl, _, rfl⟩
theorem cellsA_one2 (a : At) : ∀ u ∈ cellsA a, u.oneCell' = true := by
  intro u hu; simp [cellsA] at hu; rcases hu with rfl | rfl <;> rfl
def restM (m : Nat) (K V : ByteArray) (r2 : List UInt8) : Except Nat (List At × List UInt8) :=
  if takeB 125 r2 then .ok ([⟨K, V⟩], r2.tail) else if takeB 44 r2 then match attrsF m r2.tail with
    | .error k => .error k
    | .ok (more, r3) => .ok (⟨K, V⟩ :: more, r3)
  else .error r2.length
def RAttrPost (g : Nat) (s : ByteArray) (r : Except Nat (List At × List UInt8)) (w : World) (e : Ending) (w' : World) : Prop :=
  match r with
  | .ok (x, l) => ∃ v, e = .returned v ∧ RdA w' (fun k => w.heap.size ≤ k ∧ TyA w' k) v x ∧ RTx g s l w' ∧ KpG g w w'
  | .error k => e = .returned (.slice none 0 0) ∧ RBad g s k w' ∧ KpG g w w'
/-- what the outer loop holds -/
def AtRel (g : Nat) (s : ByteArray) (l : List UInt8) (w : World) (gm : Nat) (v : Value) (wr : World) : Prop :=
  ∃ (q : Nat) (acc : List At), q = gm ∧ wr.ownsRow w.heap.size 89 2 v acc.length (flat cellsA acc) ∧ acc.length ≤ s.size ∧ KpG g w wr ∧ (∃ A n cap, v = .slice A n cap) ∧ (∀ a ∈ acc, a.k.size ≤ s.size ∧ a.v.size ≤ s.size) ∧
    ((∃ r n, RTx g s r wr ∧ r.length + 1 ≤ gm ∧ attrsM l = pushA acc (attrsF n r) ∧ r.length < n ∧ acc.length + r.length ≤ s.size) ∨ (∃ k, RBad g s k wr ∧ attrsM l = .error k))
/-- behind a key and a colon: the value, or not -/
def QRes (g : Nat) (s : ByteArray) (l : List UInt8) (acc : List At) (m : Nat) (K : ByteArray) (rl : Nat) (w : World) (e : Ending) (w' : World) : Prop :=
  ∃ V : ByteArray, e = .returned (.string V) ∧ V.size ≤ s.size ∧ KpG g w w' ∧
    ((∃ r2, RTx g s r2 w' ∧ attrsM l = pushA acc (restM m K V r2) ∧ r2.length + 1 ≤ rl) ∨ (∃ k, RBad g s k w' ∧ attrsM l = .error k))
theorem rkey_val {g : Nat} {s : ByteArray} {l : List UInt8} {acc : List At} {m : Nat} {key r1 : List UInt8} {w0 w : World} (hm : MustPost g s 58 r1 w) (hs : s.size ≤ 1099511627776) (r : List UInt8) (hr : runM isKey r = .ok (key, r1)) (hrs : r.length ≤ s.size) (hA : attrsM l = pushA acc (attrsF (m + 1) r)) :
    Calls Tryz.prog 87 #[.pointer (some ⟨g, 0, none⟩)] w (QRes g s l acc m (mkB key) r.length w) := by
  obtain ⟨q1, q2, q3⟩ := runM_ok hr
  have hkl : key.length + r1.length = r.length := by rw [← q3]; simp
  have hS : attrsM l = pushA acc (if takeB 58 r1 then match quotedM r1.tail with
      | .error k => .error k
      | .ok (v, r2) => restM m (mkB key) (mkB v) r2
    else .error r1.length) := by
    rw [hA]; conv => lhs; unfold attrsF
    rw [hr]; rfl
  rcases hm with ⟨t58, h1⟩ | ⟨t58, h1⟩
  · rw [if_pos t58] at hS
    refine (rquoted_any g s r1.tail w h1 hs).mono fun e w' hp => ?_
    cases hq : quotedM r1.tail with
    | error k =>
      unfold RRd at hp; rw [hq] at hp
      obtain ⟨⟨v, rfl, rfl⟩, b, kk⟩ := hp
      exact ⟨⟨#[]⟩, rfl, Nat.zero_le _, kk, .inr ⟨k, b, by rw [hS, hq]; rfl⟩⟩
    | ok p =>
      obtain ⟨d, r2⟩ := p
      unfold RRd at hp; rw [hq] at hp
      obtain ⟨rfl, b, kk⟩ := hp
      have hl := quotedM_len hq
      have hz : (mkB d).size = d.length := sz_mk d
      simp only [List.length_tail] at hl
      exact ⟨mkB d, rfl, by omega, kk, .inl ⟨r2, b, by rw [hS, hq], by omega⟩⟩
  · rw [if_neg (by rw [t58]; simp)] at hS
    refine (rquoted_bad g _ s w h1 hs).mono fun e w' ⟨he, n, hw⟩ => ?_
    subst hw
    exact ⟨⟨#[]⟩, he, Nat.zero_le _, (Kp.refl _ _).drewN _, .inr ⟨_, h1.drewN _, by rw [hS]; rfl⟩⟩

set_option maxRecDepth 100000 in
set_option maxHeartbeats 8000000 in
theorem rattrs_any (g : Nat) (s : ByteArray) (l : List UInt8) (w : World) (hx : RTx g s l w) (hs : s.size ≤ 1099511627776) :
    Calls Tryz.prog 138 #[.pointer (some ⟨g, 0, none⟩)] w (RAttrPost g s (attrsM l) w) := by
  have HX := Lib.hid hx
  have hgw := hx.lt
  have hls := hx.left
  obtain ⟨i0, hi, hz0, hz1, hz2⟩ := info_parts infoA
  obtain ⟨a0, ha0, hl0, h30⟩ := hx
  have HL0 := Lib.hid hl0
  obtain ⟨c0, c1, c2⟩ := box3 h30
  have f1 := froz_heap h30 1
  have H30 := Lib.hid h30
  have hll : l.length = s.size - a0 := by rw [hl0, drop_len]
  have t123 := hd0_take (c := 123) (l := l) (by decide)
  have q123 := u8_neb (hd0 l) 123
  rw [← t123] at q123
  simp only [show ((123 : UInt8).toNat : Int) = 123 from rfl] at q123
  have HNX := Lib.hid (fun (W : World) (h : RTx g s l W) => rnext_any g s l W h hs)
  clear hl0 h30 t123
  cases t123 : takeB 123 l with
  | false =>
    rw [t123] at q123
    simp only [Bool.not_false] at q123
    have hR := Lib.hid (show attrsM l = .ok ([], l) by unfold attrsM; rw [if_neg (by rw [t123]; simp)])
    clear t123
    go_enter Tryz.func138, Tryz.ntmps138
    go_wp2_with fail
    refine (HNX.out _ HX.out).mono ?_
    rintro e w1 ⟨rfl, n1, rfl⟩
    go_wp2
    go_ret
    unfold RAttrPost; rw [hR.out]
    exact ⟨_, rfl, Rd.nil _ _ _ _, HX.out.drewN _, (Kp.refl _ _).drewN _⟩
  | true =>
    rw [t123] at q123
    simp only [Bool.not_true] at q123
    have hQ : attrsM l = attrsF l.length l.tail := by unfold attrsM; rw [if_pos t123]
    have hlen : l.tail.length < l.length := by
      obtain ⟨r, rfl⟩ := (takeB_iff _ _).1 t123; simp
    have hlt0 : a0 < s.size := by omega
    have hst : ∀ n1, AtRel g s l w (s.size + 1) (.slice none 0 0) ((w.drewN n1).setCell ⟨g, 1, none⟩ (.int .i64 ((a0 : Int) + 1))) := fun n1 =>
      ⟨_, [], rfl, World.ownsRow_nil _ _ _ _, by simp, ((Kp.refl (fun k => k = g) w).drewN _).setCell (p := ⟨g, 1, none⟩) (.inl rfl) _, ⟨_, _, _, rfl⟩, by simp, .inl ⟨l.tail, l.length, ⟨a0 + 1, hlt0, Txt.tail (g := 0) (w := w) HL0.out, set_heap1' H30.out _⟩, by omega, by rw [pushA_nil]; exact hQ, hlen, by simp; omega⟩⟩
    have HST := Lib.hid hst
    clear t123 hQ hlen hst
    go_enter Tryz.func138, Tryz.ntmps138
    go_wp2_with fail
    refine (HNX.out _ HX.out).mono ?_
    rintro e w1 ⟨rfl, n1, rfl⟩
    go_wp2_with fail
    clear c0 c1 c2 f1 q123
    go_loopg [3] (s.size + 1) (fun gm v wr => AtRel g s l w gm v wr)
    case atStart => exact HST.out _
    case round =>
      clear HST HNX
      obtain ⟨gm, acc, hgm0, hown, hal, hk, ⟨A, n0, cap, rfl⟩, has, hcase⟩ := hrel
      have HG0 := Lib.hid hgm0
      rw [← hgm0] at hcase
      have HO := Lib.hid hown; have HK := Lib.hid hk; have HAS := Lib.hid has
      have hsz := hk.size
      clear hgm0 hown hk has
      rcases hcase with ⟨r, n, hr, hgm, hq, hrn, hacc⟩ | ⟨k, hb, hq⟩
      case inr =>
        have HB := Lib.hid hb
        have HQ := Lib.hid hq
        obtain ⟨hk, a, ha, h3⟩ := hb
        obtain ⟨c0, c1, c2⟩ := box3 h3
        obtain ⟨m, hm⟩ : ∃ m : Nat, (s.size : Int) - (k : Int) = (m : Int) := ⟨s.size - k, by omega⟩
        rw [hm] at c2
        have hd : decide ((m : Int) < 0) = false := by simp
        clear h3 hm hq
        go_wp2
        go_ret
        unfold RAttrPost; rw [HQ.out]
        exact ⟨rfl, HB.out, HK.out⟩
      case inl =>
        have HQ := Lib.hid hq; clear hq
        obtain ⟨a, ha, hra, h3⟩ := hr
        have HRA := Lib.hid hra
        have hrl : r.length = s.size - a := by rw [hra, drop_len]
        obtain ⟨c0, c1, c2⟩ := box3 h3
        have hgl := heap_lt h3
        have H3 := Lib.hid h3
        obtain ⟨m, rfl⟩ : ∃ m, n = m + 1 := ⟨n - 1, by omega⟩
        clear hra h3
        obtain ⟨wo, rfl⟩ : ∃ wo : World, wo = wr := ⟨_, rfl⟩
        have HST2 := Lib.hid (show (s.data.toList.drop a).take 0 = [] ∧ True from ⟨rfl, trivial⟩)
        go_wp2_with fail
        clear c0 c1 c2
        go_loopw [] (fun wx => ∃ j : Nat, j ≤ r.length ∧ (r.take j).all isKey = true ∧ wx.heap[g]? = some (.cells #[.string s, .int .i64 ((a + j : Nat) : Int), .int .i64 (-1)] 118 (0, 0)) ∧ KpG g wo wx) (fun wx => s.size - posOf g wx)
        case atStart => exact ⟨0, by omega, by simp, H3.out, Kp.refl _ _⟩
        case round =>
          obtain ⟨j, hj, hall, hg, hkp⟩ := hrel
          obtain ⟨aj, haj⟩ : ∃ aj, a + j = aj := ⟨_, rfl⟩
          rw [haj] at hg
          have hR : RTx g s (r.drop j) wr := ⟨aj, by omega, by rw [HRA.out, List.drop_drop, ← haj], hg⟩
          obtain ⟨c0, c1, c2⟩ := box3 hg
          have f1 := froz_heap hg 1
          have hgl2 := heap_lt hg
          have HPOS := Lib.hid (posOf_cell c1)
          have HG := Lib.hid hg; have HR := Lib.hid hR; have HALL := Lib.hid hall; have HKP := Lib.hid hkp
          have hsz2 := hkp.size
          have ha1 : aj ≤ a + j := by omega
          have ha2 : a + j ≤ aj := by omega
          clear hg hR hall hkp haj
          obtain ⟨c, hc⟩ : ∃ c, hd0 (r.drop j) = c := ⟨_, rfl⟩
          have HNX := Lib.hid (fun (W : World) (h : RTx g s (r.drop j) W) => rnext_any g s (r.drop j) W h hs)
          rw [hc] at HNX
          have HC := Lib.hid hc
          have HPL := Lib.hid (fun (W : World) => rplain_any c W)
          clear hc
          by_cases hd : isKey c = true
          · have hjl : j < r.length := by
              rcases Nat.lt_or_ge j r.length with q | q
              · exact q
              · have := HC.out; rw [List.drop_eq_nil_of_le q] at this; subst this; simp [hd0, isKey] at hd
            have HALL2 := Lib.hid (show (r.take (j + 1)).all isKey = true by rw [List.take_succ_eq_append_getElem hjl, List.all_append, HALL.out, ← drop_hd hjl, HC.out]; simp [hd])
            rw [hd] at HPL
            clear hd
            go_wp2_with fail
            refine (HNX.out _ HR.out).mono ?_
            rintro e w1 ⟨rfl, n2, rfl⟩
            go_wp2_with fail
            refine (HPL.out _).mono ?_
            rintro e w2 ⟨rfl, rfl⟩
            go_wp2
            have hcast : ((a + (j + 1) : Nat) : Int) = (aj : Int) + 1 := by omega
            refine ⟨⟨j + 1, by omega, HALL2.out, by rw [hcast]; exact set_heap1' HG.out _, (HKP.out.drewN _).setCell (p := ⟨g, 1, none⟩) (.inl rfl) _⟩, ?_⟩
            rw [HPOS.out]
            refine Nat.lt_of_le_of_lt (Nat.le_of_eq (congrArg (fun x => s.size - x) (posOf_cell (j := aj + 1) ?_))) ?_
            · exact (box3 (set_heap1' HG.out _)).2.1
            · show s.size - (aj + 1) < s.size - aj
              omega
          · have hd' : isKey c = false := by simpa using hd
            obtain ⟨e1, e2⟩ := span_take HALL.out hj (fun h => by rw [← drop_hd h, HC.out]; exact hd')
            have HRM := Lib.hid (show runM isKey r = if r.take j = [] then .error r.length else .ok (r.take j, r.drop j) by unfold runM; rw [e1, e2])
            rw [hd'] at HPL
            clear hd hd' e1 e2
            go_wp2_with fail
            refine (HNX.out _ HR.out).mono ?_
            rintro e w1 ⟨rfl, n2, rfl⟩
            go_wp2_with fail
            refine (HPL.out _).mono ?_
            rintro e w2 ⟨rfl, rfl⟩
            go_upto_region 9 with fail
            by_cases hj0 : j = 0
            · have e0 : ((aj : Int) == (a : Int)) = true := by simp; omega
              have HE := Lib.hid (show attrsM l = .error r.length by
                rw [HQ.out]
                conv => lhs; unfold attrsF
                rw [HRM.out, hj0]; simp [pushA])
              clear hj0
              go_wp2_with fail
              refine (rbad_good g s _ r.length _ (HR.out.drewN _) (by omega) _ ?_ hs).mono ?_
              · omega
              rintro e w3 ⟨rfl, q3, k3⟩
              go_wp2
              go_ret
              unfold RAttrPost; rw [HE.out]
              exact ⟨rfl, q3, (HK.out.trans (HKP.out.drewN _)).trans k3⟩
            · have e0 : ((aj : Int) == (a : Int)) = false := by simp; omega
              have b1 : (0 : Int) ≤ (a : Int) := by omega
              have b2 : (a : Int) ≤ (aj : Int) := by omega
              have b3 : (aj : Int) ≤ (s.size : Int) := by omega
              have hr1 : 1 ≤ r.length := by omega
              have hne : r.take j ≠ [] := by intro h; have := congrArg List.length h; rw [List.length_take, List.length_nil] at this; omega
              have HRO := Lib.hid (show runM isKey r = .ok (r.take j, r.drop j) by rw [HRM.out, if_neg hne])
              obtain ⟨K, hK⟩ : ∃ K, s.extract a aj = K := ⟨_, rfl⟩
              have HKK := Lib.hid (show mkB (r.take j) = K by rw [← hK, extract_is s a aj (by omega), HRA.out, show aj - a = j by omega]; rfl)
              have hkz : K.size ≤ s.size := by
                rw [← HKK.out]
                have : (mkB (r.take j)).size = (r.take j).length := sz_mk _
                rw [this, List.length_take]; omega
              clear hj0 hne
              go_wp2_with fail
              go_quiet (fail)
              clear e0 b1 b2 b3
              go_wp2_with fail
              refine (rmust_any 58 (by decide) g s (r.drop j) _ (HR.out.drewN _) hs).mono ?_
              rintro e w3 ⟨rfl, k3, hm⟩
              have HK3 := Lib.hid ((HKP.out.drewN _).trans k3)
              have HVAL := Lib.hid (rkey_val (w0 := w3) hm hs r HRO.out (by omega) HQ.out)
              rw [HKK.out] at HVAL
              clear k3 hm hK c0 c1 c2 f1
              go_wp2_with fail
              refine HVAL.out.mono ?_
              rintro e w4 ⟨V, rfl, hvz, k4, hres⟩
              have HK4 := Lib.hid (HK3.out.trans k4)
              have HRES := Lib.hid hres
              have HO4 := Lib.hid (own_kpG HO.out HK4.out hgw)
              have hsz4 := HK4.out.size
              clear k4 hres
              go_wp2_with (first | (at_builtin; refine wpList_append_own _ rfl _ _ 46 rfl w.heap.size 89 i0 (.agg #[.string ⟨#[]⟩, .string ⟨#[]⟩]) 2 32 Tryz.underlying46 hi hz0 hz1 hz2 rfl (by decide) (.slice A n0 cap) acc.length (flat cellsA acc) rfl (by exact HO4.out.alloc _) ⟨w4.heap.size, 0, none⟩ 1 1 (cellsA ⟨K, V⟩) rfl rfl (World.news_of_block (cs := #[.string K, .string V]) (t := 89) (fr := (0, 0)) (heap_alloc_new w4 _)) (cellsA_one2 _) (by unfold maxLen; omega) (by omega) (by simp; omega) ?_) | fail)
              intro v' w5 hown hgrow _
              obtain ⟨A5, cap5, rfl⟩ := ownF hown
              have hlo : ∀ q, (Value.slice A n0 cap).ownBlock = some q → w.heap.size ≤ q := fun q hq => (HO.out.lt q hq).1
              have hg5 : ∀ q, q < w.heap.size → w5.heap[q]? = w4.heap[q]? := fun q hq => (hgrow.block q (by simp; omega) (fun e => by have := hlo q e.symm; omega)).trans (Below.heap_alloc w4 _ q (by omega))
              have hK5 : KpG g w w5 := ((HK.out.trans HK4.out).alloc _).grown hgrow (fun q hq => .inr (hlo q hq))
              have hO5 : w5.ownsRow w.heap.size 89 2 (.slice A5 (acc.length + 1) cap5) (acc ++ [(⟨K, V⟩ : At)]).length (flat cellsA (acc ++ [⟨K, V⟩])) := by
                rw [List.length_append, flat_append, flat_one]; exact hown
              have has5 : ∀ a ∈ acc ++ [(⟨K, V⟩ : At)], a.k.size ≤ s.size ∧ a.v.size ≤ s.size := by
                intro a ha
                rcases List.mem_append.1 ha with ha | ha
                · exact HAS.out a ha
                · simp at ha; subst ha; exact ⟨hkz, hvz⟩
              have HK5 := Lib.hid hK5; have HO5 := Lib.hid hO5; have HAS5 := Lib.hid has5
              have HG5 := Lib.hid (hg5 g hgw)
              have hal5 : (acc ++ [(⟨K, V⟩ : At)]).length = acc.length + 1 := by simp
              have HAL5 := Lib.hid hal5
              clear hown hgrow hlo hg5 hK5 hO5 has5 hal5
              rcases HRES.out with ⟨r2, hr2, hA2, hl2⟩ | ⟨k, hb2, hA2⟩
              case inr =>
                have HB := Lib.hid (hb2.agree HG5.out)
                have HA2 := Lib.hid hA2
                clear hb2 hA2
                go_wp2_with fail
                refine (rnext_bad g k s _ HB.out hs).mono ?_
                rintro e w6 ⟨rfl, n6, rfl⟩
                go_wp2_with fail
                refine (rmust_bad 44 (by decide) g k s _ (HB.out.drewN _) hs).mono ?_
                rintro e w7 ⟨rfl, n7, rfl⟩
                have HN := Lib.hid (show ∀ q, AtRel g s l w (gm - 1) (.slice A5 (acc.length + 1) cap5) (w5.drewN q) from fun q =>
                  ⟨_, _, rfl, own_agree HO5.out (fun _ _ => rfl), by rw [HAL5.out]; omega, HK5.out.drewN _, ⟨_, _, _, rfl⟩, HAS5.out, .inr ⟨k, HB.out.drewN _, HA2.out⟩⟩)
                go_wp2
                go_roundg (gm - 1)
                case measure => have := HG0.out; omega
                case rel => first | exact HN.out _ | (rw [World.drewN_drewN]; exact HN.out _)
              case inl =>
                have HR2 := Lib.hid (hr2.agree HG5.out)
                have HA2 := Lib.hid hA2
                have HNX2 := Lib.hid (fun (W : World) (h : RTx g s r2 W) => rnext_any g s r2 W h hs)
                have q125 := u8_eqb (hd0 r2) 125
                rw [← hd0_take (c := 125) (l := r2) (by decide)] at q125
                simp only [show ((125 : UInt8).toNat : Int) = 125 from rfl] at q125
                clear hr2 hA2
                cases t125 : takeB 125 r2 with
                | true =>
                  rw [t125] at q125
                  have HE := Lib.hid (show attrsM l = .ok (acc ++ [⟨K, V⟩], r2.tail) by rw [HA2.out]; unfold restM; rw [if_pos t125]; rfl)
                  obtain ⟨a2, hq1, hq2, hq3⟩ := HR2.out
                  have HQ2 := Lib.hid hq2; have HQ3 := Lib.hid hq3
                  have hlt2 : a2 < s.size := by
                    rcases Nat.lt_or_ge a2 s.size with q | q
                    · exact q
                    · rw [drop_end s a2 q] at hq2; subst hq2; simp [takeB] at t125
                  obtain ⟨c0, c1, c2⟩ := box3 hq3
                  have f1 := froz_heap hq3 1
                  have hgl5 := heap_lt hq3
                  clear t125 hq2 hq3
                  go_wp2_with fail
                  refine (HNX2.out _ HR2.out).mono ?_
                  rintro e w6 ⟨rfl, n6, rfl⟩
                  go_wp2
                  go_ret
                  unfold RAttrPost; rw [HE.out]
                  have hk6 : KpG g w5 ((w5.drewN n6).setCell ⟨g, 1, none⟩ (.int .i64 ((a2 : Int) + 1))) := ((Kp.refl (fun k => k = g) w5).drewN _).setCell (p := ⟨g, 1, none⟩) (.inl rfl) _
                  exact ⟨_, rfl, own_rdA (lo := w.heap.size) (own_kpG HO5.out hk6 hgw) (Nat.le_refl _) (fun a ha => by have := HAS5.out a ha; omega) (by rw [HAL5.out]; omega), ⟨a2 + 1, hlt2, Txt.tail (g := 0) (w := w) HQ2.out, set_heap1' HQ3.out _⟩, HK5.out.trans hk6⟩
                | false =>
                  rw [t125] at q125
                  have hE : attrsM l = pushA acc (if takeB 44 r2 then match attrsF m r2.tail with
                      | .error k => .error k
                      | .ok (more, r3) => .ok (⟨K, V⟩ :: more, r3)
                    else .error r2.length) := by rw [HA2.out]; unfold restM; rw [if_neg (by rw [t125]; simp)]
                  have HE := Lib.hid hE
                  clear t125 hE
                  go_wp2_with fail
                  refine (HNX2.out _ HR2.out).mono ?_
                  rintro e w6 ⟨rfl, n6, rfl⟩
                  go_wp2_with fail
                  refine (rmust_any 44 (by decide) g s r2 _ (HR2.out.drewN _) hs).mono ?_
                  rintro e w7 ⟨rfl, k7, hm7⟩
                  have hk7 : KpG g w5 w7 := ((Kp.refl (fun k => k = g) w5).drewN _).trans k7
                  have HN := Lib.hid (show AtRel g s l w (gm - 1) (.slice A5 (acc.length + 1) cap5) w7 from by
                    refine ⟨_, _, rfl, own_kpG HO5.out hk7 hgw, by rw [HAL5.out]; omega, HK5.out.trans hk7, ⟨_, _, _, rfl⟩, HAS5.out, ?_⟩
                    rcases hm7 with ⟨t44, q⟩ | ⟨t44, q⟩
                    · have hrt : r2.tail.length + 1 = r2.length := by
                        obtain ⟨r, rfl⟩ := (takeB_iff _ _).1 t44; simp
                      refine .inl ⟨r2.tail, m, q, by omega, ?_, by omega, by rw [HAL5.out]; omega⟩
                      rw [HE.out, if_pos t44]
                      cases attrsF m r2.tail <;> simp [pushA]
                    · exact .inr ⟨r2.length, q, by rw [HE.out, if_neg (by rw [t44]; simp)]; rfl⟩)
                  clear k7 hm7 hk7
                  go_wp2
                  go_roundg (gm - 1)
                  case measure => have := HG0.out; omega
                  case rel => exact HN.out
end

section
set_option linter.unusedVariables false
set_option linter.unusedSimpArgs false
open Go.RowKit Go.PlainAid

/-- the answer's state: what is left behind an operation, or where it is wrong -/
def OSt (g : Nat) (s : ByteArray) (R : Except Nat (OpM × List UInt8)) (o : OpM) (w : World) : Prop :=
  (∃ r, R = .ok (o, r) ∧ RTx g s r w) ∨ (∃ k, R = .error k ∧ RBad g s k w)
theorem OSt.agree {g : Nat} {s : ByteArray} {R : Except Nat (OpM × List UInt8)} {o : OpM} {w w' : World} (h : OSt g s R o w) (hb : w'.heap[g]? = w.heap[g]?) : OSt g s R o w' := by
  rcases h with ⟨r, h1, h2⟩ | ⟨k, h1, h2⟩
  · exact .inl ⟨r, h1, h2.agree hb⟩
  · exact .inr ⟨k, h1, h2.agree hb⟩
def attrsThen (mk : List At → OpM) (r : List UInt8) : Except Nat (OpM × List UInt8) := match attrsM r with
  | .error k => .error k
  | .ok (as_, r2) => .ok (mk as_, r2)
/-- ahead of the attributes -/
def ASt (g : Nat) (s : ByteArray) (R : Except Nat (OpM × List UInt8)) (mk : List At → OpM) (w : World) : Prop :=
  (∃ r, R = attrsThen mk r ∧ RTx g s r w) ∨ (∃ k, R = .error k ∧ RBad g s k w)
theorem ASt.agree {g : Nat} {s : ByteArray} {R : Except Nat (OpM × List UInt8)} {mk : List At → OpM} {w w' : World} (h : ASt g s R mk w) (hb : w'.heap[g]? = w.heap[g]?) : ASt g s R mk w' := by
  rcases h with ⟨r, h1, h2⟩ | ⟨k, h1, h2⟩
  · exact .inl ⟨r, h1, h2.agree hb⟩
  · exact .inr ⟨k, h1, h2.agree hb⟩
theorem rattrs_bad (g k : Nat) (s : ByteArray) (w : World) (hx : RBad g s k w) (hs : s.size ≤ 1099511627776) :
    Calls Tryz.prog 138 #[.pointer (some ⟨g, 0, none⟩)] w fun e w' => e = .returned (.slice none 0 0) ∧ ∃ n, w' = w.drewN n := by
  go_enter Tryz.func138, Tryz.ntmps138
  go_wp2_with fail
  refine (rnext_bad g k s _ hx hs).mono ?_
  rintro e w1 ⟨rfl, n, rfl⟩
  go_wp2
  go_ret
  exact ⟨rfl, _, rfl⟩
def AStep (g : Nat) (s : ByteArray) (R : Except Nat (OpM × List UInt8)) (mk : List At → OpM) (w : World) (e : Ending) (w' : World) : Prop :=
  ∃ (A : Option Addr) (n c : Nat) (as_ : List At), e = .returned (.slice A n c) ∧ RdA w' (fun k => w.heap.size ≤ k ∧ TyA w' k) (.slice A n c) as_ ∧ KpG g w w' ∧ OSt g s R (mk as_) w'
theorem rattrs_step (g : Nat) (s : ByteArray) (R : Except Nat (OpM × List UInt8)) (mk : List At → OpM) (w : World) (h : ASt g s R mk w) (hs : s.size ≤ 1099511627776) :
    Calls Tryz.prog 138 #[.pointer (some ⟨g, 0, none⟩)] w (AStep g s R mk w) := by
  rcases h with ⟨r, hr, h1⟩ | ⟨k, hr, h1⟩
  · refine (rattrs_any g s r w h1 hs).mono fun e w' hp => ?_
    unfold attrsThen at hr
    unfold RAttrPost at hp
    cases ha : attrsM r with
    | error k =>
      rw [ha] at hp hr
      obtain ⟨rfl, b, kk⟩ := hp
      exact ⟨none, 0, 0, [], rfl, Rd.nil _ _ _ _, kk, .inr ⟨k, hr, b⟩⟩
    | ok p =>
      obtain ⟨as_, r2⟩ := p
      rw [ha] at hp hr
      obtain ⟨v, rfl, hva, b, kk⟩ := hp
      obtain ⟨A, cap, rfl, _⟩ := hva.open_
      exact ⟨A, _, cap, as_, rfl, hva, kk, .inl ⟨r2, hr, b⟩⟩
  · refine (rattrs_bad g k s w h1 hs).mono fun e w' ⟨he, n, hw⟩ => ?_
    subst hw
    exact ⟨none, 0, 0, [], he, Rd.nil _ _ _ _, (Kp.refl _ _).drewN _, .inr ⟨k, hr, h1.drewN _⟩⟩
def NStep (g : Nat) (s : ByteArray) (l : List UInt8) (w : World) (e : Ending) (w' : World) : Prop :=
  ∃ n : Int, e = .returned (.int .i64 n) ∧ KpG g w w' ∧ ((∃ r, numberM l = .ok (n, r) ∧ RTx g s r w') ∨ (∃ k, numberM l = .error k ∧ RBad g s k w'))
theorem rnumber_step (g : Nat) (s : ByteArray) (l : List UInt8) (w : World) (h : RTx g s l w) (hs : s.size ≤ 1099511627776) :
    Calls Tryz.prog 88 #[.pointer (some ⟨g, 0, none⟩)] w (NStep g s l w) := by
  refine (rnumber_any g s l w h hs).mono fun e w' hp => ?_
  unfold RRd at hp
  cases hn : numberM l with
  | error k =>
    rw [hn] at hp
    obtain ⟨⟨v, rfl, rfl⟩, b, kk⟩ := hp
    exact ⟨0, rfl, kk, .inr ⟨k, hn, b⟩⟩
  | ok p =>
    obtain ⟨n, r⟩ := p
    rw [hn] at hp
    obtain ⟨rfl, b, kk⟩ := hp
    exact ⟨n, rfl, kk, .inl ⟨r, hn, b⟩⟩
def QStep (g : Nat) (s : ByteArray) (l : List UInt8) (w : World) (e : Ending) (w' : World) : Prop :=
  ∃ V : ByteArray, e = .returned (.string V) ∧ V.size ≤ s.size ∧ KpG g w w' ∧ ((∃ d r, quotedM l = .ok (d, r) ∧ V = mkB d ∧ RTx g s r w') ∨ (∃ k, quotedM l = .error k ∧ RBad g s k w'))
theorem rquoted_step (g : Nat) (s : ByteArray) (l : List UInt8) (w : World) (h : RTx g s l w) (hs : s.size ≤ 1099511627776) :
    Calls Tryz.prog 87 #[.pointer (some ⟨g, 0, none⟩)] w (QStep g s l w) := by
  have hl := h.left
  refine (rquoted_any g s l w h hs).mono fun e w' hp => ?_
  unfold RRd at hp
  cases hn : quotedM l with
  | error k =>
    rw [hn] at hp
    obtain ⟨⟨v, rfl, rfl⟩, b, kk⟩ := hp
    exact ⟨⟨#[]⟩, rfl, Nat.zero_le _, kk, .inr ⟨k, hn, b⟩⟩
  | ok p =>
    obtain ⟨d, r⟩ := p
    rw [hn] at hp
    obtain ⟨rfl, b, kk⟩ := hp
    have hq := quotedM_len hn
    have hz : (mkB d).size = d.length := sz_mk d
    exact ⟨mkB d, rfl, by omega, kk, .inl ⟨d, r, hn, rfl, b⟩⟩

theorem fin4 {g : Nat} {w w4 : World} {a b c d v : Value} {t : TypeId} {m : Nat} {as_ : List At} (hm : w.heap.size < m) (hgw : g < w.heap.size)
    (hbx : w4.heap[w.heap.size]? = some (.cells #[a, b, c, d] t (0, 0))) (hk : KpG g w w4) (hva : RdA w4 (fun k => m ≤ k ∧ TyA w4 k) v as_) (p q x u : Value) :
    ((((w4.setCell ⟨w.heap.size, 0, none⟩ p).setCell ⟨w.heap.size, 1, none⟩ q).setCell ⟨w.heap.size, 2, none⟩ x).setCell ⟨w.heap.size, 3, none⟩ u).heap[w.heap.size]? = some (.cells #[p, q, x, u] t (0, 0)) ∧
    ((((w4.setCell ⟨w.heap.size, 0, none⟩ p).setCell ⟨w.heap.size, 1, none⟩ q).setCell ⟨w.heap.size, 2, none⟩ x).setCell ⟨w.heap.size, 3, none⟩ u).heap[g]? = w4.heap[g]? ∧
    KpG g w ((((w4.setCell ⟨w.heap.size, 0, none⟩ p).setCell ⟨w.heap.size, 1, none⟩ q).setCell ⟨w.heap.size, 2, none⟩ x).setCell ⟨w.heap.size, 3, none⟩ u) ∧
    RdA ((((w4.setCell ⟨w.heap.size, 0, none⟩ p).setCell ⟨w.heap.size, 1, none⟩ q).setCell ⟨w.heap.size, 2, none⟩ x).setCell ⟨w.heap.size, 3, none⟩ u) (fun k => w.heap.size ≤ k ∧ TyA ((((w4.setCell ⟨w.heap.size, 0, none⟩ p).setCell ⟨w.heap.size, 1, none⟩ q).setCell ⟨w.heap.size, 2, none⟩ x).setCell ⟨w.heap.size, 3, none⟩ u) k) v as_ := by
  have hne : g ≠ w.heap.size := by omega
  refine ⟨set4 hbx p q x u, ?_, (((hk.fresh (Nat.le_refl _) _ _).fresh (Nat.le_refl _) _ _).fresh (Nat.le_refl _) _ _).fresh (Nat.le_refl _) _ _, ?_⟩
  · rw [Below.heap_setCell _ ⟨w.heap.size, 3, none⟩ _ _ hne, Below.heap_setCell _ ⟨w.heap.size, 2, none⟩ _ _ hne, Below.heap_setCell _ ⟨w.heap.size, 1, none⟩ _ _ hne, Below.heap_setCell _ ⟨w.heap.size, 0, none⟩ _ _ hne]
  have hx : ∀ k, (m ≤ k ∧ TyA w4 k) → k ≠ w.heap.size := fun k hk => by have := hk.1; omega
  refine ((((hva.setCell hx _).setCell hx _).setCell hx _).setCell hx _).mono fun k hk _ => ⟨by have := hk.1; omega, ?_⟩
  obtain ⟨c, fz, hc⟩ := hk.2
  have hkn := hx k hk
  exact ⟨c, fz, by rw [Below.heap_setCell _ ⟨w.heap.size, 3, none⟩ _ _ hkn, Below.heap_setCell _ ⟨w.heap.size, 2, none⟩ _ _ hkn, Below.heap_setCell _ ⟨w.heap.size, 1, none⟩ _ _ hkn, Below.heap_setCell _ ⟨w.heap.size, 0, none⟩ _ _ hkn]; exact hc⟩
theorem rdA_set {w : World} {m b : Nat} {v : Value} {l : List At} (h : RdA w (fun k => m ≤ k ∧ TyA w k) v l) (hb : b < m) (j : Nat) (u : Value) : RdA (w.setCell ⟨b, j, none⟩ u) (fun k => m ≤ k ∧ TyA (w.setCell ⟨b, j, none⟩ u) k) v l := by
  have hx : ∀ k, (m ≤ k ∧ TyA w k) → k ≠ b := fun k hk => by have := hk.1; omega
  refine (h.setCell hx u).mono fun k hk _ => ⟨hk.1, ?_⟩
  obtain ⟨c, fz, hc⟩ := hk.2
  exact ⟨c, fz, by rw [Below.heap_setCell _ ⟨b, j, none⟩ _ _ (hx k hk)]; exact hc⟩
def ROpPost (g : Nat) (s : ByteArray) (R : Except Nat (OpM × List UInt8)) (w : World) (e : Ending) (w' : World) : Prop :=
  ∃ o va, e = .returned (opV o va) ∧ RdA w' (fun k => w.heap.size ≤ k ∧ TyA w' k) va o.attrs ∧ o.text.size ≤ s.size ∧ KpG g w w' ∧ OSt g s R o w'
/-- the end: the operation in block b is handed on -/
theorem rop_end {g b : Nat} {s : ByteArray} {R : Except Nat (OpM × List UInt8)} {w W : World} {o : OpM} {A : Option Addr} {n c : Nat} {a' b' c' d' : Value} (hgw : g < w.heap.size) (m : Nat) (hm : w.heap.size < m)
    (hr : W.heap[w.heap.size]? = some (.cells #[a', b', c', d'] 48 (0, 0))) (hb : W.heap[b]? = some (.cells #[.int .i64 o.kind, .int .i64 o.n, .string o.text, .slice A n c] 48 (0, 0))) (hbw : b ≠ w.heap.size)
    (hk : KpG g w W) (hva : RdA W (fun k => m ≤ k ∧ TyA W k) (.slice A n c) o.attrs) (ht : o.text.size ≤ s.size) (hO : OSt g s R o W) :
    ROpPost g s R w (.returned (opV o (.slice A n c))) ((((W.setCell ⟨w.heap.size, 0, none⟩ (.int .i64 o.kind)).setCell ⟨w.heap.size, 1, none⟩ (.int .i64 o.n)).setCell ⟨w.heap.size, 2, none⟩ (.string o.text)).setCell ⟨w.heap.size, 3, none⟩ (.slice A n c)) := by
  obtain ⟨_, x1, x2, x3⟩ := fin4 hm hgw hr hk hva (.int .i64 o.kind) (.int .i64 o.n) (.string o.text) (.slice A n c)
  exact ⟨o, _, rfl, x3, ht, x2, hO.agree x1⟩

set_option maxRecDepth 100000 in
set_option maxHeartbeats 8000000 in
theorem rop_any (g : Nat) (s : ByteArray) (l : List UInt8) (w : World) (hx : RTx g s l w) (hs : s.size ≤ 1099511627776) :
    Calls Tryz.prog 89 #[.pointer (some ⟨g, 0, none⟩)] w (ROpPost g s (opM l) w) := by
  have hgw := hx.lt
  have hA : Below w.heap.size w (w.alloc (.cells #[.int .i64 0, .int .i64 0, .string ⟨#[]⟩, .slice none 0 0] 48)) := (Below.refl _ w).alloc (Nat.le_refl _) _
  have HX0 := Lib.hid (hx.pure hA)
  have HR0 := Lib.hid (heap_alloc_new w (.cells #[.int .i64 0, .int .i64 0, .string ⟨#[]⟩, .slice none 0 0] 48))
  have HK0 := Lib.hid (show KpG g w (w.alloc (.cells #[.int .i64 0, .int .i64 0, .string ⟨#[]⟩, .slice none 0 0] 48)) from KpG.pure hA)
  clear hA hx
  go_enter Tryz.func89, Tryz.ntmps89
  go_wp2_with fail
  refine (rmust_any 32 (by decide) g s l _ HX0.out hs).mono ?_
  rintro e w1 ⟨rfl, k1, hm⟩
  have hne : w.heap.size ≠ g := by omega
  have HR1 := Lib.hid ((k1.block _ (heap_lt HR0.out) hne).trans HR0.out)
  have HK1 := Lib.hid (HK0.out.trans k1)
  have hs1 := heap_lt HR1.out
  clear k1
  rcases hm with ⟨t32, h1⟩ | ⟨t32, h1⟩
  case inr =>
    have HB := Lib.hid h1
    have HM := Lib.hid (show opM l = .error l.length by unfold opM; rw [if_neg (by rw [t32]; simp)])
    clear h1 t32
    go_wp2_with fail
    refine (rnext_bad g _ s _ HB.out hs).mono ?_
    rintro e w2 ⟨rfl, hw2⟩
    have HKE := Lib.hid (show KpG g w1 w2 from by obtain ⟨n, e⟩ := hw2; rw [e]; exact (Kp.refl _ _).drewN n)
    have HBE := Lib.hid (show RBad g s l.length w2 from by obtain ⟨n, e⟩ := hw2; rw [e]; exact HB.out.drewN n)
    have hsE : w1.heap.size ≤ w2.heap.size := HKE.out.size
    have HR2 := Lib.hid (show (w2.alloc (.cells #[.int .i64 0, .int .i64 0, .string ⟨#[]⟩, .slice none 0 0] 48)).heap[w.heap.size]? = some (.cells #[.int .i64 0, .int .i64 0, .string ⟨#[]⟩, .slice none 0 0] 48 (0, 0)) from (Below.heap_alloc _ _ _ (by omega)).trans ((HKE.out.block _ hs1 hne).trans HR1.out))
    have HO2 := Lib.hid (heap_alloc_new w2 (.cells #[.int .i64 0, .int .i64 0, .string ⟨#[]⟩, .slice none 0 0] 48))
    have HB2 := Lib.hid (HBE.out.pure ((Below.refl _ _).alloc (Nat.le_refl _) (.cells #[.int .i64 0, .int .i64 0, .string ⟨#[]⟩, .slice none 0 0] 48)))
    have HK2 := Lib.hid ((HK1.out.trans HKE.out).alloc (.cells #[.int .i64 0, .int .i64 0, .string ⟨#[]⟩, .slice none 0 0] 48))
    clear hw2
    go_upto_region 4 with fail
    obtain ⟨W, hW⟩ : ∃ W, w2.alloc (.cells #[.int .i64 0, .int .i64 0, .string ⟨#[]⟩, .slice none 0 0] 48) = W := ⟨_, rfl⟩
    rw [hW] at HR2 HO2 HB2 HK2 ⊢
    clear hW
    obtain ⟨m, a, hm, c0, c1⟩ : ∃ m a : Nat, True ∧ W.cell? ⟨g, 0, none⟩ = some (.string s) ∧ W.cell? ⟨g, 1, none⟩ = some (.int .i64 (a : Int)) := by
      obtain ⟨_, a, _, hb3⟩ := HB2.out
      exact ⟨0, a, trivial, (box3 hb3).1, (box3 hb3).2.1⟩
    clear hm
    go_wp2_with fail
    refine (rbad_bad g _ s W HB2.out _).mono ?_
    rintro e w3 ⟨rfl, rfl⟩
    obtain ⟨x0, x1, x2, x3⟩ := box4 HO2.out
    obtain ⟨y0, y1, y2, y3⟩ := box4 HR2.out
    have f0 := froz_heap HR2.out 0; have f1 := froz_heap HR2.out 1; have f2 := froz_heap HR2.out 2; have f3 := froz_heap HR2.out 3
    clear c0 c1
    go_wp2_with fail
    obtain ⟨q0, q1, q2, q3⟩ := box4 (set4 HR2.out (.int .i64 0) (.int .i64 0) (.string ⟨#[]⟩) (.slice none 0 0))
    refine bodyPost_ret (v := opV ⟨0, 0, ⟨#[]⟩, []⟩ (.slice none 0 0)) (by simp [results, Tryz.results89, go_sem, q0, q1, q2, q3, opV]) rfl ?_
    exact rop_end (b := w2.heap.size) (o := ⟨0, 0, ⟨#[]⟩, []⟩) hgw (w.heap.size + 1) (by omega) HR2.out HO2.out (by omega) HK2.out (Rd.nil _ _ _ _) (Nat.zero_le _) (.inr ⟨_, HM.out, HB2.out⟩)
  case inl =>
    have H1 := Lib.hid h1
    have HM : Hid (opM l = if takeB 61 l.tail then opKeep l.tail.tail
      else if takeB 43 l.tail then opIns l.tail.tail
      else if takeB 45 l.tail then opDel l.tail.tail
      else .error l.tail.length) := Lib.hid (by unfold opM; rw [if_pos t32])
    clear t32 h1
    generalize opM l = R at *
    generalize l.tail = l1 at *
    go_wp2_with fail
    refine (rnext_any g s l1 _ H1.out hs).mono ?_
    rintro e w2 ⟨rfl, hw2⟩
    have HKE := Lib.hid (show KpG g w1 w2 from by obtain ⟨n, e⟩ := hw2; rw [e]; exact (Kp.refl _ _).drewN n)
    have HXE := Lib.hid (show RTx g s l1 w2 from by obtain ⟨n, e⟩ := hw2; rw [e]; exact H1.out.drewN n)
    have hsE : w1.heap.size ≤ w2.heap.size := HKE.out.size
    have HR2 := Lib.hid (show (w2.alloc (.cells #[.int .i64 0, .int .i64 0, .string ⟨#[]⟩, .slice none 0 0] 48)).heap[w.heap.size]? = some (.cells #[.int .i64 0, .int .i64 0, .string ⟨#[]⟩, .slice none 0 0] 48 (0, 0)) from (Below.heap_alloc _ _ _ (by omega)).trans ((HKE.out.block _ hs1 hne).trans HR1.out))
    have HO2 := Lib.hid (heap_alloc_new w2 (.cells #[.int .i64 0, .int .i64 0, .string ⟨#[]⟩, .slice none 0 0] 48))
    have HX2 := Lib.hid (HXE.out.pure ((Below.refl _ _).alloc (Nat.le_refl _) (.cells #[.int .i64 0, .int .i64 0, .string ⟨#[]⟩, .slice none 0 0] 48)))
    have HK2 := Lib.hid ((HK1.out.trans HKE.out).alloc (.cells #[.int .i64 0, .int .i64 0, .string ⟨#[]⟩, .slice none 0 0] 48))
    clear hw2
    go_upto_region 4 with fail
    obtain ⟨b, hb⟩ : ∃ b, w2.heap.size = b := ⟨_, rfl⟩
    obtain ⟨W, hW⟩ : ∃ W, w2.alloc (.cells #[.int .i64 0, .int .i64 0, .string ⟨#[]⟩, .slice none 0 0] 48) = W := ⟨_, rfl⟩
    rw [hW] at HR2 HO2 HX2 HK2 ⊢
    rw [hb] at HO2 hsE ⊢
    have hgb : g ≠ b := by omega
    have hbg : b ≠ g := by omega
    have hbw : b ≠ w.heap.size := by omega
    clear hW hb HKE HXE
    obtain ⟨c, hc⟩ : ∃ c, hd0 l1 = c := ⟨_, rfl⟩
    have t61 := hd0_take (c := 61) (l := l1) (by decide)
    have t45 := hd0_take (c := 45) (l := l1) (by decide)
    have t43 := hd0_take (c := 43) (l := l1) (by decide)
    have q61 := u8_eqb c 61; have q45 := u8_eqb c 45; have q43 := u8_eqb c 43
    rw [hc] at t61 t45 t43 ⊢
    rw [← t61] at q61; rw [← t45] at q45; rw [← t43] at q43
    simp only [show ((61 : UInt8).toNat : Int) = 61 from rfl] at q61
    simp only [show ((45 : UInt8).toNat : Int) = 45 from rfl] at q45
    simp only [show ((43 : UInt8).toNat : Int) = 43 from rfl] at q43
    have hx2 := HX2.out
    obtain ⟨a, ha, hla, hx3⟩ := hx2
    have HLA := Lib.hid hla; have HX3 := Lib.hid hx3
    have hall : l1.length = s.size - a := by rw [hla, drop_len]
    obtain ⟨c0, c1, c2⟩ := box3 hx3
    have f1 := froz_heap hx3 1
    have hgl := heap_lt hx3
    obtain ⟨x0, x1, x2, x3⟩ := box4 HO2.out
    have g0 := froz_heap HO2.out 0
    have hbl := heap_lt HO2.out
    have hne1 : l1 ≠ [] → a < s.size := fun h => by
      rcases Nat.lt_or_ge a s.size with q | q
      · exact q
      · exact absurd (hla.trans (drop_end s a q)) h
    have HNE := Lib.hid hne1
    clear hx3 hla hc t61 t45 t43 hne1
    cases t61 : takeB 61 l1 with
    | true =>
      have hnn : l1 ≠ [] := by rintro rfl; simp [takeB] at t61
      have halt := HNE.out hnn
      rw [t61] at q61
      rw [t61] at HM
      have HM2 : Hid (R = match numberM l1.tail with | .error k => .error k | .ok (n, r) => attrsThen (fun as_ => ⟨1, n, ⟨#[]⟩, as_⟩) r) := Lib.hid (HM.out.trans rfl)
      have HXb := Lib.hid (show RTx g s l1.tail (W.setCell ⟨g, 1, none⟩ (.int .i64 ((a : Int) + 1))) from ⟨a + 1, halt, Txt.tail (g := 0) (w := w) HLA.out, set_heap1' HX3.out _⟩)
      have HOb := Lib.hid (show (W.setCell ⟨g, 1, none⟩ (.int .i64 ((a : Int) + 1))).heap[b]? = _ from (Below.heap_setCell W ⟨g, 1, none⟩ _ _ hbg).trans HO2.out)
      have HRb := Lib.hid (show (W.setCell ⟨g, 1, none⟩ (.int .i64 ((a : Int) + 1))).heap[w.heap.size]? = _ from (Below.heap_setCell W ⟨g, 1, none⟩ _ _ hne).trans HR2.out)
      have HKb := Lib.hid (HK2.out.setCell (p := ⟨g, 1, none⟩) (.inl rfl) (.int .i64 ((a : Int) + 1)))
      clear hnn t61
      go_upto_region 8 with fail
      obtain ⟨Wb, hWb⟩ : ∃ X, W.setCell ⟨g, 1, none⟩ (.int .i64 ((a : Int) + 1)) = X := ⟨_, rfl⟩
      rw [hWb] at HXb HOb HRb HKb ⊢
      clear hWb
      clear c0 c1 c2 f1 x0 x1 x2 x3 g0 hgl hbl q61 q45 q43
      obtain ⟨x0, x1, x2, x3⟩ := box4 HOb.out
      have g0 := froz_heap HOb.out 0
      have hbl := heap_lt HOb.out
      have HOc := Lib.hid (show (Wb.setCell ⟨b, 0, none⟩ (.int .i64 1)).heap[b]? = some (.cells #[.int .i64 1, .int .i64 0, .string ⟨#[]⟩, .slice none 0 0] 48 (0, 0)) from set_one HOb.out _)
      have HRc := Lib.hid (show (Wb.setCell ⟨b, 0, none⟩ (.int .i64 1)).heap[w.heap.size]? = _ from (Below.heap_setCell Wb ⟨b, 0, none⟩ _ _ hbw.symm).trans HRb.out)
      have HKc := Lib.hid (KpG.fresh (g := g) HKb.out (show w.heap.size ≤ b by omega) 0 (.int .i64 1))
      have HXc := Lib.hid (show RTx g s l1.tail (Wb.setCell ⟨b, 0, none⟩ (.int .i64 1)) from HXb.out.agree (Below.heap_setCell Wb ⟨b, 0, none⟩ _ _ hgb))
      go_upto_region 9 with fail
      obtain ⟨Wc, hWc⟩ : ∃ X, Wb.setCell ⟨b, 0, none⟩ (.int .i64 1) = X := ⟨_, rfl⟩
      rw [hWc] at HOc HRc HKc HXc ⊢
      clear hWc
      clear x0 x1 x2 x3 g0 hbl
      go_wp2_with fail
      refine (rnumber_step g s l1.tail Wc HXc.out hs).mono ?_
      rintro e w3 ⟨n, rfl, k3, hst⟩
      have HO3 := Lib.hid ((k3.block b (heap_lt HOc.out) hbg).trans HOc.out)
      have HR3 := Lib.hid ((k3.block _ (heap_lt HRc.out) hne).trans HRc.out)
      have HK3 := Lib.hid (HKc.out.trans k3)
      have HA3 := Lib.hid (show ASt g s R (fun as_ => (⟨1, n, ⟨#[]⟩, as_⟩ : OpM)) w3 from by
        rcases hst with ⟨r, e1, e2⟩ | ⟨k, e1, e2⟩
        · exact .inl ⟨r, by rw [HM2.out, e1], e2⟩
        · exact .inr ⟨k, by rw [HM2.out, e1], e2⟩)
      clear k3 hst
      obtain ⟨x0, x1, x2, x3⟩ := box4 HO3.out
      have g0 := froz_heap HO3.out 1
      have hbl := heap_lt HO3.out
      have HOd := Lib.hid (show (w3.setCell ⟨b, 1, none⟩ (.int .i64 n)).heap[b]? = some (.cells #[.int .i64 1, .int .i64 n, .string ⟨#[]⟩, .slice none 0 0] 48 (0, 0)) from set_one HO3.out _)
      have HRd := Lib.hid (show (w3.setCell ⟨b, 1, none⟩ (.int .i64 n)).heap[w.heap.size]? = _ from (Below.heap_setCell w3 ⟨b, 1, none⟩ _ _ hbw.symm).trans HR3.out)
      have HKd := Lib.hid (KpG.fresh (g := g) HK3.out (show w.heap.size ≤ b by omega) 1 (.int .i64 n))
      have HAd := Lib.hid (show ASt g s R (fun as_ => (⟨1, n, ⟨#[]⟩, as_⟩ : OpM)) (w3.setCell ⟨b, 1, none⟩ (.int .i64 n)) from HA3.out.agree (Below.heap_setCell w3 ⟨b, 1, none⟩ _ _ hgb))
      go_upto_region 10 with fail
      obtain ⟨Wd, hWd⟩ : ∃ X, w3.setCell ⟨b, 1, none⟩ (.int .i64 n) = X := ⟨_, rfl⟩
      rw [hWd] at HOd HRd HKd HAd ⊢
      clear hWd
      clear x0 x1 x2 x3 g0 hbl
      go_wp2_with fail
      refine (rattrs_step g s R _ Wd HAd.out hs).mono ?_
      rintro e w5 ⟨A, na, ca, as_, rfl, hva, k5, ho5⟩
      have HO5 := Lib.hid ((k5.block b (heap_lt HOd.out) hbg).trans HOd.out)
      have HR5 := Lib.hid ((k5.block _ (heap_lt HRd.out) hne).trans HRd.out)
      have HK5 := Lib.hid (HKd.out.trans k5)
      have HV5 := Lib.hid hva
      have HS5 := Lib.hid ho5
      have hbd := heap_lt HOd.out
      clear k5 hva ho5
      obtain ⟨x0, x1, x2, x3⟩ := box4 HO5.out
      have g0 := froz_heap HO5.out 3
      have hbl := heap_lt HO5.out
      have HOe := Lib.hid (show (w5.setCell ⟨b, 3, none⟩ (.slice A na ca)).heap[b]? = some (.cells #[.int .i64 1, .int .i64 n, .string ⟨#[]⟩, .slice A na ca] 48 (0, 0)) from set_one HO5.out _)
      have HRe := Lib.hid (show (w5.setCell ⟨b, 3, none⟩ (.slice A na ca)).heap[w.heap.size]? = _ from (Below.heap_setCell w5 ⟨b, 3, none⟩ _ _ hbw.symm).trans HR5.out)
      have HKe := Lib.hid (KpG.fresh (g := g) HK5.out (show w.heap.size ≤ b by omega) 3 (.slice A na ca))
      have HAe := Lib.hid (show OSt g s R ⟨1, n, ⟨#[]⟩, as_⟩ (w5.setCell ⟨b, 3, none⟩ (.slice A na ca)) from HS5.out.agree (Below.heap_setCell w5 ⟨b, 3, none⟩ _ _ hgb))
      have HVe := Lib.hid (show RdA (w5.setCell ⟨b, 3, none⟩ (.slice A na ca)) (fun k => Wd.heap.size ≤ k ∧ TyA (w5.setCell ⟨b, 3, none⟩ (.slice A na ca)) k) (.slice A na ca) as_ from rdA_set HV5.out hbd _ _)
      go_upto_region 20 with fail
      obtain ⟨We, hWe⟩ : ∃ X, w5.setCell ⟨b, 3, none⟩ (.slice A na ca) = X := ⟨_, rfl⟩
      rw [hWe] at HOe HRe HKe HAe HVe ⊢
      clear hWe
      clear x0 x1 x2 x3 g0 hbl
      obtain ⟨x0, x1, x2, x3⟩ := box4 HOe.out
      obtain ⟨y0, y1, y2, y3⟩ := box4 HRe.out
      have f0 := froz_heap HRe.out 0; have f1 := froz_heap HRe.out 1; have f2 := froz_heap HRe.out 2; have f3 := froz_heap HRe.out 3
      have hbl := heap_lt HOe.out; have hrl := heap_lt HRe.out
      go_wp2_with fail
      obtain ⟨q0, q1, q2, q3⟩ := box4 (set4 HRe.out (.int .i64 1) (.int .i64 n) (.string ⟨#[]⟩) (.slice A na ca))
      refine bodyPost_ret (v := opV ⟨1, n, ⟨#[]⟩, as_⟩ (.slice A na ca)) (by simp [results, Tryz.results89, go_sem, q0, q1, q2, q3, opV]) rfl ?_
      exact rop_end (b := b) (o := ⟨1, n, ⟨#[]⟩, as_⟩) hgw Wd.heap.size (by omega) HRe.out HOe.out hbw HKe.out HVe.out (Nat.zero_le _) HAe.out
    | false =>
      cases t45 : takeB 45 l1 with
      | true =>
        have hnn : l1 ≠ [] := by rintro rfl; simp [takeB] at t45
        have halt := HNE.out hnn
        rw [t45] at q45
        rw [t61] at HM q61
        rw [t45] at HM
        have HM2 : Hid (R = match numberM l1.tail with | .error k => .error k | .ok (n, r) => .ok (⟨3, n, ⟨#[]⟩, []⟩, r)) := Lib.hid (by
          have h43 : takeB 43 l1 = false := by
            obtain ⟨r, hr⟩ := (takeB_iff _ _).1 t45
            rw [hr]; rfl
          have := HM.out
          rw [h43] at this
          exact this)
        have HXb := Lib.hid (show RTx g s l1.tail (W.setCell ⟨g, 1, none⟩ (.int .i64 ((a : Int) + 1))) from ⟨a + 1, halt, Txt.tail (g := 0) (w := w) HLA.out, set_heap1' HX3.out _⟩)
        have HOb := Lib.hid (show (W.setCell ⟨g, 1, none⟩ (.int .i64 ((a : Int) + 1))).heap[b]? = _ from (Below.heap_setCell W ⟨g, 1, none⟩ _ _ hbg).trans HO2.out)
        have HRb := Lib.hid (show (W.setCell ⟨g, 1, none⟩ (.int .i64 ((a : Int) + 1))).heap[w.heap.size]? = _ from (Below.heap_setCell W ⟨g, 1, none⟩ _ _ hne).trans HR2.out)
        have HKb := Lib.hid (HK2.out.setCell (p := ⟨g, 1, none⟩) (.inl rfl) (.int .i64 ((a : Int) + 1)))
        clear hnn t61 t45
        go_upto_region 13 with fail
        obtain ⟨Wb, hWb⟩ : ∃ X, W.setCell ⟨g, 1, none⟩ (.int .i64 ((a : Int) + 1)) = X := ⟨_, rfl⟩
        rw [hWb] at HXb HOb HRb HKb ⊢
        clear hWb
        clear c0 c1 c2 f1 x0 x1 x2 x3 g0 hgl hbl q61 q45 q43
        obtain ⟨x0, x1, x2, x3⟩ := box4 HOb.out
        have g0 := froz_heap HOb.out 0
        have hbl := heap_lt HOb.out
        have HOc := Lib.hid (show (Wb.setCell ⟨b, 0, none⟩ (.int .i64 3)).heap[b]? = some (.cells #[.int .i64 3, .int .i64 0, .string ⟨#[]⟩, .slice none 0 0] 48 (0, 0)) from set_one HOb.out _)
        have HRc := Lib.hid (show (Wb.setCell ⟨b, 0, none⟩ (.int .i64 3)).heap[w.heap.size]? = _ from (Below.heap_setCell Wb ⟨b, 0, none⟩ _ _ hbw.symm).trans HRb.out)
        have HKc := Lib.hid (KpG.fresh (g := g) HKb.out (show w.heap.size ≤ b by omega) 0 (.int .i64 3))
        have HXc := Lib.hid (show RTx g s l1.tail (Wb.setCell ⟨b, 0, none⟩ (.int .i64 3)) from HXb.out.agree (Below.heap_setCell Wb ⟨b, 0, none⟩ _ _ hgb))
        go_upto_region 14 with fail
        obtain ⟨Wc, hWc⟩ : ∃ X, Wb.setCell ⟨b, 0, none⟩ (.int .i64 3) = X := ⟨_, rfl⟩
        rw [hWc] at HOc HRc HKc HXc ⊢
        clear hWc
        clear x0 x1 x2 x3 g0 hbl
        go_wp2_with fail
        refine (rnumber_step g s l1.tail Wc HXc.out hs).mono ?_
        rintro e w3 ⟨n, rfl, k3, hst⟩
        have HO3 := Lib.hid ((k3.block b (heap_lt HOc.out) hbg).trans HOc.out)
        have HR3 := Lib.hid ((k3.block _ (heap_lt HRc.out) hne).trans HRc.out)
        have HK3 := Lib.hid (HKc.out.trans k3)
        have HA3 := Lib.hid (show OSt g s R ⟨3, n, ⟨#[]⟩, []⟩ w3 from by
          rcases hst with ⟨r, e1, e2⟩ | ⟨k, e1, e2⟩
          · exact .inl ⟨r, by rw [HM2.out, e1], e2⟩
          · exact .inr ⟨k, by rw [HM2.out, e1], e2⟩)
        clear k3 hst
        obtain ⟨x0, x1, x2, x3⟩ := box4 HO3.out
        have g0 := froz_heap HO3.out 1
        have hbl := heap_lt HO3.out
        have HOd := Lib.hid (show (w3.setCell ⟨b, 1, none⟩ (.int .i64 n)).heap[b]? = some (.cells #[.int .i64 3, .int .i64 n, .string ⟨#[]⟩, .slice none 0 0] 48 (0, 0)) from set_one HO3.out _)
        have HRd := Lib.hid (show (w3.setCell ⟨b, 1, none⟩ (.int .i64 n)).heap[w.heap.size]? = _ from (Below.heap_setCell w3 ⟨b, 1, none⟩ _ _ hbw.symm).trans HR3.out)
        have HKd := Lib.hid (KpG.fresh (g := g) HK3.out (show w.heap.size ≤ b by omega) 1 (.int .i64 n))
        have HAd := Lib.hid (show OSt g s R ⟨3, n, ⟨#[]⟩, []⟩ (w3.setCell ⟨b, 1, none⟩ (.int .i64 n)) from HA3.out.agree (Below.heap_setCell w3 ⟨b, 1, none⟩ _ _ hgb))
        go_upto_region 20 with fail
        obtain ⟨Wd, hWd⟩ : ∃ X, w3.setCell ⟨b, 1, none⟩ (.int .i64 n) = X := ⟨_, rfl⟩
        rw [hWd] at HOd HRd HKd HAd ⊢
        clear hWd
        clear x0 x1 x2 x3 g0 hbl
        obtain ⟨x0, x1, x2, x3⟩ := box4 HOd.out
        obtain ⟨y0, y1, y2, y3⟩ := box4 HRd.out
        have f0 := froz_heap HRd.out 0; have f1 := froz_heap HRd.out 1; have f2 := froz_heap HRd.out 2; have f3 := froz_heap HRd.out 3
        have hbl := heap_lt HOd.out; have hrl := heap_lt HRd.out
        go_wp2_with fail
        obtain ⟨q0, q1, q2, q3⟩ := box4 (set4 HRd.out (.int .i64 3) (.int .i64 n) (.string ⟨#[]⟩) (.slice none 0 0))
        refine bodyPost_ret (v := opV ⟨3, n, ⟨#[]⟩, []⟩ (.slice none 0 0)) (by simp [results, Tryz.results89, go_sem, q0, q1, q2, q3, opV]) rfl ?_
        exact rop_end (b := b) (o := ⟨3, n, ⟨#[]⟩, []⟩) hgw (w.heap.size + 1) (by omega) HRd.out HOd.out hbw HKd.out (Rd.nil _ _ _ _) (Nat.zero_le _) HAd.out
      | false =>
        cases t43 : takeB 43 l1 with
        | true =>
          have hnn : l1 ≠ [] := by rintro rfl; simp [takeB] at t43
          have halt := HNE.out hnn
          rw [t43] at q43
          rw [t61] at HM q61
          rw [t45] at HM q45
          rw [t43] at HM
          have HM2 : Hid (R = match quotedM l1.tail with | .error k => .error k | .ok (d, r) => attrsThen (fun as_ => ⟨2, 0, mkB d, as_⟩) r) := Lib.hid (HM.out.trans rfl)
          have HXb := Lib.hid (show RTx g s l1.tail (W.setCell ⟨g, 1, none⟩ (.int .i64 ((a : Int) + 1))) from ⟨a + 1, halt, Txt.tail (g := 0) (w := w) HLA.out, set_heap1' HX3.out _⟩)
          have HOb := Lib.hid (show (W.setCell ⟨g, 1, none⟩ (.int .i64 ((a : Int) + 1))).heap[b]? = _ from (Below.heap_setCell W ⟨g, 1, none⟩ _ _ hbg).trans HO2.out)
          have HRb := Lib.hid (show (W.setCell ⟨g, 1, none⟩ (.int .i64 ((a : Int) + 1))).heap[w.heap.size]? = _ from (Below.heap_setCell W ⟨g, 1, none⟩ _ _ hne).trans HR2.out)
          have HKb := Lib.hid (HK2.out.setCell (p := ⟨g, 1, none⟩) (.inl rfl) (.int .i64 ((a : Int) + 1)))
          clear hnn t61 t45 t43
          go_upto_region 17 with fail
          obtain ⟨Wb, hWb⟩ : ∃ X, W.setCell ⟨g, 1, none⟩ (.int .i64 ((a : Int) + 1)) = X := ⟨_, rfl⟩
          rw [hWb] at HXb HOb HRb HKb ⊢
          clear hWb
          clear c0 c1 c2 f1 x0 x1 x2 x3 g0 hgl hbl q61 q45 q43
          obtain ⟨x0, x1, x2, x3⟩ := box4 HOb.out
          have g0 := froz_heap HOb.out 0
          have hbl := heap_lt HOb.out
          have HOc := Lib.hid (show (Wb.setCell ⟨b, 0, none⟩ (.int .i64 2)).heap[b]? = some (.cells #[.int .i64 2, .int .i64 0, .string ⟨#[]⟩, .slice none 0 0] 48 (0, 0)) from set_one HOb.out _)
          have HRc := Lib.hid (show (Wb.setCell ⟨b, 0, none⟩ (.int .i64 2)).heap[w.heap.size]? = _ from (Below.heap_setCell Wb ⟨b, 0, none⟩ _ _ hbw.symm).trans HRb.out)
          have HKc := Lib.hid (KpG.fresh (g := g) HKb.out (show w.heap.size ≤ b by omega) 0 (.int .i64 2))
          have HXc := Lib.hid (show RTx g s l1.tail (Wb.setCell ⟨b, 0, none⟩ (.int .i64 2)) from HXb.out.agree (Below.heap_setCell Wb ⟨b, 0, none⟩ _ _ hgb))
          go_upto_region 18 with fail
          obtain ⟨Wc, hWc⟩ : ∃ X, Wb.setCell ⟨b, 0, none⟩ (.int .i64 2) = X := ⟨_, rfl⟩
          rw [hWc] at HOc HRc HKc HXc ⊢
          clear hWc
          clear x0 x1 x2 x3 g0 hbl
          go_wp2_with fail
          refine (rquoted_step g s l1.tail Wc HXc.out hs).mono ?_
          rintro e w3 ⟨V, rfl, hvz, k3, hst⟩
          have HO3 := Lib.hid ((k3.block b (heap_lt HOc.out) hbg).trans HOc.out)
          have HR3 := Lib.hid ((k3.block _ (heap_lt HRc.out) hne).trans HRc.out)
          have HK3 := Lib.hid (HKc.out.trans k3)
          have HA3 := Lib.hid (show ASt g s R (fun as_ => (⟨2, 0, V, as_⟩ : OpM)) w3 from by
            rcases hst with ⟨d, r, e1, e3, e2⟩ | ⟨k, e1, e2⟩
            · exact .inl ⟨r, by rw [HM2.out, e1, e3], e2⟩
            · exact .inr ⟨k, by rw [HM2.out, e1], e2⟩)
          clear k3 hst
          obtain ⟨x0, x1, x2, x3⟩ := box4 HO3.out
          have g0 := froz_heap HO3.out 2
          have hbl := heap_lt HO3.out
          have HOd := Lib.hid (show (w3.setCell ⟨b, 2, none⟩ (.string V)).heap[b]? = some (.cells #[.int .i64 2, .int .i64 0, .string V, .slice none 0 0] 48 (0, 0)) from set_one HO3.out _)
          have HRd := Lib.hid (show (w3.setCell ⟨b, 2, none⟩ (.string V)).heap[w.heap.size]? = _ from (Below.heap_setCell w3 ⟨b, 2, none⟩ _ _ hbw.symm).trans HR3.out)
          have HKd := Lib.hid (KpG.fresh (g := g) HK3.out (show w.heap.size ≤ b by omega) 2 (.string V))
          have HAd := Lib.hid (show ASt g s R (fun as_ => (⟨2, 0, V, as_⟩ : OpM)) (w3.setCell ⟨b, 2, none⟩ (.string V)) from HA3.out.agree (Below.heap_setCell w3 ⟨b, 2, none⟩ _ _ hgb))
          go_upto_region 19 with fail
          obtain ⟨Wd, hWd⟩ : ∃ X, w3.setCell ⟨b, 2, none⟩ (.string V) = X := ⟨_, rfl⟩
          rw [hWd] at HOd HRd HKd HAd ⊢
          clear hWd
          clear x0 x1 x2 x3 g0 hbl
          go_wp2_with fail
          refine (rattrs_step g s R _ Wd HAd.out hs).mono ?_
          rintro e w5 ⟨A, na, ca, as_, rfl, hva, k5, ho5⟩
          have HO5 := Lib.hid ((k5.block b (heap_lt HOd.out) hbg).trans HOd.out)
          have HR5 := Lib.hid ((k5.block _ (heap_lt HRd.out) hne).trans HRd.out)
          have HK5 := Lib.hid (HKd.out.trans k5)
          have HV5 := Lib.hid hva
          have HS5 := Lib.hid ho5
          have hbd := heap_lt HOd.out
          clear k5 hva ho5
          obtain ⟨x0, x1, x2, x3⟩ := box4 HO5.out
          have g0 := froz_heap HO5.out 3
          have hbl := heap_lt HO5.out
          have HOe := Lib.hid (show (w5.setCell ⟨b, 3, none⟩ (.slice A na ca)).heap[b]? = some (.cells #[.int .i64 2, .int .i64 0, .string V, .slice A na ca] 48 (0, 0)) from set_one HO5.out _)
          have HRe := Lib.hid (show (w5.setCell ⟨b, 3, none⟩ (.slice A na ca)).heap[w.heap.size]? = _ from (Below.heap_setCell w5 ⟨b, 3, none⟩ _ _ hbw.symm).trans HR5.out)
          have HKe := Lib.hid (KpG.fresh (g := g) HK5.out (show w.heap.size ≤ b by omega) 3 (.slice A na ca))
          have HAe := Lib.hid (show OSt g s R ⟨2, 0, V, as_⟩ (w5.setCell ⟨b, 3, none⟩ (.slice A na ca)) from HS5.out.agree (Below.heap_setCell w5 ⟨b, 3, none⟩ _ _ hgb))
          have HVe := Lib.hid (show RdA (w5.setCell ⟨b, 3, none⟩ (.slice A na ca)) (fun k => Wd.heap.size ≤ k ∧ TyA (w5.setCell ⟨b, 3, none⟩ (.slice A na ca)) k) (.slice A na ca) as_ from rdA_set HV5.out hbd _ _)
          go_upto_region 20 with fail
          obtain ⟨We, hWe⟩ : ∃ X, w5.setCell ⟨b, 3, none⟩ (.slice A na ca) = X := ⟨_, rfl⟩
          rw [hWe] at HOe HRe HKe HAe HVe ⊢
          clear hWe
          clear x0 x1 x2 x3 g0 hbl
          obtain ⟨x0, x1, x2, x3⟩ := box4 HOe.out
          obtain ⟨y0, y1, y2, y3⟩ := box4 HRe.out
          have f0 := froz_heap HRe.out 0; have f1 := froz_heap HRe.out 1; have f2 := froz_heap HRe.out 2; have f3 := froz_heap HRe.out 3
          have hbl := heap_lt HOe.out; have hrl := heap_lt HRe.out
          go_wp2_with fail
          obtain ⟨q0, q1, q2, q3⟩ := box4 (set4 HRe.out (.int .i64 2) (.int .i64 0) (.string V) (.slice A na ca))
          refine bodyPost_ret (v := opV ⟨2, 0, V, as_⟩ (.slice A na ca)) (by simp [results, Tryz.results89, go_sem, q0, q1, q2, q3, opV]) rfl ?_
          exact rop_end (b := b) (o := ⟨2, 0, V, as_⟩) hgw Wd.heap.size (by omega) HRe.out HOe.out hbw HKe.out HVe.out hvz HAe.out
        | false =>
          rw [t61] at q61 HM; rw [t45] at q45 HM; rw [t43] at q43 HM
          have HM' := Lib.hid (show R = .error l1.length from HM.out)
          clear t61 t45 t43
          go_wp2_with fail
          refine (rbad_good g s l1 l1.length W HX2.out HX2.out.left _ ?_ hs).mono ?_
          · omega
          rintro e w3 ⟨rfl, b3, k3⟩
          have HB3 := Lib.hid b3
          have HO3 := Lib.hid ((k3.block b hbl hbg).trans HO2.out)
          have HR3 := Lib.hid ((k3.block _ (heap_lt HR2.out) hne).trans HR2.out)
          have HK3 := Lib.hid (HK2.out.trans k3)
          clear k3 b3 c0 c1 c2 f1 x0 x1 x2 x3 g0
          obtain ⟨x0, x1, x2, x3⟩ := box4 HO3.out
          obtain ⟨y0, y1, y2, y3⟩ := box4 HR3.out
          have f0 := froz_heap HR3.out 0; have f1 := froz_heap HR3.out 1; have f2 := froz_heap HR3.out 2; have f3 := froz_heap HR3.out 3
          go_wp2_with fail
          obtain ⟨q0, q1, q2, q3⟩ := box4 (set4 HR3.out (.int .i64 0) (.int .i64 0) (.string ⟨#[]⟩) (.slice none 0 0))
          refine bodyPost_ret (v := opV ⟨0, 0, ⟨#[]⟩, []⟩ (.slice none 0 0)) (by simp [results, Tryz.results89, go_sem, q0, q1, q2, q3, opV]) rfl ?_
          exact rop_end (b := b) (o := ⟨0, 0, ⟨#[]⟩, []⟩) hgw (w.heap.size + 1) (by omega) HR3.out HO3.out hbw HK3.out (Rd.nil _ _ _ _) (Nat.zero_le _) (.inr ⟨_, HM'.out, HB3.out⟩)
end
end Go.Proofs.YtdpmjlkmjmookaaGreatDoor
