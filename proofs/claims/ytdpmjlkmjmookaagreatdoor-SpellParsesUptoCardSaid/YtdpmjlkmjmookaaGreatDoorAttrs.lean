/-
  Package attrs: which attributes may be (Change, Right), which are the same, walked.
-/
import Derived.Test.YtdpmjlkmjmookaaGreatDoorLib
import Derived.BigQuiet
import Derived.Deep.QuietTactic
import Derived.Outline
import Derived.Deep.DeepFit
namespace Go.Proofs.YtdpmjlkmjmookaaGreatDoor
open Go.RowKit

theorem ret_bool {a b : Bool} (h : a = b) : Ending.returned (.bool a) = .returned (.bool b) := by rw [h]
theorem ret_int {k : IntKind} {a b : Int} (h : a = b) : Ending.returned (.int k a) = .returned (.int k b) := by rw [h]

def keyBytes : List UInt8 := [65, 66, 67, 68, 69, 70, 71, 72, 73, 74, 75, 76, 77, 78, 79, 80, 81, 82, 83, 84, 85, 86, 87, 88, 89, 90, 97, 98, 99, 100, 101, 102, 103, 104, 105, 106, 107, 108, 109, 110, 111, 112, 113, 114, 115, 116, 117, 118, 119, 120, 121, 122, 48, 49, 50, 51, 52, 53, 54, 55, 56, 57, 45, 95]
def isKeyB (u : UInt8) : Bool := decide (0 ≤ Lib.indexByte keyBytes u)
def isValB (u : UInt8) : Bool := decide (32 ≤ u.toNat) && decide (u.toNat ≤ 126)
def madeB (p : UInt8 → Bool) (s : ByteArray) (most : Nat) : Bool := s.data.toList.all p && decide (s.size ≤ most)
def keyOk (s : ByteArray) : Bool := !s.toList.isEmpty && madeB isKeyB s 32
def valOk (s : ByteArray) : Bool := madeB isValB s 64

theorem among_any (s : ByteArray) (c : Int) (w : World) :
    Calls Tryz.prog 246 #[.int .u8 c, .string s] w fun e w' => e = .returned (.bool (decide (0 ≤ Lib.indexByte s.data.toList c.toNat.toUInt8))) ∧ w = w' := by
  go_enter Tryz.func246, Tryz.ntmps246
  go_wp2_with (go_at_call 170; refine (Tryz.strings_IndexByte _ _ _).mono ?_; rintro e w' ⟨rfl, rfl⟩)
  go_ret
  exact ⟨rfl, rfl⟩
theorem change1_any (u : UInt8) (w : World) :
    Calls Tryz.prog 245 #[.int .u8 u.toNat] w fun e w' => e = .returned (.bool (isKeyB u)) ∧ w = w' := by
  go_enter Tryz.func245, Tryz.ntmps245
  go_wp2_with (go_at_call 246; refine (among_any _ _ _).mono ?_; rintro e w' ⟨rfl, rfl⟩)
  go_ret
  exact ⟨rfl, rfl⟩
theorem change2_any (u : UInt8) (w : World) :
    Calls Tryz.prog 247 #[.int .u8 u.toNat] w fun e w' => e = .returned (.bool (isValB u)) ∧ w = w' := by
  by_cases h : 32 ≤ u.toNat
  all_goals
    go_enter Tryz.func247, Tryz.ntmps247
    go_wp2
    go_ret
    exact ⟨by simp [isValB, h]; try omega, rfl⟩

theorem take_all_snoc {α : Type} (p : α → Bool) (l : List α) (k : Nat) (h : k < l.length) : (l.take (k + 1)).all p = ((l.take k).all p && p l[k]) := by
  rw [List.take_succ_eq_append_getElem h, List.all_append]; simp
theorem not_all_of {α : Type} (p : α → Bool) (l : List α) (k : Nat) (h : k < l.length) (hp : p l[k] = false) : l.all p = false := by
  rw [List.all_eq_false]; exact ⟨l[k], List.getElem_mem h, by simp [hp]⟩

set_option maxHeartbeats 400000 in
theorem made_any (p : UInt8 → Bool) (fid : Nat) (hp : ∀ (u : UInt8) (w : World), Calls Tryz.prog fid #[.int .u8 u.toNat] w fun e w' => e = .returned (.bool (p u)) ∧ w = w')
    (hent : ∀ args w, (callFunc fid args).run Tryz.prog w = .ok (.enter fid args) w)
    (s : ByteArray) (most : Nat) (_hm : (most : Int) ≤ 9223372036854775807) (hs : s.size ≤ 9223372036854775807) (w : World) :
    Calls Tryz.prog 244 #[.string s, .int .i64 most, .func (.func fid) #[] #[]] w fun e w' => e = .returned (.bool (madeB p s most)) ∧ w = w' := by
  have HP := Lib.hid hp; clear hp
  go_enter Tryz.func244, Tryz.ntmps244
  go_wp2
  go_loop [10] (fun i => ∃ k : Nat, k ≤ s.size ∧ i = .int .i64 k ∧ (s.data.toList.take k).all p = true) (fun i => s.size - (intOf i).toNat)
  case atStart => exact ⟨0, by omega, rfl, by simp⟩
  case round =>
    obtain ⟨k, hk, rfl, hf⟩ := hrel
    have HF := Lib.hid hf; clear hf
    by_cases hlt : k < s.size
    · have hl : k < s.data.toList.length := by rw [← Lib.size_eq]; exact hlt
      have hts := take_all_snoc p s.data.toList k hl
      have HS := Lib.hid hts; clear hts
      go_wp2_with fail
      refine (HP.out _ _).mono ?_
      rintro e w' ⟨rfl, rfl⟩
      by_cases hpk : p s[k] = true
      · go_wp2
        exact ⟨⟨k + 1, by omega, by go_num, by rw [HS.out, HF.out]; exact hpk⟩, by simp [intOf]; omega⟩
      · have hpf : p s[k] = false := by simpa using hpk
        have hA : s.data.toList.all p = false := not_all_of p _ k hl hpf
        have HA := Lib.hid hA; clear hA
        go_wp2
        go_ret
        exact ⟨ret_bool (by unfold madeB; rw [HA.out]; rfl), rfl⟩
    · have hall : s.data.toList.all p = true := by
        have h := HF.out; rwa [List.take_of_length_le (by rw [← Lib.size_eq]; omega)] at h
      have HA := Lib.hid hall; clear hall
      go_wp2
      go_ret
      exact ⟨ret_bool (by unfold madeB; rw [HA.out]; simp), rfl⟩

/-! ### slices.IndexFunc, ContainsFunc over attributes -/
def idxA (p : At → Bool) (l : List At) : Int := if l.findIdx p < l.length then l.findIdx p else -1

theorem findIdx_lt_of {α : Type} (p : α → Bool) (l : List α) (k : Nat) (h : k < l.length) (hf : k ≤ l.findIdx p) (hp : p l[k] = true) : l.findIdx p = k := by
  rcases Nat.lt_or_ge k (l.findIdx p) with h1 | h1
  · have := List.not_of_lt_findIdx h1; simp [hp] at this
  · omega
theorem findIdx_ge_of {α : Type} (p : α → Bool) (l : List α) (k : Nat) (h : k < l.length) (hf : k ≤ l.findIdx p) (hp : p l[k] = false) : k + 1 ≤ l.findIdx p := by
  rcases Nat.lt_or_ge k (l.findIdx p) with h1 | h1
  · exact h1
  · have e : l.findIdx p = k := by omega
    have h2 : l.findIdx p < l.length := by omega
    have := List.findIdx_getElem (w := h2)
    simp only [e] at this; rw [hp] at this; cases this

set_option maxHeartbeats 400000 in
theorem indexA_any (p : At → Bool) (fid : Nat) (hp : ∀ (a : At) (w : World), Calls Tryz.prog fid #[.agg #[.string a.k, .string a.v]] w fun e w' => e = .returned (.bool (p a)) ∧ Below w.heap.size w w')
    (hent : ∀ args w, (callFunc fid args).run Tryz.prog w = .ok (.enter fid args) w)
    (v : Value) (l : List At) (F : Nat → Prop) (w : World) (h : RdA w F v l) :
    Calls Tryz.prog 254 #[v, .func (.func fid) #[] #[]] w fun e w' => e = .returned (.int .i64 (idxA p l)) ∧ Below w.heap.size w w' := by
  obtain ⟨A, cap, rfl, hc, hcm, hm, hcell⟩ := h.open_
  have HP := Lib.hid hp; clear hp
  have HC := Lib.hid hcell; clear hcell
  have H := Lib.hid h; clear h
  go_enter Tryz.func254, Tryz.ntmps254
  go_wp2
  go_loopw [8] (fun i wr => ∃ k : Nat, k ≤ l.length ∧ i = .int .i64 k ∧ Below w.heap.size w wr ∧ k ≤ l.findIdx p) (fun i _ => l.length - (intOf i).toNat)
  case atStart => exact ⟨0, by omega, rfl, Below.refl _ _, by omega⟩
  case round =>
    obtain ⟨k, hk, rfl, hb, hf⟩ := hrel
    by_cases hlt : k < l.length
    · obtain ⟨b, off, rfl, hF⟩ := HC.out (by omega)
      obtain ⟨c0, c1⟩ := (H.out.pure hb).at_ k hlt
      go_wp2_with fail
      refine (HP.out _ _).mono ?_
      rintro e w' ⟨rfl, hb2⟩
      by_cases hpk : p l[k] = true
      · have hi : idxA p l = k := by unfold idxA; rw [findIdx_lt_of p l k hlt hf hpk, if_pos hlt]
        have HI := Lib.hid hi; clear hi
        go_wp2
        go_ret
        exact ⟨ret_int HI.out.symm, hb.trans (hb2.mono hb.size)⟩
      · have hpf : p l[k] = false := by simpa using hpk
        have hg := findIdx_ge_of p l k hlt hf hpf
        go_wp2
        exact ⟨⟨k + 1, by omega, by go_num, hb.trans (hb2.mono hb.size), hg⟩, by simp [intOf]; omega⟩
    · have hi : idxA p l = -1 := by unfold idxA; rw [if_neg (by omega)]
      have HI := Lib.hid hi; clear hi
      go_wp2
      go_ret
      exact ⟨ret_int HI.out.symm, hb⟩

theorem containsA_any (p : At → Bool) (fid : Nat) (hp : ∀ (a : At) (w : World), Calls Tryz.prog fid #[.agg #[.string a.k, .string a.v]] w fun e w' => e = .returned (.bool (p a)) ∧ Below w.heap.size w w')
    (hent : ∀ args w, (callFunc fid args).run Tryz.prog w = .ok (.enter fid args) w)
    (v : Value) (l : List At) (F : Nat → Prop) (w : World) (h : RdA w F v l) :
    Calls Tryz.prog 242 #[v, .func (.func fid) #[] #[]] w fun e w' => e = .returned (.bool (l.any p)) ∧ Below w.heap.size w w' := by
  obtain ⟨A, cap, rfl, hc, hcm, hm, hcell⟩ := h.open_
  go_enter Tryz.func242, Tryz.ntmps242
  go_wp2_with (go_at_call 254; refine (indexA_any p fid hp hent _ l F _ h).mono ?_)
  rintro e w' ⟨rfl, hb⟩
  go_wp2
  go_ret
  refine ⟨ret_bool ?_, hb⟩
  unfold idxA
  by_cases hx : l.findIdx p < l.length
  · rw [if_pos hx]
    have := List.findIdx_lt_length.1 hx
    simp only [Int.natCast_nonneg, decide_true]
    symm; rw [List.any_eq_true]; exact this
  · rw [if_neg hx]
    have h1 : l.any p = false := by
      rw [Bool.eq_false_iff]; intro ht; rw [List.any_eq_true] at ht; exact hx (List.findIdx_lt_length.2 ht)
    rw [h1]; rfl

theorem right1_any (a : At) (w : World) :
    Calls Tryz.prog 243 #[.agg #[.string a.k, .string a.v]] w fun e w' => e = .returned (.bool a.v.toList.isEmpty) ∧ Below w.heap.size w w' := by
  go_enter Tryz.func243, Tryz.ntmps243
  go_wp2
  go_ret
  exact ⟨rfl, (Below.refl _ w).alloc (Nat.le_refl _) _⟩

/-! ### Change -/
theorem ent245 : ∀ args w, (callFunc 245 args).run Tryz.prog w = .ok (.enter 245 args) w := enters_of Tryz.func245 (by kernel_rfl) rfl
theorem ent247 : ∀ args w, (callFunc 247 args).run Tryz.prog w = .ok (.enter 247 args) w := enters_of Tryz.func247 (by kernel_rfl) rfl
theorem ent243 : ∀ args w, (callFunc 243 args).run Tryz.prog w = .ok (.enter 243 args) w := enters_of Tryz.func243 (by kernel_rfl) rfl
def ltPrev (l : List At) (a : At) : Nat → Bool
  | 0 => true
  | j + 1 => match l[j]? with
    | some b => Op.bytesLess b.k.toList a.k.toList
    | none => true
/-- may attribute i stand where it stands? -/
def okAt (l : List At) (i : Nat) : Bool := match l[i]? with
  | some a => decide (i < 8) && keyOk a.k && valOk a.v && ltPrev l a i
  | none => true
def okChange (l : List At) : Bool := (List.range l.length).all (okAt l)
def changeE (l : List At) : Int := if okChange l then 0 else 20
theorem okChange_snoc (l : List At) (k : Nat) : (List.range (k + 1)).all (okAt l) = ((List.range k).all (okAt l) && okAt l k) := by rw [List.range_succ, List.all_append]; simp
theorem changeE_bad (l : List At) (k : Nat) (hk : k < l.length) (h : okAt l k = false) : changeE l = 20 := by
  unfold changeE okChange
  rw [if_neg]
  rw [Bool.not_eq_true, List.all_eq_false]
  exact ⟨k, List.mem_range.2 hk, by simp [h]⟩
theorem okAt_of (l : List At) (k : Nat) (hk : k < l.length) : okAt l k = (decide (k < 8) && keyOk l[k].k && valOk l[k].v && ltPrev l l[k] k) := by
  unfold okAt; rw [List.getElem?_eq_getElem hk]
theorem ltPrev_succ (l : List At) (a : At) (j : Nat) (hj : j < l.length) : ltPrev l a (j + 1) = Op.bytesLess l[j].k.toList a.k.toList := by
  show (match l[j]? with | some b => Op.bytesLess b.k.toList a.k.toList | none => true) = _
  rw [List.getElem?_eq_getElem hj]

set_option maxHeartbeats 1000000 in
theorem change_any (v : Value) (l : List At) (F : Nat → Prop) (w : World) (h : RdA w F v l) :
    Calls Tryz.prog 210 #[v] w fun e w' => e = .returned (.int .i64 (changeE l)) ∧ Below w.heap.size w w' := by
  obtain ⟨A, cap, rfl, hc, hcm, hm, hcell⟩ := h.open_
  have HC := Lib.hid hcell; clear hcell
  have H := Lib.hid h; clear h
  go_enter Tryz.func210, Tryz.ntmps210
  go_wp2
  go_loopw [9] (fun i wr => ∃ k : Nat, k ≤ l.length ∧ i = .int .i64 k ∧ Below w.heap.size w wr ∧ (List.range k).all (okAt l) = true) (fun i _ => l.length - (intOf i).toNat)
  case atStart => exact ⟨0, by omega, rfl, Below.refl _ _, by simp⟩
  case round =>
    obtain ⟨k, hk, rfl, hb, hf⟩ := hrel
    have HF := Lib.hid hf; clear hf
    by_cases hlt : k < l.length
    · obtain ⟨b, off, rfl, hF⟩ := HC.out (by omega)
      obtain ⟨c0, c1⟩ := (H.out.pure hb).at_ k hlt
      obtain ⟨hs0, hs1⟩ : l[k].k.size ≤ 9223372036854775807 ∧ l[k].v.size ≤ 9223372036854775807 := by
        have := H.out.sizes _ (List.getElem_mem hlt); omega
      have hbl : b < wr.heap.size := World.block_lt_of_cell? wr _ c0
      have HOK := Lib.hid (okAt_of l k hlt)
      have hbw : Below w.heap.size w (wr.alloc (.cells #[.string l[k].k, .string l[k].v] 89)) := hb.alloc hb.size _
      by_cases hke : l[k].k.toList.isEmpty = true
      · have hbad : changeE l = 20 := changeE_bad l k hlt (by rw [HOK.out]; simp [keyOk, hke])
        have HB := Lib.hid hbad; clear hbad
        go_wp2_with fail
        refine (made_any isValB _ change2_any ent247 _ 64 (by omega) hs1 _).mono ?_
        rintro e w' ⟨rfl, rfl⟩
        go_wp2_with fail
        by_cases h8 : 8 ≤ k
        · have hd8 : decide ((8 : Int) ≤ (k : Int)) = true := by simp; omega
          go_quiet (fail)
          go_wp2
          go_ret
          exact ⟨ret_int HB.out.symm, below_drewN hbw _⟩
        · have hd8 : decide ((8 : Int) ≤ (k : Int)) = false := by simp; omega
          go_quiet (fail)
          go_wp2
          go_ret
          exact ⟨ret_int HB.out.symm, below_drewN hbw _⟩
      · have hke' : l[k].k.toList.isEmpty = false := by simpa using hke
        clear hke
        go_wp2_with fail
        refine (made_any isKeyB _ change1_any ent245 _ 32 (by omega) hs0 _).mono ?_
        rintro e w' ⟨rfl, rfl⟩
        go_wp2_with fail
        refine (made_any isValB _ change2_any ent247 _ 64 (by omega) hs1 _).mono ?_
        rintro e w' ⟨rfl, rfl⟩
        obtain ⟨kb, hkb⟩ : ∃ kb, madeB isKeyB l[k].k 32 = kb := ⟨_, rfl⟩
        obtain ⟨vb, hvb⟩ : ∃ vb, madeB isValB l[k].v 64 = vb := ⟨_, rfl⟩
        rw [hkb, hvb]
        have HKB := Lib.hid hkb; have HVB := Lib.hid hvb; clear hkb hvb
        go_wp2_with fail
        by_cases h8 : 8 ≤ k
        · have hd8 : decide ((8 : Int) ≤ (k : Int)) = true := by simp; omega
          have hbad : changeE l = 20 := changeE_bad l k hlt (by rw [HOK.out]; simp; omega)
          have HB := Lib.hid hbad; clear hbad
          go_quiet (fail)
          go_wp2
          go_ret
          exact ⟨ret_int HB.out.symm, below_drewN hbw _⟩
        have hd8 : decide ((8 : Int) ≤ (k : Int)) = false := by simp; omega
        cases kb with
        | false =>
          have hbad : changeE l = 20 := changeE_bad l k hlt (by rw [HOK.out]; simp [keyOk, HKB.out])
          have HB := Lib.hid hbad; clear hbad
          go_quiet (fail)
          go_wp2
          go_ret
          exact ⟨ret_int HB.out.symm, below_drewN hbw _⟩
        | true =>
          cases vb with
          | false =>
            have hbad : changeE l = 20 := changeE_bad l k hlt (by rw [HOK.out]; simp [valOk, HVB.out])
            have HB := Lib.hid hbad; clear hbad
            go_quiet (fail)
            go_wp2
            go_ret
            exact ⟨ret_int HB.out.symm, below_drewN hbw _⟩
          | true =>
            have hok2 : okAt l k = ltPrev l l[k] k := by
              rw [HOK.out]; unfold keyOk valOk
              rw [HKB.out, HVB.out, hke', show decide (k < 8) = true from by simp; omega]; rfl
            have HOK2 := Lib.hid hok2; clear hok2
            by_cases h0 : 0 < k
            · have hd0 : decide ((0 : Int) < (k : Int)) = true := by simp; omega
              have hk1 : k - 1 < l.length := by omega
              obtain ⟨d0, d1⟩ := (H.out.pure hb).at_ (k - 1) hk1
              have hpl : ltPrev l l[k] k = Op.bytesLess (l[k - 1]'hk1).k.toList l[k].k.toList := by
                obtain ⟨j, rfl⟩ : ∃ j, k = j + 1 := ⟨k - 1, by omega⟩
                exact ltPrev_succ l _ j (by omega)
              have HPL := Lib.hid hpl; clear hpl
              have e1 : IntKind.i64.wrap ((k : Int) - 1) = (k : Int) - 1 := IntWalk.i64_in _ (by omega)
              have e2 : (0 : Int) ≤ (k : Int) - 1 := by omega
              have e3 : ((k : Int) - 1).toNat = k - 1 := by omega
              have e4 : (k : Int) - 1 < (l.length : Int) := by omega
              by_cases hless : Op.bytesLess (l[k - 1]'hk1).k.toList l[k].k.toList = true
              · go_quiet (fail)
                clear e1 e2 e3 e4
                have hok : (List.range (k + 1)).all (okAt l) = true := by rw [okChange_snoc, HF.out, HOK2.out, HPL.out, hless]; rfl
                have HR := Lib.hid hok; clear hok
                go_wp2
                exact ⟨⟨k + 1, by omega, by go_num, below_drewN hbw _, HR.out⟩, by simp [intOf]; omega⟩
              · have hless' : Op.bytesLess (l[k - 1]'hk1).k.toList l[k].k.toList = false := by simpa using hless
                have hbad : changeE l = 20 := changeE_bad l k hlt (by rw [HOK2.out, HPL.out]; exact hless')
                have HB := Lib.hid hbad; clear hbad
                clear hless
                go_quiet (fail)
                clear e1 e2 e3 e4
                go_wp2
                go_ret
                exact ⟨ret_int HB.out.symm, below_drewN hbw _⟩
            · have hd0 : decide ((0 : Int) < (k : Int)) = false := by simp; omega
              have hok : (List.range (k + 1)).all (okAt l) = true := by
                rw [okChange_snoc, HF.out, HOK2.out]
                obtain rfl : k = 0 := by omega
                rfl
              have HR := Lib.hid hok; clear hok
              go_quiet (fail)
              go_wp2
              exact ⟨⟨k + 1, by omega, by go_num, below_drewN hbw _, HR.out⟩, by simp [intOf]; omega⟩
    · have hgood : changeE l = 0 := by
        unfold changeE okChange
        rw [show l.length = k from by omega, HF.out]; rfl
      have HG := Lib.hid hgood; clear hgood
      go_wp2
      go_ret
      exact ⟨ret_int HG.out.symm, hb⟩

def rightE (l : List At) : Int := if l.any (fun a => a.v.toList.isEmpty) then 20 else changeE l
theorem attrsRight_any (v : Value) (l : List At) (F : Nat → Prop) (w : World) (h : RdA w F v l) :
    Calls Tryz.prog 209 #[v] w fun e w' => e = .returned (.int .i64 (rightE l)) ∧ Below w.heap.size w w' := by
  obtain ⟨A, cap, rfl, hc, hcm, hm, hcell⟩ := h.open_
  clear hcell
  have H := Lib.hid h; clear h
  go_enter Tryz.func209, Tryz.ntmps209
  go_wp2_with fail
  refine (containsA_any (fun a => a.v.toList.isEmpty) _ right1_any ent243 _ l F _ H.out).mono ?_
  rintro e w' ⟨rfl, hb⟩
  by_cases hany : l.any (fun a => a.v.toList.isEmpty) = true
  · have HA := Lib.hid (show rightE l = 20 by unfold rightE; rw [if_pos hany])
    go_wp2
    go_ret
    exact ⟨ret_int HA.out.symm, hb⟩
  · have HA := Lib.hid (show rightE l = changeE l by unfold rightE; rw [if_neg hany])
    have hany' : l.any (fun a => a.v.toList.isEmpty) = false := by simpa using hany
    clear hany
    go_wp2_with fail
    refine (change_any _ l F _ (H.out.pure hb)).mono ?_
    rintro e w'' ⟨rfl, hb2⟩
    go_wp2
    go_ret
    exact ⟨ret_int HA.out.symm, pure_trans hb hb2⟩
end Go.Proofs.YtdpmjlkmjmookaaGreatDoor
