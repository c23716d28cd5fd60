/-
  Package spell: a text in quotes read (quoted), walked.
  Package spell: the attributes read (attrs), walked.
  Package spell: an operation read (op), walked.
-/
import Derived.Test.YtdpmjlkmjmookaaGreatDoorRds
namespace Go.Proofs.YtdpmjlkmjmookaaGreatDoor
section
open Go.RowKit Go.PlainAid

theorem Bld.kpG {B b g : Nat} {l : List UInt8} {w w' : World} (h : Bld B b l w) (hb : KpG g w w') (hg : g < B) : Bld B b l w' := by
  have key : ∀ p, Lib.BuilderAtF 94 5 B b p (Lib.byteCells l) w → Lib.BuilderAtF 94 5 B b p (Lib.byteCells l) w' := fun p h => by
    have hlt := h.lt
    obtain ⟨hB, v, hv, hown, hne⟩ := h
    exact ⟨hB, v, (hb.block b hlt (by omega)).trans hv, hown.kept (row := some g) ⟨hb.os, hb.tape, hb.output, hb.size, fun k hk hn => hb.block k hk (fun e => hn (congrArg some e))⟩ (Or.inr fun e => by have := (hown.lt g e).1; omega), hne⟩
  exact h.elim (fun x => .inl (key _ x)) (fun x => .inr (key _ x))
theorem Txt.below {g B : Nat} {s : ByteArray} {l : List UInt8} {w w' : World} (h : Txt g s l w) (hb : Below B w w') (hg : g < B) : Txt g s l w' := by
  obtain ⟨a, h1, h2, h3⟩ := h
  exact ⟨a, h1, h2, (hb.block _ hg).trans h3⟩
theorem Wrote.kpG {B b g : Nat} {w w' : World} (h : Wrote B b w w') {w0 : World} (hk : KpG g w0 w) (hB : w0.heap.size ≤ B) : KpG g w0 w' :=
  ⟨h.below.os.trans hk.os, h.below.tape.trans hk.tape, h.below.output.trans hk.output, Nat.le_trans hk.size h.below.size, fun i hi hs => (h.below.block i (by omega)).trans (hk.block i hi hs)⟩

def strF : Nat → List UInt8 → Except Nat (List UInt8 × List UInt8)
  | 0, l => .error l.length
  | n + 1, l => match l with
    | [] => .error 0
    | c :: r => if c = 34 then .ok ([], r) else if ctl c then .error (r.length + 1) else if c = 92 then match escM r with
        | .error k => .error k
        | .ok (b, r2) => match strF n r2 with
          | .error k => .error k
          | .ok (d, r3) => .ok (b :: d, r3)
      else match strF n r with
        | .error k => .error k
        | .ok (d, r3) => .ok (c :: d, r3)
def quotedM (l : List UInt8) : Except Nat (List UInt8 × List UInt8) := if takeB 34 l then strF l.length l.tail else .error l.length
def pushR (acc : List UInt8) : Except Nat (List UInt8 × List UInt8) → Except Nat (List UInt8 × List UInt8)
  | .error k => .error k
  | .ok (d, r) => .ok (acc ++ d, r)
theorem pushR_nil (x : Except Nat (List UInt8 × List UInt8)) : pushR [] x = x := by cases x <;> simp [pushR]
theorem hexN_len {k : Nat} : ∀ {l r : List UInt8} {n : Int}, hexN k l = .ok (n, r) → r.length ≤ l.length := by
  induction k with
  | zero => intro l r n h; injection h with h; injection h with h1 h2; subst h2; exact Nat.le_refl _
  | succ k ih =>
    intro l r n h
    unfold hexN at h
    split at h
    · cases h
    · rename_i m r1 h1
      have i1 := ih h1
      split at h
      · cases h
      · rename_i d r2 h2
        injection h with h; injection h with h3 h4; subst h4
        unfold hexSt at h2
        split at h2
        · cases h2
        · injection h2 with h2; injection h2 with h5 h6
          subst h6; simp; omega
theorem escM_len {l r : List UInt8} {b : UInt8} (h : escM l = .ok (b, r)) : r.length < l.length := by
  have ht : ∀ c, takeB c l = true → l.tail.length < l.length := fun c hc => by cases l with
    | nil => simp [takeB] at hc
    | cons a l => simp
  unfold escM at h
  split at h
  · rename_i h1; injection h with h; injection h with h3 h4; subst h4; exact ht _ h1
  · split at h
    · rename_i h1; injection h with h; injection h with h3 h4; subst h4; exact ht _ h1
    · split at h
      · rename_i h1; injection h with h; injection h with h3 h4; subst h4; exact ht _ h1
      · split at h
        · rename_i h1
          split at h
          · cases h
          · rename_i n r1 h2
            split at h
            · cases h
            · injection h with h; injection h with h3 h4; subst h4
              have := hexN_len h2; have := ht _ h1; omega
        · cases h
theorem takeB_iff (c : UInt8) (l : List UInt8) : takeB c l = true ↔ ∃ r, l = c :: r := by
  cases l with
  | nil => simp [takeB]
  | cons a r => simp [takeB]
theorem seeM_cons (c : UInt8) (r : List UInt8) : seeM (c :: r) = (c.toNat : Int) := rfl
theorem ctl_iff (c : UInt8) : ctl c = (decide ((c.toNat : Int) < 32) || ((c.toNat : Int) == 127)) := by
  unfold ctl
  have h1 : decide ((c.toNat : Int) < 32) = decide (c.toNat < 32) := by simp; omega
  have h2 : ((c.toNat : Int) == 127) = (c == 127) := by
    cases h : (c == 127) with
    | true => rw [beq_iff_eq] at h; subst h; rfl
    | false =>
      rw [beq_eq_false_iff_ne] at *
      intro e; apply h; exact u8_of (n := 127) (by omega) (by decide)
  rw [h1, h2]

set_option maxHeartbeats 4000000 in
theorem rdQuoted_any (g : Nat) (s : ByteArray) (l : List UInt8) (w : World) (hx : Txt g s l w) (hs : s.size ≤ 1099511627776) :
    Calls Tryz.prog 86 #[.pointer (some ⟨g, 0, none⟩)] w (RdPost g s strV (quotedM l) w) := by
  have HX := Lib.hid hx; clear hx
  go_enter Tryz.func86, Tryz.ntmps86
  go_wp2_with fail
  refine (must_any 34 g s l _ HX.out hs).mono ?_
  rintro e w1 (⟨t34, rfl, h2, k2⟩ | ⟨t34, rfl, k2⟩)
  case inr =>
    unfold wrongE
    refine ⟨rfl, ?_⟩
    unfold RdPost quotedM; rw [if_neg (by rw [t34]; simp)]
    exact ⟨rfl, k2⟩
  case inl =>
    have hQ : quotedM l = strF l.length l.tail := by unfold quotedM; rw [if_pos t34]
    have hlen : l.tail.length < l.length := by
      obtain ⟨r, rfl⟩ := (takeB_iff _ _).1 t34; simp
    have hls : l.length ≤ s.size := by obtain ⟨a, q1, q2, q3⟩ := HX.out.len; omega
    have HQ := Lib.hid hQ; clear hQ t34
    have hg1 := h2.lt
    have hBF := Bld.fresh w1
    have h2' := h2.pure ((Below.refl _ w1).alloc (Nat.le_refl _) (.cells #[.pointer none, .slice none 0 0] 94))
    go_wp2
    go_loopw [] (fun wr => ∃ (acc r : List UInt8) (n : Nat), Txt g s r wr ∧ Bld w1.heap.size w1.heap.size acc wr ∧ KpG g w wr ∧ quotedM l = pushR acc (strF n r) ∧ r.length < n ∧ acc.length + r.length ≤ s.size ∧ w1.heap.size ≤ wr.heap.size) (fun wr => s.size - posOf g wr)
    case atStart => exact ⟨[], l.tail, l.length, h2', hBF, k2.alloc _, by rw [pushR_nil]; exact HQ.out, hlen, by simp at hlen ⊢; omega, by simp⟩
    case round =>
      obtain ⟨acc, r, n, ht, hb, hk, hq, hrn, hal, hsz⟩ := hrel
      have HQ2 := Lib.hid hq; clear hq
      have HT := Lib.hid ht
      have HK := Lib.hid hk
      have hw1 : w.heap.size ≤ w1.heap.size := k2.size
      have hpos : posOf g wr = s.size - r.length ∧ r.length ≤ s.size := by
        obtain ⟨a, q1, q2, q3⟩ := ht.len
        have := posOf_is q3; omega
      cases t : takeB 34 r with
      | true =>
        obtain ⟨r', hr'⟩ := (takeB_iff _ _).1 t
        obtain ⟨m, rfl⟩ : ∃ m, n = m + 1 := ⟨n - 1, by omega⟩
        have hR : quotedM l = .ok (acc, r') := by rw [HQ2.out, hr']; simp [strF, pushR]
        have HR := Lib.hid hR; clear hR
        go_wp2_with fail
        refine (take_any 34 g s r _ HT.out hs).mono ?_
        rw [t]
        rintro e w5 ⟨rfl, h5, k5⟩
        have hb5 := hb.kpG k5 hg1
        have h5' : Txt g s r' w5 := by have : (if true = true then r.tail else r) = r' := by rw [hr']; rfl
                                       rw [this] at h5; exact h5
        go_wp2_with fail
        refine (bstring_any w1.heap.size w1.heap.size acc _ hb5 (by have := k5.size; omega)).mono ?_
        rintro e w6 ⟨rfl, hb6, hw6⟩
        go_wp2
        go_ret
        unfold RdPost; rw [HR.out]
        exact ⟨rfl, h5'.below hw6.below hg1, hw6.kpG (HK.out.trans k5) hw1⟩
      | false =>
        go_wp2_with fail
        refine (take_any 34 g s r _ HT.out hs).mono ?_
        rw [t]
        rintro e w5 ⟨rfl, h5, k5⟩
        have h5' : Txt g s r w5 := by simpa using h5
        have hb5 := hb.kpG k5 hg1
        go_wp2_with fail
        refine (see_any g s r _ h5' hs).mono ?_
        rintro e w6 ⟨rfl, b6⟩
        have h6 := h5'.pure b6
        have hb6 := hb5.pure b6
        have hk6 := HK.out.trans (k5.trans (KpG.pure b6))
        have hsz6 : w1.heap.size ≤ w6.heap.size := by have := k5.size; have := b6.size; omega
        obtain ⟨a, q1, q2, q3⟩ := h6
        obtain ⟨x0, x1⟩ := box2 q3
        have fx := froz_heap q3 1
        have hgl := heap_lt q3
        have Q3 := Lib.hid q3; have Q2 := Lib.hid q2; clear q2 q3
        have hra : s.size - r.length = a := by rw [Q2.out, drop_len]; omega
        obtain ⟨m, rfl⟩ : ∃ m, n = m + 1 := ⟨n - 1, by omega⟩
        cases hrc : r with
        | nil =>
          have hR : quotedM l = .error 0 := by rw [HQ2.out, hrc]; rfl
          have HR := Lib.hid hR; clear hR
          have ha : s.size = a := by rw [hrc] at hra; simpa using hra
          have hm1 : seeM ([] : List UInt8) = -1 := rfl
          rw [hm1]
          go_wp2_with fail
          refine ⟨rfl, ?_⟩
          unfold RdPost; rw [HR.out]
          refine ⟨?_, hk6⟩
          unfold wrongE; rw [← ha]; simp
        | cons c r' =>
          have hne34 : c ≠ 34 := by rintro rfl; rw [hrc] at t; simp [takeB] at t
          have hrl : r.length = r'.length + 1 := by rw [hrc]; rfl
          have hct := ctl_iff c
          rw [seeM_cons]
          cases hc : ctl c with
          | true =>
            have hR : quotedM l = .error (r'.length + 1) := by rw [HQ2.out, hrc]; simp [strF, hne34, hc, pushR]
            have HR := Lib.hid hR; clear hR
            rw [hc] at hct
            clear hrc
            have hfin : (s.size : Int) - ((r'.length + 1 : Nat) : Int) = (a : Int) := by omega
            by_cases hlt : c.toNat < 32
            · have hd : decide ((c.toNat : Int) < 32) = true := by simp; omega
              clear hct hc
              go_wp2_with fail
              refine ⟨rfl, ?_⟩
              unfold RdPost; rw [HR.out]
              refine ⟨?_, hk6⟩
              unfold wrongE; rw [hfin]
            · have hd : decide ((c.toNat : Int) < 32) = false := by simp; omega
              have h127 : ((c.toNat : Int) == 127) = true := by rw [hd] at hct; simpa using hct.symm
              clear hct
              go_wp2_with fail
              refine ⟨rfl, ?_⟩
              unfold RdPost; rw [HR.out]
              refine ⟨?_, hk6⟩
              unfold wrongE; rw [hfin]
          | false =>
            rw [hc] at hct
            have hd : decide ((c.toNat : Int) < 32) = false := by
              cases h : decide ((c.toNat : Int) < 32) with
              | true => rw [h] at hct; simp at hct
              | false => rfl
            have h127 : ((c.toNat : Int) == 127) = false := by rw [hd] at hct; simpa using hct.symm
            have hrt : r' = s.data.toList.drop (a + 1) := by
              have := Txt.tail (g := g) (w := w) Q2.out; rw [hrc] at this; exact this
            have halt : a < s.size := by omega
            have hn1 : (w6.setCell ⟨g, 1, none⟩ (.int .i64 ((a : Int) + 1))).heap[g]? = some (.cells #[.string s, .int .i64 ((a + 1 : Nat) : Int)] 115 (0, 0)) := set_heap1 Q3.out _
            have ht7 : Txt g s r' (w6.setCell ⟨g, 1, none⟩ (.int .i64 ((a : Int) + 1))) := ⟨a + 1, halt, hrt, hn1⟩
            have hk67 : KpG g w6 (w6.setCell ⟨g, 1, none⟩ (.int .i64 ((a : Int) + 1))) := (Kp.refl (fun k => k = g) w6).setCell (p := ⟨g, 1, none⟩) (.inl rfl) _
            obtain ⟨W7, hW7⟩ : ∃ W7, w6.setCell ⟨g, 1, none⟩ (.int .i64 ((a : Int) + 1)) = W7 := ⟨_, rfl⟩
            rw [hW7] at ht7 hk67
            have hb7 := hb6.kpG hk67 hg1
            have hk7 := hk6.trans hk67
            have hsz7 := hk67.size
            have HRC := Lib.hid hrc; clear hrc hn1 hrt
            clear HX
            by_cases h92 : c = 92
            · have f92 : ((c.toNat : Int) == 92) = true := by subst h92; rfl
              have hS : quotedM l = pushR acc (match escM r' with
                  | .error k => .error k
                  | .ok (b, r2) => match strF m r2 with
                    | .error k => .error k
                    | .ok (d, r3) => .ok (b :: d, r3)) := by rw [HQ2.out, HRC.out]; simp only [strF]; rw [if_neg hne34, hc, if_neg (by simp), if_pos h92]
              have HS := Lib.hid hS; clear hS hct hc h92 hne34
              go_wp2_with fail
              try rw [hW7]
              clear hW7
              refine (escaped_any g s r' W7 ht7 hs).mono ?_
              intro e w8 hp
              cases he : escM r' with
              | error k =>
                unfold RdPost at hp; rw [he] at hp
                obtain ⟨rfl, k8⟩ := hp
                unfold wrongE
                refine ⟨rfl, ?_⟩
                unfold RdPost; rw [HS.out, he]
                exact ⟨rfl, hk7.trans k8⟩
              | ok p =>
                obtain ⟨b2, r2⟩ := p
                unfold RdPost at hp; rw [he] at hp
                obtain ⟨rfl, h8, k8⟩ := hp
                have hb8 := hb7.kpG k8 hg1
                have hel := escM_len he
                have hsz8 := k8.size
                have hw8 : wrap64 (b2.toNat : Int) = (b2.toNat : Int) := wrap_u8 b2
                have hw88 : IntKind.u8.wrap (b2.toNat : Int) = (b2.toNat : Int) := by have := b2.toNat_lt; rw [IntKind.wrap_u8]; omega
                unfold byteV
                go_wp2_with fail
                refine (writeByte_any w1.heap.size w1.heap.size acc b2 w8 hb8 (by omega) (by omega)).mono ?_
                rintro e w9 ⟨rfl, hb9, hw9⟩
                have h9 := h8.below hw9.below hg1
                go_wp2
                refine ⟨⟨acc ++ [b2], r2, m, h9, hb9, hw9.kpG (hk7.trans k8) hw1, ?_, by omega, by simp; omega, by have := hw9.below.size; omega⟩, ?_⟩
                · rw [HS.out, he]
                  dsimp only
                  cases strF m r2 <;> simp [pushR]
                · obtain ⟨a9, y1, y2, y3⟩ := h9.len
                  rw [posOf_is y3]; omega
            · have f92 : ((c.toNat : Int) == 92) = false := by
                rw [beq_eq_false_iff_ne]; intro e; exact h92 (u8_of (n := 92) (by omega) (by decide))
              have hS : quotedM l = pushR acc (match strF m r' with
                    | .error k => .error k
                    | .ok (d, r3) => .ok (c :: d, r3)) := by rw [HQ2.out, HRC.out]; simp only [strF]; rw [if_neg hne34, hc, if_neg (by simp), if_neg h92]
              have HS := Lib.hid hS; clear hS hct hc h92 hne34
              have hw88 : IntKind.u8.wrap (c.toNat : Int) = (c.toNat : Int) := by have := c.toNat_lt; rw [IntKind.wrap_u8]; omega
              go_wp2_with fail
              try rw [hW7]
              clear hW7
              refine (writeByte_any w1.heap.size w1.heap.size acc c W7 hb7 (by omega) (by omega)).mono ?_
              rintro e w9 ⟨rfl, hb9, hw9⟩
              have h9 := ht7.below hw9.below hg1
              go_wp2
              refine ⟨⟨acc ++ [c], r', m, h9, hb9, hw9.kpG hk7 hw1, ?_, by omega, by simp; omega, by have := hw9.below.size; omega⟩, ?_⟩
              · rw [HS.out]
                cases strF m r' <;> simp [pushR]
              · obtain ⟨a9, y1, y2, y3⟩ := h9.len
                rw [posOf_is y3]; omega
end

section
open Go.RowKit Go.PlainAid

theorem own_kpG {w w1 : World} {base g : Nat} {e : TypeId} {size n : Nat} {v : Value} {xs : List Value} (h : w.ownsRow base e size v n xs) (hb : KpG g w w1) (hg : g < base) : w1.ownsRow base e size v n xs :=
  h.kept (row := some g) ⟨hb.os, hb.tape, hb.output, hb.size, fun k hk hn => hb.block k hk (fun e => hn (congrArg some e))⟩ (Or.inr fun e => by have := (h.lt g e).1; omega)
theorem Txt.grown {g : Nat} {s : ByteArray} {l : List UInt8} {w w' : World} {row : Option Nat} (h : Txt g s l w) (hb : w.grownBy w' row) (hg : row ≠ some g) : Txt g s l w' := by
  obtain ⟨a, h1, h2, h3⟩ := h
  exact ⟨a, h1, h2, (hb.block _ (heap_lt h3) (fun e => hg e.symm)).trans h3⟩

def mkB (d : List UInt8) : ByteArray := ⟨d.toArray⟩
def attrsF : Nat → List UInt8 → Except Nat (List At × List UInt8)
  | 0, l => .error l.length
  | n + 1, l => match runM isKey l with
    | .error k => .error k
    | .ok (key, r) => if takeB 58 r then match quotedM r.tail with
        | .error k => .error k
        | .ok (v, r2) => if takeB 125 r2 then .ok ([⟨mkB key, mkB v⟩], r2.tail) else if takeB 44 r2 then match attrsF n r2.tail with
            | .error k => .error k
            | .ok (more, r3) => .ok (⟨mkB key, mkB v⟩ :: more, r3)
          else .error r2.length
      else .error r.length
def attrsM (l : List UInt8) : Except Nat (List At × List UInt8) := if takeB 123 l then attrsF l.length l.tail else .ok ([], l)
def pushA (acc : List At) : Except Nat (List At × List UInt8) → Except Nat (List At × List UInt8)
  | .error k => .error k
  | .ok (d, r) => .ok (acc ++ d, r)
theorem pushA_nil (x : Except Nat (List At × List UInt8)) : pushA [] x = x := by cases x <;> simp [pushA]
theorem strF_len {n : Nat} : ∀ {l d r : List UInt8}, strF n l = .ok (d, r) → d.length + r.length < l.length := by
  induction n with
  | zero => intro l d r h; cases h
  | succ n ih =>
    intro l d r h
    unfold strF at h
    split at h
    · cases h
    · rename_i c r0
      split at h
      · injection h with h; injection h with h1 h2; subst h1 h2; simp
      · split at h
        · cases h
        · split at h
          · split at h
            · cases h
            · rename_i b r2 he
              have := escM_len he
              split at h
              · cases h
              · rename_i d2 r3 hs
                have := ih hs
                injection h with h; injection h with h1 h2; subst h1 h2; simp; omega
          · split at h
            · cases h
            · rename_i d2 r3 hs
              have := ih hs
              injection h with h; injection h with h1 h2; subst h1 h2; simp; omega
theorem quotedM_len {l d r : List UInt8} (h : quotedM l = .ok (d, r)) : d.length + r.length < l.length := by
  unfold quotedM at h
  split at h
  · have := strF_len h; simp at this ⊢; omega
  · cases h

theorem clone_any (s : ByteArray) (w : World) (hs : s.size ≤ 281474976710656) :
    Calls Tryz.prog 95 #[.string s] w fun e w' => e = .returned (.string s) ∧ Below w.heap.size w w' := by
  go_enter Tryz.func95, Tryz.ntmps95
  go_wp2_with fail
  refine (Tryz.stringslite_Clone s w hs).mono ?_
  rintro e w' ⟨rfl, hb⟩
  go_wp2
  go_ret
  exact ⟨rfl, hb⟩

/-- v is a row of the call's own that holds l, and reads as l -/
structure RdAS (w : World) (lo : Nat) (v : Value) (l : List At) : Prop where
  rd : RdA w (fun k => lo ≤ k ∧ TyA w k) v l
  own : w.ownsRow lo 89 2 v l.length (flat cellsA l)
theorem RdAS.open_ {w : World} {lo : Nat} {v : Value} {l : List At} (h : RdAS w lo v l) : ∃ A cap, v = .slice A l.length cap ∧ l.length ≤ cap ∧ cap ≤ 9223372036854775807 ∧ l.length ≤ 1099511627776 ∧ (0 < l.length → ∃ b off, A = some ⟨b, off, none⟩ ∧ lo ≤ b ∧ TyA w b) := h.rd.open_
theorem RdAS.nil (w : World) (lo : Nat) : RdAS w lo (.slice none 0 0) [] := ⟨Rd.nil _ _ _ _, World.ownsRow_nil _ _ _ _⟩
def AttrPost (g : Nat) (s : ByteArray) (r : Except Nat (List At × List UInt8)) (w : World) (e : Ending) (w' : World) : Prop :=
  match r with
  | .ok (x, l) => ∃ v, e = .returned v ∧ RdAS w' w.heap.size v x ∧ Txt g s l w' ∧ KpG g w w'
  | .error k => e = wrongE k s ∧ KpG g w w'

set_option maxHeartbeats 4000000 in
theorem rdAttrs_any (g : Nat) (s : ByteArray) (l : List UInt8) (w : World) (hx : Txt g s l w) (hs : s.size ≤ 1099511627776) :
    Calls Tryz.prog 166 #[.pointer (some ⟨g, 0, none⟩)] w (AttrPost g s (attrsM l) w) := by
  have hgw := hx.lt
  have hls : l.length ≤ s.size := by obtain ⟨a, q1, q2, q3⟩ := hx.len; omega
  have HX := Lib.hid hx; clear hx
  obtain ⟨i0, hi, hz0, hz1, hz2⟩ := info_parts infoA
  cases t123 : takeB 123 l with
  | false =>
    have hR : attrsM l = .ok ([], l) := by unfold attrsM; rw [if_neg (by rw [t123]; simp)]
    have HR := Lib.hid hR; clear hR
    go_enter Tryz.func166, Tryz.ntmps166
    go_wp2_with fail
    refine (take_any 123 g s l _ HX.out hs).mono ?_
    rw [t123]
    rintro e w1 ⟨rfl, h2, k2⟩
    go_wp2
    go_ret
    unfold AttrPost; rw [HR.out]
    exact ⟨_, rfl, RdAS.nil _ _, by simpa using h2, k2⟩
  | true =>
    have hQ : attrsM l = attrsF l.length l.tail := by unfold attrsM; rw [if_pos t123]
    have hlen : l.tail.length < l.length := by
      obtain ⟨r, rfl⟩ := (takeB_iff _ _).1 t123; simp
    have HQ := Lib.hid hQ; clear hQ
    go_enter Tryz.func166, Tryz.ntmps166
    go_wp2_with fail
    refine (take_any 123 g s l _ HX.out hs).mono ?_
    rw [t123]
    rintro e w1 ⟨rfl, h2, k2⟩
    have h2' : Txt g s l.tail w1 := by simpa using h2
    clear h2 t123
    go_wp2
    go_loopw [3] (fun v wr => ∃ (acc : List At) (r : List UInt8) (n : Nat), Txt g s r wr ∧ wr.ownsRow w.heap.size 89 2 v acc.length (flat cellsA acc) ∧ KpG g w wr ∧ attrsM l = pushA acc (attrsF n r) ∧ r.length < n ∧ acc.length + r.length ≤ s.size ∧ ∀ a ∈ acc, a.k.size ≤ s.size ∧ a.v.size ≤ s.size) (fun _ wr => s.size - posOf g wr)
    case atStart => exact ⟨[], l.tail, l.length, h2', World.ownsRow_nil _ _ _ _, k2, by rw [pushA_nil]; exact HQ.out, hlen, by simp at hlen ⊢; omega, by simp⟩
    case round =>
      obtain ⟨acc, r, n, ht, hown, hk, hq, hrn, hal, has⟩ := hrel
      have HQ2 := Lib.hid hq; clear hq
      have HT := Lib.hid ht
      have HK := Lib.hid hk
      have HO := Lib.hid hown
      have HAS := Lib.hid has
      have hpos : posOf g wr = s.size - r.length ∧ r.length ≤ s.size := by
        obtain ⟨a, q1, q2, q3⟩ := ht.len
        have := posOf_is q3; omega
      clear has hown hk ht
      obtain ⟨m, rfl⟩ : ∃ m, n = m + 1 := ⟨n - 1, by omega⟩
      go_wp2_with fail
      refine (run_any isKey _ keyByte_any entKey g s r _ HT.out hs).mono ?_
      intro e w2 hp
      cases hr : runM isKey r with
      | error k =>
        have hR : attrsM l = .error k := by rw [HQ2.out]; unfold attrsF; rw [hr]; rfl
        unfold RdPost at hp; rw [hr] at hp
        obtain ⟨rfl, k3⟩ := hp
        unfold wrongE
        refine ⟨rfl, ?_⟩
        unfold AttrPost; rw [hR]; exact ⟨rfl, HK.out.trans k3⟩
      | ok p =>
        obtain ⟨key, r1⟩ := p
        unfold RdPost at hp; rw [hr] at hp
        obtain ⟨rfl, h3, k3⟩ := hp
        obtain ⟨q1, q2, q3⟩ := runM_ok hr
        have hkl : key.length + r1.length = r.length := by rw [← q3]; simp
        have hS : attrsM l = pushA acc (if takeB 58 r1 then match quotedM r1.tail with
            | .error k => .error k
            | .ok (v, r2) => if takeB 125 r2 then .ok ([⟨mkB key, mkB v⟩], r2.tail) else if takeB 44 r2 then match attrsF m r2.tail with
                | .error k => .error k
                | .ok (more, r3) => .ok (⟨mkB key, mkB v⟩ :: more, r3)
              else .error r2.length
          else .error r1.length) := by rw [HQ2.out]; conv => lhs; unfold attrsF
                                       rw [hr]
        have HS := Lib.hid hS; clear hS hr q1 q2 q3
        have hk3 := HK.out.trans k3
        have hown3 := own_kpG HO.out k3 hgw
        unfold strV
        go_wp2_with fail
        refine (must_any 58 g s r1 _ h3 hs).mono ?_
        rintro e w3 (⟨t58, rfl, h4, k4⟩ | ⟨t58, rfl, k4⟩)
        case inr =>
          unfold wrongE
          refine ⟨rfl, ?_⟩
          unfold AttrPost; rw [HS.out, if_neg (by rw [t58]; simp)]
          exact ⟨rfl, hk3.trans k4⟩
        case inl =>
          rw [if_pos t58] at HS
          have hk4 := hk3.trans k4
          have hown4 := own_kpG hown3 k4 hgw
          clear t58 hk3 hown3 k3 k4 h3
          have hsk : (mkB key).size = key.length := sz_mk key
          have hskk : (⟨key.toArray⟩ : ByteArray) = mkB key := rfl
          rw [hskk]
          generalize mkB key = K at *
          go_wp2_with fail
          have hcl := clone_any K w3 (by omega)
          refine hcl.mono ?_
          rintro e w4 ⟨rfl, b5⟩
          have h5 := h4.pure b5
          have hk5 := hk4.trans (KpG.pure b5)
          have hown5 := own_kpG hown4 (KpG.pure b5) hgw
          clear hcl
          go_wp2_with fail
          refine (rdQuoted_any g s r1.tail _ h5 hs).mono ?_
          intro e w5 hp
          cases hqq : quotedM r1.tail with
          | error k =>
            unfold RdPost at hp; rw [hqq] at hp
            obtain ⟨rfl, k6⟩ := hp
            unfold wrongE
            refine ⟨rfl, ?_⟩
            unfold AttrPost; rw [HS.out, hqq]; exact ⟨rfl, hk5.trans k6⟩
          | ok p =>
            obtain ⟨d, r2⟩ := p
            unfold RdPost at hp; rw [hqq] at hp
            obtain ⟨rfl, h6, k6⟩ := hp
            have hql := quotedM_len hqq
            simp only [List.length_tail] at hql
            have hS2 : attrsM l = pushA acc (if takeB 125 r2 then .ok ([⟨K, mkB d⟩], r2.tail) else if takeB 44 r2 then match attrsF m r2.tail with
                | .error k => .error k
                | .ok (more, r3) => .ok (⟨K, mkB d⟩ :: more, r3)
              else .error r2.length) := by rw [HS.out, hqq]
            have HS2 := Lib.hid hS2; clear hS2 HS hqq
            have hk6 := hk5.trans k6
            have hown6 := own_kpG hown5 k6 hgw
            have hsv : (mkB d).size = d.length := sz_mk d
            unfold strV
            have hskk : (⟨d.toArray⟩ : ByteArray) = mkB d := rfl
            rw [hskk]
            generalize mkB d = V at *
            have hsz6 : w.heap.size ≤ w5.heap.size := hk6.size
            go_wp2_with (at_builtin; refine wpList_append_own _ rfl _ _ 46 rfl w.heap.size 89 i0 (.agg #[.string ⟨#[]⟩, .string ⟨#[]⟩]) 2 32 Tryz.underlying46 hi hz0 hz1 hz2 rfl (by decide) _ acc.length (flat cellsA acc) rfl (hown6.alloc _) ⟨w5.heap.size, 0, none⟩ 1 1 (cellsA ⟨K, V⟩) rfl ?c1 ?c2 ?c3 ?c4 ?c5 ?c6 ?_)
            case c1 => rfl
            case c2 =>
              intro j u hu
              match j, hu with
              | 0, hu => simp [cellsA] at hu; subst hu; simp [Addr.add]
              | 1, hu => simp [cellsA] at hu; subst hu; simp [Addr.add]
            case c3 => intro u hu; simp [cellsA] at hu; rcases hu with rfl | rfl <;> rfl
            case c4 => unfold maxLen; omega
            case c5 => omega
            case c6 => simp; omega
            intro v' w6 hown' hgrow _
            have hlt6 : ∀ k, u3.ownBlock = some k → w.heap.size ≤ k := fun k hk => (hown6.lt k hk).1
            have h7 : Txt g s r2 w6 := (h6.pure ((Below.refl _ w5).alloc (Nat.le_refl _) _)).grown hgrow (fun e => by have := hlt6 g e; omega)
            have hk7 : KpG g w w6 := (hk6.alloc _).grown hgrow (fun k hk => .inr (hlt6 k hk))
            have hown7 : w6.ownsRow w.heap.size 89 2 v' (acc ++ [(⟨K, V⟩ : At)]).length (flat cellsA (acc ++ [⟨K, V⟩])) := by
              rw [List.length_append, flat_append, flat_one]; exact hown'
            have has7 : ∀ a ∈ acc ++ [⟨K, V⟩], a.k.size ≤ s.size ∧ a.v.size ≤ s.size := by
              intro a ha
              rcases List.mem_append.1 ha with ha | ha
              · exact HAS.out a ha
              · simp at ha; subst ha; constructor <;> simp only <;> omega
            have HOWN7 := Lib.hid hown7; have HAS7 := Lib.hid has7
            have hal7 : (acc ++ [(⟨K, V⟩ : At)]).length = acc.length + 1 := by simp
            clear hown' hgrow hown7 has7 hown6 hown5 hown4 hlt6
            cases t125 : takeB 125 r2 with
            | true =>
              rw [if_pos t125] at HS2
              go_wp2_with fail
              refine (take_any 125 g s r2 _ h7 hs).mono ?_
              rw [t125]
              rintro e w7 ⟨rfl, h8, k8⟩
              have hown8 := own_kpG HOWN7.out k8 hgw
              have h8' : Txt g s r2.tail w7 := by simpa using h8
              go_wp2
              go_ret
              unfold AttrPost; rw [HS2.out]
              exact ⟨_, rfl, ⟨own_rdA (lo := w.heap.size) hown8 (Nat.le_refl _) (fun a ha => by have := HAS7.out a ha; omega) (by omega), hown8⟩, h8', hk7.trans k8⟩
            | false =>
              rw [if_neg (by rw [t125]; simp)] at HS2
              go_wp2_with fail
              refine (take_any 125 g s r2 _ h7 hs).mono ?_
              rw [t125]
              rintro e w7 ⟨rfl, h8, k8⟩
              have hown8 := own_kpG HOWN7.out k8 hgw
              have h8' : Txt g s r2 w7 := by simpa using h8
              clear h8
              go_wp2_with fail
              refine (must_any 44 g s r2 _ h8' hs).mono ?_
              rintro e w8 (⟨t44, rfl, h9, k9⟩ | ⟨t44, rfl, k9⟩)
              case inr =>
                unfold wrongE
                refine ⟨rfl, ?_⟩
                unfold AttrPost; rw [HS2.out, if_neg (by rw [t44]; simp)]
                exact ⟨rfl, (hk7.trans k8).trans k9⟩
              case inl =>
                rw [if_pos t44] at HS2
                have hrt : r2.tail.length + 1 = r2.length := by
                  obtain ⟨r, rfl⟩ := (takeB_iff _ _).1 t44; simp
                have hown9 := own_kpG hown8 k9 hgw
                go_wp2
                refine ⟨⟨acc ++ [(⟨K, V⟩ : At)], r2.tail, m, h9, hown9, (hk7.trans k8).trans k9, ?_, by omega, by omega, HAS7.out⟩, ?_⟩
                · rw [HS2.out]
                  cases attrsF m r2.tail <;> simp [pushA]
                · obtain ⟨a9, y1, y2, y3⟩ := h9.len
                  rw [posOf_is y3]; omega
end

section
open Go.RowKit Go.PlainAid

def opKeep (l : List UInt8) : Except Nat (OpM × List UInt8) := match numberM l with
  | .error k => .error k
  | .ok (n, r) => match attrsM r with
    | .error k => .error k
    | .ok (as_, r2) => .ok (⟨1, n, ⟨#[]⟩, as_⟩, r2)
def opIns (l : List UInt8) : Except Nat (OpM × List UInt8) := match quotedM l with
  | .error k => .error k
  | .ok (d, r) => match attrsM r with
    | .error k => .error k
    | .ok (as_, r2) => .ok (⟨2, 0, mkB d, as_⟩, r2)
def opDel (l : List UInt8) : Except Nat (OpM × List UInt8) := match numberM l with
  | .error k => .error k
  | .ok (n, r) => .ok (⟨3, n, ⟨#[]⟩, []⟩, r)
def opM (l : List UInt8) : Except Nat (OpM × List UInt8) :=
  if takeB 32 l then
    if takeB 61 l.tail then opKeep l.tail.tail
    else if takeB 43 l.tail then opIns l.tail.tail
    else if takeB 45 l.tail then opDel l.tail.tail
    else .error l.tail.length
  else .error l.length
def OpPost (g : Nat) (s : ByteArray) (r : Except Nat (OpM × List UInt8)) (w : World) (e : Ending) (w' : World) : Prop :=
  match r with
  | .ok (o, l) => ∃ va, e = .returned (opV o va) ∧ RdAS w' w.heap.size va o.attrs ∧ o.text.size ≤ s.size ∧ Txt g s l w' ∧ KpG g w w'
  | .error k => e = wrongE k s ∧ KpG g w w'
theorem set_one {w : World} {g j : Nat} {cs : Array Value} {t : TypeId} {fz : Nat × Nat} (h : w.heap[g]? = some (.cells cs t fz)) (u : Value) : (w.setCell ⟨g, j, none⟩ u).heap[g]? = some (.cells (cs.setIfInBounds j u) t fz) := by
  simp [World.setCell, Array.getElem?_modify, h]
theorem set4 {w : World} {g : Nat} {a b c d : Value} {t : TypeId} (h : w.heap[g]? = some (.cells #[a, b, c, d] t (0, 0))) (p q r u : Value) :
    ((((w.setCell ⟨g, 0, none⟩ p).setCell ⟨g, 1, none⟩ q).setCell ⟨g, 2, none⟩ r).setCell ⟨g, 3, none⟩ u).heap[g]? = some (.cells #[p, q, r, u] t (0, 0)) :=
  set_one (set_one (set_one (set_one h p) q) r) u
theorem KpG.fresh {g : Nat} {w w1 : World} (h : KpG g w w1) {b : Nat} (hb : w.heap.size ≤ b) (j : Nat) (u : Value) : KpG g w (w1.setCell ⟨b, j, none⟩ u) := Kp.setCell (p := ⟨b, j, none⟩) h (.inr hb) u
theorem Txt.setCell {g b j : Nat} {s : ByteArray} {l : List UInt8} {w : World} (h : Txt g s l w) (hb : g ≠ b) (u : Value) : Txt g s l (w.setCell ⟨b, j, none⟩ u) := by
  obtain ⟨a, h1, h2, h3⟩ := h
  exact ⟨a, h1, h2, by rw [Below.heap_setCell _ ⟨b, j, none⟩ _ _ hb]; exact h3⟩
theorem RdA.setCell {b j : Nat} {F : Nat → Prop} {v : Value} {l : List At} {w : World} (h : RdA w F v l) (hb : ∀ k, F k → k ≠ b) (u : Value) : RdA (w.setCell ⟨b, j, none⟩ u) F v l :=
  h.agree fun k hk _ => Below.heap_setCell _ ⟨b, j, none⟩ _ _ (hb k hk)

theorem own_lo0 {w : World} {a b : Nat} {e : TypeId} {size n : Nat} {v : Value} {xs : List Value} (h : w.ownsRow a e size v n xs) (hb : b ≤ a) : w.ownsRow b e size v n xs := by
  refine ⟨h.1, ?_⟩
  rcases h.2 with hn | ⟨g, cap, cur, hv, hg, rest⟩
  · exact .inl hn
  · exact .inr ⟨g, cap, cur, hv, Nat.le_trans hb hg, rest⟩
theorem op_fin {g : Nat} {s : ByteArray} {r : List UInt8} {w w4 : World} {a b c d v : Value} {t : TypeId} {m : Nat} {as_ : List At} (hm : w.heap.size < m) (hgw : g < w.heap.size)
    (hbx : w4.heap[w.heap.size]? = some (.cells #[a, b, c, d] t (0, 0))) (h4 : Txt g s r w4) (hk : KpG g w w4) (hva : RdAS w4 m v as_) (p q x u : Value) :
    ((((w4.setCell ⟨w.heap.size, 0, none⟩ p).setCell ⟨w.heap.size, 1, none⟩ q).setCell ⟨w.heap.size, 2, none⟩ x).setCell ⟨w.heap.size, 3, none⟩ u).heap[w.heap.size]? = some (.cells #[p, q, x, u] t (0, 0)) ∧
    Txt g s r ((((w4.setCell ⟨w.heap.size, 0, none⟩ p).setCell ⟨w.heap.size, 1, none⟩ q).setCell ⟨w.heap.size, 2, none⟩ x).setCell ⟨w.heap.size, 3, none⟩ u) ∧
    KpG g w ((((w4.setCell ⟨w.heap.size, 0, none⟩ p).setCell ⟨w.heap.size, 1, none⟩ q).setCell ⟨w.heap.size, 2, none⟩ x).setCell ⟨w.heap.size, 3, none⟩ u) ∧
    RdAS ((((w4.setCell ⟨w.heap.size, 0, none⟩ p).setCell ⟨w.heap.size, 1, none⟩ q).setCell ⟨w.heap.size, 2, none⟩ x).setCell ⟨w.heap.size, 3, none⟩ u) w.heap.size v as_ := by
  have hne : g ≠ w.heap.size := by omega
  refine ⟨set4 hbx p q x u, (((h4.setCell hne _).setCell hne _).setCell hne _).setCell hne _, (((hk.fresh (Nat.le_refl _) _ _).fresh (Nat.le_refl _) _ _).fresh (Nat.le_refl _) _ _).fresh (Nat.le_refl _) _ _, ?_⟩
  have hx : ∀ k, (m ≤ k ∧ TyA w4 k) → k ≠ w.heap.size := fun k hk => by have := hk.1; omega
  have hox : ∀ {W : World} {n : Nat} {xs : List Value}, W.ownsRow m 89 2 v n xs → v.ownBlock ≠ some w.heap.size := fun ho e => by have := (ho.lt _ e).1; omega
  have hos : ∀ {W : World} {n j : Nat} {xs : List Value} (y : Value), W.ownsRow m 89 2 v n xs → (W.setCell ⟨w.heap.size, j, none⟩ y).ownsRow m 89 2 v n xs := fun y ho => ownsRow_setCell_other ho (hox ho) y
  refine ⟨?_, own_lo0 (hos _ (hos _ (hos _ (hos _ hva.own)))) (by omega)⟩
  refine ((((hva.rd.setCell hx _).setCell hx _).setCell hx _).setCell hx _).mono fun k hk _ => ⟨by have := hk.1; omega, ?_⟩
  obtain ⟨c, fz, hc⟩ := hk.2
  have hkn := hx k hk
  exact ⟨c, fz, by rw [Below.heap_setCell _ ⟨w.heap.size, 3, none⟩ _ _ hkn, Below.heap_setCell _ ⟨w.heap.size, 2, none⟩ _ _ hkn, Below.heap_setCell _ ⟨w.heap.size, 1, none⟩ _ _ hkn, Below.heap_setCell _ ⟨w.heap.size, 0, none⟩ _ _ hkn]; exact hc⟩
theorem rdA_nil_slice {w : World} {F : Nat → Prop} : RdA w F (.slice none 0 0) [] := Rd.nil _ _ _ _

set_option maxHeartbeats 4000000 in
theorem rdOp_any (g : Nat) (s : ByteArray) (l : List UInt8) (w : World) (hx : Txt g s l w) (hs : s.size ≤ 1099511627776) :
    Calls Tryz.prog 125 #[.pointer (some ⟨g, 0, none⟩)] w (OpPost g s (opM l) w) := by
  have hgw := hx.lt
  have hA : Below w.heap.size w (w.alloc (.cells #[.int .i64 0, .int .i64 0, .string ⟨#[]⟩, .slice none 0 0] 48)) := (Below.refl _ w).alloc (Nat.le_refl _) _
  have hbx : (w.alloc (.cells #[.int .i64 0, .int .i64 0, .string ⟨#[]⟩, .slice none 0 0] 48)).heap[w.heap.size]? = some (.cells #[.int .i64 0, .int .i64 0, .string ⟨#[]⟩, .slice none 0 0] 48 (0, 0)) := heap_alloc_new w _
  have hx0 := hx.pure hA
  have hk0 : KpG g w (w.alloc (.cells #[.int .i64 0, .int .i64 0, .string ⟨#[]⟩, .slice none 0 0] 48)) := KpG.pure hA
  have HBX := Lib.hid hbx; clear hbx hx hA
  go_enter Tryz.func125, Tryz.ntmps125
  go_wp2_with fail
  refine (must_any 32 g s l _ hx0 hs).mono ?_
  rintro e w1 (⟨t32, rfl, h1, k1⟩ | ⟨t32, rfl, k1⟩)
  case inr =>
    unfold wrongE
    refine ⟨rfl, ?_⟩
    unfold OpPost opM; rw [if_neg (by rw [t32]; simp)]
    exact ⟨rfl, hk0.trans k1⟩
  case inl =>
    have HM : Hid (opM l = if takeB 61 l.tail then opKeep l.tail.tail
      else if takeB 43 l.tail then opIns l.tail.tail
      else if takeB 45 l.tail then opDel l.tail.tail
      else .error l.tail.length) := Lib.hid (by unfold opM; rw [if_pos t32])
    clear t32
    have hk1 := hk0.trans k1
    have hbx1 := (k1.block _ (heap_lt HBX.out) (by omega)).trans HBX.out
    have HBX1 := Lib.hid hbx1; clear hbx1 k1 hk0 hx0 HBX
    cases t61 : takeB 61 l.tail with
    | true =>
      rw [if_pos t61] at HM
      go_wp2_with fail
      refine (take_any 61 g s l.tail _ h1 hs).mono ?_
      rw [t61]
      rintro e w2 ⟨rfl, h2, k2⟩
      have h2' : Txt g s l.tail.tail w2 := by simpa using h2
      have hk2 := hk1.trans k2
      have hbx2 := (k2.block _ (heap_lt HBX1.out) (by omega)).trans HBX1.out
      have HBX2 := Lib.hid hbx2; clear hbx2 h2 t61
      go_wp2_with fail
      refine (number_any g s l.tail.tail _ h2' hs).mono ?_
      intro e w3 hp
      cases hn : numberM l.tail.tail with
      | error k =>
        unfold RdPost at hp; rw [hn] at hp
        obtain ⟨rfl, k3⟩ := hp
        unfold wrongE
        refine ⟨rfl, ?_⟩
        unfold OpPost; rw [HM.out]; unfold opKeep; rw [hn]; exact ⟨rfl, hk2.trans k3⟩
      | ok p =>
        obtain ⟨n, r⟩ := p
        unfold RdPost at hp; rw [hn] at hp
        obtain ⟨rfl, h3, k3⟩ := hp
        have hk3 := hk2.trans k3
        have hbx3 := (k3.block _ (heap_lt HBX2.out) (by omega)).trans HBX2.out
        have HBX3 := Lib.hid hbx3; clear hbx3
        unfold intV
        go_wp2_with fail
        refine (rdAttrs_any g s r _ h3 hs).mono ?_
        intro e w4 hp
        cases ha : attrsM r with
        | error k =>
          unfold AttrPost at hp; rw [ha] at hp
          obtain ⟨rfl, k4⟩ := hp
          unfold wrongE
          refine ⟨rfl, ?_⟩
          unfold OpPost; rw [HM.out]; unfold opKeep; rw [hn]; simp only; rw [ha]; exact ⟨rfl, hk3.trans k4⟩
        | ok p =>
          obtain ⟨as_, r2⟩ := p
          unfold AttrPost at hp; rw [ha] at hp
          obtain ⟨va, rfl, hva, h4, k4⟩ := hp
          have hk4 := hk3.trans k4
          have hw3 : w.heap.size < w3.heap.size := heap_lt HBX3.out
          have hbx4 := (k4.block _ (heap_lt HBX3.out) (by omega)).trans HBX3.out
          have hR : opM l = .ok (⟨1, n, ⟨#[]⟩, as_⟩, r2) := by rw [HM.out]; unfold opKeep; rw [hn]; simp only; rw [ha]
          have HR := Lib.hid hR; clear hR HM hn ha
          obtain ⟨b0, b1, b2, b3⟩ := box4 hbx4
          have f0 := froz_heap hbx4 0; have f1 := froz_heap hbx4 1; have f2 := froz_heap hbx4 2; have f3 := froz_heap hbx4 3
          have HBX4 := Lib.hid hbx4; clear hbx4
          obtain ⟨AV, capv, rfl, _⟩ := hva.open_
          go_wp2_with fail
          obtain ⟨x0, x1, x2, x3⟩ := op_fin hw3 hgw HBX4.out h4 hk4 hva (.int .i64 1) (.int .i64 n) (.string ⟨#[]⟩) (.slice AV as_.length capv)
          obtain ⟨q0, q1, q2, q3⟩ := box4 x0
          refine bodyPost_ret (v := opV ⟨1, n, ⟨#[]⟩, as_⟩ (.slice AV as_.length capv)) (by simp [results, Tryz.results125, go_sem, q0, q1, q2, q3, opV]) rfl ?_
          unfold OpPost; rw [HR.out]
          exact ⟨_, rfl, x3, Nat.zero_le _, x1, x2⟩
    | false =>
      rw [if_neg (by rw [t61]; simp)] at HM
      go_wp2_with fail
      refine (take_any 61 g s l.tail _ h1 hs).mono ?_
      rw [t61]
      rintro e w2 ⟨rfl, h2, k2⟩
      have h2' : Txt g s l.tail w2 := by simpa using h2
      have hk2 := hk1.trans k2
      have hbx2 := (k2.block _ (heap_lt HBX1.out) (by omega)).trans HBX1.out
      have HBX2 := Lib.hid hbx2; clear hbx2 h2 t61
      cases t43 : takeB 43 l.tail with
      | true =>
        rw [if_pos t43] at HM
        go_wp2_with fail
        refine (take_any 43 g s l.tail _ h2' hs).mono ?_
        rw [t43]
        rintro e w2b ⟨rfl, h2b, k2b⟩
        have h2c : Txt g s l.tail.tail w2b := by simpa using h2b
        have hk2b := hk2.trans k2b
        have hbx2b := (k2b.block _ (heap_lt HBX2.out) (by omega)).trans HBX2.out
        have HBX2b := Lib.hid hbx2b; clear hbx2b h2b t43
        go_wp2_with fail
        refine (rdQuoted_any g s l.tail.tail _ h2c hs).mono ?_
        intro e w3 hp
        cases hn : quotedM l.tail.tail with
        | error k =>
          unfold RdPost at hp; rw [hn] at hp
          obtain ⟨rfl, k3⟩ := hp
          unfold wrongE
          refine ⟨rfl, ?_⟩
          unfold OpPost; rw [HM.out]; unfold opIns; rw [hn]; exact ⟨rfl, hk2b.trans k3⟩
        | ok p =>
          obtain ⟨d, r⟩ := p
          unfold RdPost at hp; rw [hn] at hp
          obtain ⟨rfl, h3, k3⟩ := hp
          have hk3 := hk2b.trans k3
          have hbx3 := (k3.block _ (heap_lt HBX2b.out) (by omega)).trans HBX2b.out
          have HBX3 := Lib.hid hbx3; clear hbx3
          unfold strV
          go_wp2_with fail
          refine (rdAttrs_any g s r _ h3 hs).mono ?_
          intro e w4 hp
          cases ha : attrsM r with
          | error k =>
            unfold AttrPost at hp; rw [ha] at hp
            obtain ⟨rfl, k4⟩ := hp
            unfold wrongE
            refine ⟨rfl, ?_⟩
            unfold OpPost; rw [HM.out]; unfold opIns; rw [hn]; simp only; rw [ha]; exact ⟨rfl, hk3.trans k4⟩
          | ok p =>
            obtain ⟨as_, r2⟩ := p
            unfold AttrPost at hp; rw [ha] at hp
            obtain ⟨va, rfl, hva, h4, k4⟩ := hp
            have hk4 := hk3.trans k4
            have hw3 : w.heap.size < w3.heap.size := heap_lt HBX3.out
            have hbx4 := (k4.block _ (heap_lt HBX3.out) (by omega)).trans HBX3.out
            have hdsz : (mkB d).size ≤ s.size := by
              have q1 := quotedM_len hn
              obtain ⟨a, y1, y2, y3⟩ := h2c.len
              have : (mkB d).size = d.length := sz_mk d
              omega
            have hR : opM l = .ok (⟨2, 0, mkB d, as_⟩, r2) := by rw [HM.out]; unfold opIns; rw [hn]; simp only; rw [ha]
            have HR := Lib.hid hR; clear hR HM hn ha
            obtain ⟨b0, b1, b2, b3⟩ := box4 hbx4
            have f0 := froz_heap hbx4 0; have f1 := froz_heap hbx4 1; have f2 := froz_heap hbx4 2; have f3 := froz_heap hbx4 3
            have HBX4 := Lib.hid hbx4; clear hbx4
            obtain ⟨AV, capv, rfl, _⟩ := hva.open_
            go_wp2_with fail
            obtain ⟨x0, x1, x2, x3⟩ := op_fin hw3 hgw HBX4.out h4 hk4 hva (.int .i64 2) (.int .i64 0) (.string ⟨d.toArray⟩) (.slice AV as_.length capv)
            obtain ⟨q0, q1, q2, q3⟩ := box4 x0
            refine bodyPost_ret (v := opV ⟨2, 0, mkB d, as_⟩ (.slice AV as_.length capv)) (by simp [results, Tryz.results125, go_sem, q0, q1, q2, q3, opV, mkB]) rfl ?_
            unfold OpPost; rw [HR.out]
            exact ⟨_, rfl, x3, hdsz, x1, x2⟩
      | false =>
        rw [if_neg (by rw [t43]; simp)] at HM
        go_wp2_with fail
        refine (take_any 43 g s l.tail _ h2' hs).mono ?_
        rw [t43]
        rintro e w2b ⟨rfl, h2b, k2b⟩
        have h2c : Txt g s l.tail w2b := by simpa using h2b
        have hk2b := hk2.trans k2b
        have hbx2b := (k2b.block _ (heap_lt HBX2.out) (by omega)).trans HBX2.out
        have HBX2b := Lib.hid hbx2b; clear hbx2b h2b t43
        go_wp2_with fail
        refine (must_any 45 g s l.tail _ h2c hs).mono ?_
        rintro e w2d (⟨t45, rfl, h2d, k2d⟩ | ⟨t45, rfl, k2d⟩)
        case inr =>
          unfold wrongE
          refine ⟨rfl, ?_⟩
          unfold OpPost; rw [HM.out, if_neg (by rw [t45]; simp)]
          exact ⟨rfl, hk2b.trans k2d⟩
        case inl =>
          rw [if_pos t45] at HM
          have hk2d := hk2b.trans k2d
          have hbx2d := (k2d.block _ (heap_lt HBX2b.out) (by omega)).trans HBX2b.out
          have HBX2d := Lib.hid hbx2d; clear hbx2d t45
          go_wp2_with fail
          refine (number_any g s l.tail.tail _ h2d hs).mono ?_
          intro e w3 hp
          cases hn : numberM l.tail.tail with
          | error k =>
            unfold RdPost at hp; rw [hn] at hp
            obtain ⟨rfl, k3⟩ := hp
            unfold wrongE
            refine ⟨rfl, ?_⟩
            unfold OpPost; rw [HM.out]; unfold opDel; rw [hn]; exact ⟨rfl, hk2d.trans k3⟩
          | ok p =>
            obtain ⟨n, r⟩ := p
            unfold RdPost at hp; rw [hn] at hp
            obtain ⟨rfl, h4, k3⟩ := hp
            have hk4 := hk2d.trans k3
            have hw3 : w.heap.size < w2d.heap.size := heap_lt HBX2d.out
            have hbx4 := (k3.block _ (heap_lt HBX2d.out) (by omega)).trans HBX2d.out
            have hR : opM l = .ok (⟨3, n, ⟨#[]⟩, []⟩, r) := by rw [HM.out]; unfold opDel; rw [hn]
            have HR := Lib.hid hR; clear hR HM hn
            obtain ⟨b0, b1, b2, b3⟩ := box4 hbx4
            have f0 := froz_heap hbx4 0; have f1 := froz_heap hbx4 1; have f2 := froz_heap hbx4 2; have f3 := froz_heap hbx4 3
            have HBX4 := Lib.hid hbx4; clear hbx4
            unfold intV
            go_wp2_with fail
            obtain ⟨x0, x1, x2, x3⟩ := op_fin hw3 hgw HBX4.out h4 hk4 (RdAS.nil w3 w2d.heap.size) (.int .i64 3) (.int .i64 n) (.string ⟨#[]⟩) (.slice none 0 0)
            obtain ⟨q0, q1, q2, q3⟩ := box4 x0
            refine bodyPost_ret (v := opV ⟨3, n, ⟨#[]⟩, []⟩ (.slice none 0 0)) (by simp [results, Tryz.results125, go_sem, q0, q1, q2, q3, opV]) rfl ?_
            unfold OpPost; rw [HR.out]
            exact ⟨_, rfl, x3, Nat.zero_le _, x1, x2⟩
end
end Go.Proofs.YtdpmjlkmjmookaaGreatDoor
