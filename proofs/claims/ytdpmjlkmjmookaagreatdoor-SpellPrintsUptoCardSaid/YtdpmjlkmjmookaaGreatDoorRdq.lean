/-
  Package spell: a text in quotes read (quoted), walked.
-/
import Derived.Test.YtdpmjlkmjmookaaGreatDoorEsc
namespace Go.Proofs.YtdpmjlkmjmookaaGreatDoor
open Go.RowKit Go.PlainAid

theorem Bld.kpG {B b g : Nat} {l : List UInt8} {w w' : World} (h : Bld B b l w) (hb : KpG g w w') (hg : g < B) : Bld B b l w' := by
  have key : ∀ p, Lib.BuilderAtF 94 5 B b p (Lib.byteCells l) w → Lib.BuilderAtF 94 5 B b p (Lib.byteCells l) w' := fun p h => by
    have hlt := h.lt
    obtain ⟨hB, v, hv, hown, hne⟩ := h
    exact ⟨hB, v, (hb.block b hlt (by omega)).trans hv, hown.kept (row := some g) ⟨hb.os, hb.tape, hb.output, hb.size, fun k hk hn => hb.block k hk (fun e => hn (congrArg some e))⟩ (Or.inr fun e => by have := (hown.lt g e).1; omega), hne⟩
  exact h.elim (fun x => .inl (key _ x)) (fun x => .inr (key _ x))
theorem Txt.below {g B : Nat} {s : ByteArray} {l : List UInt8} {w w' : World} (h : Txt g s l w) (hb : Below B w w') (hg : g < B) : Txt g s l w' := by
  obtain ⟨a, h1, h2, h3⟩ := h
  exact ⟨a, h1, h2, (hb.block _ hg).trans h3⟩
theorem Wrote.kpG {B b g : Nat} {w w' : World} (h : Wrote B b w w') {w0 : World} (hk : KpG g w0 w) (hB : w0.heap.size ≤ B) : KpG g w0 w' :=
  ⟨h.below.os.trans hk.os, h.below.tape.trans hk.tape, h.below.output.trans hk.output, Nat.le_trans hk.size h.below.size, fun i hi hs => (h.below.block i (by omega)).trans (hk.block i hi hs)⟩

def strF : Nat → List UInt8 → Except Nat (List UInt8 × List UInt8)
  | 0, l => .error l.length
  | n + 1, l => match l with
    | [] => .error 0
    | c :: r => if c = 34 then .ok ([], r) else if ctl c then .error (r.length + 1) else if c = 92 then match escM r with
        | .error k => .error k
        | .ok (b, r2) => match strF n r2 with
          | .error k => .error k
          | .ok (d, r3) => .ok (b :: d, r3)
      else match strF n r with
        | .error k => .error k
        | .ok (d, r3) => .ok (c :: d, r3)
def quotedM (l : List UInt8) : Except Nat (List UInt8 × List UInt8) := if takeB 34 l then strF l.length l.tail else .error l.length
def pushR (acc : List UInt8) : Except Nat (List UInt8 × List UInt8) → Except Nat (List UInt8 × List UInt8)
  | .error k => .error k
  | .ok (d, r) => .ok (acc ++ d, r)
theorem pushR_nil (x : Except Nat (List UInt8 × List UInt8)) : pushR [] x = x := by cases x <;> simp [pushR]
theorem hexN_len {k : Nat} : ∀ {l r : List UInt8} {n : Int}, hexN k l = .ok (n, r) → r.length ≤ l.length := by
  induction k with
  | zero => intro l r n h; injection h with h; injection h with h1 h2; subst h2; exact Nat.le_refl _
  | succ k ih =>
    intro l r n h
    unfold hexN at h
    split at h
    · cases h
    · rename_i m r1 h1
      have i1 := ih h1
      split at h
      · cases h
      · rename_i d r2 h2
        injection h with h; injection h with h3 h4; subst h4
        unfold hexSt at h2
        split at h2
        · cases h2
        · injection h2 with h2; injection h2 with h5 h6
          subst h6; simp; omega
theorem escM_len {l r : List UInt8} {b : UInt8} (h : escM l = .ok (b, r)) : r.length < l.length := by
  have ht : ∀ c, takeB c l = true → l.tail.length < l.length := fun c hc => by cases l with
    | nil => simp [takeB] at hc
    | cons a l => simp
  unfold escM at h
  split at h
  · rename_i h1; injection h with h; injection h with h3 h4; subst h4; exact ht _ h1
  · split at h
    · rename_i h1; injection h with h; injection h with h3 h4; subst h4; exact ht _ h1
    · split at h
      · rename_i h1; injection h with h; injection h with h3 h4; subst h4; exact ht _ h1
      · split at h
        · rename_i h1
          split at h
          · cases h
          · rename_i n r1 h2
            split at h
            · cases h
            · injection h with h; injection h with h3 h4; subst h4
              have := hexN_len h2; have := ht _ h1; omega
        · cases h
theorem takeB_iff (c : UInt8) (l : List UInt8) : takeB c l = true ↔ ∃ r, l = c :: r := by
  cases l with
  | nil => simp [takeB]
  | cons a r => simp [takeB]
theorem seeM_cons (c : UInt8) (r : List UInt8) : seeM (c :: r) = (c.toNat : Int) := rfl
theorem ctl_iff (c : UInt8) : ctl c = (decide ((c.toNat : Int) < 32) || ((c.toNat : Int) == 127)) := by
  unfold ctl
  have h1 : decide ((c.toNat : Int) < 32) = decide (c.toNat < 32) := by simp; omega
  have h2 : ((c.toNat : Int) == 127) = (c == 127) := by
    cases h : (c == 127) with
    | true => rw [beq_iff_eq] at h; subst h; rfl
    | false =>
      rw [beq_eq_false_iff_ne] at *
      intro e; apply h; exact u8_of (n := 127) (by omega) (by decide)
  rw [h1, h2]

set_option maxHeartbeats 4000000 in
theorem rdQuoted_any (g : Nat) (s : ByteArray) (l : List UInt8) (w : World) (hx : Txt g s l w) (hs : s.size ≤ 1099511627776) :
    Calls Tryz.prog 86 #[.pointer (some ⟨g, 0, none⟩)] w (RdPost g s strV (quotedM l) w) := by
  have HX := Lib.hid hx; clear hx
  go_enter Tryz.func86, Tryz.ntmps86
  go_wp2_with fail
  refine (must_any 34 g s l _ HX.out hs).mono ?_
  rintro e w1 (⟨t34, rfl, h2, k2⟩ | ⟨t34, rfl, k2⟩)
  case inr =>
    unfold wrongE
    refine ⟨rfl, ?_⟩
    unfold RdPost quotedM; rw [if_neg (by rw [t34]; simp)]
    exact ⟨rfl, k2⟩
  case inl =>
    have hQ : quotedM l = strF l.length l.tail := by unfold quotedM; rw [if_pos t34]
    have hlen : l.tail.length < l.length := by
      obtain ⟨r, rfl⟩ := (takeB_iff _ _).1 t34; simp
    have hls : l.length ≤ s.size := by obtain ⟨a, q1, q2, q3⟩ := HX.out.len; omega
    have HQ := Lib.hid hQ; clear hQ t34
    have hg1 := h2.lt
    have hBF := Bld.fresh w1
    have h2' := h2.pure ((Below.refl _ w1).alloc (Nat.le_refl _) (.cells #[.pointer none, .slice none 0 0] 94))
    go_wp2
    go_loopw [] (fun wr => ∃ (acc r : List UInt8) (n : Nat), Txt g s r wr ∧ Bld w1.heap.size w1.heap.size acc wr ∧ KpG g w wr ∧ quotedM l = pushR acc (strF n r) ∧ r.length < n ∧ acc.length + r.length ≤ s.size ∧ w1.heap.size ≤ wr.heap.size) (fun wr => s.size - posOf g wr)
    case atStart => exact ⟨[], l.tail, l.length, h2', hBF, k2.alloc _, by rw [pushR_nil]; exact HQ.out, hlen, by simp at hlen ⊢; omega, by simp⟩
    case round =>
      obtain ⟨acc, r, n, ht, hb, hk, hq, hrn, hal, hsz⟩ := hrel
      have HQ2 := Lib.hid hq; clear hq
      have HT := Lib.hid ht
      have HK := Lib.hid hk
      have hw1 : w.heap.size ≤ w1.heap.size := k2.size
      have hpos : posOf g wr = s.size - r.length ∧ r.length ≤ s.size := by
        obtain ⟨a, q1, q2, q3⟩ := ht.len
        have := posOf_is q3; omega
      cases t : takeB 34 r with
      | true =>
        obtain ⟨r', hr'⟩ := (takeB_iff _ _).1 t
        obtain ⟨m, rfl⟩ : ∃ m, n = m + 1 := ⟨n - 1, by omega⟩
        have hR : quotedM l = .ok (acc, r') := by rw [HQ2.out, hr']; simp [strF, pushR]
        have HR := Lib.hid hR; clear hR
        go_wp2_with fail
        refine (take_any 34 g s r _ HT.out hs).mono ?_
        rw [t]
        rintro e w5 ⟨rfl, h5, k5⟩
        have hb5 := hb.kpG k5 hg1
        have h5' : Txt g s r' w5 := by have : (if true = true then r.tail else r) = r' := by rw [hr']; rfl
                                       rw [this] at h5; exact h5
        go_wp2_with fail
        refine (bstring_any w1.heap.size w1.heap.size acc _ hb5 (by have := k5.size; omega)).mono ?_
        rintro e w6 ⟨rfl, hb6, hw6⟩
        go_wp2
        go_ret
        unfold RdPost; rw [HR.out]
        exact ⟨rfl, h5'.below hw6.below hg1, hw6.kpG (HK.out.trans k5) hw1⟩
      | false =>
        go_wp2_with fail
        refine (take_any 34 g s r _ HT.out hs).mono ?_
        rw [t]
        rintro e w5 ⟨rfl, h5, k5⟩
        have h5' : Txt g s r w5 := by simpa using h5
        have hb5 := hb.kpG k5 hg1
        go_wp2_with fail
        refine (see_any g s r _ h5' hs).mono ?_
        rintro e w6 ⟨rfl, b6⟩
        have h6 := h5'.pure b6
        have hb6 := hb5.pure b6
        have hk6 := HK.out.trans (k5.trans (KpG.pure b6))
        have hsz6 : w1.heap.size ≤ w6.heap.size := by have := k5.size; have := b6.size; omega
        obtain ⟨a, q1, q2, q3⟩ := h6
        obtain ⟨x0, x1⟩ := box2 q3
        have fx := froz_heap q3 1
        have hgl := heap_lt q3
        have Q3 := Lib.hid q3; have Q2 := Lib.hid q2; clear q2 q3
        have hra : s.size - r.length = a := by rw [Q2.out, drop_len]; omega
        obtain ⟨m, rfl⟩ : ∃ m, n = m + 1 := ⟨n - 1, by omega⟩
        cases hrc : r with
        | nil =>
          have hR : quotedM l = .error 0 := by rw [HQ2.out, hrc]; rfl
          have HR := Lib.hid hR; clear hR
          have ha : s.size = a := by rw [hrc] at hra; simpa using hra
          have hm1 : seeM ([] : List UInt8) = -1 := rfl
          rw [hm1]
          go_wp2_with fail
          refine ⟨rfl, ?_⟩
          unfold RdPost; rw [HR.out]
          refine ⟨?_, hk6⟩
          unfold wrongE; rw [← ha]; simp
        | cons c r' =>
          have hne34 : c ≠ 34 := by rintro rfl; rw [hrc] at t; simp [takeB] at t
          have hrl : r.length = r'.length + 1 := by rw [hrc]; rfl
          have hct := ctl_iff c
          rw [seeM_cons]
          cases hc : ctl c with
          | true =>
            have hR : quotedM l = .error (r'.length + 1) := by rw [HQ2.out, hrc]; simp [strF, hne34, hc, pushR]
            have HR := Lib.hid hR; clear hR
            rw [hc] at hct
            clear hrc
            have hfin : (s.size : Int) - ((r'.length + 1 : Nat) : Int) = (a : Int) := by omega
            by_cases hlt : c.toNat < 32
            · have hd : decide ((c.toNat : Int) < 32) = true := by simp; omega
              clear hct hc
              go_wp2_with fail
              refine ⟨rfl, ?_⟩
              unfold RdPost; rw [HR.out]
              refine ⟨?_, hk6⟩
              unfold wrongE; rw [hfin]
            · have hd : decide ((c.toNat : Int) < 32) = false := by simp; omega
              have h127 : ((c.toNat : Int) == 127) = true := by rw [hd] at hct; simpa using hct.symm
              clear hct
              go_wp2_with fail
              refine ⟨rfl, ?_⟩
              unfold RdPost; rw [HR.out]
              refine ⟨?_, hk6⟩
              unfold wrongE; rw [hfin]
          | false =>
            rw [hc] at hct
            have hd : decide ((c.toNat : Int) < 32) = false := by
              cases h : decide ((c.toNat : Int) < 32) with
              | true => rw [h] at hct; simp at hct
              | false => rfl
            have h127 : ((c.toNat : Int) == 127) = false := by rw [hd] at hct; simpa using hct.symm
            have hrt : r' = s.data.toList.drop (a + 1) := by
              have := Txt.tail (g := g) (w := w) Q2.out; rw [hrc] at this; exact this
            have halt : a < s.size := by omega
            have hn1 : (w6.setCell ⟨g, 1, none⟩ (.int .i64 ((a : Int) + 1))).heap[g]? = some (.cells #[.string s, .int .i64 ((a + 1 : Nat) : Int)] 115 (0, 0)) := set_heap1 Q3.out _
            have ht7 : Txt g s r' (w6.setCell ⟨g, 1, none⟩ (.int .i64 ((a : Int) + 1))) := ⟨a + 1, halt, hrt, hn1⟩
            have hk67 : KpG g w6 (w6.setCell ⟨g, 1, none⟩ (.int .i64 ((a : Int) + 1))) := (Kp.refl (fun k => k = g) w6).setCell (p := ⟨g, 1, none⟩) (.inl rfl) _
            obtain ⟨W7, hW7⟩ : ∃ W7, w6.setCell ⟨g, 1, none⟩ (.int .i64 ((a : Int) + 1)) = W7 := ⟨_, rfl⟩
            rw [hW7] at ht7 hk67
            have hb7 := hb6.kpG hk67 hg1
            have hk7 := hk6.trans hk67
            have hsz7 := hk67.size
            have HRC := Lib.hid hrc; clear hrc hn1 hrt
            clear HX
            by_cases h92 : c = 92
            · have f92 : ((c.toNat : Int) == 92) = true := by subst h92; rfl
              have hS : quotedM l = pushR acc (match escM r' with
                  | .error k => .error k
                  | .ok (b, r2) => match strF m r2 with
                    | .error k => .error k
                    | .ok (d, r3) => .ok (b :: d, r3)) := by rw [HQ2.out, HRC.out]; simp only [strF]; rw [if_neg hne34, hc, if_neg (by simp), if_pos h92]
              have HS := Lib.hid hS; clear hS hct hc h92 hne34
              go_wp2_with fail
              try rw [hW7]
              clear hW7
              refine (escaped_any g s r' W7 ht7 hs).mono ?_
              intro e w8 hp
              cases he : escM r' with
              | error k =>
                unfold RdPost at hp; rw [he] at hp
                obtain ⟨rfl, k8⟩ := hp
                unfold wrongE
                refine ⟨rfl, ?_⟩
                unfold RdPost; rw [HS.out, he]
                exact ⟨rfl, hk7.trans k8⟩
              | ok p =>
                obtain ⟨b2, r2⟩ := p
                unfold RdPost at hp; rw [he] at hp
                obtain ⟨rfl, h8, k8⟩ := hp
                have hb8 := hb7.kpG k8 hg1
                have hel := escM_len he
                have hsz8 := k8.size
                have hw8 : wrap64 (b2.toNat : Int) = (b2.toNat : Int) := wrap_u8 b2
                have hw88 : IntKind.u8.wrap (b2.toNat : Int) = (b2.toNat : Int) := by have := b2.toNat_lt; rw [IntKind.wrap_u8]; omega
                unfold byteV
                go_wp2_with fail
                refine (writeByte_any w1.heap.size w1.heap.size acc b2 w8 hb8 (by omega) (by omega)).mono ?_
                rintro e w9 ⟨rfl, hb9, hw9⟩
                have h9 := h8.below hw9.below hg1
                go_wp2
                refine ⟨⟨acc ++ [b2], r2, m, h9, hb9, hw9.kpG (hk7.trans k8) hw1, ?_, by omega, by simp; omega, by have := hw9.below.size; omega⟩, ?_⟩
                · rw [HS.out, he]
                  dsimp only
                  cases strF m r2 <;> simp [pushR]
                · obtain ⟨a9, y1, y2, y3⟩ := h9.len
                  rw [posOf_is y3]; omega
            · have f92 : ((c.toNat : Int) == 92) = false := by
                rw [beq_eq_false_iff_ne]; intro e; exact h92 (u8_of (n := 92) (by omega) (by decide))
              have hS : quotedM l = pushR acc (match strF m r' with
                    | .error k => .error k
                    | .ok (d, r3) => .ok (c :: d, r3)) := by rw [HQ2.out, HRC.out]; simp only [strF]; rw [if_neg hne34, hc, if_neg (by simp), if_neg h92]
              have HS := Lib.hid hS; clear hS hct hc h92 hne34
              have hw88 : IntKind.u8.wrap (c.toNat : Int) = (c.toNat : Int) := by have := c.toNat_lt; rw [IntKind.wrap_u8]; omega
              go_wp2_with fail
              try rw [hW7]
              clear hW7
              refine (writeByte_any w1.heap.size w1.heap.size acc c W7 hb7 (by omega) (by omega)).mono ?_
              rintro e w9 ⟨rfl, hb9, hw9⟩
              have h9 := ht7.below hw9.below hg1
              go_wp2
              refine ⟨⟨acc ++ [c], r', m, h9, hb9, hw9.kpG hk7 hw1, ?_, by omega, by simp; omega, by have := hw9.below.size; omega⟩, ?_⟩
              · rw [HS.out]
                cases strF m r' <;> simp [pushR]
              · obtain ⟨a9, y1, y2, y3⟩ := h9.len
                rw [posOf_is y3]; omega
end Go.Proofs.YtdpmjlkmjmookaaGreatDoor
