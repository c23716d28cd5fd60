/-
  Package spell: the attributes read (attrs), walked.
-/
import Derived.Test.YtdpmjlkmjmookaaGreatDoorRdq
namespace Go.Proofs.YtdpmjlkmjmookaaGreatDoor
open Go.RowKit Go.PlainAid

theorem own_kpG {w w1 : World} {base g : Nat} {e : TypeId} {size n : Nat} {v : Value} {xs : List Value} (h : w.ownsRow base e size v n xs) (hb : KpG g w w1) (hg : g < base) : w1.ownsRow base e size v n xs :=
  h.kept (row := some g) ⟨hb.os, hb.tape, hb.output, hb.size, fun k hk hn => hb.block k hk (fun e => hn (congrArg some e))⟩ (Or.inr fun e => by have := (h.lt g e).1; omega)
theorem Txt.grown {g : Nat} {s : ByteArray} {l : List UInt8} {w w' : World} {row : Option Nat} (h : Txt g s l w) (hb : w.grownBy w' row) (hg : row ≠ some g) : Txt g s l w' := by
  obtain ⟨a, h1, h2, h3⟩ := h
  exact ⟨a, h1, h2, (hb.block _ (heap_lt h3) (fun e => hg e.symm)).trans h3⟩

def mkB (d : List UInt8) : ByteArray := ⟨d.toArray⟩
def attrsF : Nat → List UInt8 → Except Nat (List At × List UInt8)
  | 0, l => .error l.length
  | n + 1, l => match runM isKey l with
    | .error k => .error k
    | .ok (key, r) => if takeB 58 r then match quotedM r.tail with
        | .error k => .error k
        | .ok (v, r2) => if takeB 125 r2 then .ok ([⟨mkB key, mkB v⟩], r2.tail) else if takeB 44 r2 then match attrsF n r2.tail with
            | .error k => .error k
            | .ok (more, r3) => .ok (⟨mkB key, mkB v⟩ :: more, r3)
          else .error r2.length
      else .error r.length
def attrsM (l : List UInt8) : Except Nat (List At × List UInt8) := if takeB 123 l then attrsF l.length l.tail else .ok ([], l)
def pushA (acc : List At) : Except Nat (List At × List UInt8) → Except Nat (List At × List UInt8)
  | .error k => .error k
  | .ok (d, r) => .ok (acc ++ d, r)
theorem pushA_nil (x : Except Nat (List At × List UInt8)) : pushA [] x = x := by cases x <;> simp [pushA]
theorem strF_len {n : Nat} : ∀ {l d r : List UInt8}, strF n l = .ok (d, r) → d.length + r.length < l.length := by
  induction n with
  | zero => intro l d r h; cases h
  | succ n ih =>
    intro l d r h
    unfold strF at h
    split at h
    · cases h
    · rename_i c r0
      split at h
      · injection h with h; injection h with h1 h2; subst h1 h2; simp
      · split at h
        · cases h
        · split at h
          · split at h
            · cases h
            · rename_i b r2 he
              have := escM_len he
              split at h
              · cases h
              · rename_i d2 r3 hs
                have := ih hs
                injection h with h; injection h with h1 h2; subst h1 h2; simp; omega
          · split at h
            · cases h
            · rename_i d2 r3 hs
              have := ih hs
              injection h with h; injection h with h1 h2; subst h1 h2; simp; omega
theorem quotedM_len {l d r : List UInt8} (h : quotedM l = .ok (d, r)) : d.length + r.length < l.length := by
  unfold quotedM at h
  split at h
  · have := strF_len h; simp at this ⊢; omega
  · cases h

theorem clone_any (s : ByteArray) (w : World) (hs : s.size ≤ 281474976710656) :
    Calls Tryz.prog 95 #[.string s] w fun e w' => e = .returned (.string s) ∧ Below w.heap.size w w' := by
  go_enter Tryz.func95, Tryz.ntmps95
  go_wp2_with fail
  refine (Tryz.stringslite_Clone s w hs).mono ?_
  rintro e w' ⟨rfl, hb⟩
  go_wp2
  go_ret
  exact ⟨rfl, hb⟩

def AttrPost (g : Nat) (s : ByteArray) (r : Except Nat (List At × List UInt8)) (w : World) (e : Ending) (w' : World) : Prop :=
  match r with
  | .ok (x, l) => ∃ v, e = .returned v ∧ RdA w' (fun k => w.heap.size ≤ k ∧ TyA w' k) v x ∧ Txt g s l w' ∧ KpG g w w'
  | .error k => e = wrongE k s ∧ KpG g w w'

set_option maxHeartbeats 4000000 in
theorem rdAttrs_any (g : Nat) (s : ByteArray) (l : List UInt8) (w : World) (hx : Txt g s l w) (hs : s.size ≤ 1099511627776) :
    Calls Tryz.prog 166 #[.pointer (some ⟨g, 0, none⟩)] w (AttrPost g s (attrsM l) w) := by
  have hgw := hx.lt
  have hls : l.length ≤ s.size := by obtain ⟨a, q1, q2, q3⟩ := hx.len; omega
  have HX := Lib.hid hx; clear hx
  obtain ⟨i0, hi, hz0, hz1, hz2⟩ := info_parts infoA
  cases t123 : takeB 123 l with
  | false =>
    have hR : attrsM l = .ok ([], l) := by unfold attrsM; rw [if_neg (by rw [t123]; simp)]
    have HR := Lib.hid hR; clear hR
    go_enter Tryz.func166, Tryz.ntmps166
    go_wp2_with fail
    refine (take_any 123 g s l _ HX.out hs).mono ?_
    rw [t123]
    rintro e w1 ⟨rfl, h2, k2⟩
    go_wp2
    go_ret
    unfold AttrPost; rw [HR.out]
    exact ⟨_, rfl, Rd.nil _ _ _ _, by simpa using h2, k2⟩
  | true =>
    have hQ : attrsM l = attrsF l.length l.tail := by unfold attrsM; rw [if_pos t123]
    have hlen : l.tail.length < l.length := by
      obtain ⟨r, rfl⟩ := (takeB_iff _ _).1 t123; simp
    have HQ := Lib.hid hQ; clear hQ
    go_enter Tryz.func166, Tryz.ntmps166
    go_wp2_with fail
    refine (take_any 123 g s l _ HX.out hs).mono ?_
    rw [t123]
    rintro e w1 ⟨rfl, h2, k2⟩
    have h2' : Txt g s l.tail w1 := by simpa using h2
    clear h2 t123
    go_wp2
    go_loopw [3] (fun v wr => ∃ (acc : List At) (r : List UInt8) (n : Nat), Txt g s r wr ∧ wr.ownsRow w.heap.size 89 2 v acc.length (flat cellsA acc) ∧ KpG g w wr ∧ attrsM l = pushA acc (attrsF n r) ∧ r.length < n ∧ acc.length + r.length ≤ s.size ∧ ∀ a ∈ acc, a.k.size ≤ s.size ∧ a.v.size ≤ s.size) (fun _ wr => s.size - posOf g wr)
    case atStart => exact ⟨[], l.tail, l.length, h2', World.ownsRow_nil _ _ _ _, k2, by rw [pushA_nil]; exact HQ.out, hlen, by simp at hlen ⊢; omega, by simp⟩
    case round =>
      obtain ⟨acc, r, n, ht, hown, hk, hq, hrn, hal, has⟩ := hrel
      have HQ2 := Lib.hid hq; clear hq
      have HT := Lib.hid ht
      have HK := Lib.hid hk
      have HO := Lib.hid hown
      have HAS := Lib.hid has
      have hpos : posOf g wr = s.size - r.length ∧ r.length ≤ s.size := by
        obtain ⟨a, q1, q2, q3⟩ := ht.len
        have := posOf_is q3; omega
      clear has hown hk ht
      obtain ⟨m, rfl⟩ : ∃ m, n = m + 1 := ⟨n - 1, by omega⟩
      go_wp2_with fail
      refine (run_any isKey _ keyByte_any entKey g s r _ HT.out hs).mono ?_
      intro e w2 hp
      cases hr : runM isKey r with
      | error k =>
        have hR : attrsM l = .error k := by rw [HQ2.out]; unfold attrsF; rw [hr]; rfl
        unfold RdPost at hp; rw [hr] at hp
        obtain ⟨rfl, k3⟩ := hp
        unfold wrongE
        refine ⟨rfl, ?_⟩
        unfold AttrPost; rw [hR]; exact ⟨rfl, HK.out.trans k3⟩
      | ok p =>
        obtain ⟨key, r1⟩ := p
        unfold RdPost at hp; rw [hr] at hp
        obtain ⟨rfl, h3, k3⟩ := hp
        obtain ⟨q1, q2, q3⟩ := runM_ok hr
        have hkl : key.length + r1.length = r.length := by rw [← q3]; simp
        have hS : attrsM l = pushA acc (if takeB 58 r1 then match quotedM r1.tail with
            | .error k => .error k
            | .ok (v, r2) => if takeB 125 r2 then .ok ([⟨mkB key, mkB v⟩], r2.tail) else if takeB 44 r2 then match attrsF m r2.tail with
                | .error k => .error k
                | .ok (more, r3) => .ok (⟨mkB key, mkB v⟩ :: more, r3)
              else .error r2.length
          else .error r1.length) := by rw [HQ2.out]; conv => lhs; unfold attrsF
                                       rw [hr]
        have HS := Lib.hid hS; clear hS hr q1 q2 q3
        have hk3 := HK.out.trans k3
        have hown3 := own_kpG HO.out k3 hgw
        unfold strV
        go_wp2_with fail
        refine (must_any 58 g s r1 _ h3 hs).mono ?_
        rintro e w3 (⟨t58, rfl, h4, k4⟩ | ⟨t58, rfl, k4⟩)
        case inr =>
          unfold wrongE
          refine ⟨rfl, ?_⟩
          unfold AttrPost; rw [HS.out, if_neg (by rw [t58]; simp)]
          exact ⟨rfl, hk3.trans k4⟩
        case inl =>
          rw [if_pos t58] at HS
          have hk4 := hk3.trans k4
          have hown4 := own_kpG hown3 k4 hgw
          clear t58 hk3 hown3 k3 k4 h3
          have hsk : (mkB key).size = key.length := sz_mk key
          have hskk : (⟨key.toArray⟩ : ByteArray) = mkB key := rfl
          rw [hskk]
          generalize mkB key = K at *
          go_wp2_with fail
          have hcl := clone_any K w3 (by omega)
          refine hcl.mono ?_
          rintro e w4 ⟨rfl, b5⟩
          have h5 := h4.pure b5
          have hk5 := hk4.trans (KpG.pure b5)
          have hown5 := own_kpG hown4 (KpG.pure b5) hgw
          clear hcl
          go_wp2_with fail
          refine (rdQuoted_any g s r1.tail _ h5 hs).mono ?_
          intro e w5 hp
          cases hqq : quotedM r1.tail with
          | error k =>
            unfold RdPost at hp; rw [hqq] at hp
            obtain ⟨rfl, k6⟩ := hp
            unfold wrongE
            refine ⟨rfl, ?_⟩
            unfold AttrPost; rw [HS.out, hqq]; exact ⟨rfl, hk5.trans k6⟩
          | ok p =>
            obtain ⟨d, r2⟩ := p
            unfold RdPost at hp; rw [hqq] at hp
            obtain ⟨rfl, h6, k6⟩ := hp
            have hql := quotedM_len hqq
            simp only [List.length_tail] at hql
            have hS2 : attrsM l = pushA acc (if takeB 125 r2 then .ok ([⟨K, mkB d⟩], r2.tail) else if takeB 44 r2 then match attrsF m r2.tail with
                | .error k => .error k
                | .ok (more, r3) => .ok (⟨K, mkB d⟩ :: more, r3)
              else .error r2.length) := by rw [HS.out, hqq]
            have HS2 := Lib.hid hS2; clear hS2 HS hqq
            have hk6 := hk5.trans k6
            have hown6 := own_kpG hown5 k6 hgw
            have hsv : (mkB d).size = d.length := sz_mk d
            unfold strV
            have hskk : (⟨d.toArray⟩ : ByteArray) = mkB d := rfl
            rw [hskk]
            generalize mkB d = V at *
            have hsz6 : w.heap.size ≤ w5.heap.size := hk6.size
            go_wp2_with (at_builtin; refine wpList_append_own _ rfl _ _ 46 rfl w.heap.size 89 i0 (.agg #[.string ⟨#[]⟩, .string ⟨#[]⟩]) 2 32 Tryz.underlying46 hi hz0 hz1 hz2 rfl (by decide) _ acc.length (flat cellsA acc) rfl (hown6.alloc _) ⟨w5.heap.size, 0, none⟩ 1 1 (cellsA ⟨K, V⟩) rfl ?c1 ?c2 ?c3 ?c4 ?c5 ?c6 ?_)
            case c1 => rfl
            case c2 =>
              intro j u hu
              match j, hu with
              | 0, hu => simp [cellsA] at hu; subst hu; simp [Addr.add]
              | 1, hu => simp [cellsA] at hu; subst hu; simp [Addr.add]
            case c3 => intro u hu; simp [cellsA] at hu; rcases hu with rfl | rfl <;> rfl
            case c4 => unfold maxLen; omega
            case c5 => omega
            case c6 => simp; omega
            intro v' w6 hown' hgrow _
            have hlt6 : ∀ k, u3.ownBlock = some k → w.heap.size ≤ k := fun k hk => (hown6.lt k hk).1
            have h7 : Txt g s r2 w6 := (h6.pure ((Below.refl _ w5).alloc (Nat.le_refl _) _)).grown hgrow (fun e => by have := hlt6 g e; omega)
            have hk7 : KpG g w w6 := (hk6.alloc _).grown hgrow (fun k hk => .inr (hlt6 k hk))
            have hown7 : w6.ownsRow w.heap.size 89 2 v' (acc ++ [(⟨K, V⟩ : At)]).length (flat cellsA (acc ++ [⟨K, V⟩])) := by
              rw [List.length_append, flat_append, flat_one]; exact hown'
            have has7 : ∀ a ∈ acc ++ [⟨K, V⟩], a.k.size ≤ s.size ∧ a.v.size ≤ s.size := by
              intro a ha
              rcases List.mem_append.1 ha with ha | ha
              · exact HAS.out a ha
              · simp at ha; subst ha; constructor <;> simp only <;> omega
            have HOWN7 := Lib.hid hown7; have HAS7 := Lib.hid has7
            have hal7 : (acc ++ [(⟨K, V⟩ : At)]).length = acc.length + 1 := by simp
            clear hown' hgrow hown7 has7 hown6 hown5 hown4 hlt6
            cases t125 : takeB 125 r2 with
            | true =>
              rw [if_pos t125] at HS2
              go_wp2_with fail
              refine (take_any 125 g s r2 _ h7 hs).mono ?_
              rw [t125]
              rintro e w7 ⟨rfl, h8, k8⟩
              have hown8 := own_kpG HOWN7.out k8 hgw
              have h8' : Txt g s r2.tail w7 := by simpa using h8
              go_wp2
              go_ret
              unfold AttrPost; rw [HS2.out]
              exact ⟨_, rfl, own_rdA (lo := w.heap.size) hown8 (Nat.le_refl _) (fun a ha => by have := HAS7.out a ha; omega) (by omega), h8', hk7.trans k8⟩
            | false =>
              rw [if_neg (by rw [t125]; simp)] at HS2
              go_wp2_with fail
              refine (take_any 125 g s r2 _ h7 hs).mono ?_
              rw [t125]
              rintro e w7 ⟨rfl, h8, k8⟩
              have hown8 := own_kpG HOWN7.out k8 hgw
              have h8' : Txt g s r2 w7 := by simpa using h8
              clear h8
              go_wp2_with fail
              refine (must_any 44 g s r2 _ h8' hs).mono ?_
              rintro e w8 (⟨t44, rfl, h9, k9⟩ | ⟨t44, rfl, k9⟩)
              case inr =>
                unfold wrongE
                refine ⟨rfl, ?_⟩
                unfold AttrPost; rw [HS2.out, if_neg (by rw [t44]; simp)]
                exact ⟨rfl, (hk7.trans k8).trans k9⟩
              case inl =>
                rw [if_pos t44] at HS2
                have hrt : r2.tail.length + 1 = r2.length := by
                  obtain ⟨r, rfl⟩ := (takeB_iff _ _).1 t44; simp
                have hown9 := own_kpG hown8 k9 hgw
                go_wp2
                refine ⟨⟨acc ++ [(⟨K, V⟩ : At)], r2.tail, m, h9, hown9, (hk7.trans k8).trans k9, ?_, by omega, by omega, HAS7.out⟩, ?_⟩
                · rw [HS2.out]
                  cases attrsF m r2.tail <;> simp [pushA]
                · obtain ⟨a9, y1, y2, y3⟩ := h9.len
                  rw [posOf_is y3]; omega
end Go.Proofs.YtdpmjlkmjmookaaGreatDoor
