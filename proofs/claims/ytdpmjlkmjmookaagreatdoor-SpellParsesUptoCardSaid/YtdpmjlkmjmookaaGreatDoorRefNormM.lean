/-
  The references' normal form, plain: by groups between two keeps; it is the program's.
-/
import Derived.Test.YtdpmjlkmjmookaaGreatDoorNormL
namespace Go.Proofs.YtdpmjlkmjmookaaGreatDoor
open Go.RowKit Go.PlainAid

def insM (ops : List OpM) (o : OpM) : List OpM := match ops.getLast? with
  | none => [o]
  | some l => if sameAL l.attrs o.attrs then ops.dropLast ++ [joined l o] else ops ++ [o]
theorem insM_snoc (init : List OpM) (l o : OpM) : insM (init ++ [l]) o = if sameAL l.attrs o.attrs then init ++ [joined l o] else init ++ [l] ++ [o] := by
  simp [insM]
structure RG where
  ins : List OpM
  gone : Int
structure RSt where
  gs : List RG
  ks : List OpM
def keepOp (n : Int) (l : List At) : OpM := ⟨1, n, ⟨#[]⟩, l⟩
def rKeep (gs : List RG) (g : RG) (ks : List OpM) (o : OpM) : RSt := match ks.getLast? with
  | some k => if g.ins.length = 0 ∧ g.gone = 0 ∧ sameAL k.attrs o.attrs = true then ⟨gs, ks.dropLast ++ [⟨k.kind, k.n + o.n, k.text, k.attrs⟩]⟩ else ⟨gs ++ [⟨[], 0⟩], ks ++ [keepOp o.n o.attrs]⟩
  | none => ⟨gs ++ [⟨[], 0⟩], ks ++ [keepOp o.n o.attrs]⟩
def rStep (s : RSt) (o : OpM) : RSt := match s.gs.getLast? with
  | none => s
  | some g =>
    if o.kind = 2 then ⟨s.gs.dropLast ++ [⟨insM g.ins o, g.gone⟩], s.ks⟩
    else if o.kind = 3 then ⟨s.gs.dropLast ++ [⟨g.ins, g.gone + o.n⟩], s.ks⟩
    else rKeep s.gs g s.ks o
theorem rStep_snoc (init : List RG) (g : RG) (ks : List OpM) (o : OpM) : rStep ⟨init ++ [g], ks⟩ o =
    if o.kind = 2 then ⟨init ++ [⟨insM g.ins o, g.gone⟩], ks⟩ else if o.kind = 3 then ⟨init ++ [⟨g.ins, g.gone + o.n⟩], ks⟩ else rKeep (init ++ [g]) g ks o := by
  simp [rStep]
theorem rKeep_nil (gs : List RG) (g : RG) (o : OpM) : rKeep gs g [] o = ⟨gs ++ [⟨[], 0⟩], [keepOp o.n o.attrs]⟩ := by simp [rKeep]
theorem rKeep_snoc (gs : List RG) (g : RG) (ks : List OpM) (k o : OpM) : rKeep gs g (ks ++ [k]) o =
    if g.ins.length = 0 ∧ g.gone = 0 ∧ sameAL k.attrs o.attrs = true then ⟨gs, ks ++ [⟨k.kind, k.n + o.n, k.text, k.attrs⟩]⟩ else ⟨gs ++ [⟨[], 0⟩], ks ++ [k] ++ [keepOp o.n o.attrs]⟩ := by
  simp [rKeep]
def rFold (ops : List OpM) : RSt := ops.foldl rStep ⟨[⟨[], 0⟩], []⟩
theorem rFold_snoc (ops : List OpM) (k : Nat) (h : k < ops.length) : rFold (ops.take (k + 1)) = rStep (rFold (ops.take k)) ops[k] := by
  unfold rFold; rw [List.take_succ_eq_append_getElem h, List.foldl_append]; rfl
theorem rFold_snoc' (l : List OpM) (o : OpM) : rFold (l ++ [o]) = rStep (rFold l) o := by unfold rFold; rw [List.foldl_append]; rfl
def rOut1 (g : RG) : List OpM := g.ins ++ (if 0 < g.gone then [delOp g.gone] else [])
def rPiece (gs : List RG) (ks : List OpM) (k : Nat) : List OpM := (if k = 0 then [] else ks[k - 1]?.toList) ++ (match gs[k]? with
  | some g => rOut1 g
  | none => [])
def rAcc (gs : List RG) (ks : List OpM) : Nat → List OpM
  | 0 => []
  | k + 1 => rAcc gs ks k ++ rPiece gs ks k

/-- pre: what is written ahead of the group that comes next -/
inductive RRep : List RG → List OpM → List OpM → Prop
  | nil : RRep [] [] []
  | more {gs ks pre : _} (g : RG) (k : OpM) : RRep gs ks pre → k.kind = 1 → k.text = ⟨#[]⟩ → RRep (gs ++ [g]) (ks ++ [k]) (pre ++ rOut1 g ++ [k])
theorem RRep.len {gs : List RG} {ks pre : List OpM} (h : RRep gs ks pre) : gs.length = ks.length := by
  induction h with
  | nil => rfl
  | more g k _ _ _ ih => simp [ih]
theorem rPiece_same {gs gs' : List RG} {ks ks' : List OpM} {k : Nat} (h1 : gs'[k]? = gs[k]?) (h2 : k ≠ 0 → ks'[k - 1]? = ks[k - 1]?) : rPiece gs' ks' k = rPiece gs ks k := by
  unfold rPiece
  rw [h1]
  by_cases h : k = 0
  · rw [if_pos h, if_pos h]
  · rw [if_neg h, if_neg h, h2 h]
theorem rAcc_same {gs gs' : List RG} {ks ks' : List OpM} : ∀ (n : Nat), (∀ k, k < n → gs'[k]? = gs[k]? ∧ (k ≠ 0 → ks'[k - 1]? = ks[k - 1]?)) → rAcc gs' ks' n = rAcc gs ks n := by
  intro n
  induction n with
  | zero => intro _; rfl
  | succ n ih =>
    intro h
    simp only [rAcc]
    rw [ih (fun k hk => h k (by omega)), rPiece_same (h n (by omega)).1 (h n (by omega)).2]
theorem RRep.acc {gs : List RG} {ks pre : List OpM} (h : RRep gs ks pre) (g : RG) : rAcc (gs ++ [g]) ks (gs.length + 1) = pre ++ rOut1 g := by
  induction h generalizing g with
  | nil => simp [rAcc, rPiece]
  | @more gs ks pre g' k h _ _ ih =>
    have hl := h.len
    have e1 : rAcc (gs ++ [g'] ++ [g]) (ks ++ [k]) (gs.length + 1) = rAcc (gs ++ [g']) ks (gs.length + 1) := rAcc_same _ fun i hi => by
      refine ⟨List.getElem?_append_left (by simp; omega), fun h0 => List.getElem?_append_left (by omega)⟩
    have e2 : rPiece (gs ++ [g'] ++ [g]) (ks ++ [k]) (gs.length + 1) = k :: rOut1 g := by
      unfold rPiece
      rw [if_neg (by omega)]
      have a1 : (ks ++ [k])[gs.length + 1 - 1]? = some k := by rw [show gs.length + 1 - 1 = ks.length by omega]; simp
      have a2 : (gs ++ [g'] ++ [g])[gs.length + 1]? = some g := by rw [List.getElem?_append_right (by simp)]; simp
      rw [a1, a2]; rfl
    rw [show (gs ++ [g']).length + 1 = (gs.length + 1) + 1 by simp]
    show rAcc _ _ (gs.length + 1) ++ rPiece _ _ (gs.length + 1) = _
    rw [e1, e2, ih g']; simp
theorem RRep.split {gs : List RG} {ks pre : List OpM} (h : RRep gs ks pre) : (gs = [] ∧ ks = [] ∧ pre = []) ∨ ∃ gs0 ks0 pre0 g k, RRep gs0 ks0 pre0 ∧ gs = gs0 ++ [g] ∧ ks = ks0 ++ [k] ∧ pre = pre0 ++ rOut1 g ++ [k] ∧ k.kind = 1 ∧ k.text = ⟨#[]⟩ := by
  cases h with
  | nil => exact .inl ⟨rfl, rfl, rfl⟩
  | more g k h h1 h2 => exact .inr ⟨_, _, _, g, k, h, rfl, rfl, rfl, h1, h2⟩
structure RInv (st : NormSt) (s : RSt) : Prop where
  rep : ∃ init g pre, s.gs = init ++ [g] ∧ RRep init s.ks pre ∧ st.ops = pre ++ g.ins ∧ st.gone = g.gone ∧ 0 ≤ g.gone ∧ ∀ x ∈ g.ins, x.kind = 2
theorem joins_no {a b : OpM} (h : a.kind ≠ b.kind) : ¬ (a.kind = b.kind ∧ a.attrs = b.attrs) := fun e => h e.1
theorem keep_is {o : OpM} (k : o.kind = 1) (t : o.text.toList.isEmpty = true) : keepOp o.n o.attrs = o := by
  obtain ⟨kind, n, text, attrs⟩ := o
  simp only at k t
  rw [k, empty_text t]; rfl
theorem RInv.step {st : NormSt} {s : RSt} {o : OpM} (h : RInv st s) (ho : OkO o) : RInv (normStep st o) (rStep s o) := by
  obtain ⟨init, g, pre, h1, h2, h3, h4, h5, h6⟩ := h.rep
  obtain ⟨sg, ks⟩ := s
  simp only at h1 h2
  subst h1
  rw [rStep_snoc]
  -- the last operation of the row is of another kind than a delete
  have hlast : ∀ x c, pre ++ g.ins = x ++ [c] → (g.ins = [] ∧ c.kind = 1) ∨ (g.ins ≠ [] ∧ c.kind = 2 ∧ ∃ y, g.ins = y ++ [c] ∧ x = pre ++ y) := by
    intro x c e
    rcases List.eq_nil_or_concat g.ins with hg | ⟨y, l, hg⟩
    · rw [hg, List.append_nil] at e
      rcases h2.split with ⟨_, _, hp⟩ | ⟨_, _, pre0, g', k, _, _, _, hp, hk, _⟩
      · rw [hp] at e; have := congrArg List.length e; simp at this
      · rw [hp] at e
        obtain ⟨_, e2⟩ := List.append_inj' e rfl
        injection e2 with e2 _
        exact .inl ⟨hg, by rw [← e2]; exact hk⟩
    · rw [List.concat_eq_append] at hg
      rw [hg, ← List.append_assoc] at e
      obtain ⟨e1, e2⟩ := List.append_inj' e rfl
      injection e2 with e2 _
      refine .inr ⟨by rw [hg]; simp, ?_, y, by rw [hg, e2], e1.symm⟩
      rw [← e2]; exact h6 l (by rw [hg]; simp)
  rcases shaped_kinds ho.sh with ⟨k, n0, t0⟩ | ⟨k, n0, t0⟩ | ⟨k, n0, t0, l0⟩
  · -- a keep
    rw [if_neg (by omega), if_neg (by omega)]
    have hfl : flushM st.ops st.gone = pre ++ rOut1 g := by
      unfold flushM rOut1
      rw [h3, h4]
      by_cases hg : 0 < g.gone
      · rw [if_pos hg, if_pos hg]
        rcases List.eq_nil_or_concat (pre ++ g.ins) with e | ⟨x, c, e⟩
        · rw [e, putM_empty, ← List.append_assoc, e]; rfl
        · rw [List.concat_eq_append] at e
          rw [e, putM_push (joins_no (by
            have : (delOp g.gone).kind = 3 := rfl
            rcases hlast x c e with ⟨_, q⟩ | ⟨_, q, _⟩ <;> omega)), ← e]; simp
      · rw [if_neg hg, if_neg hg]; simp
    have hns : normStep st o = ⟨putM (pre ++ rOut1 g) o, 0⟩ := by unfold normStep; rw [if_pos k, hfl]
    rw [hns]
    have hpush : (∀ x c, pre ++ rOut1 g = x ++ [c] → ¬ (c.kind = o.kind ∧ c.attrs = o.attrs)) → RInv ⟨putM (pre ++ rOut1 g) o, 0⟩ ⟨init ++ [g] ++ [⟨[], 0⟩], ks ++ [keepOp o.n o.attrs]⟩ := by
      intro hno
      have hput : putM (pre ++ rOut1 g) o = pre ++ rOut1 g ++ [o] := by
        rcases List.eq_nil_or_concat (pre ++ rOut1 g) with e | ⟨x, c, e⟩
        · rw [e, putM_empty]; rfl
        · rw [List.concat_eq_append] at e
          rw [e, putM_push (hno x c e)]
      rw [hput, keep_is k t0]
      exact ⟨init ++ [g], ⟨[], 0⟩, pre ++ rOut1 g ++ [o], rfl, RRep.more g o h2 k (empty_text t0), by simp, rfl, by simp, by simp⟩
    have hone : ∀ x c, pre ++ rOut1 g = x ++ [c] → ¬ (g.ins.length = 0 ∧ g.gone = 0) → c.kind ≠ 1 := by
      intro x c e hn
      unfold rOut1 at e
      by_cases hg : 0 < g.gone
      · rw [if_pos hg, ← List.append_assoc] at e
        obtain ⟨_, e2⟩ := List.append_inj' e rfl
        injection e2 with e2 _
        rw [← e2]; show (3 : Int) ≠ 1; omega
      · rw [if_neg hg, List.append_nil] at e
        rcases hlast x c e with ⟨q1, q2⟩ | ⟨_, q, _⟩
        · exact absurd ⟨by rw [q1]; rfl, by omega⟩ hn
        · omega
    rcases h2.split with ⟨e1, e2, e3⟩ | ⟨gs0, ks0, pre0, g', kk, r0, e1, e2, e3, hk, ht⟩
    · rw [e2, rKeep_nil]
      have := hpush (fun x c e => by
        by_cases hz : g.ins.length = 0 ∧ g.gone = 0
        · exfalso
          have := congrArg List.length e
          rw [e3] at this
          unfold rOut1 at this
          rw [if_neg (by omega)] at this
          simp [hz.1] at this
        · have := hone x c e hz
          intro q; omega)
      rw [e2] at this
      exact this
    · rw [e2, rKeep_snoc]
      by_cases hz : g.ins.length = 0 ∧ g.gone = 0 ∧ sameAL kk.attrs o.attrs = true
      · rw [if_pos hz]
        have hr1 : rOut1 g = [] := by
          unfold rOut1; rw [if_neg (by omega), List.eq_nil_of_length_eq_zero hz.1]; rfl
        have hkk : (⟨kk.kind, kk.n + o.n, kk.text, kk.attrs⟩ : OpM) = joined kk o := by
          unfold joined
          rw [empty_text t0, ht]; rfl
        have hput : putM (pre ++ rOut1 g) o = pre0 ++ rOut1 g' ++ [joined kk o] := by
          rw [hr1, List.append_nil, e3, putM_snoc, if_pos ((joins_iff kk o).2 ⟨by omega, (sameAL_iff _ _).1 hz.2.2⟩)]
        rw [hput, hkk, e1]
        refine ⟨gs0 ++ [g'], g, _, rfl, RRep.more g' (joined kk o) r0 hk ?_, ?_, ?_, h5, h6⟩
        · show kk.text ++ o.text = _
          rw [empty_text t0, ht]; rfl
        · rw [List.eq_nil_of_length_eq_zero hz.1]; simp
        · exact hz.2.1.symm
      · rw [if_neg hz]
        have := hpush (fun x c e => by
          by_cases hq : g.ins.length = 0 ∧ g.gone = 0
          · have hr1 : rOut1 g = [] := by
              unfold rOut1; rw [if_neg (by omega), List.eq_nil_of_length_eq_zero hq.1]; rfl
            rw [hr1, List.append_nil, e3] at e
            obtain ⟨_, e5⟩ := List.append_inj' e rfl
            injection e5 with e5 _
            subst e5
            intro q
            exact hz ⟨hq.1, hq.2, (sameAL_iff _ _).2 q.2⟩
          · have := hone x c e hq
            intro q; omega)
        rw [e2] at this
        exact this
  · -- an insert
    rw [if_pos k]
    have hns : normStep st o = ⟨putM st.ops o, st.gone⟩ := by unfold normStep; rw [if_neg (by omega), if_pos k]
    rw [hns]
    have hput : putM (pre ++ g.ins) o = pre ++ insM g.ins o ∧ ∀ x ∈ insM g.ins o, x.kind = 2 := by
      rcases List.eq_nil_or_concat g.ins with hg | ⟨y, l, hg⟩
      · rw [hg]
        refine ⟨?_, fun x hx => by simp [insM] at hx; subst hx; exact k⟩
        show putM (pre ++ []) o = pre ++ [o]
        rw [List.append_nil]
        rcases List.eq_nil_or_concat pre with e | ⟨x, c, e⟩
        · rw [e]; rfl
        · rw [List.concat_eq_append] at e
          rw [e, putM_push (joins_no (by
            rcases hlast x c (by rw [hg, List.append_nil]; exact e) with ⟨_, q⟩ | ⟨q, _⟩
            · omega
            · exact absurd hg q))]
      · rw [List.concat_eq_append] at hg
        have hl2 := h6 l (by rw [hg]; simp)
        have hjs : joins l o = sameAL l.attrs o.attrs := by
          unfold joins
          rw [show decide (l.kind = o.kind) = true by simp; omega]; rfl
        rw [hg, insM_snoc, ← List.append_assoc, putM_snoc, hjs]
        split
        · refine ⟨by simp, fun x hx => ?_⟩
          rcases List.mem_append.1 hx with hx | hx
          · exact h6 x (by rw [hg]; simp [hx])
          · simp at hx; subst hx; exact hl2
        · refine ⟨by simp, fun x hx => ?_⟩
          rcases List.mem_append.1 hx with hx | hx
          · exact h6 x (by rw [hg]; exact hx)
          · simp at hx; subst hx; exact k
    exact ⟨init, ⟨insM g.ins o, g.gone⟩, pre, rfl, h2, by rw [h3]; exact hput.1, h4, h5, hput.2⟩
  · -- a delete
    rw [if_neg (by omega), if_pos k]
    have hns : normStep st o = ⟨st.ops, st.gone + o.n⟩ := by unfold normStep; rw [if_neg (by omega), if_neg (by omega), if_pos k]
    rw [hns]
    exact ⟨init, ⟨g.ins, g.gone + o.n⟩, pre, rfl, h2, h3, by simp only; omega, by simp only; omega, h6⟩
theorem RInv.all (l : List OpM) : (∀ o ∈ l, OkO o) → RInv (normFold l) (rFold l) := by
  refine rev_ind (P := fun l => (∀ o ∈ l, OkO o) → RInv (normFold l) (rFold l)) ?_ ?_ l
  · intro _
    exact ⟨[], ⟨[], 0⟩, [], rfl, RRep.nil, rfl, rfl, by simp, by simp⟩
  · intro l o ih h
    rw [normFold_snoc', rFold_snoc']
    exact (ih fun x hx => h x (by simp [hx])).step (h o (by simp))
def rNormM (ops : List OpM) : List OpM := normTail (rAcc (rFold ops).gs (rFold ops).ks (rFold ops).gs.length)
/-- THE LAW: the references' normal form is the program's. -/
theorem rNormM_is {f : Int} {ops : List OpM} (h : toE f ops = 0) : rNormM ops = normM ops := by
  have h3 := ((toE_iff f ops).1 h).2.2.1
  obtain ⟨init, g, pre, h1, h2, h4, h5, h6, h7⟩ := (RInv.all ops h3).rep
  unfold rNormM normM
  rw [h1]
  have := h2.acc g
  rw [show (init ++ [g]).length = init.length + 1 by simp, this]
  congr 1
  unfold flushM rOut1
  rw [h4, h5]
  have hlast : ∀ x c, pre ++ g.ins = x ++ [c] → c.kind ≠ 3 := by
    intro x c e
    rcases List.eq_nil_or_concat g.ins with hg | ⟨y, l, hg⟩
    · rw [hg, List.append_nil] at e
      rcases h2.split with ⟨_, _, hp⟩ | ⟨_, _, pre0, g', k, _, _, _, hp, hk, _⟩
      · rw [hp] at e; have := congrArg List.length e; simp at this
      · rw [hp] at e
        obtain ⟨_, e2⟩ := List.append_inj' e rfl
        injection e2 with e2 _
        rw [← e2]; omega
    · rw [List.concat_eq_append] at hg
      rw [hg, ← List.append_assoc] at e
      obtain ⟨e1, e2⟩ := List.append_inj' e rfl
      injection e2 with e2 _
      rw [← e2]; have := h7 l (by rw [hg]; simp); omega
  by_cases hg : 0 < g.gone
  · rw [if_pos hg, if_pos hg]
    rcases List.eq_nil_or_concat (pre ++ g.ins) with e | ⟨x, c, e⟩
    · rw [e, putM_empty, ← List.append_assoc, e]; rfl
    · rw [List.concat_eq_append] at e
      rw [e, putM_push (joins_no (by
        have : (delOp g.gone).kind = 3 := rfl
        have := hlast x c e; omega)), ← e]; simp
  · rw [if_neg hg, if_neg hg]; simp

/-! ### How great they become -/
structure RBd (s : RSt) (k : Nat) : Prop where
  lg : s.gs.length ≤ k + 1
  lk : s.ks.length ≤ k
  gs : ∀ g ∈ s.gs, 0 ≤ g.gone ∧ g.gone ≤ 20000 * k ∧ g.ins.length ≤ k ∧ ∀ o ∈ g.ins, o.text.size ≤ 80000 * k
  ks : ∀ o ∈ s.ks, 0 ≤ o.n ∧ o.n ≤ 20000 * k
theorem insM_bd {ins : List OpM} {o : OpM} {k : Nat} (h1 : ins.length ≤ k) (h2 : ∀ x ∈ ins, x.text.size ≤ 80000 * k) (ho : o.text.size ≤ 80000) : (insM ins o).length ≤ k + 1 ∧ ∀ x ∈ insM ins o, x.text.size ≤ 80000 * (k + 1) := by
  rcases List.eq_nil_or_concat ins with rfl | ⟨y, l, rfl⟩
  · refine ⟨by simp [insM], fun x hx => ?_⟩
    simp [insM] at hx; subst hx; omega
  · rw [List.concat_eq_append] at *
    rw [insM_snoc]
    have hl := h2 l (by simp)
    split
    · refine ⟨by simp at h1 ⊢; omega, fun x hx => ?_⟩
      rcases List.mem_append.1 hx with hx | hx
      · have := h2 x (by simp [hx]); omega
      · simp at hx; subst hx
        show (l.text ++ o.text).size ≤ _
        rw [ByteArray.size_append]; omega
    · refine ⟨by simp at h1 ⊢; omega, fun x hx => ?_⟩
      rcases List.mem_append.1 hx with hx | hx
      · have := h2 x hx; omega
      · simp at hx; subst hx; omega
theorem RBd.step {s : RSt} {k : Nat} {o : OpM} (h : RBd s k) (ho : OpOk o) : RBd (rStep s o) (k + 1) := by
  obtain ⟨sg, ks⟩ := s
  have ho0 := ho.n0; have ho1 := ho.n1; have hot := ho.t
  have h1 := h.lg; have h2 := h.lk
  simp only at h1 h2
  have hg : ∀ g ∈ sg, 0 ≤ g.gone ∧ g.gone ≤ 20000 * ((k + 1 : Nat) : Int) ∧ g.ins.length ≤ k + 1 ∧ ∀ o ∈ g.ins, o.text.size ≤ 80000 * (k + 1) := fun g hg => by
    obtain ⟨a, b, c, d⟩ := h.gs g hg
    exact ⟨a, by omega, by omega, fun o ho => by have := d o ho; omega⟩
  have hk : ∀ o ∈ ks, 0 ≤ o.n ∧ o.n ≤ 20000 * ((k + 1 : Nat) : Int) := fun o ho => by
    obtain ⟨a, b⟩ := h.ks o ho
    exact ⟨a, by omega⟩
  rcases List.eq_nil_or_concat sg with rfl | ⟨init, g, rfl⟩
  · exact ⟨by simp [rStep], by simp only [rStep, List.getLast?_nil]; omega, fun g hg => by simp [rStep] at hg, fun o ho => hk o (by simpa [rStep] using ho)⟩
  · rw [List.concat_eq_append] at *
    rw [rStep_snoc]
    have hlen : (init ++ [g]).length = init.length + 1 := by simp
    have hgg := h.gs g (by simp)
    split
    · refine ⟨by simp only [List.length_append, List.length_cons, List.length_nil] at *; omega, by simp only; omega, fun q hq => ?_, hk⟩
      rcases List.mem_append.1 hq with hq | hq
      · exact hg q (by simp [hq])
      · simp at hq; subst hq
        obtain ⟨a, b⟩ := insM_bd hgg.2.2.1 hgg.2.2.2 hot
        exact ⟨hgg.1, by simp only; omega, a, b⟩
    · split
      · refine ⟨by simp only [List.length_append, List.length_cons, List.length_nil] at *; omega, by simp only; omega, fun q hq => ?_, hk⟩
        rcases List.mem_append.1 hq with hq | hq
        · exact hg q (by simp [hq])
        · simp at hq; subst hq
          have := hg g (by simp)
          exact ⟨by simp only; omega, by simp only; omega, this.2.2⟩
      · have hpush : RBd ⟨init ++ [g] ++ [⟨[], 0⟩], ks ++ [keepOp o.n o.attrs]⟩ (k + 1) := by
          refine ⟨by simp only [List.length_append, List.length_cons, List.length_nil] at *; omega, by simp; omega, fun q hq => ?_, fun q hq => ?_⟩
          · rcases List.mem_append.1 hq with hq | hq
            · exact hg q hq
            · simp at hq; subst hq; exact ⟨by simp, by simp only; omega, by simp, by simp⟩
          · rcases List.mem_append.1 hq with hq | hq
            · exact hk q hq
            · simp at hq; subst hq
              exact ⟨ho0, by show o.n ≤ _; omega⟩
        rcases List.eq_nil_or_concat ks with rfl | ⟨ki, kk, rfl⟩
        · rw [rKeep_nil]; exact hpush
        · rw [List.concat_eq_append] at *
          rw [rKeep_snoc]
          split
          · refine ⟨by simp only [List.length_append, List.length_cons, List.length_nil] at *; omega, by simp at h2 ⊢; omega, hg, fun q hq => ?_⟩
            rcases List.mem_append.1 hq with hq | hq
            · exact hk q (by simp [hq])
            · simp at hq; subst hq
              have := h.ks kk (by simp)
              exact ⟨by simp only; omega, by simp only; omega⟩
          · exact hpush
theorem RBd.all {ops : List OpM} (h : ∀ o ∈ ops, OpOk o) (k : Nat) (hk : k ≤ ops.length) : RBd (rFold (ops.take k)) k := by
  induction k with
  | zero => exact ⟨by simp [rFold], by simp [rFold], fun g hg => by simp [rFold] at hg; subst hg; simp, fun o ho => by simp [rFold] at ho⟩
  | succ k ih => rw [rFold_snoc ops k (by omega)]; exact (ih (by omega)).step (h _ (List.getElem_mem (by omega)))
end Go.Proofs.YtdpmjlkmjmookaaGreatDoor
