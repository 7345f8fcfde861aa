/- A value, a list and a record out of bytes: the program. No condition. -/
import Derived.Test.YtacgngfjanlfnaaPP
namespace Go.Proofs.Ytacgngfjanlfnaa
open Go

theorem isNil_len {h : Hp} {v : Value} {sz n : Nat} {xs : List Value} (s : SlR h v sz n xs) (hn : isNil v = true) : n = 0 := by
  obtain ⟨ao, cap, rfl, _, _, h0, _⟩ := s.ex
  cases ao with
  | none => exact (h0 rfl).1
  | some a => cases hn

theorem clone_any {F : Fr} {v : Value} {bs : List UInt8} (hb : SlR F.hf v 1 bs.length (u8s bs)) (hsm : bs.length ≤ 70368744177664) : Spec Try.prog F 43 [v] [] (fun u hs' => Sl u ∧ hs' = [vec u 5 1 bs.length (u8s bs)]) := by
  refine Spec.body Try.func43 rfl Try.ntmps43 rfl ?_
  refine Cod.seq ?_
  refine Cod.region ?_
  refine Ops.st (.assign rfl) rfl rfl rfl ?_
  refine Ops.nil ?_
  refine Ext.seq ?_
  refine Cod.seq ?_
  refine Cod.seq ?_
  refine Cod.region ?_
  refine Ops.st (.move rfl) rfl rfl rfl ?_
  refine Ops.st (.eqNil rfl rfl (Rd.ro hb) Try.underlying26) rfl rfl rfl ?_
  refine Ops.nil ?_
  refine Ext.seq ?_
  refine Cod.cond rfl (fun h => ?_) (fun h => ?_)
  ·
    refine Cod.seq ?_
    refine Cod.region ?_
    obtain rfl : bs = [] := List.eq_nil_of_length_eq_zero (isNil_len hb h)
    refine Ops.st (.assign rfl) rfl rfl rfl ?_
    refine Ops.nil ?_
    refine Ext.seq ?_
    exact Cod.ret (Ext.seqR (Ext.retE rfl rfl (Ent.trans (Ent.nil _) Ent.vecNil) (⟨Sl.nil, rfl⟩)))
  ·
    refine Cod.skip ?_
    refine Ext.seq ?_
    refine Cod.seq ?_
    refine Cod.region ?_
    refine Ops.ef (.lit1 ei26 rfl rfl rfl (by repeat' first | exact One.nil | apply One.cons rfl | (apply One.cons (Sl.one (by assumption))))) rfl rfl rfl ?_
    rintro e _ ⟨he, rfl⟩
    refine Ops.st (.move rfl) rfl rfl rfl ?_
    refine Ops.ef (.append (v := e) rfl rfl (by repeat first | exact TakeP.here _ | apply TakeP.there) (Rd.ro hb) ei26 (by omega) (by simp only [maxLen]; omega)) rfl rfl rfl ?_
    rintro u _ ⟨hu, rfl⟩
    refine Ops.st (.assign rfl) rfl rfl rfl ?_
    refine Ops.nil ?_
    refine Ext.seq ?_
    exact Cod.ret (Ext.retE rfl rfl (Ent.take (ps := [vec u 5 1 bs.length (u8s bs)]) (by simp only [Nat.zero_add, List.nil_append]; exact (by repeat' first | exact Takes.nil _ | exact TakeP.here _ | apply TakeP.there | apply Takes.cons))) (⟨hu, rfl⟩))

/-- What a value's, a record's and a list's taking leave. -/
def ValP (H : Hp) (R : TypeId) (rb : Nat) (h0 : Hp) (f : Fld) (bs : List UInt8) (u : Value) (hs' : List SP) : Prop :=
  ∃ bv' bs' h1 n xv yv v, Hp.le h0 h1 ∧ u = .agg #[W64 n, xv, yv] ∧ SlR H bv' 1 (bs' : List UInt8).length (u8s bs') ∧ ValR h1 v [W64 n, xv, yv] ∧ hs' = [pt rb R [bv', .bool (decF f bs).isNone], ice h1] ∧ ∀ w r, decF f bs = some (w, r) → v = w ∧ bs' = r
def RecP (H : Hp) (R : TypeId) (rb : Nat) (h0 : Hp) (fs : List Fld) (bs : List UInt8) (u : Value) (hs' : List SP) : Prop :=
  ∃ bv' bs' h1 ws vs, Hp.le h0 h1 ∧ SlR H bv' 1 (bs' : List UInt8).length (u8s bs') ∧ SlR h1 u 3 (vs : List Val).length ws ∧ ValsR h1 vs ws ∧ hs' = [pt rb R [bv', .bool (decR fs bs).isNone], ice h1] ∧ ∀ w r, decR fs bs = some (w, r) → vs = w ∧ bs' = r
/-- A list's, of so many records, unless something is amiss. -/
def repM (q : Bool) (fs : List Fld) (n : Nat) (bs : List UInt8) : Option (List (List Val) × List UInt8) := if q = true then none else rep (fun bs => decR fs bs) n bs
theorem decF2 {k : Int} {mn mx : UInt64} {of : List Fld} {bs bs' : List UInt8} {z : UInt64} (hk : k = 2) (hm : mn ≤ mx) (hz : ∀ x r, numD mn mx bs = some (x, r) → z = UInt64.ofNat x ∧ bs' = r) :
    (takeM (numD mn mx bs).isNone z.toNat bs').2.2 = (decF (.mk k mn mx of) bs).isNone ∧ ∀ w r, decF (.mk k mn mx of) bs = some (w, r) → Val.mk 0 (takeM (numD mn mx bs).isNone z.toNat bs').1 [] = w ∧ (takeM (numD mn mx bs).isNone z.toNat bs').2.1 = r := by
  rw [decF]
  cases hq : numD mn mx bs with
  | none => simp only [Option.isNone_none]; rw [takeM_no (.inl rfl)]; exact ⟨rfl, fun w r h => by cases h⟩
  | some p =>
    obtain ⟨x, r1⟩ := p
    obtain ⟨rfl, rfl⟩ := hz x r1 hq
    obtain ⟨h1, h2, _⟩ := numD_some hm hq
    have hl := mx.toNat_lt
    have e : (UInt64.ofNat x).toNat = x := by rw [UInt64.toNat_ofNat']; omega
    rw [e]
    simp only [Option.isNone_some]
    rw [if_pos hk]
    by_cases h : bs'.length < x
    · rw [if_pos h, takeM_no (.inr h)]
      exact ⟨rfl, fun w r h => by cases h⟩
    · rw [if_neg h, takeM_ok h]
      exact ⟨rfl, fun w r h => by simp only [Option.some.injEq, Prod.mk.injEq] at h; exact ⟨h.1, h.2⟩⟩
theorem decF1 {k : Int} {mn mx : UInt64} {of : List Fld} {bs bs' : List UInt8} {z : UInt64} (hk : k = 1) (hz : ∀ x r, numD mn mx bs = some (x, r) → z = UInt64.ofNat x ∧ bs' = r) :
    (numD mn mx bs).isNone = (decF (.mk k mn mx of) bs).isNone ∧ ∀ w r, decF (.mk k mn mx of) bs = some (w, r) → Val.mk z [] [] = w ∧ bs' = r := by
  rw [decF]
  cases hq : numD mn mx bs with
  | none => exact ⟨rfl, fun w r h => by cases h⟩
  | some p =>
    obtain ⟨x, r1⟩ := p
    obtain ⟨rfl, rfl⟩ := hz x r1 hq
    simp only
    rw [if_neg (by omega), if_neg (by omega)]
    exact ⟨rfl, fun w r h => by simp only [Option.some.injEq, Prod.mk.injEq] at h; exact ⟨h.1, h.2⟩⟩
theorem decF3 {k : Int} {mn mx : UInt64} {of : List Fld} {bs bs' : List UInt8} {z : UInt64} (hk : k = 3) (hm : mn ≤ mx) (hz : ∀ x r, numD mn mx bs = some (x, r) → z = UInt64.ofNat x ∧ bs' = r) :
    (repM (numD mn mx bs).isNone of z.toNat bs').isNone = (decF (.mk k mn mx of) bs).isNone ∧ ∀ w r, decF (.mk k mn mx of) bs = some (w, r) → ∃ l, repM (numD mn mx bs).isNone of z.toNat bs' = some (l, r) ∧ w = .mk 0 [] l := by
  rw [decF]
  cases hq : numD mn mx bs with
  | none => simp only [Option.isNone_none]; rw [repM, if_pos rfl]; exact ⟨rfl, fun w r h => by cases h⟩
  | some p =>
    obtain ⟨x, r1⟩ := p
    obtain ⟨rfl, rfl⟩ := hz x r1 hq
    obtain ⟨h1, h2, _⟩ := numD_some hm hq
    have hl := mx.toNat_lt
    have e : (UInt64.ofNat x).toNat = x := by rw [UInt64.toNat_ofNat']; omega
    rw [e]
    simp only [Option.isNone_some]
    rw [if_neg (by omega), if_pos hk, repM, if_neg (by decide)]
    cases hr : rep (fun bs => decR of bs) x bs' with
    | none => exact ⟨rfl, fun w r h => by cases h⟩
    | some p =>
      obtain ⟨l, r⟩ := p
      exact ⟨rfl, fun w r' h => by simp only [Option.some.injEq, Prod.mk.injEq] at h; exact ⟨l, by rw [h.2], h.1.symm⟩⟩
/-- The rest of a list. -/
def cont {α : Type} (a : List α) : Option (List α × List UInt8) → Option (List α × List UInt8)
  | none => none
  | some (l, r) => some (a ++ l, r)
theorem rep_next {α : Type} {p : List UInt8 → Option (α × List UInt8)} {n : Nat} {bs : List UInt8} {a : List α} (e : Option (List α × List UInt8)) (he : e = cont a (rep p (n + 1) bs)) : (∀ x r, p bs = some (x, r) → e = cont (a ++ [x]) (rep p n r)) ∧ (p bs = none → e = none) := by
  subst he
  rw [rep]
  refine ⟨fun x r h => ?_, fun h => by rw [h]; rfl⟩
  rw [h]
  simp only
  cases rep p n r with
  | none => rfl
  | some q => obtain ⟨l, s⟩ := q; simp [cont]
theorem decR_next {f : Fld} {fs : List Fld} {bs : List UInt8} {a : List Val} (e : Option (List Val × List UInt8)) (he : e = cont a (decR (f :: fs) bs)) : (∀ x r, decF f bs = some (x, r) → e = cont (a ++ [x]) (decR fs r)) ∧ (decF f bs = none → e = none) := by
  subst he
  rw [decR]
  refine ⟨fun x r h => ?_, fun h => by rw [h]; rfl⟩
  rw [h]
  simp only
  cases decR fs r with
  | none => rfl
  | some q => obtain ⟨l, s⟩ := q; simp [cont]
end Go.Proofs.Ytacgngfjanlfnaa
