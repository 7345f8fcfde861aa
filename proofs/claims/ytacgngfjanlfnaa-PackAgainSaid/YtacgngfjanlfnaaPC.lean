/- Fields on the heap; how many bytes a number needs, and a record at most: the program and the reference. No condition. -/
import Derived.Test.YtacgngfjanlfnaaPB
import Derived.Test.YtacgngfjanlfnaaT
import Derived.Lib.Tables
namespace Go.Proofs.Ytacgngfjanlfnaa
open Go Go.Lib

section
variable {P : Program} {F : Fr} {env : Env} {hs r : List SP} {dst : Option Tmp} {ty : TypeId} {pos : String} {after : Array Edge} {g : Option (Nat × Bool)} {x y : Operand} {t : TypeId}
theorem Ev.len8 {k : IntKind} {i : Int} (hx : ev env x = some (.string len8tab)) (hy : ev env y = some (.int k i)) (ht : P.underlying t = some .string) (h0 : 0 ≤ i) (h1 : i ≤ 255) {j : Int} (hj : len8 i = j) :
    Ev P F env hs ⟨dst, .index t x y, ty, pos, after, g⟩ (.int .u8 j) := fun _ ac w ha _ => by
  subst hj
  simp only [execOp, ha.ev hx, ha.ev hy]
  simp [run_index_len8tab w t k i ht h0 h1]
end
theorem len8_fin : ∀ c : Fin 256, 0 ≤ len8 (c.val : Int) ∧ len8 (c.val : Int) ≤ 8 ∧ (len8 (c.val : Int) = 0 ↔ c.val = 0) := by decide +kernel
theorem len8_is {n : Nat} (h : n < 256) : ∃ k : Nat, len8 (n : Int) = k ∧ k ≤ 8 ∧ (k = 0 ↔ n = 0) := by
  obtain ⟨h1, h2, h3⟩ := len8_fin ⟨n, h⟩
  exact ⟨(len8 (n : Int)).toNat, by dsimp only at h1 h2 h3; omega, by dsimp only at h1 h2 h3; omega, by dsimp only at h1 h2 h3; omega⟩

mutual
/-- A field's cells; fields' cells. -/
def FldR (h : Hp) : Fld → List Value → Prop
  | .mk k mn mx of, cs => ∃ v, cs = [.int .i64 k, W64 mn, W64 mx, v] ∧ ∃ ocs, SlR h v 4 of.length ocs ∧ FldsR h of ocs
def FldsR (h : Hp) : List Fld → List Value → Prop
  | [], cs => cs = []
  | f :: fs, cs => ∃ a b, cs = a ++ b ∧ FldR h f a ∧ FldsR h fs b
end
mutual
theorem FldR.mono {h h' : Hp} (l : Hp.le h h') : ∀ (f : Fld) {cs : List Value}, FldR h f cs → FldR h' f cs
  | .mk k mn mx of, cs, x => by
    rw [FldR] at x ⊢
    obtain ⟨v, e, ocs, h1, h2⟩ := x
    exact ⟨v, e, ocs, h1.mono l, FldsR.mono l of h2⟩
theorem FldsR.mono {h h' : Hp} (l : Hp.le h h') : ∀ (fs : List Fld) {cs : List Value}, FldsR h fs cs → FldsR h' fs cs
  | [], cs, x => by rw [FldsR] at x ⊢; exact x
  | f :: fs, cs, x => by
    rw [FldsR] at x ⊢
    obtain ⟨a, b, e, h1, h2⟩ := x
    exact ⟨a, b, e, FldR.mono l f h1, FldsR.mono l fs h2⟩
end
theorem FldR.len {h : Hp} {f : Fld} {cs : List Value} (x : FldR h f cs) : cs.length = 4 := by
  cases f
  rw [FldR] at x
  obtain ⟨v, rfl, _⟩ := x
  rfl
theorem FldsR.get {h : Hp} : ∀ {fs : List Fld} {cs : List Value} {i : Nat} {k : Int} {mn mx : UInt64} {of : List Fld}, FldsR h fs cs → fs[i]? = some (.mk k mn mx of) →
    ∃ v ocs, (cs.drop (i * 4)).take 4 = [.int .i64 k, W64 mn, W64 mx, v] ∧ SlR h v 4 of.length ocs ∧ FldsR h of ocs
  | [], _, _, _, _, _, _, _, hi => by simp at hi
  | f :: fs, cs, 0, k, mn, mx, of, x, hi => by
    simp only [List.getElem?_cons_zero, Option.some.injEq] at hi
    subst hi
    rw [FldsR] at x
    obtain ⟨a, b, rfl, h1, _⟩ := x
    rw [FldR] at h1
    obtain ⟨v, rfl, ocs, h2, h3⟩ := h1
    exact ⟨v, ocs, rfl, h2, h3⟩
  | f :: fs, cs, i + 1, k, mn, mx, of, x, hi => by
    rw [List.getElem?_cons_succ] at hi
    rw [FldsR] at x
    obtain ⟨a, b, rfl, h1, h2⟩ := x
    obtain ⟨v, ocs, h3, h4⟩ := FldsR.get h2 hi
    have ha := h1.len
    exact ⟨v, ocs, by rw [show (i + 1) * 4 = a.length + i * 4 by omega, List.drop_append, List.drop_of_length_le (by omega), List.nil_append, Nat.add_sub_cancel_left, h3], h4⟩
theorem drop_get {α : Type} {l : List α} {i : Nat} {a : α} (h : l[i]? = some a) : l.drop i = a :: l.drop (i + 1) := by
  obtain ⟨hi, rfl⟩ := List.getElem?_eq_some_iff.1 h
  exact List.drop_eq_getElem_cons hi

theorem len64_any {F : Fr} {n : UInt64} : Spec Try.prog F 41 [W64 n] [] (fun u hs' => (∃ k : Nat, u = .int .i64 k ∧ k ≤ 64 ∧ max 1 ((k + 7) / 8) = wid n.toNat) ∧ hs' = []) := by
  have hn := n.toNat_lt
  refine Spec.body Try.func41 rfl Try.ntmps41 rfl ?_
  refine Cod.seq ?_
  refine Cod.region ?_
  refine Ops.st (.assign rfl) rfl rfl rfl ?_
  refine Ops.nil ?_
  refine Ext.seq ?_
  refine Cod.seq ?_
  refine Cod.cutK (fun g : UInt64 × Nat => ⟨g.1.toNat < 4294967296 ∧ (g.2 = 0 ∧ g.1.toNat = n.toNat ∨ g.2 = 32 ∧ 1 ≤ g.1.toNat ∧ g.1.toNat = n.toNat / 4294967296), [(0, W64 g.1), (2, .int .i64 g.2)], []⟩) ?_ ?_
  ·
    refine Cod.seq ?_
    refine Cod.region ?_
    refine Ops.st (.move rfl) rfl rfl rfl ?_
    refine Ops.st (.geq rfl rfl) rfl rfl rfl ?_
    refine Ops.nil ?_
    refine Ext.seq ?_
    refine Cod.condD rfl (fun h1 => ?_) (fun h1 => ?_)
    ·
      refine Cod.seq ?_
      refine Cod.region ?_
      refine Ops.st (.move rfl) rfl rfl rfl ?_
      refine Ops.st (.shrW64 (n := 32) rfl rfl rfl (by first | omega | decide)) rfl rfl rfl ?_
      refine Ops.st (.assign rfl) rfl rfl rfl ?_
      refine Ops.nil ?_
      refine Ext.seq ?_
      refine Cod.region ?_
      refine Ops.st (.assign rfl) rfl rfl rfl ?_
      refine Ops.nil ?_
      exact Ext.at_ (n >>> UInt64.ofNat 32, 32) ⟨by dsimp only; simp [UInt64.toNat_shiftRight, Nat.shiftRight_eq_div_pow]; omega, .inr ⟨rfl, by dsimp only; simp [UInt64.toNat_shiftRight, Nat.shiftRight_eq_div_pow]; omega, by dsimp only; simp [UInt64.toNat_shiftRight, Nat.shiftRight_eq_div_pow]⟩⟩ ⟨rfl, rfl, trivial⟩ (Ent.nil _)
    ·
      refine Cod.skip ?_
      exact Ext.at_ (n, 0) ⟨by dsimp only; omega, .inl ⟨rfl, rfl⟩⟩ ⟨rfl, rfl, trivial⟩ (Ent.nil _)
  ·
    rintro ⟨x, s⟩ ⟨hx, hs⟩
    dsimp only
    refine Cod.seq ?_
    refine Cod.cutK (fun g : UInt64 × Nat => ⟨g.1.toNat < 65536 ∧ (g.2 = 0 ∧ g.1.toNat = n.toNat ∨ g.2 = 16 ∧ 1 ≤ g.1.toNat ∧ g.1.toNat = n.toNat / 65536 ∨ g.2 = 32 ∧ 1 ≤ g.1.toNat ∧ g.1.toNat = n.toNat / 4294967296 ∨ g.2 = 48 ∧ 1 ≤ g.1.toNat ∧ g.1.toNat = n.toNat / 281474976710656), [(0, W64 g.1), (2, .int .i64 g.2)], []⟩) ?_ ?_
    ·
      refine Cod.seq ?_
      refine Cod.region ?_
      dsimp only at hx hs
      refine Ops.st (.move rfl) rfl rfl rfl ?_
      refine Ops.st (.geq rfl rfl) rfl rfl rfl ?_
      refine Ops.nil ?_
      refine Ext.seq ?_
      refine Cod.condD rfl (fun h2 => ?_) (fun h2 => ?_)
      ·
        refine Cod.seq ?_
        refine Cod.region ?_
        refine Ops.st (.move rfl) rfl rfl rfl ?_
        refine Ops.st (.shrW64 (n := 16) rfl rfl rfl (by first | omega | decide)) rfl rfl rfl ?_
        refine Ops.st (.assign rfl) rfl rfl rfl ?_
        refine Ops.nil ?_
        refine Ext.seq ?_
        refine Cod.region ?_
        refine Ops.st (.move rfl) rfl rfl rfl ?_
        refine Ops.st (.add rfl rfl (by first | exact IntWalk.i64_in _ (by omega) | rfl)) rfl rfl rfl ?_
        refine Ops.st (.assign rfl) rfl rfl rfl ?_
        refine Ops.nil ?_
        exact Ext.at_ (x >>> UInt64.ofNat 16, s + 16) (by dsimp only; simp [UInt64.toNat_shiftRight, Nat.shiftRight_eq_div_pow]; omega) ⟨rfl, rfl, trivial⟩ (Ent.nil _)
      ·
        refine Cod.skip ?_
        exact Ext.at_ (x, s) (by dsimp only; omega) ⟨rfl, rfl, trivial⟩ (Ent.nil _)
    ·
      rintro ⟨x2, s2⟩ ⟨hx2, hs2⟩
      dsimp only
      refine Cod.seq ?_
      refine Cod.cutK (fun g : UInt64 × Nat => ⟨g.1.toNat < 256 ∧ g.2 ≤ 56 ∧ ∃ j, j ≤ 7 ∧ g.2 = 8 * j ∧ (j = 0 ∧ g.1.toNat = n.toNat ∨ 1 ≤ g.1.toNat ∧ wid n.toNat = j + 1), [(0, W64 g.1), (2, .int .i64 g.2)], []⟩) ?_ ?_
      ·
        refine Cod.seq ?_
        refine Cod.region ?_
        dsimp only at hx2 hs2
        refine Ops.st (.move rfl) rfl rfl rfl ?_
        refine Ops.st (.geq rfl rfl) rfl rfl rfl ?_
        refine Ops.nil ?_
        refine Ext.seq ?_
        refine Cod.condD rfl (fun h3 => ?_) (fun h3 => ?_)
        ·
          refine Cod.seq ?_
          refine Cod.region ?_
          refine Ops.st (.move rfl) rfl rfl rfl ?_
          refine Ops.st (.shrW64 (n := 8) rfl rfl rfl (by first | omega | decide)) rfl rfl rfl ?_
          refine Ops.st (.assign rfl) rfl rfl rfl ?_
          refine Ops.nil ?_
          refine Ext.seq ?_
          refine Cod.region ?_
          refine Ops.st (.move rfl) rfl rfl rfl ?_
          refine Ops.st (.add rfl rfl (by first | exact IntWalk.i64_in _ (by omega) | rfl)) rfl rfl rfl ?_
          refine Ops.st (.assign rfl) rfl rfl rfl ?_
          refine Ops.nil ?_
          exact Ext.at_ (x2 >>> UInt64.ofNat 8, s2 + 8) (by have e : (x2 >>> UInt64.ofNat 8).toNat = x2.toNat / 256 := (by simp [UInt64.toNat_shiftRight, Nat.shiftRight_eq_div_pow]); dsimp only; rw [e]; refine ⟨by omega, by omega, (s2 + 8) / 8, by omega, by omega, .inr ⟨by omega, ?_⟩⟩; unfold wid; (repeat' split) <;> omega) ⟨rfl, rfl, trivial⟩ (Ent.nil _)
        ·
          refine Cod.skip ?_
          exact Ext.at_ (x2, s2) (by dsimp only; refine ⟨by omega, by omega, s2 / 8, by omega, by omega, ?_⟩; rcases hs2 with h | h; exact .inl ⟨by omega, h.2⟩; refine .inr ⟨by omega, ?_⟩; unfold wid; (repeat' split) <;> omega) ⟨rfl, rfl, trivial⟩ (Ent.nil _)
      ·
        rintro ⟨x3, s3⟩ ⟨hx3, hs3, j, hj, hsj, hw⟩
        dsimp only
        refine Cod.seq ?_
        refine Cod.region ?_
        dsimp only at hx3 hs3 hsj hw
        obtain ⟨t, ht, ht8, ht0⟩ := len8_is hx3
        refine Ops.st (.move rfl) rfl rfl rfl ?_
        refine Ops.st (.move rfl) rfl rfl rfl ?_
        refine Ops.st (.conv (r := (x3.toNat : Int)) rfl Try.runUnderlying35 Try.runUnderlying5 (by exact IntWalk.u8_in _ (by omega))) rfl rfl rfl ?_
        refine Ops.st (.len8 (i := (x3.toNat : Int)) (by kernel_rfl) rfl Try.underlying9 (by omega) (by omega) ht) rfl rfl rfl ?_
        refine Ops.st (.conv rfl Try.runUnderlying5 Try.runUnderlying3 (by first | exact IntWalk.i64_in _ (by omega) | rfl)) rfl rfl rfl ?_
        refine Ops.st (.add rfl rfl (by first | exact IntWalk.i64_in _ (by omega) | rfl)) rfl rfl rfl ?_
        refine Ops.st (.assign rfl) rfl rfl rfl ?_
        refine Ops.nil ?_
        refine Ext.seq ?_
        exact Cod.ret (Ext.ret rfl rfl ⟨⟨s3 + t, rfl, by omega, by rcases hw with ⟨rfl, h⟩ | ⟨h, hw⟩; rw [wid, if_pos (by omega)]; omega; omega⟩, rfl⟩)
end Go.Proofs.Ytacgngfjanlfnaa
