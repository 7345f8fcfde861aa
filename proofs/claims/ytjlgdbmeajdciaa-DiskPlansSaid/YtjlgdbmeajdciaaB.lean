/- The disk: a copy of bytes, Plan, New, Read. No condition. -/
import Derived.Test.YtjlgdbmeajdciaaA
import Derived.Test.YtjlgdbmeajdciaaLA
namespace Go.Proofs.Ytjlgdbmeajdciaa
open Go

theorem clone_any {F : Fr} {v : Value} {n : Nat} {xs : List Value} (hr : SlR F.hf v 1 n xs) (hn : n ≤ 70368744177664) : Spec Try.prog F 28 [v] [] (fun u hs' => hs' = [vec u 5 1 n xs]) := by
  refine Spec.body Try.func28 rfl Try.ntmps28 rfl ?_
  refine Cod.seq ?_
  refine Cod.region ?_
  refine Ops.st (.assign rfl) rfl rfl rfl ?_
  refine Ops.nil ?_
  refine Ext.seq ?_
  refine Cod.seq ?_
  refine Cod.seq ?_
  refine Cod.region ?_
  refine Ops.st (.move rfl) rfl rfl rfl ?_
  refine Ops.st (.eqNil rfl rfl (Rd.ro hr) Try.underlying22) rfl rfl rfl ?_
  refine Ops.nil ?_
  refine Ext.seq ?_
  refine Cod.cond rfl (fun h => ?_) (fun h => ?_)
  ·
    refine Cod.seq ?_
    refine Cod.region ?_
    obtain ⟨rfl, rfl, rfl⟩ := hr.isNil h
    refine Ops.st (.assign rfl) rfl rfl rfl ?_
    refine Ops.nil ?_
    refine Ext.seq ?_
    exact Cod.ret (Ext.seqR (Ext.retE rfl rfl Ent.vecNil (rfl)))
  ·
    refine Cod.skip ?_
    refine Ext.seq ?_
    refine Cod.seq ?_
    refine Cod.region ?_
    refine Ops.ef (.lit1 ei22 rfl rfl rfl (by repeat' first | exact One.nil | apply One.cons rfl | (apply One.cons (Sl.one (by assumption))))) rfl rfl rfl ?_
    rintro e0 _ ⟨he0, rfl⟩
    refine Ops.st (.move rfl) rfl rfl rfl ?_
    refine Ops.ef (.append rfl rfl (by repeat first | exact TakeP.here _ | apply TakeP.there) (Rd.ro hr) ei22 (by omega) (by simp only [maxLen]; omega)) rfl rfl rfl ?_
    rintro e1 _ ⟨he1, rfl⟩
    rw [Nat.zero_add, List.nil_append]
    refine Ops.st (.assign rfl) rfl rfl rfl ?_
    refine Ops.nil ?_
    refine Ext.seq ?_
    exact Cod.ret (Ext.ret rfl rfl rfl)

theorem plan_any {F : Fr} {b : Nat} {D : DiskM} {v : Value} {l : List UInt8} (hr : SlR F.hf v 1 l.length (u8s l)) (hn : l.length ≤ 70368744177664) :
    Spec Try.prog F 15 [.pointer (some ⟨b, 0, none⟩), v] [disk b D] (fun _ hs' => hs' = [disk b { D with plan := l }]) := by
  refine Spec.open_ (disk_open b D) ?_
  rintro ⟨nb, mr, pv⟩ ⟨hpv, ok⟩
  dsimp only [dI, List.cons_append, List.nil_append] at hpv ⊢
  refine Spec.body Try.func15 rfl Try.ntmps15 rfl ?_
  refine Cod.region ?_
  refine Ops.st (.move rfl) rfl rfl rfl ?_
  refine Ops.st (.move rfl) rfl rfl rfl ?_
  refine Ops.call ⟨Try.call28⟩ rfl rfl rfl (by repeat' first | exact Takes.nil _ | exact TakeP.here _ | apply TakeP.there | apply Takes.cons) (fun F' hF => clone_any (hr.mono hF.hf) hn) rfl rfl rfl ?_
  rintro u _ rfl
  refine Ops.fact (vec_sl (by repeat first | exact TakeP.here _ | apply TakeP.there)) fun hu => ?_
  refine Ops.st (.nilCheck rfl) rfl rfl rfl ?_
  refine Ops.st (.fieldAddr rfl fa60_2) rfl rfl rfl ?_
  refine Ops.ef10 (.store rfl rfl (by repeat first | exact TakeP.here _ | apply TakeP.there) Try.sizeOf22 rfl hu.one (by simp only [Nat.zero_add, List.set_cons_zero, List.set_cons_succ]; rfl)) rfl rfl ?_
  refine Ops.nil ?_
  exact Ext.ret0EN rfl (Ent.fold1 (A := disk b { D with plan := l }) (by repeat' first | exact Takes.nil _ | exact TakeP.here _ | apply TakeP.there | apply Takes.cons) (disk_mk (D := { D with plan := l }) hu ⟨ok.now, ok.dirty, ok.size⟩)) (rfl)
theorem secCs_new (n : Nat) : secCs (List.replicate n (List.replicate 128 0)) = List.replicate (n * 128) (.int .u8 0) := by
  induction n with
  | zero => rfl
  | succ n ih =>
    rw [List.replicate_succ, secCs, List.flatMap_cons]
    have : (List.flatMap u8s (List.replicate n (List.replicate 128 0))) = List.replicate (n * 128) (.int .u8 0) := ih
    rw [this, show u8s (List.replicate 128 0) = List.replicate 128 (.int .u8 0) from by simp [u8s], List.replicate_append_replicate]
    congr 1
    omega
theorem disk_new {b nb mr n : Nat} {pv : Value} (h : Sl pv) (hn : n ≤ 4096) : ∀ z, SL [pt b 60 [.slice (some ⟨nb, 0, none⟩) n n, .map (some mr), pv, .bool false], pt nb 62 (List.replicate (n * 128) (.int .u8 0)), mp mr (Value.int .i64) [], vec pv 5 1 0 []] z →
    disk b ⟨List.replicate n (List.replicate 128 0), [], [], false⟩ z := fun z hz => by
  refine disk_mk (D := ⟨List.replicate n (List.replicate 128 0), [], [], false⟩) (nb := nb) (mr := mr) h ⟨?_, ?_, ?_⟩ z ?_
  · intro s hs
    rw [List.eq_of_mem_replicate hs]
    simp
  · intro e he; cases he
  · simpa using hn
  · rw [secCs_new]
    simpa [dirtyV, u8s] using hz
theorem new_any {F : Fr} {k : Int} : Spec Try.prog F 10 [.int .i64 k] [] (fun v hs' =>
    (¬ (1 ≤ k ∧ k ≤ 4096) ∧ v = .tuple #[.pointer none, .int .i64 1] ∧ hs' = []) ∨
    (1 ≤ k ∧ k ≤ 4096 ∧ ∃ b, v = .tuple #[.pointer (some ⟨b, 0, none⟩), .int .i64 0] ∧ hs' = [disk b ⟨List.replicate k.toNat (List.replicate 128 0), [], [], false⟩])) := by
  refine Spec.body Try.func10 rfl Try.ntmps10 rfl ?_
  refine Cod.seq ?_
  refine Cod.region ?_
  refine Ops.st (.assign rfl) rfl rfl rfl ?_
  refine Ops.st (.assign rfl) rfl rfl rfl ?_
  refine Ops.nil ?_
  refine Ext.seq ?_
  refine Cod.seq ?_
  refine Cod.seq ?_
  refine Cod.region ?_
  refine Ops.st (.move rfl) rfl rfl rfl ?_
  refine Ops.st (.lss rfl rfl) rfl rfl rfl ?_
  refine Ops.st (.move rfl) rfl rfl rfl ?_
  refine Ops.splitD (t := 6) rfl (fun h => ?_) (fun h => ?_)
  ·
    refine Ops.skipG rfl rfl rfl (decide_eq_true h) rfl rfl ?_
    refine Ops.skipG rfl rfl rfl (decide_eq_true h) rfl rfl ?_
    refine Ops.st (.pickT rfl (decide_eq_true h) rfl) rfl rfl rfl ?_
    refine Ops.nil ?_
    refine Ext.seq ?_
    refine Cod.condT rfl (by simp) ?_
    refine Cod.seq ?_
    refine Cod.region ?_
    refine Ops.st (.assign rfl) rfl rfl rfl ?_
    refine Ops.st (.assign rfl) rfl rfl rfl ?_
    refine Ops.nil ?_
    refine Ext.seq ?_
    exact Cod.ret (Ext.seqR (Ext.ret2 rfl rfl rfl (Or.inl ⟨by omega, rfl, rfl⟩)))
  ·
    refine Ops.stG rfl rfl rfl (decide_eq_false h) (.move rfl) rfl rfl ?_
    refine Ops.stG rfl rfl rfl (decide_eq_false h) (.gtr rfl rfl) rfl rfl ?_
    refine Ops.st (.pickF rfl (decide_eq_false h) rfl) rfl rfl rfl ?_
    refine Ops.nil ?_
    refine Ext.seq ?_
    refine Cod.condD rfl (fun h2 => ?_) (fun h2 => ?_)
    ·
      refine Cod.seq ?_
      refine Cod.region ?_
      refine Ops.st (.assign rfl) rfl rfl rfl ?_
      refine Ops.st (.assign rfl) rfl rfl rfl ?_
      refine Ops.nil ?_
      refine Ext.seq ?_
      exact Cod.ret (Ext.seqR (Ext.ret2 rfl rfl rfl (Or.inl ⟨by omega, rfl, rfl⟩)))
    ·
      refine Cod.skip ?_
      refine Ext.seq ?_
      refine Cod.seq ?_
      refine Cod.region ?_
      obtain ⟨n, rfl⟩ : ∃ n : Nat, k = n := ⟨k.toNat, by omega⟩
      refine Ops.st (.move rfl) rfl rfl rfl ?_
      refine Ops.ef (.makePt (ln := n) (cn := n) (xs := List.replicate (n * 128) (.int .u8 0)) rfl rfl ei57 rfl rfl (Nat.le_refl _) (by omega) (by simp only [maxLen]; omega) (by rw [madeCells_rep _ _ _ (by decide)])) rfl rfl rfl ?_
      rintro _ _ ⟨nb, rfl, rfl⟩
      refine Ops.ef (.makeMap (κ := Int) (enc := Value.int .i64)) rfl rfl rfl ?_
      rintro _ _ ⟨mr, rfl, rfl⟩
      refine Ops.st (.build1 (os := [0, 1]) (cs := [_, _, .slice none 0 0, .bool false]) bs60 rfl rfl rfl (One.cons rfl (One.cons rfl One.nil)) rfl) rfl rfl rfl ?_
      refine Ops.ef (.box rfl rfl) rfl rfl rfl ?_
      rintro _ _ ⟨b, rfl, rfl⟩
      refine Ops.ent (Ent.vecNil (T := 5) (sz := 1)) ?_
      refine Ops.st (.assign rfl) rfl rfl rfl ?_
      refine Ops.st (.assign rfl) rfl rfl rfl ?_
      refine Ops.nil ?_
      refine Ext.seq ?_
      exact Cod.ret (Ext.ret2E rfl rfl rfl (Ent.fold1 (A := disk b ⟨List.replicate n (List.replicate 128 0), [], [], false⟩) (by repeat' first | exact Takes.nil _ | exact TakeP.here _ | apply TakeP.there | apply Takes.cons) (disk_new Sl.nil (by omega))) ((Or.inr ⟨by omega, by omega, b, rfl, rfl⟩)))
end Go.Proofs.Ytjlgdbmeajdciaa
