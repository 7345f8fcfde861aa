/- What a link is made of, a Hello and its answer. No condition. -/
import Derived.Test.YtjlimnckdblkhaaA
namespace Go.Proofs.Ytjlimnckdblkhaa
open Go

theorem rightB_bad {k fr to seq ack : Int} {n : Nat} (h : k < 1 ∨ k > 3 ∨ fr < 1 ∨ fr > 1073741824 ∨ to < 0 ∨ to > 1073741824 ∨ seq < 0 ∨ seq > 1073741824 ∨ ack < 0 ∨ ack > 1073741824 ∨ n > 1500) : rightB k fr to seq ack n = false := by
  unfold rightB
  rw [if_pos]
  simp only [odd, Bool.or_eq_true, decide_eq_true_eq]
  omega
theorem rightB_fine {k fr to seq ack : Int} {n : Nat} (h : ¬ (k < 1 ∨ k > 3 ∨ fr < 1 ∨ fr > 1073741824 ∨ to < 0 ∨ to > 1073741824 ∨ seq < 0 ∨ seq > 1073741824 ∨ ack < 0 ∨ ack > 1073741824 ∨ n > 1500)) :
    rightB k fr to seq ack n = if k ≠ 3 then decide (seq + ack + n = 0) else decide (seq > 0) || decide (n = 0) := by
  unfold rightB
  rw [if_neg]
  simp only [odd, Bool.or_eq_true, decide_eq_true_eq]
  omega

theorem right13_any {F : Fr} {k fr to seq ack : Int} {bv : Value} {n : Nat} {bs : List Value} (hr : SlR F.hf bv 1 n bs) :
    Spec Try.prog F 13 [.agg (packC k fr to seq ack bv).toArray] [] (fun v hs' => v = .bool (rightB k fr to seq ack n) ∧ hs' = []) := by
  refine Spec.body Try.func13 rfl Try.ntmps13 rfl ?_
  refine Cod.seq ?_
  refine Cod.region ?_
  refine Ops.ef (.box rfl rfl) rfl rfl rfl ?_
  rintro _ _ ⟨b, rfl, rfl⟩
  refine Ops.st (.assign rfl) rfl rfl rfl ?_
  refine Ops.nil ?_
  refine Ext.seq ?_
  refine Cod.seq ?_
  refine Cod.seq ?_
  refine Cod.region ?_
  refine Ops.st (.fieldAddr rfl fa24_0) rfl rfl rfl ?_
  refine Ops.st (.loadP rfl (by repeat first | exact TakeP.here _ | apply TakeP.there) Try.isAgg3 rfl) rfl rfl rfl ?_
  refine Ops.st (.lss rfl rfl) rfl rfl rfl ?_
  refine Ops.st (.move rfl) rfl rfl rfl ?_
  refine Ops.splitD (t := 6) rfl (fun h0 => ?_) (fun h0 => ?_)
  ·
    refine Ops.skipG rfl rfl rfl (decide_eq_true h0) rfl rfl ?_
    refine Ops.skipG rfl rfl rfl (decide_eq_true h0) rfl rfl ?_
    refine Ops.skipG rfl rfl rfl (decide_eq_true h0) rfl rfl ?_
    refine Ops.st (.pickT rfl (decide_eq_true h0) rfl) rfl rfl rfl ?_
    refine Ops.st (.move rfl) rfl rfl rfl ?_
    refine Ops.skipG rfl rfl rfl (by simp) rfl rfl ?_
    refine Ops.skipG rfl rfl rfl (by simp) rfl rfl ?_
    refine Ops.skipG rfl rfl rfl (by simp) rfl rfl ?_
    refine Ops.st (.pickT rfl (by simp) rfl) rfl rfl rfl ?_
    refine Ops.st (.move rfl) rfl rfl rfl ?_
    refine Ops.skipG rfl rfl rfl (by simp) rfl rfl ?_
    refine Ops.skipG rfl rfl rfl (by simp) rfl rfl ?_
    refine Ops.skipG rfl rfl rfl (by simp) rfl rfl ?_
    refine Ops.st (.pickT rfl (by simp) rfl) rfl rfl rfl ?_
    refine Ops.st (.move rfl) rfl rfl rfl ?_
    refine Ops.skipG rfl rfl rfl (by simp) rfl rfl ?_
    refine Ops.skipG rfl rfl rfl (by simp) rfl rfl ?_
    refine Ops.skipG rfl rfl rfl (by simp) rfl rfl ?_
    refine Ops.st (.pickT rfl (by simp) rfl) rfl rfl rfl ?_
    refine Ops.st (.move rfl) rfl rfl rfl ?_
    refine Ops.skipG rfl rfl rfl (by simp) rfl rfl ?_
    refine Ops.skipG rfl rfl rfl (by simp) rfl rfl ?_
    refine Ops.skipG rfl rfl rfl (by simp) rfl rfl ?_
    refine Ops.st (.pickT rfl (by simp) rfl) rfl rfl rfl ?_
    refine Ops.st (.move rfl) rfl rfl rfl ?_
    refine Ops.skipG rfl rfl rfl (by simp) rfl rfl ?_
    refine Ops.skipG rfl rfl rfl (by simp) rfl rfl ?_
    refine Ops.skipG rfl rfl rfl (by simp) rfl rfl ?_
    refine Ops.st (.pickT rfl (by simp) rfl) rfl rfl rfl ?_
    refine Ops.st (.move rfl) rfl rfl rfl ?_
    refine Ops.skipG rfl rfl rfl (by simp) rfl rfl ?_
    refine Ops.skipG rfl rfl rfl (by simp) rfl rfl ?_
    refine Ops.skipG rfl rfl rfl (by simp) rfl rfl ?_
    refine Ops.st (.pickT rfl (by simp) rfl) rfl rfl rfl ?_
    refine Ops.st (.move rfl) rfl rfl rfl ?_
    refine Ops.skipG rfl rfl rfl (by simp) rfl rfl ?_
    refine Ops.skipG rfl rfl rfl (by simp) rfl rfl ?_
    refine Ops.skipG rfl rfl rfl (by simp) rfl rfl ?_
    refine Ops.st (.pickT rfl (by simp) rfl) rfl rfl rfl ?_
    refine Ops.st (.move rfl) rfl rfl rfl ?_
    refine Ops.skipG rfl rfl rfl (by simp) rfl rfl ?_
    refine Ops.skipG rfl rfl rfl (by simp) rfl rfl ?_
    refine Ops.skipG rfl rfl rfl (by simp) rfl rfl ?_
    refine Ops.st (.pickT rfl (by simp) rfl) rfl rfl rfl ?_
    refine Ops.st (.move rfl) rfl rfl rfl ?_
    refine Ops.skipG rfl rfl rfl (by simp) rfl rfl ?_
    refine Ops.skipG rfl rfl rfl (by simp) rfl rfl ?_
    refine Ops.skipG rfl rfl rfl (by simp) rfl rfl ?_
    refine Ops.skipG rfl rfl rfl (by simp) rfl rfl ?_
    refine Ops.st (.pickT rfl (by simp) rfl) rfl rfl rfl ?_
    refine Ops.nil ?_
    refine Ext.seq ?_
    refine Cod.condT rfl (by simp) ?_
    refine Cod.seq ?_
    refine Cod.region ?_
    refine Ops.st (.assign rfl) rfl rfl rfl ?_
    refine Ops.nil ?_
    refine Ext.seq ?_
    exact Cod.ret (Ext.seqR (Ext.retE rfl rfl (Ent.nil _) (⟨by rw [rightB_bad (by omega)], rfl⟩)))
  ·
    refine Ops.stG rfl rfl rfl (decide_eq_false h0) (.fieldAddr rfl fa24_0) rfl rfl ?_
    refine Ops.stG rfl rfl rfl (decide_eq_false h0) (.loadP rfl (by repeat first | exact TakeP.here _ | apply TakeP.there) Try.isAgg3 rfl) rfl rfl ?_
    refine Ops.stG rfl rfl rfl (decide_eq_false h0) (.gtr rfl rfl) rfl rfl ?_
    refine Ops.st (.pickF rfl (decide_eq_false h0) rfl) rfl rfl rfl ?_
    refine Ops.st (.move rfl) rfl rfl rfl ?_
    refine Ops.splitD (t := 11) rfl (fun h1 => ?_) (fun h1 => ?_)
    ·
      refine Ops.skipG rfl rfl rfl (decide_eq_true h1) rfl rfl ?_
      refine Ops.skipG rfl rfl rfl (decide_eq_true h1) rfl rfl ?_
      refine Ops.skipG rfl rfl rfl (decide_eq_true h1) rfl rfl ?_
      refine Ops.st (.pickT rfl (decide_eq_true h1) rfl) rfl rfl rfl ?_
      refine Ops.st (.move rfl) rfl rfl rfl ?_
      refine Ops.skipG rfl rfl rfl (by simp) rfl rfl ?_
      refine Ops.skipG rfl rfl rfl (by simp) rfl rfl ?_
      refine Ops.skipG rfl rfl rfl (by simp) rfl rfl ?_
      refine Ops.st (.pickT rfl (by simp) rfl) rfl rfl rfl ?_
      refine Ops.st (.move rfl) rfl rfl rfl ?_
      refine Ops.skipG rfl rfl rfl (by simp) rfl rfl ?_
      refine Ops.skipG rfl rfl rfl (by simp) rfl rfl ?_
      refine Ops.skipG rfl rfl rfl (by simp) rfl rfl ?_
      refine Ops.st (.pickT rfl (by simp) rfl) rfl rfl rfl ?_
      refine Ops.st (.move rfl) rfl rfl rfl ?_
      refine Ops.skipG rfl rfl rfl (by simp) rfl rfl ?_
      refine Ops.skipG rfl rfl rfl (by simp) rfl rfl ?_
      refine Ops.skipG rfl rfl rfl (by simp) rfl rfl ?_
      refine Ops.st (.pickT rfl (by simp) rfl) rfl rfl rfl ?_
      refine Ops.st (.move rfl) rfl rfl rfl ?_
      refine Ops.skipG rfl rfl rfl (by simp) rfl rfl ?_
      refine Ops.skipG rfl rfl rfl (by simp) rfl rfl ?_
      refine Ops.skipG rfl rfl rfl (by simp) rfl rfl ?_
      refine Ops.st (.pickT rfl (by simp) rfl) rfl rfl rfl ?_
      refine Ops.st (.move rfl) rfl rfl rfl ?_
      refine Ops.skipG rfl rfl rfl (by simp) rfl rfl ?_
      refine Ops.skipG rfl rfl rfl (by simp) rfl rfl ?_
      refine Ops.skipG rfl rfl rfl (by simp) rfl rfl ?_
      refine Ops.st (.pickT rfl (by simp) rfl) rfl rfl rfl ?_
      refine Ops.st (.move rfl) rfl rfl rfl ?_
      refine Ops.skipG rfl rfl rfl (by simp) rfl rfl ?_
      refine Ops.skipG rfl rfl rfl (by simp) rfl rfl ?_
      refine Ops.skipG rfl rfl rfl (by simp) rfl rfl ?_
      refine Ops.st (.pickT rfl (by simp) rfl) rfl rfl rfl ?_
      refine Ops.st (.move rfl) rfl rfl rfl ?_
      refine Ops.skipG rfl rfl rfl (by simp) rfl rfl ?_
      refine Ops.skipG rfl rfl rfl (by simp) rfl rfl ?_
      refine Ops.skipG rfl rfl rfl (by simp) rfl rfl ?_
      refine Ops.st (.pickT rfl (by simp) rfl) rfl rfl rfl ?_
      refine Ops.st (.move rfl) rfl rfl rfl ?_
      refine Ops.skipG rfl rfl rfl (by simp) rfl rfl ?_
      refine Ops.skipG rfl rfl rfl (by simp) rfl rfl ?_
      refine Ops.skipG rfl rfl rfl (by simp) rfl rfl ?_
      refine Ops.skipG rfl rfl rfl (by simp) rfl rfl ?_
      refine Ops.st (.pickT rfl (by simp) rfl) rfl rfl rfl ?_
      refine Ops.nil ?_
      refine Ext.seq ?_
      refine Cod.condT rfl (by simp) ?_
      refine Cod.seq ?_
      refine Cod.region ?_
      refine Ops.st (.assign rfl) rfl rfl rfl ?_
      refine Ops.nil ?_
      refine Ext.seq ?_
      exact Cod.ret (Ext.seqR (Ext.retE rfl rfl (Ent.nil _) (⟨by rw [rightB_bad (by omega)], rfl⟩)))
    ·
      refine Ops.stG rfl rfl rfl (decide_eq_false h1) (.fieldAddr rfl fa24_1) rfl rfl ?_
      refine Ops.stG rfl rfl rfl (decide_eq_false h1) (.loadP rfl (by repeat first | exact TakeP.here _ | apply TakeP.there) Try.isAgg3 rfl) rfl rfl ?_
      refine Ops.stG rfl rfl rfl (decide_eq_false h1) (.lss rfl rfl) rfl rfl ?_
      refine Ops.st (.pickF rfl (decide_eq_false h1) rfl) rfl rfl rfl ?_
      refine Ops.st (.move rfl) rfl rfl rfl ?_
      refine Ops.splitD (t := 16) rfl (fun h2 => ?_) (fun h2 => ?_)
      ·
        refine Ops.skipG rfl rfl rfl (decide_eq_true h2) rfl rfl ?_
        refine Ops.skipG rfl rfl rfl (decide_eq_true h2) rfl rfl ?_
        refine Ops.skipG rfl rfl rfl (decide_eq_true h2) rfl rfl ?_
        refine Ops.st (.pickT rfl (decide_eq_true h2) rfl) rfl rfl rfl ?_
        refine Ops.st (.move rfl) rfl rfl rfl ?_
        refine Ops.skipG rfl rfl rfl (by simp) rfl rfl ?_
        refine Ops.skipG rfl rfl rfl (by simp) rfl rfl ?_
        refine Ops.skipG rfl rfl rfl (by simp) rfl rfl ?_
        refine Ops.st (.pickT rfl (by simp) rfl) rfl rfl rfl ?_
        refine Ops.st (.move rfl) rfl rfl rfl ?_
        refine Ops.skipG rfl rfl rfl (by simp) rfl rfl ?_
        refine Ops.skipG rfl rfl rfl (by simp) rfl rfl ?_
        refine Ops.skipG rfl rfl rfl (by simp) rfl rfl ?_
        refine Ops.st (.pickT rfl (by simp) rfl) rfl rfl rfl ?_
        refine Ops.st (.move rfl) rfl rfl rfl ?_
        refine Ops.skipG rfl rfl rfl (by simp) rfl rfl ?_
        refine Ops.skipG rfl rfl rfl (by simp) rfl rfl ?_
        refine Ops.skipG rfl rfl rfl (by simp) rfl rfl ?_
        refine Ops.st (.pickT rfl (by simp) rfl) rfl rfl rfl ?_
        refine Ops.st (.move rfl) rfl rfl rfl ?_
        refine Ops.skipG rfl rfl rfl (by simp) rfl rfl ?_
        refine Ops.skipG rfl rfl rfl (by simp) rfl rfl ?_
        refine Ops.skipG rfl rfl rfl (by simp) rfl rfl ?_
        refine Ops.st (.pickT rfl (by simp) rfl) rfl rfl rfl ?_
        refine Ops.st (.move rfl) rfl rfl rfl ?_
        refine Ops.skipG rfl rfl rfl (by simp) rfl rfl ?_
        refine Ops.skipG rfl rfl rfl (by simp) rfl rfl ?_
        refine Ops.skipG rfl rfl rfl (by simp) rfl rfl ?_
        refine Ops.st (.pickT rfl (by simp) rfl) rfl rfl rfl ?_
        refine Ops.st (.move rfl) rfl rfl rfl ?_
        refine Ops.skipG rfl rfl rfl (by simp) rfl rfl ?_
        refine Ops.skipG rfl rfl rfl (by simp) rfl rfl ?_
        refine Ops.skipG rfl rfl rfl (by simp) rfl rfl ?_
        refine Ops.st (.pickT rfl (by simp) rfl) rfl rfl rfl ?_
        refine Ops.st (.move rfl) rfl rfl rfl ?_
        refine Ops.skipG rfl rfl rfl (by simp) rfl rfl ?_
        refine Ops.skipG rfl rfl rfl (by simp) rfl rfl ?_
        refine Ops.skipG rfl rfl rfl (by simp) rfl rfl ?_
        refine Ops.skipG rfl rfl rfl (by simp) rfl rfl ?_
        refine Ops.st (.pickT rfl (by simp) rfl) rfl rfl rfl ?_
        refine Ops.nil ?_
        refine Ext.seq ?_
        refine Cod.condT rfl (by simp) ?_
        refine Cod.seq ?_
        refine Cod.region ?_
        refine Ops.st (.assign rfl) rfl rfl rfl ?_
        refine Ops.nil ?_
        refine Ext.seq ?_
        exact Cod.ret (Ext.seqR (Ext.retE rfl rfl (Ent.nil _) (⟨by rw [rightB_bad (by omega)], rfl⟩)))
      ·
        refine Ops.stG rfl rfl rfl (decide_eq_false h2) (.fieldAddr rfl fa24_1) rfl rfl ?_
        refine Ops.stG rfl rfl rfl (decide_eq_false h2) (.loadP rfl (by repeat first | exact TakeP.here _ | apply TakeP.there) Try.isAgg3 rfl) rfl rfl ?_
        refine Ops.stG rfl rfl rfl (decide_eq_false h2) (.gtr rfl rfl) rfl rfl ?_
        refine Ops.st (.pickF rfl (decide_eq_false h2) rfl) rfl rfl rfl ?_
        refine Ops.st (.move rfl) rfl rfl rfl ?_
        refine Ops.splitD (t := 21) rfl (fun h3 => ?_) (fun h3 => ?_)
        ·
          refine Ops.skipG rfl rfl rfl (decide_eq_true h3) rfl rfl ?_
          refine Ops.skipG rfl rfl rfl (decide_eq_true h3) rfl rfl ?_
          refine Ops.skipG rfl rfl rfl (decide_eq_true h3) rfl rfl ?_
          refine Ops.st (.pickT rfl (decide_eq_true h3) rfl) rfl rfl rfl ?_
          refine Ops.st (.move rfl) rfl rfl rfl ?_
          refine Ops.skipG rfl rfl rfl (by simp) rfl rfl ?_
          refine Ops.skipG rfl rfl rfl (by simp) rfl rfl ?_
          refine Ops.skipG rfl rfl rfl (by simp) rfl rfl ?_
          refine Ops.st (.pickT rfl (by simp) rfl) rfl rfl rfl ?_
          refine Ops.st (.move rfl) rfl rfl rfl ?_
          refine Ops.skipG rfl rfl rfl (by simp) rfl rfl ?_
          refine Ops.skipG rfl rfl rfl (by simp) rfl rfl ?_
          refine Ops.skipG rfl rfl rfl (by simp) rfl rfl ?_
          refine Ops.st (.pickT rfl (by simp) rfl) rfl rfl rfl ?_
          refine Ops.st (.move rfl) rfl rfl rfl ?_
          refine Ops.skipG rfl rfl rfl (by simp) rfl rfl ?_
          refine Ops.skipG rfl rfl rfl (by simp) rfl rfl ?_
          refine Ops.skipG rfl rfl rfl (by simp) rfl rfl ?_
          refine Ops.st (.pickT rfl (by simp) rfl) rfl rfl rfl ?_
          refine Ops.st (.move rfl) rfl rfl rfl ?_
          refine Ops.skipG rfl rfl rfl (by simp) rfl rfl ?_
          refine Ops.skipG rfl rfl rfl (by simp) rfl rfl ?_
          refine Ops.skipG rfl rfl rfl (by simp) rfl rfl ?_
          refine Ops.st (.pickT rfl (by simp) rfl) rfl rfl rfl ?_
          refine Ops.st (.move rfl) rfl rfl rfl ?_
          refine Ops.skipG rfl rfl rfl (by simp) rfl rfl ?_
          refine Ops.skipG rfl rfl rfl (by simp) rfl rfl ?_
          refine Ops.skipG rfl rfl rfl (by simp) rfl rfl ?_
          refine Ops.st (.pickT rfl (by simp) rfl) rfl rfl rfl ?_
          refine Ops.st (.move rfl) rfl rfl rfl ?_
          refine Ops.skipG rfl rfl rfl (by simp) rfl rfl ?_
          refine Ops.skipG rfl rfl rfl (by simp) rfl rfl ?_
          refine Ops.skipG rfl rfl rfl (by simp) rfl rfl ?_
          refine Ops.skipG rfl rfl rfl (by simp) rfl rfl ?_
          refine Ops.st (.pickT rfl (by simp) rfl) rfl rfl rfl ?_
          refine Ops.nil ?_
          refine Ext.seq ?_
          refine Cod.condT rfl (by simp) ?_
          refine Cod.seq ?_
          refine Cod.region ?_
          refine Ops.st (.assign rfl) rfl rfl rfl ?_
          refine Ops.nil ?_
          refine Ext.seq ?_
          exact Cod.ret (Ext.seqR (Ext.retE rfl rfl (Ent.nil _) (⟨by rw [rightB_bad (by omega)], rfl⟩)))
        ·
          refine Ops.stG rfl rfl rfl (decide_eq_false h3) (.fieldAddr rfl fa24_2) rfl rfl ?_
          refine Ops.stG rfl rfl rfl (decide_eq_false h3) (.loadP rfl (by repeat first | exact TakeP.here _ | apply TakeP.there) Try.isAgg3 rfl) rfl rfl ?_
          refine Ops.stG rfl rfl rfl (decide_eq_false h3) (.lss rfl rfl) rfl rfl ?_
          refine Ops.st (.pickF rfl (decide_eq_false h3) rfl) rfl rfl rfl ?_
          refine Ops.st (.move rfl) rfl rfl rfl ?_
          refine Ops.splitD (t := 26) rfl (fun h4 => ?_) (fun h4 => ?_)
          ·
            refine Ops.skipG rfl rfl rfl (decide_eq_true h4) rfl rfl ?_
            refine Ops.skipG rfl rfl rfl (decide_eq_true h4) rfl rfl ?_
            refine Ops.skipG rfl rfl rfl (decide_eq_true h4) rfl rfl ?_
            refine Ops.st (.pickT rfl (decide_eq_true h4) rfl) rfl rfl rfl ?_
            refine Ops.st (.move rfl) rfl rfl rfl ?_
            refine Ops.skipG rfl rfl rfl (by simp) rfl rfl ?_
            refine Ops.skipG rfl rfl rfl (by simp) rfl rfl ?_
            refine Ops.skipG rfl rfl rfl (by simp) rfl rfl ?_
            refine Ops.st (.pickT rfl (by simp) rfl) rfl rfl rfl ?_
            refine Ops.st (.move rfl) rfl rfl rfl ?_
            refine Ops.skipG rfl rfl rfl (by simp) rfl rfl ?_
            refine Ops.skipG rfl rfl rfl (by simp) rfl rfl ?_
            refine Ops.skipG rfl rfl rfl (by simp) rfl rfl ?_
            refine Ops.st (.pickT rfl (by simp) rfl) rfl rfl rfl ?_
            refine Ops.st (.move rfl) rfl rfl rfl ?_
            refine Ops.skipG rfl rfl rfl (by simp) rfl rfl ?_
            refine Ops.skipG rfl rfl rfl (by simp) rfl rfl ?_
            refine Ops.skipG rfl rfl rfl (by simp) rfl rfl ?_
            refine Ops.st (.pickT rfl (by simp) rfl) rfl rfl rfl ?_
            refine Ops.st (.move rfl) rfl rfl rfl ?_
            refine Ops.skipG rfl rfl rfl (by simp) rfl rfl ?_
            refine Ops.skipG rfl rfl rfl (by simp) rfl rfl ?_
            refine Ops.skipG rfl rfl rfl (by simp) rfl rfl ?_
            refine Ops.st (.pickT rfl (by simp) rfl) rfl rfl rfl ?_
            refine Ops.st (.move rfl) rfl rfl rfl ?_
            refine Ops.skipG rfl rfl rfl (by simp) rfl rfl ?_
            refine Ops.skipG rfl rfl rfl (by simp) rfl rfl ?_
            refine Ops.skipG rfl rfl rfl (by simp) rfl rfl ?_
            refine Ops.skipG rfl rfl rfl (by simp) rfl rfl ?_
            refine Ops.st (.pickT rfl (by simp) rfl) rfl rfl rfl ?_
            refine Ops.nil ?_
            refine Ext.seq ?_
            refine Cod.condT rfl (by simp) ?_
            refine Cod.seq ?_
            refine Cod.region ?_
            refine Ops.st (.assign rfl) rfl rfl rfl ?_
            refine Ops.nil ?_
            refine Ext.seq ?_
            exact Cod.ret (Ext.seqR (Ext.retE rfl rfl (Ent.nil _) (⟨by rw [rightB_bad (by omega)], rfl⟩)))
          ·
            refine Ops.stG rfl rfl rfl (decide_eq_false h4) (.fieldAddr rfl fa24_2) rfl rfl ?_
            refine Ops.stG rfl rfl rfl (decide_eq_false h4) (.loadP rfl (by repeat first | exact TakeP.here _ | apply TakeP.there) Try.isAgg3 rfl) rfl rfl ?_
            refine Ops.stG rfl rfl rfl (decide_eq_false h4) (.gtr rfl rfl) rfl rfl ?_
            refine Ops.st (.pickF rfl (decide_eq_false h4) rfl) rfl rfl rfl ?_
            refine Ops.st (.move rfl) rfl rfl rfl ?_
            refine Ops.splitD (t := 31) rfl (fun h5 => ?_) (fun h5 => ?_)
            ·
              refine Ops.skipG rfl rfl rfl (decide_eq_true h5) rfl rfl ?_
              refine Ops.skipG rfl rfl rfl (decide_eq_true h5) rfl rfl ?_
              refine Ops.skipG rfl rfl rfl (decide_eq_true h5) rfl rfl ?_
              refine Ops.st (.pickT rfl (decide_eq_true h5) rfl) rfl rfl rfl ?_
              refine Ops.st (.move rfl) rfl rfl rfl ?_
              refine Ops.skipG rfl rfl rfl (by simp) rfl rfl ?_
              refine Ops.skipG rfl rfl rfl (by simp) rfl rfl ?_
              refine Ops.skipG rfl rfl rfl (by simp) rfl rfl ?_
              refine Ops.st (.pickT rfl (by simp) rfl) rfl rfl rfl ?_
              refine Ops.st (.move rfl) rfl rfl rfl ?_
              refine Ops.skipG rfl rfl rfl (by simp) rfl rfl ?_
              refine Ops.skipG rfl rfl rfl (by simp) rfl rfl ?_
              refine Ops.skipG rfl rfl rfl (by simp) rfl rfl ?_
              refine Ops.st (.pickT rfl (by simp) rfl) rfl rfl rfl ?_
              refine Ops.st (.move rfl) rfl rfl rfl ?_
              refine Ops.skipG rfl rfl rfl (by simp) rfl rfl ?_
              refine Ops.skipG rfl rfl rfl (by simp) rfl rfl ?_
              refine Ops.skipG rfl rfl rfl (by simp) rfl rfl ?_
              refine Ops.st (.pickT rfl (by simp) rfl) rfl rfl rfl ?_
              refine Ops.st (.move rfl) rfl rfl rfl ?_
              refine Ops.skipG rfl rfl rfl (by simp) rfl rfl ?_
              refine Ops.skipG rfl rfl rfl (by simp) rfl rfl ?_
              refine Ops.skipG rfl rfl rfl (by simp) rfl rfl ?_
              refine Ops.skipG rfl rfl rfl (by simp) rfl rfl ?_
              refine Ops.st (.pickT rfl (by simp) rfl) rfl rfl rfl ?_
              refine Ops.nil ?_
              refine Ext.seq ?_
              refine Cod.condT rfl (by simp) ?_
              refine Cod.seq ?_
              refine Cod.region ?_
              refine Ops.st (.assign rfl) rfl rfl rfl ?_
              refine Ops.nil ?_
              refine Ext.seq ?_
              exact Cod.ret (Ext.seqR (Ext.retE rfl rfl (Ent.nil _) (⟨by rw [rightB_bad (by omega)], rfl⟩)))
            ·
              refine Ops.stG rfl rfl rfl (decide_eq_false h5) (.fieldAddr rfl fa24_3) rfl rfl ?_
              refine Ops.stG rfl rfl rfl (decide_eq_false h5) (.loadP rfl (by repeat first | exact TakeP.here _ | apply TakeP.there) Try.isAgg3 rfl) rfl rfl ?_
              refine Ops.stG rfl rfl rfl (decide_eq_false h5) (.lss rfl rfl) rfl rfl ?_
              refine Ops.st (.pickF rfl (decide_eq_false h5) rfl) rfl rfl rfl ?_
              refine Ops.st (.move rfl) rfl rfl rfl ?_
              refine Ops.splitD (t := 36) rfl (fun h6 => ?_) (fun h6 => ?_)
              ·
                refine Ops.skipG rfl rfl rfl (decide_eq_true h6) rfl rfl ?_
                refine Ops.skipG rfl rfl rfl (decide_eq_true h6) rfl rfl ?_
                refine Ops.skipG rfl rfl rfl (decide_eq_true h6) rfl rfl ?_
                refine Ops.st (.pickT rfl (decide_eq_true h6) rfl) rfl rfl rfl ?_
                refine Ops.st (.move rfl) rfl rfl rfl ?_
                refine Ops.skipG rfl rfl rfl (by simp) rfl rfl ?_
                refine Ops.skipG rfl rfl rfl (by simp) rfl rfl ?_
                refine Ops.skipG rfl rfl rfl (by simp) rfl rfl ?_
                refine Ops.st (.pickT rfl (by simp) rfl) rfl rfl rfl ?_
                refine Ops.st (.move rfl) rfl rfl rfl ?_
                refine Ops.skipG rfl rfl rfl (by simp) rfl rfl ?_
                refine Ops.skipG rfl rfl rfl (by simp) rfl rfl ?_
                refine Ops.skipG rfl rfl rfl (by simp) rfl rfl ?_
                refine Ops.st (.pickT rfl (by simp) rfl) rfl rfl rfl ?_
                refine Ops.st (.move rfl) rfl rfl rfl ?_
                refine Ops.skipG rfl rfl rfl (by simp) rfl rfl ?_
                refine Ops.skipG rfl rfl rfl (by simp) rfl rfl ?_
                refine Ops.skipG rfl rfl rfl (by simp) rfl rfl ?_
                refine Ops.skipG rfl rfl rfl (by simp) rfl rfl ?_
                refine Ops.st (.pickT rfl (by simp) rfl) rfl rfl rfl ?_
                refine Ops.nil ?_
                refine Ext.seq ?_
                refine Cod.condT rfl (by simp) ?_
                refine Cod.seq ?_
                refine Cod.region ?_
                refine Ops.st (.assign rfl) rfl rfl rfl ?_
                refine Ops.nil ?_
                refine Ext.seq ?_
                exact Cod.ret (Ext.seqR (Ext.retE rfl rfl (Ent.nil _) (⟨by rw [rightB_bad (by omega)], rfl⟩)))
              ·
                refine Ops.stG rfl rfl rfl (decide_eq_false h6) (.fieldAddr rfl fa24_3) rfl rfl ?_
                refine Ops.stG rfl rfl rfl (decide_eq_false h6) (.loadP rfl (by repeat first | exact TakeP.here _ | apply TakeP.there) Try.isAgg3 rfl) rfl rfl ?_
                refine Ops.stG rfl rfl rfl (decide_eq_false h6) (.gtr rfl rfl) rfl rfl ?_
                refine Ops.st (.pickF rfl (decide_eq_false h6) rfl) rfl rfl rfl ?_
                refine Ops.st (.move rfl) rfl rfl rfl ?_
                refine Ops.splitD (t := 41) rfl (fun h7 => ?_) (fun h7 => ?_)
                ·
                  refine Ops.skipG rfl rfl rfl (decide_eq_true h7) rfl rfl ?_
                  refine Ops.skipG rfl rfl rfl (decide_eq_true h7) rfl rfl ?_
                  refine Ops.skipG rfl rfl rfl (decide_eq_true h7) rfl rfl ?_
                  refine Ops.st (.pickT rfl (decide_eq_true h7) rfl) rfl rfl rfl ?_
                  refine Ops.st (.move rfl) rfl rfl rfl ?_
                  refine Ops.skipG rfl rfl rfl (by simp) rfl rfl ?_
                  refine Ops.skipG rfl rfl rfl (by simp) rfl rfl ?_
                  refine Ops.skipG rfl rfl rfl (by simp) rfl rfl ?_
                  refine Ops.st (.pickT rfl (by simp) rfl) rfl rfl rfl ?_
                  refine Ops.st (.move rfl) rfl rfl rfl ?_
                  refine Ops.skipG rfl rfl rfl (by simp) rfl rfl ?_
                  refine Ops.skipG rfl rfl rfl (by simp) rfl rfl ?_
                  refine Ops.skipG rfl rfl rfl (by simp) rfl rfl ?_
                  refine Ops.skipG rfl rfl rfl (by simp) rfl rfl ?_
                  refine Ops.st (.pickT rfl (by simp) rfl) rfl rfl rfl ?_
                  refine Ops.nil ?_
                  refine Ext.seq ?_
                  refine Cod.condT rfl (by simp) ?_
                  refine Cod.seq ?_
                  refine Cod.region ?_
                  refine Ops.st (.assign rfl) rfl rfl rfl ?_
                  refine Ops.nil ?_
                  refine Ext.seq ?_
                  exact Cod.ret (Ext.seqR (Ext.retE rfl rfl (Ent.nil _) (⟨by rw [rightB_bad (by omega)], rfl⟩)))
                ·
                  refine Ops.stG rfl rfl rfl (decide_eq_false h7) (.fieldAddr rfl fa24_4) rfl rfl ?_
                  refine Ops.stG rfl rfl rfl (decide_eq_false h7) (.loadP rfl (by repeat first | exact TakeP.here _ | apply TakeP.there) Try.isAgg3 rfl) rfl rfl ?_
                  refine Ops.stG rfl rfl rfl (decide_eq_false h7) (.lss rfl rfl) rfl rfl ?_
                  refine Ops.st (.pickF rfl (decide_eq_false h7) rfl) rfl rfl rfl ?_
                  refine Ops.st (.move rfl) rfl rfl rfl ?_
                  refine Ops.splitD (t := 46) rfl (fun h8 => ?_) (fun h8 => ?_)
                  ·
                    refine Ops.skipG rfl rfl rfl (decide_eq_true h8) rfl rfl ?_
                    refine Ops.skipG rfl rfl rfl (decide_eq_true h8) rfl rfl ?_
                    refine Ops.skipG rfl rfl rfl (decide_eq_true h8) rfl rfl ?_
                    refine Ops.st (.pickT rfl (decide_eq_true h8) rfl) rfl rfl rfl ?_
                    refine Ops.st (.move rfl) rfl rfl rfl ?_
                    refine Ops.skipG rfl rfl rfl (by simp) rfl rfl ?_
                    refine Ops.skipG rfl rfl rfl (by simp) rfl rfl ?_
                    refine Ops.skipG rfl rfl rfl (by simp) rfl rfl ?_
                    refine Ops.skipG rfl rfl rfl (by simp) rfl rfl ?_
                    refine Ops.st (.pickT rfl (by simp) rfl) rfl rfl rfl ?_
                    refine Ops.nil ?_
                    refine Ext.seq ?_
                    refine Cod.condT rfl (by simp) ?_
                    refine Cod.seq ?_
                    refine Cod.region ?_
                    refine Ops.st (.assign rfl) rfl rfl rfl ?_
                    refine Ops.nil ?_
                    refine Ext.seq ?_
                    exact Cod.ret (Ext.seqR (Ext.retE rfl rfl (Ent.nil _) (⟨by rw [rightB_bad (by omega)], rfl⟩)))
                  ·
                    refine Ops.stG rfl rfl rfl (decide_eq_false h8) (.fieldAddr rfl fa24_4) rfl rfl ?_
                    refine Ops.stG rfl rfl rfl (decide_eq_false h8) (.loadP rfl (by repeat first | exact TakeP.here _ | apply TakeP.there) Try.isAgg3 rfl) rfl rfl ?_
                    refine Ops.stG rfl rfl rfl (decide_eq_false h8) (.gtr rfl rfl) rfl rfl ?_
                    refine Ops.st (.pickF rfl (decide_eq_false h8) rfl) rfl rfl rfl ?_
                    refine Ops.st (.move rfl) rfl rfl rfl ?_
                    refine Ops.splitD (t := 51) rfl (fun h9 => ?_) (fun h9 => ?_)
                    ·
                      refine Ops.skipG rfl rfl rfl (decide_eq_true h9) rfl rfl ?_
                      refine Ops.skipG rfl rfl rfl (decide_eq_true h9) rfl rfl ?_
                      refine Ops.skipG rfl rfl rfl (decide_eq_true h9) rfl rfl ?_
                      refine Ops.skipG rfl rfl rfl (decide_eq_true h9) rfl rfl ?_
                      refine Ops.st (.pickT rfl (decide_eq_true h9) rfl) rfl rfl rfl ?_
                      refine Ops.nil ?_
                      refine Ext.seq ?_
                      refine Cod.condT rfl (by simp) ?_
                      refine Cod.seq ?_
                      refine Cod.region ?_
                      refine Ops.st (.assign rfl) rfl rfl rfl ?_
                      refine Ops.nil ?_
                      refine Ext.seq ?_
                      exact Cod.ret (Ext.seqR (Ext.retE rfl rfl (Ent.nil _) (⟨by rw [rightB_bad (by omega)], rfl⟩)))
                    ·
                      refine Ops.stG rfl rfl rfl (decide_eq_false h9) (.fieldAddr rfl fa24_5) rfl rfl ?_
                      refine Ops.stG rfl rfl rfl (decide_eq_false h9) (.loadP rfl (by repeat first | exact TakeP.here _ | apply TakeP.there) Try.isAgg22 rfl) rfl rfl ?_
                      refine Ops.stG rfl rfl rfl (decide_eq_false h9) (.len rfl (by first | assumption | exact Rd.vec (by repeat first | exact TakeP.here _ | apply TakeP.there) | exact Rd.ro (by assumption)) Try.runUnderlying22) rfl rfl ?_
                      refine Ops.stG rfl rfl rfl (decide_eq_false h9) (.gtr rfl rfl) rfl rfl ?_
                      refine Ops.st (.pickF rfl (decide_eq_false h9) rfl) rfl rfl rfl ?_
                      refine Ops.nil ?_
                      refine Ext.seq ?_
                      refine Cod.condD rfl (fun h10 => ?_) (fun h10 => ?_)
                      ·
                        refine Cod.seq ?_
                        refine Cod.region ?_
                        refine Ops.st (.assign rfl) rfl rfl rfl ?_
                        refine Ops.nil ?_
                        refine Ext.seq ?_
                        exact Cod.ret (Ext.seqR (Ext.retE rfl rfl (Ent.nil _) (⟨by rw [rightB_bad (by omega)], rfl⟩)))
                      ·
                        refine Cod.skip ?_
                        refine Ext.seq ?_
                        refine Cod.seq ?_
                        refine Cod.seq ?_
                        refine Cod.region ?_
                        have hn := rightB_fine (k := k) (fr := fr) (to := to) (seq := seq) (ack := ack) (n := n) (by omega)
                        refine Ops.st (.fieldAddr rfl fa24_0) rfl rfl rfl ?_
                        refine Ops.st (.loadP rfl (by repeat first | exact TakeP.here _ | apply TakeP.there) Try.isAgg3 rfl) rfl rfl rfl ?_
                        refine Ops.st (.neq rfl rfl) rfl rfl rfl ?_
                        refine Ops.nil ?_
                        refine Ext.seq ?_
                        refine Cod.condD rfl (fun hk => ?_) (fun hk => ?_)
                        ·
                          refine Cod.seq ?_
                          refine Cod.region ?_
                          refine Ops.st (.fieldAddr rfl fa24_3) rfl rfl rfl ?_
                          refine Ops.st (.loadP rfl (by repeat first | exact TakeP.here _ | apply TakeP.there) Try.isAgg3 rfl) rfl rfl rfl ?_
                          refine Ops.st (.eql rfl rfl) rfl rfl rfl ?_
                          refine Ops.st (.move rfl) rfl rfl rfl ?_
                          refine Ops.splitD (t := 63) rfl (fun a => ?_) (fun a => ?_)
                          ·
                            refine Ops.stG rfl rfl rfl (decide_eq_true a) (.fieldAddr rfl fa24_4) rfl rfl ?_
                            refine Ops.stG rfl rfl rfl (decide_eq_true a) (.loadP rfl (by repeat first | exact TakeP.here _ | apply TakeP.there) Try.isAgg3 rfl) rfl rfl ?_
                            refine Ops.stG rfl rfl rfl (decide_eq_true a) (.eql rfl rfl) rfl rfl ?_
                            refine Ops.st (.pickT rfl (decide_eq_true a) rfl) rfl rfl rfl ?_
                            refine Ops.st (.move rfl) rfl rfl rfl ?_
                            refine Ops.splitD (t := 68) rfl (fun b => ?_) (fun b => ?_)
                            ·
                              refine Ops.stG rfl rfl rfl (decide_eq_true b) (.fieldAddr rfl fa24_5) rfl rfl ?_
                              refine Ops.stG rfl rfl rfl (decide_eq_true b) (.loadP rfl (by repeat first | exact TakeP.here _ | apply TakeP.there) Try.isAgg22 rfl) rfl rfl ?_
                              refine Ops.stG rfl rfl rfl (decide_eq_true b) (.len rfl (by first | assumption | exact Rd.vec (by repeat first | exact TakeP.here _ | apply TakeP.there) | exact Rd.ro (by assumption)) Try.runUnderlying22) rfl rfl ?_
                              refine Ops.stG rfl rfl rfl (decide_eq_true b) (.eql rfl rfl) rfl rfl ?_
                              refine Ops.st (.pickT rfl (decide_eq_true b) rfl) rfl rfl rfl ?_
                              refine Ops.st (.assign rfl) rfl rfl rfl ?_
                              refine Ops.nil ?_
                              refine Ext.seq ?_
                              exact Cod.ret (Ext.seqR (Ext.retE rfl rfl (Ent.nil _) (⟨by rw [hn, if_pos hk]; congr 1; exact decide_eq_decide.2 (by omega), rfl⟩)))
                            ·
                              refine Ops.skipG rfl rfl rfl (decide_eq_false b) rfl rfl ?_
                              refine Ops.skipG rfl rfl rfl (decide_eq_false b) rfl rfl ?_
                              refine Ops.skipG rfl rfl rfl (decide_eq_false b) rfl rfl ?_
                              refine Ops.skipG rfl rfl rfl (decide_eq_false b) rfl rfl ?_
                              refine Ops.st (.pickF rfl (decide_eq_false b) rfl) rfl rfl rfl ?_
                              refine Ops.st (.assign rfl) rfl rfl rfl ?_
                              refine Ops.nil ?_
                              refine Ext.seq ?_
                              exact Cod.ret (Ext.seqR (Ext.retE rfl rfl (Ent.nil _) (⟨by rw [hn, if_pos hk]; congr 1; exact (decide_eq_false (by omega)).symm, rfl⟩)))
                          ·
                            refine Ops.skipG rfl rfl rfl (decide_eq_false a) rfl rfl ?_
                            refine Ops.skipG rfl rfl rfl (decide_eq_false a) rfl rfl ?_
                            refine Ops.skipG rfl rfl rfl (decide_eq_false a) rfl rfl ?_
                            refine Ops.st (.pickF rfl (decide_eq_false a) rfl) rfl rfl rfl ?_
                            refine Ops.st (.move rfl) rfl rfl rfl ?_
                            refine Ops.skipG rfl rfl rfl (by simp) rfl rfl ?_
                            refine Ops.skipG rfl rfl rfl (by simp) rfl rfl ?_
                            refine Ops.skipG rfl rfl rfl (by simp) rfl rfl ?_
                            refine Ops.skipG rfl rfl rfl (by simp) rfl rfl ?_
                            refine Ops.st (.pickF rfl (by simp) rfl) rfl rfl rfl ?_
                            refine Ops.st (.assign rfl) rfl rfl rfl ?_
                            refine Ops.nil ?_
                            refine Ext.seq ?_
                            exact Cod.ret (Ext.seqR (Ext.retE rfl rfl (Ent.nil _) (⟨by rw [hn, if_pos hk]; congr 1; exact (decide_eq_false (by omega)).symm, rfl⟩)))
                        ·
                          refine Cod.skip ?_
                          refine Ext.seq ?_
                          refine Cod.seq ?_
                          refine Cod.region ?_
                          refine Ops.st (.fieldAddr rfl fa24_3) rfl rfl rfl ?_
                          refine Ops.st (.loadP rfl (by repeat first | exact TakeP.here _ | apply TakeP.there) Try.isAgg3 rfl) rfl rfl rfl ?_
                          refine Ops.st (.gtr rfl rfl) rfl rfl rfl ?_
                          refine Ops.st (.move rfl) rfl rfl rfl ?_
                          refine Ops.splitD (t := 77) rfl (fun c => ?_) (fun c => ?_)
                          ·
                            refine Ops.skipG rfl rfl rfl (decide_eq_true c) rfl rfl ?_
                            refine Ops.skipG rfl rfl rfl (decide_eq_true c) rfl rfl ?_
                            refine Ops.skipG rfl rfl rfl (decide_eq_true c) rfl rfl ?_
                            refine Ops.skipG rfl rfl rfl (decide_eq_true c) rfl rfl ?_
                            refine Ops.st (.pickT rfl (decide_eq_true c) rfl) rfl rfl rfl ?_
                            refine Ops.st (.assign rfl) rfl rfl rfl ?_
                            refine Ops.nil ?_
                            refine Ext.seq ?_
                            exact Cod.ret (Ext.retE rfl rfl (Ent.nil _) (⟨by rw [hn, if_neg hk]; simp [c], rfl⟩))
                          ·
                            refine Ops.stG rfl rfl rfl (decide_eq_false c) (.fieldAddr rfl fa24_5) rfl rfl ?_
                            refine Ops.stG rfl rfl rfl (decide_eq_false c) (.loadP rfl (by repeat first | exact TakeP.here _ | apply TakeP.there) Try.isAgg22 rfl) rfl rfl ?_
                            refine Ops.stG rfl rfl rfl (decide_eq_false c) (.len rfl (by first | assumption | exact Rd.vec (by repeat first | exact TakeP.here _ | apply TakeP.there) | exact Rd.ro (by assumption)) Try.runUnderlying22) rfl rfl ?_
                            refine Ops.stG rfl rfl rfl (decide_eq_false c) (.eql rfl rfl) rfl rfl ?_
                            refine Ops.st (.pickF rfl (decide_eq_false c) rfl) rfl rfl rfl ?_
                            refine Ops.st (.assign rfl) rfl rfl rfl ?_
                            refine Ops.nil ?_
                            refine Ext.seq ?_
                            exact Cod.ret (Ext.retE rfl rfl (Ent.nil _) (⟨by rw [hn, if_neg hk]; simp [c], rfl⟩))

/-- What hangs on a peer, as cells; a link. -/
abbrev sesC (e p f s nx t : Int) : List Value := [.int .i64 e, .int .i64 p, .int .i64 f, .int .i64 s, .int .i64 nx, .int .i64 t]
abbrev lkC (e p f s nx t : Int) (wv : Value) : List Value := [.int .i64 e, .int .i64 p, .int .i64 f, .int .i64 s, .int .i64 nx, .int .i64 t, wv]

theorem begun_any {F : Fr} {e p : Int} : Spec Try.prog F 29 [.int .i64 e, .int .i64 p] [] (fun v hs' => v = .agg (sesC e p 1 0 1 0).toArray ∧ hs' = []) := by
  refine Spec.body Try.func29 rfl Try.ntmps29 rfl ?_
  refine Cod.seq ?_
  refine Cod.region ?_
  refine Ops.ef (.alloc Try.zeroValue70 rfl) rfl rfl rfl ?_
  rintro _ _ ⟨b, rfl, rfl⟩
  refine Ops.nil ?_
  refine Ext.seq ?_
  refine Cod.seq ?_
  refine Cod.region ?_
  refine Ops.st (.move rfl) rfl rfl rfl ?_
  refine Ops.st (.move rfl) rfl rfl rfl ?_
  refine Ops.st (.build1 (os := [0, 1, 2, 4]) (cs := [_, _, _, (.int .i64 0), _, (.int .i64 0)]) bs70 rfl rfl rfl (by repeat' first | exact One.nil | apply One.cons rfl | (apply One.cons (Sl.one (by assumption)))) rfl) rfl rfl rfl ?_
  refine Ops.ef10 (.storeA rfl rfl (by repeat first | exact TakeP.here _ | apply TakeP.there) Try.sizeOf70 rfl (by first | decide | simp) (by first | decide | exact (by repeat' first | exact One.nil | apply One.cons rfl | (apply One.cons (Sl.one (by assumption))))) rfl) rfl rfl ?_
  refine Ops.nil ?_
  refine Ext.seq ?_
  exact Cod.ret (Ext.retC rfl rfl (by repeat first | exact TakeP.here _ | apply TakeP.there) Try.isAgg70 Try.sizeOf70 (by first | rfl | assumption) ⟨rfl, rfl⟩)

theorem bare_any {F : Fr} {e p f s nx t kind : Int} : Spec Try.prog F 33 [.agg (sesC e p f s nx t).toArray, .int .i64 kind] [] (fun v hs' => v = .agg (packC kind e p 0 0 (.slice none 0 0)).toArray ∧ hs' = []) := by
  refine Spec.body Try.func33 rfl Try.ntmps33 rfl ?_
  refine Cod.seq ?_
  refine Cod.region ?_
  refine Ops.ef (.box rfl rfl) rfl rfl rfl ?_
  rintro _ _ ⟨b, rfl, rfl⟩
  refine Ops.ef (.alloc Try.zeroValue24 rfl) rfl rfl rfl ?_
  rintro _ _ ⟨c, rfl, rfl⟩
  refine Ops.nil ?_
  refine Ext.seq ?_
  refine Cod.seq ?_
  refine Cod.region ?_
  refine Ops.st (.move rfl) rfl rfl rfl ?_
  refine Ops.st (.fieldAddr rfl fa70_0) rfl rfl rfl ?_
  refine Ops.st (.loadP rfl (by repeat first | exact TakeP.here _ | apply TakeP.there) Try.isAgg3 rfl) rfl rfl rfl ?_
  refine Ops.st (.fieldAddr rfl fa70_1) rfl rfl rfl ?_
  refine Ops.st (.loadP rfl (by repeat first | exact TakeP.here _ | apply TakeP.there) Try.isAgg3 rfl) rfl rfl rfl ?_
  refine Ops.st (.build1 (os := [0, 1, 2]) (cs := [_, _, _, (.int .i64 0), (.int .i64 0), (.slice none 0 0)]) bs24 rfl rfl rfl (by repeat' first | exact One.nil | apply One.cons rfl | (apply One.cons (Sl.one (by assumption)))) rfl) rfl rfl rfl ?_
  refine Ops.ef10 (.storeA rfl rfl (by repeat first | exact TakeP.here _ | apply TakeP.there) Try.sizeOf24 rfl (by first | decide | simp) (by first | decide | exact (by repeat' first | exact One.nil | apply One.cons rfl | (apply One.cons (Sl.one (by assumption))))) rfl) rfl rfl ?_
  refine Ops.nil ?_
  refine Ext.seq ?_
  exact Cod.ret (Ext.retCE rfl rfl (by repeat first | exact TakeP.here _ | apply TakeP.there) Try.isAgg24 Try.sizeOf24 (by first | rfl | assumption) (Ent.nil _) (⟨rfl, rfl⟩))

theorem meets_any {F : Fr} {b : Nat} {e p f s nx t ep : Int} {wv : Value} (hw : Sl wv) : Spec Try.prog F 37 [.pointer (some ⟨b, 0, none⟩), .int .i64 ep] [pt b 73 (lkC e p f s nx t wv)]
    (fun _ hs' => hs' = [pt b 73 (if ep > p then lkC e ep 1 0 1 0 wv else lkC e p f s nx t wv)]) := by
  refine Spec.body Try.func37 rfl Try.ntmps37 rfl ?_
  refine Cod.seq ?_
  refine Cod.region ?_
  refine Ops.st (.move rfl) rfl rfl rfl ?_
  refine Ops.st (.move rfl) rfl rfl rfl ?_
  refine Ops.st (.nilCheck rfl) rfl rfl rfl ?_
  refine Ops.st (.fieldAddr rfl fa73_0) rfl rfl rfl ?_
  refine Ops.st (.fieldAddr rfl fa70_1) rfl rfl rfl ?_
  refine Ops.st (.loadP rfl (by repeat first | exact TakeP.here _ | apply TakeP.there) Try.isAgg3 rfl) rfl rfl rfl ?_
  refine Ops.st (.gtr rfl rfl) rfl rfl rfl ?_
  refine Ops.nil ?_
  refine Ext.seq ?_
  refine Cod.condD rfl (fun h => ?_) (fun h => ?_)
  ·
    refine Cod.region ?_
    refine Ops.st (.move rfl) rfl rfl rfl ?_
    refine Ops.st (.move rfl) rfl rfl rfl ?_
    refine Ops.st (.nilCheck rfl) rfl rfl rfl ?_
    refine Ops.st (.fieldAddr rfl fa73_0) rfl rfl rfl ?_
    refine Ops.st (.fieldAddr rfl fa70_0) rfl rfl rfl ?_
    refine Ops.st (.loadP rfl (by repeat first | exact TakeP.here _ | apply TakeP.there) Try.isAgg3 rfl) rfl rfl rfl ?_
    refine Ops.st (.move rfl) rfl rfl rfl ?_
    refine Ops.call ⟨Try.call29⟩ rfl rfl rfl (by repeat' first | exact Takes.nil _ | exact TakeP.here _ | apply TakeP.there | apply Takes.cons) (fun F' hF => begun_any) rfl rfl rfl ?_
    rintro _ _ ⟨rfl, rfl⟩
    refine Ops.st (.nilCheck rfl) rfl rfl rfl ?_
    refine Ops.st (.fieldAddr rfl fa73_0) rfl rfl rfl ?_
    refine Ops.ef10 (.storeA rfl rfl (by repeat first | exact TakeP.here _ | apply TakeP.there) Try.sizeOf70 rfl (by first | decide | simp) (by first | decide | exact (by repeat' first | exact One.nil | apply One.cons rfl | (apply One.cons (Sl.one (by assumption))))) rfl) rfl rfl ?_
    refine Ops.nil ?_
    exact Ext.ret0N rfl (by rw [if_pos h]; rfl)
  ·
    refine Cod.skip ?_
    exact Ext.ret0N rfl (by rw [if_neg h])

theorem peer_any {F : Fr} {b : Nat} {e p f s nx t : Int} {wv : Value} : Spec Try.prog F 24 [.pointer (some ⟨b, 0, none⟩)] [pt b 73 (lkC e p f s nx t wv)]
    (fun v hs' => v = .int .i64 p ∧ hs' = [pt b 73 (lkC e p f s nx t wv)]) := by
  refine Spec.body Try.func24 rfl Try.ntmps24 rfl ?_
  refine Cod.seq ?_
  refine Cod.region ?_
  refine Ops.st (.assign rfl) rfl rfl rfl ?_
  refine Ops.nil ?_
  refine Ext.seq ?_
  refine Cod.seq ?_
  refine Cod.region ?_
  refine Ops.st (.move rfl) rfl rfl rfl ?_
  refine Ops.st (.nilCheck rfl) rfl rfl rfl ?_
  refine Ops.st (.fieldAddr rfl fa73_0) rfl rfl rfl ?_
  refine Ops.st (.fieldAddr rfl fa70_1) rfl rfl rfl ?_
  refine Ops.st (.loadP rfl (by repeat first | exact TakeP.here _ | apply TakeP.there) Try.isAgg3 rfl) rfl rfl rfl ?_
  refine Ops.st (.assign rfl) rfl rfl rfl ?_
  refine Ops.nil ?_
  refine Ext.seq ?_
  exact Cod.ret (Ext.ret rfl rfl ⟨rfl, rfl⟩)

theorem new_ok {F : Fr} {ep : Int} (h : 1 ≤ ep ∧ ep ≤ 1073741824) : Spec Try.prog F 10 [.int .i64 ep] []
    (fun v hs' => ∃ b, v = .tuple #[.pointer (some ⟨b, 0, none⟩), .int .i64 0] ∧ hs' = [pt b 73 (lkC ep 0 1 0 1 0 (.slice none 0 0))]) := by
  refine Spec.body Try.func10 rfl Try.ntmps10 rfl ?_
  refine Cod.seq ?_
  refine Cod.region ?_
  refine Ops.st (.assign rfl) rfl rfl rfl ?_
  refine Ops.st (.assign rfl) rfl rfl rfl ?_
  refine Ops.nil ?_
  refine Ext.seq ?_
  refine Cod.seq ?_
  refine Cod.seq ?_
  refine Cod.region ?_
  refine Ops.st (.move rfl) rfl rfl rfl ?_
  refine Ops.st (.lss rfl rfl) rfl rfl rfl ?_
  refine Ops.st (.move rfl) rfl rfl rfl ?_
  refine Ops.stG rfl rfl rfl (decide_eq_false (by omega)) (.move rfl) rfl rfl ?_
  refine Ops.stG rfl rfl rfl (decide_eq_false (by omega)) (.gtr rfl rfl) rfl rfl ?_
  refine Ops.st (.pickF rfl (decide_eq_false (by omega)) rfl) rfl rfl rfl ?_
  refine Ops.nil ?_
  refine Ext.seq ?_
  refine Cod.condF rfl (decide_eq_false (by omega)) ?_
  refine Cod.skip ?_
  refine Ext.seq ?_
  refine Cod.seq ?_
  refine Cod.region ?_
  refine Ops.st (.move rfl) rfl rfl rfl ?_
  refine Ops.call ⟨Try.call29⟩ rfl rfl rfl (by repeat' first | exact Takes.nil _ | exact TakeP.here _ | apply TakeP.there | apply Takes.cons) (fun F' hF => begun_any) rfl rfl rfl ?_
  rintro _ _ ⟨rfl, rfl⟩
  refine Ops.st (.buildA (os := [0]) (css := [sesC ep 0 1 0 1 0]) bs73 rfl ⟨rfl, trivial⟩ rfl rfl rfl) rfl rfl rfl ?_
  refine Ops.ef (.box rfl rfl) rfl rfl rfl ?_
  rintro _ _ ⟨b, rfl, rfl⟩
  refine Ops.st (.assign rfl) rfl rfl rfl ?_
  refine Ops.st (.assign rfl) rfl rfl rfl ?_
  refine Ops.nil ?_
  refine Ext.seq ?_
  exact Cod.ret (Ext.ret2 rfl rfl rfl ⟨b, rfl, rfl⟩)

theorem new_bad {F : Fr} {ep : Int} (h : ¬ (1 ≤ ep ∧ ep ≤ 1073741824)) : Spec Try.prog F 10 [.int .i64 ep] []
    (fun v hs' => v = .tuple #[.pointer none, .int .i64 1] ∧ hs' = []) := by
  refine Spec.body Try.func10 rfl Try.ntmps10 rfl ?_
  refine Cod.seq ?_
  refine Cod.region ?_
  refine Ops.st (.assign rfl) rfl rfl rfl ?_
  refine Ops.st (.assign rfl) rfl rfl rfl ?_
  refine Ops.nil ?_
  refine Ext.seq ?_
  refine Cod.seq ?_
  refine Cod.seq ?_
  refine Cod.region ?_
  refine Ops.st (.move rfl) rfl rfl rfl ?_
  refine Ops.st (.lss rfl rfl) rfl rfl rfl ?_
  refine Ops.st (.move rfl) rfl rfl rfl ?_
  refine Ops.splitD (t := 6) rfl (fun h1 => ?_) (fun h1 => ?_)
  ·
    refine Ops.skipG rfl rfl rfl (decide_eq_true h1) rfl rfl ?_
    refine Ops.skipG rfl rfl rfl (decide_eq_true h1) rfl rfl ?_
    refine Ops.st (.pickT rfl (decide_eq_true h1) rfl) rfl rfl rfl ?_
    refine Ops.nil ?_
    refine Ext.seq ?_
    refine Cod.condT rfl (by simp) ?_
    refine Cod.seq ?_
    refine Cod.region ?_
    refine Ops.st (.assign rfl) rfl rfl rfl ?_
    refine Ops.st (.assign rfl) rfl rfl rfl ?_
    refine Ops.nil ?_
    refine Ext.seq ?_
    exact Cod.ret (Ext.seqR (Ext.ret2 rfl rfl rfl ⟨rfl, rfl⟩))
  ·
    refine Ops.stG rfl rfl rfl (decide_eq_false h1) (.move rfl) rfl rfl ?_
    refine Ops.stG rfl rfl rfl (decide_eq_false h1) (.gtr rfl rfl) rfl rfl ?_
    refine Ops.st (.pickF rfl (decide_eq_false h1) rfl) rfl rfl rfl ?_
    refine Ops.nil ?_
    refine Ext.seq ?_
    refine Cod.condT rfl (decide_eq_true (by omega)) ?_
    refine Cod.seq ?_
    refine Cod.region ?_
    refine Ops.st (.assign rfl) rfl rfl rfl ?_
    refine Ops.st (.assign rfl) rfl rfl rfl ?_
    refine Ops.nil ?_
    refine Ext.seq ?_
    exact Cod.ret (Ext.seqR (Ext.ret2 rfl rfl rfl ⟨rfl, rfl⟩))

theorem new_any {F : Fr} {ep : Int} : Spec Try.prog F 10 [.int .i64 ep] [] (fun v hs' => ∃ a : Option Addr, v = .tuple #[.pointer a, .int .i64 (if 1 ≤ ep ∧ ep ≤ 1073741824 then 0 else 1)] ∧ a.isNone = decide (¬ (1 ≤ ep ∧ ep ≤ 1073741824)) ∧ hs' = []) := by
  by_cases h : 1 ≤ ep ∧ ep ≤ 1073741824
  · exact Spec.weak (new_ok h) fun v hs' ⟨b, hv, _⟩ => ⟨[], Ent.nil _, some ⟨b, 0, none⟩, by rw [hv, if_pos h], by simp [h], rfl⟩
  · exact Spec.weak (new_bad h) fun v hs' ⟨hv, _⟩ => ⟨[], Ent.nil _, none, by rw [hv, if_neg h], by simp [h], rfl⟩

theorem new13_any {F : Fr} {ep : Int} : Spec Try.prog F 11 [.int .i64 ep] [] (fun v hs' => ∃ a : Option Addr, v = .tuple #[.pointer a, .int .i64 (if 1 ≤ ep ∧ ep ≤ 1073741824 then 0 else 1)] ∧ hs' = []) := by
  refine Spec.body Try.func11 rfl Try.ntmps11 rfl ?_
  refine Cod.seq ?_
  refine Cod.region ?_
  refine Ops.st (.assign rfl) rfl rfl rfl ?_
  refine Ops.st (.assign rfl) rfl rfl rfl ?_
  refine Ops.nil ?_
  refine Ext.seq ?_
  refine Cod.seq ?_
  refine Cod.seq ?_
  refine Cod.region ?_
  refine Ops.st (.move rfl) rfl rfl rfl ?_
  refine Ops.st (.lss rfl rfl) rfl rfl rfl ?_
  refine Ops.st (.move rfl) rfl rfl rfl ?_
  refine Ops.splitD (t := 6) rfl (fun h1 => ?_) (fun h1 => ?_)
  ·
    refine Ops.skipG rfl rfl rfl (decide_eq_true h1) rfl rfl ?_
    refine Ops.skipG rfl rfl rfl (decide_eq_true h1) rfl rfl ?_
    refine Ops.st (.pickT rfl (decide_eq_true h1) rfl) rfl rfl rfl ?_
    refine Ops.nil ?_
    refine Ext.seq ?_
    refine Cod.condT rfl (by simp) ?_
    refine Cod.seq ?_
    refine Cod.region ?_
    refine Ops.st (.assign rfl) rfl rfl rfl ?_
    refine Ops.st (.assign rfl) rfl rfl rfl ?_
    refine Ops.nil ?_
    refine Ext.seq ?_
    exact Cod.ret (Ext.seqR (Ext.ret2 rfl rfl rfl ⟨none, by rw [if_neg (by omega)], rfl⟩))
  ·
    refine Ops.stG rfl rfl rfl (decide_eq_false h1) (.move rfl) rfl rfl ?_
    refine Ops.stG rfl rfl rfl (decide_eq_false h1) (.gtr rfl rfl) rfl rfl ?_
    refine Ops.st (.pickF rfl (decide_eq_false h1) rfl) rfl rfl rfl ?_
    refine Ops.nil ?_
    refine Ext.seq ?_
    refine Cod.condD rfl (fun h2 => ?_) (fun h2 => ?_)
    ·
      refine Cod.seq ?_
      refine Cod.region ?_
      refine Ops.st (.assign rfl) rfl rfl rfl ?_
      refine Ops.st (.assign rfl) rfl rfl rfl ?_
      refine Ops.nil ?_
      refine Ext.seq ?_
      exact Cod.ret (Ext.seqR (Ext.ret2 rfl rfl rfl ⟨none, by rw [if_neg (by omega)], rfl⟩))
    ·
      refine Cod.skip ?_
      refine Ext.seq ?_
      refine Cod.seq ?_
      refine Cod.region ?_
      refine Ops.st (.move rfl) rfl rfl rfl ?_
      refine Ops.st (.build1 (os := [0, 3, 5]) (cs := [_, (.int .i64 0), (.slice none 0 0), _, (.int .i64 0), _, (.int .i64 0)]) bs49 rfl rfl rfl (by repeat' first | exact One.nil | apply One.cons rfl | (apply One.cons (Sl.one (by assumption)))) rfl) rfl rfl rfl ?_
      refine Ops.ef (.box rfl rfl) rfl rfl rfl ?_
      rintro _ _ ⟨b, rfl, rfl⟩
      refine Ops.st (.assign rfl) rfl rfl rfl ?_
      refine Ops.st (.assign rfl) rfl rfl rfl ?_
      refine Ops.nil ?_
      refine Ext.seq ?_
      exact Cod.ret (Ext.ret2E rfl rfl rfl (Ent.nil _) (⟨some ⟨b, 0, none⟩, by rw [if_pos (by omega)], rfl⟩))
end Go.Proofs.Ytjlimnckdblkhaa
