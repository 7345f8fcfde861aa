/- LinkRight: which packets may be, and of which epochs there are links. No condition. -/
import Derived.Test.YtjlimnckdblkhaaB
namespace Go.Proofs.Ytjlimnckdblkhaa
open Go

/-- A Hello of a greater epoch, and its answer. -/
theorem hello_any {F : Fr} {b : Nat} {e p f s nx t fr : Int} {wv : Value} (hw : Sl wv) (h : p < fr) (hR : rightB 1 fr 0 0 0 0 = true) :
    Spec Try.prog F 20 [.pointer (some ⟨b, 0, none⟩), .agg (packC 1 fr 0 0 0 (.slice none 0 0)).toArray] [pt b 73 (lkC e p f s nx t wv)]
      (fun v hs' => ∃ u, v = .tuple #[.slice none 0 0, u] ∧ Sl u ∧ hs' = [pt b 73 (lkC e fr 1 0 1 0 wv), vec u 24 6 1 (packC 2 e fr 0 0 (.slice none 0 0))]) := by
  refine Spec.body Try.func20 rfl Try.ntmps20 rfl ?_
  refine Cod.seq ?_
  refine Cod.region ?_
  refine Ops.ef (.box rfl rfl) rfl rfl rfl ?_
  rintro _ _ ⟨pb, rfl, rfl⟩
  refine Ops.st (.assign rfl) rfl rfl rfl ?_
  refine Ops.st (.assign rfl) rfl rfl rfl ?_
  refine Ops.nil ?_
  refine Ext.seq ?_
  refine Cod.seq ?_
  refine Cod.seq ?_
  refine Cod.regionQ mixed (by kernel_rfl) ?_
  refine Qs.st (.loadPA rfl (by repeat first | exact TakeP.here _ | apply TakeP.there) Try.isAgg24 Try.sizeOf24 rfl rfl) rfl rfl rfl ?_
  refine Qs.call ⟨Try.call12⟩ rfl rfl rfl (by repeat' first | exact Takes.nil _ | exact TakeP.here _ | apply TakeP.there | apply Takes.cons) (fun F' hF => Spec.quiet (right_any (k := 1) (fr := fr) (to := 0) (seq := 0) (ack := 0) (n := 0) (bs := []) (SlR.nil _ _))) rfl rfl rfl ?_
  refine Qs.st (.notB rfl) rfl rfl rfl ?_
  refine Qs.st (.move rfl) rfl rfl rfl ?_
  refine Qs.stG rfl rfl rfl (by rw [hR]; rfl) (.fieldAddr rfl fa24_1) rfl rfl ?_
  refine Qs.stG rfl rfl rfl (by rw [hR]; rfl) (.loadP rfl (by repeat first | exact TakeP.here _ | apply TakeP.there) Try.isAgg3 rfl) rfl rfl ?_
  refine Qs.stG rfl rfl rfl (by rw [hR]; rfl) (.move rfl) rfl rfl ?_
  refine Qs.stG rfl rfl rfl (by rw [hR]; rfl) (.nilCheck rfl) rfl rfl ?_
  refine Qs.stG rfl rfl rfl (by rw [hR]; rfl) (.fieldAddr rfl fa73_0) rfl rfl ?_
  refine Qs.stG rfl rfl rfl (by rw [hR]; rfl) (.fieldAddr rfl fa70_1) rfl rfl ?_
  refine Qs.stG rfl rfl rfl (by rw [hR]; rfl) (.loadP rfl (by repeat first | exact TakeP.here _ | apply TakeP.there) Try.isAgg3 rfl) rfl rfl ?_
  refine Qs.stG rfl rfl rfl (by rw [hR]; rfl) (.lss rfl rfl) rfl rfl ?_
  refine Qs.st (.pickF rfl (by rw [hR]; rfl) rfl) rfl rfl rfl ?_
  refine Qs.nil ?_
  refine Ext.seq ?_
  refine Cod.condF rfl (decide_eq_false (by omega)) ?_
  refine Cod.skip ?_
  refine Ext.seq ?_
  refine Cod.seq ?_
  refine Cod.block ?_
  refine Cod.seq ?_
  refine Cod.region ?_
  refine Ops.st (.fieldAddr rfl fa24_0) rfl rfl rfl ?_
  refine Ops.st (.loadP rfl (by repeat first | exact TakeP.here _ | apply TakeP.there) Try.isAgg3 rfl) rfl rfl rfl ?_
  refine Ops.st (.eql rfl rfl) rfl rfl rfl ?_
  refine Ops.st (.assign rfl) rfl rfl rfl ?_
  refine Ops.nil ?_
  refine Ext.seq ?_
  refine Cod.condT rfl (by simp) ?_
  refine Cod.seq ?_
  refine Cod.region ?_
  refine Ops.st (.move rfl) rfl rfl rfl ?_
  refine Ops.st (.fieldAddr rfl fa24_1) rfl rfl rfl ?_
  refine Ops.st (.loadP rfl (by repeat first | exact TakeP.here _ | apply TakeP.there) Try.isAgg3 rfl) rfl rfl rfl ?_
  refine Ops.call ⟨Try.call37⟩ rfl rfl rfl (by repeat' first | exact Takes.nil _ | exact TakeP.here _ | apply TakeP.there | apply Takes.cons) (fun F' hF => meets_any hw) rfl rfl rfl ?_
  rintro _ _ rfl
  refine Ops.nil ?_
  refine Ext.seq ?_
  refine Cod.seq ?_
  refine Cod.region ?_
  rw [if_pos (show fr > p from h)]
  refine Ops.st (.move rfl) rfl rfl rfl ?_
  refine Ops.st (.nilCheck rfl) rfl rfl rfl ?_
  refine Ops.st (.fieldAddr rfl fa73_0) rfl rfl rfl ?_
  refine Ops.st (.loadPA rfl (by repeat first | exact TakeP.here _ | apply TakeP.there) Try.isAgg70 Try.sizeOf70 rfl rfl) rfl rfl rfl ?_
  refine Ops.call ⟨Try.call33⟩ rfl rfl rfl (by repeat' first | exact Takes.nil _ | exact TakeP.here _ | apply TakeP.there | apply Takes.cons) (fun F' hF => bare_any (e := e) (p := fr) (f := 1) (s := 0) (nx := 1) (t := 0)) rfl rfl rfl ?_
  rintro _ _ ⟨rfl, rfl⟩
  refine Ops.ef (.lit (xs := [_, _, _, _, _, _]) ei40 rfl rfl rfl rfl (by repeat' first | exact allSz_nil | apply allSz_cons rfl) rfl (by repeat' first | exact One.nil | apply One.cons rfl | (apply One.cons (Sl.one (by assumption))))) rfl rfl rfl ?_
  rintro u _ ⟨hu, rfl⟩
  refine Ops.st (.assign rfl) rfl rfl rfl ?_
  refine Ops.st (.assign rfl) rfl rfl rfl ?_
  refine Ops.nil ?_
  refine Ext.seq ?_
  exact Cod.ret (Ext.blockR (Ext.seqR (Ext.ret2E rfl rfl rfl (Ent.take (by repeat' first | exact Takes.nil _ | exact TakeP.here _ | apply TakeP.there | apply Takes.cons)) (⟨u, rfl, hu, rfl⟩))))

theorem awake_any {F : Fr} : Spec Try.prog F 9 [] [] (fun v hs' => v = .bool true ∧ hs' = []) := by
  refine Spec.body Try.func9 rfl Try.ntmps9 rfl ?_
  refine Cod.seq ?_
  refine Cod.region ?_
  refine Ops.st (.assign rfl) rfl rfl rfl ?_
  refine Ops.nil ?_
  refine Ext.seq ?_
  refine Cod.seq ?_
  refine Cod.region ?_
  refine Ops.call ⟨Try.call10⟩ rfl rfl rfl (by repeat' first | exact Takes.nil _ | exact TakeP.here _ | apply TakeP.there | apply Takes.cons) (fun F' hF => new_ok (ep := 2) (by decide)) rfl rfl rfl ?_
  rintro _ _ ⟨b, rfl, rfl⟩
  refine Ops.st (.move rfl) rfl rfl rfl ?_
  refine Ops.st (.extract rfl rfl) rfl rfl rfl ?_
  refine Ops.st (.extract rfl rfl) rfl rfl rfl ?_
  refine Ops.st (.assign rfl) rfl rfl rfl ?_
  refine Ops.st (.assign rfl) rfl rfl rfl ?_
  refine Ops.nil ?_
  refine Ext.seq ?_
  refine Cod.seq ?_
  refine Cod.seq ?_
  refine Cod.region ?_
  refine Ops.st (.move rfl) rfl rfl rfl ?_
  refine Ops.st (.neq rfl rfl) rfl rfl rfl ?_
  refine Ops.st (.move rfl) rfl rfl rfl ?_
  refine Ops.stG rfl rfl rfl (by simp) (.move rfl) rfl rfl ?_
  refine Ops.stG rfl rfl rfl (by simp) (.eqPN rfl rfl Try.underlying26) rfl rfl ?_
  refine Ops.st (.pickF rfl (by simp) rfl) rfl rfl rfl ?_
  refine Ops.nil ?_
  refine Ext.seq ?_
  refine Cod.condF rfl (by simp) ?_
  refine Cod.skip ?_
  refine Ext.seq ?_
  refine Cod.seq ?_
  refine Cod.region ?_
  refine Ops.st (.move rfl) rfl rfl rfl ?_
  refine Ops.st (.build1 (os := [0, 1]) (cs := [_, _, (.int .i64 0), (.int .i64 0), (.int .i64 0), (.slice none 0 0)]) bs24 rfl rfl rfl (by repeat' first | exact One.nil | apply One.cons rfl | (apply One.cons (Sl.one (by assumption)))) rfl) rfl rfl rfl ?_
  refine Ops.call ⟨Try.call20⟩ rfl rfl rfl (by repeat' first | exact Takes.nil _ | exact TakeP.here _ | apply TakeP.there | apply Takes.cons) (fun F' hF => hello_any (e := 2) (fr := 1) (Sl.nil) (by decide) (by decide)) rfl rfl rfl ?_
  rintro _ _ ⟨u, rfl, hu, rfl⟩
  refine Ops.st (.move rfl) rfl rfl rfl ?_
  refine Ops.st (.extract rfl rfl) rfl rfl rfl ?_
  refine Ops.st (.extract rfl rfl) rfl rfl rfl ?_
  refine Ops.st (.assign rfl) rfl rfl rfl ?_
  refine Ops.st (.assign rfl) rfl rfl rfl ?_
  refine Ops.nil ?_
  refine Ext.seq ?_
  refine Cod.seq ?_
  refine Cod.region ?_
  refine Ops.st (.move rfl) rfl rfl rfl ?_
  refine Ops.st (.len rfl (Rd.vec (v := u) (n := 1) (xs := packC 2 2 1 0 0 (.slice none 0 0)) (by repeat first | exact TakeP.here _ | apply TakeP.there)) Try.runUnderlying40) rfl rfl rfl ?_
  refine Ops.st (.eql rfl rfl) rfl rfl rfl ?_
  refine Ops.st (.move rfl) rfl rfl rfl ?_
  refine Ops.stG rfl rfl rfl (by simp) (.move rfl) rfl rfl ?_
  refine Ops.stG rfl rfl rfl (by simp) (.indexAddr (j := 0) rfl rfl (Rd.vec (v := u) (n := 1) (xs := packC 2 2 1 0 0 (.slice none 0 0)) (by repeat first | exact TakeP.here _ | apply TakeP.there)) Try.runUnderlying40 Try.sizeOf24 rfl (by decide) rfl) rfl rfl ?_
  refine Ops.stG rfl rfl rfl (by simp) (.fieldAddr_elem rfl (Rd.vec (v := u) (n := 1) (xs := packC 2 2 1 0 0 (.slice none 0 0)) (by repeat first | exact TakeP.here _ | apply TakeP.there)) fa24_0 (by decide) rfl) rfl rfl ?_
  refine Ops.stG rfl rfl rfl (by simp) (.load_elem rfl (Rd.vec (v := u) (n := 1) (xs := packC 2 2 1 0 0 (.slice none 0 0)) (by repeat first | exact TakeP.here _ | apply TakeP.there)) Try.isAgg3 rfl) rfl rfl ?_
  refine Ops.stG rfl rfl rfl (by simp) (.eql rfl rfl) rfl rfl ?_
  refine Ops.st (.pickT rfl (by simp) rfl) rfl rfl rfl ?_
  refine Ops.st (.move rfl) rfl rfl rfl ?_
  refine Ops.stG rfl rfl rfl (by simp) (.move rfl) rfl rfl ?_
  refine Ops.stG rfl rfl rfl (by simp) (.indexAddr (j := 0) rfl rfl (Rd.vec (v := u) (n := 1) (xs := packC 2 2 1 0 0 (.slice none 0 0)) (by repeat first | exact TakeP.here _ | apply TakeP.there)) Try.runUnderlying40 Try.sizeOf24 rfl (by decide) rfl) rfl rfl ?_
  refine Ops.stG rfl rfl rfl (by simp) (.fieldAddr_elem rfl (Rd.vec (v := u) (n := 1) (xs := packC 2 2 1 0 0 (.slice none 0 0)) (by repeat first | exact TakeP.here _ | apply TakeP.there)) fa24_2 (by decide) rfl) rfl rfl ?_
  refine Ops.stG rfl rfl rfl (by simp) (.load_elem rfl (Rd.vec (v := u) (n := 1) (xs := packC 2 2 1 0 0 (.slice none 0 0)) (by repeat first | exact TakeP.here _ | apply TakeP.there)) Try.isAgg3 rfl) rfl rfl ?_
  refine Ops.stG rfl rfl rfl (by simp) (.eql rfl rfl) rfl rfl ?_
  refine Ops.st (.pickT rfl (by simp) rfl) rfl rfl rfl ?_
  refine Ops.st (.move rfl) rfl rfl rfl ?_
  refine Ops.stG rfl rfl rfl (by simp) (.move rfl) rfl rfl ?_
  refine Ops.callG rfl rfl rfl (by simp) ⟨Try.call24⟩ rfl rfl rfl (by repeat' first | exact Takes.nil _ | exact TakeP.here _ | apply TakeP.there | apply Takes.cons) (fun F' hF => peer_any) rfl rfl ?_
  rintro _ _ ⟨rfl, rfl⟩
  refine Ops.stG rfl rfl rfl (by simp) (.eql rfl rfl) rfl rfl ?_
  refine Ops.st (.pickT rfl (by simp) rfl) rfl rfl rfl ?_
  refine Ops.st (.assign rfl) rfl rfl rfl ?_
  refine Ops.nil ?_
  refine Ext.seq ?_
  exact Cod.ret (Ext.retE rfl rfl (Ent.nil _) (⟨by simp, rfl⟩))

theorem linkRight_any {F : Fr} {k fr to seq ack ep : Int} {bv : Value} {n : Nat} {bs : List Value} (hr : SlR F.hf bv 1 n bs) :
    Spec Try.prog F 3 [.agg (packC k fr to seq ack bv).toArray, .int .i64 ep] [] (fun v _ => v = .bool true) := by
  refine Spec.body Try.func3 rfl Try.ntmps3 rfl ?_
  refine Cod.seq ?_
  refine Cod.region ?_
  refine Ops.ef (.box rfl rfl) rfl rfl rfl ?_
  rintro _ _ ⟨pb, rfl, rfl⟩
  refine Ops.st (.assign rfl) rfl rfl rfl ?_
  refine Ops.nil ?_
  refine Ext.seq ?_
  refine Cod.seq ?_
  refine Cod.region ?_
  refine Ops.call ⟨Try.call9⟩ rfl rfl rfl (by repeat' first | exact Takes.nil _ | exact TakeP.here _ | apply TakeP.there | apply Takes.cons) (fun F' hF => awake_any) rfl rfl rfl ?_
  rintro _ _ ⟨rfl, rfl⟩
  refine Ops.st (.assign rfl) rfl rfl rfl ?_
  refine Ops.nil ?_
  refine Ext.seq ?_
  refine Cod.seq ?_
  refine Cod.seq ?_
  refine Cod.region ?_
  refine Ops.st (.fieldAddr rfl fa24_5) rfl rfl rfl ?_
  refine Ops.st (.loadP rfl (by repeat first | exact TakeP.here _ | apply TakeP.there) Try.isAgg22 rfl) rfl rfl rfl ?_
  refine Ops.st (.len rfl (by first | assumption | exact Rd.vec (by repeat first | exact TakeP.here _ | apply TakeP.there) | exact Rd.ro (by assumption)) Try.runUnderlying22) rfl rfl rfl ?_
  refine Ops.st (.gtr rfl rfl) rfl rfl rfl ?_
  refine Ops.nil ?_
  refine Ext.seq ?_
  refine Cod.condD rfl (fun h => ?_) (fun h => ?_)
  ·
    refine Cod.seq ?_
    refine Cod.region ?_
    refine Ops.st (.move rfl) rfl rfl rfl ?_
    refine Ops.st (.assign rfl) rfl rfl rfl ?_
    refine Ops.nil ?_
    refine Ext.seq ?_
    exact Cod.ret (Ext.seqR (Ext.retE rfl rfl (Ent.nil _) (rfl)))
  ·
    refine Cod.skip ?_
    refine Ext.seq ?_
    refine Cod.seq ?_
    refine Cod.region ?_
    refine Ops.st (.move rfl) rfl rfl rfl ?_
    refine Ops.call ⟨Try.call10⟩ rfl rfl rfl (by repeat' first | exact Takes.nil _ | exact TakeP.here _ | apply TakeP.there | apply Takes.cons) (fun F' hF => new_any) rfl rfl rfl ?_
    rintro _ _ ⟨a, rfl, ha, rfl⟩
    refine Ops.st (.move rfl) rfl rfl rfl ?_
    refine Ops.st (.extract rfl rfl) rfl rfl rfl ?_
    refine Ops.st (.extract rfl rfl) rfl rfl rfl ?_
    refine Ops.st (.assign rfl) rfl rfl rfl ?_
    refine Ops.st (.assign rfl) rfl rfl rfl ?_
    refine Ops.nil ?_
    refine Ext.seq ?_
    refine Cod.seq ?_
    refine Cod.region ?_
    refine Ops.st (.move rfl) rfl rfl rfl ?_
    refine Ops.call ⟨Try.call11⟩ rfl rfl rfl (by repeat' first | exact Takes.nil _ | exact TakeP.here _ | apply TakeP.there | apply Takes.cons) (fun F' hF => new13_any) rfl rfl rfl ?_
    rintro _ _ ⟨a2, rfl, rfl⟩
    refine Ops.st (.move rfl) rfl rfl rfl ?_
    refine Ops.st (.extract rfl rfl) rfl rfl rfl ?_
    refine Ops.st (.extract rfl rfl) rfl rfl rfl ?_
    refine Ops.st (.assign rfl) rfl rfl rfl ?_
    refine Ops.st (.assign rfl) rfl rfl rfl ?_
    refine Ops.nil ?_
    refine Ext.seq ?_
    refine Cod.seq ?_
    refine Cod.regionQ mixed (by kernel_rfl) ?_
    refine Qs.st (.move rfl) rfl rfl rfl ?_
    refine Qs.st (.move rfl) rfl rfl rfl ?_
    refine Qs.stG rfl rfl rfl (by simp) (.loadPA rfl (by repeat first | exact TakeP.here _ | apply TakeP.there) Try.isAgg24 Try.sizeOf24 rfl rfl) rfl rfl ?_
    refine Qs.callG rfl rfl rfl (by simp) ⟨Try.call12⟩ rfl rfl rfl (by repeat' first | exact Takes.nil _ | exact TakeP.here _ | apply TakeP.there | apply Takes.cons) (fun F' hF => Spec.quiet (right_any (hr.mono hF.hf))) rfl rfl ?_
    refine Qs.stG rfl rfl rfl (by simp) (.loadPA rfl (by repeat first | exact TakeP.here _ | apply TakeP.there) Try.isAgg24 Try.sizeOf24 rfl rfl) rfl rfl ?_
    refine Qs.callG rfl rfl rfl (by simp) ⟨Try.call13⟩ rfl rfl rfl (by repeat' first | exact Takes.nil _ | exact TakeP.here _ | apply TakeP.there | apply Takes.cons) (fun F' hF => Spec.quiet (right13_any (hr.mono hF.hf))) rfl rfl ?_
    refine Qs.stG rfl rfl rfl (by simp) (.eqB rfl rfl Try.underlying4) rfl rfl ?_
    refine Qs.st (.pickT rfl (by simp) rfl) rfl rfl rfl ?_
    refine Qs.st (.move rfl) rfl rfl rfl ?_
    refine Qs.stG rfl rfl rfl (by simp) (.move rfl) rfl rfl ?_
    refine Qs.stG rfl rfl rfl (by simp) (.move rfl) rfl rfl ?_
    refine Qs.stG rfl rfl rfl (by simp) (.eql rfl rfl) rfl rfl ?_
    refine Qs.st (.pickT rfl (by simp) rfl) rfl rfl rfl ?_
    refine Qs.st (.move rfl) rfl rfl rfl ?_
    refine Qs.stG rfl rfl rfl (by simp) (.move rfl) rfl rfl ?_
    refine Qs.stG rfl rfl rfl (by simp) (.nePN rfl rfl Try.underlying26) rfl rfl ?_
    refine Qs.stG rfl rfl rfl (by simp) (.move rfl) rfl rfl ?_
    refine Qs.stG rfl rfl rfl (by simp) (.eql rfl rfl) rfl rfl ?_
    refine Qs.stG rfl rfl rfl (by simp) (.eqB rfl rfl Try.underlying4) rfl rfl ?_
    refine Qs.st (.pickT rfl (by simp) rfl) rfl rfl rfl ?_
    refine Qs.st (.assign rfl) rfl rfl rfl ?_
    refine Qs.nil ?_
    refine Ext.seq ?_
    exact Cod.ret (Ext.retE rfl rfl (Ent.nil _) (by rw [ha]; by_cases h : 1 ≤ ep ∧ ep ≤ 1073741824 <;> simp [h]))
end Go.Proofs.Ytjlimnckdblkhaa
