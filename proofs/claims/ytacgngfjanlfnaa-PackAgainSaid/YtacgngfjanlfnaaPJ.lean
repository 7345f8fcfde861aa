/- Encode; how many values there are. No condition. -/
import Derived.Test.YtacgngfjanlfnaaPI
namespace Go.Proofs.Ytacgngfjanlfnaa
open Go

/-- A record's bytes, if it may be. -/
def encM (fs : List Fld) (vs : List Val) : Option (List UInt8) := if (mostR 1 fs).isSome = true ∧ fitR fs vs = true then some (putR fs vs) else none
def errE (o : Option (List UInt8)) : Int := if o.isSome then 0 else 1
theorem encM_none {fs : List Fld} {vs : List Val} (h : (mostR 1 fs).isSome = false) : encM fs vs = none := by rw [encM, h, if_neg (by intro x; cases x.1)]
theorem encM_unfit {fs : List Fld} {vs : List Val} (h : fitR fs vs = false) : encM fs vs = none := by rw [encM, h, if_neg (by intro x; cases x.2)]
theorem encM_some {fs : List Fld} {vs : List Val} (h : (mostR 1 fs).isSome = true) (h' : fitR fs vs = true) : encM fs vs = some (putR fs vs) := by rw [encM, if_pos ⟨h, h'⟩]

section
variable {F : Fr} {lv vv : Value} {cs ws : List Value} {fs : List Fld} {vs : List Val}
theorem encode_any (hr : SlR F.hf lv 4 fs.length cs) (hc : FldsR F.hf fs cs) (hs : SlR F.hf vv 3 vs.length ws) (hw : ValsR F.hf vs ws) (hl : wtR vs ≤ 70368744177664) :
    Spec Try.prog F 13 [lv, vv] [] (fun u hs' => ∃ bv, u = .tuple #[bv, .int .i64 (errE (encM fs vs))] ∧ Sl bv ∧ hs' = [vec bv 5 1 ((encM fs vs).getD []).length (u8s ((encM fs vs).getD []))]) := by
  refine Spec.body Try.func13 rfl Try.ntmps13 rfl ?_
  refine Cod.seq ?_
  refine Cod.region ?_
  refine Ops.st (.assign rfl) rfl rfl rfl ?_
  refine Ops.st (.assign rfl) rfl rfl rfl ?_
  refine Ops.nil ?_
  refine Ext.seq ?_
  refine Cod.seq ?_
  refine Cod.region ?_
  refine Ops.st (.build1 (os := []) (cs := [(.slice none 0 0), (.bool false)]) bs50 rfl rfl rfl (by repeat' first | exact One.nil | apply One.cons rfl | (apply One.cons (Sl.one (by assumption)))) rfl) rfl rfl rfl ?_
  refine Ops.ef (.box (cs := [.slice none 0 0, .bool false]) rfl rfl) rfl rfl rfl ?_
  rintro wb _ ⟨wb, rfl, rfl⟩
  refine Ops.st (.assign rfl) rfl rfl rfl ?_
  refine Ops.nil ?_
  refine Ext.seq ?_
  refine Cod.seq ?_
  refine Cod.seq ?_
  refine Cod.region ?_
  refine Ops.st (.move rfl) rfl rfl rfl ?_
  refine Ops.call ⟨Try.call17⟩ rfl rfl rfl (by repeat' first | exact Takes.nil _ | exact TakeP.here _ | apply TakeP.there | apply Takes.cons) (fun F' hF => right_any (hr.mono hF.hf) (hc.mono hF.hf fs)) rfl rfl rfl ?_
  rintro _ _ ⟨rfl, rfl⟩
  refine Ops.st (.notB rfl) rfl rfl rfl ?_
  refine Ops.nil ?_
  refine Ext.seq ?_
  refine Cod.cond rfl (fun h1 => ?_) (fun h1 => ?_)
  ·
    refine Cod.seq ?_
    refine Cod.region ?_
    have h2 : (mostR 1 fs).isSome = false := by cases hq : (mostR 1 fs).isSome; rfl; rw [hq] at h1; cases h1
    rw [encM_none h2]
    refine Ops.st (.assign rfl) rfl rfl rfl ?_
    refine Ops.st (.assign rfl) rfl rfl rfl ?_
    refine Ops.nil ?_
    refine Ext.seq ?_
    exact Cod.ret (Ext.seqR (Ext.ret2E rfl rfl rfl (Ent.trans (Ent.nil _) Ent.vecNil) (⟨_, rfl, Sl.nil, rfl⟩)))
  ·
    refine Cod.skip ?_
    refine Ext.seq ?_
    refine Cod.seq ?_
    refine Cod.seq ?_
    refine Cod.region ?_
    have h2 : (mostR 1 fs).isSome = true := by cases hq : (mostR 1 fs).isSome; rw [hq] at h1; cases h1; rfl
    obtain ⟨m, hm⟩ := Option.isSome_iff_exists.1 h2
    refine Ops.ent (Ent.vecNil (T := 5) (sz := 1)) ?_
    refine Ops.st (.move rfl) rfl rfl rfl ?_
    refine Ops.st (.move rfl) rfl rfl rfl ?_
    refine Ops.st (.move rfl) rfl rfl rfl ?_
    refine Ops.call ⟨Try.call26⟩ rfl rfl rfl (by repeat' first | exact Takes.nil _ | exact TakeP.here _ | apply TakeP.there | apply Takes.cons) (fun F' hF => record_any 4 1 rfl (bs := []) Sl.nil (hr.mono hF.hf) (hc.mono hF.hf fs) (hs.mono hF.hf) (hw.mono hF.hf vs) hm (by simpa using hl)) rfl rfl rfl ?_
    rintro _ _ ⟨bv, bs, hbv, hbl, hp, rfl⟩
    refine Ops.nil ?_
    refine Ext.seq ?_
    refine Cod.seq ?_
    refine Cod.region ?_
    refine Ops.st (.move rfl) rfl rfl rfl ?_
    refine Ops.st (.nilCheck rfl) rfl rfl rfl ?_
    refine Ops.st (.fieldAddr rfl fa50_1) rfl rfl rfl ?_
    refine Ops.st (.loadP rfl (by repeat first | exact TakeP.here _ | apply TakeP.there) Try.isAgg4 rfl) rfl rfl rfl ?_
    refine Ops.nil ?_
    refine Ext.seq ?_
    refine Cod.cond rfl (fun h3 => ?_) (fun h3 => ?_)
    ·
      refine Cod.seq ?_
      refine Cod.region ?_
      have h4 : fitR fs vs = false := by cases hq : fitR fs vs; rfl; rw [hq] at h3; cases h3
      rw [encM_unfit h4]
      refine Ops.st (.assign rfl) rfl rfl rfl ?_
      refine Ops.st (.assign rfl) rfl rfl rfl ?_
      refine Ops.nil ?_
      refine Ext.seq ?_
      exact Cod.ret (Ext.seqR (Ext.ret2E rfl rfl rfl (Ent.trans (Ent.nil _) Ent.vecNil) (⟨_, rfl, Sl.nil, rfl⟩)))
    ·
      refine Cod.skip ?_
      refine Ext.seq ?_
      refine Cod.seq ?_
      refine Cod.region ?_
      have h4 : fitR fs vs = true := by cases hq : fitR fs vs; rw [hq] at h3; cases h3; rfl
      rw [encM_some h2 h4]
      obtain rfl := hp h4
      refine Ops.st (.move rfl) rfl rfl rfl ?_
      refine Ops.st (.nilCheck rfl) rfl rfl rfl ?_
      refine Ops.st (.fieldAddr rfl fa50_0) rfl rfl rfl ?_
      refine Ops.st (.loadP rfl (by repeat first | exact TakeP.here _ | apply TakeP.there) Try.isAgg26 rfl) rfl rfl rfl ?_
      refine Ops.st (.assign rfl) rfl rfl rfl ?_
      refine Ops.st (.assign rfl) rfl rfl rfl ?_
      refine Ops.nil ?_
      refine Ext.seq ?_
      exact Cod.ret (Ext.ret2E rfl rfl rfl (Ent.take (ps := [vec bv 5 1 ([] ++ putR fs vs).length (u8s ([] ++ putR fs vs))]) (by repeat' first | exact Takes.nil _ | exact TakeP.here _ | apply TakeP.there | apply Takes.cons)) (⟨_, rfl, hbv, rfl⟩))
theorem refEncode_any (hr : SlR F.hf lv 4 fs.length cs) (hc : FldsR F.hf fs cs) (hs : SlR F.hf vv 3 vs.length ws) (hw : ValsR F.hf vs ws) :
    Spec Try.prog F 14 [lv, vv] [] (fun u hs' => ∃ bv, u = .tuple #[bv, .int .i64 (errE (encM fs vs))] ∧ Sl bv ∧ hs' = [vec bv 5 1 ((encM fs vs).getD []).length (u8s ((encM fs vs).getD []))]) := by
  refine Spec.body Try.func14 rfl Try.ntmps14 rfl ?_
  refine Cod.seq ?_
  refine Cod.region ?_
  refine Ops.st (.assign rfl) rfl rfl rfl ?_
  refine Ops.st (.assign rfl) rfl rfl rfl ?_
  refine Ops.nil ?_
  refine Ext.seq ?_
  refine Cod.seq ?_
  refine Cod.region ?_
  refine Ops.st (.move rfl) rfl rfl rfl ?_
  refine Ops.call ⟨Try.call18⟩ rfl rfl rfl (by repeat' first | exact Takes.nil _ | exact TakeP.here _ | apply TakeP.there | apply Takes.cons) (fun F' hF => refRight_any (hr.mono hF.hf) (hc.mono hF.hf fs)) rfl rfl rfl ?_
  rintro _ _ ⟨rfl, rfl⟩
  refine Ops.st (.assign rfl) rfl rfl rfl ?_
  refine Ops.nil ?_
  refine Ext.seq ?_
  refine Cod.seq ?_
  refine Cod.seq ?_
  refine Cod.region ?_
  refine Ops.st (.move rfl) rfl rfl rfl ?_
  refine Ops.st (.notB rfl) rfl rfl rfl ?_
  refine Ops.st (.move rfl) rfl rfl rfl ?_
  refine Ops.splitB (t := 11) rfl (fun h1 => ?_) (fun h1 => ?_)
  ·
    have h2 : (mostR 1 fs).isSome = false := by cases hq : (mostR 1 fs).isSome; rfl; rw [hq] at h1; cases h1
    refine Ops.skipG rfl rfl rfl h1 rfl rfl ?_
    refine Ops.skipG rfl rfl rfl h1 rfl rfl ?_
    refine Ops.skipG rfl rfl rfl h1 rfl rfl ?_
    refine Ops.skipG rfl rfl rfl h1 rfl rfl ?_
    refine Ops.st (.pickT rfl h1 rfl) rfl rfl rfl ?_
    refine Ops.nil ?_
    refine Ext.seq ?_
    refine Cod.condT rfl (by simp) ?_
    refine Cod.seq ?_
    refine Cod.region ?_
    rw [encM_none h2]
    refine Ops.st (.assign rfl) rfl rfl rfl ?_
    refine Ops.st (.assign rfl) rfl rfl rfl ?_
    refine Ops.nil ?_
    refine Ext.seq ?_
    exact Cod.ret (Ext.seqR (Ext.ret2E rfl rfl rfl (Ent.trans (Ent.nil _) Ent.vecNil) (⟨_, rfl, Sl.nil, rfl⟩)))
  ·
    have h2 : (mostR 1 fs).isSome = true := by cases hq : (mostR 1 fs).isSome; rw [hq] at h1; cases h1; rfl
    obtain ⟨m, hm⟩ := Option.isSome_iff_exists.1 h2
    refine Ops.stG rfl rfl rfl h1 (.move rfl) rfl rfl ?_
    refine Ops.stG rfl rfl rfl h1 (.move rfl) rfl rfl ?_
    refine Ops.callG rfl rfl rfl h1 ⟨Try.call27⟩ rfl rfl rfl (by repeat' first | exact Takes.nil _ | exact TakeP.here _ | apply TakeP.there | apply Takes.cons) (fun F' hF => fits_any 4 1 rfl (hr.mono hF.hf) (hc.mono hF.hf fs) (hs.mono hF.hf) (hw.mono hF.hf vs) hm) rfl rfl ?_
    rintro _ _ ⟨rfl, rfl⟩
    refine Ops.stG rfl rfl rfl h1 (.notB rfl) rfl rfl ?_
    refine Ops.st (.pickF rfl h1 rfl) rfl rfl rfl ?_
    refine Ops.nil ?_
    refine Ext.seq ?_
    refine Cod.cond rfl (fun h3 => ?_) (fun h3 => ?_)
    ·
      refine Cod.seq ?_
      refine Cod.region ?_
      have h4 : fitR fs vs = false := by cases hq : fitR fs vs; rfl; rw [hq] at h3; cases h3
      rw [encM_unfit h4]
      refine Ops.st (.assign rfl) rfl rfl rfl ?_
      refine Ops.st (.assign rfl) rfl rfl rfl ?_
      refine Ops.nil ?_
      refine Ext.seq ?_
      exact Cod.ret (Ext.seqR (Ext.ret2E rfl rfl rfl (Ent.trans (Ent.nil _) Ent.vecNil) (⟨_, rfl, Sl.nil, rfl⟩)))
    ·
      refine Cod.skip ?_
      refine Ext.seq ?_
      refine Cod.seq ?_
      refine Cod.region ?_
      have h4 : fitR fs vs = true := by cases hq : fitR fs vs; rw [hq] at h3; cases h3; rfl
      rw [encM_some h2 h4]
      refine Ops.st (.move rfl) rfl rfl rfl ?_
      refine Ops.st (.move rfl) rfl rfl rfl ?_
      refine Ops.call ⟨Try.call28⟩ rfl rfl rfl (by repeat' first | exact Takes.nil _ | exact TakeP.here _ | apply TakeP.there | apply Takes.cons) (fun F' hF => put_any 4 1 rfl (hr.mono hF.hf) (hc.mono hF.hf fs) (hs.mono hF.hf) (hw.mono hF.hf vs) hm h4) rfl rfl rfl ?_
      rintro bv _ ⟨hbv, rfl⟩
      refine Ops.st (.assign rfl) rfl rfl rfl ?_
      refine Ops.st (.assign rfl) rfl rfl rfl ?_
      refine Ops.nil ?_
      refine Ext.seq ?_
      exact Cod.ret (Ext.ret2 rfl rfl rfl ⟨_, rfl, hbv, rfl⟩)
end

/-- The fields and the record of the test that comes first. -/
def twoF : List Fld := [.mk 1 1 300 [], .mk 2 0 3 []]
def twoV : List Val := [.mk 256 [] [], .mk 0 [97, 98] []]
def twoC : List Value := [.int .i64 1, W64 1, W64 300, .slice none 0 0, .int .i64 2, W64 0, W64 3, .slice none 0 0]
theorem twoF_is (h : Hp) : FldsR h twoF twoC := by
  unfold twoF
  rw [FldsR, ]
  refine ⟨[.int .i64 1, W64 1, W64 300, .slice none 0 0], [.int .i64 2, W64 0, W64 3, .slice none 0 0], rfl, ?_, ?_⟩
  · rw [FldR]; exact ⟨_, rfl, [], SlR.nil _ _, by rw [FldsR]⟩
  · rw [FldsR]
    refine ⟨[.int .i64 2, W64 0, W64 3, .slice none 0 0], [], rfl, ?_, by rw [FldsR]⟩
    rw [FldR]; exact ⟨_, rfl, [], SlR.nil _ _, by rw [FldsR]⟩
theorem two_enc : encM twoF twoV = some [255, 0, 2, 97, 98] := by decide +kernel
theorem two_any {F : Fr} : Spec Try.prog F 24 [] [] (fun u hs' => Sl u ∧ hs' = [vec u 37 4 2 twoC]) := by
  refine Spec.body Try.func24 rfl Try.ntmps24 rfl ?_
  refine Cod.seq ?_
  refine Cod.region ?_
  refine Ops.st (.assign rfl) rfl rfl rfl ?_
  refine Ops.nil ?_
  refine Ext.seq ?_
  refine Cod.seq ?_
  refine Cod.region ?_
  refine Ops.st (.build1 (os := [0, 1, 2]) (cs := [_, _, _, (.slice none 0 0)]) bs37 rfl rfl rfl (by repeat' first | exact One.nil | apply One.cons rfl | (apply One.cons (Sl.one (by assumption)))) rfl) rfl rfl rfl ?_
  refine Ops.st (.build1 (os := [0, 2]) (cs := [_, (.int .u64 0), _, (.slice none 0 0)]) bs37 rfl rfl rfl (by repeat' first | exact One.nil | apply One.cons rfl | (apply One.cons (Sl.one (by assumption)))) rfl) rfl rfl rfl ?_
  refine Ops.ef (.lit (xs := [_, _, _, _, _, _, _, _]) ei22 rfl rfl rfl rfl (by repeat' first | exact allSz_nil | apply allSz_cons rfl) rfl (by repeat' first | exact One.nil | apply One.cons rfl | (apply One.cons (Sl.one (by assumption))))) rfl rfl rfl ?_
  rintro u _ ⟨hu, rfl⟩
  refine Ops.st (.assign rfl) rfl rfl rfl ?_
  refine Ops.nil ?_
  refine Ext.seq ?_
  exact Cod.ret (Ext.ret rfl rfl ⟨hu, rfl⟩)
theorem twoV_is {h : Hp} {bv : Value} (hb : SlR h bv 1 2 (u8s [97, 98])) : ValsR h twoV [W64 256, .slice none 0 0, .slice none 0 0, W64 0, bv, .slice none 0 0] := by
  unfold twoV
  rw [ValsR]
  refine ⟨[W64 256, .slice none 0 0, .slice none 0 0], [W64 0, bv, .slice none 0 0], rfl, ?_, ?_⟩
  · rw [ValR]; exact ⟨_, _, rfl, SlR.nil _ _, [], SlR.nil _ _, by rw [RecsR]⟩
  · rw [ValsR]
    refine ⟨[W64 0, bv, .slice none 0 0], [], rfl, ?_, by rw [ValsR]⟩
    rw [ValR]; exact ⟨_, _, rfl, hb, [], SlR.nil _ _, by rw [RecsR]⟩
theorem awake_any {F : Fr} : Spec Try.prog F 11 [] [] (fun u hs' => u = .bool true ∧ hs' = []) := by
  refine Spec.body Try.func11 rfl Try.ntmps11 rfl ?_
  refine Cod.seq ?_
  refine Cod.region ?_
  refine Ops.st (.assign rfl) rfl rfl rfl ?_
  refine Ops.nil ?_
  refine Ext.seq ?_
  refine Cod.seq ?_
  refine Cod.region ?_
  refine Ops.call ⟨Try.call24⟩ rfl rfl rfl (by repeat' first | exact Takes.nil _ | exact TakeP.here _ | apply TakeP.there | apply Takes.cons) (fun F' hF => two_any) rfl rfl rfl ?_
  rintro lv _ ⟨hlv, rfl⟩
  refine Ops.st (.build1 (os := [0]) (cs := [_, (.slice none 0 0), (.slice none 0 0)]) bs40 rfl rfl rfl (by repeat' first | exact One.nil | apply One.cons rfl | (apply One.cons (Sl.one (by assumption)))) rfl) rfl rfl rfl ?_
  refine Ops.ef (.lit1 ei26 rfl rfl rfl (by repeat' first | exact One.nil | apply One.cons rfl | (apply One.cons (Sl.one (by assumption))))) rfl rfl rfl ?_
  rintro b1 _ ⟨hb1, rfl⟩
  refine Ops.ef (.mark (sz := 1) rfl (by repeat first | exact TakeP.here _ | apply TakeP.there) (by decide) Try.underlying26 Try.underlying5) rfl rfl rfl ?_
  rintro b2 _ ⟨rfl, rfl⟩
  refine Ops.st (.build1 (os := [1]) (cs := [(.int .u64 0), _, (.slice none 0 0)]) bs40 rfl rfl rfl (by repeat' first | exact One.nil | apply One.cons rfl | (apply One.cons (Sl.one (by assumption)))) rfl) rfl rfl rfl ?_
  refine Ops.ef (.lit (xs := [_, _, _, _, _, _]) ei23 rfl rfl rfl rfl (by repeat' first | exact allSz_nil | apply allSz_cons rfl) rfl (by repeat' first | exact One.nil | apply One.cons rfl | (apply One.cons (Sl.one (by assumption))))) rfl rfl rfl ?_
  rintro vv _ ⟨hvv, rfl⟩
  refine Ops.call ⟨Try.call13⟩ rfl rfl rfl (by repeat' first | exact Takes.nil _ | exact TakeP.here _ | apply TakeP.there | apply Takes.cons) (fun F' hF => encode_any (fs := twoF) (vs := twoV) ((Rd.vec (by repeat first | exact TakeP.here _ | apply TakeP.there)).wider hF) (twoF_is _) ((Rd.vec (v := vv) (by repeat first | exact TakeP.here _ | apply TakeP.there)).wider hF) (twoV_is ((Rd.slp (by repeat first | exact TakeP.here _ | apply TakeP.there)).wider hF)) (by decide)) rfl rfl rfl ?_
  rintro _ _ ⟨bv, rfl, hbv, rfl⟩
  rw [two_enc]
  refine Ops.st (.move rfl) rfl rfl rfl ?_
  refine Ops.st (.extract rfl rfl) rfl rfl rfl ?_
  refine Ops.st (.extract rfl rfl) rfl rfl rfl ?_
  refine Ops.st (.assign rfl) rfl rfl rfl ?_
  refine Ops.st (.assign rfl) rfl rfl rfl ?_
  refine Ops.nil ?_
  refine Ext.seq ?_
  refine Cod.seq ?_
  refine Cod.region ?_
  refine Ops.st (.move rfl) rfl rfl rfl ?_
  refine Ops.st (.eql rfl rfl) rfl rfl rfl ?_
  refine Ops.st (.move rfl) rfl rfl rfl ?_
  refine Ops.stG rfl rfl rfl rfl (.move rfl) rfl rfl ?_
  refine Ops.stG rfl rfl rfl rfl (.toStr rfl (Rd.vec (v := bv) (by repeat first | exact TakeP.here _ | apply TakeP.there)) Try.underlying26 Try.underlying5 Try.underlying9) rfl rfl ?_
  refine Ops.stG rfl rfl rfl rfl (.eqStr rfl rfl) rfl rfl ?_
  refine Ops.st (.pickT rfl rfl rfl) rfl rfl rfl ?_
  refine Ops.st (.assign rfl) rfl rfl rfl ?_
  refine Ops.nil ?_
  refine Ext.seq ?_
  exact Cod.ret (Ext.retE rfl rfl (Ent.nil _) (⟨rfl, rfl⟩))
end Go.Proofs.Ytacgngfjanlfnaa
