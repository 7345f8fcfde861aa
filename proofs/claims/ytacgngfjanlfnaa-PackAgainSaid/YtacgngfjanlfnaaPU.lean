/- What was decoded and encoded: the laws PackDecodes and PackBack. No condition. -/
import Derived.Test.YtacgngfjanlfnaaPT
namespace Go.Proofs.Ytacgngfjanlfnaa
open Go

theorem errE_one {o : Option (List UInt8)} (h : errE o ≠ 0) : errE o = 1 := by cases o with | none => rfl | some b => exact absurd rfl h
theorem dec_put {fs : List Fld} {vs : List Val} {m : Nat} (hm : mostR 1 fs = some m) (hf : fitR fs vs = true) : decM fs (putR fs vs) = (0, some vs) :=
  decM_good (by rw [hm]; rfl) (by have := decR_put fs vs [] (mostR_ok hm) hf; rwa [List.append_nil] at this)

/-- The record that any bytes are. -/
theorem packDecodes_any {F : Fr} {lv bv : Value} {cs : List Value} {fs : List Fld} {bs : List UInt8} (hr : SlR F.hf lv 4 fs.length cs) (hc : FldsR F.hf fs cs) (hb : SlR F.hf bv 1 bs.length (u8s bs)) : Spec Try.prog F 8 [lv, bv] [] (fun u _ => u = .bool true) := by
  refine Spec.body Try.func8 rfl Try.ntmps8 rfl ?_
  refine Cod.seq ?_
  refine Cod.region ?_
  refine Ops.st (.assign rfl) rfl rfl rfl ?_
  refine Ops.nil ?_
  refine Ext.seq ?_
  refine Cod.seq ?_
  refine Cod.region ?_
  refine Ops.call ⟨Try.call11⟩ rfl rfl rfl (by repeat' first | exact Takes.nil _ | exact TakeP.here _ | apply TakeP.there | apply Takes.cons) (fun F' hF => awake_any) rfl rfl rfl ?_
  rintro _ _ ⟨rfl, rfl⟩
  refine Ops.st (.assign rfl) rfl rfl rfl ?_
  refine Ops.nil ?_
  refine Ext.seq ?_
  refine Cod.seq ?_
  refine Cod.region ?_
  refine Ops.st (.move rfl) rfl rfl rfl ?_
  refine Ops.call ⟨Try.call16⟩ rfl rfl rfl (by repeat' first | exact Takes.nil _ | exact TakeP.here _ | apply TakeP.there | apply Takes.cons) (fun F' hF => fields_any 6 1 rfl (hr.mono hF.hf) (hc.mono hF.hf fs)) rfl rfl rfl ?_
  rintro _ _ ⟨⟨b, rfl⟩, rfl⟩
  refine Ops.st (.assign rfl) rfl rfl rfl ?_
  refine Ops.nil ?_
  refine Ext.seq ?_
  refine Cod.seq ?_
  refine Cod.seq ?_
  refine Cod.region ?_
  refine Ops.st (.move rfl) rfl rfl rfl ?_
  refine Ops.st (.notB rfl) rfl rfl rfl ?_
  refine Ops.st (.move rfl) rfl rfl rfl ?_
  refine Ops.stG rfl rfl rfl rfl (.move rfl) rfl rfl ?_
  refine Ops.stG rfl rfl rfl rfl (.notB rfl) rfl rfl ?_
  refine Ops.st (.pickF rfl rfl rfl) rfl rfl rfl ?_
  refine Ops.st (.move rfl) rfl rfl rfl ?_
  refine Ops.splitB (t := 21) rfl (fun h1 => ?_) (fun h1 => ?_)
  ·
    refine Ops.skipG rfl rfl rfl h1 rfl rfl ?_
    refine Ops.skipG rfl rfl rfl h1 rfl rfl ?_
    refine Ops.skipG rfl rfl rfl h1 rfl rfl ?_
    refine Ops.st (.pickT rfl h1 rfl) rfl rfl rfl ?_
    refine Ops.nil ?_
    refine Ext.seq ?_
    refine Cod.condT rfl (by simp) ?_
    refine Cod.seq ?_
    refine Cod.region ?_
    refine Ops.st (.move rfl) rfl rfl rfl ?_
    refine Ops.st (.assign rfl) rfl rfl rfl ?_
    refine Ops.nil ?_
    refine Ext.seq ?_
    exact Cod.ret (Ext.seqR (Ext.ret rfl rfl rfl))
  ·
    refine Ops.stG rfl rfl rfl h1 (.move rfl) rfl rfl ?_
    refine Ops.stG rfl rfl rfl h1 (.len rfl (Rd.ro hb) Try.runUnderlying26) rfl rfl ?_
    refine Ops.stG rfl rfl rfl h1 (.gtr rfl rfl) rfl rfl ?_
    refine Ops.st (.pickF rfl h1 rfl) rfl rfl rfl ?_
    refine Ops.nil ?_
    refine Ext.seq ?_
    refine Cod.condD rfl (fun h2 => ?_) (fun h2 => ?_)
    ·
      refine Cod.seq ?_
      refine Cod.region ?_
      refine Ops.st (.move rfl) rfl rfl rfl ?_
      refine Ops.st (.assign rfl) rfl rfl rfl ?_
      refine Ops.nil ?_
      refine Ext.seq ?_
      exact Cod.ret (Ext.seqR (Ext.ret rfl rfl rfl))
    ·
      refine Cod.skip ?_
      refine Ext.seq ?_
      refine Cod.seq ?_
      refine Cod.region ?_
      refine Ops.ent Ent.ice0 ?_
      refine Ops.st (.move rfl) rfl rfl rfl ?_
      refine Ops.st (.move rfl) rfl rfl rfl ?_
      refine Ops.call ⟨Try.call22⟩ rfl rfl rfl (by repeat' first | exact Takes.nil _ | exact TakeP.here _ | apply TakeP.there | apply Takes.cons) (fun F' hF => decode_any (hr.mono hF.hf) (hc.mono hF.hf fs) (hb.mono hF.hf)) rfl rfl rfl ?_
      rintro _ _ ⟨h3, v, ws, hle, rfl, hv, hvv, rfl⟩
      refine Ops.st (.move rfl) rfl rfl rfl ?_
      refine Ops.st (.extract rfl rfl) rfl rfl rfl ?_
      refine Ops.st (.extract rfl rfl) rfl rfl rfl ?_
      refine Ops.st (.assign rfl) rfl rfl rfl ?_
      refine Ops.st (.assign rfl) rfl rfl rfl ?_
      refine Ops.nil ?_
      refine Ext.seq ?_
      refine Cod.seq ?_
      refine Cod.region ?_
      refine Ops.st (.move rfl) rfl rfl rfl ?_
      refine Ops.st (.move rfl) rfl rfl rfl ?_
      refine Ops.call ⟨Try.call23⟩ rfl rfl rfl (by repeat' first | exact Takes.nil _ | exact TakeP.here _ | apply TakeP.there | apply Takes.cons) (fun F' hF => refDecode_any (hr.mono hF.hf) (hc.mono hF.hf fs) (hb.mono hF.hf)) rfl rfl rfl ?_
      rintro _ _ ⟨h4, v2, ws2, hle2, rfl, hv2, hvv2, rfl⟩
      refine Ops.st (.move rfl) rfl rfl rfl ?_
      refine Ops.st (.extract rfl rfl) rfl rfl rfl ?_
      refine Ops.st (.extract rfl rfl) rfl rfl rfl ?_
      refine Ops.st (.assign rfl) rfl rfl rfl ?_
      refine Ops.st (.assign rfl) rfl rfl rfl ?_
      refine Ops.nil ?_
      refine Ext.seq ?_
      refine Cod.seq ?_
      refine Cod.region ?_
      refine Ops.st (.move rfl) rfl rfl rfl ?_
      refine Ops.st (.move rfl) rfl rfl rfl ?_
      refine Ops.call ⟨Try.call15⟩ rfl rfl rfl (by repeat' first | exact Takes.nil _ | exact TakeP.here _ | apply TakeP.there | apply Takes.cons) (fun F' hF => same_any (wtR ((decM fs bs).2.getD []) + 1) (Nat.lt_succ_self _) ((hv.mono hle2).mono (hF.ice (by repeat first | exact TakeP.here _ | apply TakeP.there))) ((hvv.mono hle2 _).mono (hF.ice (by repeat first | exact TakeP.here _ | apply TakeP.there)) _) (hv2.mono (hF.ice (by repeat first | exact TakeP.here _ | apply TakeP.there))) (hvv2.mono (hF.ice (by repeat first | exact TakeP.here _ | apply TakeP.there)) _)) rfl rfl rfl ?_
      rintro _ _ ⟨⟨sm, rfl, hsm⟩, rfl⟩
      refine Ops.st (.assign rfl) rfl rfl rfl ?_
      refine Ops.nil ?_
      refine Ext.seq ?_
      refine Cod.seq ?_
      refine Cod.region ?_
      refine Ops.st (.move rfl) rfl rfl rfl ?_
      refine Ops.st (.move rfl) rfl rfl rfl ?_
      refine Ops.stG rfl rfl rfl (hsm.2 rfl) (.move rfl) rfl rfl ?_
      refine Ops.stG rfl rfl rfl (hsm.2 rfl) (.move rfl) rfl rfl ?_
      refine Ops.stG rfl rfl rfl (hsm.2 rfl) (.eql rfl rfl) rfl rfl ?_
      refine Ops.st (.pickT rfl (hsm.2 rfl) rfl) rfl rfl rfl ?_
      refine Ops.st (.assign rfl) rfl rfl rfl ?_
      refine Ops.nil ?_
      refine Ext.seq ?_
      exact Cod.ret (Ext.ret rfl rfl (by simp))
/-- What was encoded is decoded as it was. -/
theorem packBack_any {F : Fr} {lv vv : Value} {cs ws : List Value} {fs : List Fld} {vs : List Val} (hr : SlR F.hf lv 4 fs.length cs) (hc : FldsR F.hf fs cs) (hs : SlR F.hf vv 3 vs.length ws) (hw : ValsR F.hf vs ws) : Spec Try.prog F 10 [lv, vv] [] (fun u _ => u = .bool true) := by
  refine Spec.body Try.func10 rfl Try.ntmps10 rfl ?_
  refine Cod.seq ?_
  refine Cod.region ?_
  refine Ops.st (.assign rfl) rfl rfl rfl ?_
  refine Ops.nil ?_
  refine Ext.seq ?_
  refine Cod.seq ?_
  refine Cod.region ?_
  refine Ops.call ⟨Try.call11⟩ rfl rfl rfl (by repeat' first | exact Takes.nil _ | exact TakeP.here _ | apply TakeP.there | apply Takes.cons) (fun F' hF => awake_any) rfl rfl rfl ?_
  rintro _ _ ⟨rfl, rfl⟩
  refine Ops.st (.assign rfl) rfl rfl rfl ?_
  refine Ops.nil ?_
  refine Ext.seq ?_
  refine Cod.seq ?_
  refine Cod.region ?_
  refine Ops.st (.move rfl) rfl rfl rfl ?_
  refine Ops.st (.move rfl) rfl rfl rfl ?_
  refine Ops.call ⟨Try.call12⟩ rfl rfl rfl (by repeat' first | exact Takes.nil _ | exact TakeP.here _ | apply TakeP.there | apply Takes.cons) (fun F' hF => few_any (hr.mono hF.hf) (hc.mono hF.hf fs) (hs.mono hF.hf) (hw.mono hF.hf vs)) rfl rfl rfl ?_
  rintro _ _ ⟨⟨b, rfl, hwt⟩, rfl⟩
  refine Ops.st (.assign rfl) rfl rfl rfl ?_
  refine Ops.nil ?_
  refine Ext.seq ?_
  refine Cod.seq ?_
  refine Cod.seq ?_
  refine Cod.region ?_
  refine Ops.st (.move rfl) rfl rfl rfl ?_
  refine Ops.st (.notB rfl) rfl rfl rfl ?_
  refine Ops.st (.move rfl) rfl rfl rfl ?_
  refine Ops.stG rfl rfl rfl rfl (.move rfl) rfl rfl ?_
  refine Ops.stG rfl rfl rfl rfl (.notB rfl) rfl rfl ?_
  refine Ops.st (.pickF rfl rfl rfl) rfl rfl rfl ?_
  refine Ops.nil ?_
  refine Ext.seq ?_
  refine Cod.cond rfl (fun h1 => ?_) (fun h1 => ?_)
  ·
    refine Cod.seq ?_
    refine Cod.region ?_
    refine Ops.st (.move rfl) rfl rfl rfl ?_
    refine Ops.st (.assign rfl) rfl rfl rfl ?_
    refine Ops.nil ?_
    refine Ext.seq ?_
    exact Cod.ret (Ext.seqR (Ext.ret rfl rfl rfl))
  ·
    refine Cod.skip ?_
    refine Ext.seq ?_
    refine Cod.seq ?_
    refine Cod.region ?_
    have hwt2 : wtR vs ≤ 70368744177664 := hwt (by cases b; cases h1; rfl)
    refine Ops.st (.move rfl) rfl rfl rfl ?_
    refine Ops.st (.move rfl) rfl rfl rfl ?_
    refine Ops.call ⟨Try.call13⟩ rfl rfl rfl (by repeat' first | exact Takes.nil _ | exact TakeP.here _ | apply TakeP.there | apply Takes.cons) (fun F' hF => encode_any (hr.mono hF.hf) (hc.mono hF.hf fs) (hs.mono hF.hf) (hw.mono hF.hf vs) hwt2) rfl rfl rfl ?_
    rintro _ _ ⟨b1, rfl, hb1, rfl⟩
    refine Ops.st (.move rfl) rfl rfl rfl ?_
    refine Ops.st (.extract rfl rfl) rfl rfl rfl ?_
    refine Ops.st (.extract rfl rfl) rfl rfl rfl ?_
    refine Ops.st (.assign rfl) rfl rfl rfl ?_
    refine Ops.st (.assign rfl) rfl rfl rfl ?_
    refine Ops.nil ?_
    refine Ext.seq ?_
    refine Cod.seq ?_
    refine Cod.seq ?_
    refine Cod.region ?_
    refine Ops.st (.move rfl) rfl rfl rfl ?_
    refine Ops.st (.neq rfl rfl) rfl rfl rfl ?_
    refine Ops.nil ?_
    refine Ext.seq ?_
    refine Cod.condD rfl (fun e1 => ?_) (fun e1 => ?_)
    ·
      refine Cod.seq ?_
      refine Cod.region ?_
      refine Ops.st (.move rfl) rfl rfl rfl ?_
      refine Ops.st (.eql rfl rfl) rfl rfl rfl ?_
      refine Ops.st (.assign rfl) rfl rfl rfl ?_
      refine Ops.nil ?_
      refine Ext.seq ?_
      exact Cod.ret (Ext.seqR (Ext.ret rfl rfl (by rw [errE_one e1]; rfl)))
    ·
      refine Cod.skip ?_
      refine Ext.seq ?_
      refine Cod.seq ?_
      refine Cod.region ?_
      obtain ⟨p1, hp1⟩ := errE_zero e1
      obtain ⟨rfl, hf1, m, hm⟩ := encM_is hp1
      rw [hp1]
      simp only [Option.getD_some]
      have hdp := dec_put hm hf1
      have hml := mostR_len hm hf1
      refine Ops.ent Ent.ice0 ?_
      refine Ops.st (.move rfl) rfl rfl rfl ?_
      refine Ops.st (.move rfl) rfl rfl rfl ?_
      refine Ops.call ⟨Try.call22⟩ rfl rfl rfl (by repeat' first | exact Takes.nil _ | exact TakeP.here _ | apply TakeP.there | apply Takes.cons) (fun F' hF => decode_any (bs := putR fs vs) (hr.mono hF.hf) (hc.mono hF.hf fs) ((Rd.vec (v := b1) (by repeat first | exact TakeP.here _ | apply TakeP.there)).wider hF)) rfl rfl rfl ?_
      rintro _ _ ⟨h3, x, ws2, hle, rfl, hx, hxv, rfl⟩
      rw [hdp] at hx hxv
      rw [hdp]
      simp only [Option.getD_some] at hx hxv
      refine Ops.st (.move rfl) rfl rfl rfl ?_
      refine Ops.st (.extract rfl rfl) rfl rfl rfl ?_
      refine Ops.st (.extract rfl rfl) rfl rfl rfl ?_
      refine Ops.st (.assign rfl) rfl rfl rfl ?_
      refine Ops.st (.assign rfl) rfl rfl rfl ?_
      refine Ops.nil ?_
      refine Ext.seq ?_
      refine Cod.seq ?_
      refine Cod.region ?_
      refine Ops.st (.move rfl) rfl rfl rfl ?_
      refine Ops.st (.move rfl) rfl rfl rfl ?_
      refine Ops.call ⟨Try.call15⟩ rfl rfl rfl (by repeat' first | exact Takes.nil _ | exact TakeP.here _ | apply TakeP.there | apply Takes.cons) (fun F' hF => same_any (wtR vs + 1) (Nat.lt_succ_self _) (hx.mono (hF.ice (by repeat first | exact TakeP.here _ | apply TakeP.there))) (hxv.mono (hF.ice (by repeat first | exact TakeP.here _ | apply TakeP.there)) _) (hs.mono hF.hf) (hw.mono hF.hf vs)) rfl rfl rfl ?_
      rintro _ _ ⟨⟨sm, rfl, hsm⟩, rfl⟩
      refine Ops.st (.assign rfl) rfl rfl rfl ?_
      refine Ops.nil ?_
      refine Ext.seq ?_
      refine Cod.seq ?_
      refine Cod.region ?_
      refine Ops.st (.move rfl) rfl rfl rfl ?_
      refine Ops.st (.eql rfl rfl) rfl rfl rfl ?_
      refine Ops.st (.move rfl) rfl rfl rfl ?_
      refine Ops.stG rfl rfl rfl rfl (.move rfl) rfl rfl ?_
      refine Ops.st (.pickT rfl rfl rfl) rfl rfl rfl ?_
      refine Ops.st (.move rfl) rfl rfl rfl ?_
      refine Ops.stG rfl rfl rfl (hsm.2 rfl) (.move rfl) rfl rfl ?_
      refine Ops.stG rfl rfl rfl (hsm.2 rfl) (.len rfl (Rd.vec (v := b1) (by repeat first | exact TakeP.here _ | apply TakeP.there)) Try.runUnderlying26) rfl rfl ?_
      refine Ops.stG rfl rfl rfl (hsm.2 rfl) (.move rfl) rfl rfl ?_
      refine Ops.callG rfl rfl rfl (hsm.2 rfl) ⟨Try.call19⟩ rfl rfl rfl (by repeat' first | exact Takes.nil _ | exact TakeP.here _ | apply TakeP.there | apply Takes.cons) (fun F' hF => packMost_any (hr.mono hF.hf) (hc.mono hF.hf fs)) rfl rfl ?_
      rintro _ _ ⟨rfl, rfl⟩
      refine Ops.stG rfl rfl rfl (hsm.2 rfl) (.leq rfl rfl) rfl rfl ?_
      refine Ops.st (.pickT rfl (hsm.2 rfl) rfl) rfl rfl rfl ?_
      refine Ops.st (.assign rfl) rfl rfl rfl ?_
      refine Ops.nil ?_
      refine Ext.seq ?_
      exact Cod.ret (Ext.ret rfl rfl (by rw [hm]; simp only [Option.getD_some]; rw [decide_eq_true (by omega)]))
end Go.Proofs.Ytacgngfjanlfnaa
