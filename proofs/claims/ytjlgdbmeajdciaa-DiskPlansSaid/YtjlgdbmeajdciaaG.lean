/- DiskApart: the walk. No condition. -/
import Derived.Test.YtjlgdbmeajdciaaF
namespace Go.Proofs.Ytjlgdbmeajdciaa
open Go

theorem dB {c : Bool} {p : Prop} [Decidable p] (h : c = decide p) (hp : p) : c = true := by rw [h]; exact decide_eq_true hp

theorem diskApart_any {F : Fr} {k other : Int} {v : Value} {l : List UInt8} (hr : SlR F.hf v 1 l.length (u8s l)) : Spec Try.prog F 3 [.int .i64 k, v, .int .i64 other] [] (fun u _ => u = .bool true) := by
  have hc0 := calm_new 8
  have hc1 := calm_write hc0 other [1, 2, 3]
  have hc2 := calm_write hc1 k l
  refine Spec.body Try.func3 rfl Try.ntmps3 rfl ?_
  refine Cod.seq ?_
  refine Cod.region ?_
  refine Ops.st (.assign rfl) rfl rfl rfl ?_
  refine Ops.nil ?_
  refine Ext.seq ?_
  refine Cod.seq ?_
  refine Cod.region ?_
  refine Ops.call ⟨Try.call9⟩ rfl rfl rfl (by repeat' first | exact Takes.nil _ | exact TakeP.here _ | apply TakeP.there | apply Takes.cons) (fun F' hF => awake_any) rfl rfl rfl ?_
  rintro _ _ ⟨rfl, rfl⟩
  refine Ops.st (.assign rfl) rfl rfl rfl ?_
  refine Ops.nil ?_
  refine Ext.seq ?_
  refine Cod.seq ?_
  refine Cod.region ?_
  refine Ops.call ⟨Try.call10⟩ rfl rfl rfl (by repeat' first | exact Takes.nil _ | exact TakeP.here _ | apply TakeP.there | apply Takes.cons) (fun F' hF => new_ok (n := 8) (by decide)) rfl rfl rfl ?_
  rintro _ _ ⟨b, rfl, rfl⟩
  refine Ops.st (.move rfl) rfl rfl rfl ?_
  refine Ops.st (.extract rfl rfl) rfl rfl rfl ?_
  refine Ops.st (.extract rfl rfl) rfl rfl rfl ?_
  refine Ops.st (.assign rfl) rfl rfl rfl ?_
  refine Ops.st (.assign rfl) rfl rfl rfl ?_
  refine Ops.nil ?_
  refine Ext.seq ?_
  refine Cod.seq ?_
  refine Cod.seq ?_
  refine Cod.region ?_
  refine Ops.st (.move rfl) rfl rfl rfl ?_
  refine Ops.st (.notB rfl) rfl rfl rfl ?_
  refine Ops.st (.move rfl) rfl rfl rfl ?_
  refine Ops.stG rfl rfl rfl rfl (.move rfl) rfl rfl ?_
  refine Ops.stG rfl rfl rfl rfl (.neq rfl rfl) rfl rfl ?_
  refine Ops.st (.pickF rfl rfl rfl) rfl rfl rfl ?_
  refine Ops.st (.move rfl) rfl rfl rfl ?_
  refine Ops.stG rfl rfl rfl rfl (.move rfl) rfl rfl ?_
  refine Ops.stG rfl rfl rfl rfl (.eqPN rfl rfl Try.underlying24) rfl rfl ?_
  refine Ops.st (.pickF rfl rfl rfl) rfl rfl rfl ?_
  refine Ops.st (.move rfl) rfl rfl rfl ?_
  refine Ops.stG rfl rfl rfl rfl (.move rfl) rfl rfl ?_
  refine Ops.stG rfl rfl rfl rfl (.len rfl (Rd.ro hr) Try.runUnderlying22) rfl rfl ?_
  refine Ops.stG rfl rfl rfl rfl (.gtr rfl rfl) rfl rfl ?_
  refine Ops.st (.pickF rfl rfl rfl) rfl rfl rfl ?_
  refine Ops.nil ?_
  refine Ext.seq ?_
  refine Cod.condD rfl (fun hlen => ?_) (fun hlen => ?_)
  ·
    refine Cod.seq ?_
    refine Cod.region ?_
    refine Ops.st (.move rfl) rfl rfl rfl ?_
    refine Ops.st (.move rfl) rfl rfl rfl ?_
    refine Ops.stG rfl rfl rfl rfl (.move rfl) rfl rfl ?_
    refine Ops.stG rfl rfl rfl rfl (.eql rfl rfl) rfl rfl ?_
    refine Ops.st (.pickT rfl rfl rfl) rfl rfl rfl ?_
    refine Ops.st (.assign rfl) rfl rfl rfl ?_
    refine Ops.nil ?_
    refine Ext.seq ?_
    exact Cod.ret (Ext.seqR (Ext.ret rfl rfl rfl))
  ·
    refine Cod.skip ?_
    refine Ext.seq ?_
    refine Cod.seq ?_
    refine Cod.region ?_
    refine Ops.st (.move rfl) rfl rfl rfl ?_
    refine Ops.st (.move rfl) rfl rfl rfl ?_
    refine Ops.ef (.lit1 ei22 rfl rfl rfl (by repeat' first | exact One.nil | apply One.cons rfl | (apply One.cons (Sl.one (by assumption))))) rfl rfl rfl ?_
    rintro u0 _ ⟨hu0, rfl⟩
    refine Ops.call ⟨Try.call11⟩ rfl rfl rfl (by repeat' first | exact Takes.nil _ | exact TakeP.here _ | apply TakeP.there | apply Takes.cons) (fun F' hF => write_any (k := other) (l := [1, 2, 3]) ((Rd.vec (n := 3) (xs := u8s [1, 2, 3]) (by repeat first | exact TakeP.here _ | apply TakeP.there)).wider hF) (by decide)) rfl rfl rfl ?_
    rintro _ _ ⟨rfl, rfl⟩
    refine Ops.nil ?_
    refine Ext.seq ?_
    refine Cod.seq ?_
    refine Cod.region ?_
    refine Ops.st (.move rfl) rfl rfl rfl ?_
    refine Ops.st (.move rfl) rfl rfl rfl ?_
    refine Ops.call ⟨Try.call12⟩ rfl rfl rfl (by repeat' first | exact Takes.nil _ | exact TakeP.here _ | apply TakeP.there | apply Takes.cons) (fun F' hF => read_uni) rfl rfl rfl ?_
    rintro _ _ ⟨u1, rfl, hu1, rfl⟩
    refine Ops.st (.move rfl) rfl rfl rfl ?_
    refine Ops.st (.extract rfl rfl) rfl rfl rfl ?_
    refine Ops.st (.extract rfl rfl) rfl rfl rfl ?_
    refine Ops.st (.assign rfl) rfl rfl rfl ?_
    refine Ops.st (.assign rfl) rfl rfl rfl ?_
    refine Ops.nil ?_
    refine Ext.seq ?_
    refine Cod.seq ?_
    refine Cod.region ?_
    refine Ops.st (.move rfl) rfl rfl rfl ?_
    refine Ops.st (.move rfl) rfl rfl rfl ?_
    refine Ops.st (.move rfl) rfl rfl rfl ?_
    refine Ops.call ⟨Try.call11⟩ rfl rfl rfl (by repeat' first | exact Takes.nil _ | exact TakeP.here _ | apply TakeP.there | apply Takes.cons) (fun F' hF => write_any (k := k) (l := l) (hr.mono hF.hf) (by omega)) rfl rfl rfl ?_
    rintro _ _ ⟨rfl, rfl⟩
    refine Ops.st (.assign rfl) rfl rfl rfl ?_
    refine Ops.nil ?_
    refine Ext.seq ?_
    refine Cod.seq ?_
    refine Cod.region ?_
    refine Ops.st (.move rfl) rfl rfl rfl ?_
    refine Ops.st (.move rfl) rfl rfl rfl ?_
    refine Ops.call ⟨Try.call12⟩ rfl rfl rfl (by repeat' first | exact Takes.nil _ | exact TakeP.here _ | apply TakeP.there | apply Takes.cons) (fun F' hF => read_uni) rfl rfl rfl ?_
    rintro _ _ ⟨u2, rfl, hu2, rfl⟩
    generalize hD1 : ((D0 8).write other [1, 2, 3]).2 = D1 at hc1 hc2 ⊢
    generalize hD2 : (D1.write k l).2 = D2 at hc2 ⊢
    have hw := write_calm hc1 k l
    refine Ops.st (.move rfl) rfl rfl rfl ?_
    refine Ops.st (.extract rfl rfl) rfl rfl rfl ?_
    refine Ops.st (.extract rfl rfl) rfl rfl rfl ?_
    refine Ops.st (.assign rfl) rfl rfl rfl ?_
    refine Ops.st (.assign rfl) rfl rfl rfl ?_
    refine Ops.nil ?_
    refine Ext.seq ?_
    refine Cod.seq ?_
    refine Cod.seq ?_
    refine Cod.region ?_
    refine Ops.st (.move rfl) rfl rfl rfl ?_
    refine Ops.st (.neq rfl rfl) rfl rfl rfl ?_
    refine Ops.nil ?_
    refine Ext.seq ?_
    refine Cod.condD rfl (fun h1 => ?_) (fun h1 => ?_)
    ·
      refine Cod.seq ?_
      refine Cod.region ?_
      have h1' : D1.rdE other = 1 := by simp only [DiskM.rdE, hc1.2] at h1 ⊢; split at h1 <;> simp_all
      refine Ops.st (.move rfl) rfl rfl rfl ?_
      refine Ops.st (.eql rfl rfl) rfl rfl rfl ?_
      refine Ops.st (.assign rfl) rfl rfl rfl ?_
      refine Ops.nil ?_
      refine Ext.seq ?_
      exact Cod.ret (Ext.seqR (Ext.ret rfl rfl (by rw [h1']; rfl)))
    ·
      refine Cod.skip ?_
      refine Ext.seq ?_
      refine Cod.seq ?_
      refine Cod.seq ?_
      refine Cod.region ?_
      refine Ops.st (.move rfl) rfl rfl rfl ?_
      refine Ops.st (.neq rfl rfl) rfl rfl rfl ?_
      refine Ops.nil ?_
      refine Ext.seq ?_
      refine Cod.condD rfl (fun h2 => ?_) (fun h2 => ?_)
      ·
        refine Cod.seq ?_
        refine Cod.region ?_
        have hn : ¬ D1.has k ∨ 128 < l.length := by rw [hw] at h2; by_cases h : ¬ D1.has k ∨ 128 < l.length; exact h; simp [h] at h2
        rw [if_pos hn] at hw
        have hD : D2 = D1 := by rw [← hD2, hw]
        refine Ops.st (.move rfl) rfl rfl rfl ?_
        refine Ops.st (.eql rfl rfl) rfl rfl rfl ?_
        refine Ops.st (.move rfl) rfl rfl rfl ?_
        refine Ops.stG rfl rfl rfl (by rw [hw]; rfl) (.move rfl) rfl rfl ?_
        refine Ops.stG rfl rfl rfl (by rw [hw]; rfl) (.toStr rfl (Rd.vec (v := u1) (by repeat first | exact TakeP.here _ | apply TakeP.there)) Try.underlying22 Try.underlying5 Try.underlying9) rfl rfl ?_
        refine Ops.stG rfl rfl rfl (by rw [hw]; rfl) (.move rfl) rfl rfl ?_
        refine Ops.stG rfl rfl rfl (by rw [hw]; rfl) (.toStr rfl (Rd.vec (v := u2) (by repeat first | exact TakeP.here _ | apply TakeP.there)) Try.underlying22 Try.underlying5 Try.underlying9) rfl rfl ?_
        refine Ops.stG rfl rfl rfl (by rw [hw]; rfl) (.eqStr rfl rfl) rfl rfl ?_
        refine Ops.st (.pickT rfl (by rw [hw]; rfl) rfl) rfl rfl rfl ?_
        refine Ops.st (.assign rfl) rfl rfl rfl ?_
        refine Ops.nil ?_
        refine Ext.seq ?_
        exact Cod.ret (Ext.seqR (Ext.ret rfl rfl (by rw [hD]; simp)))
      ·
        refine Cod.skip ?_
        refine Ext.seq ?_
        refine Cod.seq ?_
        refine Cod.region ?_
        have hn : ¬ (¬ D1.has k ∨ 128 < l.length) := by rw [hw] at h2; by_cases h : ¬ D1.has k ∨ 128 < l.length; simp [h] at h2; exact h
        rw [if_neg hn] at hw
        have hk : D1.has k := by by_cases h : D1.has k; exact h; exact absurd (Or.inl h) hn
        have hl : l.length ≤ 128 := by omega
        have hD : D2 = D1.put k l := by rw [← hD2, hw]
        have hrd : D2.rd k = padS l := by rw [hD]; exact rd_put_eq hc1 hk l
        have hpl := padS_len hl
        refine Ops.st (.move rfl) rfl rfl rfl ?_
        refine Ops.st (.move rfl) rfl rfl rfl ?_
        refine Ops.call ⟨Try.call12⟩ rfl rfl rfl (by repeat' first | exact Takes.nil _ | exact TakeP.here _ | apply TakeP.there | apply Takes.cons) (fun F' hF => read_uni (D := D2)) rfl rfl rfl ?_
        rintro _ _ ⟨u3, rfl, hu3, rfl⟩
        refine Ops.st (.move rfl) rfl rfl rfl ?_
        refine Ops.st (.extract rfl rfl) rfl rfl rfl ?_
        refine Ops.st (.extract rfl rfl) rfl rfl rfl ?_
        refine Ops.st (.assign rfl) rfl rfl rfl ?_
        refine Ops.st (.assign rfl) rfl rfl rfl ?_
        refine Ops.nil ?_
        refine Ext.seq ?_
        refine Cod.seq ?_
        refine Cod.region ?_
        refine Ops.st (.move rfl) rfl rfl rfl ?_
        refine Ops.st (.indexAddr (v := u3) (j := 0) rfl rfl (Rd.vec (by repeat first | exact TakeP.here _ | apply TakeP.there)) Try.runUnderlying22 Try.sizeOf5 rfl (by rw [hrd, hpl]; decide) rfl) rfl rfl rfl ?_
        refine Ops.st (.load_elem (v := u3) rfl (Rd.vec (by repeat first | exact TakeP.here _ | apply TakeP.there)) Try.isAgg5 (u8s_get (bs := D2.rd k) (i := 0) (c := (D2.rd k)[0]'(by rw [hrd, hpl]; decide)) (by simp [hrd, hpl]))) rfl rfl rfl ?_
        refine Ops.st (.add rfl rfl rfl) rfl rfl rfl ?_
        refine Ops.st (.indexAddr (v := u3) (j := 0) rfl rfl (Rd.vec (by repeat first | exact TakeP.here _ | apply TakeP.there)) Try.runUnderlying22 Try.sizeOf5 rfl (by rw [hrd, hpl]; decide) rfl) rfl rfl rfl ?_
        refine Ops.ef10 (.store_elem (v := u3) rfl rfl (by repeat first | exact TakeP.here _ | apply TakeP.there) Try.sizeOf5 (by rw [u8s_len, hrd, hpl]; decide) rfl) rfl rfl ?_
        refine Ops.nil ?_
        refine Ext.seq ?_
        refine Cod.seq ?_
        refine Cod.region ?_
        refine Ops.st (.move rfl) rfl rfl rfl ?_
        refine Ops.st (.move rfl) rfl rfl rfl ?_
        refine Ops.call ⟨Try.call12⟩ rfl rfl rfl (by repeat' first | exact Takes.nil _ | exact TakeP.here _ | apply TakeP.there | apply Takes.cons) (fun F' hF => read_uni (D := D2)) rfl rfl rfl ?_
        rintro _ _ ⟨u4, rfl, hu4, rfl⟩
        refine Ops.st (.move rfl) rfl rfl rfl ?_
        refine Ops.st (.extract rfl rfl) rfl rfl rfl ?_
        refine Ops.st (.extract rfl rfl) rfl rfl rfl ?_
        refine Ops.st (.assign rfl) rfl rfl rfl ?_
        refine Ops.st (.assign rfl) rfl rfl rfl ?_
        refine Ops.nil ?_
        refine Ext.seq ?_
        refine Cod.seq ?_
        refine Cod.regionQ mixed (by kernel_rfl) ?_
        refine Qs.st (.move rfl) rfl rfl rfl ?_
        refine Qs.st (.move rfl) rfl rfl rfl ?_
        refine Qs.st (.eql rfl rfl) rfl rfl rfl ?_
        refine Qs.st (.move rfl) rfl rfl rfl ?_
        refine Qs.splitD (t := 99) rfl (fun h3 => ?_) (fun h3 => ?_)
        ·
          refine Qs.skipG rfl rfl rfl (decide_eq_true h3) rfl rfl ?_
          refine Qs.skipG rfl rfl rfl (decide_eq_true h3) rfl rfl ?_
          refine Qs.skipG rfl rfl rfl (decide_eq_true h3) rfl rfl ?_
          refine Qs.skipG rfl rfl rfl (decide_eq_true h3) rfl rfl ?_
          refine Qs.skipG rfl rfl rfl (decide_eq_true h3) rfl rfl ?_
          refine Qs.st (.pickT rfl (decide_eq_true h3) rfl) rfl rfl rfl ?_
          refine Qs.st (.move rfl) rfl rfl rfl ?_
          refine Qs.stG rfl rfl rfl rfl (.move rfl) rfl rfl ?_
          refine Qs.stG rfl rfl rfl rfl (.move rfl) rfl rfl ?_
          refine Qs.stG rfl rfl rfl rfl (.len rfl (Rd.ro hr) Try.runUnderlying22) rfl rfl ?_
          refine Qs.stG rfl rfl rfl rfl (.slice_h (v := u4) (hi := l.length) rfl rfl (Rd.vec (by repeat first | exact TakeP.here _ | apply TakeP.there)) Try.runUnderlying22 Try.sizeOf5 rfl (by rw [hrd, hpl]; exact hl)) rfl rfl ?_
          refine Qs.stG rfl rfl rfl rfl (.toStr rfl (Rd.cutB (v := u4) (Rd.vec (by repeat first | exact TakeP.here _ | apply TakeP.there)) (Nat.zero_le _) (by rw [hrd, hpl]; exact hl)) Try.underlying22 Try.underlying5 Try.underlying9) rfl rfl ?_
          refine Qs.stG rfl rfl rfl rfl (.move rfl) rfl rfl ?_
          refine Qs.stG rfl rfl rfl rfl (.toStr rfl (Rd.ro hr) Try.underlying22 Try.underlying5 Try.underlying9) rfl rfl ?_
          refine Qs.stG rfl rfl rfl rfl (.eqStr rfl rfl) rfl rfl ?_
          refine Qs.st (.pickT rfl rfl rfl) rfl rfl rfl ?_
          refine Qs.st (.move rfl) rfl rfl rfl ?_
          refine Qs.stG rfl rfl rfl (by rw [hrd]; simp [padS]) (.move rfl) rfl rfl ?_
          refine Qs.stG rfl rfl rfl (by rw [hrd]; simp [padS]) (.len rfl (Rd.vec (v := u4) (by repeat first | exact TakeP.here _ | apply TakeP.there)) Try.runUnderlying22) rfl rfl ?_
          refine Qs.stG rfl rfl rfl (by rw [hrd]; simp [padS]) (.eql rfl rfl) rfl rfl ?_
          refine Qs.st (.pickT rfl (by rw [hrd]; simp [padS]) rfl) rfl rfl rfl ?_
          refine Qs.st (.assign rfl) rfl rfl rfl ?_
          refine Qs.nil ?_
          refine Ext.seq ?_
          exact Cod.ret (Ext.ret rfl rfl (by rw [hrd, hpl]; rfl))
        ·
          refine Qs.stG rfl rfl rfl (decide_eq_false h3) (.move rfl) rfl rfl ?_
          refine Qs.stG rfl rfl rfl (decide_eq_false h3) (.toStr rfl (Rd.vec (v := u1) (by repeat first | exact TakeP.here _ | apply TakeP.there)) Try.underlying22 Try.underlying5 Try.underlying9) rfl rfl ?_
          refine Qs.stG rfl rfl rfl (decide_eq_false h3) (.move rfl) rfl rfl ?_
          refine Qs.stG rfl rfl rfl (decide_eq_false h3) (.toStr rfl (Rd.vec (v := u2) (by repeat first | exact TakeP.here _ | apply TakeP.there)) Try.underlying22 Try.underlying5 Try.underlying9) rfl rfl ?_
          refine Qs.stG rfl rfl rfl (decide_eq_false h3) (.eqStr rfl rfl) rfl rfl ?_
          refine Qs.st (.pickF rfl (decide_eq_false h3) rfl) rfl rfl rfl ?_
          refine Qs.st (.move rfl) rfl rfl rfl ?_
          refine Qs.stG rfl rfl rfl (decide_eq_true (by rw [hD]; exact (rd_put_ne hk (fun e => h3 e.symm) l).symm)) (.move rfl) rfl rfl ?_
          refine Qs.stG rfl rfl rfl (decide_eq_true (by rw [hD]; exact (rd_put_ne hk (fun e => h3 e.symm) l).symm)) (.move rfl) rfl rfl ?_
          refine Qs.stG rfl rfl rfl (decide_eq_true (by rw [hD]; exact (rd_put_ne hk (fun e => h3 e.symm) l).symm)) (.len rfl (Rd.ro hr) Try.runUnderlying22) rfl rfl ?_
          refine Qs.stG rfl rfl rfl (decide_eq_true (by rw [hD]; exact (rd_put_ne hk (fun e => h3 e.symm) l).symm)) (.slice_h (v := u4) (hi := l.length) rfl rfl (Rd.vec (by repeat first | exact TakeP.here _ | apply TakeP.there)) Try.runUnderlying22 Try.sizeOf5 rfl (by rw [hrd, hpl]; exact hl)) rfl rfl ?_
          refine Qs.stG rfl rfl rfl (decide_eq_true (by rw [hD]; exact (rd_put_ne hk (fun e => h3 e.symm) l).symm)) (.toStr rfl (Rd.cutB (v := u4) (Rd.vec (by repeat first | exact TakeP.here _ | apply TakeP.there)) (Nat.zero_le _) (by rw [hrd, hpl]; exact hl)) Try.underlying22 Try.underlying5 Try.underlying9) rfl rfl ?_
          refine Qs.stG rfl rfl rfl (decide_eq_true (by rw [hD]; exact (rd_put_ne hk (fun e => h3 e.symm) l).symm)) (.move rfl) rfl rfl ?_
          refine Qs.stG rfl rfl rfl (decide_eq_true (by rw [hD]; exact (rd_put_ne hk (fun e => h3 e.symm) l).symm)) (.toStr rfl (Rd.ro hr) Try.underlying22 Try.underlying5 Try.underlying9) rfl rfl ?_
          refine Qs.stG rfl rfl rfl (decide_eq_true (by rw [hD]; exact (rd_put_ne hk (fun e => h3 e.symm) l).symm)) (.eqStr rfl rfl) rfl rfl ?_
          refine Qs.st (.pickT rfl (decide_eq_true (by rw [hD]; exact (rd_put_ne hk (fun e => h3 e.symm) l).symm)) rfl) rfl rfl rfl ?_
          refine Qs.st (.move rfl) rfl rfl rfl ?_
          refine Qs.stG rfl rfl rfl (by rw [hrd]; simp [padS]) (.move rfl) rfl rfl ?_
          refine Qs.stG rfl rfl rfl (by rw [hrd]; simp [padS]) (.len rfl (Rd.vec (v := u4) (by repeat first | exact TakeP.here _ | apply TakeP.there)) Try.runUnderlying22) rfl rfl ?_
          refine Qs.stG rfl rfl rfl (by rw [hrd]; simp [padS]) (.eql rfl rfl) rfl rfl ?_
          refine Qs.st (.pickT rfl (by rw [hrd]; simp [padS]) rfl) rfl rfl rfl ?_
          refine Qs.st (.assign rfl) rfl rfl rfl ?_
          refine Qs.nil ?_
          refine Ext.seq ?_
          exact Cod.ret (Ext.ret rfl rfl (by rw [hrd, hpl]; rfl))
end Go.Proofs.Ytjlgdbmeajdciaa
