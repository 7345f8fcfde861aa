/- The statements on the hash that go on from a saved state. No condition. -/
import Derived.Test.YtdnbnfebapofnaaDoorSK
namespace Go.Proofs.YtdnbnfebapofnaaDoor
open Go

theorem shaApart_any {F : Fr} {v v2 v3 : Value} {a b c : List UInt8} (tab : Tab F) (hr : SlR F.hf v 1 a.length (u8s a)) (hr2 : SlR F.hf v2 1 b.length (u8s b)) (hr3 : SlR F.hf v3 1 c.length (u8s c)) :
    Spec Tryd.prog F 7 [v, v2, v3] [] (fun u _ => u = .bool true) := by
  refine Spec.body Tryd.func7 rfl Tryd.ntmps7 rfl ?_
  refine Cod.seq ?_
  refine Cod.region ?_
  refine Ops.st (.assign rfl) rfl rfl rfl ?_
  refine Ops.nil ?_
  refine Ext.seq ?_
  refine Cod.seq ?_
  refine Cod.region ?_
  refine Ops.call ⟨Tryd.call10⟩ rfl rfl rfl (by repeat' first | exact Takes.nil _ | exact TakeP.here _ | apply TakeP.there | apply Takes.cons) (fun F' hF => shaAwake_any (tab.mono hF.hf)) rfl rfl rfl ?_
  rintro _ _ ⟨rfl, rfl⟩
  refine Ops.st (.assign rfl) rfl rfl rfl ?_
  refine Ops.nil ?_
  refine Ext.seq ?_
  refine Cod.seq ?_
  refine Cod.region ?_
  refine Ops.call ⟨Tryd.call13⟩ rfl rfl rfl (by repeat' first | exact Takes.nil _ | exact TakeP.here _ | apply TakeP.there | apply Takes.cons) (fun F' hF => shaNew_any) rfl rfl rfl ?_
  rintro _ _ ⟨hb, rfl, rfl⟩
  refine Ops.st (.assign rfl) rfl rfl rfl ?_
  refine Ops.nil ?_
  refine Ext.seq ?_
  refine Cod.seq ?_
  refine Cod.seq ?_
  refine Cod.region ?_
  refine Ops.st (.move rfl) rfl rfl rfl ?_
  refine Ops.st (.notB rfl) rfl rfl rfl ?_
  refine Ops.st (.move rfl) rfl rfl rfl ?_
  refine Ops.stG rfl rfl rfl rfl (.move rfl) rfl rfl ?_
  refine Ops.stG rfl rfl rfl rfl (.eqPN rfl rfl Tryd.underlying28) rfl rfl ?_
  refine Ops.st (.pickF rfl rfl rfl) rfl rfl rfl ?_
  refine Ops.st (.move rfl) rfl rfl rfl ?_
  refine Ops.stG rfl rfl rfl rfl (.move rfl) rfl rfl ?_
  refine Ops.stG rfl rfl rfl rfl (.len rfl (Rd.ro hr) Tryd.runUnderlying22) rfl rfl ?_
  refine Ops.stG rfl rfl rfl rfl (.gtr rfl rfl) rfl rfl ?_
  refine Ops.st (.pickF rfl rfl rfl) rfl rfl rfl ?_
  refine Ops.st (.move rfl) rfl rfl rfl ?_
  refine Ops.splitD (t := 26) rfl (fun h1 => ?_) (fun h1 => ?_)
  ·
    refine Ops.skipG rfl rfl rfl (decide_eq_true h1) rfl rfl ?_
    refine Ops.skipG rfl rfl rfl (decide_eq_true h1) rfl rfl ?_
    refine Ops.skipG rfl rfl rfl (decide_eq_true h1) rfl rfl ?_
    refine Ops.st (.pickT rfl (decide_eq_true h1) rfl) rfl rfl rfl ?_
    refine Ops.st (.move rfl) rfl rfl rfl ?_
    refine Ops.skipG rfl rfl rfl rfl rfl rfl ?_
    refine Ops.skipG rfl rfl rfl rfl rfl rfl ?_
    refine Ops.skipG rfl rfl rfl rfl rfl rfl ?_
    refine Ops.st (.pickT rfl rfl rfl) rfl rfl rfl ?_
    refine Ops.nil ?_
    refine Ext.seq ?_
    refine Cod.condT rfl rfl ?_
    refine Cod.seq ?_
    refine Cod.region ?_
    refine Ops.st (.move rfl) rfl rfl rfl ?_
    refine Ops.st (.move rfl) rfl rfl rfl ?_
    refine Ops.stG rfl rfl rfl rfl (.move rfl) rfl rfl ?_
    refine Ops.stG rfl rfl rfl rfl (.nePN rfl rfl Tryd.underlying28) rfl rfl ?_
    refine Ops.st (.pickT rfl rfl rfl) rfl rfl rfl ?_
    refine Ops.st (.assign rfl) rfl rfl rfl ?_
    refine Ops.nil ?_
    refine Ext.seq ?_
    exact Cod.ret (Ext.seqR (Ext.ret rfl rfl rfl))
  ·
    refine Ops.stG rfl rfl rfl (decide_eq_false h1) (.move rfl) rfl rfl ?_
    refine Ops.stG rfl rfl rfl (decide_eq_false h1) (.len rfl (Rd.ro hr2) Tryd.runUnderlying22) rfl rfl ?_
    refine Ops.stG rfl rfl rfl (decide_eq_false h1) (.gtr rfl rfl) rfl rfl ?_
    refine Ops.st (.pickF rfl (decide_eq_false h1) rfl) rfl rfl rfl ?_
    refine Ops.st (.move rfl) rfl rfl rfl ?_
    refine Ops.splitD (t := 31) rfl (fun h2 => ?_) (fun h2 => ?_)
    ·
      refine Ops.skipG rfl rfl rfl (decide_eq_true h2) rfl rfl ?_
      refine Ops.skipG rfl rfl rfl (decide_eq_true h2) rfl rfl ?_
      refine Ops.skipG rfl rfl rfl (decide_eq_true h2) rfl rfl ?_
      refine Ops.st (.pickT rfl (decide_eq_true h2) rfl) rfl rfl rfl ?_
      refine Ops.nil ?_
      refine Ext.seq ?_
      refine Cod.condT rfl rfl ?_
      refine Cod.seq ?_
      refine Cod.region ?_
      refine Ops.st (.move rfl) rfl rfl rfl ?_
      refine Ops.st (.move rfl) rfl rfl rfl ?_
      refine Ops.stG rfl rfl rfl rfl (.move rfl) rfl rfl ?_
      refine Ops.stG rfl rfl rfl rfl (.nePN rfl rfl Tryd.underlying28) rfl rfl ?_
      refine Ops.st (.pickT rfl rfl rfl) rfl rfl rfl ?_
      refine Ops.st (.assign rfl) rfl rfl rfl ?_
      refine Ops.nil ?_
      refine Ext.seq ?_
      exact Cod.ret (Ext.seqR (Ext.ret rfl rfl rfl))
    ·
      refine Ops.stG rfl rfl rfl (decide_eq_false h2) (.move rfl) rfl rfl ?_
      refine Ops.stG rfl rfl rfl (decide_eq_false h2) (.len rfl (Rd.ro hr3) Tryd.runUnderlying22) rfl rfl ?_
      refine Ops.stG rfl rfl rfl (decide_eq_false h2) (.gtr rfl rfl) rfl rfl ?_
      refine Ops.st (.pickF rfl (decide_eq_false h2) rfl) rfl rfl rfl ?_
      refine Ops.nil ?_
      refine Ext.seq ?_
      refine Cod.condD rfl (fun h3 => ?_) (fun h3 => ?_)
      ·
        refine Cod.seq ?_
        refine Cod.region ?_
        refine Ops.st (.move rfl) rfl rfl rfl ?_
        refine Ops.st (.move rfl) rfl rfl rfl ?_
        refine Ops.stG rfl rfl rfl rfl (.move rfl) rfl rfl ?_
        refine Ops.stG rfl rfl rfl rfl (.nePN rfl rfl Tryd.underlying28) rfl rfl ?_
        refine Ops.st (.pickT rfl rfl rfl) rfl rfl rfl ?_
        refine Ops.st (.assign rfl) rfl rfl rfl ?_
        refine Ops.nil ?_
        refine Ext.seq ?_
        exact Cod.ret (Ext.seqR (Ext.ret rfl rfl rfl))
      ·
        refine Cod.skip ?_
        refine Ext.seq ?_
        refine Cod.seq ?_
        refine Cod.region ?_
        have ok := newOk (bs := a) (by omega)
        have hlong := newLong (bs := a) (by omega)
        refine Ops.st (.move rfl) rfl rfl rfl ?_
        refine Ops.st (.move rfl) rfl rfl rfl ?_
        refine Ops.call ⟨Tryd.call14⟩ rfl rfl rfl (by repeat' first | exact Takes.nil _ | exact TakeP.here _ | apply TakeP.there | apply Takes.cons) (fun F' hF => shaWrite_any (m := HM.new) (bs := a) HM.new_ok (tab.mono hF.hf) (hr.mono hF.hf) (by simp [HM.new]; omega)) rfl rfl rfl ?_
        rintro _ _ rfl
        refine Ops.nil ?_
        refine Ext.seq ?_
        refine Cod.seq ?_
        refine Cod.region ?_
        refine Ops.st (.move rfl) rfl rfl rfl ?_
        refine Ops.call ⟨Tryd.call16⟩ rfl rfl rfl (by repeat' first | exact Takes.nil _ | exact TakeP.here _ | apply TakeP.there | apply Takes.cons) (fun F' hF => shaSave_any (m := HM.new.write a) ok (hF.hash (m := HM.new.write a) (by repeat first | exact TakeP.here _ | apply TakeP.there))) rfl rfl rfl ?_
        rintro sv _ ⟨hsv, rfl⟩
        refine Ops.call ⟨Tryd.call18⟩ rfl rfl rfl (by repeat' first | exact Takes.nil _ | exact TakeP.here _ | apply TakeP.there | apply Takes.cons) (fun F' hF => shaLoad_yes (bs := (HM.new.write a).save) ((Rd.vec (v := sv) (by repeat first | exact TakeP.here _ | apply TakeP.there)).wider hF) (isSave_save ok (by omega))) rfl rfl rfl ?_
        rintro _ _ ⟨xb, rfl, rfl⟩
        rw [load_save ok]
        refine Ops.st (.move rfl) rfl rfl rfl ?_
        refine Ops.st (.extract rfl rfl) rfl rfl rfl ?_
        refine Ops.st (.extract rfl rfl) rfl rfl rfl ?_
        refine Ops.st (.assign rfl) rfl rfl rfl ?_
        refine Ops.st (.assign rfl) rfl rfl rfl ?_
        refine Ops.nil ?_
        refine Ext.seq ?_
        refine Cod.seq ?_
        refine Cod.seq ?_
        refine Cod.region ?_
        refine Ops.st (.move rfl) rfl rfl rfl ?_
        refine Ops.st (.neq rfl rfl) rfl rfl rfl ?_
        refine Ops.st (.move rfl) rfl rfl rfl ?_
        refine Ops.stG rfl rfl rfl rfl (.move rfl) rfl rfl ?_
        refine Ops.stG rfl rfl rfl rfl (.eqPN rfl rfl Tryd.underlying28) rfl rfl ?_
        refine Ops.st (.pickF rfl rfl rfl) rfl rfl rfl ?_
        refine Ops.nil ?_
        refine Ext.seq ?_
        refine Cod.condF rfl rfl ?_
        refine Cod.skip ?_
        refine Ext.seq ?_
        refine Cod.seq ?_
        refine Cod.region ?_
        refine Ops.st (.move rfl) rfl rfl rfl ?_
        refine Ops.st (.move rfl) rfl rfl rfl ?_
        refine Ops.call ⟨Tryd.call14⟩ rfl rfl rfl (by repeat' first | exact Takes.nil _ | exact TakeP.here _ | apply TakeP.there | apply Takes.cons) (fun F' hF => shaWrite_any (m := HM.new.write a) (bs := b) ok (tab.mono hF.hf) (hr2.mono hF.hf) (by omega)) rfl rfl rfl ?_
        rintro _ _ rfl
        refine Ops.nil ?_
        refine Ext.seq ?_
        refine Cod.seq ?_
        refine Cod.region ?_
        refine Ops.st (.move rfl) rfl rfl rfl ?_
        refine Ops.st (.move rfl) rfl rfl rfl ?_
        refine Ops.call ⟨Tryd.call14⟩ rfl rfl rfl (by repeat' first | exact Takes.nil _ | exact TakeP.here _ | apply TakeP.there | apply Takes.cons) (fun F' hF => shaWrite_any (m := HM.new.write a) (bs := c) ok (tab.mono hF.hf) (hr3.mono hF.hf) (by omega)) rfl rfl rfl ?_
        rintro _ _ rfl
        refine Ops.nil ?_
        refine Ext.seq ?_
        refine Cod.seq ?_
        rw [HM.write_write, HM.write_write]
        refine Cod.region ?_
        refine Ops.ef (.lit1 (vs := []) ei22 rfl rfl rfl One.nil) rfl rfl rfl ?_
        rintro e1 _ ⟨he1, rfl⟩
        refine Ops.st (.move rfl) rfl rfl rfl ?_
        refine Ops.ef (.append (v := e1) rfl rfl (by repeat first | exact TakeP.here _ | apply TakeP.there) (Rd.ro hr) ei22 (by omega) (by simp only [maxLen]; omega)) rfl rfl rfl ?_
        rintro f1 _ ⟨hf1, rfl⟩
        refine Ops.st (.move rfl) rfl rfl rfl ?_
        refine Ops.ef (.append (v := f1) rfl rfl (by repeat first | exact TakeP.here _ | apply TakeP.there) (Rd.ro hr2) ei22 (by omega) (by simp only [maxLen]; omega)) rfl rfl rfl ?_
        rintro g1 _ ⟨hg1, rfl⟩
        refine Ops.st (.assign rfl) rfl rfl rfl ?_
        refine Ops.nil ?_
        refine Ext.seq ?_
        refine Cod.seq ?_
        refine Cod.region ?_
        refine Ops.ef (.lit1 (vs := []) ei22 rfl rfl rfl One.nil) rfl rfl rfl ?_
        rintro e2 _ ⟨he2, rfl⟩
        refine Ops.st (.move rfl) rfl rfl rfl ?_
        refine Ops.ef (.append (v := e2) rfl rfl (by repeat first | exact TakeP.here _ | apply TakeP.there) (Rd.ro hr) ei22 (by omega) (by simp only [maxLen]; omega)) rfl rfl rfl ?_
        rintro f2 _ ⟨hf2, rfl⟩
        refine Ops.st (.move rfl) rfl rfl rfl ?_
        refine Ops.ef (.append (v := f2) rfl rfl (by repeat first | exact TakeP.here _ | apply TakeP.there) (Rd.ro hr3) ei22 (by omega) (by simp only [maxLen]; omega)) rfl rfl rfl ?_
        rintro g2 _ ⟨hg2, rfl⟩
        refine Ops.st (.assign rfl) rfl rfl rfl ?_
        refine Ops.nil ?_
        refine Ext.seq ?_
        refine Cod.seq ?_
        have hab : (a ++ b).length = 0 + a.length + b.length := by simp
        have hac : (a ++ c).length = 0 + a.length + c.length := by simp
        rw [List.nil_append, ← u8s_app, ← u8s_app, ← hab, ← hac]
        refine Cod.region ?_
        refine Ops.st (.move rfl) rfl rfl rfl ?_
        refine Ops.call ⟨Tryd.call15⟩ rfl rfl rfl (by repeat' first | exact Takes.nil _ | exact TakeP.here _ | apply TakeP.there | apply Takes.cons) (fun F' hF => shaSum_any (m := HM.new.write (a ++ b)) (newOk (by omega)) (tab.mono hF.hf) (hF.hash (m := HM.new.write (a ++ b)) (by repeat first | exact TakeP.here _ | apply TakeP.there)) (by rw [new_write_long]; omega)) rfl rfl rfl ?_
        rintro _ _ ⟨rfl, rfl⟩
        refine Ops.st (.move rfl) rfl rfl rfl ?_
        refine Ops.call ⟨Tryd.call12⟩ rfl rfl rfl (by repeat' first | exact Takes.nil _ | exact TakeP.here _ | apply TakeP.there | apply Takes.cons) (fun F' hF => refSum_any (bs := a ++ b) ((Rd.vec (v := g1) (by repeat first | exact TakeP.here _ | apply TakeP.there)).wider hF) (by omega)) rfl rfl rfl ?_
        rintro _ _ ⟨rfl, rfl⟩
        refine Ops.st (.eqA8 rfl rfl Tryd.underlying24 Tryd.underlying5 Tryd.sizeOf5 Tryd.eqGuardType24 (HM.sum_len _) (hashOf_len _)) rfl rfl rfl ?_
        refine Ops.st (.move rfl) rfl rfl rfl ?_
        refine Ops.stG rfl rfl rfl (by simp [hashOf]) (.move rfl) rfl rfl ?_
        refine Ops.callG rfl rfl rfl (by simp [hashOf]) ⟨Tryd.call15⟩ rfl rfl rfl (by repeat' first | exact Takes.nil _ | exact TakeP.here _ | apply TakeP.there | apply Takes.cons) (fun F' hF => shaSum_any (m := HM.new.write (a ++ c)) (newOk (by omega)) (tab.mono hF.hf) (hF.hash (m := HM.new.write (a ++ c)) (by repeat first | exact TakeP.here _ | apply TakeP.there)) (by rw [new_write_long]; omega)) rfl rfl ?_
        rintro _ _ ⟨rfl, rfl⟩
        refine Ops.stG rfl rfl rfl (by simp [hashOf]) (.move rfl) rfl rfl ?_
        refine Ops.callG rfl rfl rfl (by simp [hashOf]) ⟨Tryd.call12⟩ rfl rfl rfl (by repeat' first | exact Takes.nil _ | exact TakeP.here _ | apply TakeP.there | apply Takes.cons) (fun F' hF => refSum_any (bs := a ++ c) ((Rd.vec (v := g2) (by repeat first | exact TakeP.here _ | apply TakeP.there)).wider hF) (by omega)) rfl rfl ?_
        rintro _ _ ⟨rfl, rfl⟩
        refine Ops.stG rfl rfl rfl (by simp [hashOf]) (.eqA8 rfl rfl Tryd.underlying24 Tryd.underlying5 Tryd.sizeOf5 Tryd.eqGuardType24 (HM.sum_len _) (hashOf_len _)) rfl rfl ?_
        refine Ops.st (.pickT rfl (by simp [hashOf]) rfl) rfl rfl rfl ?_
        refine Ops.st (.assign rfl) rfl rfl rfl ?_
        refine Ops.nil ?_
        refine Ext.seq ?_
        exact Cod.ret (Ext.ret rfl rfl (by simp [hashOf]))

theorem getD_take {a : List UInt8} {n i : Nat} (h : i < n) : (a.take n).getD i 0 = a.getD i 0 := by simp [List.getD, List.getElem?_take, h]
theorem isSave_short {m : HM} (ok : m.Ok) {s : List UInt8} (hs : s = m.save) : isSave (s.take (s.length - 1)) = false := by
  have hl := m.save_len
  rw [← hs] at hl
  have hb := ok.buf
  by_cases h : 40 ≤ s.length - 1
  · exact isSave_other ok (fun i hi => by rw [getD_take (by omega), hs]; exact save_mid hi) (fun _ => by rw [List.length_take]; omega)
  · rw [isSave, decide_eq_false (by rw [List.length_take]; omega)]
    rfl
theorem shaSizes_any {F : Fr} {v : Value} {bs : List UInt8} (tab : Tab F) (hr : SlR F.hf v 1 bs.length (u8s bs)) : Spec Tryd.prog F 9 [v] [] (fun u _ => u = .bool true) := by
  refine Spec.body Tryd.func9 rfl Tryd.ntmps9 rfl ?_
  refine Cod.seq ?_
  refine Cod.region ?_
  refine Ops.st (.assign rfl) rfl rfl rfl ?_
  refine Ops.nil ?_
  refine Ext.seq ?_
  refine Cod.seq ?_
  refine Cod.region ?_
  refine Ops.call ⟨Tryd.call10⟩ rfl rfl rfl (by repeat' first | exact Takes.nil _ | exact TakeP.here _ | apply TakeP.there | apply Takes.cons) (fun F' hF => shaAwake_any (tab.mono hF.hf)) rfl rfl rfl ?_
  rintro _ _ ⟨rfl, rfl⟩
  refine Ops.st (.assign rfl) rfl rfl rfl ?_
  refine Ops.nil ?_
  refine Ext.seq ?_
  refine Cod.seq ?_
  refine Cod.region ?_
  refine Ops.call ⟨Tryd.call13⟩ rfl rfl rfl (by repeat' first | exact Takes.nil _ | exact TakeP.here _ | apply TakeP.there | apply Takes.cons) (fun F' hF => shaNew_any) rfl rfl rfl ?_
  rintro _ _ ⟨hb, rfl, rfl⟩
  refine Ops.st (.assign rfl) rfl rfl rfl ?_
  refine Ops.nil ?_
  refine Ext.seq ?_
  refine Cod.seq ?_
  refine Cod.seq ?_
  refine Cod.region ?_
  refine Ops.st (.move rfl) rfl rfl rfl ?_
  refine Ops.st (.notB rfl) rfl rfl rfl ?_
  refine Ops.st (.move rfl) rfl rfl rfl ?_
  refine Ops.stG rfl rfl rfl rfl (.move rfl) rfl rfl ?_
  refine Ops.stG rfl rfl rfl rfl (.eqPN rfl rfl Tryd.underlying28) rfl rfl ?_
  refine Ops.st (.pickF rfl rfl rfl) rfl rfl rfl ?_
  refine Ops.st (.move rfl) rfl rfl rfl ?_
  refine Ops.stG rfl rfl rfl rfl (.move rfl) rfl rfl ?_
  refine Ops.stG rfl rfl rfl rfl (.len rfl (Rd.ro hr) Tryd.runUnderlying22) rfl rfl ?_
  refine Ops.stG rfl rfl rfl rfl (.gtr rfl rfl) rfl rfl ?_
  refine Ops.st (.pickF rfl rfl rfl) rfl rfl rfl ?_
  refine Ops.nil ?_
  refine Ext.seq ?_
  refine Cod.condD rfl (fun h1 => ?_) (fun h1 => ?_)
  ·
    refine Cod.seq ?_
    refine Cod.region ?_
    refine Ops.st (.move rfl) rfl rfl rfl ?_
    refine Ops.st (.move rfl) rfl rfl rfl ?_
    refine Ops.stG rfl rfl rfl rfl (.move rfl) rfl rfl ?_
    refine Ops.stG rfl rfl rfl rfl (.nePN rfl rfl Tryd.underlying28) rfl rfl ?_
    refine Ops.st (.pickT rfl rfl rfl) rfl rfl rfl ?_
    refine Ops.st (.assign rfl) rfl rfl rfl ?_
    refine Ops.nil ?_
    refine Ext.seq ?_
    exact Cod.ret (Ext.seqR (Ext.ret rfl rfl rfl))
  ·
    refine Cod.skip ?_
    refine Ext.seq ?_
    refine Cod.seq ?_
    refine Cod.region ?_
    have ok := newOk (bs := bs) (by omega)
    have hlong := newLong (bs := bs) (by omega)
    have hbuf : (HM.new.write bs).buf.length = bs.length % 64 := by rw [← ok.mod, new_write_long]
    have hsl := (HM.new.write bs).save_len
    obtain ⟨s, hs⟩ : ∃ s, s = (HM.new.write bs).save := ⟨_, rfl⟩
    refine Ops.st (.move rfl) rfl rfl rfl ?_
    refine Ops.st (.move rfl) rfl rfl rfl ?_
    refine Ops.call ⟨Tryd.call14⟩ rfl rfl rfl (by repeat' first | exact Takes.nil _ | exact TakeP.here _ | apply TakeP.there | apply Takes.cons) (fun F' hF => shaWrite_any (m := HM.new) (bs := bs) HM.new_ok (tab.mono hF.hf) (hr.mono hF.hf) (by simp [HM.new]; omega)) rfl rfl rfl ?_
    rintro _ _ rfl
    refine Ops.nil ?_
    refine Ext.seq ?_
    refine Cod.seq ?_
    refine Cod.region ?_
    refine Ops.st (.move rfl) rfl rfl rfl ?_
    refine Ops.call ⟨Tryd.call16⟩ rfl rfl rfl (by repeat' first | exact Takes.nil _ | exact TakeP.here _ | apply TakeP.there | apply Takes.cons) (fun F' hF => shaSave_any (m := HM.new.write bs) ok (hF.hash (m := HM.new.write bs) (by repeat first | exact TakeP.here _ | apply TakeP.there))) rfl rfl rfl ?_
    rintro sv _ ⟨hsv, rfl⟩
    rw [← hs]
    rw [← hs] at hsl
    have hsm : ∀ i, i < 8 → s.getD (32 + i) 0 = be8 (UInt64.ofNat (HM.new.write bs).long) i := fun i hi => by rw [hs]; exact save_mid hi
    refine Ops.st (.assign rfl) rfl rfl rfl ?_
    refine Ops.nil ?_
    refine Ext.seq ?_
    refine Cod.seq ?_
    refine Cod.region ?_
    refine Ops.ef (.lit1 (vs := []) ei22 rfl rfl rfl One.nil) rfl rfl rfl ?_
    rintro e1 _ ⟨he1, rfl⟩
    refine Ops.st (.move rfl) rfl rfl rfl ?_
    refine Ops.ef (.append (v := e1) rfl rfl (by repeat first | exact TakeP.here _ | apply TakeP.there) (Rd.vec (v := sv) (by repeat first | exact TakeP.here _ | apply TakeP.there)) ei22 (by omega) (by simp only [maxLen]; omega)) rfl rfl rfl ?_
    rintro f1 _ ⟨hf1, rfl⟩
    refine Ops.ef (.lit1 ei22 rfl rfl rfl (by repeat' first | exact One.nil | apply One.cons rfl | (apply One.cons (Sl.one (by assumption))))) rfl rfl rfl ?_
    rintro z1 _ ⟨hz1, rfl⟩
    refine Ops.ef (.append (v := f1) rfl rfl (by repeat first | exact TakeP.here _ | apply TakeP.there) (Rd.vec (v := z1) (by repeat first | exact TakeP.here _ | apply TakeP.there)) ei22 (by omega) (by simp only [maxLen]; omega)) rfl rfl rfl ?_
    rintro g1 _ ⟨hg1, rfl⟩
    have hs1 : (s ++ [0]).length = 0 + s.length + 1 := by simp
    rw [show [] ++ u8s s ++ [Value.int .u8 0] = u8s (s ++ [0]) from by rw [u8s_app]; rfl, ← hs1]
    have hno1 : isSave (s ++ [0]) = false := isSave_other ok (fun i hi => by rw [getD_app_lt (by omega)]; exact hsm i hi) (fun _ => by rw [hs1]; have := ok.buf; omega)
    refine Ops.call ⟨Tryd.call18⟩ rfl rfl rfl (by repeat' first | exact Takes.nil _ | exact TakeP.here _ | apply TakeP.there | apply Takes.cons) (fun F' hF => shaLoad_no (bs := s ++ [0]) ((Rd.vec (v := g1) (by repeat first | exact TakeP.here _ | apply TakeP.there)).wider hF) hno1) rfl rfl rfl ?_
    rintro _ _ ⟨rfl, rfl⟩
    refine Ops.st (.move rfl) rfl rfl rfl ?_
    refine Ops.st (.extract rfl rfl) rfl rfl rfl ?_
    refine Ops.st (.extract rfl rfl) rfl rfl rfl ?_
    refine Ops.st (.assign rfl) rfl rfl rfl ?_
    refine Ops.st (.assign rfl) rfl rfl rfl ?_
    refine Ops.nil ?_
    refine Ext.seq ?_
    refine Cod.seq ?_
    refine Cod.region ?_
    refine Ops.st (.move rfl) rfl rfl rfl ?_
    refine Ops.st (.move rfl) rfl rfl rfl ?_
    refine Ops.st (.len rfl (Rd.vec (v := sv) (by repeat first | exact TakeP.here _ | apply TakeP.there)) Tryd.runUnderlying22) rfl rfl rfl ?_
    refine Ops.st (.sub rfl rfl (by first | exact IntWalk.i64_in _ (by omega) | rfl)) rfl rfl rfl ?_
    refine Ops.st (.max_ rfl rfl) rfl rfl rfl ?_
    refine Ops.st (.slice_h (hi := s.length - 1) rfl rfl (Rd.vec (v := sv) (by repeat first | exact TakeP.here _ | apply TakeP.there)) Tryd.runUnderlying22 Tryd.sizeOf5 (by omega) (by omega)) rfl rfl rfl ?_
    have htl : (s.take (s.length - 1)).length = s.length - 1 := by rw [List.length_take]; omega
    have hno2 : isSave (s.take (s.length - 1)) = false := isSave_short ok hs
    refine Ops.call ⟨Tryd.call18⟩ rfl rfl rfl (by repeat' first | exact Takes.nil _ | exact TakeP.here _ | apply TakeP.there | apply Takes.cons) (fun F' hF => shaLoad_no (bs := s.take (s.length - 1)) (((Rd.vec (v := sv) (by repeat first | exact TakeP.here _ | apply TakeP.there)).cut8 (lo := 0) (hi := s.length - 1) (Nat.zero_le _) (by omega) (by rw [List.drop_zero, Nat.sub_zero])).wider hF) hno2) rfl rfl rfl ?_
    rintro _ _ ⟨rfl, rfl⟩
    refine Ops.st (.move rfl) rfl rfl rfl ?_
    refine Ops.st (.extract rfl rfl) rfl rfl rfl ?_
    refine Ops.st (.extract rfl rfl) rfl rfl rfl ?_
    refine Ops.st (.assign rfl) rfl rfl rfl ?_
    refine Ops.st (.assign rfl) rfl rfl rfl ?_
    refine Ops.nil ?_
    refine Ext.seq ?_
    refine Cod.seq ?_
    refine Cod.region ?_
    refine Ops.st (.move rfl) rfl rfl rfl ?_
    refine Ops.st (.len rfl (Rd.vec (v := sv) (by repeat first | exact TakeP.here _ | apply TakeP.there)) Tryd.runUnderlying22) rfl rfl rfl ?_
    refine Ops.st (.move rfl) rfl rfl rfl ?_
    refine Ops.st (.len rfl (Rd.ro hr) Tryd.runUnderlying22) rfl rfl rfl ?_
    refine Ops.st (.rem (r := ((bs.length % 64 : Nat) : Int)) rfl rfl (by decide) (by rw [Int.tmod_eq_emod_of_nonneg (by omega)]; omega)) rfl rfl rfl ?_
    refine Ops.st (.add rfl rfl (by first | exact IntWalk.i64_in _ (by omega) | rfl)) rfl rfl rfl ?_
    refine Ops.st (.eql rfl rfl) rfl rfl rfl ?_
    refine Ops.st (.move rfl) rfl rfl rfl ?_
    refine Ops.stG rfl rfl rfl (decide_eq_true (by omega)) (.move rfl) rfl rfl ?_
    refine Ops.callG rfl rfl rfl (decide_eq_true (by omega)) ⟨Tryd.call21⟩ rfl rfl rfl (by repeat' first | exact Takes.nil _ | exact TakeP.here _ | apply TakeP.there | apply Takes.cons) (fun F' hF => shaLen_any (m := HM.new.write bs) ok.st (hF.hash (m := HM.new.write bs) (by repeat first | exact TakeP.here _ | apply TakeP.there))) rfl rfl ?_
    rintro _ _ ⟨rfl, rfl⟩
    refine Ops.stG rfl rfl rfl (decide_eq_true (by omega)) (.move rfl) rfl rfl ?_
    refine Ops.stG rfl rfl rfl (decide_eq_true (by omega)) (.len rfl (Rd.ro hr) Tryd.runUnderlying22) rfl rfl ?_
    refine Ops.stG rfl rfl rfl (decide_eq_true (by omega)) (.eql rfl rfl) rfl rfl ?_
    refine Ops.st (.pickT rfl (decide_eq_true (by omega)) rfl) rfl rfl rfl ?_
    refine Ops.st (.move rfl) rfl rfl rfl ?_
    refine Ops.stG rfl rfl rfl (decide_eq_true (by rw [new_write_long])) (.move rfl) rfl rfl ?_
    refine Ops.stG rfl rfl rfl (decide_eq_true (by rw [new_write_long])) (.eql rfl rfl) rfl rfl ?_
    refine Ops.st (.pickT rfl (decide_eq_true (by rw [new_write_long])) rfl) rfl rfl rfl ?_
    refine Ops.st (.move rfl) rfl rfl rfl ?_
    refine Ops.stG rfl rfl rfl rfl (.move rfl) rfl rfl ?_
    refine Ops.stG rfl rfl rfl rfl (.eql rfl rfl) rfl rfl ?_
    refine Ops.st (.pickT rfl rfl rfl) rfl rfl rfl ?_
    refine Ops.st (.assign rfl) rfl rfl rfl ?_
    refine Ops.nil ?_
    refine Ext.seq ?_
    exact Cod.ret (Ext.ret rfl rfl rfl)

theorem shaParts_any {F : Fr} {v : Value} {vs : List Value} {ls : List (List UInt8)} (tab : Tab F) (hr : SlR F.hf v 1 ls.length vs) (hrow : Rows8 F vs ls) : Spec Tryd.prog F 8 [v] [] (fun u _ => u = .bool true) := by
  have hsm := hr.small
  refine Spec.body Tryd.func8 rfl Tryd.ntmps8 rfl ?_
  refine Cod.seq ?_
  refine Cod.region ?_
  refine Ops.st (.assign rfl) rfl rfl rfl ?_
  refine Ops.nil ?_
  refine Ext.seq ?_
  refine Cod.seq ?_
  refine Cod.region ?_
  refine Ops.call ⟨Tryd.call10⟩ rfl rfl rfl (by repeat' first | exact Takes.nil _ | exact TakeP.here _ | apply TakeP.there | apply Takes.cons) (fun F' hF => shaAwake_any (tab.mono hF.hf)) rfl rfl rfl ?_
  rintro _ _ ⟨rfl, rfl⟩
  refine Ops.st (.assign rfl) rfl rfl rfl ?_
  refine Ops.nil ?_
  refine Ext.seq ?_
  refine Cod.seq ?_
  refine Cod.region ?_
  refine Ops.call ⟨Tryd.call13⟩ rfl rfl rfl (by repeat' first | exact Takes.nil _ | exact TakeP.here _ | apply TakeP.there | apply Takes.cons) (fun F' hF => shaNew_any) rfl rfl rfl ?_
  rintro _ _ ⟨hb, rfl, rfl⟩
  refine Ops.st (.assign rfl) rfl rfl rfl ?_
  refine Ops.nil ?_
  refine Ext.seq ?_
  refine Cod.seq ?_
  refine Cod.seq ?_
  refine Cod.region ?_
  refine Ops.st (.move rfl) rfl rfl rfl ?_
  refine Ops.st (.notB rfl) rfl rfl rfl ?_
  refine Ops.st (.move rfl) rfl rfl rfl ?_
  refine Ops.stG rfl rfl rfl rfl (.move rfl) rfl rfl ?_
  refine Ops.stG rfl rfl rfl rfl (.eqPN rfl rfl Tryd.underlying28) rfl rfl ?_
  refine Ops.st (.pickF rfl rfl rfl) rfl rfl rfl ?_
  refine Ops.nil ?_
  refine Ext.seq ?_
  refine Cod.condF rfl rfl ?_
  refine Cod.skip ?_
  refine Ext.seq ?_
  refine Cod.seq ?_
  refine Cod.region ?_
  refine Ops.st (.assign rfl) rfl rfl rfl ?_
  refine Ops.nil ?_
  refine Ext.seq ?_
  refine Cod.seq ?_
  refine Cod.seq ?_
  refine Cod.region ?_
  refine Ops.st (.assign rfl) rfl rfl rfl ?_
  refine Ops.nil ?_
  refine Ext.seq ?_
  refine Cod.block ?_
  refine Cod.loop (fun g : Nat × Nat × Value => ⟨g.1 ≤ ls.length ∧ g.1 ≤ 50 ∧ (ls.take g.1).flatten.length ≤ g.1 * 3000 ∧ Sl g.2.2, [(0, v), (4, .pointer (some ⟨g.2.1, 0, none⟩)), (5, g.2.2), (6, .int .i64 g.1)], [hashP g.2.1 (HM.new.write (ls.take g.1).flatten), vec g.2.2 5 1 (ls.take g.1).flatten.length (u8s (ls.take g.1).flatten)]⟩) (fun g => ls.length - g.1) (0, hb, .slice none 0 0) ⟨Nat.zero_le _, Nat.zero_le _, Nat.zero_le _, Sl.nil⟩ ⟨rfl, rfl, rfl, rfl, trivial⟩ (by rw [List.take_zero, List.flatten_nil, HM.write_nil HM.new_ok]; exact Ent.vecNil.trans (Ent.take (by repeat' first | exact Takes.nil _ | exact TakeP.here _ | apply TakeP.there | apply Takes.cons))) ?_
  rintro ⟨i, hb, av⟩ ⟨hi, h50, hfl, hav⟩
  dsimp only
  refine Cod.seq ?_
  refine Cod.seq ?_
  refine Cod.region ?_
  dsimp only at hi h50 hfl hav
  refine Ops.st (.move rfl) rfl rfl rfl ?_
  refine Ops.st (.move rfl) rfl rfl rfl ?_
  refine Ops.st (.len rfl (Rd.ro hr) Tryd.runUnderlying41) rfl rfl rfl ?_
  refine Ops.st (.lss rfl rfl) rfl rfl rfl ?_
  refine Ops.st (.move rfl) rfl rfl rfl ?_
  refine Ops.splitD (t := 22) rfl (fun h1 => ?_) (fun h1 => ?_)
  ·
    refine Ops.stG rfl rfl rfl (decide_eq_true h1) (.move rfl) rfl rfl ?_
    refine Ops.stG rfl rfl rfl (decide_eq_true h1) (.lss rfl rfl) rfl rfl ?_
    refine Ops.st (.pickT rfl (decide_eq_true h1) rfl) rfl rfl rfl ?_
    refine Ops.nil ?_
    refine Ext.seq ?_
    refine Cod.condD rfl (fun h2 => ?_) (fun h2 => ?_)
    ·
      refine Cod.skip ?_
      refine Ext.seq ?_
      refine Cod.seq ?_
      refine Cod.block ?_
      refine Cod.seq ?_
      refine Cod.seq ?_
      refine Cod.region ?_
      obtain ⟨c, hc⟩ : ∃ c, ls[i]? = some c := ⟨ls[i]'(by omega), List.getElem?_eq_getElem (by omega)⟩
      obtain ⟨cv, hcv, hsc⟩ := hrow.get hc
      refine Ops.st (.move rfl) rfl rfl rfl ?_
      refine Ops.st (.move rfl) rfl rfl rfl ?_
      refine Ops.st (.indexAddr (j := i) (off := i) rfl rfl (Rd.ro hr) Tryd.runUnderlying41 Tryd.sizeOf22 rfl (by omega) (by omega)) rfl rfl rfl ?_
      refine Ops.st (.load_elem rfl (Rd.ro hr) Tryd.isAgg22 hcv) rfl rfl rfl ?_
      refine Ops.st (.len rfl (Rd.ro hsc) Tryd.runUnderlying22) rfl rfl rfl ?_
      refine Ops.st (.gtr rfl rfl) rfl rfl rfl ?_
      refine Ops.nil ?_
      refine Ext.seq ?_
      refine Cod.condD rfl (fun h3 => ?_) (fun h3 => ?_)
      ·
        refine Cod.seq ?_
        refine Cod.region ?_
        refine Ops.st (.assign rfl) rfl rfl rfl ?_
        refine Ops.nil ?_
        refine Ext.seq ?_
        exact Cod.ret (Ext.seqR (Ext.blockR (Ext.seqR (Ext.stopR (Ext.blockR (Ext.seqR (Ext.ret rfl rfl rfl)))))))
      ·
        refine Cod.skip ?_
        refine Ext.seq ?_
        refine Cod.seq ?_
        refine Cod.region ?_
        obtain ⟨w0, hw0⟩ : ∃ w0, w0 = (ls.take i).flatten := ⟨_, rfl⟩
        rw [← hw0] at hfl
        rw [← hw0]
        obtain ⟨w1, hw1⟩ : ∃ w1, w1 = w0 ++ c := ⟨_, rfl⟩
        have hwl : w1.length = w0.length + c.length := by rw [hw1, List.length_append]
        have hft : (ls.take (i + 1)).flatten = w1 := by rw [flat_take hc, hw1, hw0]
        have ok0 := newOk (bs := w0) (by omega)
        have ok := newOk (bs := w1) (by omega)
        have hlong := newLong (bs := w1) (by omega)
        refine Ops.st (.move rfl) rfl rfl rfl ?_
        refine Ops.st (.move rfl) rfl rfl rfl ?_
        refine Ops.st (.move rfl) rfl rfl rfl ?_
        refine Ops.st (.indexAddr (j := i) (off := i) rfl rfl (Rd.ro hr) Tryd.runUnderlying41 Tryd.sizeOf22 rfl (by omega) (by omega)) rfl rfl rfl ?_
        refine Ops.st (.load_elem rfl (Rd.ro hr) Tryd.isAgg22 hcv) rfl rfl rfl ?_
        refine Ops.call ⟨Tryd.call14⟩ rfl rfl rfl (by repeat' first | exact Takes.nil _ | exact TakeP.here _ | apply TakeP.there | apply Takes.cons) (fun F' hF => shaWrite_any (m := HM.new.write w0) (bs := c) ok0 (tab.mono hF.hf) (hsc.mono hF.hf) (by rw [new_write_long]; omega)) rfl rfl rfl ?_
        rintro _ _ rfl
        refine Ops.nil ?_
        refine Ext.seq ?_
        refine Cod.seq ?_
        rw [HM.write_write, ← hw1]
        refine Cod.region ?_
        refine Ops.st (.move rfl) rfl rfl rfl ?_
        refine Ops.st (.move rfl) rfl rfl rfl ?_
        refine Ops.st (.move rfl) rfl rfl rfl ?_
        refine Ops.st (.indexAddr (j := i) (off := i) rfl rfl (Rd.ro hr) Tryd.runUnderlying41 Tryd.sizeOf22 rfl (by omega) (by omega)) rfl rfl rfl ?_
        refine Ops.st (.load_elem rfl (Rd.ro hr) Tryd.isAgg22 hcv) rfl rfl rfl ?_
        refine Ops.ef (.append (v := av) rfl rfl (by repeat first | exact TakeP.here _ | apply TakeP.there) (Rd.ro hsc) ei22 (by omega) (by simp only [maxLen]; omega)) rfl rfl rfl ?_
        rintro nv _ ⟨hnv, rfl⟩
        refine Ops.st (.assign rfl) rfl rfl rfl ?_
        refine Ops.nil ?_
        refine Ext.seq ?_
        refine Cod.seq ?_
        rw [← u8s_app, ← hw1, ← hwl]
        refine Cod.region ?_
        refine Ops.st (.move rfl) rfl rfl rfl ?_
        refine Ops.call ⟨Tryd.call16⟩ rfl rfl rfl (by repeat' first | exact Takes.nil _ | exact TakeP.here _ | apply TakeP.there | apply Takes.cons) (fun F' hF => shaSave_any (m := HM.new.write w1) ok (hF.hash (m := HM.new.write w1) (by repeat first | exact TakeP.here _ | apply TakeP.there))) rfl rfl rfl ?_
        rintro sv _ ⟨hsv, rfl⟩
        refine Ops.st (.assign rfl) rfl rfl rfl ?_
        refine Ops.nil ?_
        refine Ext.seq ?_
        refine Cod.seq ?_
        refine Cod.region ?_
        refine Ops.st (.move rfl) rfl rfl rfl ?_
        refine Ops.call ⟨Tryd.call18⟩ rfl rfl rfl (by repeat' first | exact Takes.nil _ | exact TakeP.here _ | apply TakeP.there | apply Takes.cons) (fun F' hF => shaLoad_yes (bs := (HM.new.write w1).save) ((Rd.vec (v := sv) (by repeat first | exact TakeP.here _ | apply TakeP.there)).wider hF) (isSave_save ok (by omega))) rfl rfl rfl ?_
        rintro _ _ ⟨xb, rfl, rfl⟩
        refine Ops.st (.move rfl) rfl rfl rfl ?_
        refine Ops.st (.extract rfl rfl) rfl rfl rfl ?_
        refine Ops.st (.extract rfl rfl) rfl rfl rfl ?_
        refine Ops.st (.assign rfl) rfl rfl rfl ?_
        refine Ops.st (.assign rfl) rfl rfl rfl ?_
        refine Ops.nil ?_
        refine Ext.seq ?_
        refine Cod.seq ?_
        refine Cod.seq ?_
        rw [load_save ok]
        refine Cod.regionA mixed (by kernel_rfl) (listed := #[false, false, false, false, false, false, false, false, false, false, false, false, false, false, false, false, false, false, false, false, false, false, false, false, false, false, false, false]) ?_
        refine As.take 0 rfl (by kernel_rfl) (by kernel_rfl) (by kernel_rfl) rfl rfl rfl (fun F hs => .move rfl) (by kernel_rfl) (listed' := #[true, false, false, false, false, false, false, false, false, false, false, false, false, false, false, false, false, false, false, false, false, false, false, false, false, false, false, false]) ?_
        refine As.take 1 rfl (by kernel_rfl) (by kernel_rfl) (by kernel_rfl) rfl rfl rfl (fun F hs => .neq rfl rfl) (by kernel_rfl) (listed' := #[true, true, false, false, false, false, false, false, false, false, false, false, false, false, false, false, false, false, false, false, false, false, false, false, false, false, false, false]) ?_
        refine As.take 2 rfl (by kernel_rfl) (by kernel_rfl) (by kernel_rfl) rfl rfl rfl (fun F hs => .move rfl) (by kernel_rfl) (listed' := #[true, true, true, false, false, false, false, false, false, false, false, false, false, false, false, false, false, false, false, false, false, false, false, false, false, false, false, false]) ?_
        refine As.takeG 3 rfl (by kernel_rfl) (by kernel_rfl) (by kernel_rfl) rfl rfl rfl rfl rfl rfl (fun F hs => .move rfl) (by kernel_rfl) (listed' := #[true, true, true, true, false, false, false, false, false, false, false, false, false, false, false, false, false, false, false, false, false, false, false, false, false, false, false, false]) ?_
        refine As.takeG 4 rfl (by kernel_rfl) (by kernel_rfl) (by kernel_rfl) rfl rfl rfl rfl rfl rfl (fun F hs => .eqPN rfl rfl Tryd.underlying28) (by kernel_rfl) (listed' := #[true, true, true, true, true, false, false, false, false, false, false, false, false, false, false, false, false, false, false, false, false, false, false, false, false, false, false, false]) ?_
        refine As.take 5 rfl (by kernel_rfl) (by kernel_rfl) (by kernel_rfl) rfl rfl rfl (fun F hs => .pickF rfl rfl rfl) (by kernel_rfl) (listed' := #[true, true, true, true, true, true, false, false, false, false, false, false, false, false, false, false, false, false, false, false, false, false, false, false, false, false, false, false]) ?_
        refine As.take 6 rfl (by kernel_rfl) (by kernel_rfl) (by kernel_rfl) rfl rfl rfl (fun F hs => .move rfl) (by kernel_rfl) (listed' := #[true, true, true, true, true, true, true, false, false, false, false, false, false, false, false, false, false, false, false, false, false, false, false, false, false, false, false, false]) ?_
        refine As.takeG 7 rfl (by kernel_rfl) (by kernel_rfl) (by kernel_rfl) rfl rfl rfl rfl rfl rfl (fun F hs => .move rfl) (by kernel_rfl) (listed' := #[true, true, true, true, true, true, true, true, false, false, false, false, false, false, false, false, false, false, false, false, false, false, false, false, false, false, false, false]) ?_
        refine As.takeG 9 rfl (by kernel_rfl) (by kernel_rfl) (by kernel_rfl) rfl rfl rfl rfl rfl rfl (fun F hs => .move rfl) (by kernel_rfl) (listed' := #[true, true, true, true, true, true, true, true, false, true, false, false, false, false, false, false, false, false, false, false, false, false, false, false, false, false, false, false]) ?_
        refine As.two (i := 8) (j := 10) (by kernel_rfl) ?_ ?_
        ·
          refine Ao.stG rfl rfl rfl rfl rfl (.toStr rfl (Rd.vec (v := sv) (by repeat first | exact TakeP.here _ | apply TakeP.there)) Tryd.underlying22 Tryd.underlying5 Tryd.underlying9) rfl rfl (by kernel_rfl) (listed' := #[true, true, true, true, true, true, true, true, true, true, false, false, false, false, false, false, false, false, false, false, false, false, false, false, false, false, false, false]) ?_
          refine As.one (i := 10) (by kernel_rfl) ?_
          refine Ao.callG rfl rfl rfl rfl rfl ⟨Tryd.call17⟩ rfl rfl rfl (by repeat' first | exact Takes.nil _ | exact TakeP.here _ | apply TakeP.there | apply Takes.cons) (fun F' hF => refSave_any (bs := w1) ((Rd.vec (v := nv) (by repeat first | exact TakeP.here _ | apply TakeP.there)).wider hF) (by omega)) rfl rfl (by kernel_rfl) (listed' := #[true, true, true, true, true, true, true, true, true, true, true, false, false, false, false, false, false, false, false, false, false, false, false, false, false, false, false, false]) ?_
          rintro rv _ ⟨hrv, rfl⟩
          refine As.quiet [11, 12, 13, 14, 15, 16, 17, 18, 19, 20, 21, 22, 23, 24, 25, 26, 27] 17 0 rfl ?_
          refine Aq.stG (i := 11) ⟨rfl, by kernel_rfl, by kernel_rfl, by kernel_rfl, by kernel_rfl, by kernel_rfl⟩ rfl rfl rfl rfl (.toStr rfl (Rd.vec (v := rv) (by repeat first | exact TakeP.here _ | apply TakeP.there)) Tryd.underlying22 Tryd.underlying5 Tryd.underlying9) rfl rfl (by kernel_rfl) (listed' := #[true, true, true, true, true, true, true, true, true, true, true, true, false, false, false, false, false, false, false, false, false, false, false, false, false, false, false, false]) ?_
          refine Aq.stG (i := 12) ⟨rfl, by kernel_rfl, by kernel_rfl, by kernel_rfl, by kernel_rfl, by kernel_rfl⟩ rfl rfl rfl rfl (.neStr rfl rfl) rfl rfl (by kernel_rfl) (listed' := #[true, true, true, true, true, true, true, true, true, true, true, true, true, false, false, false, false, false, false, false, false, false, false, false, false, false, false, false]) ?_
          refine Aq.st (i := 13) ⟨rfl, by kernel_rfl, by kernel_rfl, by kernel_rfl, by kernel_rfl, by kernel_rfl⟩ (.pickF rfl rfl rfl) rfl rfl rfl (by kernel_rfl) (listed' := #[true, true, true, true, true, true, true, true, true, true, true, true, true, true, false, false, false, false, false, false, false, false, false, false, false, false, false, false]) ?_
          refine Aq.st (i := 14) ⟨rfl, by kernel_rfl, by kernel_rfl, by kernel_rfl, by kernel_rfl, by kernel_rfl⟩ (.move rfl) rfl rfl rfl (by kernel_rfl) (listed' := #[true, true, true, true, true, true, true, true, true, true, true, true, true, true, true, false, false, false, false, false, false, false, false, false, false, false, false, false]) ?_
          refine Aq.stG (i := 15) ⟨rfl, by kernel_rfl, by kernel_rfl, by kernel_rfl, by kernel_rfl, by kernel_rfl⟩ rfl rfl rfl (by simp) (.move rfl) rfl rfl (by kernel_rfl) (listed' := #[true, true, true, true, true, true, true, true, true, true, true, true, true, true, true, true, false, false, false, false, false, false, false, false, false, false, false, false]) ?_
          refine Aq.callG (i := 16) ⟨rfl, by kernel_rfl, by kernel_rfl, by kernel_rfl, by kernel_rfl, by kernel_rfl⟩ rfl rfl rfl (by simp) ⟨Tryd.call21⟩ rfl rfl rfl (by repeat' first | exact Takes.nil _ | exact TakeP.here _ | apply TakeP.there | apply Takes.cons) (fun F' hF => Spec.quiet (shaLen_any (m := HM.new.write w1) ok.st (hF.hash (b := hb) (m := HM.new.write w1) (by repeat first | exact TakeP.here _ | apply TakeP.there)))) rfl rfl (by kernel_rfl) (listed' := #[true, true, true, true, true, true, true, true, true, true, true, true, true, true, true, true, true, false, false, false, false, false, false, false, false, false, false, false]) ?_
          refine Aq.stG (i := 17) ⟨rfl, by kernel_rfl, by kernel_rfl, by kernel_rfl, by kernel_rfl, by kernel_rfl⟩ rfl rfl rfl (by simp) (.move rfl) rfl rfl (by kernel_rfl) (listed' := #[true, true, true, true, true, true, true, true, true, true, true, true, true, true, true, true, true, true, false, false, false, false, false, false, false, false, false, false]) ?_
          refine Aq.stG (i := 18) ⟨rfl, by kernel_rfl, by kernel_rfl, by kernel_rfl, by kernel_rfl, by kernel_rfl⟩ rfl rfl rfl (by simp) (.len rfl (Rd.vec (v := nv) (by repeat first | exact TakeP.here _ | apply TakeP.there)) Tryd.runUnderlying22) rfl rfl (by kernel_rfl) (listed' := #[true, true, true, true, true, true, true, true, true, true, true, true, true, true, true, true, true, true, true, false, false, false, false, false, false, false, false, false]) ?_
          refine Aq.stG (i := 19) ⟨rfl, by kernel_rfl, by kernel_rfl, by kernel_rfl, by kernel_rfl, by kernel_rfl⟩ rfl rfl rfl (by simp) (.neq rfl rfl) rfl rfl (by kernel_rfl) (listed' := #[true, true, true, true, true, true, true, true, true, true, true, true, true, true, true, true, true, true, true, true, false, false, false, false, false, false, false, false]) ?_
          refine Aq.st (i := 20) ⟨rfl, by kernel_rfl, by kernel_rfl, by kernel_rfl, by kernel_rfl, by kernel_rfl⟩ (.pickF rfl (by simp) rfl) rfl rfl rfl (by kernel_rfl) (listed' := #[true, true, true, true, true, true, true, true, true, true, true, true, true, true, true, true, true, true, true, true, true, false, false, false, false, false, false, false]) ?_
          refine Aq.st (i := 21) ⟨rfl, by kernel_rfl, by kernel_rfl, by kernel_rfl, by kernel_rfl, by kernel_rfl⟩ (.move rfl) rfl rfl rfl (by kernel_rfl) (listed' := #[true, true, true, true, true, true, true, true, true, true, true, true, true, true, true, true, true, true, true, true, true, true, false, false, false, false, false, false]) ?_
          refine Aq.stG (i := 22) ⟨rfl, by kernel_rfl, by kernel_rfl, by kernel_rfl, by kernel_rfl, by kernel_rfl⟩ rfl rfl rfl (by rw [new_write_long]; simp) (.move rfl) rfl rfl (by kernel_rfl) (listed' := #[true, true, true, true, true, true, true, true, true, true, true, true, true, true, true, true, true, true, true, true, true, true, true, false, false, false, false, false]) ?_
          refine Aq.callG (i := 23) ⟨rfl, by kernel_rfl, by kernel_rfl, by kernel_rfl, by kernel_rfl, by kernel_rfl⟩ rfl rfl rfl (by rw [new_write_long]; simp) ⟨Tryd.call15⟩ rfl rfl rfl (by repeat' first | exact Takes.nil _ | exact TakeP.here _ | apply TakeP.there | apply Takes.cons) (fun F' hF => Spec.quiet (shaSum_any (m := HM.new.write w1) ok (tab.mono hF.hf) (hF.hash (b := hb) (m := HM.new.write w1) (by repeat first | exact TakeP.here _ | apply TakeP.there)) (by omega))) rfl rfl (by kernel_rfl) (listed' := #[true, true, true, true, true, true, true, true, true, true, true, true, true, true, true, true, true, true, true, true, true, true, true, true, false, false, false, false]) ?_
          refine Aq.stG (i := 24) ⟨rfl, by kernel_rfl, by kernel_rfl, by kernel_rfl, by kernel_rfl, by kernel_rfl⟩ rfl rfl rfl (by rw [new_write_long]; simp) (.move rfl) rfl rfl (by kernel_rfl) (listed' := #[true, true, true, true, true, true, true, true, true, true, true, true, true, true, true, true, true, true, true, true, true, true, true, true, true, false, false, false]) ?_
          refine Aq.callG (i := 25) ⟨rfl, by kernel_rfl, by kernel_rfl, by kernel_rfl, by kernel_rfl, by kernel_rfl⟩ rfl rfl rfl (by rw [new_write_long]; simp) ⟨Tryd.call12⟩ rfl rfl rfl (by repeat' first | exact Takes.nil _ | exact TakeP.here _ | apply TakeP.there | apply Takes.cons) (fun F' hF => Spec.quiet (refSum_any (bs := w1) ((Rd.vec (v := nv) (by repeat first | exact TakeP.here _ | apply TakeP.there)).wider hF) (by omega))) rfl rfl (by kernel_rfl) (listed' := #[true, true, true, true, true, true, true, true, true, true, true, true, true, true, true, true, true, true, true, true, true, true, true, true, true, true, false, false]) ?_
          refine Aq.stG (i := 26) ⟨rfl, by kernel_rfl, by kernel_rfl, by kernel_rfl, by kernel_rfl, by kernel_rfl⟩ rfl rfl rfl (by rw [new_write_long]; simp) (.neA8 rfl rfl Tryd.underlying24 Tryd.underlying5 Tryd.sizeOf5 Tryd.eqGuardType24 (HM.sum_len _) (hashOf_len _)) rfl rfl (by kernel_rfl) (listed' := #[true, true, true, true, true, true, true, true, true, true, true, true, true, true, true, true, true, true, true, true, true, true, true, true, true, true, true, false]) ?_
          refine Aq.st (i := 27) ⟨rfl, by kernel_rfl, by kernel_rfl, by kernel_rfl, by kernel_rfl, by kernel_rfl⟩ (.pickF rfl (by rw [new_write_long]; simp) rfl) rfl rfl rfl (by kernel_rfl) (listed' := #[true, true, true, true, true, true, true, true, true, true, true, true, true, true, true, true, true, true, true, true, true, true, true, true, true, true, true, true]) ?_
          refine Aq.done (by kernel_rfl) ?_
          refine As.done (by kernel_rfl) ?_
          refine Ext.seq ?_
          refine Cod.condF rfl (by simp [hashOf]) ?_
          refine Cod.skip ?_
          refine Ext.seq ?_
          refine Cod.seq ?_
          refine Cod.region ?_
          refine Ops.st (.move rfl) rfl rfl rfl ?_
          refine Ops.st (.rem rfl rfl (by first | omega | decide) rfl) rfl rfl rfl ?_
          refine Ops.st (.eql rfl rfl) rfl rfl rfl ?_
          refine Ops.nil ?_
          refine Ext.seq ?_
          refine Cod.condD rfl (fun h5 => ?_) (fun h5 => ?_)
          ·
            refine Cod.region ?_
            refine Ops.st (.move rfl) rfl rfl rfl ?_
            refine Ops.st (.assign rfl) rfl rfl rfl ?_
            refine Ops.nil ?_
            refine Ext.block ?_
            refine Ext.seq ?_
            refine Cod.region ?_
            refine Ops.st (.move rfl) rfl rfl rfl ?_
            refine Ops.st (.add rfl rfl (by first | exact IntWalk.i64_in _ (by omega) | rfl)) rfl rfl rfl ?_
            refine Ops.st (.assign rfl) rfl rfl rfl ?_
            refine Ops.nil ?_
            exact Ext.back (i + 1, xb, nv) (by dsimp only; omega) ⟨by dsimp only; omega, by dsimp only; omega, by dsimp only; rw [hft]; omega, hnv⟩ ⟨rfl, rfl, rfl, rfl, trivial⟩ (by dsimp only; rw [hft]; exact Ent.take (by repeat' first | exact Takes.nil _ | exact TakeP.here _ | apply TakeP.there | apply Takes.cons))
          ·
            refine Cod.skip ?_
            refine Ext.block ?_
            refine Ext.seq ?_
            refine Cod.region ?_
            refine Ops.st (.move rfl) rfl rfl rfl ?_
            refine Ops.st (.add rfl rfl (by first | exact IntWalk.i64_in _ (by omega) | rfl)) rfl rfl rfl ?_
            refine Ops.st (.assign rfl) rfl rfl rfl ?_
            refine Ops.nil ?_
            exact Ext.back (i + 1, hb, nv) (by dsimp only; omega) ⟨by dsimp only; omega, by dsimp only; omega, by dsimp only; rw [hft]; omega, hnv⟩ ⟨rfl, rfl, rfl, rfl, trivial⟩ (by dsimp only; rw [hft]; exact Ent.take (by repeat' first | exact Takes.nil _ | exact TakeP.here _ | apply TakeP.there | apply Takes.cons))
        ·
          refine Ao.callG rfl rfl rfl rfl rfl ⟨Tryd.call17⟩ rfl rfl rfl (by repeat' first | exact Takes.nil _ | exact TakeP.here _ | apply TakeP.there | apply Takes.cons) (fun F' hF => refSave_any (bs := w1) ((Rd.vec (v := nv) (by repeat first | exact TakeP.here _ | apply TakeP.there)).wider hF) (by omega)) rfl rfl (by kernel_rfl) (listed' := #[true, true, true, true, true, true, true, true, false, true, true, false, false, false, false, false, false, false, false, false, false, false, false, false, false, false, false, false]) ?_
          rintro rv _ ⟨hrv, rfl⟩
          refine As.quiet [8, 11, 12, 13, 14, 15, 16, 17, 18, 19, 20, 21, 22, 23, 24, 25, 26, 27] 18 0 rfl ?_
          refine Aq.stG (i := 8) ⟨rfl, by kernel_rfl, by kernel_rfl, by kernel_rfl, by kernel_rfl, by kernel_rfl⟩ rfl rfl rfl rfl (.toStr rfl (Rd.vec (v := sv) (by repeat first | exact TakeP.here _ | apply TakeP.there)) Tryd.underlying22 Tryd.underlying5 Tryd.underlying9) rfl rfl (by kernel_rfl) (listed' := #[true, true, true, true, true, true, true, true, true, true, true, false, false, false, false, false, false, false, false, false, false, false, false, false, false, false, false, false]) ?_
          refine Aq.stG (i := 11) ⟨rfl, by kernel_rfl, by kernel_rfl, by kernel_rfl, by kernel_rfl, by kernel_rfl⟩ rfl rfl rfl rfl (.toStr rfl (Rd.vec (v := rv) (by repeat first | exact TakeP.here _ | apply TakeP.there)) Tryd.underlying22 Tryd.underlying5 Tryd.underlying9) rfl rfl (by kernel_rfl) (listed' := #[true, true, true, true, true, true, true, true, true, true, true, true, false, false, false, false, false, false, false, false, false, false, false, false, false, false, false, false]) ?_
          refine Aq.stG (i := 12) ⟨rfl, by kernel_rfl, by kernel_rfl, by kernel_rfl, by kernel_rfl, by kernel_rfl⟩ rfl rfl rfl rfl (.neStr rfl rfl) rfl rfl (by kernel_rfl) (listed' := #[true, true, true, true, true, true, true, true, true, true, true, true, true, false, false, false, false, false, false, false, false, false, false, false, false, false, false, false]) ?_
          refine Aq.st (i := 13) ⟨rfl, by kernel_rfl, by kernel_rfl, by kernel_rfl, by kernel_rfl, by kernel_rfl⟩ (.pickF rfl rfl rfl) rfl rfl rfl (by kernel_rfl) (listed' := #[true, true, true, true, true, true, true, true, true, true, true, true, true, true, false, false, false, false, false, false, false, false, false, false, false, false, false, false]) ?_
          refine Aq.st (i := 14) ⟨rfl, by kernel_rfl, by kernel_rfl, by kernel_rfl, by kernel_rfl, by kernel_rfl⟩ (.move rfl) rfl rfl rfl (by kernel_rfl) (listed' := #[true, true, true, true, true, true, true, true, true, true, true, true, true, true, true, false, false, false, false, false, false, false, false, false, false, false, false, false]) ?_
          refine Aq.stG (i := 15) ⟨rfl, by kernel_rfl, by kernel_rfl, by kernel_rfl, by kernel_rfl, by kernel_rfl⟩ rfl rfl rfl (by simp) (.move rfl) rfl rfl (by kernel_rfl) (listed' := #[true, true, true, true, true, true, true, true, true, true, true, true, true, true, true, true, false, false, false, false, false, false, false, false, false, false, false, false]) ?_
          refine Aq.callG (i := 16) ⟨rfl, by kernel_rfl, by kernel_rfl, by kernel_rfl, by kernel_rfl, by kernel_rfl⟩ rfl rfl rfl (by simp) ⟨Tryd.call21⟩ rfl rfl rfl (by repeat' first | exact Takes.nil _ | exact TakeP.here _ | apply TakeP.there | apply Takes.cons) (fun F' hF => Spec.quiet (shaLen_any (m := HM.new.write w1) ok.st (hF.hash (b := hb) (m := HM.new.write w1) (by repeat first | exact TakeP.here _ | apply TakeP.there)))) rfl rfl (by kernel_rfl) (listed' := #[true, true, true, true, true, true, true, true, true, true, true, true, true, true, true, true, true, false, false, false, false, false, false, false, false, false, false, false]) ?_
          refine Aq.stG (i := 17) ⟨rfl, by kernel_rfl, by kernel_rfl, by kernel_rfl, by kernel_rfl, by kernel_rfl⟩ rfl rfl rfl (by simp) (.move rfl) rfl rfl (by kernel_rfl) (listed' := #[true, true, true, true, true, true, true, true, true, true, true, true, true, true, true, true, true, true, false, false, false, false, false, false, false, false, false, false]) ?_
          refine Aq.stG (i := 18) ⟨rfl, by kernel_rfl, by kernel_rfl, by kernel_rfl, by kernel_rfl, by kernel_rfl⟩ rfl rfl rfl (by simp) (.len rfl (Rd.vec (v := nv) (by repeat first | exact TakeP.here _ | apply TakeP.there)) Tryd.runUnderlying22) rfl rfl (by kernel_rfl) (listed' := #[true, true, true, true, true, true, true, true, true, true, true, true, true, true, true, true, true, true, true, false, false, false, false, false, false, false, false, false]) ?_
          refine Aq.stG (i := 19) ⟨rfl, by kernel_rfl, by kernel_rfl, by kernel_rfl, by kernel_rfl, by kernel_rfl⟩ rfl rfl rfl (by simp) (.neq rfl rfl) rfl rfl (by kernel_rfl) (listed' := #[true, true, true, true, true, true, true, true, true, true, true, true, true, true, true, true, true, true, true, true, false, false, false, false, false, false, false, false]) ?_
          refine Aq.st (i := 20) ⟨rfl, by kernel_rfl, by kernel_rfl, by kernel_rfl, by kernel_rfl, by kernel_rfl⟩ (.pickF rfl (by simp) rfl) rfl rfl rfl (by kernel_rfl) (listed' := #[true, true, true, true, true, true, true, true, true, true, true, true, true, true, true, true, true, true, true, true, true, false, false, false, false, false, false, false]) ?_
          refine Aq.st (i := 21) ⟨rfl, by kernel_rfl, by kernel_rfl, by kernel_rfl, by kernel_rfl, by kernel_rfl⟩ (.move rfl) rfl rfl rfl (by kernel_rfl) (listed' := #[true, true, true, true, true, true, true, true, true, true, true, true, true, true, true, true, true, true, true, true, true, true, false, false, false, false, false, false]) ?_
          refine Aq.stG (i := 22) ⟨rfl, by kernel_rfl, by kernel_rfl, by kernel_rfl, by kernel_rfl, by kernel_rfl⟩ rfl rfl rfl (by rw [new_write_long]; simp) (.move rfl) rfl rfl (by kernel_rfl) (listed' := #[true, true, true, true, true, true, true, true, true, true, true, true, true, true, true, true, true, true, true, true, true, true, true, false, false, false, false, false]) ?_
          refine Aq.callG (i := 23) ⟨rfl, by kernel_rfl, by kernel_rfl, by kernel_rfl, by kernel_rfl, by kernel_rfl⟩ rfl rfl rfl (by rw [new_write_long]; simp) ⟨Tryd.call15⟩ rfl rfl rfl (by repeat' first | exact Takes.nil _ | exact TakeP.here _ | apply TakeP.there | apply Takes.cons) (fun F' hF => Spec.quiet (shaSum_any (m := HM.new.write w1) ok (tab.mono hF.hf) (hF.hash (b := hb) (m := HM.new.write w1) (by repeat first | exact TakeP.here _ | apply TakeP.there)) (by omega))) rfl rfl (by kernel_rfl) (listed' := #[true, true, true, true, true, true, true, true, true, true, true, true, true, true, true, true, true, true, true, true, true, true, true, true, false, false, false, false]) ?_
          refine Aq.stG (i := 24) ⟨rfl, by kernel_rfl, by kernel_rfl, by kernel_rfl, by kernel_rfl, by kernel_rfl⟩ rfl rfl rfl (by rw [new_write_long]; simp) (.move rfl) rfl rfl (by kernel_rfl) (listed' := #[true, true, true, true, true, true, true, true, true, true, true, true, true, true, true, true, true, true, true, true, true, true, true, true, true, false, false, false]) ?_
          refine Aq.callG (i := 25) ⟨rfl, by kernel_rfl, by kernel_rfl, by kernel_rfl, by kernel_rfl, by kernel_rfl⟩ rfl rfl rfl (by rw [new_write_long]; simp) ⟨Tryd.call12⟩ rfl rfl rfl (by repeat' first | exact Takes.nil _ | exact TakeP.here _ | apply TakeP.there | apply Takes.cons) (fun F' hF => Spec.quiet (refSum_any (bs := w1) ((Rd.vec (v := nv) (by repeat first | exact TakeP.here _ | apply TakeP.there)).wider hF) (by omega))) rfl rfl (by kernel_rfl) (listed' := #[true, true, true, true, true, true, true, true, true, true, true, true, true, true, true, true, true, true, true, true, true, true, true, true, true, true, false, false]) ?_
          refine Aq.stG (i := 26) ⟨rfl, by kernel_rfl, by kernel_rfl, by kernel_rfl, by kernel_rfl, by kernel_rfl⟩ rfl rfl rfl (by rw [new_write_long]; simp) (.neA8 rfl rfl Tryd.underlying24 Tryd.underlying5 Tryd.sizeOf5 Tryd.eqGuardType24 (HM.sum_len _) (hashOf_len _)) rfl rfl (by kernel_rfl) (listed' := #[true, true, true, true, true, true, true, true, true, true, true, true, true, true, true, true, true, true, true, true, true, true, true, true, true, true, true, false]) ?_
          refine Aq.st (i := 27) ⟨rfl, by kernel_rfl, by kernel_rfl, by kernel_rfl, by kernel_rfl, by kernel_rfl⟩ (.pickF rfl (by rw [new_write_long]; simp) rfl) rfl rfl rfl (by kernel_rfl) (listed' := #[true, true, true, true, true, true, true, true, true, true, true, true, true, true, true, true, true, true, true, true, true, true, true, true, true, true, true, true]) ?_
          refine Aq.done (by kernel_rfl) ?_
          refine As.done (by kernel_rfl) ?_
          refine Ext.seq ?_
          refine Cod.condF rfl (by simp [hashOf]) ?_
          refine Cod.skip ?_
          refine Ext.seq ?_
          refine Cod.seq ?_
          refine Cod.region ?_
          refine Ops.st (.move rfl) rfl rfl rfl ?_
          refine Ops.st (.rem rfl rfl (by first | omega | decide) rfl) rfl rfl rfl ?_
          refine Ops.st (.eql rfl rfl) rfl rfl rfl ?_
          refine Ops.nil ?_
          refine Ext.seq ?_
          refine Cod.condD rfl (fun h5 => ?_) (fun h5 => ?_)
          ·
            refine Cod.region ?_
            refine Ops.st (.move rfl) rfl rfl rfl ?_
            refine Ops.st (.assign rfl) rfl rfl rfl ?_
            refine Ops.nil ?_
            refine Ext.block ?_
            refine Ext.seq ?_
            refine Cod.region ?_
            refine Ops.st (.move rfl) rfl rfl rfl ?_
            refine Ops.st (.add rfl rfl (by first | exact IntWalk.i64_in _ (by omega) | rfl)) rfl rfl rfl ?_
            refine Ops.st (.assign rfl) rfl rfl rfl ?_
            refine Ops.nil ?_
            exact Ext.back (i + 1, xb, nv) (by dsimp only; omega) ⟨by dsimp only; omega, by dsimp only; omega, by dsimp only; rw [hft]; omega, hnv⟩ ⟨rfl, rfl, rfl, rfl, trivial⟩ (by dsimp only; rw [hft]; exact Ent.take (by repeat' first | exact Takes.nil _ | exact TakeP.here _ | apply TakeP.there | apply Takes.cons))
          ·
            refine Cod.skip ?_
            refine Ext.block ?_
            refine Ext.seq ?_
            refine Cod.region ?_
            refine Ops.st (.move rfl) rfl rfl rfl ?_
            refine Ops.st (.add rfl rfl (by first | exact IntWalk.i64_in _ (by omega) | rfl)) rfl rfl rfl ?_
            refine Ops.st (.assign rfl) rfl rfl rfl ?_
            refine Ops.nil ?_
            exact Ext.back (i + 1, hb, nv) (by dsimp only; omega) ⟨by dsimp only; omega, by dsimp only; omega, by dsimp only; rw [hft]; omega, hnv⟩ ⟨rfl, rfl, rfl, rfl, trivial⟩ (by dsimp only; rw [hft]; exact Ent.take (by repeat' first | exact Takes.nil _ | exact TakeP.here _ | apply TakeP.there | apply Takes.cons))
    ·
      refine Cod.exit (Ext.seqX (Ext.stopX (Ext.hit ?_)))
      refine Ext.seq ?_
      refine Cod.seq ?_
      obtain ⟨w0, hw0⟩ : ∃ w0, w0 = (ls.take i).flatten := ⟨_, rfl⟩
      rw [← hw0] at hfl
      rw [← hw0]
      refine Cod.region ?_
      refine Ops.st (.move rfl) rfl rfl rfl ?_
      refine Ops.call ⟨Tryd.call15⟩ rfl rfl rfl (by repeat' first | exact Takes.nil _ | exact TakeP.here _ | apply TakeP.there | apply Takes.cons) (fun F' hF => shaSum_any (m := HM.new.write w0) (newOk (by omega)) (tab.mono hF.hf) (hF.hash (m := HM.new.write w0) (by repeat first | exact TakeP.here _ | apply TakeP.there)) (by rw [new_write_long]; omega)) rfl rfl rfl ?_
      rintro _ _ ⟨rfl, rfl⟩
      refine Ops.st (.move rfl) rfl rfl rfl ?_
      refine Ops.call ⟨Tryd.call11⟩ rfl rfl rfl (by repeat' first | exact Takes.nil _ | exact TakeP.here _ | apply TakeP.there | apply Takes.cons) (fun F' hF => shaSum1_any (bs := w0) (tab.mono hF.hf) ((Rd.vec (v := av) (by repeat first | exact TakeP.here _ | apply TakeP.there)).wider hF) (by omega)) rfl rfl rfl ?_
      rintro _ _ ⟨rfl, rfl⟩
      refine Ops.st (.eqA8 rfl rfl Tryd.underlying24 Tryd.underlying5 Tryd.sizeOf5 Tryd.eqGuardType24 (HM.sum_len _) (hashOf_len _)) rfl rfl rfl ?_
      refine Ops.st (.assign rfl) rfl rfl rfl ?_
      refine Ops.nil ?_
      refine Ext.seq ?_
      exact Cod.ret (Ext.ret rfl rfl (by simp [hashOf]))
  ·
    refine Ops.skipG rfl rfl rfl (decide_eq_false h1) rfl rfl ?_
    refine Ops.skipG rfl rfl rfl (decide_eq_false h1) rfl rfl ?_
    refine Ops.st (.pickF rfl (decide_eq_false h1) rfl) rfl rfl rfl ?_
    refine Ops.nil ?_
    refine Ext.seq ?_
    refine Cod.condF rfl rfl ?_
    refine Cod.exit (Ext.seqX (Ext.stopX (Ext.hit ?_)))
    refine Ext.seq ?_
    refine Cod.seq ?_
    obtain ⟨w0, hw0⟩ : ∃ w0, w0 = (ls.take i).flatten := ⟨_, rfl⟩
    rw [← hw0] at hfl
    rw [← hw0]
    refine Cod.region ?_
    refine Ops.st (.move rfl) rfl rfl rfl ?_
    refine Ops.call ⟨Tryd.call15⟩ rfl rfl rfl (by repeat' first | exact Takes.nil _ | exact TakeP.here _ | apply TakeP.there | apply Takes.cons) (fun F' hF => shaSum_any (m := HM.new.write w0) (newOk (by omega)) (tab.mono hF.hf) (hF.hash (m := HM.new.write w0) (by repeat first | exact TakeP.here _ | apply TakeP.there)) (by rw [new_write_long]; omega)) rfl rfl rfl ?_
    rintro _ _ ⟨rfl, rfl⟩
    refine Ops.st (.move rfl) rfl rfl rfl ?_
    refine Ops.call ⟨Tryd.call11⟩ rfl rfl rfl (by repeat' first | exact Takes.nil _ | exact TakeP.here _ | apply TakeP.there | apply Takes.cons) (fun F' hF => shaSum1_any (bs := w0) (tab.mono hF.hf) ((Rd.vec (v := av) (by repeat first | exact TakeP.here _ | apply TakeP.there)).wider hF) (by omega)) rfl rfl rfl ?_
    rintro _ _ ⟨rfl, rfl⟩
    refine Ops.st (.eqA8 rfl rfl Tryd.underlying24 Tryd.underlying5 Tryd.sizeOf5 Tryd.eqGuardType24 (HM.sum_len _) (hashOf_len _)) rfl rfl rfl ?_
    refine Ops.st (.assign rfl) rfl rfl rfl ?_
    refine Ops.nil ?_
    refine Ext.seq ?_
    exact Cod.ret (Ext.ret rfl rfl (by simp [hashOf]))
end Go.Proofs.YtdnbnfebapofnaaDoor
