/- The statements on the hash, walked. No condition. -/
import Derived.Test.YtdnbnfebapofnaaDoorSJ
import Derived.Test.YtdnbnfebapofnaaDoorSX
namespace Go.Proofs.YtdnbnfebapofnaaDoor
open Go

theorem newOk {bs : List UInt8} (h : bs.length ≤ 1000000000) : (HM.new.write bs).Ok := HM.new_ok.write (by simp [HM.new]; omega)
theorem newLong {bs : List UInt8} (h : bs.length ≤ 1000000000) : (HM.new.write bs).long ≤ 1000000000 := by rw [new_write_long]; exact h
theorem shaSum1_any {F : Fr} {v : Value} {bs : List UInt8} (tab : Tab F) (hr : SlR F.hf v 1 bs.length (u8s bs)) (hl : bs.length ≤ 1000000000) :
    Spec Tryd.prog F 11 [v] [] (fun u hs' => u = .agg (u8s (hashOf bs)).toArray ∧ hs' = []) := by
  have ok := newOk hl
  have hlong := newLong hl
  refine Spec.body Tryd.func11 rfl Tryd.ntmps11 rfl ?_
  refine Cod.seq ?_
  refine Cod.region ?_
  refine Ops.ef (.alloc (cs := List.replicate 32 (Value.int .u8 0)) Tryd.zeroValue24 (by kernel_rfl)) rfl rfl rfl ?_
  rintro _ _ ⟨rb, rfl, rfl⟩
  refine Ops.nil ?_
  refine Ext.seq ?_
  refine Cod.seq ?_
  refine Cod.region ?_
  refine Ops.call ⟨Tryd.call13⟩ rfl rfl rfl (by repeat' first | exact Takes.nil _ | exact TakeP.here _ | apply TakeP.there | apply Takes.cons) (fun F' hF => shaNew_any) rfl rfl rfl ?_
  rintro _ _ ⟨hb, rfl, rfl⟩
  refine Ops.st (.assign rfl) rfl rfl rfl ?_
  refine Ops.nil ?_
  refine Ext.seq ?_
  refine Cod.seq ?_
  refine Cod.region ?_
  refine Ops.st (.move rfl) rfl rfl rfl ?_
  refine Ops.st (.move rfl) rfl rfl rfl ?_
  refine Ops.call ⟨Tryd.call14⟩ rfl rfl rfl (by repeat' first | exact Takes.nil _ | exact TakeP.here _ | apply TakeP.there | apply Takes.cons) (fun F' hF => shaWrite_any (m := HM.new) (bs := bs) HM.new_ok (tab.mono hF.hf) (hr.mono hF.hf) (by simp [HM.new]; omega)) rfl rfl rfl ?_
  rintro _ _ rfl
  refine Ops.nil ?_
  refine Ext.seq ?_
  refine Cod.seq ?_
  refine Cod.region ?_
  refine Ops.st (.move rfl) rfl rfl rfl ?_
  refine Ops.call ⟨Tryd.call15⟩ rfl rfl rfl (by repeat' first | exact Takes.nil _ | exact TakeP.here _ | apply TakeP.there | apply Takes.cons) (fun F' hF => shaSum_any (m := HM.new.write bs) ok (tab.mono hF.hf) (hF.hash (m := HM.new.write bs) (by repeat first | exact TakeP.here _ | apply TakeP.there)) (by omega)) rfl rfl rfl ?_
  rintro _ _ ⟨rfl, rfl⟩
  have hlen : (u8s (hashOf bs)).length = 32 := by rw [u8s_len, hashOf_len]
  refine Ops.ef10 (.storeA (vs := u8s (hashOf bs)) (cs' := u8s (hashOf bs)) rfl rfl (by repeat first | exact TakeP.here _ | apply TakeP.there) Tryd.sizeOf24 (by rw [u8s_len, hashOf_len]) (by simp) (u8s_one _) (whole (by simp))) rfl rfl ?_
  refine Ops.nil ?_
  refine Ext.seq ?_
  exact Cod.ret (Ext.retCE rfl rfl (by repeat first | exact TakeP.here _ | apply TakeP.there) Tryd.isAgg24 Tryd.sizeOf24 (by first | rfl | assumption) (Ent.nil _) (⟨rfl, rfl⟩))

theorem shaAwake_any {F : Fr} (tab : Tab F) : Spec Tryd.prog F 10 [] [] (fun u hs' => u = .bool true ∧ hs' = []) := by
  refine Spec.body Tryd.func10 rfl Tryd.ntmps10 rfl ?_
  refine Cod.seq ?_
  refine Cod.region ?_
  refine Ops.st (.assign rfl) rfl rfl rfl ?_
  refine Ops.nil ?_
  refine Ext.seq ?_
  refine Cod.seq ?_
  refine Cod.region ?_
  refine Ops.ef (.lit1 ei22 rfl rfl rfl (by repeat' first | exact One.nil | apply One.cons rfl | (apply One.cons (Sl.one (by assumption))))) rfl rfl rfl ?_
  rintro lv _ ⟨hlv, rfl⟩
  rw [show [Value.int .u8 97, Value.int .u8 98, Value.int .u8 99] = u8s [97, 98, 99] from rfl]
  refine Ops.ef1 (.mark (v := lv) rfl (by repeat first | exact TakeP.here _ | apply TakeP.there) (by decide) Tryd.underlying22 Tryd.underlying5) rfl rfl rfl ?_
  refine Ops.call ⟨Tryd.call11⟩ rfl rfl rfl (by repeat' first | exact Takes.nil _ | exact TakeP.here _ | apply TakeP.there | apply Takes.cons) (fun F' hF => shaSum1_any (bs := [97, 98, 99]) (tab.mono hF.hf) ((Rd.slp (v := lv) (by repeat first | exact TakeP.here _ | apply TakeP.there)).wider hF) (by decide)) rfl rfl rfl ?_
  rintro _ _ ⟨rfl, rfl⟩
  refine Ops.ef (.alloc (cs := List.replicate 32 (Value.int .u8 0)) Tryd.zeroValue24 (by kernel_rfl)) rfl rfl rfl ?_
  rintro _ _ ⟨sb, rfl, rfl⟩
  refine Ops.ef10 (.storeA (vs := u8s (hashOf [97, 98, 99])) (cs' := u8s (hashOf [97, 98, 99])) rfl rfl (by repeat first | exact TakeP.here _ | apply TakeP.there) Tryd.sizeOf24 (by rw [u8s_len, hashOf_len]) (by simp) (u8s_one _) (whole (by simp))) rfl rfl ?_
  refine Ops.nil ?_
  refine Ext.seq ?_
  refine Cod.seq ?_
  rw [abc_hash]
  refine Cod.region ?_
  refine Ops.st (.indexAddrA (j := 0) rfl rfl Tryd.runUnderlying24 Tryd.sizeOf5 rfl (by decide) rfl) rfl rfl rfl ?_
  refine Ops.st (.loadP rfl (by repeat first | exact TakeP.here _ | apply TakeP.there) Tryd.isAgg5 rfl) rfl rfl rfl ?_
  refine Ops.st (.eqlW8 rfl (show _ = some (W8 186) from rfl)) rfl rfl rfl ?_
  refine Ops.st (.move rfl) rfl rfl rfl ?_
  refine Ops.stG rfl rfl rfl rfl (.indexAddrA (j := 31) rfl rfl Tryd.runUnderlying24 Tryd.sizeOf5 rfl (by decide) rfl) rfl rfl ?_
  refine Ops.stG rfl rfl rfl rfl (.loadP rfl (by repeat first | exact TakeP.here _ | apply TakeP.there) Tryd.isAgg5 rfl) rfl rfl ?_
  refine Ops.stG rfl rfl rfl rfl (.eqlW8 rfl (show _ = some (W8 173) from rfl)) rfl rfl ?_
  refine Ops.st (.pickT rfl rfl rfl) rfl rfl rfl ?_
  refine Ops.st (.assign rfl) rfl rfl rfl ?_
  refine Ops.nil ?_
  refine Ext.seq ?_
  exact Cod.ret (Ext.retE rfl rfl (Ent.nil _) (⟨rfl, rfl⟩))

theorem shaSums_any {F : Fr} {v : Value} {bs : List UInt8} (tab : Tab F) (hr : SlR F.hf v 1 bs.length (u8s bs)) : Spec Tryd.prog F 3 [v] [] (fun u _ => u = .bool true) := by
  refine Spec.body Tryd.func3 rfl Tryd.ntmps3 rfl ?_
  refine Cod.seq ?_
  refine Cod.region ?_
  refine Ops.st (.assign rfl) rfl rfl rfl ?_
  refine Ops.nil ?_
  refine Ext.seq ?_
  refine Cod.seq ?_
  refine Cod.region ?_
  refine Ops.call ⟨Tryd.call10⟩ rfl rfl rfl (by repeat' first | exact Takes.nil _ | exact TakeP.here _ | apply TakeP.there | apply Takes.cons) (fun F' hF => shaAwake_any (tab.mono hF.hf)) rfl rfl rfl ?_
  rintro _ _ ⟨rfl, rfl⟩
  refine Ops.st (.assign rfl) rfl rfl rfl ?_
  refine Ops.nil ?_
  refine Ext.seq ?_
  refine Cod.seq ?_
  refine Cod.seq ?_
  refine Cod.region ?_
  refine Ops.st (.move rfl) rfl rfl rfl ?_
  refine Ops.st (.len rfl (Rd.ro hr) Tryd.runUnderlying22) rfl rfl rfl ?_
  refine Ops.st (.gtr rfl rfl) rfl rfl rfl ?_
  refine Ops.nil ?_
  refine Ext.seq ?_
  refine Cod.condD rfl (fun h1 => ?_) (fun h1 => ?_)
  ·
    refine Cod.seq ?_
    refine Cod.region ?_
    refine Ops.st (.move rfl) rfl rfl rfl ?_
    refine Ops.st (.assign rfl) rfl rfl rfl ?_
    refine Ops.nil ?_
    refine Ext.seq ?_
    exact Cod.ret (Ext.seqR (Ext.ret rfl rfl rfl))
  ·
    refine Cod.skip ?_
    refine Ext.seq ?_
    refine Cod.seq ?_
    refine Cod.region ?_
    refine Ops.st (.move rfl) rfl rfl rfl ?_
    refine Ops.st (.move rfl) rfl rfl rfl ?_
    refine Ops.stG rfl rfl rfl rfl (.move rfl) rfl rfl ?_
    refine Ops.callG rfl rfl rfl rfl ⟨Tryd.call11⟩ rfl rfl rfl (by repeat' first | exact Takes.nil _ | exact TakeP.here _ | apply TakeP.there | apply Takes.cons) (fun F' hF => shaSum1_any (tab.mono hF.hf) (hr.mono hF.hf) (by omega)) rfl rfl ?_
    rintro _ _ ⟨rfl, rfl⟩
    refine Ops.stG rfl rfl rfl rfl (.move rfl) rfl rfl ?_
    refine Ops.callG rfl rfl rfl rfl ⟨Tryd.call12⟩ rfl rfl rfl (by repeat' first | exact Takes.nil _ | exact TakeP.here _ | apply TakeP.there | apply Takes.cons) (fun F' hF => refSum_any (hr.mono hF.hf) (by omega)) rfl rfl ?_
    rintro _ _ ⟨rfl, rfl⟩
    refine Ops.stG rfl rfl rfl rfl (.eqA8 rfl rfl Tryd.underlying24 Tryd.underlying5 Tryd.sizeOf5 Tryd.eqGuardType24 (hashOf_len _) (hashOf_len _)) rfl rfl ?_
    refine Ops.st (.pickT rfl rfl rfl) rfl rfl rfl ?_
    refine Ops.st (.assign rfl) rfl rfl rfl ?_
    refine Ops.nil ?_
    refine Ext.seq ?_
    exact Cod.ret (Ext.ret rfl rfl (by simp))

theorem shaTurned_any {F : Fr} {v : Value} {bs : List UInt8} {n : Int} {c : UInt8} (tab : Tab F) (hr : SlR F.hf v 1 bs.length (u8s bs)) : Spec Tryd.prog F 4 [v, .int .i64 n, W8 c] [] (fun u _ => u = .bool true) := by
  have hsm := hr.small
  refine Spec.body Tryd.func4 rfl Tryd.ntmps4 rfl ?_
  refine Cod.seq ?_
  refine Cod.region ?_
  refine Ops.st (.assign rfl) rfl rfl rfl ?_
  refine Ops.nil ?_
  refine Ext.seq ?_
  refine Cod.seq ?_
  refine Cod.region ?_
  refine Ops.call ⟨Tryd.call10⟩ rfl rfl rfl (by repeat' first | exact Takes.nil _ | exact TakeP.here _ | apply TakeP.there | apply Takes.cons) (fun F' hF => shaAwake_any (tab.mono hF.hf)) rfl rfl rfl ?_
  rintro _ _ ⟨rfl, rfl⟩
  refine Ops.st (.assign rfl) rfl rfl rfl ?_
  refine Ops.nil ?_
  refine Ext.seq ?_
  refine Cod.seq ?_
  refine Cod.seq ?_
  refine Cod.region ?_
  refine Ops.st (.move rfl) rfl rfl rfl ?_
  refine Ops.st (.notB rfl) rfl rfl rfl ?_
  refine Ops.st (.move rfl) rfl rfl rfl ?_
  refine Ops.stG rfl rfl rfl rfl (.move rfl) rfl rfl ?_
  refine Ops.stG rfl rfl rfl rfl (.len rfl (Rd.ro hr) Tryd.runUnderlying22) rfl rfl ?_
  refine Ops.stG rfl rfl rfl rfl (.eql rfl rfl) rfl rfl ?_
  refine Ops.st (.pickF rfl rfl rfl) rfl rfl rfl ?_
  refine Ops.st (.move rfl) rfl rfl rfl ?_
  refine Ops.splitD (t := 18) rfl (fun h1 => ?_) (fun h1 => ?_)
  ·
    refine Ops.skipG rfl rfl rfl (decide_eq_true h1) rfl rfl ?_
    refine Ops.skipG rfl rfl rfl (decide_eq_true h1) rfl rfl ?_
    refine Ops.skipG rfl rfl rfl (decide_eq_true h1) rfl rfl ?_
    refine Ops.st (.pickT rfl (decide_eq_true h1) rfl) rfl rfl rfl ?_
    refine Ops.st (.move rfl) rfl rfl rfl ?_
    refine Ops.skipG rfl rfl rfl rfl rfl rfl ?_
    refine Ops.skipG rfl rfl rfl rfl rfl rfl ?_
    refine Ops.st (.pickT rfl rfl rfl) rfl rfl rfl ?_
    refine Ops.nil ?_
    refine Ext.seq ?_
    refine Cod.condT rfl rfl ?_
    refine Cod.seq ?_
    refine Cod.region ?_
    refine Ops.st (.move rfl) rfl rfl rfl ?_
    refine Ops.st (.assign rfl) rfl rfl rfl ?_
    refine Ops.nil ?_
    refine Ext.seq ?_
    exact Cod.ret (Ext.seqR (Ext.ret rfl rfl rfl))
  ·
    refine Ops.stG rfl rfl rfl (decide_eq_false h1) (.move rfl) rfl rfl ?_
    refine Ops.stG rfl rfl rfl (decide_eq_false h1) (.len rfl (Rd.ro hr) Tryd.runUnderlying22) rfl rfl ?_
    refine Ops.stG rfl rfl rfl (decide_eq_false h1) (.gtr rfl rfl) rfl rfl ?_
    refine Ops.st (.pickF rfl (decide_eq_false h1) rfl) rfl rfl rfl ?_
    refine Ops.st (.move rfl) rfl rfl rfl ?_
    refine Ops.splitD (t := 23) rfl (fun h2 => ?_) (fun h2 => ?_)
    ·
      refine Ops.skipG rfl rfl rfl (decide_eq_true h2) rfl rfl ?_
      refine Ops.skipG rfl rfl rfl (decide_eq_true h2) rfl rfl ?_
      refine Ops.st (.pickT rfl (decide_eq_true h2) rfl) rfl rfl rfl ?_
      refine Ops.nil ?_
      refine Ext.seq ?_
      refine Cod.condT rfl rfl ?_
      refine Cod.seq ?_
      refine Cod.region ?_
      refine Ops.st (.move rfl) rfl rfl rfl ?_
      refine Ops.st (.assign rfl) rfl rfl rfl ?_
      refine Ops.nil ?_
      refine Ext.seq ?_
      exact Cod.ret (Ext.seqR (Ext.ret rfl rfl rfl))
    ·
      refine Ops.stG rfl rfl rfl (decide_eq_false h2) (.move rfl) rfl rfl ?_
      refine Ops.stG rfl rfl rfl (decide_eq_false h2) (.lss rfl rfl) rfl rfl ?_
      refine Ops.st (.pickF rfl (decide_eq_false h2) rfl) rfl rfl rfl ?_
      refine Ops.nil ?_
      refine Ext.seq ?_
      refine Cod.condD rfl (fun h3 => ?_) (fun h3 => ?_)
      ·
        refine Cod.seq ?_
        refine Cod.region ?_
        refine Ops.st (.move rfl) rfl rfl rfl ?_
        refine Ops.st (.assign rfl) rfl rfl rfl ?_
        refine Ops.nil ?_
        refine Ext.seq ?_
        exact Cod.ret (Ext.seqR (Ext.ret rfl rfl rfl))
      ·
        refine Cod.skip ?_
        refine Ext.seq ?_
        refine Cod.seq ?_
        refine Cod.region ?_
        obtain ⟨k, rfl⟩ : ∃ k : Nat, n = k := ⟨n.toNat, by omega⟩
        have hl0 : 0 < bs.length := by omega
        have hkl : k % bs.length < bs.length := Nat.mod_lt _ hl0
        refine Ops.ef (.lit1 (vs := []) ei22 rfl rfl rfl One.nil) rfl rfl rfl ?_
        rintro ev0 _ ⟨hev0, rfl⟩
        refine Ops.st (.move rfl) rfl rfl rfl ?_
        refine Ops.ef (.append (v := ev0) rfl rfl (by repeat first | exact TakeP.here _ | apply TakeP.there) (Rd.ro hr) ei22 (by omega) (by simp only [maxLen]; omega)) rfl rfl rfl ?_
        rintro cv _ ⟨hcv, rfl⟩
        rw [List.nil_append, Nat.zero_add]
        refine Ops.st (.assign rfl) rfl rfl rfl ?_
        refine Ops.nil ?_
        refine Ext.seq ?_
        refine Cod.seq ?_
        refine Cod.region ?_
        refine Ops.st (.move rfl) rfl rfl rfl ?_
        refine Ops.st (.move rfl) rfl rfl rfl ?_
        refine Ops.st (.move rfl) rfl rfl rfl ?_
        refine Ops.st (.len rfl (Rd.vec (v := cv) (by repeat first | exact TakeP.here _ | apply TakeP.there)) Tryd.runUnderlying22) rfl rfl rfl ?_
        refine Ops.st (.rem (r := ((k % bs.length : Nat) : Int)) rfl rfl (by omega) (by rw [Int.tmod_eq_emod_of_nonneg (by omega)]; rfl)) rfl rfl rfl ?_
        refine Ops.st (.indexAddr (j := k % bs.length) (off := k % bs.length) rfl rfl (Rd.vec (v := cv) (by repeat first | exact TakeP.here _ | apply TakeP.there)) Tryd.runUnderlying22 Tryd.sizeOf5 rfl hkl (Nat.mul_one _)) rfl rfl rfl ?_
        refine Ops.st (.load_elem rfl (Rd.vec (v := cv) (by repeat first | exact TakeP.here _ | apply TakeP.there)) Tryd.isAgg5 (u8s_getD hkl)) rfl rfl rfl ?_
        refine Ops.st (.move rfl) rfl rfl rfl ?_
        refine Ops.st (.xorW8 rfl rfl) rfl rfl rfl ?_
        refine Ops.st (.indexAddr (j := k % bs.length) (off := k % bs.length) rfl rfl (Rd.vec (v := cv) (by repeat first | exact TakeP.here _ | apply TakeP.there)) Tryd.runUnderlying22 Tryd.sizeOf5 rfl hkl (Nat.mul_one _)) rfl rfl rfl ?_
        refine Ops.ef10 (.store_elem (v := cv) rfl rfl (by repeat first | exact TakeP.here _ | apply TakeP.there) Tryd.sizeOf5 (by rw [u8s_len]; exact hkl) rfl) rfl rfl ?_
        refine Ops.nil ?_
        refine Ext.seq ?_
        refine Cod.seq ?_
        rw [u8s_set]
        obtain ⟨cs, hcs⟩ : ∃ cs, cs = bs.set (k % bs.length) (bs.getD (k % bs.length) 0 ^^^ c) := ⟨_, rfl⟩
        have hcl : bs.length = cs.length := by rw [hcs, List.length_set]
        rw [← hcs, hcl]
        refine Cod.region ?_
        refine Ops.st (.move rfl) rfl rfl rfl ?_
        refine Ops.call ⟨Tryd.call12⟩ rfl rfl rfl (by repeat' first | exact Takes.nil _ | exact TakeP.here _ | apply TakeP.there | apply Takes.cons) (fun F' hF => refSum_any (hr.mono hF.hf) (by omega)) rfl rfl rfl ?_
        rintro _ _ ⟨rfl, rfl⟩
        refine Ops.st (.move rfl) rfl rfl rfl ?_
        refine Ops.call ⟨Tryd.call12⟩ rfl rfl rfl (by repeat' first | exact Takes.nil _ | exact TakeP.here _ | apply TakeP.there | apply Takes.cons) (fun F' hF => refSum_any ((Rd.vec (v := cv) (by repeat first | exact TakeP.here _ | apply TakeP.there)).wider hF) (by omega)) rfl rfl rfl ?_
        rintro _ _ ⟨rfl, rfl⟩
        refine Ops.st (.eqA8 rfl rfl Tryd.underlying24 Tryd.underlying5 Tryd.sizeOf5 Tryd.eqGuardType24 (hashOf_len _) (hashOf_len _)) rfl rfl rfl ?_
        refine Ops.st (.assign rfl) rfl rfl rfl ?_
        refine Ops.nil ?_
        refine Ext.seq ?_
        refine Cod.seq ?_
        refine Cod.region ?_
        refine Ops.st (.move rfl) rfl rfl rfl ?_
        refine Ops.call ⟨Tryd.call11⟩ rfl rfl rfl (by repeat' first | exact Takes.nil _ | exact TakeP.here _ | apply TakeP.there | apply Takes.cons) (fun F' hF => shaSum1_any (tab.mono hF.hf) (hr.mono hF.hf) (by omega)) rfl rfl rfl ?_
        rintro _ _ ⟨rfl, rfl⟩
        refine Ops.st (.move rfl) rfl rfl rfl ?_
        refine Ops.call ⟨Tryd.call11⟩ rfl rfl rfl (by repeat' first | exact Takes.nil _ | exact TakeP.here _ | apply TakeP.there | apply Takes.cons) (fun F' hF => shaSum1_any (tab.mono hF.hf) ((Rd.vec (v := cv) (by repeat first | exact TakeP.here _ | apply TakeP.there)).wider hF) (by omega)) rfl rfl rfl ?_
        rintro _ _ ⟨rfl, rfl⟩
        refine Ops.st (.eqA8 rfl rfl Tryd.underlying24 Tryd.underlying5 Tryd.sizeOf5 Tryd.eqGuardType24 (hashOf_len _) (hashOf_len _)) rfl rfl rfl ?_
        refine Ops.st (.move rfl) rfl rfl rfl ?_
        refine Ops.st (.eqB rfl rfl Tryd.underlying4) rfl rfl rfl ?_
        refine Ops.st (.assign rfl) rfl rfl rfl ?_
        refine Ops.nil ?_
        refine Ext.seq ?_
        exact Cod.ret (Ext.ret rfl rfl (by simp))

theorem shaOne_any {F : Fr} {v : Value} {bs : List UInt8} (tab : Tab F) (hr : SlR F.hf v 1 bs.length (u8s bs)) : Spec Tryd.prog F 5 [v] [] (fun u _ => u = .bool true) := by
  refine Spec.body Tryd.func5 rfl Tryd.ntmps5 rfl ?_
  refine Cod.seq ?_
  refine Cod.region ?_
  refine Ops.st (.assign rfl) rfl rfl rfl ?_
  refine Ops.nil ?_
  refine Ext.seq ?_
  refine Cod.seq ?_
  refine Cod.region ?_
  refine Ops.call ⟨Tryd.call10⟩ rfl rfl rfl (by repeat' first | exact Takes.nil _ | exact TakeP.here _ | apply TakeP.there | apply Takes.cons) (fun F' hF => shaAwake_any (tab.mono hF.hf)) rfl rfl rfl ?_
  rintro _ _ ⟨rfl, rfl⟩
  refine Ops.st (.assign rfl) rfl rfl rfl ?_
  refine Ops.nil ?_
  refine Ext.seq ?_
  refine Cod.seq ?_
  refine Cod.region ?_
  refine Ops.call ⟨Tryd.call13⟩ rfl rfl rfl (by repeat' first | exact Takes.nil _ | exact TakeP.here _ | apply TakeP.there | apply Takes.cons) (fun F' hF => shaNew_any) rfl rfl rfl ?_
  rintro _ _ ⟨hb, rfl, rfl⟩
  refine Ops.st (.assign rfl) rfl rfl rfl ?_
  refine Ops.nil ?_
  refine Ext.seq ?_
  refine Cod.seq ?_
  refine Cod.seq ?_
  refine Cod.region ?_
  refine Ops.st (.move rfl) rfl rfl rfl ?_
  refine Ops.st (.notB rfl) rfl rfl rfl ?_
  refine Ops.st (.move rfl) rfl rfl rfl ?_
  refine Ops.stG rfl rfl rfl rfl (.move rfl) rfl rfl ?_
  refine Ops.stG rfl rfl rfl rfl (.eqPN rfl rfl Tryd.underlying28) rfl rfl ?_
  refine Ops.st (.pickF rfl rfl rfl) rfl rfl rfl ?_
  refine Ops.st (.move rfl) rfl rfl rfl ?_
  refine Ops.stG rfl rfl rfl rfl (.move rfl) rfl rfl ?_
  refine Ops.stG rfl rfl rfl rfl (.len rfl (Rd.ro hr) Tryd.runUnderlying22) rfl rfl ?_
  refine Ops.stG rfl rfl rfl rfl (.gtr rfl rfl) rfl rfl ?_
  refine Ops.st (.pickF rfl rfl rfl) rfl rfl rfl ?_
  refine Ops.nil ?_
  refine Ext.seq ?_
  refine Cod.condD rfl (fun h1 => ?_) (fun h1 => ?_)
  ·
    refine Cod.seq ?_
    refine Cod.region ?_
    refine Ops.st (.move rfl) rfl rfl rfl ?_
    refine Ops.st (.move rfl) rfl rfl rfl ?_
    refine Ops.stG rfl rfl rfl rfl (.move rfl) rfl rfl ?_
    refine Ops.stG rfl rfl rfl rfl (.nePN rfl rfl Tryd.underlying28) rfl rfl ?_
    refine Ops.st (.pickT rfl rfl rfl) rfl rfl rfl ?_
    refine Ops.st (.assign rfl) rfl rfl rfl ?_
    refine Ops.nil ?_
    refine Ext.seq ?_
    exact Cod.ret (Ext.seqR (Ext.ret rfl rfl rfl))
  ·
    refine Cod.skip ?_
    refine Ext.seq ?_
    refine Cod.seq ?_
    refine Cod.seq ?_
    refine Cod.region ?_
    refine Ops.st (.assign rfl) rfl rfl rfl ?_
    refine Ops.nil ?_
    refine Ext.seq ?_
    refine Cod.block ?_
    refine Cod.loop (fun i : Nat => ⟨i ≤ bs.length, [(0, v), (4, .pointer (some ⟨hb, 0, none⟩)), (5, .int .i64 i)], [hashP hb (HM.new.write (bs.take i))]⟩) (fun i => bs.length - i) 0 (Nat.zero_le _) ⟨rfl, rfl, rfl, trivial⟩ (by rw [List.take_zero, HM.write_nil HM.new_ok]; exact Ent.take (by repeat' first | exact Takes.nil _ | exact TakeP.here _ | apply TakeP.there | apply Takes.cons)) ?_
    rintro i hi
    dsimp only
    refine Cod.seq ?_
    refine Cod.seq ?_
    refine Cod.region ?_
    refine Ops.st (.move rfl) rfl rfl rfl ?_
    refine Ops.st (.move rfl) rfl rfl rfl ?_
    refine Ops.st (.len rfl (Rd.ro hr) Tryd.runUnderlying22) rfl rfl rfl ?_
    refine Ops.st (.lss rfl rfl) rfl rfl rfl ?_
    refine Ops.nil ?_
    refine Ext.seq ?_
    refine Cod.condD rfl (fun h2 => ?_) (fun h2 => ?_)
    ·
      refine Cod.skip ?_
      refine Ext.seq ?_
      refine Cod.seq ?_
      refine Cod.block ?_
      refine Cod.seq ?_
      refine Cod.region ?_
      have htl : (bs.take i).length ≤ 2000 := by rw [List.length_take]; omega
      have hdl : ((bs.drop i).take 1).length = 1 := by rw [List.length_take, List.length_drop]; omega
      have ok1 := newOk (bs := bs.take i) (by omega)
      have hl1 := newLong (bs := bs.take i) (by omega)
      have ok2 : ((HM.new.write (bs.take i)).write ((bs.drop i).take 1)).Ok := ok1.write (by omega)
      refine Ops.st (.move rfl) rfl rfl rfl ?_
      refine Ops.st (.move rfl) rfl rfl rfl ?_
      refine Ops.st (.move rfl) rfl rfl rfl ?_
      refine Ops.st (.move rfl) rfl rfl rfl ?_
      refine Ops.st (.add rfl rfl (by first | exact IntWalk.i64_in _ (by omega) | rfl)) rfl rfl rfl ?_
      refine Ops.st (.slice_lh (lo := i) (hi := i + 1) rfl rfl rfl (Rd.ro hr) Tryd.runUnderlying22 Tryd.sizeOf5 rfl (by omega) (by omega) (by omega)) rfl rfl rfl ?_
      refine Ops.call ⟨Tryd.call14⟩ rfl rfl rfl (by repeat' first | exact Takes.nil _ | exact TakeP.here _ | apply TakeP.there | apply Takes.cons) (fun F' hF => shaWrite_any (m := HM.new.write (bs.take i)) (bs := (bs.drop i).take 1) ok1 (tab.mono hF.hf) ((hr.cut8 (lo := i) (hi := i + 1) (by omega) (by omega) (by rw [Nat.add_sub_cancel_left])).mono hF.hf) (by omega)) rfl rfl rfl ?_
      rintro _ _ rfl
      refine Ops.nil ?_
      refine Ext.seq ?_
      refine Cod.region ?_
      refine Ops.st (.move rfl) rfl rfl rfl ?_
      refine Ops.call ⟨Tryd.call14⟩ rfl rfl rfl (by repeat' first | exact Takes.nil _ | exact TakeP.here _ | apply TakeP.there | apply Takes.cons) (fun F' hF => shaWrite_any (m := (HM.new.write (bs.take i)).write ((bs.drop i).take 1)) (v := .slice none 0 0) (bs := []) ok2 (tab.mono hF.hf) (SlR.nil _ _) (by rw [HM.write_write, new_write_long, List.length_append]; simp only [List.length_nil]; omega)) rfl rfl rfl ?_
      rintro _ _ rfl
      refine Ops.nil ?_
      refine Ext.block ?_
      refine Ext.seq ?_
      refine Cod.region ?_
      refine Ops.st (.move rfl) rfl rfl rfl ?_
      refine Ops.st (.add rfl rfl (by first | exact IntWalk.i64_in _ (by omega) | rfl)) rfl rfl rfl ?_
      refine Ops.st (.assign rfl) rfl rfl rfl ?_
      refine Ops.nil ?_
      exact Ext.back (i + 1) (by omega) (by omega) ⟨rfl, rfl, rfl, trivial⟩ (by rw [HM.write_nil ok2, HM.write_write, show bs.take i ++ (bs.drop i).take 1 = bs.take (i + 1) from List.take_add.symm]; exact Ent.take (by repeat' first | exact Takes.nil _ | exact TakeP.here _ | apply TakeP.there | apply Takes.cons))
    ·
      refine Cod.exit (Ext.seqX (Ext.stopX (Ext.hit ?_)))
      refine Ext.seq ?_
      refine Cod.seq ?_
      obtain rfl : i = bs.length := by omega
      rw [List.take_length]
      have ok := newOk (bs := bs) (by omega)
      have hlong := newLong (bs := bs) (by omega)
      refine Cod.regionA mixed (by kernel_rfl) (listed := #[false, false, false, false, false, false, false, false, false, false, false, false, false, false, false]) ?_
      refine As.take 0 rfl (by kernel_rfl) (by kernel_rfl) (by kernel_rfl) rfl rfl rfl (fun F hs => .move rfl) (by kernel_rfl) (listed' := #[true, false, false, false, false, false, false, false, false, false, false, false, false, false, false]) ?_
      refine As.take 2 rfl (by kernel_rfl) (by kernel_rfl) (by kernel_rfl) rfl rfl rfl (fun F hs => .move rfl) (by kernel_rfl) (listed' := #[true, false, true, false, false, false, false, false, false, false, false, false, false, false, false]) ?_
      refine As.quiet [1, 3, 4, 5] 4 9 rfl ?_
      refine Aq.call (i := 1) ⟨rfl, by kernel_rfl, by kernel_rfl, by kernel_rfl, by kernel_rfl, by kernel_rfl⟩ ⟨Tryd.call15⟩ rfl rfl rfl (by repeat' first | exact Takes.nil _ | exact TakeP.here _ | apply TakeP.there | apply Takes.cons) (fun F' hF => Spec.quiet (shaSum_any (m := HM.new.write bs) ok (tab.mono hF.hf) (hF.hash (m := HM.new.write bs) (by repeat first | exact TakeP.here _ | apply TakeP.there)) (by omega))) rfl rfl rfl (by kernel_rfl) (listed' := #[true, true, true, false, false, false, false, false, false, false, false, false, false, false, false]) ?_
      refine Aq.call (i := 3) ⟨rfl, by kernel_rfl, by kernel_rfl, by kernel_rfl, by kernel_rfl, by kernel_rfl⟩ ⟨Tryd.call12⟩ rfl rfl rfl (by repeat' first | exact Takes.nil _ | exact TakeP.here _ | apply TakeP.there | apply Takes.cons) (fun F' hF => Spec.quiet (refSum_any (hr.mono hF.hf) (by omega))) rfl rfl rfl (by kernel_rfl) (listed' := #[true, true, true, true, false, false, false, false, false, false, false, false, false, false, false]) ?_
      refine Aq.st (i := 4) ⟨rfl, by kernel_rfl, by kernel_rfl, by kernel_rfl, by kernel_rfl, by kernel_rfl⟩ (.eqA8 rfl rfl Tryd.underlying24 Tryd.underlying5 Tryd.sizeOf5 Tryd.eqGuardType24 (hashOf_len _) (hashOf_len _)) rfl rfl rfl (by kernel_rfl) (listed' := #[true, true, true, true, true, false, false, false, false, false, false, false, false, false, false]) ?_
      refine Aq.st (i := 5) ⟨rfl, by kernel_rfl, by kernel_rfl, by kernel_rfl, by kernel_rfl, by kernel_rfl⟩ (.move rfl) rfl rfl rfl (by kernel_rfl) (listed' := #[true, true, true, true, true, true, false, false, false, false, false, false, false, false, false]) ?_
      refine Aq.done (by kernel_rfl) ?_
      refine As.takeG 6 rfl (by kernel_rfl) (by kernel_rfl) (by kernel_rfl) rfl rfl rfl (by simp [hashOf]) rfl rfl (fun F hs => .move rfl) (by kernel_rfl) (listed' := #[true, true, true, true, true, true, true, false, false, false, false, false, false, false, false]) ?_
      refine As.takeG 9 rfl (by kernel_rfl) (by kernel_rfl) (by kernel_rfl) rfl rfl rfl (by simp [hashOf]) rfl rfl (fun F hs => .move rfl) (by kernel_rfl) (listed' := #[true, true, true, true, true, true, true, false, false, true, false, false, false, false, false]) ?_
      refine As.one (i := 7) (by kernel_rfl) ?_
      refine Ao.callG rfl rfl rfl rfl (by simp [hashOf]) ⟨Tryd.call16⟩ rfl rfl rfl (by repeat' first | exact Takes.nil _ | exact TakeP.here _ | apply TakeP.there | apply Takes.cons) (fun F' hF => shaSave_any (m := HM.new.write bs) ok (hF.hash (m := HM.new.write bs) (by repeat first | exact TakeP.here _ | apply TakeP.there))) rfl rfl (by kernel_rfl) (listed' := #[true, true, true, true, true, true, true, true, false, true, false, false, false, false, false]) ?_
      rintro sv _ ⟨hsv, rfl⟩
      refine As.two (i := 8) (j := 10) (by kernel_rfl) ?_ ?_
      ·
        refine Ao.stG rfl rfl rfl rfl (by simp [hashOf]) (.toStr rfl (Rd.vec (v := sv) (by repeat first | exact TakeP.here _ | apply TakeP.there)) Tryd.underlying22 Tryd.underlying5 Tryd.underlying9) rfl rfl (by kernel_rfl) (listed' := #[true, true, true, true, true, true, true, true, true, true, false, false, false, false, false]) ?_
        refine As.one (i := 10) (by kernel_rfl) ?_
        refine Ao.callG rfl rfl rfl rfl (by simp [hashOf]) ⟨Tryd.call17⟩ rfl rfl rfl (by repeat' first | exact Takes.nil _ | exact TakeP.here _ | apply TakeP.there | apply Takes.cons) (fun F' hF => refSave_any (hr.mono hF.hf) (by omega)) rfl rfl (by kernel_rfl) (listed' := #[true, true, true, true, true, true, true, true, true, true, true, false, false, false, false]) ?_
        rintro rv _ ⟨hrv, rfl⟩
        refine As.quiet [11, 12, 13, 14] 4 0 rfl ?_
        refine Aq.stG (i := 11) ⟨rfl, by kernel_rfl, by kernel_rfl, by kernel_rfl, by kernel_rfl, by kernel_rfl⟩ rfl rfl rfl (by simp [hashOf]) (.toStr rfl (Rd.vec (v := rv) (by repeat first | exact TakeP.here _ | apply TakeP.there)) Tryd.underlying22 Tryd.underlying5 Tryd.underlying9) rfl rfl (by kernel_rfl) (listed' := #[true, true, true, true, true, true, true, true, true, true, true, true, false, false, false]) ?_
        refine Aq.stG (i := 12) ⟨rfl, by kernel_rfl, by kernel_rfl, by kernel_rfl, by kernel_rfl, by kernel_rfl⟩ rfl rfl rfl (by simp [hashOf]) (.eqStr rfl rfl) rfl rfl (by kernel_rfl) (listed' := #[true, true, true, true, true, true, true, true, true, true, true, true, true, false, false]) ?_
        refine Aq.st (i := 13) ⟨rfl, by kernel_rfl, by kernel_rfl, by kernel_rfl, by kernel_rfl, by kernel_rfl⟩ (.pickT rfl (by simp [hashOf]) rfl) rfl rfl rfl (by kernel_rfl) (listed' := #[true, true, true, true, true, true, true, true, true, true, true, true, true, true, false]) ?_
        refine Aq.st (i := 14) ⟨rfl, by kernel_rfl, by kernel_rfl, by kernel_rfl, by kernel_rfl, by kernel_rfl⟩ (.assign rfl) rfl rfl rfl (by kernel_rfl) (listed' := #[true, true, true, true, true, true, true, true, true, true, true, true, true, true, true]) ?_
        refine Aq.done (by kernel_rfl) ?_
        refine As.done (by kernel_rfl) ?_
        refine Ext.seq ?_
        exact Cod.ret (Ext.ret rfl rfl (by simp))
      ·
        refine Ao.callG rfl rfl rfl rfl (by simp [hashOf]) ⟨Tryd.call17⟩ rfl rfl rfl (by repeat' first | exact Takes.nil _ | exact TakeP.here _ | apply TakeP.there | apply Takes.cons) (fun F' hF => refSave_any (hr.mono hF.hf) (by omega)) rfl rfl (by kernel_rfl) (listed' := #[true, true, true, true, true, true, true, true, false, true, true, false, false, false, false]) ?_
        rintro rv _ ⟨hrv, rfl⟩
        refine As.quiet [8, 11, 12, 13, 14] 5 0 rfl ?_
        refine Aq.stG (i := 8) ⟨rfl, by kernel_rfl, by kernel_rfl, by kernel_rfl, by kernel_rfl, by kernel_rfl⟩ rfl rfl rfl (by simp [hashOf]) (.toStr rfl (Rd.vec (v := sv) (by repeat first | exact TakeP.here _ | apply TakeP.there)) Tryd.underlying22 Tryd.underlying5 Tryd.underlying9) rfl rfl (by kernel_rfl) (listed' := #[true, true, true, true, true, true, true, true, true, true, true, false, false, false, false]) ?_
        refine Aq.stG (i := 11) ⟨rfl, by kernel_rfl, by kernel_rfl, by kernel_rfl, by kernel_rfl, by kernel_rfl⟩ rfl rfl rfl (by simp [hashOf]) (.toStr rfl (Rd.vec (v := rv) (by repeat first | exact TakeP.here _ | apply TakeP.there)) Tryd.underlying22 Tryd.underlying5 Tryd.underlying9) rfl rfl (by kernel_rfl) (listed' := #[true, true, true, true, true, true, true, true, true, true, true, true, false, false, false]) ?_
        refine Aq.stG (i := 12) ⟨rfl, by kernel_rfl, by kernel_rfl, by kernel_rfl, by kernel_rfl, by kernel_rfl⟩ rfl rfl rfl (by simp [hashOf]) (.eqStr rfl rfl) rfl rfl (by kernel_rfl) (listed' := #[true, true, true, true, true, true, true, true, true, true, true, true, true, false, false]) ?_
        refine Aq.st (i := 13) ⟨rfl, by kernel_rfl, by kernel_rfl, by kernel_rfl, by kernel_rfl, by kernel_rfl⟩ (.pickT rfl (by simp [hashOf]) rfl) rfl rfl rfl (by kernel_rfl) (listed' := #[true, true, true, true, true, true, true, true, true, true, true, true, true, true, false]) ?_
        refine Aq.st (i := 14) ⟨rfl, by kernel_rfl, by kernel_rfl, by kernel_rfl, by kernel_rfl, by kernel_rfl⟩ (.assign rfl) rfl rfl rfl (by kernel_rfl) (listed' := #[true, true, true, true, true, true, true, true, true, true, true, true, true, true, true]) ?_
        refine Aq.done (by kernel_rfl) ?_
        refine As.done (by kernel_rfl) ?_
        refine Ext.seq ?_
        exact Cod.ret (Ext.ret rfl rfl (by simp))

theorem shaLoad_yes {F : Fr} {v : Value} {bs : List UInt8} (hr : SlR F.hf v 1 bs.length (u8s bs)) (h : isSave bs = true) :
    Spec Tryd.prog F 18 [v] [] (fun u hs' => ∃ b, u = .tuple #[.pointer (some ⟨b, 0, none⟩), .int .i64 0] ∧ hs' = [hashP b (HM.load bs)]) :=
  (shaLoad_any hr).weak fun _ hs hp => hp.elim (fun x => ⟨hs, Ent.refl _, x.2⟩) (fun x => absurd (h.symm.trans x.1) (by decide))
theorem shaLoad_no {F : Fr} {v : Value} {bs : List UInt8} (hr : SlR F.hf v 1 bs.length (u8s bs)) (h : isSave bs = false) :
    Spec Tryd.prog F 18 [v] [] (fun u hs' => u = .tuple #[.pointer none, .int .i64 2] ∧ hs' = []) :=
  (shaLoad_any hr).weak fun _ hs hp => hp.elim (fun x => absurd (h.symm.trans x.1) (by decide)) (fun x => ⟨hs, Ent.refl _, x.2⟩)

theorem shaLoadsA_any {F : Fr} {v v2 : Value} {bs more : List UInt8} (tab : Tab F) (hr : SlR F.hf v 1 bs.length (u8s bs)) (hr2 : SlR F.hf v2 1 more.length (u8s more)) (hs : isSave bs = false) : Spec Tryd.prog F 6 [v, v2] [] (fun u _ => u = .bool true) := by
  refine Spec.body Tryd.func6 rfl Tryd.ntmps6 rfl ?_
  refine Cod.seq ?_
  refine Cod.region ?_
  refine Ops.st (.assign rfl) rfl rfl rfl ?_
  refine Ops.nil ?_
  refine Ext.seq ?_
  refine Cod.seq ?_
  refine Cod.region ?_
  refine Ops.call ⟨Tryd.call10⟩ rfl rfl rfl (by repeat' first | exact Takes.nil _ | exact TakeP.here _ | apply TakeP.there | apply Takes.cons) (fun F' hF => shaAwake_any (tab.mono hF.hf)) rfl rfl rfl ?_
  rintro _ _ ⟨rfl, rfl⟩
  refine Ops.st (.assign rfl) rfl rfl rfl ?_
  refine Ops.nil ?_
  refine Ext.seq ?_
  refine Cod.seq ?_
  refine Cod.seq ?_
  refine Cod.region ?_
  refine Ops.st (.move rfl) rfl rfl rfl ?_
  refine Ops.st (.notB rfl) rfl rfl rfl ?_
  refine Ops.st (.move rfl) rfl rfl rfl ?_
  refine Ops.stG rfl rfl rfl rfl (.move rfl) rfl rfl ?_
  refine Ops.stG rfl rfl rfl rfl (.len rfl (Rd.ro hr) Tryd.runUnderlying22) rfl rfl ?_
  refine Ops.stG rfl rfl rfl rfl (.gtr rfl rfl) rfl rfl ?_
  refine Ops.st (.pickF rfl rfl rfl) rfl rfl rfl ?_
  refine Ops.st (.move rfl) rfl rfl rfl ?_
  refine Ops.splitD (t := 18) rfl (fun h1 => ?_) (fun h1 => ?_)
  ·
    refine Ops.skipG rfl rfl rfl (decide_eq_true h1) rfl rfl ?_
    refine Ops.skipG rfl rfl rfl (decide_eq_true h1) rfl rfl ?_
    refine Ops.skipG rfl rfl rfl (decide_eq_true h1) rfl rfl ?_
    refine Ops.st (.pickT rfl (decide_eq_true h1) rfl) rfl rfl rfl ?_
    refine Ops.nil ?_
    refine Ext.seq ?_
    refine Cod.condT rfl rfl ?_
    refine Cod.seq ?_
    refine Cod.region ?_
    refine Ops.st (.move rfl) rfl rfl rfl ?_
    refine Ops.st (.assign rfl) rfl rfl rfl ?_
    refine Ops.nil ?_
    refine Ext.seq ?_
    exact Cod.ret (Ext.seqR (Ext.ret rfl rfl rfl))
  ·
    refine Ops.stG rfl rfl rfl (decide_eq_false h1) (.move rfl) rfl rfl ?_
    refine Ops.stG rfl rfl rfl (decide_eq_false h1) (.len rfl (Rd.ro hr2) Tryd.runUnderlying22) rfl rfl ?_
    refine Ops.stG rfl rfl rfl (decide_eq_false h1) (.gtr rfl rfl) rfl rfl ?_
    refine Ops.st (.pickF rfl (decide_eq_false h1) rfl) rfl rfl rfl ?_
    refine Ops.nil ?_
    refine Ext.seq ?_
    refine Cod.condD rfl (fun h2 => ?_) (fun h2 => ?_)
    ·
      refine Cod.seq ?_
      refine Cod.region ?_
      refine Ops.st (.move rfl) rfl rfl rfl ?_
      refine Ops.st (.assign rfl) rfl rfl rfl ?_
      refine Ops.nil ?_
      refine Ext.seq ?_
      exact Cod.ret (Ext.seqR (Ext.ret rfl rfl rfl))
    ·
      refine Cod.skip ?_
      refine Ext.seq ?_
      refine Cod.seq ?_
      refine Cod.region ?_
      refine Ops.st (.move rfl) rfl rfl rfl ?_
      refine Ops.call ⟨Tryd.call18⟩ rfl rfl rfl (by repeat' first | exact Takes.nil _ | exact TakeP.here _ | apply TakeP.there | apply Takes.cons) (fun F' hF => shaLoad_no (hr.mono hF.hf) hs) rfl rfl rfl ?_
      rintro _ _ ⟨rfl, rfl⟩
      refine Ops.st (.move rfl) rfl rfl rfl ?_
      refine Ops.st (.extract rfl rfl) rfl rfl rfl ?_
      refine Ops.st (.extract rfl rfl) rfl rfl rfl ?_
      refine Ops.st (.assign rfl) rfl rfl rfl ?_
      refine Ops.st (.assign rfl) rfl rfl rfl ?_
      refine Ops.nil ?_
      refine Ext.seq ?_
      refine Cod.seq ?_
      refine Cod.region ?_
      refine Ops.st (.move rfl) rfl rfl rfl ?_
      refine Ops.call ⟨Tryd.call19⟩ rfl rfl rfl (by repeat' first | exact Takes.nil _ | exact TakeP.here _ | apply TakeP.there | apply Takes.cons) (fun F' hF => refIs_any (hr.mono hF.hf)) rfl rfl rfl ?_
      rintro _ _ ⟨rfl, rfl⟩
      refine Ops.st (.assign rfl) rfl rfl rfl ?_
      refine Ops.nil ?_
      refine Ext.seq ?_
      refine Cod.seq ?_
      refine Cod.seq ?_
      rw [hs, if_neg (by decide)]
      refine Cod.region ?_
      refine Ops.st (.move rfl) rfl rfl rfl ?_
      refine Ops.st (.move rfl) rfl rfl rfl ?_
      refine Ops.st (.neq rfl rfl) rfl rfl rfl ?_
      refine Ops.st (.move rfl) rfl rfl rfl ?_
      refine Ops.stG rfl rfl rfl rfl (.move rfl) rfl rfl ?_
      refine Ops.stG rfl rfl rfl rfl (.eqPN rfl rfl Tryd.underlying28) rfl rfl ?_
      refine Ops.stG rfl rfl rfl rfl (.move rfl) rfl rfl ?_
      refine Ops.stG rfl rfl rfl rfl (.neq rfl rfl) rfl rfl ?_
      refine Ops.stG rfl rfl rfl rfl (.neB rfl rfl Tryd.underlying4) rfl rfl ?_
      refine Ops.st (.pickF rfl rfl rfl) rfl rfl rfl ?_
      refine Ops.nil ?_
      refine Ext.seq ?_
      refine Cod.condF rfl rfl ?_
      refine Cod.skip ?_
      refine Ext.seq ?_
      refine Cod.seq ?_
      refine Cod.seq ?_
      refine Cod.region ?_
      refine Ops.st (.move rfl) rfl rfl rfl ?_
      refine Ops.st (.eqPN rfl rfl Tryd.underlying28) rfl rfl rfl ?_
      refine Ops.nil ?_
      refine Ext.seq ?_
      refine Cod.condT rfl rfl ?_
      refine Cod.seq ?_
      refine Cod.region ?_
      refine Ops.st (.assign rfl) rfl rfl rfl ?_
      refine Ops.nil ?_
      refine Ext.seq ?_
      exact Cod.ret (Ext.seqR (Ext.ret rfl rfl rfl))
theorem shaLoadsB_any {F : Fr} {v v2 : Value} {bs more : List UInt8} (tab : Tab F) (hr : SlR F.hf v 1 bs.length (u8s bs)) (hr2 : SlR F.hf v2 1 more.length (u8s more)) (hs : isSave bs = true) : Spec Tryd.prog F 6 [v, v2] [] (fun u _ => u = .bool true) := by
  refine Spec.body Tryd.func6 rfl Tryd.ntmps6 rfl ?_
  refine Cod.seq ?_
  refine Cod.region ?_
  refine Ops.st (.assign rfl) rfl rfl rfl ?_
  refine Ops.nil ?_
  refine Ext.seq ?_
  refine Cod.seq ?_
  refine Cod.region ?_
  refine Ops.call ⟨Tryd.call10⟩ rfl rfl rfl (by repeat' first | exact Takes.nil _ | exact TakeP.here _ | apply TakeP.there | apply Takes.cons) (fun F' hF => shaAwake_any (tab.mono hF.hf)) rfl rfl rfl ?_
  rintro _ _ ⟨rfl, rfl⟩
  refine Ops.st (.assign rfl) rfl rfl rfl ?_
  refine Ops.nil ?_
  refine Ext.seq ?_
  refine Cod.seq ?_
  refine Cod.seq ?_
  refine Cod.region ?_
  refine Ops.st (.move rfl) rfl rfl rfl ?_
  refine Ops.st (.notB rfl) rfl rfl rfl ?_
  refine Ops.st (.move rfl) rfl rfl rfl ?_
  refine Ops.stG rfl rfl rfl rfl (.move rfl) rfl rfl ?_
  refine Ops.stG rfl rfl rfl rfl (.len rfl (Rd.ro hr) Tryd.runUnderlying22) rfl rfl ?_
  refine Ops.stG rfl rfl rfl rfl (.gtr rfl rfl) rfl rfl ?_
  refine Ops.st (.pickF rfl rfl rfl) rfl rfl rfl ?_
  refine Ops.st (.move rfl) rfl rfl rfl ?_
  refine Ops.splitD (t := 18) rfl (fun h1 => ?_) (fun h1 => ?_)
  ·
    refine Ops.skipG rfl rfl rfl (decide_eq_true h1) rfl rfl ?_
    refine Ops.skipG rfl rfl rfl (decide_eq_true h1) rfl rfl ?_
    refine Ops.skipG rfl rfl rfl (decide_eq_true h1) rfl rfl ?_
    refine Ops.st (.pickT rfl (decide_eq_true h1) rfl) rfl rfl rfl ?_
    refine Ops.nil ?_
    refine Ext.seq ?_
    refine Cod.condT rfl rfl ?_
    refine Cod.seq ?_
    refine Cod.region ?_
    refine Ops.st (.move rfl) rfl rfl rfl ?_
    refine Ops.st (.assign rfl) rfl rfl rfl ?_
    refine Ops.nil ?_
    refine Ext.seq ?_
    exact Cod.ret (Ext.seqR (Ext.ret rfl rfl rfl))
  ·
    refine Ops.stG rfl rfl rfl (decide_eq_false h1) (.move rfl) rfl rfl ?_
    refine Ops.stG rfl rfl rfl (decide_eq_false h1) (.len rfl (Rd.ro hr2) Tryd.runUnderlying22) rfl rfl ?_
    refine Ops.stG rfl rfl rfl (decide_eq_false h1) (.gtr rfl rfl) rfl rfl ?_
    refine Ops.st (.pickF rfl (decide_eq_false h1) rfl) rfl rfl rfl ?_
    refine Ops.nil ?_
    refine Ext.seq ?_
    refine Cod.condD rfl (fun h2 => ?_) (fun h2 => ?_)
    ·
      refine Cod.seq ?_
      refine Cod.region ?_
      refine Ops.st (.move rfl) rfl rfl rfl ?_
      refine Ops.st (.assign rfl) rfl rfl rfl ?_
      refine Ops.nil ?_
      refine Ext.seq ?_
      exact Cod.ret (Ext.seqR (Ext.ret rfl rfl rfl))
    ·
      refine Cod.skip ?_
      refine Ext.seq ?_
      refine Cod.seq ?_
      refine Cod.region ?_
      have ok := HM.load_ok hs (by omega)
      have hs0 := hs
      simp only [isSave, Bool.and_eq_true, decide_eq_true_eq] at hs0
      have hlong : (HM.load bs).long ≤ 1099511627776 := hs0.2.1
      refine Ops.st (.move rfl) rfl rfl rfl ?_
      refine Ops.call ⟨Tryd.call18⟩ rfl rfl rfl (by repeat' first | exact Takes.nil _ | exact TakeP.here _ | apply TakeP.there | apply Takes.cons) (fun F' hF => shaLoad_yes (hr.mono hF.hf) hs) rfl rfl rfl ?_
      rintro _ _ ⟨hb, rfl, rfl⟩
      refine Ops.st (.move rfl) rfl rfl rfl ?_
      refine Ops.st (.extract rfl rfl) rfl rfl rfl ?_
      refine Ops.st (.extract rfl rfl) rfl rfl rfl ?_
      refine Ops.st (.assign rfl) rfl rfl rfl ?_
      refine Ops.st (.assign rfl) rfl rfl rfl ?_
      refine Ops.nil ?_
      refine Ext.seq ?_
      refine Cod.seq ?_
      refine Cod.region ?_
      refine Ops.st (.move rfl) rfl rfl rfl ?_
      refine Ops.call ⟨Tryd.call19⟩ rfl rfl rfl (by repeat' first | exact Takes.nil _ | exact TakeP.here _ | apply TakeP.there | apply Takes.cons) (fun F' hF => refIs_any (hr.mono hF.hf)) rfl rfl rfl ?_
      rintro _ _ ⟨rfl, rfl⟩
      refine Ops.st (.assign rfl) rfl rfl rfl ?_
      refine Ops.nil ?_
      refine Ext.seq ?_
      refine Cod.seq ?_
      refine Cod.seq ?_
      rw [hs, if_pos rfl]
      refine Cod.region ?_
      refine Ops.st (.move rfl) rfl rfl rfl ?_
      refine Ops.st (.move rfl) rfl rfl rfl ?_
      refine Ops.st (.neq rfl rfl) rfl rfl rfl ?_
      refine Ops.st (.move rfl) rfl rfl rfl ?_
      refine Ops.stG rfl rfl rfl rfl (.move rfl) rfl rfl ?_
      refine Ops.stG rfl rfl rfl rfl (.eqPN rfl rfl Tryd.underlying28) rfl rfl ?_
      refine Ops.stG rfl rfl rfl rfl (.move rfl) rfl rfl ?_
      refine Ops.stG rfl rfl rfl rfl (.neq rfl rfl) rfl rfl ?_
      refine Ops.stG rfl rfl rfl rfl (.neB rfl rfl Tryd.underlying4) rfl rfl ?_
      refine Ops.st (.pickF rfl rfl rfl) rfl rfl rfl ?_
      refine Ops.nil ?_
      refine Ext.seq ?_
      refine Cod.condF rfl rfl ?_
      refine Cod.skip ?_
      refine Ext.seq ?_
      refine Cod.seq ?_
      refine Cod.seq ?_
      refine Cod.region ?_
      refine Ops.st (.move rfl) rfl rfl rfl ?_
      refine Ops.st (.eqPN rfl rfl Tryd.underlying28) rfl rfl rfl ?_
      refine Ops.nil ?_
      refine Ext.seq ?_
      refine Cod.condF rfl rfl ?_
      refine Cod.skip ?_
      refine Ext.seq ?_
      refine Cod.seq ?_
      refine Cod.region ?_
      refine Ops.st (.move rfl) rfl rfl rfl ?_
      refine Ops.call ⟨Tryd.call16⟩ rfl rfl rfl (by repeat' first | exact Takes.nil _ | exact TakeP.here _ | apply TakeP.there | apply Takes.cons) (fun F' hF => shaSave_any (m := HM.load bs) ok (hF.hash (m := HM.load bs) (by repeat first | exact TakeP.here _ | apply TakeP.there))) rfl rfl rfl ?_
      rintro sv _ ⟨hsv, rfl⟩
      rw [save_load hs]
      refine Ops.st (.assign rfl) rfl rfl rfl ?_
      refine Ops.nil ?_
      refine Ext.seq ?_
      refine Cod.seq ?_
      refine Cod.region ?_
      refine Ops.st (.move rfl) rfl rfl rfl ?_
      refine Ops.st (.move rfl) rfl rfl rfl ?_
      refine Ops.call ⟨Tryd.call14⟩ rfl rfl rfl (by repeat' first | exact Takes.nil _ | exact TakeP.here _ | apply TakeP.there | apply Takes.cons) (fun F' hF => shaWrite_any (m := HM.load bs) (bs := more) ok (tab.mono hF.hf) (hr2.mono hF.hf) (by omega)) rfl rfl rfl ?_
      rintro _ _ rfl
      refine Ops.nil ?_
      refine Ext.seq ?_
      refine Cod.seq ?_
      refine Cod.region ?_
      refine Ops.st (.move rfl) rfl rfl rfl ?_
      refine Ops.st (.toStr rfl (Rd.vec (v := sv) (by repeat first | exact TakeP.here _ | apply TakeP.there)) Tryd.underlying22 Tryd.underlying5 Tryd.underlying9) rfl rfl rfl ?_
      refine Ops.st (.move rfl) rfl rfl rfl ?_
      refine Ops.st (.toStr rfl (Rd.ro hr) Tryd.underlying22 Tryd.underlying5 Tryd.underlying9) rfl rfl rfl ?_
      refine Ops.st (.eqStr rfl rfl) rfl rfl rfl ?_
      refine Ops.st (.move rfl) rfl rfl rfl ?_
      refine Ops.stG rfl rfl rfl (by simp) (.move rfl) rfl rfl ?_
      refine Ops.callG rfl rfl rfl (by simp) ⟨Tryd.call15⟩ rfl rfl rfl (by repeat' first | exact Takes.nil _ | exact TakeP.here _ | apply TakeP.there | apply Takes.cons) (fun F' hF => shaSum_any (m := (HM.load bs).write more) (ok.write (by omega)) (tab.mono hF.hf) (hF.hash (m := (HM.load bs).write more) (by repeat first | exact TakeP.here _ | apply TakeP.there)) (by show (HM.load bs).long + more.length ≤ _; omega)) rfl rfl ?_
      rintro _ _ ⟨rfl, rfl⟩
      refine Ops.stG rfl rfl rfl (by simp) (.move rfl) rfl rfl ?_
      refine Ops.stG rfl rfl rfl (by simp) (.move rfl) rfl rfl ?_
      refine Ops.callG rfl rfl rfl (by simp) ⟨Tryd.call20⟩ rfl rfl rfl (by repeat' first | exact Takes.nil _ | exact TakeP.here _ | apply TakeP.there | apply Takes.cons) (fun F' hF => refGoes_any (hr.mono hF.hf) (hr2.mono hF.hf) hs (by omega) (by omega)) rfl rfl ?_
      rintro _ _ ⟨rfl, rfl⟩
      refine Ops.stG rfl rfl rfl (by simp) (.eqA8 rfl rfl Tryd.underlying24 Tryd.underlying5 Tryd.sizeOf5 Tryd.eqGuardType24 (HM.sum_len _) (HM.sum_len _)) rfl rfl ?_
      refine Ops.st (.pickT rfl (by simp) rfl) rfl rfl rfl ?_
      refine Ops.st (.assign rfl) rfl rfl rfl ?_
      refine Ops.nil ?_
      refine Ext.seq ?_
      exact Cod.ret (Ext.ret rfl rfl (by simp))
theorem shaLoads_any {F : Fr} {v v2 : Value} {bs more : List UInt8} (tab : Tab F) (hr : SlR F.hf v 1 bs.length (u8s bs)) (hr2 : SlR F.hf v2 1 more.length (u8s more)) : Spec Tryd.prog F 6 [v, v2] [] (fun u _ => u = .bool true) := by
  cases hs : isSave bs
  · exact shaLoadsA_any tab hr hr2 hs
  · exact shaLoadsB_any tab hr hr2 hs
end Go.Proofs.YtdnbnfebapofnaaDoor
