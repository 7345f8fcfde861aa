/- The reference's Save, Is, Goes. No condition. -/
import Derived.Test.YtdnbnfebapofnaaDoorSH
namespace Go.Proofs.YtdnbnfebapofnaaDoor
open Go

set_option maxRecDepth 4000 in
theorem refSave_any {F : Fr} {v : Value} {bs : List UInt8} (hr : SlR F.hf v 1 bs.length (u8s bs)) (hl : bs.length ≤ 1000000000) :
    Spec Tryd.prog F 17 [v] [] (fun u hs' => Sl u ∧ hs' = [vec u 5 1 (HM.new.write bs).save.length (u8s (HM.new.write bs).save)]) := by
  refine Spec.body Tryd.func17 rfl Tryd.ntmps17 rfl ?_
  refine Cod.seq ?_
  refine Cod.region ?_
  refine Ops.st (.assign rfl) rfl rfl rfl ?_
  refine Ops.nil ?_
  refine Ext.seq ?_
  refine Cod.seq ?_
  refine Cod.region ?_
  refine Ops.call ⟨Tryd.call23⟩ rfl rfl rfl (by repeat' first | exact Takes.nil _ | exact TakeP.here _ | apply TakeP.there | apply Takes.cons) (fun F' hF => refStart_any) rfl rfl rfl ?_
  rintro _ _ ⟨rfl, rfl⟩
  refine Ops.ef (.alloc (cs := List.replicate 8 (Value.int .u32 0)) Tryd.zeroValue47 (by kernel_rfl)) rfl rfl rfl ?_
  rintro _ _ ⟨hb, rfl, rfl⟩
  refine Ops.ef10 (.storeA (vs := w32s H0) (cs' := w32s H0) rfl rfl (by repeat first | exact TakeP.here _ | apply TakeP.there) Tryd.sizeOf47 rfl (by decide) (w32s_one H0) rfl) rfl rfl ?_
  refine Ops.nil ?_
  refine Ext.seq ?_
  refine Cod.seq ?_
  refine Cod.region ?_
  refine Ops.st (.assign rfl) rfl rfl rfl ?_
  refine Ops.nil ?_
  refine Ext.seq ?_
  refine Cod.seq ?_
  refine Cod.block ?_
  refine Cod.loop (fun g : Nat × List UInt32 => ⟨64 * g.1 ≤ bs.length ∧ g.2.length = 8 ∧ hfull g.2 (bs.drop (64 * g.1)) = hfull H0 bs, [(0, v), (3, .pointer (some ⟨hb, 0, none⟩)), (4, .int .i64 ((64 * g.1 : Nat) : Int))], [pt hb 47 (w32s g.2)]⟩) (fun g => bs.length - 64 * g.1) (0, H0) ⟨Nat.zero_le _, rfl, rfl⟩ ⟨rfl, rfl, rfl, trivial⟩ (Ent.take (by repeat' first | exact Takes.nil _ | exact TakeP.here _ | apply TakeP.there | apply Takes.cons)) ?_
  rintro ⟨i, st⟩ ⟨hi, hst, hful⟩
  dsimp only
  refine Cod.seq ?_
  refine Cod.seq ?_
  refine Cod.region ?_
  dsimp only at hi hst hful
  refine Ops.st (.move rfl) rfl rfl rfl ?_
  refine Ops.st (.add rfl rfl (by first | exact IntWalk.i64_in _ (by omega) | rfl)) rfl rfl rfl ?_
  refine Ops.st (.move rfl) rfl rfl rfl ?_
  refine Ops.st (.len rfl (Rd.ro hr) Tryd.runUnderlying22) rfl rfl rfl ?_
  refine Ops.st (.leq rfl rfl) rfl rfl rfl ?_
  refine Ops.nil ?_
  refine Ext.seq ?_
  refine Cod.condD rfl (fun h2 => ?_) (fun h2 => ?_)
  ·
    refine Cod.skip ?_
    refine Ext.seq ?_
    refine Cod.block ?_
    refine Cod.seq ?_
    have hi64 : 64 * i + 64 ≤ bs.length := by omega
    have hbl : ((bs.drop (64 * i)).take 64).length = 64 := by rw [List.length_take, List.length_drop]; omega
    refine Cod.regionA mixed (by kernel_rfl) (listed := #[false, false, false, false, false, false, false, false]) ?_
    refine As.take 1 rfl (by kernel_rfl) (by kernel_rfl) (by kernel_rfl) rfl rfl rfl (fun F hs => .move rfl) (by kernel_rfl) (listed' := #[false, true, false, false, false, false, false, false]) ?_
    refine As.take 2 rfl (by kernel_rfl) (by kernel_rfl) (by kernel_rfl) rfl rfl rfl (fun F hs => .move rfl) (by kernel_rfl) (listed' := #[false, true, true, false, false, false, false, false]) ?_
    refine As.take 3 rfl (by kernel_rfl) (by kernel_rfl) (by kernel_rfl) rfl rfl rfl (fun F hs => .move rfl) (by kernel_rfl) (listed' := #[false, true, true, true, false, false, false, false]) ?_
    refine As.take 4 rfl (by kernel_rfl) (by kernel_rfl) (by kernel_rfl) rfl rfl rfl (fun F hs => .add rfl rfl (by first | exact IntWalk.i64_in _ (by omega) | rfl)) (by kernel_rfl) (listed' := #[false, true, true, true, true, false, false, false]) ?_
    refine As.quiet [0, 5, 6] 3 1 rfl ?_
    refine Aq.st (i := 0) ⟨rfl, by kernel_rfl, by kernel_rfl, by kernel_rfl, by kernel_rfl, by kernel_rfl⟩ (.loadPA (ds := w32s st) rfl (by repeat first | exact TakeP.here _ | apply TakeP.there) Tryd.isAgg47 Tryd.sizeOf47 (read0 (by rw [w32s_len, hst])) (by rw [w32s_len, hst])) rfl rfl rfl (by kernel_rfl) (listed' := #[true, true, true, true, true, false, false, false]) ?_
    refine Aq.st (i := 5) ⟨rfl, by kernel_rfl, by kernel_rfl, by kernel_rfl, by kernel_rfl, by kernel_rfl⟩ (.slice_lh (lo := 64 * i) (hi := 64 * i + 64) rfl rfl rfl (Rd.ro hr) Tryd.runUnderlying22 Tryd.sizeOf5 rfl (by omega) (by omega) (by omega)) rfl rfl rfl (by kernel_rfl) (listed' := #[true, true, true, true, true, true, false, false]) ?_
    refine Aq.call (i := 6) ⟨rfl, by kernel_rfl, by kernel_rfl, by kernel_rfl, by kernel_rfl, by kernel_rfl⟩ ⟨Tryd.call24⟩ rfl rfl rfl (by repeat' first | exact Takes.nil _ | exact TakeP.here _ | apply TakeP.there | apply Takes.cons) (fun F' hF => Spec.quiet (refBlock_any (st := st) (blk := (bs.drop (64 * i)).take 64) hst hbl ((hr.cut8 (lo := 64 * i) (hi := 64 * i + 64) (by omega) (by omega) (by rw [Nat.add_sub_cancel_left])).mono hF.hf))) rfl rfl rfl (by kernel_rfl) (listed' := #[true, true, true, true, true, true, true, false]) ?_
    refine Aq.done (by kernel_rfl) ?_
    refine As.one (i := 7) (by kernel_rfl) ?_
    refine Ao.ef10 rfl (.storeA (vs := w32s (hblock st ((bs.drop (64 * i)).take 64))) (cs' := w32s (hblock st ((bs.drop (64 * i)).take 64))) rfl rfl (by repeat first | exact TakeP.here _ | apply TakeP.there) Tryd.sizeOf47 (by rw [w32s_len, hblock_len _ hst]) (fits0 (by rw [w32s_len, hst])) (w32s_one _) (whole (by rw [w32s_len, hst]))) rfl rfl (by kernel_rfl) (listed' := #[true, true, true, true, true, true, true, true]) ?_
    refine As.done (by kernel_rfl) ?_
    refine Ext.seq ?_
    refine Cod.region ?_
    refine Ops.st (.move rfl) rfl rfl rfl ?_
    refine Ops.st (.add rfl rfl (by first | exact IntWalk.i64_in _ (by omega) | rfl)) rfl rfl rfl ?_
    refine Ops.st (.assign rfl) rfl rfl rfl ?_
    refine Ops.nil ?_
    refine Ext.block ?_
    exact Ext.back (i + 1, hblock st ((bs.drop (64 * i)).take 64)) (by dsimp only; omega) ⟨by dsimp only; omega, hblock_len _ hst, by dsimp only; rw [← hful, hfull_at hi64, show 64 * (i + 1) = 64 * i + 64 by omega]⟩ ⟨rfl, rfl, by rw [show ((64 * (i + 1) : Nat) : Int) = ((64 * i : Nat) : Int) + 64 by omega]; rfl, trivial⟩ (Ent.take (by repeat' first | exact Takes.nil _ | exact TakeP.here _ | apply TakeP.there | apply Takes.cons))
  ·
    refine Cod.exit (Ext.seqX (Ext.stopX (Ext.hit ?_)))
    refine Ext.seq ?_
    refine Cod.seq ?_
    refine Cod.region ?_
    have hdl : (bs.drop (64 * i)).length = bs.length - 64 * i := by simp
    rw [hfull_few (by omega)] at hful
    have hm : HM.new.write bs = ⟨st, bs.drop (64 * i), bs.length⟩ := by unfold HM.write HM.new; simp only [List.nil_append, ← hful, Nat.zero_add]
    have hsv : (HM.new.write bs).save = bytes32 st ++ (be64 (UInt64.ofNat bs.length) ++ bs.drop (64 * i)) := by rw [hm]; rfl
    refine Ops.st (.loadPA (ds := w32s st) rfl (by repeat first | exact TakeP.here _ | apply TakeP.there) Tryd.isAgg47 Tryd.sizeOf47 (read0 (by rw [w32s_len, hst])) (by rw [w32s_len, hst])) rfl rfl rfl ?_
    refine Ops.call ⟨Tryd.call25⟩ rfl rfl rfl (by repeat' first | exact Takes.nil _ | exact TakeP.here _ | apply TakeP.there | apply Takes.cons) (fun F' hF => refWords_any hst) rfl rfl rfl ?_
    rintro _ _ ⟨rfl, rfl⟩
    refine Ops.ef (.alloc (cs := List.replicate 32 (Value.int .u8 0)) Tryd.zeroValue24 (by kernel_rfl)) rfl rfl rfl ?_
    rintro _ _ ⟨wb, rfl, rfl⟩
    refine Ops.ef10 (.storeA (vs := u8s (bytes32 st)) (cs' := u8s (bytes32 st)) rfl rfl (by repeat first | exact TakeP.here _ | apply TakeP.there) Tryd.sizeOf24 (by rw [u8s_len, bytes32_len]) (by simp) (u8s_one _) (whole (by simp))) rfl rfl ?_
    refine Ops.nil ?_
    refine Ext.seq ?_
    refine Cod.seq ?_
    refine Cod.region ?_
    refine Ops.ef (.lit1 (vs := []) ei22 rfl rfl rfl One.nil) rfl rfl rfl ?_
    rintro ev0 _ ⟨hev0, rfl⟩
    refine Ops.st (.sliceArr rfl Tryd.runUnderlying24 Tryd.sizeOf5) rfl rfl rfl ?_
    refine Ops.ef (.append (v := ev0) rfl rfl (by repeat first | exact TakeP.here _ | apply TakeP.there) (Rd.pt (b := wb) (o := 0) (xs := u8s (bytes32 st)) (by repeat first | exact TakeP.here _ | apply TakeP.there) (by rw [u8s_len, bytes32_len]) (Nat.le_refl _) (by decide) (u8s_one _) (fun i u hi => by rw [Nat.zero_add]; exact hi)) ei22 (by omega) (by simp only [maxLen]; omega)) rfl rfl rfl ?_
    rintro av0 _ ⟨hav0, rfl⟩
    refine Ops.st (.assign rfl) rfl rfl rfl ?_
    refine Ops.nil ?_
    refine Ext.seq ?_
    refine Cod.seq ?_
    refine Cod.region ?_
    refine Ops.st (.move rfl) rfl rfl rfl ?_
    refine Ops.st (.move rfl) rfl rfl rfl ?_
    refine Ops.st (.len rfl (Rd.ro hr) Tryd.runUnderlying22) rfl rfl rfl ?_
    refine Ops.st (.convI_64 rfl rfl Tryd.underlying3 Tryd.underlying45) rfl rfl rfl ?_
    refine Ops.call ⟨Tryd.call22⟩ rfl rfl rfl (by repeat' first | exact Takes.nil _ | exact TakeP.here _ | apply TakeP.there | apply Takes.cons) (fun F' hF => refEight_any) rfl rfl rfl ?_
    rintro ev1 _ ⟨hev1, rfl⟩
    refine Ops.ef (.append (v := av0) rfl rfl (by repeat first | exact TakeP.here _ | apply TakeP.there) (Rd.vec (v := ev1) (by repeat first | exact TakeP.here _ | apply TakeP.there)) ei22 (by omega) (by simp only [maxLen]; omega)) rfl rfl rfl ?_
    rintro av1 _ ⟨hav1, rfl⟩
    refine Ops.st (.assign rfl) rfl rfl rfl ?_
    refine Ops.nil ?_
    refine Ext.seq ?_
    refine Cod.seq ?_
    refine Cod.region ?_
    refine Ops.st (.move rfl) rfl rfl rfl ?_
    refine Ops.st (.move rfl) rfl rfl rfl ?_
    refine Ops.st (.move rfl) rfl rfl rfl ?_
    refine Ops.st (.slice_l (lo := 64 * i) rfl rfl (Rd.ro hr) Tryd.runUnderlying22 Tryd.sizeOf5 rfl (by omega)) rfl rfl rfl ?_
    refine Ops.ef (.append (v := av1) rfl rfl (by repeat first | exact TakeP.here _ | apply TakeP.there) ((Rd.ro hr).cut8 (lo := 64 * i) (by omega) (Nat.le_refl _) take_all8) ei22 (by omega) (by simp only [maxLen]; omega)) rfl rfl rfl ?_
    rintro av2 _ ⟨hav2, rfl⟩
    rw [show [] ++ u8s (bytes32 st) ++ u8s (be64 (UInt64.ofNat bs.length)) ++ u8s (bs.drop (64 * i)) = u8s (HM.new.write bs).save from by rw [hsv, List.nil_append, ← u8s_app, ← u8s_app, List.append_assoc], show 0 + 32 + 8 + (bs.drop (64 * i)).length = (HM.new.write bs).save.length from by rw [hsv]; simp only [List.length_append, bytes32_len, be64_len]; omega]
    refine Ops.st (.assign rfl) rfl rfl rfl ?_
    refine Ops.nil ?_
    refine Ext.seq ?_
    exact Cod.ret (Ext.retE rfl rfl (Ent.take (by repeat' first | exact Takes.nil _ | exact TakeP.here _ | apply TakeP.there | apply Takes.cons)) (⟨hav2, rfl⟩))

/-- The number of bytes, as it comes. -/
def mul8 (bs : List UInt8) (k : Nat) : Nat → UInt64
  | 0 => 0
  | i + 1 => mul8 bs k i * 256 + (bs.getD (k + i) 0).toUInt64
theorem num64_nat (bs : List UInt8) : (num64 bs).toNat = (wordAt bs 32).toNat * 4294967296 + (wordAt bs 36).toNat := by
  have h1 := (wordAt bs 32).toNat_lt
  have h2 := (wordAt bs 36).toNat_lt
  rw [num64, UInt64.toNat_or, UInt64.toNat_shiftLeft, UInt32.toNat_toUInt64, UInt32.toNat_toUInt64]
  have h3 : (UInt64.ofNat 32).toNat % 64 = 32 := rfl
  rw [h3, Nat.shiftLeft_eq, Nat.mod_eq_of_lt (by omega), Nat.mul_comm, ← Nat.two_pow_add_eq_or_of_lt (by omega)]
theorem mul8_num (bs : List UInt8) : mul8 bs 32 8 = num64 bs := by
  apply UInt64.toNat_inj.1
  rw [num64_nat, wordAt, wordAt, word4_nat, word4_nat]
  simp only [mul8, Nat.add_zero]
  generalize bs.getD 32 0 = a
  generalize bs.getD (32 + 1) 0 = b
  generalize bs.getD (32 + 2) 0 = c
  generalize bs.getD (32 + 3) 0 = d
  generalize he : bs.getD (32 + 4) 0 = e
  generalize hf : bs.getD (32 + 5) 0 = f
  generalize hg : bs.getD (32 + 6) 0 = g
  generalize hh : bs.getD (32 + 7) 0 = h
  have h1 := a.toNat_lt; have h2 := b.toNat_lt; have h3 := c.toNat_lt; have h4 := d.toNat_lt
  have h5 := e.toNat_lt; have h6 := f.toNat_lt; have h7 := g.toNat_lt; have h8 := h.toNat_lt
  simp only [UInt64.toNat_add, UInt64.toNat_mul, UInt8.toNat_toUInt64]
  have q : (256 : UInt64).toNat = 256 := rfl
  have z : (0 : UInt64).toNat = 0 := rfl
  rw [q, z]
  omega
theorem refIs_any {F : Fr} {v : Value} {bs : List UInt8} (hr : SlR F.hf v 1 bs.length (u8s bs)) :
    Spec Tryd.prog F 19 [v] [] (fun u hs' => u = .int .i64 (if isSave bs = true then 0 else 2) ∧ hs' = []) := by
  have hsm := hr.small
  refine Spec.body Tryd.func19 rfl Tryd.ntmps19 rfl ?_
  refine Cod.seq ?_
  refine Cod.region ?_
  refine Ops.st (.assign rfl) rfl rfl rfl ?_
  refine Ops.nil ?_
  refine Ext.seq ?_
  refine Cod.seq ?_
  refine Cod.seq ?_
  refine Cod.region ?_
  refine Ops.st (.move rfl) rfl rfl rfl ?_
  refine Ops.st (.len rfl (Rd.ro hr) Tryd.runUnderlying22) rfl rfl rfl ?_
  refine Ops.st (.lss rfl rfl) rfl rfl rfl ?_
  refine Ops.nil ?_
  refine Ext.seq ?_
  refine Cod.condD rfl (fun h0 => ?_) (fun h0 => ?_)
  ·
    refine Cod.seq ?_
    refine Cod.region ?_
    refine Ops.st (.assign rfl) rfl rfl rfl ?_
    refine Ops.nil ?_
    refine Ext.seq ?_
    exact Cod.ret (Ext.seqR (Ext.ret rfl rfl ⟨by rw [show isSave bs = false from by rw [isSave, decide_eq_false (by omega)]; rfl]; rfl, rfl⟩))
  ·
    refine Cod.skip ?_
    refine Ext.seq ?_
    refine Cod.seq ?_
    refine Cod.region ?_
    refine Ops.st (.assign (show _ = some (W64 0) from rfl)) rfl rfl rfl ?_
    refine Ops.nil ?_
    refine Ext.seq ?_
    refine Cod.seq ?_
    refine Cod.seq ?_
    refine Cod.region ?_
    refine Ops.st (.assign rfl) rfl rfl rfl ?_
    refine Ops.nil ?_
    refine Ext.seq ?_
    refine Cod.block ?_
    refine Cod.loop (fun i : Nat => ⟨i ≤ 8, [(0, v), (3, W64 (mul8 bs 32 i)), (4, .int .i64 ((32 + i : Nat) : Int))], []⟩) (fun i => 8 - i) 0 (Nat.zero_le _) ⟨rfl, rfl, rfl, trivial⟩ (Ent.nil _) ?_
    rintro i hi
    dsimp only
    refine Cod.seq ?_
    refine Cod.seq ?_
    refine Cod.region ?_
    refine Ops.st (.move rfl) rfl rfl rfl ?_
    refine Ops.st (.lss rfl rfl) rfl rfl rfl ?_
    refine Ops.nil ?_
    refine Ext.seq ?_
    refine Cod.condD rfl (fun h1 => ?_) (fun h1 => ?_)
    ·
      refine Cod.skip ?_
      refine Ext.seq ?_
      refine Cod.seq ?_
      refine Cod.block ?_
      refine Cod.region ?_
      refine Ops.st (.move rfl) rfl rfl rfl ?_
      refine Ops.st (.mulW64 rfl (show _ = some (W64 256) from rfl)) rfl rfl rfl ?_
      refine Ops.st (.move rfl) rfl rfl rfl ?_
      refine Ops.st (.move rfl) rfl rfl rfl ?_
      refine Ops.st (.indexAddr (j := 32 + i) (off := 32 + i) rfl rfl (Rd.ro hr) Tryd.runUnderlying22 Tryd.sizeOf5 rfl (by omega) (by omega)) rfl rfl rfl ?_
      refine Ops.st (.load_elem rfl (Rd.ro hr) Tryd.isAgg5 (u8s_getD (by omega))) rfl rfl rfl ?_
      refine Ops.st (.convW8_64 rfl Tryd.underlying5 Tryd.underlying45) rfl rfl rfl ?_
      refine Ops.st (.addW64 rfl rfl) rfl rfl rfl ?_
      refine Ops.st (.assign rfl) rfl rfl rfl ?_
      refine Ops.nil ?_
      refine Ext.block ?_
      refine Ext.seq ?_
      refine Cod.region ?_
      refine Ops.st (.move rfl) rfl rfl rfl ?_
      refine Ops.st (.add rfl rfl (by first | exact IntWalk.i64_in _ (by omega) | rfl)) rfl rfl rfl ?_
      refine Ops.st (.assign rfl) rfl rfl rfl ?_
      refine Ops.nil ?_
      exact Ext.back (i + 1) (by omega) (by omega) ⟨rfl, rfl, rfl, trivial⟩ (Ent.nil _)
    ·
      refine Cod.exit (Ext.seqX (Ext.stopX (Ext.hit ?_)))
      refine Ext.seq ?_
      refine Cod.seq ?_
      refine Cod.seq ?_
      refine Cod.region ?_
      obtain rfl : i = 8 := by omega
      rw [mul8_num]
      refine Ops.st (.move rfl) rfl rfl rfl ?_
      refine Ops.st (.gtr rfl rfl) rfl rfl rfl ?_
      refine Ops.st (.move rfl) rfl rfl rfl ?_
      refine Ops.splitD (t := 22) rfl (fun h2 => ?_) (fun h2 => ?_)
      ·
        refine Ops.skipG rfl rfl rfl (decide_eq_true h2) rfl rfl ?_
        refine Ops.skipG rfl rfl rfl (decide_eq_true h2) rfl rfl ?_
        refine Ops.skipG rfl rfl rfl (decide_eq_true h2) rfl rfl ?_
        refine Ops.skipG rfl rfl rfl (decide_eq_true h2) rfl rfl ?_
        refine Ops.skipG rfl rfl rfl (decide_eq_true h2) rfl rfl ?_
        refine Ops.skipG rfl rfl rfl (decide_eq_true h2) rfl rfl ?_
        refine Ops.skipG rfl rfl rfl (decide_eq_true h2) rfl rfl ?_
        refine Ops.st (.pickT rfl (decide_eq_true h2) rfl) rfl rfl rfl ?_
        refine Ops.nil ?_
        refine Ext.seq ?_
        refine Cod.condT rfl rfl ?_
        refine Cod.seq ?_
        refine Cod.region ?_
        refine Ops.st (.assign rfl) rfl rfl rfl ?_
        refine Ops.nil ?_
        refine Ext.seq ?_
        exact Cod.ret (Ext.seqR (Ext.ret rfl rfl ⟨by rw [show isSave bs = false from by rw [isSave, decide_eq_false (by omega : ¬ (num64 bs).toNat ≤ 1099511627776)]; simp]; rfl, rfl⟩))
      ·
        refine Ops.stG rfl rfl rfl (decide_eq_false h2) (.move rfl) rfl rfl ?_
        refine Ops.stG rfl rfl rfl (decide_eq_false h2) (.len rfl (Rd.ro hr) Tryd.runUnderlying22) rfl rfl ?_
        refine Ops.stG rfl rfl rfl (decide_eq_false h2) (.sub rfl rfl (by first | exact IntWalk.i64_in _ (by omega) | rfl)) rfl rfl ?_
        refine Ops.stG rfl rfl rfl (decide_eq_false h2) (.convI_64 (a := bs.length - 40) rfl (by omega) Tryd.underlying3 Tryd.underlying45) rfl rfl ?_
        refine Ops.stG rfl rfl rfl (decide_eq_false h2) (.move rfl) rfl rfl ?_
        refine Ops.stG rfl rfl rfl (decide_eq_false h2) (.remW64 rfl (show _ = some (W64 64) from rfl) (by decide)) rfl rfl ?_
        refine Ops.stG rfl rfl rfl (decide_eq_false h2) (.neqW64 rfl rfl) rfl rfl ?_
        refine Ops.st (.pickF rfl (decide_eq_false h2) rfl) rfl rfl rfl ?_
        refine Ops.nil ?_
        refine Ext.seq ?_
        refine Cod.condD rfl (fun h3 => ?_) (fun h3 => ?_)
        ·
          refine Cod.seq ?_
          refine Cod.region ?_
          refine Ops.st (.assign rfl) rfl rfl rfl ?_
          refine Ops.nil ?_
          refine Ext.seq ?_
          exact Cod.ret (Ext.seqR (Ext.ret rfl rfl ⟨by rw [show isSave bs = false from by rw [isSave, decide_eq_false h3]; simp]; rfl, rfl⟩))
        ·
          refine Cod.skip ?_
          refine Ext.seq ?_
          refine Cod.seq ?_
          refine Cod.region ?_
          refine Ops.st (.assign rfl) rfl rfl rfl ?_
          refine Ops.nil ?_
          refine Ext.seq ?_
          exact Cod.ret (Ext.ret rfl rfl ⟨by rw [show isSave bs = true from by rw [isSave]; simp only [Bool.and_eq_true, decide_eq_true_eq]; exact ⟨by omega, by omega, by simpa using h3⟩]; rfl, rfl⟩)
end Go.Proofs.YtdnbnfebapofnaaDoor
