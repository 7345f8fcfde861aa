/- The reference's hash: Sum, Save, Is, Goes. No condition. -/
import Derived.Test.YtdnbnfebapofnaaDoorSG
namespace Go.Proofs.YtdnbnfebapofnaaDoor
open Go

/-- Noughts up to a length that leaves 56. -/
def zerosTo (n : Nat) : Nat := (119 - n % 64) % 64
theorem zerosTo_mod (n : Nat) : (n + 1 + zerosTo n) % 64 = 56 := by unfold zerosTo; omega
theorem pad_eq (long fill : Nat) (h : long % 64 = fill) (n : Nat) : padOf fill n = 128 :: (List.replicate (zerosTo long) 0 ++ be64 (8 * UInt64.ofNat n)) := by rw [padOf, zerosTo, h]
/-- The hash of bytes. -/
def hashOf (b : List UInt8) : List UInt8 := (HM.new.write b).sum
theorem hashOf_len (b : List UInt8) : (hashOf b).length = 32 := HM.sum_len _
theorem new_write_long (b : List UInt8) : (HM.new.write b).long = b.length := by simp [HM.write, HM.new]
/-- What a state comes to behind bytes that are whole blocks. -/
theorem sum_eq {m : HM} (ok : m.Ok) {n : Nat} (hn : m.long = n) : m.sum = bytes32 (hfull m.st (m.buf ++ 128 :: (List.replicate (zerosTo n) 0 ++ be64 (8 * UInt64.ofNat n)))).1 := by
  subst hn
  rw [HM.sum, pad_eq m.long m.buf.length ok.mod]
  rfl
theorem hashOf_eq (b : List UInt8) (hb : b.length ≤ 1000000000) : hashOf b = bytes32 (hfull H0 (b ++ 128 :: (List.replicate (zerosTo b.length) 0 ++ be64 (8 * UInt64.ofNat b.length)))).1 := by
  have ok : (HM.new.write b).Ok := HM.new_ok.write (by simp [HM.new]; omega)
  rw [hashOf, sum_eq ok (new_write_long b)]
  have h := hfull_app (st := H0) (xs := b) (ys := 128 :: (List.replicate (zerosTo b.length) 0 ++ be64 (8 * UInt64.ofNat b.length))) b.length rfl
  rw [h]
  rfl

/-- Blocks of bytes, one behind the other: so far. -/
theorem hfull_at {st : List UInt32} {all : List UInt8} {i : Nat} (h : i + 64 ≤ all.length) : hfull st (all.drop i) = hfull (hblock st ((all.drop i).take 64)) (all.drop (i + 64)) := by
  rw [hfull_more (by rw [List.length_drop]; omega), List.drop_drop]

set_option maxRecDepth 4000 in
theorem refSum_any {F : Fr} {v : Value} {bs : List UInt8} (hr : SlR F.hf v 1 bs.length (u8s bs)) (hl : bs.length ≤ 1000000000) :
    Spec Tryd.prog F 12 [v] [] (fun u hs' => u = .agg (u8s (hashOf bs)).toArray ∧ hs' = []) := by
  obtain ⟨z, hz⟩ : ∃ z, z = zerosTo bs.length := ⟨_, rfl⟩
  have hz2 := zerosTo_mod bs.length
  have hz3 : zerosTo bs.length < 64 := Nat.mod_lt _ (by decide)
  rw [← hz] at hz2 hz3
  refine Spec.body Tryd.func12 rfl Tryd.ntmps12 rfl ?_
  refine Cod.seq ?_
  refine Cod.region ?_
  refine Ops.ef (.alloc (cs := List.replicate 32 (Value.int .u8 0)) Tryd.zeroValue24 (by kernel_rfl)) rfl rfl rfl ?_
  rintro _ _ ⟨rb, rfl, rfl⟩
  refine Ops.nil ?_
  refine Ext.seq ?_
  refine Cod.seq ?_
  refine Cod.region ?_
  refine Ops.ef (.lit1 (vs := []) ei22 rfl rfl rfl One.nil) rfl rfl rfl ?_
  rintro ev0 _ ⟨hev0, rfl⟩
  refine Ops.st (.move rfl) rfl rfl rfl ?_
  refine Ops.ef (.append (v := ev0) rfl rfl (by repeat first | exact TakeP.here _ | apply TakeP.there) (Rd.ro hr) ei22 (by omega) (by simp only [maxLen]; omega)) rfl rfl rfl ?_
  rintro av0 _ ⟨hav0, rfl⟩
  refine Ops.st (.assign rfl) rfl rfl rfl ?_
  refine Ops.nil ?_
  refine Ext.seq ?_
  refine Cod.seq ?_
  refine Cod.region ?_
  refine Ops.st (.move rfl) rfl rfl rfl ?_
  refine Ops.ef (.lit1 ei22 rfl rfl rfl (by repeat' first | exact One.nil | apply One.cons rfl | (apply One.cons (Sl.one (by assumption))))) rfl rfl rfl ?_
  rintro l1 _ ⟨hl1, rfl⟩
  refine Ops.ef (.append (v := av0) rfl rfl (by repeat first | exact TakeP.here _ | apply TakeP.there) (Rd.vec (v := l1) (by repeat first | exact TakeP.here _ | apply TakeP.there)) ei22 (by omega) (by simp only [maxLen]; omega)) rfl rfl rfl ?_
  rintro av1 _ ⟨hav1, rfl⟩
  have hc1 : ([] ++ u8s bs) ++ [Value.int .u8 128] = u8s (bs ++ 128 :: List.replicate 0 0) := by rw [u8s_app]; rfl
  rw [hc1, show 0 + bs.length + 1 = bs.length + 1 + 0 by omega]
  refine Ops.st (.assign rfl) rfl rfl rfl ?_
  refine Ops.nil ?_
  refine Ext.seq ?_
  refine Cod.seq ?_
  refine Cod.block ?_
  refine Cod.loop (fun g : Nat × Value => ⟨g.1 ≤ z ∧ Sl g.2, [(0, v), (2, .pointer (some ⟨rb, 0, none⟩)), (3, g.2)], [pt rb 24 (List.replicate 32 (Value.int .u8 0)), vec g.2 5 1 (bs.length + 1 + g.1) (u8s (bs ++ 128 :: List.replicate g.1 0))]⟩) (fun g => z - g.1) (0, av1) ⟨Nat.zero_le _, hav1⟩ ⟨rfl, rfl, rfl, trivial⟩ (Ent.take (by repeat' first | exact Takes.nil _ | exact TakeP.here _ | apply TakeP.there | apply Takes.cons)) ?_
  rintro ⟨k, av⟩ ⟨hk, hav⟩
  dsimp only
  refine Cod.seq ?_
  refine Cod.seq ?_
  refine Cod.region ?_
  dsimp only at hk hav
  refine Ops.st (.move rfl) rfl rfl rfl ?_
  refine Ops.st (.len rfl (Rd.vec (v := av) (by repeat first | exact TakeP.here _ | apply TakeP.there)) Tryd.runUnderlying22) rfl rfl rfl ?_
  refine Ops.st (.rem (r := (((bs.length + 1 + k) % 64 : Nat) : Int)) rfl rfl (by decide) (by rw [Int.tmod_eq_emod_of_nonneg (by omega)]; omega)) rfl rfl rfl ?_
  refine Ops.st (.neq rfl rfl) rfl rfl rfl ?_
  refine Ops.nil ?_
  refine Ext.seq ?_
  refine Cod.condD rfl (fun h1 => ?_) (fun h1 => ?_)
  ·
    refine Cod.skip ?_
    refine Ext.seq ?_
    refine Cod.block ?_
    refine Cod.region ?_
    refine Ops.st (.move rfl) rfl rfl rfl ?_
    refine Ops.ef (.lit1 ei22 rfl rfl rfl (by repeat' first | exact One.nil | apply One.cons rfl | (apply One.cons (Sl.one (by assumption))))) rfl rfl rfl ?_
    rintro l2 _ ⟨hl2, rfl⟩
    refine Ops.ef (.append (v := av) rfl rfl (by repeat first | exact TakeP.here _ | apply TakeP.there) (Rd.vec (v := l2) (by repeat first | exact TakeP.here _ | apply TakeP.there)) ei22 (by omega) (by simp only [maxLen]; omega)) rfl rfl rfl ?_
    rintro av2 _ ⟨hav2, rfl⟩
    have hkz : k < z := by omega
    refine Ops.st (.assign rfl) rfl rfl rfl ?_
    refine Ops.nil ?_
    refine Ext.block ?_
    exact Ext.back (k + 1, av2) (by dsimp only; omega) ⟨by dsimp only; omega, hav2⟩ ⟨rfl, rfl, rfl, trivial⟩ (by dsimp only; rw [show u8s (bs ++ 128 :: List.replicate (k + 1) 0) = u8s (bs ++ 128 :: List.replicate k 0) ++ [Value.int .u8 0] from by rw [List.replicate_succ', ← List.cons_append, ← List.append_assoc, u8s_app]; rfl, show bs.length + 1 + (k + 1) = bs.length + 1 + k + 1 by omega]; exact Ent.take (by repeat' first | exact Takes.nil _ | exact TakeP.here _ | apply TakeP.there | apply Takes.cons))
  ·
    refine Cod.exit (Ext.seqX (Ext.stopX (Ext.hit ?_)))
    refine Ext.seq ?_
    refine Cod.seq ?_
    refine Cod.region ?_
    have hkz : k = z := by unfold zerosTo at hz; omega
    subst hkz
    obtain ⟨all, hall⟩ : ∃ all, all = bs ++ 128 :: (List.replicate k 0 ++ be64 (8 * UInt64.ofNat bs.length)) := ⟨_, rfl⟩
    have hal : all.length = bs.length + 1 + k + 8 := by rw [hall]; simp only [List.length_append, List.length_cons, List.length_replicate, be64_len]; omega
    refine Ops.st (.move rfl) rfl rfl rfl ?_
    refine Ops.st (.move rfl) rfl rfl rfl ?_
    refine Ops.st (.len rfl (Rd.ro hr) Tryd.runUnderlying22) rfl rfl rfl ?_
    refine Ops.st (.convI_64 rfl rfl Tryd.underlying3 Tryd.underlying45) rfl rfl rfl ?_
    refine Ops.st (.mulW64 (show _ = some (W64 8) from rfl) rfl) rfl rfl rfl ?_
    refine Ops.call ⟨Tryd.call22⟩ rfl rfl rfl (by repeat' first | exact Takes.nil _ | exact TakeP.here _ | apply TakeP.there | apply Takes.cons) (fun F' hF => refEight_any) rfl rfl rfl ?_
    rintro ev1 _ ⟨hev1, rfl⟩
    refine Ops.ef (.append (v := av) rfl rfl (by repeat first | exact TakeP.here _ | apply TakeP.there) (Rd.vec (v := ev1) (by repeat first | exact TakeP.here _ | apply TakeP.there)) ei22 (by omega) (by simp only [maxLen]; omega)) rfl rfl rfl ?_
    rintro wv _ ⟨hwv, rfl⟩
    rw [show u8s (bs ++ 128 :: List.replicate k 0) ++ u8s (be64 (8 * UInt64.ofNat bs.length)) = u8s all from by rw [hall, ← u8s_app]; simp, ← hal]
    refine Ops.st (.assign rfl) rfl rfl rfl ?_
    refine Ops.nil ?_
    refine Ext.seq ?_
    refine Cod.seq ?_
    refine Cod.region ?_
    refine Ops.call ⟨Tryd.call23⟩ rfl rfl rfl (by repeat' first | exact Takes.nil _ | exact TakeP.here _ | apply TakeP.there | apply Takes.cons) (fun F' hF => refStart_any) rfl rfl rfl ?_
    rintro _ _ ⟨rfl, rfl⟩
    refine Ops.ef (.alloc (cs := List.replicate 8 (Value.int .u32 0)) Tryd.zeroValue47 (by kernel_rfl)) rfl rfl rfl ?_
    rintro _ _ ⟨hb, rfl, rfl⟩
    refine Ops.ef10 (.storeA (vs := w32s H0) (cs' := w32s H0) rfl rfl (by repeat first | exact TakeP.here _ | apply TakeP.there) Tryd.sizeOf47 rfl (by decide) (w32s_one H0) rfl) rfl rfl ?_
    refine Ops.nil ?_
    refine Ext.seq ?_
    refine Cod.seq ?_
    refine Cod.seq ?_
    refine Cod.region ?_
    refine Ops.st (.assign rfl) rfl rfl rfl ?_
    refine Ops.nil ?_
    refine Ext.seq ?_
    refine Cod.block ?_
    refine Cod.loop (fun g : Nat × List UInt32 => ⟨64 * g.1 ≤ all.length ∧ g.2.length = 8 ∧ hfull g.2 (all.drop (64 * g.1)) = hfull H0 all, [(2, .pointer (some ⟨rb, 0, none⟩)), (3, wv), (4, .pointer (some ⟨hb, 0, none⟩)), (5, .int .i64 ((64 * g.1 : Nat) : Int))], [pt rb 24 (List.replicate 32 (Value.int .u8 0)), vec wv 5 1 all.length (u8s all), pt hb 47 (w32s g.2)]⟩) (fun g => all.length - 64 * g.1) (0, H0) ⟨Nat.zero_le _, rfl, rfl⟩ ⟨rfl, rfl, rfl, rfl, trivial⟩ (Ent.take (by repeat' first | exact Takes.nil _ | exact TakeP.here _ | apply TakeP.there | apply Takes.cons)) ?_
    rintro ⟨i, st⟩ ⟨hi, hst, hful⟩
    dsimp only
    refine Cod.seq ?_
    refine Cod.seq ?_
    refine Cod.region ?_
    dsimp only at hi hst hful
    refine Ops.st (.move rfl) rfl rfl rfl ?_
    refine Ops.st (.move rfl) rfl rfl rfl ?_
    refine Ops.st (.len rfl (Rd.vec (v := wv) (by repeat first | exact TakeP.here _ | apply TakeP.there)) Tryd.runUnderlying22) rfl rfl rfl ?_
    refine Ops.st (.lss rfl rfl) rfl rfl rfl ?_
    refine Ops.nil ?_
    refine Ext.seq ?_
    refine Cod.condD rfl (fun h2 => ?_) (fun h2 => ?_)
    ·
      refine Cod.skip ?_
      refine Ext.seq ?_
      refine Cod.seq ?_
      refine Cod.block ?_
      have hi64 : 64 * i + 64 ≤ all.length := by omega
      have hbl : ((all.drop (64 * i)).take 64).length = 64 := by rw [List.length_take, List.length_drop]; omega
      refine Cod.regionA mixed (by kernel_rfl) (listed := #[false, false, false, false, false, false, false, false]) ?_
      refine As.take 1 rfl (by kernel_rfl) (by kernel_rfl) (by kernel_rfl) rfl rfl rfl (fun F hs => .move rfl) (by kernel_rfl) (listed' := #[false, true, false, false, false, false, false, false]) ?_
      refine As.take 2 rfl (by kernel_rfl) (by kernel_rfl) (by kernel_rfl) rfl rfl rfl (fun F hs => .move rfl) (by kernel_rfl) (listed' := #[false, true, true, false, false, false, false, false]) ?_
      refine As.take 3 rfl (by kernel_rfl) (by kernel_rfl) (by kernel_rfl) rfl rfl rfl (fun F hs => .move rfl) (by kernel_rfl) (listed' := #[false, true, true, true, false, false, false, false]) ?_
      refine As.take 4 rfl (by kernel_rfl) (by kernel_rfl) (by kernel_rfl) rfl rfl rfl (fun F hs => .add rfl rfl (by first | exact IntWalk.i64_in _ (by omega) | rfl)) (by kernel_rfl) (listed' := #[false, true, true, true, true, false, false, false]) ?_
      refine As.quiet [0, 5, 6] 3 1 rfl ?_
      refine Aq.st (i := 0) ⟨rfl, by kernel_rfl, by kernel_rfl, by kernel_rfl, by kernel_rfl, by kernel_rfl⟩ (.loadPA (ds := w32s st) rfl (by repeat first | exact TakeP.here _ | apply TakeP.there) Tryd.isAgg47 Tryd.sizeOf47 (by rw [List.drop_zero, List.take_of_length_le (by rw [w32s_len, hst]; exact Nat.le_refl _)]) (by rw [w32s_len, hst])) rfl rfl rfl (by kernel_rfl) (listed' := #[true, true, true, true, true, false, false, false]) ?_
      refine Aq.st (i := 5) ⟨rfl, by kernel_rfl, by kernel_rfl, by kernel_rfl, by kernel_rfl, by kernel_rfl⟩ (.slice_lh (lo := 64 * i) (hi := 64 * i + 64) rfl rfl rfl (Rd.vec (v := wv) (by repeat first | exact TakeP.here _ | apply TakeP.there)) Tryd.runUnderlying22 Tryd.sizeOf5 rfl (by omega) (by omega) (by omega)) rfl rfl rfl (by kernel_rfl) (listed' := #[true, true, true, true, true, true, false, false]) ?_
      refine Aq.call (i := 6) ⟨rfl, by kernel_rfl, by kernel_rfl, by kernel_rfl, by kernel_rfl, by kernel_rfl⟩ ⟨Tryd.call24⟩ rfl rfl rfl (by repeat' first | exact Takes.nil _ | exact TakeP.here _ | apply TakeP.there | apply Takes.cons) (fun F' hF => Spec.quiet (refBlock_any (st := st) (blk := (all.drop (64 * i)).take 64) hst hbl (((Rd.vec (v := wv) (by repeat first | exact TakeP.here _ | apply TakeP.there)).cut8 (lo := 64 * i) (hi := 64 * i + 64) (by omega) (by omega) (by rw [Nat.add_sub_cancel_left])).wider hF))) rfl rfl rfl (by kernel_rfl) (listed' := #[true, true, true, true, true, true, true, false]) ?_
      refine Aq.done (by kernel_rfl) ?_
      refine As.one (i := 7) (by kernel_rfl) ?_
      refine Ao.ef10 rfl (.storeA (vs := w32s (hblock st ((all.drop (64 * i)).take 64))) (cs' := w32s (hblock st ((all.drop (64 * i)).take 64))) rfl rfl (by repeat first | exact TakeP.here _ | apply TakeP.there) Tryd.sizeOf47 (by rw [w32s_len, hblock_len _ hst]) (fits0 (by rw [w32s_len, hst])) (w32s_one _) (whole (by rw [w32s_len, hst]))) rfl rfl (by kernel_rfl) (listed' := #[true, true, true, true, true, true, true, true]) ?_
      refine As.done (by kernel_rfl) ?_
      refine Ext.block ?_
      refine Ext.seq ?_
      refine Cod.region ?_
      refine Ops.st (.move rfl) rfl rfl rfl ?_
      refine Ops.st (.add rfl rfl (by first | exact IntWalk.i64_in _ (by omega) | rfl)) rfl rfl rfl ?_
      refine Ops.st (.assign rfl) rfl rfl rfl ?_
      refine Ops.nil ?_
      exact Ext.back (i + 1, hblock st ((all.drop (64 * i)).take 64)) (by dsimp only; omega) ⟨by dsimp only; omega, hblock_len _ hst, by dsimp only; rw [← hful, hfull_at hi64, show 64 * (i + 1) = 64 * i + 64 by omega]⟩ ⟨rfl, rfl, rfl, by rw [show ((64 * (i + 1) : Nat) : Int) = ((64 * i : Nat) : Int) + 64 by omega]; rfl, trivial⟩ (Ent.take (by repeat' first | exact Takes.nil _ | exact TakeP.here _ | apply TakeP.there | apply Takes.cons))
    ·
      refine Cod.exit (Ext.seqX (Ext.stopX (Ext.hit ?_)))
      refine Ext.seq ?_
      refine Cod.seq ?_
      refine Cod.region ?_
      have hdr : all.drop (64 * i) = [] := List.drop_of_length_le (by omega)
      rw [hdr, hfull_few (by decide)] at hful
      have hsum : hashOf bs = bytes32 st := by rw [hashOf_eq bs hl, ← hz, ← hall, ← hful]
      refine Ops.st (.loadPA (ds := w32s st) rfl (by repeat first | exact TakeP.here _ | apply TakeP.there) Tryd.isAgg47 Tryd.sizeOf47 (by rw [List.drop_zero, List.take_of_length_le (by rw [w32s_len, hst]; exact Nat.le_refl _)]) (by rw [w32s_len, hst])) rfl rfl rfl ?_
      refine Ops.call ⟨Tryd.call25⟩ rfl rfl rfl (by repeat' first | exact Takes.nil _ | exact TakeP.here _ | apply TakeP.there | apply Takes.cons) (fun F' hF => refWords_any hst) rfl rfl rfl ?_
      rintro _ _ ⟨rfl, rfl⟩
      have hlen : (u8s (bytes32 st)).length = 32 := by rw [u8s_len, bytes32_len]
      refine Ops.ef10 (.storeA (vs := u8s (bytes32 st)) (cs' := u8s (bytes32 st)) rfl rfl (by repeat first | exact TakeP.here _ | apply TakeP.there) Tryd.sizeOf24 (by rw [u8s_len, bytes32_len]) (by simp) (u8s_one _) (by rw [List.take_zero, List.nil_append, List.drop_of_length_le (by simp), List.append_nil])) rfl rfl ?_
      refine Ops.nil ?_
      refine Ext.seq ?_
      exact Cod.ret (Ext.retCE rfl rfl (by repeat first | exact TakeP.here _ | apply TakeP.there) Tryd.isAgg24 Tryd.sizeOf24 (by first | rfl | assumption) (Ent.nil _) (⟨by rw [hsum], rfl⟩))
end Go.Proofs.YtdnbnfebapofnaaDoor
