/- The reference's block. No condition. -/
import Derived.Test.YtdnbnfebapofnaaDoorSB
namespace Go.Proofs.YtdnbnfebapofnaaDoor
open Go

set_option maxRecDepth 4000 in
theorem refK_any {F : Fr} : Spec Tryd.prog F 32 [] [] (fun v hs' => v = .agg (w32s KT).toArray ∧ hs' = []) := by
  refine Spec.body Tryd.func32 rfl Tryd.ntmps32 rfl ?_
  refine Cod.seq ?_
  refine Cod.region ?_
  refine Ops.ef (.alloc (cs := List.replicate 64 (Value.int .u32 0)) Tryd.zeroValue57 (by kernel_rfl)) rfl rfl rfl ?_
  rintro _ _ ⟨wb, rfl, rfl⟩
  refine Ops.nil ?_
  refine Ext.seq ?_
  refine Cod.seq ?_
  refine Cod.region ?_
  refine Ops.st (.build (z := .agg (w32s KT).toArray) rfl (fun w => by kernel_rfl)) rfl rfl rfl ?_
  refine Ops.ef10 (.storeA (vs := w32s KT) (cs' := w32s KT) rfl rfl (by repeat first | exact TakeP.here _ | apply TakeP.there) Tryd.sizeOf57 (by rw [w32s_len]; rfl) (by simp) (w32s_one KT) (by rw [List.take_zero, List.nil_append, List.drop_of_length_le (by simp), List.append_nil])) rfl rfl ?_
  refine Ops.nil ?_
  refine Ext.seq ?_
  exact Cod.ret (Ext.retC rfl rfl (by repeat first | exact TakeP.here _ | apply TakeP.there) Tryd.isAgg57 Tryd.sizeOf57 (by first | rfl | assumption) ⟨rfl, rfl⟩)

/-- The word of four bytes, as it comes. -/
def mul4 (bs : List UInt8) (k : Nat) : Nat → UInt32
  | 0 => 0
  | i + 1 => mul4 bs k i * 256 + (bs.getD (k + i) 0).toUInt32
theorem mul4_word (bs : List UInt8) (k : Nat) : mul4 bs k 4 = wordAt bs k := by
  rw [wordAt, ← word4_mul]
  rfl
def mulM (blk : List UInt8) (t i : Nat) : List UInt32 := (schM blk t).set t (mul4 blk (4 * t) i)
theorem mulM_zero {blk : List UInt8} {t : Nat} (ht : t < 64) : mulM blk t 0 = schM blk t := by
  have h2 : (schM blk t)[t]? = some 0 := by
    rw [schM, List.getElem?_append_right (by rw [sch_len]; exact Nat.le_refl _), sch_len, Nat.sub_self]
    simp [List.getElem?_replicate]
    omega
  obtain ⟨hl, h3⟩ := List.getElem?_eq_some_iff.1 h2
  have := List.set_getElem_self hl
  rw [h3] at this
  exact this
theorem mulM_len {blk : List UInt8} {t i : Nat} (ht : t < 64) : (mulM blk t i).length = 64 := by simp [mulM, schM_len blk (Nat.le_of_lt ht)]
theorem mulM_get {blk : List UInt8} {t i : Nat} (ht : t < 64) : (w32s (mulM blk t i))[t]? = some (W32 (mul4 blk (4 * t) i)) := by
  refine w32s_get' ?_
  rw [mulM, List.getElem?_set_self (by rw [schM_len blk (Nat.le_of_lt ht)]; exact ht)]
theorem mulM_set {blk : List UInt8} {t i : Nat} : (w32s (mulM blk t i)).set t (W32 (mul4 blk (4 * t) i * 256 + (blk.getD (4 * t + i) 0).toUInt32)) = w32s (mulM blk t (i + 1)) := by
  rw [w32s_set, mulM, mulM, List.set_set]
  rfl
theorem mulM_four {blk : List UInt8} {t : Nat} (ht : t < 16) : mulM blk t 4 = schM blk (t + 1) := by
  have h := schM_set (blk := blk) (t := t) (x := wordAt blk (4 * t)) (by omega) (by rw [sch, if_pos ht])
  rw [w32s_set] at h
  rw [mulM, mul4_word]
  have inj : ∀ {a b : List UInt32}, w32s a = w32s b → a = b := by
    intro a b hab
    refine (List.map_inj_right (f := W32) fun x y hxy => ?_).1 hab
    have : (x.toNat : Int) = y.toNat := by injection hxy
    exact UInt32.toNat_inj.1 (by omega)
  exact inj h

set_option maxRecDepth 4000 in
theorem refBlock_any {F : Fr} {v : Value} {st : List UInt32} {blk : List UInt8} (hst : st.length = 8) (hbl : blk.length = 64) (hr : SlR F.hf v 1 blk.length (u8s blk)) :
    Spec Tryd.prog F 24 [.agg (w32s st).toArray, v] [] (fun u hs' => u = .agg (w32s (hblock st blk)).toArray ∧ hs' = []) := by
  refine Spec.body Tryd.func24 rfl Tryd.ntmps24 rfl ?_
  refine Cod.seq ?_
  refine Cod.region ?_
  refine Ops.ef (.box (cs := w32s st) rfl rfl) rfl rfl rfl ?_
  rintro _ _ ⟨hb, rfl, rfl⟩
  refine Ops.ef (.alloc (cs := List.replicate 8 (Value.int .u32 0)) Tryd.zeroValue47 (by kernel_rfl)) rfl rfl rfl ?_
  rintro _ _ ⟨ob, rfl, rfl⟩
  refine Ops.nil ?_
  refine Ext.seq ?_
  refine Cod.seq ?_
  refine Cod.region ?_
  refine Ops.ef (.alloc (cs := List.replicate 64 (Value.int .u32 0)) Tryd.zeroValue57 (by kernel_rfl)) rfl rfl rfl ?_
  rintro _ _ ⟨wb, rfl, rfl⟩
  refine Ops.nil ?_
  refine Ext.seq ?_
  refine Cod.seq ?_
  refine Cod.seq ?_
  refine Cod.region ?_
  rw [zeros64]
  refine Ops.st (.assign rfl) rfl rfl rfl ?_
  refine Ops.nil ?_
  refine Ext.seq ?_
  refine Cod.block ?_
  refine Cod.loop (fun t : Nat => ⟨t ≤ 16, [(1, v), (2, .pointer (some ⟨hb, 0, none⟩)), (4, .pointer (some ⟨ob, 0, none⟩)), (5, .pointer (some ⟨wb, 0, none⟩)), (6, .int .i64 t)], [pt hb 47 (w32s st), pt ob 47 (List.replicate 8 (Value.int .u32 0)), pt wb 57 (w32s (schM blk t))]⟩) (fun t => 16 - t) 0 (Nat.zero_le _) ⟨rfl, rfl, rfl, rfl, rfl, trivial⟩ (by rw [schM_zero]; exact Ent.take (by repeat' first | exact Takes.nil _ | exact TakeP.here _ | apply TakeP.there | apply Takes.cons)) ?_
  rintro t ht
  dsimp only
  refine Cod.seq ?_
  refine Cod.seq ?_
  refine Cod.region ?_
  refine Ops.st (.move rfl) rfl rfl rfl ?_
  refine Ops.st (.lss rfl rfl) rfl rfl rfl ?_
  refine Ops.nil ?_
  refine Ext.seq ?_
  refine Cod.condD rfl (fun h1 => ?_) (fun h1 => ?_)
  ·
    refine Cod.skip ?_
    refine Ext.seq ?_
    refine Cod.seq ?_
    refine Cod.block ?_
    refine Cod.seq ?_
    refine Cod.region ?_
    refine Ops.st (.assign rfl) rfl rfl rfl ?_
    refine Ops.nil ?_
    refine Ext.seq ?_
    refine Cod.block ?_
    refine Cod.loop (fun i : Nat => ⟨i ≤ 4, [(1, v), (2, .pointer (some ⟨hb, 0, none⟩)), (4, .pointer (some ⟨ob, 0, none⟩)), (5, .pointer (some ⟨wb, 0, none⟩)), (6, .int .i64 t), (7, .int .i64 i)], [pt hb 47 (w32s st), pt ob 47 (List.replicate 8 (Value.int .u32 0)), pt wb 57 (w32s (mulM blk t i))]⟩) (fun i => 4 - i) 0 (Nat.zero_le _) ⟨rfl, rfl, rfl, rfl, rfl, rfl, trivial⟩ (by rw [mulM_zero (by omega)]; exact Ent.take (by repeat' first | exact Takes.nil _ | exact TakeP.here _ | apply TakeP.there | apply Takes.cons)) ?_
    rintro i hi
    dsimp only
    refine Cod.seq ?_
    refine Cod.seq ?_
    refine Cod.region ?_
    refine Ops.st (.move rfl) rfl rfl rfl ?_
    refine Ops.st (.lss rfl rfl) rfl rfl rfl ?_
    refine Ops.nil ?_
    refine Ext.seq ?_
    refine Cod.condD rfl (fun h2 => ?_) (fun h2 => ?_)
    ·
      refine Cod.skip ?_
      refine Ext.seq ?_
      refine Cod.seq ?_
      refine Cod.block ?_
      refine Cod.regionT 15 mixed (by kernel_rfl) ?_
      refine Ss.st (.move rfl) rfl rfl rfl ?_
      refine Ss.st (.move rfl) rfl rfl rfl ?_
      refine Ss.st (.indexAddrA (j := t) (off := t) rfl rfl Tryd.runUnderlying57 Tryd.sizeOf46 rfl (by omega) (by omega)) rfl rfl rfl ?_
      refine Ss.st (.loadP rfl (by repeat first | exact TakeP.here _ | apply TakeP.there) Tryd.isAgg46 (mulM_get (by omega))) rfl rfl rfl ?_
      refine Ss.st (.mulW32 rfl (show _ = some (W32 256) from rfl)) rfl rfl rfl ?_
      refine Ss.st (.move rfl) rfl rfl rfl ?_
      refine Ss.st (.move rfl) rfl rfl rfl ?_
      refine Ss.st (.mul rfl rfl (by first | exact IntWalk.i64_in _ (by omega) | rfl)) rfl rfl rfl ?_
      refine Ss.st (.move rfl) rfl rfl rfl ?_
      refine Ss.st (.add rfl rfl (by first | exact IntWalk.i64_in _ (by omega) | rfl)) rfl rfl rfl ?_
      refine Ss.st (.indexAddr (j := 4 * t + i) (off := 4 * t + i) rfl rfl (Rd.ro hr) Tryd.runUnderlying22 Tryd.sizeOf5 (by omega) (by omega) (by omega)) rfl rfl rfl ?_
      refine Ss.st (.load_elem rfl (Rd.ro hr) Tryd.isAgg5 (u8s_getD (by omega))) rfl rfl rfl ?_
      refine Ss.st (.convW8_32 rfl Tryd.underlying5 Tryd.underlying46) rfl rfl rfl ?_
      refine Ss.st (.addW32 rfl rfl) rfl rfl rfl ?_
      refine Ss.st (.indexAddrA (j := t) (off := t) rfl rfl Tryd.runUnderlying57 Tryd.sizeOf46 rfl (by omega) (by omega)) rfl rfl rfl ?_
      refine Ss.nil ?_
      refine Ops.ef10 (.store rfl rfl (by repeat first | exact TakeP.here _ | apply TakeP.there) Tryd.sizeOf46 (by rw [w32s_len, mulM_len (by omega)]; exact Nat.ble_eq_true_of_le (by omega)) rfl mulM_set) rfl rfl ?_
      refine Ops.nil ?_
      refine Ext.block ?_
      refine Ext.seq ?_
      refine Cod.region ?_
      refine Ops.st (.move rfl) rfl rfl rfl ?_
      refine Ops.st (.add rfl rfl (by first | exact IntWalk.i64_in _ (by omega) | rfl)) rfl rfl rfl ?_
      refine Ops.st (.assign rfl) rfl rfl rfl ?_
      refine Ops.nil ?_
      exact Ext.back (i + 1) (by omega) (by omega) ⟨rfl, rfl, rfl, rfl, rfl, rfl, trivial⟩ (Ent.take (by repeat' first | exact Takes.nil _ | exact TakeP.here _ | apply TakeP.there | apply Takes.cons))
    ·
      refine Cod.exit (Ext.seqX (Ext.stopX (Ext.hit ?_)))
      refine Ext.block ?_
      refine Ext.seq ?_
      refine Cod.region ?_
      obtain rfl : i = 4 := by omega
      rw [mulM_four (by omega)]
      refine Ops.st (.move rfl) rfl rfl rfl ?_
      refine Ops.st (.add rfl rfl (by first | exact IntWalk.i64_in _ (by omega) | rfl)) rfl rfl rfl ?_
      refine Ops.st (.assign rfl) rfl rfl rfl ?_
      refine Ops.nil ?_
      exact Ext.back (t + 1) (by omega) (by omega) ⟨rfl, rfl, rfl, rfl, rfl, trivial⟩ (Ent.take (by repeat' first | exact Takes.nil _ | exact TakeP.here _ | apply TakeP.there | apply Takes.cons))
  ·
    refine Cod.exit (Ext.seqX (Ext.stopX (Ext.hit ?_)))
    refine Ext.seq ?_
    refine Cod.seq ?_
    refine Cod.seq ?_
    refine Cod.region ?_
    obtain rfl : t = 16 := by omega
    refine Ops.st (.assign rfl) rfl rfl rfl ?_
    refine Ops.nil ?_
    refine Ext.seq ?_
    refine Cod.block ?_
    refine Cod.loop (fun t : Nat => ⟨16 ≤ t ∧ t ≤ 64, [(2, .pointer (some ⟨hb, 0, none⟩)), (4, .pointer (some ⟨ob, 0, none⟩)), (5, .pointer (some ⟨wb, 0, none⟩)), (8, .int .i64 t)], [pt hb 47 (w32s st), pt ob 47 (List.replicate 8 (Value.int .u32 0)), pt wb 57 (w32s (schM blk t))]⟩) (fun t => 64 - t) 16 ⟨Nat.le_refl _, by omega⟩ ⟨rfl, rfl, rfl, rfl, trivial⟩ (Ent.take (by repeat' first | exact Takes.nil _ | exact TakeP.here _ | apply TakeP.there | apply Takes.cons)) ?_
    rintro t ⟨h16, ht⟩
    dsimp only
    refine Cod.seq ?_
    refine Cod.seq ?_
    refine Cod.region ?_
    refine Ops.st (.move rfl) rfl rfl rfl ?_
    refine Ops.st (.lss rfl rfl) rfl rfl rfl ?_
    refine Ops.nil ?_
    refine Ext.seq ?_
    refine Cod.condD rfl (fun h3 => ?_) (fun h3 => ?_)
    ·
      refine Cod.skip ?_
      refine Ext.seq ?_
      refine Cod.seq ?_
      refine Cod.block ?_
      refine Cod.seq ?_
      refine Cod.region ?_
      refine Ops.st (.move rfl) rfl rfl rfl ?_
      refine Ops.st (.sub rfl rfl (by first | exact IntWalk.i64_in _ (by omega) | rfl)) rfl rfl rfl ?_
      refine Ops.st (.indexAddrA (j := t - 15) (off := t - 15) rfl rfl Tryd.runUnderlying57 Tryd.sizeOf46 (by omega) (by omega) (by omega)) rfl rfl rfl ?_
      refine Ops.st (.loadP rfl (by repeat first | exact TakeP.here _ | apply TakeP.there) Tryd.isAgg46 (schM_get (by omega))) rfl rfl rfl ?_
      refine Ops.st (.assign rfl) rfl rfl rfl ?_
      refine Ops.nil ?_
      refine Ext.seq ?_
      refine Cod.seq ?_
      refine Cod.region ?_
      refine Ops.st (.move rfl) rfl rfl rfl ?_
      refine Ops.st (.sub rfl rfl (by first | exact IntWalk.i64_in _ (by omega) | rfl)) rfl rfl rfl ?_
      refine Ops.st (.indexAddrA (j := t - 2) (off := t - 2) rfl rfl Tryd.runUnderlying57 Tryd.sizeOf46 (by omega) (by omega) (by omega)) rfl rfl rfl ?_
      refine Ops.st (.loadP rfl (by repeat first | exact TakeP.here _ | apply TakeP.there) Tryd.isAgg46 (schM_get (by omega))) rfl rfl rfl ?_
      refine Ops.st (.assign rfl) rfl rfl rfl ?_
      refine Ops.nil ?_
      refine Ext.seq ?_
      refine Cod.seq ?_
      refine Cod.region ?_
      refine Ops.st (.move rfl) rfl rfl rfl ?_
      refine Ops.call ⟨Tryd.call31⟩ rfl rfl rfl (by repeat' first | exact Takes.nil _ | exact TakeP.here _ | apply TakeP.there | apply Takes.cons) (fun F' hF => rotr_any (n := 7) (by decide) (by decide)) rfl rfl rfl ?_
      rintro _ _ ⟨rfl, rfl⟩
      refine Ops.st (.move rfl) rfl rfl rfl ?_
      refine Ops.call ⟨Tryd.call31⟩ rfl rfl rfl (by repeat' first | exact Takes.nil _ | exact TakeP.here _ | apply TakeP.there | apply Takes.cons) (fun F' hF => rotr_any (n := 18) (by decide) (by decide)) rfl rfl rfl ?_
      rintro _ _ ⟨rfl, rfl⟩
      refine Ops.st (.xorW32 rfl rfl) rfl rfl rfl ?_
      refine Ops.st (.move rfl) rfl rfl rfl ?_
      refine Ops.st (.shrW32 (n := 3) rfl rfl rfl (by first | omega | decide)) rfl rfl rfl ?_
      refine Ops.st (.xorW32 rfl rfl) rfl rfl rfl ?_
      refine Ops.st (.assign rfl) rfl rfl rfl ?_
      refine Ops.nil ?_
      refine Ext.seq ?_
      refine Cod.seq ?_
      refine Cod.region ?_
      refine Ops.st (.move rfl) rfl rfl rfl ?_
      refine Ops.call ⟨Tryd.call31⟩ rfl rfl rfl (by repeat' first | exact Takes.nil _ | exact TakeP.here _ | apply TakeP.there | apply Takes.cons) (fun F' hF => rotr_any (n := 17) (by decide) (by decide)) rfl rfl rfl ?_
      rintro _ _ ⟨rfl, rfl⟩
      refine Ops.st (.move rfl) rfl rfl rfl ?_
      refine Ops.call ⟨Tryd.call31⟩ rfl rfl rfl (by repeat' first | exact Takes.nil _ | exact TakeP.here _ | apply TakeP.there | apply Takes.cons) (fun F' hF => rotr_any (n := 19) (by decide) (by decide)) rfl rfl rfl ?_
      rintro _ _ ⟨rfl, rfl⟩
      refine Ops.st (.xorW32 rfl rfl) rfl rfl rfl ?_
      refine Ops.st (.move rfl) rfl rfl rfl ?_
      refine Ops.st (.shrW32 (n := 10) rfl rfl rfl (by first | omega | decide)) rfl rfl rfl ?_
      refine Ops.st (.xorW32 rfl rfl) rfl rfl rfl ?_
      refine Ops.st (.assign rfl) rfl rfl rfl ?_
      refine Ops.nil ?_
      refine Ext.seq ?_
      refine Cod.regionT 15 mixed (by kernel_rfl) ?_
      refine Ss.st (.move rfl) rfl rfl rfl ?_
      refine Ss.st (.move rfl) rfl rfl rfl ?_
      refine Ss.st (.move rfl) rfl rfl rfl ?_
      refine Ss.st (.sub rfl rfl (by first | exact IntWalk.i64_in _ (by omega) | rfl)) rfl rfl rfl ?_
      refine Ss.st (.indexAddrA (j := t - 7) (off := t - 7) rfl rfl Tryd.runUnderlying57 Tryd.sizeOf46 (by omega) (by omega) (by omega)) rfl rfl rfl ?_
      refine Ss.st (.loadP rfl (by repeat first | exact TakeP.here _ | apply TakeP.there) Tryd.isAgg46 (schM_get (by omega))) rfl rfl rfl ?_
      refine Ss.st (.addW32 rfl rfl) rfl rfl rfl ?_
      refine Ss.st (.move rfl) rfl rfl rfl ?_
      refine Ss.st (.addW32 rfl rfl) rfl rfl rfl ?_
      refine Ss.st (.move rfl) rfl rfl rfl ?_
      refine Ss.st (.sub rfl rfl (by first | exact IntWalk.i64_in _ (by omega) | rfl)) rfl rfl rfl ?_
      refine Ss.st (.indexAddrA (j := t - 16) (off := t - 16) rfl rfl Tryd.runUnderlying57 Tryd.sizeOf46 (by omega) (by omega) (by omega)) rfl rfl rfl ?_
      refine Ss.st (.loadP rfl (by repeat first | exact TakeP.here _ | apply TakeP.there) Tryd.isAgg46 (schM_get (by omega))) rfl rfl rfl ?_
      refine Ss.st (.addW32 rfl rfl) rfl rfl rfl ?_
      refine Ss.st (.indexAddrA (j := t) (off := t) rfl rfl Tryd.runUnderlying57 Tryd.sizeOf46 rfl (by omega) (by omega)) rfl rfl rfl ?_
      refine Ss.nil ?_
      refine Ops.ef10 (.store rfl rfl (by repeat first | exact TakeP.here _ | apply TakeP.there) Tryd.sizeOf46 (by rw [w32s_len, schM_len blk ht]; exact Nat.ble_eq_true_of_le (by omega)) rfl (schM_set (by omega) (by rw [sch, if_neg (by omega)]; rfl))) rfl rfl ?_
      refine Ops.nil ?_
      refine Ext.block ?_
      refine Ext.seq ?_
      refine Cod.region ?_
      refine Ops.st (.move rfl) rfl rfl rfl ?_
      refine Ops.st (.add rfl rfl (by first | exact IntWalk.i64_in _ (by omega) | rfl)) rfl rfl rfl ?_
      refine Ops.st (.assign rfl) rfl rfl rfl ?_
      refine Ops.nil ?_
      exact Ext.back (t + 1) (by omega) ⟨by omega, by omega⟩ ⟨rfl, rfl, rfl, rfl, trivial⟩ (Ent.take (by repeat' first | exact Takes.nil _ | exact TakeP.here _ | apply TakeP.there | apply Takes.cons))
    ·
      refine Cod.exit (Ext.seqX (Ext.stopX (Ext.hit ?_)))
      refine Ext.seq ?_
      refine Cod.seq ?_
      refine Cod.region ?_
      obtain rfl : t = 64 := by omega
      rw [schM_full]
      have hS : w32s st = (S8.of st).cells := by rw [S8.cells_eq, S8.of_list hst]
      refine Ops.st (.loadPA (ds := (S8.of st).cells) rfl (by repeat first | exact TakeP.here _ | apply TakeP.there) Tryd.isAgg47 Tryd.sizeOf47 (by rw [← hS, List.drop_zero, List.take_of_length_le (by rw [w32s_len, hst]; exact Nat.le_refl _)]) rfl) rfl rfl rfl ?_
      refine Ops.ef (.alloc Tryd.zeroValue47 rfl) rfl rfl rfl ?_
      rintro _ _ ⟨lb, rfl, rfl⟩
      refine Ops.ef10 (.storeA (cs' := (S8.of st).cells) rfl rfl (by repeat first | exact TakeP.here _ | apply TakeP.there) Tryd.sizeOf47 rfl (by decide) (One.cons rfl (One.cons rfl (One.cons rfl (One.cons rfl (One.cons rfl (One.cons rfl (One.cons rfl (One.cons rfl One.nil)))))))) rfl) rfl rfl ?_
      refine Ops.nil ?_
      refine Ext.seq ?_
      refine Cod.seq ?_
      refine Cod.region ?_
      refine Ops.call ⟨Tryd.call32⟩ rfl rfl rfl (by repeat' first | exact Takes.nil _ | exact TakeP.here _ | apply TakeP.there | apply Takes.cons) (fun F' hF => refK_any) rfl rfl rfl ?_
      rintro _ _ ⟨rfl, rfl⟩
      refine Ops.ef (.alloc (cs := List.replicate 64 (Value.int .u32 0)) Tryd.zeroValue57 (by kernel_rfl)) rfl rfl rfl ?_
      rintro _ _ ⟨kb, rfl, rfl⟩
      refine Ops.ef10 (.storeA (vs := w32s KT) (cs' := w32s KT) rfl rfl (by repeat first | exact TakeP.here _ | apply TakeP.there) Tryd.sizeOf57 (by rw [w32s_len]; rfl) (by simp) (w32s_one KT) (by rw [List.take_zero, List.nil_append, List.drop_of_length_le (by simp), List.append_nil])) rfl rfl ?_
      refine Ops.nil ?_
      refine Ext.seq ?_
      refine Cod.seq ?_
      refine Cod.seq ?_
      refine Cod.region ?_
      refine Ops.st (.assign rfl) rfl rfl rfl ?_
      refine Ops.nil ?_
      refine Ext.seq ?_
      refine Cod.block ?_
      refine Cod.loop (fun n : Nat => ⟨n ≤ 64, [(2, .pointer (some ⟨hb, 0, none⟩)), (4, .pointer (some ⟨ob, 0, none⟩)), (5, .pointer (some ⟨wb, 0, none⟩)), (13, .pointer (some ⟨lb, 0, none⟩)), (14, .pointer (some ⟨kb, 0, none⟩)), (15, .int .i64 n)], [pt hb 47 (w32s st), pt ob 47 (List.replicate 8 (Value.int .u32 0)), pt wb 57 (w32s (sch blk 64)), pt lb 47 (rounds (sch blk 64) n (S8.of st)).cells, pt kb 57 (w32s KT)]⟩) (fun n => 64 - n) 0 (Nat.zero_le _) ⟨rfl, rfl, rfl, rfl, rfl, rfl, trivial⟩ (Ent.take (by repeat' first | exact Takes.nil _ | exact TakeP.here _ | apply TakeP.there | apply Takes.cons)) ?_
      rintro n hn
      dsimp only
      refine Cod.seq ?_
      refine Cod.seq ?_
      refine Cod.region ?_
      refine Ops.st (.move rfl) rfl rfl rfl ?_
      refine Ops.st (.lss rfl rfl) rfl rfl rfl ?_
      refine Ops.nil ?_
      refine Ext.seq ?_
      refine Cod.condD rfl (fun h4 => ?_) (fun h4 => ?_)
      ·
        refine Cod.skip ?_
        refine Ext.seq ?_
        refine Cod.seq ?_
        refine Cod.block ?_
        refine Cod.seq ?_
        refine Cod.region ?_
        obtain ⟨s, hs⟩ : ∃ s, s = rounds (sch blk 64) n (S8.of st) := ⟨_, rfl⟩
        rw [← hs]
        refine Ops.st (.indexAddrA (j := 0) rfl rfl Tryd.runUnderlying47 Tryd.sizeOf46 rfl (by decide) rfl) rfl rfl rfl ?_
        refine Ops.st (.loadP rfl (by repeat first | exact TakeP.here _ | apply TakeP.there) Tryd.isAgg46 rfl) rfl rfl rfl ?_
        refine Ops.st (.assign rfl) rfl rfl rfl ?_
        refine Ops.nil ?_
        refine Ext.seq ?_
        refine Cod.seq ?_
        refine Cod.region ?_
        refine Ops.st (.indexAddrA (j := 4) rfl rfl Tryd.runUnderlying47 Tryd.sizeOf46 rfl (by decide) rfl) rfl rfl rfl ?_
        refine Ops.st (.loadP rfl (by repeat first | exact TakeP.here _ | apply TakeP.there) Tryd.isAgg46 rfl) rfl rfl rfl ?_
        refine Ops.st (.assign rfl) rfl rfl rfl ?_
        refine Ops.nil ?_
        refine Ext.seq ?_
        refine Cod.seq ?_
        refine Cod.regionQ mixed (by kernel_rfl) ?_
        refine Qs.st (.indexAddrA (j := 7) rfl rfl Tryd.runUnderlying47 Tryd.sizeOf46 rfl (by decide) rfl) rfl rfl rfl ?_
        refine Qs.st (.loadP rfl (by repeat first | exact TakeP.here _ | apply TakeP.there) Tryd.isAgg46 rfl) rfl rfl rfl ?_
        refine Qs.st (.move rfl) rfl rfl rfl ?_
        refine Qs.call ⟨Tryd.call31⟩ rfl rfl rfl (by repeat' first | exact Takes.nil _ | exact TakeP.here _ | apply TakeP.there | apply Takes.cons) (fun F' hF => Spec.quiet (rotr_any (n := 6) (by decide) (by decide))) rfl rfl rfl ?_
        refine Qs.st (.move rfl) rfl rfl rfl ?_
        refine Qs.call ⟨Tryd.call31⟩ rfl rfl rfl (by repeat' first | exact Takes.nil _ | exact TakeP.here _ | apply TakeP.there | apply Takes.cons) (fun F' hF => Spec.quiet (rotr_any (n := 11) (by decide) (by decide))) rfl rfl rfl ?_
        refine Qs.st (.xorW32 rfl rfl) rfl rfl rfl ?_
        refine Qs.st (.move rfl) rfl rfl rfl ?_
        refine Qs.call ⟨Tryd.call31⟩ rfl rfl rfl (by repeat' first | exact Takes.nil _ | exact TakeP.here _ | apply TakeP.there | apply Takes.cons) (fun F' hF => Spec.quiet (rotr_any (n := 25) (by decide) (by decide))) rfl rfl rfl ?_
        refine Qs.st (.xorW32 rfl rfl) rfl rfl rfl ?_
        refine Qs.st (.addW32 rfl rfl) rfl rfl rfl ?_
        refine Qs.st (.move rfl) rfl rfl rfl ?_
        refine Qs.st (.indexAddrA (j := 5) rfl rfl Tryd.runUnderlying47 Tryd.sizeOf46 rfl (by decide) rfl) rfl rfl rfl ?_
        refine Qs.st (.loadP rfl (by repeat first | exact TakeP.here _ | apply TakeP.there) Tryd.isAgg46 rfl) rfl rfl rfl ?_
        refine Qs.st (.andW32 rfl rfl) rfl rfl rfl ?_
        refine Qs.st (.move rfl) rfl rfl rfl ?_
        refine Qs.st (.notW32 rfl) rfl rfl rfl ?_
        refine Qs.st (.indexAddrA (j := 6) rfl rfl Tryd.runUnderlying47 Tryd.sizeOf46 rfl (by decide) rfl) rfl rfl rfl ?_
        refine Qs.st (.loadP rfl (by repeat first | exact TakeP.here _ | apply TakeP.there) Tryd.isAgg46 rfl) rfl rfl rfl ?_
        refine Qs.st (.andW32 rfl rfl) rfl rfl rfl ?_
        refine Qs.st (.xorW32 rfl rfl) rfl rfl rfl ?_
        refine Qs.st (.addW32 rfl rfl) rfl rfl rfl ?_
        refine Qs.st (.move rfl) rfl rfl rfl ?_
        refine Qs.st (.indexAddrA (j := n) (off := n) rfl rfl Tryd.runUnderlying57 Tryd.sizeOf46 rfl (by omega) (by omega)) rfl rfl rfl ?_
        refine Qs.st (.loadP rfl (by repeat first | exact TakeP.here _ | apply TakeP.there) Tryd.isAgg46 (w32s_get (by show n < 64; omega))) rfl rfl rfl ?_
        refine Qs.st (.addW32 rfl rfl) rfl rfl rfl ?_
        refine Qs.st (.move rfl) rfl rfl rfl ?_
        refine Qs.st (.indexAddrA (j := n) (off := n) rfl rfl Tryd.runUnderlying57 Tryd.sizeOf46 rfl (by omega) (by omega)) rfl rfl rfl ?_
        refine Qs.st (.loadP rfl (by repeat first | exact TakeP.here _ | apply TakeP.there) Tryd.isAgg46 (w32s_get (by rw [sch_len]; omega))) rfl rfl rfl ?_
        refine Qs.st (.addW32 rfl rfl) rfl rfl rfl ?_
        refine Qs.st (.assign rfl) rfl rfl rfl ?_
        refine Qs.nil ?_
        refine Ext.seq ?_
        refine Cod.seq ?_
        refine Cod.regionQ mixed (by kernel_rfl) ?_
        refine Qs.st (.move rfl) rfl rfl rfl ?_
        refine Qs.call ⟨Tryd.call31⟩ rfl rfl rfl (by repeat' first | exact Takes.nil _ | exact TakeP.here _ | apply TakeP.there | apply Takes.cons) (fun F' hF => Spec.quiet (rotr_any (n := 2) (by decide) (by decide))) rfl rfl rfl ?_
        refine Qs.st (.move rfl) rfl rfl rfl ?_
        refine Qs.call ⟨Tryd.call31⟩ rfl rfl rfl (by repeat' first | exact Takes.nil _ | exact TakeP.here _ | apply TakeP.there | apply Takes.cons) (fun F' hF => Spec.quiet (rotr_any (n := 13) (by decide) (by decide))) rfl rfl rfl ?_
        refine Qs.st (.xorW32 rfl rfl) rfl rfl rfl ?_
        refine Qs.st (.move rfl) rfl rfl rfl ?_
        refine Qs.call ⟨Tryd.call31⟩ rfl rfl rfl (by repeat' first | exact Takes.nil _ | exact TakeP.here _ | apply TakeP.there | apply Takes.cons) (fun F' hF => Spec.quiet (rotr_any (n := 22) (by decide) (by decide))) rfl rfl rfl ?_
        refine Qs.st (.xorW32 rfl rfl) rfl rfl rfl ?_
        refine Qs.st (.move rfl) rfl rfl rfl ?_
        refine Qs.st (.indexAddrA (j := 1) rfl rfl Tryd.runUnderlying47 Tryd.sizeOf46 rfl (by decide) rfl) rfl rfl rfl ?_
        refine Qs.st (.loadP rfl (by repeat first | exact TakeP.here _ | apply TakeP.there) Tryd.isAgg46 rfl) rfl rfl rfl ?_
        refine Qs.st (.andW32 rfl rfl) rfl rfl rfl ?_
        refine Qs.st (.move rfl) rfl rfl rfl ?_
        refine Qs.st (.indexAddrA (j := 2) rfl rfl Tryd.runUnderlying47 Tryd.sizeOf46 rfl (by decide) rfl) rfl rfl rfl ?_
        refine Qs.st (.loadP rfl (by repeat first | exact TakeP.here _ | apply TakeP.there) Tryd.isAgg46 rfl) rfl rfl rfl ?_
        refine Qs.st (.andW32 rfl rfl) rfl rfl rfl ?_
        refine Qs.st (.xorW32 rfl rfl) rfl rfl rfl ?_
        refine Qs.st (.indexAddrA (j := 1) rfl rfl Tryd.runUnderlying47 Tryd.sizeOf46 rfl (by decide) rfl) rfl rfl rfl ?_
        refine Qs.st (.loadP rfl (by repeat first | exact TakeP.here _ | apply TakeP.there) Tryd.isAgg46 rfl) rfl rfl rfl ?_
        refine Qs.st (.indexAddrA (j := 2) rfl rfl Tryd.runUnderlying47 Tryd.sizeOf46 rfl (by decide) rfl) rfl rfl rfl ?_
        refine Qs.st (.loadP rfl (by repeat first | exact TakeP.here _ | apply TakeP.there) Tryd.isAgg46 rfl) rfl rfl rfl ?_
        refine Qs.st (.andW32 rfl rfl) rfl rfl rfl ?_
        refine Qs.st (.xorW32 rfl rfl) rfl rfl rfl ?_
        refine Qs.st (.addW32 rfl rfl) rfl rfl rfl ?_
        refine Qs.st (.assign rfl) rfl rfl rfl ?_
        refine Qs.nil ?_
        refine Ext.seq ?_
        refine Cod.region ?_
        refine Ops.st (.move rfl) rfl rfl rfl ?_
        refine Ops.st (.move rfl) rfl rfl rfl ?_
        refine Ops.st (.addW32 rfl rfl) rfl rfl rfl ?_
        refine Ops.st (.indexAddrA (j := 0) rfl rfl Tryd.runUnderlying47 Tryd.sizeOf46 rfl (by decide) rfl) rfl rfl rfl ?_
        refine Ops.st (.loadP rfl (by repeat first | exact TakeP.here _ | apply TakeP.there) Tryd.isAgg46 rfl) rfl rfl rfl ?_
        refine Ops.st (.indexAddrA (j := 1) rfl rfl Tryd.runUnderlying47 Tryd.sizeOf46 rfl (by decide) rfl) rfl rfl rfl ?_
        refine Ops.st (.loadP rfl (by repeat first | exact TakeP.here _ | apply TakeP.there) Tryd.isAgg46 rfl) rfl rfl rfl ?_
        refine Ops.st (.indexAddrA (j := 2) rfl rfl Tryd.runUnderlying47 Tryd.sizeOf46 rfl (by decide) rfl) rfl rfl rfl ?_
        refine Ops.st (.loadP rfl (by repeat first | exact TakeP.here _ | apply TakeP.there) Tryd.isAgg46 rfl) rfl rfl rfl ?_
        refine Ops.st (.indexAddrA (j := 3) rfl rfl Tryd.runUnderlying47 Tryd.sizeOf46 rfl (by decide) rfl) rfl rfl rfl ?_
        refine Ops.st (.loadP rfl (by repeat first | exact TakeP.here _ | apply TakeP.there) Tryd.isAgg46 rfl) rfl rfl rfl ?_
        refine Ops.st (.move rfl) rfl rfl rfl ?_
        refine Ops.st (.addW32 rfl rfl) rfl rfl rfl ?_
        refine Ops.st (.indexAddrA (j := 4) rfl rfl Tryd.runUnderlying47 Tryd.sizeOf46 rfl (by decide) rfl) rfl rfl rfl ?_
        refine Ops.st (.loadP rfl (by repeat first | exact TakeP.here _ | apply TakeP.there) Tryd.isAgg46 rfl) rfl rfl rfl ?_
        refine Ops.st (.indexAddrA (j := 5) rfl rfl Tryd.runUnderlying47 Tryd.sizeOf46 rfl (by decide) rfl) rfl rfl rfl ?_
        refine Ops.st (.loadP rfl (by repeat first | exact TakeP.here _ | apply TakeP.there) Tryd.isAgg46 rfl) rfl rfl rfl ?_
        refine Ops.st (.indexAddrA (j := 6) rfl rfl Tryd.runUnderlying47 Tryd.sizeOf46 rfl (by decide) rfl) rfl rfl rfl ?_
        refine Ops.st (.loadP rfl (by repeat first | exact TakeP.here _ | apply TakeP.there) Tryd.isAgg46 rfl) rfl rfl rfl ?_
        refine Ops.st (.build (z := .agg (step (KT.getD n 0) ((sch blk 64).getD n 0) s).cells.toArray) rfl (fun w => by kernel_rfl)) rfl rfl rfl ?_
        refine Ops.ef10 (.storeA (cs' := (step (KT.getD n 0) ((sch blk 64).getD n 0) s).cells) rfl rfl (by repeat first | exact TakeP.here _ | apply TakeP.there) Tryd.sizeOf47 rfl (by simp) (One.cons rfl (One.cons rfl (One.cons rfl (One.cons rfl (One.cons rfl (One.cons rfl (One.cons rfl (One.cons rfl One.nil)))))))) rfl) rfl rfl ?_
        refine Ops.nil ?_
        refine Ext.block ?_
        refine Ext.seq ?_
        refine Cod.region ?_
        refine Ops.st (.move rfl) rfl rfl rfl ?_
        refine Ops.st (.add rfl rfl (by first | exact IntWalk.i64_in _ (by omega) | rfl)) rfl rfl rfl ?_
        refine Ops.st (.assign rfl) rfl rfl rfl ?_
        refine Ops.nil ?_
        exact Ext.back (n + 1) (by omega) (by omega) ⟨rfl, rfl, rfl, rfl, rfl, rfl, trivial⟩ (by rw [show rounds (sch blk 64) (n + 1) (S8.of st) = step (KT.getD n 0) ((sch blk 64).getD n 0) s from by rw [hs]; rfl]; exact Ent.take (by repeat' first | exact Takes.nil _ | exact TakeP.here _ | apply TakeP.there | apply Takes.cons))
      ·
        refine Cod.exit (Ext.seqX (Ext.stopX (Ext.hit ?_)))
        refine Ext.seq ?_
        refine Cod.seq ?_
        refine Cod.seq ?_
        refine Cod.region ?_
        obtain rfl : n = 64 := by omega
        obtain ⟨s, hs⟩ : ∃ s, s = rounds (sch blk 64) 64 (S8.of st) := ⟨_, rfl⟩
        rw [← hs, S8.cells_eq]
        refine Ops.st (.assign rfl) rfl rfl rfl ?_
        refine Ops.nil ?_
        refine Ext.seq ?_
        refine Cod.block ?_
        refine Cod.loop (fun i : Nat => ⟨i ≤ 8, [(2, .pointer (some ⟨hb, 0, none⟩)), (4, .pointer (some ⟨ob, 0, none⟩)), (13, .pointer (some ⟨lb, 0, none⟩)), (20, .int .i64 i)], [pt hb 47 (w32s (adds st s.list i)), pt ob 47 (List.replicate 8 (Value.int .u32 0)), pt lb 47 (w32s s.list)]⟩) (fun i => 8 - i) 0 (Nat.zero_le _) ⟨rfl, rfl, rfl, rfl, trivial⟩ (by rw [adds_zero]; exact Ent.take (by repeat' first | exact Takes.nil _ | exact TakeP.here _ | apply TakeP.there | apply Takes.cons)) ?_
        rintro i hi
        dsimp only
        refine Cod.seq ?_
        refine Cod.seq ?_
        refine Cod.region ?_
        refine Ops.st (.move rfl) rfl rfl rfl ?_
        refine Ops.st (.lss rfl rfl) rfl rfl rfl ?_
        refine Ops.nil ?_
        refine Ext.seq ?_
        refine Cod.condD rfl (fun h5 => ?_) (fun h5 => ?_)
        ·
          refine Cod.skip ?_
          refine Ext.seq ?_
          refine Cod.seq ?_
          refine Cod.block ?_
          have hal : (adds st s.list i).length = 8 := adds_len hst rfl
          refine Cod.regionT 9 mixed (by kernel_rfl) ?_
          refine Ss.st (.move rfl) rfl rfl rfl ?_
          refine Ss.st (.move rfl) rfl rfl rfl ?_
          refine Ss.st (.indexAddrA (j := i) (off := i) rfl rfl Tryd.runUnderlying47 Tryd.sizeOf46 rfl (by omega) (by omega)) rfl rfl rfl ?_
          refine Ss.st (.loadP rfl (by repeat first | exact TakeP.here _ | apply TakeP.there) Tryd.isAgg46 (w32s_get (by omega))) rfl rfl rfl ?_
          refine Ss.st (.move rfl) rfl rfl rfl ?_
          refine Ss.st (.indexAddrA (j := i) (off := i) rfl rfl Tryd.runUnderlying47 Tryd.sizeOf46 rfl (by omega) (by omega)) rfl rfl rfl ?_
          refine Ss.st (.loadP rfl (by repeat first | exact TakeP.here _ | apply TakeP.there) Tryd.isAgg46 (w32s_get (by show i < 8; omega))) rfl rfl rfl ?_
          refine Ss.st (.addW32 rfl rfl) rfl rfl rfl ?_
          refine Ss.st (.indexAddrA (j := i) (off := i) rfl rfl Tryd.runUnderlying47 Tryd.sizeOf46 rfl (by omega) (by omega)) rfl rfl rfl ?_
          refine Ss.nil ?_
          refine Ops.ef10 (.store rfl rfl (by repeat first | exact TakeP.here _ | apply TakeP.there) Tryd.sizeOf46 (by rw [w32s_len, hal]; exact Nat.ble_eq_true_of_le (by omega)) rfl (by rw [w32s_set, adds_set hst rfl (by omega)])) rfl rfl ?_
          refine Ops.nil ?_
          refine Ext.block ?_
          refine Ext.seq ?_
          refine Cod.region ?_
          refine Ops.st (.move rfl) rfl rfl rfl ?_
          refine Ops.st (.add rfl rfl (by first | exact IntWalk.i64_in _ (by omega) | rfl)) rfl rfl rfl ?_
          refine Ops.st (.assign rfl) rfl rfl rfl ?_
          refine Ops.nil ?_
          exact Ext.back (i + 1) (by omega) (by omega) ⟨rfl, rfl, rfl, rfl, trivial⟩ (Ent.take (by repeat' first | exact Takes.nil _ | exact TakeP.here _ | apply TakeP.there | apply Takes.cons))
        ·
          refine Cod.exit (Ext.seqX (Ext.stopX (Ext.hit ?_)))
          refine Ext.seq ?_
          refine Cod.seq ?_
          refine Cod.region ?_
          obtain rfl : i = 8 := by omega
          rw [adds_all hst rfl, hs]
          have hB : List.zipWith (· + ·) st (rounds (sch blk 64) 64 (S8.of st)).list = hblock st blk := rfl
          rw [hB]
          have hbl8 := hblock_len blk hst
          have hlen : (w32s (hblock st blk)).length = 8 := by rw [w32s_len, hbl8]
          refine Ops.st (.loadPA (ds := w32s (hblock st blk)) rfl (by repeat first | exact TakeP.here _ | apply TakeP.there) Tryd.isAgg47 Tryd.sizeOf47 (by rw [List.drop_zero, List.take_of_length_le (by rw [w32s_len, hbl8]; exact Nat.le_refl _)]) (by rw [w32s_len, hbl8])) rfl rfl rfl ?_
          refine Ops.ef10 (.storeA (vs := w32s (hblock st blk)) (cs' := w32s (hblock st blk)) rfl rfl (by repeat first | exact TakeP.here _ | apply TakeP.there) Tryd.sizeOf47 (by rw [w32s_len, hbl8]) (by simp) (w32s_one _) (by rw [List.take_zero, List.nil_append, List.drop_of_length_le (by simp), List.append_nil])) rfl rfl ?_
          refine Ops.nil ?_
          refine Ext.seq ?_
          exact Cod.ret (Ext.retCE rfl rfl (by repeat first | exact TakeP.here _ | apply TakeP.there) Tryd.isAgg47 Tryd.sizeOf47 (by first | rfl | assumption) (Ent.nil _) (⟨rfl, rfl⟩))
end Go.Proofs.YtdnbnfebapofnaaDoor
