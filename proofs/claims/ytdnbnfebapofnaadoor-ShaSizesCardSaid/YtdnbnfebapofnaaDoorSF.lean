/- Sum, Save, Load of a hash that goes on. No condition. -/
import Derived.Test.YtdnbnfebapofnaaDoorSE
namespace Go.Proofs.YtdnbnfebapofnaaDoor
open Go

/-- A hash that can be read. -/
def HashR (h : Hp) (b : Nat) (m : HM) : Prop := ∃ rest : List UInt8, (rest.length = 64 ∧ rest.take m.buf.length = m.buf) ∧ ∀ j u, (hsC m.st rest m.buf.length m.long)[j]? = some u → HCell h ⟨b, j, none⟩ u
theorem hashP_R {h : Hp} {b : Nat} {m : HM} (x : hashP b m h) : HashR h b m := by
  obtain ⟨rest, hr, z1, z2, hd, rfl, hp, _⟩ := x
  exact ⟨rest, hr, fun j u hu => (hp.cell hu).mono (Hp.le_un_left _ _)⟩
theorem HashR.mono {h h' : Hp} {b : Nat} {m : HM} (x : HashR h b m) (l : Hp.le h h') : HashR h' b m := let ⟨r, hr, hc⟩ := x; ⟨r, hr, fun j u hu => (hc j u hu).mono l⟩
theorem Wider.hash {F F' : Fr} {rest r : List SP} {b : Nat} {m : HM} (hw : Wider F rest F') (hk : TakeP (hashP b m) rest r) : HashR F'.hf b m := by
  obtain ⟨z, hz, hl⟩ := SL_head hk hw.rest
  exact (hashP_R hz).mono hl
theorem HashR.state {h : Hp} {b : Nat} {m : HM} (x : HashR h b m) (hst : m.st.length = 8) : ∀ j, j < 8 → HCell h ⟨b, j, none⟩ (W32 (m.st.getD j 0)) := fun j hj => by
  obtain ⟨r, hr, hc⟩ := x
  exact hc j _ (hs_st hst hj)

/-- What is put behind the last bytes. -/
def padOf (fill : Nat) (long : Nat) : List UInt8 := 128 :: (List.replicate ((119 - fill) % 64) 0 ++ be64 (8 * UInt64.ofNat long))
def HM.sum (m : HM) : List UInt8 := bytes32 (m.write (padOf m.buf.length m.long)).st
theorem HM.sum_len (m : HM) : m.sum.length = 32 := bytes32_len _

set_option maxRecDepth 4000 in
theorem shaSum_any {F : Fr} {b : Nat} {m : HM} (ok : m.Ok) (tab : Tab F) (hh : HashR F.hf b m) (hlong : m.long ≤ 4611686018427387000) :
    Spec Tryd.prog F 15 [.pointer (some ⟨b, 0, none⟩)] [] (fun u hs' => u = .agg (u8s m.sum).toArray ∧ hs' = []) := by
  obtain ⟨rest, ⟨hre, htk⟩, hR⟩ := hh
  have hst := ok.st
  have hbuf := ok.buf
  have hsl := m.sum_len
  refine Spec.body Tryd.func15 rfl Tryd.ntmps15 rfl ?_
  refine Cod.seq ?_
  refine Cod.region ?_
  refine Ops.ef (.alloc (cs := List.replicate 32 (Value.int .u8 0)) Tryd.zeroValue24 (by kernel_rfl)) rfl rfl rfl ?_
  rintro _ _ ⟨rb, rfl, rfl⟩
  refine Ops.nil ?_
  refine Ext.seq ?_
  refine Cod.seq ?_
  refine Cod.region ?_
  refine Ops.st (.move rfl) rfl rfl rfl ?_
  refine Ops.st (.nilCheck rfl) rfl rfl rfl ?_
  refine Ops.st (.loadA (cs := hsC m.st rest m.buf.length m.long) rfl Tryd.isAgg53 Tryd.sizeOf53 (hs_len hst hre) (fun j u hu => (by rw [Addr.add_lit, Nat.zero_add]; exact CellAt.ro (hR j u hu)))) rfl rfl rfl ?_
  refine Ops.ef (.alloc (z := .agg (hsC (List.replicate 8 0) (List.replicate 64 0) 0 0).toArray) (cs := hsC (List.replicate 8 0) (List.replicate 64 0) 0 0) (fun w => by kernel_rfl) rfl) rfl rfl rfl ?_
  rintro _ _ ⟨gb, rfl, rfl⟩
  refine Ops.ef10 (.storeA (vs := hsC m.st rest m.buf.length m.long) (cs' := hsC m.st rest m.buf.length m.long) rfl rfl (by repeat first | exact TakeP.here _ | apply TakeP.there) Tryd.sizeOf53 (hs_len hst hre) (by rw [hs_len (by simp) (by simp)]; exact Nat.le_refl _) hs_one (by rw [List.take_zero, List.nil_append, List.drop_of_length_le (by rw [hs_len (by simp) (by simp)]; exact Nat.le_refl _), List.append_nil])) rfl rfl ?_
  refine Ops.nil ?_
  refine Ext.seq ?_
  refine Cod.seq ?_
  refine Cod.region ?_
  refine Ops.st (.move rfl) rfl rfl rfl ?_
  refine Ops.st (.nilCheck rfl) rfl rfl rfl ?_
  refine Ops.st (.fieldAddr rfl fa53_2) rfl rfl rfl ?_
  refine Ops.st (.load rfl Tryd.isAgg3 (CellAt.ro (hR 72 _ (hs_fill hst hre)))) rfl rfl rfl ?_
  refine Ops.st (.sub rfl rfl (by first | exact IntWalk.i64_in _ (by omega) | rfl)) rfl rfl rfl ?_
  refine Ops.st (.rem (r := (((119 - m.buf.length) % 64 : Nat) : Int)) rfl rfl (by decide) (by rw [Int.tmod_eq_emod_of_nonneg (by omega)]; omega)) rfl rfl rfl ?_
  refine Ops.st (.add rfl rfl (by first | exact IntWalk.i64_in _ (by omega) | rfl)) rfl rfl rfl ?_
  refine Ops.st (.assign rfl) rfl rfl rfl ?_
  refine Ops.nil ?_
  refine Ext.seq ?_
  refine Cod.seq ?_
  refine Cod.cutK (fun _ : Unit => ⟨True, [(2, .pointer (some ⟨rb, 0, none⟩)), (3, .pointer (some ⟨gb, 0, none⟩))], [pt rb 24 (List.replicate 32 (Value.int .u8 0)), hashP gb (m.write (padOf m.buf.length m.long))]⟩) ?_ ?_
  ·
    refine Cod.ent (Ent.fold (A := hashP gb m) (by repeat' first | exact Takes.nil _ | exact TakeP.here _ | apply TakeP.there | apply Takes.cons) (hash_mk hre htk)) ?_
    obtain ⟨z, hz⟩ : ∃ z, z = (119 - m.buf.length) % 64 := ⟨_, rfl⟩
    rw [← hz]
    have hfl : [[128], List.replicate z 0, be64 (8 * UInt64.ofNat m.long)].flatten = padOf m.buf.length m.long := by rw [padOf, ← hz]; simp
    have hpl : (padOf m.buf.length m.long).length ≤ 100 := by rw [padOf, ← hz]; simp only [List.length_cons, List.length_append, List.length_replicate, be64_len]; omega
    refine Cod.regionA mixed (by kernel_rfl) (listed := #[false, false, false, false, false, false, false, false, false, false, false, false, false, false]) ?_
    refine As.take 1 rfl (by kernel_rfl) (by kernel_rfl) (by kernel_rfl) rfl rfl rfl (fun F hs => .move rfl) (by kernel_rfl) (listed' := #[false, true, false, false, false, false, false, false, false, false, false, false, false, false]) ?_
    refine As.take 2 rfl (by kernel_rfl) (by kernel_rfl) (by kernel_rfl) rfl rfl rfl (fun F hs => .sub rfl rfl (by first | exact IntWalk.i64_in _ (by omega) | rfl)) (by kernel_rfl) (listed' := #[false, true, true, false, false, false, false, false, false, false, false, false, false, false]) ?_
    refine As.take 4 rfl (by kernel_rfl) (by kernel_rfl) (by kernel_rfl) rfl rfl rfl (fun F hs => .move rfl) (by kernel_rfl) (listed' := #[false, true, true, false, true, false, false, false, false, false, false, false, false, false]) ?_
    refine As.take 5 rfl (by kernel_rfl) (by kernel_rfl) (by kernel_rfl) rfl rfl rfl (fun F hs => .nilCheck rfl) (by kernel_rfl) (listed' := #[false, true, true, false, true, true, false, false, false, false, false, false, false, false]) ?_
    refine As.take 6 rfl (by kernel_rfl) (by kernel_rfl) (by kernel_rfl) rfl rfl rfl (fun F hs => .fieldAddr rfl fa53_3) (by kernel_rfl) (listed' := #[false, true, true, false, true, true, true, false, false, false, false, false, false, false]) ?_
    refine As.three (i := 0) (j := 3) (l := 7) (by kernel_rfl) ?_ ?_ ?_
    ·
      refine Ao.ef rfl (.lit1 ei22 rfl rfl rfl (by repeat' first | exact One.nil | apply One.cons rfl | (apply One.cons (Sl.one (by assumption))))) rfl rfl rfl (by kernel_rfl) (listed' := #[true, true, true, false, true, true, true, false, false, false, false, false, false, false]) ?_
      rintro lv _ ⟨hlv, rfl⟩
      refine As.two (i := 3) (j := 7) (by kernel_rfl) ?_ ?_
      ·
        refine Ao.ef rfl (.make (ln := z) (cn := z) (xs := u8s (List.replicate z 0)) (ys := []) rfl rfl ei22 (by omega) (by omega) (Nat.le_refl _) (by omega) (by simp only [maxLen]; omega) (by rw [madeCells_one, u8s_zeros, List.append_nil, Nat.mul_one]) (by rw [u8s_len, List.length_replicate, Nat.mul_one]) (u8s_one _)) rfl rfl rfl (by kernel_rfl) (listed' := #[true, true, true, true, true, true, true, false, false, false, false, false, false, false]) ?_
        rintro zv _ ⟨hzv, rfl⟩
        refine As.one (i := 7) (by kernel_rfl) ?_
        refine Ao.st rfl (.load rfl Tryd.isAgg3 (CellAt.ro (hR 73 _ (hs_long hst hre)))) rfl rfl rfl (by kernel_rfl) (listed' := #[true, true, true, true, true, true, true, true, false, false, false, false, false, false]) ?_
        refine As.take 8 rfl (by kernel_rfl) (by kernel_rfl) (by kernel_rfl) rfl rfl rfl (fun F hs => .convI_64 rfl rfl Tryd.underlying3 Tryd.underlying45) (by kernel_rfl) (listed' := #[true, true, true, true, true, true, true, true, true, false, false, false, false, false]) ?_
        refine As.take 9 rfl (by kernel_rfl) (by kernel_rfl) (by kernel_rfl) rfl rfl rfl (fun F hs => .mulW64 (show _ = some (W64 8) from rfl) rfl) (by kernel_rfl) (listed' := #[true, true, true, true, true, true, true, true, true, true, false, false, false, false]) ?_
        refine As.one (i := 10) (by kernel_rfl) ?_
        refine Ao.call rfl ⟨Tryd.call28⟩ rfl rfl rfl (by repeat' first | exact Takes.nil _ | exact TakeP.here _ | apply TakeP.there | apply Takes.cons) (fun F' hF => shaLong_any) rfl rfl rfl (by kernel_rfl) (listed' := #[true, true, true, true, true, true, true, true, true, true, true, false, false, false]) ?_
        rintro uv _ ⟨huv, rfl⟩
        refine As.one (i := 11) (by kernel_rfl) ?_
        refine Ao.ef rfl (.lit1 (vs := [lv, zv, uv]) ei41 rfl rfl rfl (One.cons hlv.one (One.cons hzv.one (One.cons huv.one One.nil)))) rfl rfl rfl (by kernel_rfl) (listed' := #[true, true, true, true, true, true, true, true, true, true, true, true, false, false]) ?_
        rintro av _ ⟨hav, rfl⟩
        refine As.one (i := 12) (by kernel_rfl) ?_
        refine Ao.call rfl ⟨Tryd.call27⟩ rfl rfl rfl (by repeat' first | exact Takes.nil _ | exact TakeP.here _ | apply TakeP.there | apply Takes.cons) (fun F' hF => concat_any (vs := [lv, zv, uv]) (bs := [[128], List.replicate z 0, be64 (8 * UInt64.ofNat m.long)]) ((Rd.vec (v := av) (by repeat first | exact TakeP.here _ | apply TakeP.there)).wider hF) (.cons (by rw [show ([128] : List UInt8).length = 1 from rfl]; exact (Rd.vec (v := lv) (by repeat first | exact TakeP.here _ | apply TakeP.there)).wider hF) (.cons (by rw [List.length_replicate]; exact (Rd.vec (v := zv) (by repeat first | exact TakeP.here _ | apply TakeP.there)).wider hF) (.cons (by rw [be64_len]; exact (Rd.vec (v := uv) (by repeat first | exact TakeP.here _ | apply TakeP.there)).wider hF) .nil))) (by rw [hfl]; omega)) rfl rfl rfl (by kernel_rfl) (listed' := #[true, true, true, true, true, true, true, true, true, true, true, true, true, false]) ?_
        rintro cv _ ⟨hcv, rfl⟩
        refine As.one (i := 13) (by kernel_rfl) ?_
        refine Ao.call rfl ⟨Tryd.call14⟩ rfl rfl rfl (by repeat' first | exact Takes.nil _ | exact TakeP.here _ | apply TakeP.there | apply Takes.cons) (fun F' hF => shaWrite_any (m := m) (v := cv) (bs := padOf m.buf.length m.long) ok (tab.mono hF.hf) (by rw [← hfl]; exact (Rd.vec (v := cv) (by repeat first | exact TakeP.here _ | apply TakeP.there)).wider hF) (by omega)) rfl rfl rfl (by kernel_rfl) (listed' := #[true, true, true, true, true, true, true, true, true, true, true, true, true, true]) ?_
        rintro _ _ rfl
        refine As.done (by kernel_rfl) ?_
        exact Ext.at_ () trivial ⟨rfl, rfl, trivial⟩ (Ent.take (by repeat' first | exact Takes.nil _ | exact TakeP.here _ | apply TakeP.there | apply Takes.cons))
      ·
        refine Ao.st rfl (.load rfl Tryd.isAgg3 (CellAt.ro (hR 73 _ (hs_long hst hre)))) rfl rfl rfl (by kernel_rfl) (listed' := #[true, true, true, false, true, true, true, true, false, false, false, false, false, false]) ?_
        refine As.take 8 rfl (by kernel_rfl) (by kernel_rfl) (by kernel_rfl) rfl rfl rfl (fun F hs => .convI_64 rfl rfl Tryd.underlying3 Tryd.underlying45) (by kernel_rfl) (listed' := #[true, true, true, false, true, true, true, true, true, false, false, false, false, false]) ?_
        refine As.take 9 rfl (by kernel_rfl) (by kernel_rfl) (by kernel_rfl) rfl rfl rfl (fun F hs => .mulW64 (show _ = some (W64 8) from rfl) rfl) (by kernel_rfl) (listed' := #[true, true, true, false, true, true, true, true, true, true, false, false, false, false]) ?_
        refine As.two (i := 3) (j := 10) (by kernel_rfl) ?_ ?_
        ·
          refine Ao.ef rfl (.make (ln := z) (cn := z) (xs := u8s (List.replicate z 0)) (ys := []) rfl rfl ei22 (by omega) (by omega) (Nat.le_refl _) (by omega) (by simp only [maxLen]; omega) (by rw [madeCells_one, u8s_zeros, List.append_nil, Nat.mul_one]) (by rw [u8s_len, List.length_replicate, Nat.mul_one]) (u8s_one _)) rfl rfl rfl (by kernel_rfl) (listed' := #[true, true, true, true, true, true, true, true, true, true, false, false, false, false]) ?_
          rintro zv _ ⟨hzv, rfl⟩
          refine As.one (i := 10) (by kernel_rfl) ?_
          refine Ao.call rfl ⟨Tryd.call28⟩ rfl rfl rfl (by repeat' first | exact Takes.nil _ | exact TakeP.here _ | apply TakeP.there | apply Takes.cons) (fun F' hF => shaLong_any) rfl rfl rfl (by kernel_rfl) (listed' := #[true, true, true, true, true, true, true, true, true, true, true, false, false, false]) ?_
          rintro uv _ ⟨huv, rfl⟩
          refine As.one (i := 11) (by kernel_rfl) ?_
          refine Ao.ef rfl (.lit1 (vs := [lv, zv, uv]) ei41 rfl rfl rfl (One.cons hlv.one (One.cons hzv.one (One.cons huv.one One.nil)))) rfl rfl rfl (by kernel_rfl) (listed' := #[true, true, true, true, true, true, true, true, true, true, true, true, false, false]) ?_
          rintro av _ ⟨hav, rfl⟩
          refine As.one (i := 12) (by kernel_rfl) ?_
          refine Ao.call rfl ⟨Tryd.call27⟩ rfl rfl rfl (by repeat' first | exact Takes.nil _ | exact TakeP.here _ | apply TakeP.there | apply Takes.cons) (fun F' hF => concat_any (vs := [lv, zv, uv]) (bs := [[128], List.replicate z 0, be64 (8 * UInt64.ofNat m.long)]) ((Rd.vec (v := av) (by repeat first | exact TakeP.here _ | apply TakeP.there)).wider hF) (.cons (by rw [show ([128] : List UInt8).length = 1 from rfl]; exact (Rd.vec (v := lv) (by repeat first | exact TakeP.here _ | apply TakeP.there)).wider hF) (.cons (by rw [List.length_replicate]; exact (Rd.vec (v := zv) (by repeat first | exact TakeP.here _ | apply TakeP.there)).wider hF) (.cons (by rw [be64_len]; exact (Rd.vec (v := uv) (by repeat first | exact TakeP.here _ | apply TakeP.there)).wider hF) .nil))) (by rw [hfl]; omega)) rfl rfl rfl (by kernel_rfl) (listed' := #[true, true, true, true, true, true, true, true, true, true, true, true, true, false]) ?_
          rintro cv _ ⟨hcv, rfl⟩
          refine As.one (i := 13) (by kernel_rfl) ?_
          refine Ao.call rfl ⟨Tryd.call14⟩ rfl rfl rfl (by repeat' first | exact Takes.nil _ | exact TakeP.here _ | apply TakeP.there | apply Takes.cons) (fun F' hF => shaWrite_any (m := m) (v := cv) (bs := padOf m.buf.length m.long) ok (tab.mono hF.hf) (by rw [← hfl]; exact (Rd.vec (v := cv) (by repeat first | exact TakeP.here _ | apply TakeP.there)).wider hF) (by omega)) rfl rfl rfl (by kernel_rfl) (listed' := #[true, true, true, true, true, true, true, true, true, true, true, true, true, true]) ?_
          rintro _ _ rfl
          refine As.done (by kernel_rfl) ?_
          exact Ext.at_ () trivial ⟨rfl, rfl, trivial⟩ (Ent.take (by repeat' first | exact Takes.nil _ | exact TakeP.here _ | apply TakeP.there | apply Takes.cons))
        ·
          refine Ao.call rfl ⟨Tryd.call28⟩ rfl rfl rfl (by repeat' first | exact Takes.nil _ | exact TakeP.here _ | apply TakeP.there | apply Takes.cons) (fun F' hF => shaLong_any) rfl rfl rfl (by kernel_rfl) (listed' := #[true, true, true, false, true, true, true, true, true, true, true, false, false, false]) ?_
          rintro uv _ ⟨huv, rfl⟩
          refine As.one (i := 3) (by kernel_rfl) ?_
          refine Ao.ef rfl (.make (ln := z) (cn := z) (xs := u8s (List.replicate z 0)) (ys := []) rfl rfl ei22 (by omega) (by omega) (Nat.le_refl _) (by omega) (by simp only [maxLen]; omega) (by rw [madeCells_one, u8s_zeros, List.append_nil, Nat.mul_one]) (by rw [u8s_len, List.length_replicate, Nat.mul_one]) (u8s_one _)) rfl rfl rfl (by kernel_rfl) (listed' := #[true, true, true, true, true, true, true, true, true, true, true, false, false, false]) ?_
          rintro zv _ ⟨hzv, rfl⟩
          refine As.one (i := 11) (by kernel_rfl) ?_
          refine Ao.ef rfl (.lit1 (vs := [lv, zv, uv]) ei41 rfl rfl rfl (One.cons hlv.one (One.cons hzv.one (One.cons huv.one One.nil)))) rfl rfl rfl (by kernel_rfl) (listed' := #[true, true, true, true, true, true, true, true, true, true, true, true, false, false]) ?_
          rintro av _ ⟨hav, rfl⟩
          refine As.one (i := 12) (by kernel_rfl) ?_
          refine Ao.call rfl ⟨Tryd.call27⟩ rfl rfl rfl (by repeat' first | exact Takes.nil _ | exact TakeP.here _ | apply TakeP.there | apply Takes.cons) (fun F' hF => concat_any (vs := [lv, zv, uv]) (bs := [[128], List.replicate z 0, be64 (8 * UInt64.ofNat m.long)]) ((Rd.vec (v := av) (by repeat first | exact TakeP.here _ | apply TakeP.there)).wider hF) (.cons (by rw [show ([128] : List UInt8).length = 1 from rfl]; exact (Rd.vec (v := lv) (by repeat first | exact TakeP.here _ | apply TakeP.there)).wider hF) (.cons (by rw [List.length_replicate]; exact (Rd.vec (v := zv) (by repeat first | exact TakeP.here _ | apply TakeP.there)).wider hF) (.cons (by rw [be64_len]; exact (Rd.vec (v := uv) (by repeat first | exact TakeP.here _ | apply TakeP.there)).wider hF) .nil))) (by rw [hfl]; omega)) rfl rfl rfl (by kernel_rfl) (listed' := #[true, true, true, true, true, true, true, true, true, true, true, true, true, false]) ?_
          rintro cv _ ⟨hcv, rfl⟩
          refine As.one (i := 13) (by kernel_rfl) ?_
          refine Ao.call rfl ⟨Tryd.call14⟩ rfl rfl rfl (by repeat' first | exact Takes.nil _ | exact TakeP.here _ | apply TakeP.there | apply Takes.cons) (fun F' hF => shaWrite_any (m := m) (v := cv) (bs := padOf m.buf.length m.long) ok (tab.mono hF.hf) (by rw [← hfl]; exact (Rd.vec (v := cv) (by repeat first | exact TakeP.here _ | apply TakeP.there)).wider hF) (by omega)) rfl rfl rfl (by kernel_rfl) (listed' := #[true, true, true, true, true, true, true, true, true, true, true, true, true, true]) ?_
          rintro _ _ rfl
          refine As.done (by kernel_rfl) ?_
          exact Ext.at_ () trivial ⟨rfl, rfl, trivial⟩ (Ent.take (by repeat' first | exact Takes.nil _ | exact TakeP.here _ | apply TakeP.there | apply Takes.cons))
    ·
      refine Ao.ef rfl (.make (ln := z) (cn := z) (xs := u8s (List.replicate z 0)) (ys := []) rfl rfl ei22 (by omega) (by omega) (Nat.le_refl _) (by omega) (by simp only [maxLen]; omega) (by rw [madeCells_one, u8s_zeros, List.append_nil, Nat.mul_one]) (by rw [u8s_len, List.length_replicate, Nat.mul_one]) (u8s_one _)) rfl rfl rfl (by kernel_rfl) (listed' := #[false, true, true, true, true, true, true, false, false, false, false, false, false, false]) ?_
      rintro zv _ ⟨hzv, rfl⟩
      refine As.two (i := 0) (j := 7) (by kernel_rfl) ?_ ?_
      ·
        refine Ao.ef rfl (.lit1 ei22 rfl rfl rfl (by repeat' first | exact One.nil | apply One.cons rfl | (apply One.cons (Sl.one (by assumption))))) rfl rfl rfl (by kernel_rfl) (listed' := #[true, true, true, true, true, true, true, false, false, false, false, false, false, false]) ?_
        rintro lv _ ⟨hlv, rfl⟩
        refine As.one (i := 7) (by kernel_rfl) ?_
        refine Ao.st rfl (.load rfl Tryd.isAgg3 (CellAt.ro (hR 73 _ (hs_long hst hre)))) rfl rfl rfl (by kernel_rfl) (listed' := #[true, true, true, true, true, true, true, true, false, false, false, false, false, false]) ?_
        refine As.take 8 rfl (by kernel_rfl) (by kernel_rfl) (by kernel_rfl) rfl rfl rfl (fun F hs => .convI_64 rfl rfl Tryd.underlying3 Tryd.underlying45) (by kernel_rfl) (listed' := #[true, true, true, true, true, true, true, true, true, false, false, false, false, false]) ?_
        refine As.take 9 rfl (by kernel_rfl) (by kernel_rfl) (by kernel_rfl) rfl rfl rfl (fun F hs => .mulW64 (show _ = some (W64 8) from rfl) rfl) (by kernel_rfl) (listed' := #[true, true, true, true, true, true, true, true, true, true, false, false, false, false]) ?_
        refine As.one (i := 10) (by kernel_rfl) ?_
        refine Ao.call rfl ⟨Tryd.call28⟩ rfl rfl rfl (by repeat' first | exact Takes.nil _ | exact TakeP.here _ | apply TakeP.there | apply Takes.cons) (fun F' hF => shaLong_any) rfl rfl rfl (by kernel_rfl) (listed' := #[true, true, true, true, true, true, true, true, true, true, true, false, false, false]) ?_
        rintro uv _ ⟨huv, rfl⟩
        refine As.one (i := 11) (by kernel_rfl) ?_
        refine Ao.ef rfl (.lit1 (vs := [lv, zv, uv]) ei41 rfl rfl rfl (One.cons hlv.one (One.cons hzv.one (One.cons huv.one One.nil)))) rfl rfl rfl (by kernel_rfl) (listed' := #[true, true, true, true, true, true, true, true, true, true, true, true, false, false]) ?_
        rintro av _ ⟨hav, rfl⟩
        refine As.one (i := 12) (by kernel_rfl) ?_
        refine Ao.call rfl ⟨Tryd.call27⟩ rfl rfl rfl (by repeat' first | exact Takes.nil _ | exact TakeP.here _ | apply TakeP.there | apply Takes.cons) (fun F' hF => concat_any (vs := [lv, zv, uv]) (bs := [[128], List.replicate z 0, be64 (8 * UInt64.ofNat m.long)]) ((Rd.vec (v := av) (by repeat first | exact TakeP.here _ | apply TakeP.there)).wider hF) (.cons (by rw [show ([128] : List UInt8).length = 1 from rfl]; exact (Rd.vec (v := lv) (by repeat first | exact TakeP.here _ | apply TakeP.there)).wider hF) (.cons (by rw [List.length_replicate]; exact (Rd.vec (v := zv) (by repeat first | exact TakeP.here _ | apply TakeP.there)).wider hF) (.cons (by rw [be64_len]; exact (Rd.vec (v := uv) (by repeat first | exact TakeP.here _ | apply TakeP.there)).wider hF) .nil))) (by rw [hfl]; omega)) rfl rfl rfl (by kernel_rfl) (listed' := #[true, true, true, true, true, true, true, true, true, true, true, true, true, false]) ?_
        rintro cv _ ⟨hcv, rfl⟩
        refine As.one (i := 13) (by kernel_rfl) ?_
        refine Ao.call rfl ⟨Tryd.call14⟩ rfl rfl rfl (by repeat' first | exact Takes.nil _ | exact TakeP.here _ | apply TakeP.there | apply Takes.cons) (fun F' hF => shaWrite_any (m := m) (v := cv) (bs := padOf m.buf.length m.long) ok (tab.mono hF.hf) (by rw [← hfl]; exact (Rd.vec (v := cv) (by repeat first | exact TakeP.here _ | apply TakeP.there)).wider hF) (by omega)) rfl rfl rfl (by kernel_rfl) (listed' := #[true, true, true, true, true, true, true, true, true, true, true, true, true, true]) ?_
        rintro _ _ rfl
        refine As.done (by kernel_rfl) ?_
        exact Ext.at_ () trivial ⟨rfl, rfl, trivial⟩ (Ent.take (by repeat' first | exact Takes.nil _ | exact TakeP.here _ | apply TakeP.there | apply Takes.cons))
      ·
        refine Ao.st rfl (.load rfl Tryd.isAgg3 (CellAt.ro (hR 73 _ (hs_long hst hre)))) rfl rfl rfl (by kernel_rfl) (listed' := #[false, true, true, true, true, true, true, true, false, false, false, false, false, false]) ?_
        refine As.take 8 rfl (by kernel_rfl) (by kernel_rfl) (by kernel_rfl) rfl rfl rfl (fun F hs => .convI_64 rfl rfl Tryd.underlying3 Tryd.underlying45) (by kernel_rfl) (listed' := #[false, true, true, true, true, true, true, true, true, false, false, false, false, false]) ?_
        refine As.take 9 rfl (by kernel_rfl) (by kernel_rfl) (by kernel_rfl) rfl rfl rfl (fun F hs => .mulW64 (show _ = some (W64 8) from rfl) rfl) (by kernel_rfl) (listed' := #[false, true, true, true, true, true, true, true, true, true, false, false, false, false]) ?_
        refine As.two (i := 0) (j := 10) (by kernel_rfl) ?_ ?_
        ·
          refine Ao.ef rfl (.lit1 ei22 rfl rfl rfl (by repeat' first | exact One.nil | apply One.cons rfl | (apply One.cons (Sl.one (by assumption))))) rfl rfl rfl (by kernel_rfl) (listed' := #[true, true, true, true, true, true, true, true, true, true, false, false, false, false]) ?_
          rintro lv _ ⟨hlv, rfl⟩
          refine As.one (i := 10) (by kernel_rfl) ?_
          refine Ao.call rfl ⟨Tryd.call28⟩ rfl rfl rfl (by repeat' first | exact Takes.nil _ | exact TakeP.here _ | apply TakeP.there | apply Takes.cons) (fun F' hF => shaLong_any) rfl rfl rfl (by kernel_rfl) (listed' := #[true, true, true, true, true, true, true, true, true, true, true, false, false, false]) ?_
          rintro uv _ ⟨huv, rfl⟩
          refine As.one (i := 11) (by kernel_rfl) ?_
          refine Ao.ef rfl (.lit1 (vs := [lv, zv, uv]) ei41 rfl rfl rfl (One.cons hlv.one (One.cons hzv.one (One.cons huv.one One.nil)))) rfl rfl rfl (by kernel_rfl) (listed' := #[true, true, true, true, true, true, true, true, true, true, true, true, false, false]) ?_
          rintro av _ ⟨hav, rfl⟩
          refine As.one (i := 12) (by kernel_rfl) ?_
          refine Ao.call rfl ⟨Tryd.call27⟩ rfl rfl rfl (by repeat' first | exact Takes.nil _ | exact TakeP.here _ | apply TakeP.there | apply Takes.cons) (fun F' hF => concat_any (vs := [lv, zv, uv]) (bs := [[128], List.replicate z 0, be64 (8 * UInt64.ofNat m.long)]) ((Rd.vec (v := av) (by repeat first | exact TakeP.here _ | apply TakeP.there)).wider hF) (.cons (by rw [show ([128] : List UInt8).length = 1 from rfl]; exact (Rd.vec (v := lv) (by repeat first | exact TakeP.here _ | apply TakeP.there)).wider hF) (.cons (by rw [List.length_replicate]; exact (Rd.vec (v := zv) (by repeat first | exact TakeP.here _ | apply TakeP.there)).wider hF) (.cons (by rw [be64_len]; exact (Rd.vec (v := uv) (by repeat first | exact TakeP.here _ | apply TakeP.there)).wider hF) .nil))) (by rw [hfl]; omega)) rfl rfl rfl (by kernel_rfl) (listed' := #[true, true, true, true, true, true, true, true, true, true, true, true, true, false]) ?_
          rintro cv _ ⟨hcv, rfl⟩
          refine As.one (i := 13) (by kernel_rfl) ?_
          refine Ao.call rfl ⟨Tryd.call14⟩ rfl rfl rfl (by repeat' first | exact Takes.nil _ | exact TakeP.here _ | apply TakeP.there | apply Takes.cons) (fun F' hF => shaWrite_any (m := m) (v := cv) (bs := padOf m.buf.length m.long) ok (tab.mono hF.hf) (by rw [← hfl]; exact (Rd.vec (v := cv) (by repeat first | exact TakeP.here _ | apply TakeP.there)).wider hF) (by omega)) rfl rfl rfl (by kernel_rfl) (listed' := #[true, true, true, true, true, true, true, true, true, true, true, true, true, true]) ?_
          rintro _ _ rfl
          refine As.done (by kernel_rfl) ?_
          exact Ext.at_ () trivial ⟨rfl, rfl, trivial⟩ (Ent.take (by repeat' first | exact Takes.nil _ | exact TakeP.here _ | apply TakeP.there | apply Takes.cons))
        ·
          refine Ao.call rfl ⟨Tryd.call28⟩ rfl rfl rfl (by repeat' first | exact Takes.nil _ | exact TakeP.here _ | apply TakeP.there | apply Takes.cons) (fun F' hF => shaLong_any) rfl rfl rfl (by kernel_rfl) (listed' := #[false, true, true, true, true, true, true, true, true, true, true, false, false, false]) ?_
          rintro uv _ ⟨huv, rfl⟩
          refine As.one (i := 0) (by kernel_rfl) ?_
          refine Ao.ef rfl (.lit1 ei22 rfl rfl rfl (by repeat' first | exact One.nil | apply One.cons rfl | (apply One.cons (Sl.one (by assumption))))) rfl rfl rfl (by kernel_rfl) (listed' := #[true, true, true, true, true, true, true, true, true, true, true, false, false, false]) ?_
          rintro lv _ ⟨hlv, rfl⟩
          refine As.one (i := 11) (by kernel_rfl) ?_
          refine Ao.ef rfl (.lit1 (vs := [lv, zv, uv]) ei41 rfl rfl rfl (One.cons hlv.one (One.cons hzv.one (One.cons huv.one One.nil)))) rfl rfl rfl (by kernel_rfl) (listed' := #[true, true, true, true, true, true, true, true, true, true, true, true, false, false]) ?_
          rintro av _ ⟨hav, rfl⟩
          refine As.one (i := 12) (by kernel_rfl) ?_
          refine Ao.call rfl ⟨Tryd.call27⟩ rfl rfl rfl (by repeat' first | exact Takes.nil _ | exact TakeP.here _ | apply TakeP.there | apply Takes.cons) (fun F' hF => concat_any (vs := [lv, zv, uv]) (bs := [[128], List.replicate z 0, be64 (8 * UInt64.ofNat m.long)]) ((Rd.vec (v := av) (by repeat first | exact TakeP.here _ | apply TakeP.there)).wider hF) (.cons (by rw [show ([128] : List UInt8).length = 1 from rfl]; exact (Rd.vec (v := lv) (by repeat first | exact TakeP.here _ | apply TakeP.there)).wider hF) (.cons (by rw [List.length_replicate]; exact (Rd.vec (v := zv) (by repeat first | exact TakeP.here _ | apply TakeP.there)).wider hF) (.cons (by rw [be64_len]; exact (Rd.vec (v := uv) (by repeat first | exact TakeP.here _ | apply TakeP.there)).wider hF) .nil))) (by rw [hfl]; omega)) rfl rfl rfl (by kernel_rfl) (listed' := #[true, true, true, true, true, true, true, true, true, true, true, true, true, false]) ?_
          rintro cv _ ⟨hcv, rfl⟩
          refine As.one (i := 13) (by kernel_rfl) ?_
          refine Ao.call rfl ⟨Tryd.call14⟩ rfl rfl rfl (by repeat' first | exact Takes.nil _ | exact TakeP.here _ | apply TakeP.there | apply Takes.cons) (fun F' hF => shaWrite_any (m := m) (v := cv) (bs := padOf m.buf.length m.long) ok (tab.mono hF.hf) (by rw [← hfl]; exact (Rd.vec (v := cv) (by repeat first | exact TakeP.here _ | apply TakeP.there)).wider hF) (by omega)) rfl rfl rfl (by kernel_rfl) (listed' := #[true, true, true, true, true, true, true, true, true, true, true, true, true, true]) ?_
          rintro _ _ rfl
          refine As.done (by kernel_rfl) ?_
          exact Ext.at_ () trivial ⟨rfl, rfl, trivial⟩ (Ent.take (by repeat' first | exact Takes.nil _ | exact TakeP.here _ | apply TakeP.there | apply Takes.cons))
    ·
      refine Ao.st rfl (.load rfl Tryd.isAgg3 (CellAt.ro (hR 73 _ (hs_long hst hre)))) rfl rfl rfl (by kernel_rfl) (listed' := #[false, true, true, false, true, true, true, true, false, false, false, false, false, false]) ?_
      refine As.take 8 rfl (by kernel_rfl) (by kernel_rfl) (by kernel_rfl) rfl rfl rfl (fun F hs => .convI_64 rfl rfl Tryd.underlying3 Tryd.underlying45) (by kernel_rfl) (listed' := #[false, true, true, false, true, true, true, true, true, false, false, false, false, false]) ?_
      refine As.take 9 rfl (by kernel_rfl) (by kernel_rfl) (by kernel_rfl) rfl rfl rfl (fun F hs => .mulW64 (show _ = some (W64 8) from rfl) rfl) (by kernel_rfl) (listed' := #[false, true, true, false, true, true, true, true, true, true, false, false, false, false]) ?_
      refine As.three (i := 0) (j := 3) (l := 10) (by kernel_rfl) ?_ ?_ ?_
      ·
        refine Ao.ef rfl (.lit1 ei22 rfl rfl rfl (by repeat' first | exact One.nil | apply One.cons rfl | (apply One.cons (Sl.one (by assumption))))) rfl rfl rfl (by kernel_rfl) (listed' := #[true, true, true, false, true, true, true, true, true, true, false, false, false, false]) ?_
        rintro lv _ ⟨hlv, rfl⟩
        refine As.two (i := 3) (j := 10) (by kernel_rfl) ?_ ?_
        ·
          refine Ao.ef rfl (.make (ln := z) (cn := z) (xs := u8s (List.replicate z 0)) (ys := []) rfl rfl ei22 (by omega) (by omega) (Nat.le_refl _) (by omega) (by simp only [maxLen]; omega) (by rw [madeCells_one, u8s_zeros, List.append_nil, Nat.mul_one]) (by rw [u8s_len, List.length_replicate, Nat.mul_one]) (u8s_one _)) rfl rfl rfl (by kernel_rfl) (listed' := #[true, true, true, true, true, true, true, true, true, true, false, false, false, false]) ?_
          rintro zv _ ⟨hzv, rfl⟩
          refine As.one (i := 10) (by kernel_rfl) ?_
          refine Ao.call rfl ⟨Tryd.call28⟩ rfl rfl rfl (by repeat' first | exact Takes.nil _ | exact TakeP.here _ | apply TakeP.there | apply Takes.cons) (fun F' hF => shaLong_any) rfl rfl rfl (by kernel_rfl) (listed' := #[true, true, true, true, true, true, true, true, true, true, true, false, false, false]) ?_
          rintro uv _ ⟨huv, rfl⟩
          refine As.one (i := 11) (by kernel_rfl) ?_
          refine Ao.ef rfl (.lit1 (vs := [lv, zv, uv]) ei41 rfl rfl rfl (One.cons hlv.one (One.cons hzv.one (One.cons huv.one One.nil)))) rfl rfl rfl (by kernel_rfl) (listed' := #[true, true, true, true, true, true, true, true, true, true, true, true, false, false]) ?_
          rintro av _ ⟨hav, rfl⟩
          refine As.one (i := 12) (by kernel_rfl) ?_
          refine Ao.call rfl ⟨Tryd.call27⟩ rfl rfl rfl (by repeat' first | exact Takes.nil _ | exact TakeP.here _ | apply TakeP.there | apply Takes.cons) (fun F' hF => concat_any (vs := [lv, zv, uv]) (bs := [[128], List.replicate z 0, be64 (8 * UInt64.ofNat m.long)]) ((Rd.vec (v := av) (by repeat first | exact TakeP.here _ | apply TakeP.there)).wider hF) (.cons (by rw [show ([128] : List UInt8).length = 1 from rfl]; exact (Rd.vec (v := lv) (by repeat first | exact TakeP.here _ | apply TakeP.there)).wider hF) (.cons (by rw [List.length_replicate]; exact (Rd.vec (v := zv) (by repeat first | exact TakeP.here _ | apply TakeP.there)).wider hF) (.cons (by rw [be64_len]; exact (Rd.vec (v := uv) (by repeat first | exact TakeP.here _ | apply TakeP.there)).wider hF) .nil))) (by rw [hfl]; omega)) rfl rfl rfl (by kernel_rfl) (listed' := #[true, true, true, true, true, true, true, true, true, true, true, true, true, false]) ?_
          rintro cv _ ⟨hcv, rfl⟩
          refine As.one (i := 13) (by kernel_rfl) ?_
          refine Ao.call rfl ⟨Tryd.call14⟩ rfl rfl rfl (by repeat' first | exact Takes.nil _ | exact TakeP.here _ | apply TakeP.there | apply Takes.cons) (fun F' hF => shaWrite_any (m := m) (v := cv) (bs := padOf m.buf.length m.long) ok (tab.mono hF.hf) (by rw [← hfl]; exact (Rd.vec (v := cv) (by repeat first | exact TakeP.here _ | apply TakeP.there)).wider hF) (by omega)) rfl rfl rfl (by kernel_rfl) (listed' := #[true, true, true, true, true, true, true, true, true, true, true, true, true, true]) ?_
          rintro _ _ rfl
          refine As.done (by kernel_rfl) ?_
          exact Ext.at_ () trivial ⟨rfl, rfl, trivial⟩ (Ent.take (by repeat' first | exact Takes.nil _ | exact TakeP.here _ | apply TakeP.there | apply Takes.cons))
        ·
          refine Ao.call rfl ⟨Tryd.call28⟩ rfl rfl rfl (by repeat' first | exact Takes.nil _ | exact TakeP.here _ | apply TakeP.there | apply Takes.cons) (fun F' hF => shaLong_any) rfl rfl rfl (by kernel_rfl) (listed' := #[true, true, true, false, true, true, true, true, true, true, true, false, false, false]) ?_
          rintro uv _ ⟨huv, rfl⟩
          refine As.one (i := 3) (by kernel_rfl) ?_
          refine Ao.ef rfl (.make (ln := z) (cn := z) (xs := u8s (List.replicate z 0)) (ys := []) rfl rfl ei22 (by omega) (by omega) (Nat.le_refl _) (by omega) (by simp only [maxLen]; omega) (by rw [madeCells_one, u8s_zeros, List.append_nil, Nat.mul_one]) (by rw [u8s_len, List.length_replicate, Nat.mul_one]) (u8s_one _)) rfl rfl rfl (by kernel_rfl) (listed' := #[true, true, true, true, true, true, true, true, true, true, true, false, false, false]) ?_
          rintro zv _ ⟨hzv, rfl⟩
          refine As.one (i := 11) (by kernel_rfl) ?_
          refine Ao.ef rfl (.lit1 (vs := [lv, zv, uv]) ei41 rfl rfl rfl (One.cons hlv.one (One.cons hzv.one (One.cons huv.one One.nil)))) rfl rfl rfl (by kernel_rfl) (listed' := #[true, true, true, true, true, true, true, true, true, true, true, true, false, false]) ?_
          rintro av _ ⟨hav, rfl⟩
          refine As.one (i := 12) (by kernel_rfl) ?_
          refine Ao.call rfl ⟨Tryd.call27⟩ rfl rfl rfl (by repeat' first | exact Takes.nil _ | exact TakeP.here _ | apply TakeP.there | apply Takes.cons) (fun F' hF => concat_any (vs := [lv, zv, uv]) (bs := [[128], List.replicate z 0, be64 (8 * UInt64.ofNat m.long)]) ((Rd.vec (v := av) (by repeat first | exact TakeP.here _ | apply TakeP.there)).wider hF) (.cons (by rw [show ([128] : List UInt8).length = 1 from rfl]; exact (Rd.vec (v := lv) (by repeat first | exact TakeP.here _ | apply TakeP.there)).wider hF) (.cons (by rw [List.length_replicate]; exact (Rd.vec (v := zv) (by repeat first | exact TakeP.here _ | apply TakeP.there)).wider hF) (.cons (by rw [be64_len]; exact (Rd.vec (v := uv) (by repeat first | exact TakeP.here _ | apply TakeP.there)).wider hF) .nil))) (by rw [hfl]; omega)) rfl rfl rfl (by kernel_rfl) (listed' := #[true, true, true, true, true, true, true, true, true, true, true, true, true, false]) ?_
          rintro cv _ ⟨hcv, rfl⟩
          refine As.one (i := 13) (by kernel_rfl) ?_
          refine Ao.call rfl ⟨Tryd.call14⟩ rfl rfl rfl (by repeat' first | exact Takes.nil _ | exact TakeP.here _ | apply TakeP.there | apply Takes.cons) (fun F' hF => shaWrite_any (m := m) (v := cv) (bs := padOf m.buf.length m.long) ok (tab.mono hF.hf) (by rw [← hfl]; exact (Rd.vec (v := cv) (by repeat first | exact TakeP.here _ | apply TakeP.there)).wider hF) (by omega)) rfl rfl rfl (by kernel_rfl) (listed' := #[true, true, true, true, true, true, true, true, true, true, true, true, true, true]) ?_
          rintro _ _ rfl
          refine As.done (by kernel_rfl) ?_
          exact Ext.at_ () trivial ⟨rfl, rfl, trivial⟩ (Ent.take (by repeat' first | exact Takes.nil _ | exact TakeP.here _ | apply TakeP.there | apply Takes.cons))
      ·
        refine Ao.ef rfl (.make (ln := z) (cn := z) (xs := u8s (List.replicate z 0)) (ys := []) rfl rfl ei22 (by omega) (by omega) (Nat.le_refl _) (by omega) (by simp only [maxLen]; omega) (by rw [madeCells_one, u8s_zeros, List.append_nil, Nat.mul_one]) (by rw [u8s_len, List.length_replicate, Nat.mul_one]) (u8s_one _)) rfl rfl rfl (by kernel_rfl) (listed' := #[false, true, true, true, true, true, true, true, true, true, false, false, false, false]) ?_
        rintro zv _ ⟨hzv, rfl⟩
        refine As.two (i := 0) (j := 10) (by kernel_rfl) ?_ ?_
        ·
          refine Ao.ef rfl (.lit1 ei22 rfl rfl rfl (by repeat' first | exact One.nil | apply One.cons rfl | (apply One.cons (Sl.one (by assumption))))) rfl rfl rfl (by kernel_rfl) (listed' := #[true, true, true, true, true, true, true, true, true, true, false, false, false, false]) ?_
          rintro lv _ ⟨hlv, rfl⟩
          refine As.one (i := 10) (by kernel_rfl) ?_
          refine Ao.call rfl ⟨Tryd.call28⟩ rfl rfl rfl (by repeat' first | exact Takes.nil _ | exact TakeP.here _ | apply TakeP.there | apply Takes.cons) (fun F' hF => shaLong_any) rfl rfl rfl (by kernel_rfl) (listed' := #[true, true, true, true, true, true, true, true, true, true, true, false, false, false]) ?_
          rintro uv _ ⟨huv, rfl⟩
          refine As.one (i := 11) (by kernel_rfl) ?_
          refine Ao.ef rfl (.lit1 (vs := [lv, zv, uv]) ei41 rfl rfl rfl (One.cons hlv.one (One.cons hzv.one (One.cons huv.one One.nil)))) rfl rfl rfl (by kernel_rfl) (listed' := #[true, true, true, true, true, true, true, true, true, true, true, true, false, false]) ?_
          rintro av _ ⟨hav, rfl⟩
          refine As.one (i := 12) (by kernel_rfl) ?_
          refine Ao.call rfl ⟨Tryd.call27⟩ rfl rfl rfl (by repeat' first | exact Takes.nil _ | exact TakeP.here _ | apply TakeP.there | apply Takes.cons) (fun F' hF => concat_any (vs := [lv, zv, uv]) (bs := [[128], List.replicate z 0, be64 (8 * UInt64.ofNat m.long)]) ((Rd.vec (v := av) (by repeat first | exact TakeP.here _ | apply TakeP.there)).wider hF) (.cons (by rw [show ([128] : List UInt8).length = 1 from rfl]; exact (Rd.vec (v := lv) (by repeat first | exact TakeP.here _ | apply TakeP.there)).wider hF) (.cons (by rw [List.length_replicate]; exact (Rd.vec (v := zv) (by repeat first | exact TakeP.here _ | apply TakeP.there)).wider hF) (.cons (by rw [be64_len]; exact (Rd.vec (v := uv) (by repeat first | exact TakeP.here _ | apply TakeP.there)).wider hF) .nil))) (by rw [hfl]; omega)) rfl rfl rfl (by kernel_rfl) (listed' := #[true, true, true, true, true, true, true, true, true, true, true, true, true, false]) ?_
          rintro cv _ ⟨hcv, rfl⟩
          refine As.one (i := 13) (by kernel_rfl) ?_
          refine Ao.call rfl ⟨Tryd.call14⟩ rfl rfl rfl (by repeat' first | exact Takes.nil _ | exact TakeP.here _ | apply TakeP.there | apply Takes.cons) (fun F' hF => shaWrite_any (m := m) (v := cv) (bs := padOf m.buf.length m.long) ok (tab.mono hF.hf) (by rw [← hfl]; exact (Rd.vec (v := cv) (by repeat first | exact TakeP.here _ | apply TakeP.there)).wider hF) (by omega)) rfl rfl rfl (by kernel_rfl) (listed' := #[true, true, true, true, true, true, true, true, true, true, true, true, true, true]) ?_
          rintro _ _ rfl
          refine As.done (by kernel_rfl) ?_
          exact Ext.at_ () trivial ⟨rfl, rfl, trivial⟩ (Ent.take (by repeat' first | exact Takes.nil _ | exact TakeP.here _ | apply TakeP.there | apply Takes.cons))
        ·
          refine Ao.call rfl ⟨Tryd.call28⟩ rfl rfl rfl (by repeat' first | exact Takes.nil _ | exact TakeP.here _ | apply TakeP.there | apply Takes.cons) (fun F' hF => shaLong_any) rfl rfl rfl (by kernel_rfl) (listed' := #[false, true, true, true, true, true, true, true, true, true, true, false, false, false]) ?_
          rintro uv _ ⟨huv, rfl⟩
          refine As.one (i := 0) (by kernel_rfl) ?_
          refine Ao.ef rfl (.lit1 ei22 rfl rfl rfl (by repeat' first | exact One.nil | apply One.cons rfl | (apply One.cons (Sl.one (by assumption))))) rfl rfl rfl (by kernel_rfl) (listed' := #[true, true, true, true, true, true, true, true, true, true, true, false, false, false]) ?_
          rintro lv _ ⟨hlv, rfl⟩
          refine As.one (i := 11) (by kernel_rfl) ?_
          refine Ao.ef rfl (.lit1 (vs := [lv, zv, uv]) ei41 rfl rfl rfl (One.cons hlv.one (One.cons hzv.one (One.cons huv.one One.nil)))) rfl rfl rfl (by kernel_rfl) (listed' := #[true, true, true, true, true, true, true, true, true, true, true, true, false, false]) ?_
          rintro av _ ⟨hav, rfl⟩
          refine As.one (i := 12) (by kernel_rfl) ?_
          refine Ao.call rfl ⟨Tryd.call27⟩ rfl rfl rfl (by repeat' first | exact Takes.nil _ | exact TakeP.here _ | apply TakeP.there | apply Takes.cons) (fun F' hF => concat_any (vs := [lv, zv, uv]) (bs := [[128], List.replicate z 0, be64 (8 * UInt64.ofNat m.long)]) ((Rd.vec (v := av) (by repeat first | exact TakeP.here _ | apply TakeP.there)).wider hF) (.cons (by rw [show ([128] : List UInt8).length = 1 from rfl]; exact (Rd.vec (v := lv) (by repeat first | exact TakeP.here _ | apply TakeP.there)).wider hF) (.cons (by rw [List.length_replicate]; exact (Rd.vec (v := zv) (by repeat first | exact TakeP.here _ | apply TakeP.there)).wider hF) (.cons (by rw [be64_len]; exact (Rd.vec (v := uv) (by repeat first | exact TakeP.here _ | apply TakeP.there)).wider hF) .nil))) (by rw [hfl]; omega)) rfl rfl rfl (by kernel_rfl) (listed' := #[true, true, true, true, true, true, true, true, true, true, true, true, true, false]) ?_
          rintro cv _ ⟨hcv, rfl⟩
          refine As.one (i := 13) (by kernel_rfl) ?_
          refine Ao.call rfl ⟨Tryd.call14⟩ rfl rfl rfl (by repeat' first | exact Takes.nil _ | exact TakeP.here _ | apply TakeP.there | apply Takes.cons) (fun F' hF => shaWrite_any (m := m) (v := cv) (bs := padOf m.buf.length m.long) ok (tab.mono hF.hf) (by rw [← hfl]; exact (Rd.vec (v := cv) (by repeat first | exact TakeP.here _ | apply TakeP.there)).wider hF) (by omega)) rfl rfl rfl (by kernel_rfl) (listed' := #[true, true, true, true, true, true, true, true, true, true, true, true, true, true]) ?_
          rintro _ _ rfl
          refine As.done (by kernel_rfl) ?_
          exact Ext.at_ () trivial ⟨rfl, rfl, trivial⟩ (Ent.take (by repeat' first | exact Takes.nil _ | exact TakeP.here _ | apply TakeP.there | apply Takes.cons))
      ·
        refine Ao.call rfl ⟨Tryd.call28⟩ rfl rfl rfl (by repeat' first | exact Takes.nil _ | exact TakeP.here _ | apply TakeP.there | apply Takes.cons) (fun F' hF => shaLong_any) rfl rfl rfl (by kernel_rfl) (listed' := #[false, true, true, false, true, true, true, true, true, true, true, false, false, false]) ?_
        rintro uv _ ⟨huv, rfl⟩
        refine As.two (i := 0) (j := 3) (by kernel_rfl) ?_ ?_
        ·
          refine Ao.ef rfl (.lit1 ei22 rfl rfl rfl (by repeat' first | exact One.nil | apply One.cons rfl | (apply One.cons (Sl.one (by assumption))))) rfl rfl rfl (by kernel_rfl) (listed' := #[true, true, true, false, true, true, true, true, true, true, true, false, false, false]) ?_
          rintro lv _ ⟨hlv, rfl⟩
          refine As.one (i := 3) (by kernel_rfl) ?_
          refine Ao.ef rfl (.make (ln := z) (cn := z) (xs := u8s (List.replicate z 0)) (ys := []) rfl rfl ei22 (by omega) (by omega) (Nat.le_refl _) (by omega) (by simp only [maxLen]; omega) (by rw [madeCells_one, u8s_zeros, List.append_nil, Nat.mul_one]) (by rw [u8s_len, List.length_replicate, Nat.mul_one]) (u8s_one _)) rfl rfl rfl (by kernel_rfl) (listed' := #[true, true, true, true, true, true, true, true, true, true, true, false, false, false]) ?_
          rintro zv _ ⟨hzv, rfl⟩
          refine As.one (i := 11) (by kernel_rfl) ?_
          refine Ao.ef rfl (.lit1 (vs := [lv, zv, uv]) ei41 rfl rfl rfl (One.cons hlv.one (One.cons hzv.one (One.cons huv.one One.nil)))) rfl rfl rfl (by kernel_rfl) (listed' := #[true, true, true, true, true, true, true, true, true, true, true, true, false, false]) ?_
          rintro av _ ⟨hav, rfl⟩
          refine As.one (i := 12) (by kernel_rfl) ?_
          refine Ao.call rfl ⟨Tryd.call27⟩ rfl rfl rfl (by repeat' first | exact Takes.nil _ | exact TakeP.here _ | apply TakeP.there | apply Takes.cons) (fun F' hF => concat_any (vs := [lv, zv, uv]) (bs := [[128], List.replicate z 0, be64 (8 * UInt64.ofNat m.long)]) ((Rd.vec (v := av) (by repeat first | exact TakeP.here _ | apply TakeP.there)).wider hF) (.cons (by rw [show ([128] : List UInt8).length = 1 from rfl]; exact (Rd.vec (v := lv) (by repeat first | exact TakeP.here _ | apply TakeP.there)).wider hF) (.cons (by rw [List.length_replicate]; exact (Rd.vec (v := zv) (by repeat first | exact TakeP.here _ | apply TakeP.there)).wider hF) (.cons (by rw [be64_len]; exact (Rd.vec (v := uv) (by repeat first | exact TakeP.here _ | apply TakeP.there)).wider hF) .nil))) (by rw [hfl]; omega)) rfl rfl rfl (by kernel_rfl) (listed' := #[true, true, true, true, true, true, true, true, true, true, true, true, true, false]) ?_
          rintro cv _ ⟨hcv, rfl⟩
          refine As.one (i := 13) (by kernel_rfl) ?_
          refine Ao.call rfl ⟨Tryd.call14⟩ rfl rfl rfl (by repeat' first | exact Takes.nil _ | exact TakeP.here _ | apply TakeP.there | apply Takes.cons) (fun F' hF => shaWrite_any (m := m) (v := cv) (bs := padOf m.buf.length m.long) ok (tab.mono hF.hf) (by rw [← hfl]; exact (Rd.vec (v := cv) (by repeat first | exact TakeP.here _ | apply TakeP.there)).wider hF) (by omega)) rfl rfl rfl (by kernel_rfl) (listed' := #[true, true, true, true, true, true, true, true, true, true, true, true, true, true]) ?_
          rintro _ _ rfl
          refine As.done (by kernel_rfl) ?_
          exact Ext.at_ () trivial ⟨rfl, rfl, trivial⟩ (Ent.take (by repeat' first | exact Takes.nil _ | exact TakeP.here _ | apply TakeP.there | apply Takes.cons))
        ·
          refine Ao.ef rfl (.make (ln := z) (cn := z) (xs := u8s (List.replicate z 0)) (ys := []) rfl rfl ei22 (by omega) (by omega) (Nat.le_refl _) (by omega) (by simp only [maxLen]; omega) (by rw [madeCells_one, u8s_zeros, List.append_nil, Nat.mul_one]) (by rw [u8s_len, List.length_replicate, Nat.mul_one]) (u8s_one _)) rfl rfl rfl (by kernel_rfl) (listed' := #[false, true, true, true, true, true, true, true, true, true, true, false, false, false]) ?_
          rintro zv _ ⟨hzv, rfl⟩
          refine As.one (i := 0) (by kernel_rfl) ?_
          refine Ao.ef rfl (.lit1 ei22 rfl rfl rfl (by repeat' first | exact One.nil | apply One.cons rfl | (apply One.cons (Sl.one (by assumption))))) rfl rfl rfl (by kernel_rfl) (listed' := #[true, true, true, true, true, true, true, true, true, true, true, false, false, false]) ?_
          rintro lv _ ⟨hlv, rfl⟩
          refine As.one (i := 11) (by kernel_rfl) ?_
          refine Ao.ef rfl (.lit1 (vs := [lv, zv, uv]) ei41 rfl rfl rfl (One.cons hlv.one (One.cons hzv.one (One.cons huv.one One.nil)))) rfl rfl rfl (by kernel_rfl) (listed' := #[true, true, true, true, true, true, true, true, true, true, true, true, false, false]) ?_
          rintro av _ ⟨hav, rfl⟩
          refine As.one (i := 12) (by kernel_rfl) ?_
          refine Ao.call rfl ⟨Tryd.call27⟩ rfl rfl rfl (by repeat' first | exact Takes.nil _ | exact TakeP.here _ | apply TakeP.there | apply Takes.cons) (fun F' hF => concat_any (vs := [lv, zv, uv]) (bs := [[128], List.replicate z 0, be64 (8 * UInt64.ofNat m.long)]) ((Rd.vec (v := av) (by repeat first | exact TakeP.here _ | apply TakeP.there)).wider hF) (.cons (by rw [show ([128] : List UInt8).length = 1 from rfl]; exact (Rd.vec (v := lv) (by repeat first | exact TakeP.here _ | apply TakeP.there)).wider hF) (.cons (by rw [List.length_replicate]; exact (Rd.vec (v := zv) (by repeat first | exact TakeP.here _ | apply TakeP.there)).wider hF) (.cons (by rw [be64_len]; exact (Rd.vec (v := uv) (by repeat first | exact TakeP.here _ | apply TakeP.there)).wider hF) .nil))) (by rw [hfl]; omega)) rfl rfl rfl (by kernel_rfl) (listed' := #[true, true, true, true, true, true, true, true, true, true, true, true, true, false]) ?_
          rintro cv _ ⟨hcv, rfl⟩
          refine As.one (i := 13) (by kernel_rfl) ?_
          refine Ao.call rfl ⟨Tryd.call14⟩ rfl rfl rfl (by repeat' first | exact Takes.nil _ | exact TakeP.here _ | apply TakeP.there | apply Takes.cons) (fun F' hF => shaWrite_any (m := m) (v := cv) (bs := padOf m.buf.length m.long) ok (tab.mono hF.hf) (by rw [← hfl]; exact (Rd.vec (v := cv) (by repeat first | exact TakeP.here _ | apply TakeP.there)).wider hF) (by omega)) rfl rfl rfl (by kernel_rfl) (listed' := #[true, true, true, true, true, true, true, true, true, true, true, true, true, true]) ?_
          rintro _ _ rfl
          refine As.done (by kernel_rfl) ?_
          exact Ext.at_ () trivial ⟨rfl, rfl, trivial⟩ (Ent.take (by repeat' first | exact Takes.nil _ | exact TakeP.here _ | apply TakeP.there | apply Takes.cons))
  ·
    rintro _ _
    dsimp only
    refine Cod.seq ?_
    refine Cod.region ?_
    refine Ops.call ⟨Tryd.call29⟩ rfl rfl rfl (by repeat' first | exact Takes.nil _ | exact TakeP.here _ | apply TakeP.there | apply Takes.cons) (fun F' hF => shaBytes_any (st := (m.write (padOf m.buf.length m.long)).st) (hfull_len _ rfl hst).1 ((hF.hash (m := m.write (padOf m.buf.length m.long)) (by repeat first | exact TakeP.here _ | apply TakeP.there)).state (hfull_len _ rfl hst).1)) rfl rfl rfl ?_
    rintro _ _ ⟨rfl, rfl⟩
    have hlen : (u8s m.sum).length = 32 := by rw [u8s_len, hsl]
    refine Ops.ef10 (.storeA (vs := u8s m.sum) (cs' := u8s m.sum) rfl rfl (by repeat first | exact TakeP.here _ | apply TakeP.there) Tryd.sizeOf24 (by rw [u8s_len, hsl]) (by simp) (u8s_one _) (by rw [List.take_zero, List.nil_append, List.drop_of_length_le (by simp), List.append_nil])) rfl rfl ?_
    refine Ops.nil ?_
    refine Ext.seq ?_
    exact Cod.ret (Ext.retCE rfl rfl (by repeat first | exact TakeP.here _ | apply TakeP.there) Tryd.isAgg24 Tryd.sizeOf24 (by first | rfl | assumption) (Ent.nil _) (⟨rfl, rfl⟩))

theorem shaLen_any {F : Fr} {b : Nat} {m : HM} (hst : m.st.length = 8) (hh : HashR F.hf b m) : Spec Tryd.prog F 21 [.pointer (some ⟨b, 0, none⟩)] [] (fun u hs' => u = .int .i64 m.long ∧ hs' = []) := by
  obtain ⟨rest, ⟨hre, htk⟩, hR⟩ := hh
  refine Spec.body Tryd.func21 rfl Tryd.ntmps21 rfl ?_
  refine Cod.seq ?_
  refine Cod.region ?_
  refine Ops.st (.assign rfl) rfl rfl rfl ?_
  refine Ops.nil ?_
  refine Ext.seq ?_
  refine Cod.seq ?_
  refine Cod.region ?_
  refine Ops.st (.move rfl) rfl rfl rfl ?_
  refine Ops.st (.nilCheck rfl) rfl rfl rfl ?_
  refine Ops.st (.fieldAddr rfl fa53_3) rfl rfl rfl ?_
  refine Ops.st (.load rfl Tryd.isAgg3 (CellAt.ro (hR 73 _ (hs_long hst hre)))) rfl rfl rfl ?_
  refine Ops.st (.assign rfl) rfl rfl rfl ?_
  refine Ops.nil ?_
  refine Ext.seq ?_
  exact Cod.ret (Ext.ret rfl rfl ⟨rfl, rfl⟩)

/-- A hash as bytes. -/
def HM.save (m : HM) : List UInt8 := bytes32 m.st ++ (be64 (UInt64.ofNat m.long) ++ m.buf)
theorem HM.save_len {m : HM} : m.save.length = 40 + m.buf.length := by simp only [HM.save, List.length_append, bytes32_len, be64_len]; omega
set_option maxRecDepth 4000 in
theorem shaSave_any {F : Fr} {b : Nat} {m : HM} (ok : m.Ok) (hh : HashR F.hf b m) :
    Spec Tryd.prog F 16 [.pointer (some ⟨b, 0, none⟩)] [] (fun u hs' => Sl u ∧ hs' = [vec u 5 1 m.save.length (u8s m.save)]) := by
  have hh0 := hh
  obtain ⟨rest, ⟨hre, htk⟩, hR⟩ := hh
  have hst := ok.st
  have hbuf := ok.buf
  have hfl : [bytes32 m.st, be64 (UInt64.ofNat m.long), m.buf].flatten = m.save := by simp [HM.save]
  have hsv := m.save_len
  refine Spec.body Tryd.func16 rfl Tryd.ntmps16 rfl ?_
  refine Cod.seq ?_
  refine Cod.region ?_
  refine Ops.st (.assign rfl) rfl rfl rfl ?_
  refine Ops.nil ?_
  refine Ext.seq ?_
  refine Cod.seq ?_
  refine Cod.region ?_
  refine Ops.st (.move rfl) rfl rfl rfl ?_
  refine Ops.call ⟨Tryd.call29⟩ rfl rfl rfl (by repeat' first | exact Takes.nil _ | exact TakeP.here _ | apply TakeP.there | apply Takes.cons) (fun F' hF => shaBytes_any (st := m.st) hst ((hh0.mono hF.hf).state hst)) rfl rfl rfl ?_
  rintro _ _ ⟨rfl, rfl⟩
  refine Ops.ef (.alloc (cs := List.replicate 32 (Value.int .u8 0)) Tryd.zeroValue24 (by kernel_rfl)) rfl rfl rfl ?_
  rintro _ _ ⟨sb, rfl, rfl⟩
  refine Ops.ef10 (.storeA (vs := u8s (bytes32 m.st)) (cs' := u8s (bytes32 m.st)) rfl rfl (by repeat first | exact TakeP.here _ | apply TakeP.there) Tryd.sizeOf24 (by rw [u8s_len, bytes32_len]) (by simp) (u8s_one _) (by rw [List.take_zero, List.nil_append, List.drop_of_length_le (by simp), List.append_nil])) rfl rfl ?_
  refine Ops.nil ?_
  refine Ext.seq ?_
  refine Cod.seq ?_
  refine Cod.regionA mixed (by kernel_rfl) (listed := #[false, false, false, false, false, false, false, false, false, false, false, false, false, false, false, false, false, false]) ?_
  refine As.take 0 rfl (by kernel_rfl) (by kernel_rfl) (by kernel_rfl) rfl rfl rfl (fun F hs => .sliceArr rfl Tryd.runUnderlying24 Tryd.sizeOf5) (by kernel_rfl) (listed' := #[true, false, false, false, false, false, false, false, false, false, false, false, false, false, false, false, false, false]) ?_
  refine As.take 1 rfl (by kernel_rfl) (by kernel_rfl) (by kernel_rfl) rfl rfl rfl (fun F hs => .move rfl) (by kernel_rfl) (listed' := #[true, true, false, false, false, false, false, false, false, false, false, false, false, false, false, false, false, false]) ?_
  refine As.take 2 rfl (by kernel_rfl) (by kernel_rfl) (by kernel_rfl) rfl rfl rfl (fun F hs => .nilCheck rfl) (by kernel_rfl) (listed' := #[true, true, true, false, false, false, false, false, false, false, false, false, false, false, false, false, false, false]) ?_
  refine As.take 3 rfl (by kernel_rfl) (by kernel_rfl) (by kernel_rfl) rfl rfl rfl (fun F hs => .fieldAddr rfl fa53_3) (by kernel_rfl) (listed' := #[true, true, true, true, false, false, false, false, false, false, false, false, false, false, false, false, false, false]) ?_
  refine As.take 7 rfl (by kernel_rfl) (by kernel_rfl) (by kernel_rfl) rfl rfl rfl (fun F hs => .move rfl) (by kernel_rfl) (listed' := #[true, true, true, true, false, false, false, true, false, false, false, false, false, false, false, false, false, false]) ?_
  refine As.take 8 rfl (by kernel_rfl) (by kernel_rfl) (by kernel_rfl) rfl rfl rfl (fun F hs => .nilCheck rfl) (by kernel_rfl) (listed' := #[true, true, true, true, false, false, false, true, true, false, false, false, false, false, false, false, false, false]) ?_
  refine As.take 9 rfl (by kernel_rfl) (by kernel_rfl) (by kernel_rfl) rfl rfl rfl (fun F hs => .fieldAddr rfl fa53_1) (by kernel_rfl) (listed' := #[true, true, true, true, false, false, false, true, true, true, false, false, false, false, false, false, false, false]) ?_
  refine As.take 10 rfl (by kernel_rfl) (by kernel_rfl) (by kernel_rfl) rfl rfl rfl (fun F hs => .move rfl) (by kernel_rfl) (listed' := #[true, true, true, true, false, false, false, true, true, true, true, false, false, false, false, false, false, false]) ?_
  refine As.take 11 rfl (by kernel_rfl) (by kernel_rfl) (by kernel_rfl) rfl rfl rfl (fun F hs => .nilCheck rfl) (by kernel_rfl) (listed' := #[true, true, true, true, false, false, false, true, true, true, true, true, false, false, false, false, false, false]) ?_
  refine As.take 12 rfl (by kernel_rfl) (by kernel_rfl) (by kernel_rfl) rfl rfl rfl (fun F hs => .fieldAddr rfl fa53_2) (by kernel_rfl) (listed' := #[true, true, true, true, false, false, false, true, true, true, true, true, true, false, false, false, false, false]) ?_
  refine As.two (i := 4) (j := 13) (by kernel_rfl) ?_ ?_
  ·
    refine Ao.st rfl (.load rfl Tryd.isAgg3 (CellAt.ro (hR 73 _ (hs_long hst hre)))) rfl rfl rfl (by kernel_rfl) (listed' := #[true, true, true, true, true, false, false, true, true, true, true, true, true, false, false, false, false, false]) ?_
    refine As.take 5 rfl (by kernel_rfl) (by kernel_rfl) (by kernel_rfl) rfl rfl rfl (fun F hs => .convI_64 rfl rfl Tryd.underlying3 Tryd.underlying45) (by kernel_rfl) (listed' := #[true, true, true, true, true, true, false, true, true, true, true, true, true, false, false, false, false, false]) ?_
    refine As.two (i := 6) (j := 13) (by kernel_rfl) ?_ ?_
    ·
      refine Ao.call rfl ⟨Tryd.call28⟩ rfl rfl rfl (by repeat' first | exact Takes.nil _ | exact TakeP.here _ | apply TakeP.there | apply Takes.cons) (fun F' hF => shaLong_any) rfl rfl rfl (by kernel_rfl) (listed' := #[true, true, true, true, true, true, true, true, true, true, true, true, true, false, false, false, false, false]) ?_
      rintro uv _ ⟨huv, rfl⟩
      refine As.one (i := 13) (by kernel_rfl) ?_
      refine Ao.st rfl (.load rfl Tryd.isAgg3 (CellAt.ro (hR 72 _ (hs_fill hst hre)))) rfl rfl rfl (by kernel_rfl) (listed' := #[true, true, true, true, true, true, true, true, true, true, true, true, true, true, false, false, false, false]) ?_
      refine As.take 14 rfl (by kernel_rfl) (by kernel_rfl) (by kernel_rfl) rfl rfl rfl (fun F hs => .sliceArr_h (hi := m.buf.length) rfl rfl Tryd.runUnderlying51 Tryd.sizeOf5 rfl (by omega)) (by kernel_rfl) (listed' := #[true, true, true, true, true, true, true, true, true, true, true, true, true, true, true, false, false, false]) ?_
      refine As.one (i := 15) (by kernel_rfl) ?_
      refine Ao.ef rfl (.lit1 (vs := [.slice (some ⟨sb, 0, none⟩) 32 32, uv, Value.cut (.slice (some ⟨b, 0 + 8, none⟩) 64 64) 0 m.buf.length 1]) ei41 rfl rfl rfl (One.cons rfl (One.cons huv.one (One.cons rfl One.nil)))) rfl rfl rfl (by kernel_rfl) (listed' := #[true, true, true, true, true, true, true, true, true, true, true, true, true, true, true, true, false, false]) ?_
      rintro av _ ⟨hav, rfl⟩
      refine As.one (i := 16) (by kernel_rfl) ?_
      refine Ao.call rfl ⟨Tryd.call27⟩ rfl rfl rfl (by repeat' first | exact Takes.nil _ | exact TakeP.here _ | apply TakeP.there | apply Takes.cons) (fun F' hF => concat_any (vs := [.slice (some ⟨sb, 0, none⟩) 32 32, uv, Value.cut (.slice (some ⟨b, 0 + 8, none⟩) 64 64) 0 m.buf.length 1]) (bs := [bytes32 m.st, be64 (UInt64.ofNat m.long), m.buf]) ((Rd.vec (v := av) (by repeat first | exact TakeP.here _ | apply TakeP.there)).wider hF) (.cons (by rw [bytes32_len]; exact (Rd.pt (b := sb) (by repeat first | exact TakeP.here _ | apply TakeP.there) (by rw [u8s_len, bytes32_len]) (Nat.le_refl _) (by decide) (u8s_one _) (fun i u hi => by rw [Nat.zero_add]; exact hi)).wider hF) (.cons (by rw [be64_len]; exact (Rd.vec (v := uv) (by repeat first | exact TakeP.here _ | apply TakeP.there)).wider hF) (.cons (by have h64 : SlR F.hf (.slice (some ⟨b, 0 + 8, none⟩) 64 64) 1 rest.length (u8s rest) := ⟨⟨_, 64, by rw [hre], by rw [hre]; exact Nat.le_refl _, by decide, (by intro h; cases h), fun a ha i u hu => by (obtain rfl := Option.some.inj ha); rw [Addr.add_lit]; have hl := (List.getElem?_eq_some_iff.1 hu).1; rw [u8s_len] at hl; exact hR _ _ (by rw [Nat.zero_add, hs_rest hst hre (by omega)]; exact hu)⟩, by rw [u8s_len, Nat.mul_one], u8s_one _⟩; exact (h64.cut8 (lo := 0) (hi := m.buf.length) (Nat.zero_le _) (by omega) (by rw [List.drop_zero, Nat.sub_zero, htk])).mono hF.hf) .nil))) (by rw [hfl]; omega)) rfl rfl rfl (by kernel_rfl) (listed' := #[true, true, true, true, true, true, true, true, true, true, true, true, true, true, true, true, true, false]) ?_
      rintro cv _ ⟨hcv, rfl⟩
      refine As.take 17 rfl (by kernel_rfl) (by kernel_rfl) (by kernel_rfl) rfl rfl rfl (fun F hs => .assign rfl) (by kernel_rfl) (listed' := #[true, true, true, true, true, true, true, true, true, true, true, true, true, true, true, true, true, true]) ?_
      refine As.done (by kernel_rfl) ?_
      refine Ext.seq ?_
      rw [hfl]
      exact Cod.ret (Ext.retE rfl rfl (Ent.take (by repeat' first | exact Takes.nil _ | exact TakeP.here _ | apply TakeP.there | apply Takes.cons)) (⟨hcv, rfl⟩))
    ·
      refine Ao.st rfl (.load rfl Tryd.isAgg3 (CellAt.ro (hR 72 _ (hs_fill hst hre)))) rfl rfl rfl (by kernel_rfl) (listed' := #[true, true, true, true, true, true, false, true, true, true, true, true, true, true, false, false, false, false]) ?_
      refine As.take 14 rfl (by kernel_rfl) (by kernel_rfl) (by kernel_rfl) rfl rfl rfl (fun F hs => .sliceArr_h (hi := m.buf.length) rfl rfl Tryd.runUnderlying51 Tryd.sizeOf5 rfl (by omega)) (by kernel_rfl) (listed' := #[true, true, true, true, true, true, false, true, true, true, true, true, true, true, true, false, false, false]) ?_
      refine As.one (i := 6) (by kernel_rfl) ?_
      refine Ao.call rfl ⟨Tryd.call28⟩ rfl rfl rfl (by repeat' first | exact Takes.nil _ | exact TakeP.here _ | apply TakeP.there | apply Takes.cons) (fun F' hF => shaLong_any) rfl rfl rfl (by kernel_rfl) (listed' := #[true, true, true, true, true, true, true, true, true, true, true, true, true, true, true, false, false, false]) ?_
      rintro uv _ ⟨huv, rfl⟩
      refine As.one (i := 15) (by kernel_rfl) ?_
      refine Ao.ef rfl (.lit1 (vs := [.slice (some ⟨sb, 0, none⟩) 32 32, uv, Value.cut (.slice (some ⟨b, 0 + 8, none⟩) 64 64) 0 m.buf.length 1]) ei41 rfl rfl rfl (One.cons rfl (One.cons huv.one (One.cons rfl One.nil)))) rfl rfl rfl (by kernel_rfl) (listed' := #[true, true, true, true, true, true, true, true, true, true, true, true, true, true, true, true, false, false]) ?_
      rintro av _ ⟨hav, rfl⟩
      refine As.one (i := 16) (by kernel_rfl) ?_
      refine Ao.call rfl ⟨Tryd.call27⟩ rfl rfl rfl (by repeat' first | exact Takes.nil _ | exact TakeP.here _ | apply TakeP.there | apply Takes.cons) (fun F' hF => concat_any (vs := [.slice (some ⟨sb, 0, none⟩) 32 32, uv, Value.cut (.slice (some ⟨b, 0 + 8, none⟩) 64 64) 0 m.buf.length 1]) (bs := [bytes32 m.st, be64 (UInt64.ofNat m.long), m.buf]) ((Rd.vec (v := av) (by repeat first | exact TakeP.here _ | apply TakeP.there)).wider hF) (.cons (by rw [bytes32_len]; exact (Rd.pt (b := sb) (by repeat first | exact TakeP.here _ | apply TakeP.there) (by rw [u8s_len, bytes32_len]) (Nat.le_refl _) (by decide) (u8s_one _) (fun i u hi => by rw [Nat.zero_add]; exact hi)).wider hF) (.cons (by rw [be64_len]; exact (Rd.vec (v := uv) (by repeat first | exact TakeP.here _ | apply TakeP.there)).wider hF) (.cons (by have h64 : SlR F.hf (.slice (some ⟨b, 0 + 8, none⟩) 64 64) 1 rest.length (u8s rest) := ⟨⟨_, 64, by rw [hre], by rw [hre]; exact Nat.le_refl _, by decide, (by intro h; cases h), fun a ha i u hu => by (obtain rfl := Option.some.inj ha); rw [Addr.add_lit]; have hl := (List.getElem?_eq_some_iff.1 hu).1; rw [u8s_len] at hl; exact hR _ _ (by rw [Nat.zero_add, hs_rest hst hre (by omega)]; exact hu)⟩, by rw [u8s_len, Nat.mul_one], u8s_one _⟩; exact (h64.cut8 (lo := 0) (hi := m.buf.length) (Nat.zero_le _) (by omega) (by rw [List.drop_zero, Nat.sub_zero, htk])).mono hF.hf) .nil))) (by rw [hfl]; omega)) rfl rfl rfl (by kernel_rfl) (listed' := #[true, true, true, true, true, true, true, true, true, true, true, true, true, true, true, true, true, false]) ?_
      rintro cv _ ⟨hcv, rfl⟩
      refine As.take 17 rfl (by kernel_rfl) (by kernel_rfl) (by kernel_rfl) rfl rfl rfl (fun F hs => .assign rfl) (by kernel_rfl) (listed' := #[true, true, true, true, true, true, true, true, true, true, true, true, true, true, true, true, true, true]) ?_
      refine As.done (by kernel_rfl) ?_
      refine Ext.seq ?_
      rw [hfl]
      exact Cod.ret (Ext.retE rfl rfl (Ent.take (by repeat' first | exact Takes.nil _ | exact TakeP.here _ | apply TakeP.there | apply Takes.cons)) (⟨hcv, rfl⟩))
  ·
    refine Ao.st rfl (.load rfl Tryd.isAgg3 (CellAt.ro (hR 72 _ (hs_fill hst hre)))) rfl rfl rfl (by kernel_rfl) (listed' := #[true, true, true, true, false, false, false, true, true, true, true, true, true, true, false, false, false, false]) ?_
    refine As.take 14 rfl (by kernel_rfl) (by kernel_rfl) (by kernel_rfl) rfl rfl rfl (fun F hs => .sliceArr_h (hi := m.buf.length) rfl rfl Tryd.runUnderlying51 Tryd.sizeOf5 rfl (by omega)) (by kernel_rfl) (listed' := #[true, true, true, true, false, false, false, true, true, true, true, true, true, true, true, false, false, false]) ?_
    refine As.one (i := 4) (by kernel_rfl) ?_
    refine Ao.st rfl (.load rfl Tryd.isAgg3 (CellAt.ro (hR 73 _ (hs_long hst hre)))) rfl rfl rfl (by kernel_rfl) (listed' := #[true, true, true, true, true, false, false, true, true, true, true, true, true, true, true, false, false, false]) ?_
    refine As.take 5 rfl (by kernel_rfl) (by kernel_rfl) (by kernel_rfl) rfl rfl rfl (fun F hs => .convI_64 rfl rfl Tryd.underlying3 Tryd.underlying45) (by kernel_rfl) (listed' := #[true, true, true, true, true, true, false, true, true, true, true, true, true, true, true, false, false, false]) ?_
    refine As.one (i := 6) (by kernel_rfl) ?_
    refine Ao.call rfl ⟨Tryd.call28⟩ rfl rfl rfl (by repeat' first | exact Takes.nil _ | exact TakeP.here _ | apply TakeP.there | apply Takes.cons) (fun F' hF => shaLong_any) rfl rfl rfl (by kernel_rfl) (listed' := #[true, true, true, true, true, true, true, true, true, true, true, true, true, true, true, false, false, false]) ?_
    rintro uv _ ⟨huv, rfl⟩
    refine As.one (i := 15) (by kernel_rfl) ?_
    refine Ao.ef rfl (.lit1 (vs := [.slice (some ⟨sb, 0, none⟩) 32 32, uv, Value.cut (.slice (some ⟨b, 0 + 8, none⟩) 64 64) 0 m.buf.length 1]) ei41 rfl rfl rfl (One.cons rfl (One.cons huv.one (One.cons rfl One.nil)))) rfl rfl rfl (by kernel_rfl) (listed' := #[true, true, true, true, true, true, true, true, true, true, true, true, true, true, true, true, false, false]) ?_
    rintro av _ ⟨hav, rfl⟩
    refine As.one (i := 16) (by kernel_rfl) ?_
    refine Ao.call rfl ⟨Tryd.call27⟩ rfl rfl rfl (by repeat' first | exact Takes.nil _ | exact TakeP.here _ | apply TakeP.there | apply Takes.cons) (fun F' hF => concat_any (vs := [.slice (some ⟨sb, 0, none⟩) 32 32, uv, Value.cut (.slice (some ⟨b, 0 + 8, none⟩) 64 64) 0 m.buf.length 1]) (bs := [bytes32 m.st, be64 (UInt64.ofNat m.long), m.buf]) ((Rd.vec (v := av) (by repeat first | exact TakeP.here _ | apply TakeP.there)).wider hF) (.cons (by rw [bytes32_len]; exact (Rd.pt (b := sb) (by repeat first | exact TakeP.here _ | apply TakeP.there) (by rw [u8s_len, bytes32_len]) (Nat.le_refl _) (by decide) (u8s_one _) (fun i u hi => by rw [Nat.zero_add]; exact hi)).wider hF) (.cons (by rw [be64_len]; exact (Rd.vec (v := uv) (by repeat first | exact TakeP.here _ | apply TakeP.there)).wider hF) (.cons (by have h64 : SlR F.hf (.slice (some ⟨b, 0 + 8, none⟩) 64 64) 1 rest.length (u8s rest) := ⟨⟨_, 64, by rw [hre], by rw [hre]; exact Nat.le_refl _, by decide, (by intro h; cases h), fun a ha i u hu => by (obtain rfl := Option.some.inj ha); rw [Addr.add_lit]; have hl := (List.getElem?_eq_some_iff.1 hu).1; rw [u8s_len] at hl; exact hR _ _ (by rw [Nat.zero_add, hs_rest hst hre (by omega)]; exact hu)⟩, by rw [u8s_len, Nat.mul_one], u8s_one _⟩; exact (h64.cut8 (lo := 0) (hi := m.buf.length) (Nat.zero_le _) (by omega) (by rw [List.drop_zero, Nat.sub_zero, htk])).mono hF.hf) .nil))) (by rw [hfl]; omega)) rfl rfl rfl (by kernel_rfl) (listed' := #[true, true, true, true, true, true, true, true, true, true, true, true, true, true, true, true, true, false]) ?_
    rintro cv _ ⟨hcv, rfl⟩
    refine As.take 17 rfl (by kernel_rfl) (by kernel_rfl) (by kernel_rfl) rfl rfl rfl (fun F hs => .assign rfl) (by kernel_rfl) (listed' := #[true, true, true, true, true, true, true, true, true, true, true, true, true, true, true, true, true, true]) ?_
    refine As.done (by kernel_rfl) ?_
    refine Ext.seq ?_
    rw [hfl]
    exact Cod.ret (Ext.retE rfl rfl (Ent.take (by repeat' first | exact Takes.nil _ | exact TakeP.here _ | apply TakeP.there | apply Takes.cons)) (⟨hcv, rfl⟩))
end Go.Proofs.YtdnbnfebapofnaaDoor
