/- What was saved is loaded as it was; how a loaded hash goes on. No condition. -/
import Derived.Test.YtdnbnfebapofnaaDoorSI
namespace Go.Proofs.YtdnbnfebapofnaaDoor
open Go

theorem getD_app_lt {a b : List UInt8} {i : Nat} (h : i < a.length) : (a ++ b).getD i 0 = a.getD i 0 := by simp [List.getD, List.getElem?_append_left h]
theorem getD_app_ge {a b : List UInt8} {i : Nat} (h : a.length ≤ i) : (a ++ b).getD i 0 = b.getD (i - a.length) 0 := by simp [List.getD, List.getElem?_append_right h]
theorem shr32 (w : UInt32) {k : Nat} (hk : k < 32) : ((w >>> UInt32.ofNat k).toUInt8).toNat = w.toNat / 2 ^ k % 256 := by
  have h2 : (UInt32.ofNat k).toNat % 32 = k := by rw [UInt32.toNat_ofNat']; omega
  rw [UInt32.toNat_toUInt8, UInt32.toNat_shiftRight, h2, Nat.shiftRight_eq_div_pow]
theorem shr64 (w : UInt64) {k : Nat} (hk : k < 64) : ((w >>> UInt64.ofNat k).toUInt8).toNat = w.toNat / 2 ^ k % 256 := by
  have h2 : (UInt64.ofNat k).toNat % 64 = k := by rw [UInt64.toNat_ofNat']; omega
  rw [UInt64.toNat_toUInt8, UInt64.toNat_shiftRight, h2, Nat.shiftRight_eq_div_pow]
/-- A word, out of its bytes. -/
theorem word4_of (w : UInt32) : word4 ((w >>> UInt32.ofNat 24).toUInt8) ((w >>> UInt32.ofNat 16).toUInt8) ((w >>> UInt32.ofNat 8).toUInt8) ((w >>> UInt32.ofNat 0).toUInt8) = w := by
  apply UInt32.toNat_inj.1
  rw [word4_nat, shr32 w (by decide), shr32 w (by decide), shr32 w (by decide), shr32 w (by decide)]
  have := w.toNat_lt
  omega
theorem bytes32_getD (st : List UInt32) {i : Nat} (h : i < 32) : (bytes32 st).getD i 0 = byteOf st i := by rw [List.getD, bytes32_get st h]; rfl
theorem be64_getD (n : UInt64) {i : Nat} (h : i < 8) : (be64 n).getD i 0 = be8 n i := by rw [List.getD, be64_get n h]; rfl
theorem save_lo {m : HM} {i : Nat} (h : i < 32) : m.save.getD i 0 = byteOf m.st i := by rw [HM.save, getD_app_lt (by rw [bytes32_len]; exact h), bytes32_getD _ h]
theorem save_mid {m : HM} {i : Nat} (h : i < 8) : m.save.getD (32 + i) 0 = be8 (UInt64.ofNat m.long) i := by
  rw [HM.save, getD_app_ge (by rw [bytes32_len]; omega), bytes32_len, Nat.add_sub_cancel_left, getD_app_lt (by rw [be64_len]; exact h), be64_getD _ h]
theorem save_words {m : HM} (hst : m.st.length = 8) : (List.range 8).map (fun i => wordAt m.save (4 * i)) = m.st := by
  refine List.ext_getElem? fun i => ?_
  by_cases h : i < 8
  · rw [List.getElem?_map, List.getElem?_range h, Option.map_some, wordAt, save_lo (by omega), save_lo (by omega), save_lo (by omega), save_lo (by omega)]
    simp only [byteOf]
    rw [show 4 * i / 4 = i by omega, show (4 * i + 1) / 4 = i by omega, show (4 * i + 2) / 4 = i by omega, show (4 * i + 3) / 4 = i by omega,
      show 8 * (3 - 4 * i % 4) = 24 by omega, show 8 * (3 - (4 * i + 1) % 4) = 16 by omega, show 8 * (3 - (4 * i + 2) % 4) = 8 by omega, show 8 * (3 - (4 * i + 3) % 4) = 0 by omega, word4_of]
    simp [List.getD, hst, h]
  · rw [List.getElem?_eq_none (by simp; omega), List.getElem?_eq_none (by omega)]
theorem num64_be (n : UInt64) {bs : List UInt8} (h : ∀ i, i < 8 → bs.getD (32 + i) 0 = be8 n i) : num64 bs = n := by
  apply UInt64.toNat_inj.1
  have h0 := h 0 (by decide); have h1 := h 1 (by decide); have h2 := h 2 (by decide); have h3 := h 3 (by decide)
  have h4 := h 4 (by decide); have h5 := h 5 (by decide); have h6 := h 6 (by decide); have h7 := h 7 (by decide)
  rw [num64_nat, wordAt, wordAt, word4_nat, word4_nat]
  simp only [Nat.add_zero, Nat.reduceAdd] at h0 h1 h2 h3 h4 h5 h6 h7 ⊢
  rw [h0, h1, h2, h3, h4, h5, h6, h7]
  simp only [be8]
  rw [shr64 n (by decide), shr64 n (by decide), shr64 n (by decide), shr64 n (by decide), shr64 n (by decide), shr64 n (by decide), shr64 n (by decide), shr64 n (by decide)]
  have := n.toNat_lt
  omega
theorem save_num (m : HM) : num64 m.save = UInt64.ofNat m.long := num64_be _ fun _ h => save_mid h
theorem save_drop (m : HM) : m.save.drop 40 = m.buf := by
  rw [HM.save, ← List.append_assoc, List.drop_append_of_le_length (by simp only [List.length_append, bytes32_len, be64_len]; omega), List.drop_of_length_le (by simp only [List.length_append, bytes32_len, be64_len]; omega), List.nil_append]
theorem ofNat_nat {n : Nat} (h : n ≤ 4611686018427387904) : (UInt64.ofNat n).toNat = n := by rw [UInt64.toNat_ofNat']; omega
theorem load_save {m : HM} (ok : m.Ok) : HM.load m.save = m := by
  obtain ⟨st, buf, long⟩ := m
  rw [HM.load, save_words ok.st, save_num, save_drop, ofNat_nat ok.long]
theorem ofNat_eq_mod {n k : Nat} (hk : k < 64) (hn : n ≤ 4611686018427387904) : UInt64.ofNat k = UInt64.ofNat n % 64 ↔ k = n % 64 := by
  rw [← UInt64.toNat_inj, UInt64.toNat_mod, UInt64.toNat_ofNat', ofNat_nat hn]
  have h2 : (64 : UInt64).toNat = 64 := rfl
  rw [h2]
  omega
theorem isSave_save {m : HM} (ok : m.Ok) (hl : m.long ≤ 1099511627776) : isSave m.save = true := by
  have h1 := m.save_len
  have h2 := ok.buf
  simp only [isSave, Bool.and_eq_true, decide_eq_true_eq]
  refine ⟨by omega, by rw [save_num, ofNat_nat ok.long]; exact hl, ?_⟩
  rw [save_num, h1, Nat.add_sub_cancel_left, ofNat_eq_mod h2 ok.long, ok.mod]
/-- Bytes with another length behind the same first ones. -/
theorem isSave_other {m : HM} (ok : m.Ok) {x : List UInt8} (hx : ∀ i, i < 8 → x.getD (32 + i) 0 = be8 (UInt64.ofNat m.long) i) (h40 : 40 ≤ x.length → x.length - 40 ≠ m.buf.length ∧ x.length - 40 ≤ 64) : isSave x = false := by
  have hn := num64_be _ hx
  have hb := ok.buf
  by_cases h : 40 ≤ x.length
  · obtain ⟨h1, h2⟩ := h40 h
    have h3 : ¬ UInt64.ofNat (x.length - 40) = num64 x % 64 := by
      rw [hn]
      intro he
      have h4 := ofNat_mod (by omega) he
      rw [ofNat_nat ok.long, ok.mod] at h4
      omega
    rw [isSave, decide_eq_false h3]
    simp
  · rw [isSave, decide_eq_false h]
    rfl
/-- What was loaded, saved again. -/
theorem save_load {bs : List UInt8} (h : isSave bs = true) : (HM.load bs).save = bs := by
  simp only [isSave, Bool.and_eq_true, decide_eq_true_eq] at h
  have h40 := h.1
  have e1 : bytes32 (HM.load bs).st = bs.take 32 := by
    refine List.ext_getElem? fun i => ?_
    by_cases hi : i < 32
    · rw [bytes32_get _ hi, List.getElem?_take, if_pos hi]
      have hg : bs[i]? = some (bs.getD i 0) := by simp [List.getD, List.getElem?_eq_getElem (show i < bs.length by omega)]
      rw [hg]
      congr 1
      have hw : (HM.load bs).st.getD (i / 4) 0 = wordAt bs (4 * (i / 4)) := by simp [HM.load, List.getD, List.getElem?_range (show i / 4 < 8 by omega)]
      rw [byteOf, hw]
      apply UInt8.toNat_inj.1
      have ha := (bs.getD (4 * (i / 4)) 0).toNat_lt; have hb := (bs.getD (4 * (i / 4) + 1) 0).toNat_lt
      have hc := (bs.getD (4 * (i / 4) + 2) 0).toNat_lt; have hd := (bs.getD (4 * (i / 4) + 3) 0).toNat_lt
      rcases (show i % 4 = 0 ∨ i % 4 = 1 ∨ i % 4 = 2 ∨ i % 4 = 3 by omega) with hm | hm | hm | hm <;>
        rw [hm, shr32 _ (by decide), wordAt, word4_nat]
      · rw [show bs.getD i 0 = bs.getD (4 * (i / 4)) 0 by congr 1; omega]; omega
      · rw [show bs.getD i 0 = bs.getD (4 * (i / 4) + 1) 0 by congr 1; omega]; omega
      · rw [show bs.getD i 0 = bs.getD (4 * (i / 4) + 2) 0 by congr 1; omega]; omega
      · rw [show bs.getD i 0 = bs.getD (4 * (i / 4) + 3) 0 by congr 1; omega]; omega
    · rw [List.getElem?_eq_none (by rw [bytes32_len]; omega), List.getElem?_eq_none (by simp; omega)]
  have e2 : be64 (num64 bs) = (bs.drop 32).take 8 := by
    refine List.ext_getElem? fun i => ?_
    by_cases hi : i < 8
    · rw [be64_get _ hi, List.getElem?_take, if_pos hi, List.getElem?_drop]
      have hg : bs[32 + i]? = some (bs.getD (32 + i) 0) := by simp [List.getD, List.getElem?_eq_getElem (show 32 + i < bs.length by omega)]
      rw [hg]
      congr 1
      apply UInt8.toNat_inj.1
      rw [be8, shr64 _ (by omega), num64_nat, wordAt, wordAt, word4_nat, word4_nat]
      have h0 := (bs.getD 32 0).toNat_lt; have h1 := (bs.getD (32 + 1) 0).toNat_lt; have h2 := (bs.getD (32 + 2) 0).toNat_lt; have h3 := (bs.getD (32 + 3) 0).toNat_lt
      have h4 := (bs.getD 36 0).toNat_lt; have h5 := (bs.getD (36 + 1) 0).toNat_lt; have h6 := (bs.getD (36 + 2) 0).toNat_lt; have h7 := (bs.getD (36 + 3) 0).toNat_lt
      rcases (show i = 0 ∨ i = 1 ∨ i = 2 ∨ i = 3 ∨ i = 4 ∨ i = 5 ∨ i = 6 ∨ i = 7 by omega) with rfl | rfl | rfl | rfl | rfl | rfl | rfl | rfl <;>
        simp only [Nat.add_zero, Nat.reduceAdd, Nat.reduceSub, Nat.reduceMul] at * <;> omega
    · rw [List.getElem?_eq_none (by rw [be64_len]; omega), List.getElem?_eq_none (by simp; omega)]
  have e3 : UInt64.ofNat (HM.load bs).long = num64 bs := by
    apply UInt64.toNat_inj.1
    rw [UInt64.toNat_ofNat']
    exact Nat.mod_eq_of_lt (num64 bs).toNat_lt
  rw [HM.save, e1, e3, e2]
  show bs.take 32 ++ ((bs.drop 32).take 8 ++ bs.drop 40) = bs
  rw [show bs.drop 40 = (bs.drop 32).drop 8 by rw [List.drop_drop], List.take_append_drop, List.take_append_drop]

/-- The state, as its bytes come. -/
def gst (bs : List UInt8) (i : Nat) : List UInt32 := (List.range 8).map fun j => mul4 bs (4 * j) (min 4 (i - 4 * j))
theorem gst_len (bs : List UInt8) (i : Nat) : (gst bs i).length = 8 := by simp [gst]
theorem gst_get {bs : List UInt8} {i : Nat} (h : i < 32) : (gst bs i).getD (i / 4) 0 = mul4 bs (4 * (i / 4)) (i % 4) := by
  simp only [gst, List.getD, List.getElem?_map, List.getElem?_range (show i / 4 < 8 by omega), Option.map_some, Option.getD_some]
  congr 1
  omega
theorem gst_set {bs : List UInt8} {i : Nat} (h : i < 32) : (gst bs i).set (i / 4) (mul4 bs (4 * (i / 4)) (i % 4) * 256 + (bs.getD i 0).toUInt32) = gst bs (i + 1) := by
  refine List.ext_getElem? fun j => ?_
  rw [List.getElem?_set, gst_len]
  by_cases hj : i / 4 = j
  · rw [if_pos hj, if_pos (by omega)]
    simp only [gst, List.getElem?_map, List.getElem?_range (show j < 8 by omega), Option.map_some]
    subst hj
    rw [show min 4 (i + 1 - 4 * (i / 4)) = i % 4 + 1 by omega, mul4, show 4 * (i / 4) + i % 4 = i by omega]
  · rw [if_neg hj]
    by_cases h8 : j < 8
    · simp only [gst, List.getElem?_map, List.getElem?_range h8, Option.map_some]
      rw [show min 4 (i - 4 * j) = min 4 (i + 1 - 4 * j) by omega]
    · rw [List.getElem?_eq_none (by rw [gst_len]; omega), List.getElem?_eq_none (by rw [gst_len]; omega)]
theorem gst_zero (bs : List UInt8) : gst bs 0 = List.replicate 8 0 := by simp [gst, mul4]; rfl
theorem gst_all (bs : List UInt8) : gst bs 32 = (HM.load bs).st := by
  simp only [gst, HM.load]
  refine List.map_congr_left fun j hj => ?_
  have := List.mem_range.1 hj
  rw [show min 4 (32 - 4 * j) = 4 by omega, mul4_word]
theorem ofNat_add (a b : Nat) : UInt64.ofNat (a + b) = UInt64.ofNat a + UInt64.ofNat b := by
  apply UInt64.toNat_inj.1
  rw [UInt64.toNat_add, UInt64.toNat_ofNat', UInt64.toNat_ofNat', UInt64.toNat_ofNat']
  omega
theorem zerosTo_congr {a b : Nat} (h : a % 64 = b % 64) : zerosTo a = zerosTo b := by rw [zerosTo, zerosTo, h]

set_option maxRecDepth 4000 in
theorem refGoes_any {F : Fr} {v v2 : Value} {bs more : List UInt8} (hr : SlR F.hf v 1 bs.length (u8s bs)) (hr2 : SlR F.hf v2 1 more.length (u8s more)) (hs : isSave bs = true) (hl : bs.length ≤ 1000000) (hl2 : more.length ≤ 1000000) :
    Spec Tryd.prog F 20 [v, v2] [] (fun u hs' => u = .agg (u8s ((HM.load bs).write more).sum).toArray ∧ hs' = []) := by
  have hs0 := hs
  simp only [isSave, Bool.and_eq_true, decide_eq_true_eq] at hs0
  have h40 := hs0.1
  have hnum := hs0.2.1
  have hmod := ofNat_mod (by omega) hs0.2.2
  have ok0 := HM.load_ok hs (by omega)
  have hlong : (HM.load bs).long = (num64 bs).toNat := rfl
  have ok : ((HM.load bs).write more).Ok := ok0.write (by rw [hlong]; omega)
  obtain ⟨base, hbase⟩ : ∃ base, base = bs.drop 40 ++ more := ⟨_, rfl⟩
  have hbl0 : base.length = bs.length - 40 + more.length := by rw [hbase]; simp
  obtain ⟨n, hn⟩ : ∃ n, n = ((HM.load bs).write more).long := ⟨_, rfl⟩
  have hn1 : n = (num64 bs).toNat + more.length := hn
  obtain ⟨z, hz⟩ : ∃ z, z = zerosTo base.length := ⟨_, rfl⟩
  have hzn : zerosTo n = z := by rw [hz]; exact zerosTo_congr (by omega)
  have hz2 := zerosTo_mod base.length
  have hz3 : zerosTo base.length < 64 := Nat.mod_lt _ (by decide)
  rw [← hz] at hz2 hz3
  have hnU : num64 bs + UInt64.ofNat more.length = UInt64.ofNat n := by rw [hn1, ofNat_add, UInt64.ofNat_toNat]
  have hsumE := sum_eq ok hn.symm
  have hfe := hfull_app (st := (HM.load bs).st) (xs := base) (ys := 128 :: (List.replicate z 0 ++ be64 (8 * UInt64.ofNat n))) base.length rfl
  have hsum : ((HM.load bs).write more).sum = bytes32 (hfull (HM.load bs).st (base ++ 128 :: (List.replicate z 0 ++ be64 (8 * UInt64.ofNat n)))).1 := by rw [hsumE, hzn, hfe, hbase]; rfl
  refine Spec.body Tryd.func20 rfl Tryd.ntmps20 rfl ?_
  refine Cod.seq ?_
  refine Cod.region ?_
  refine Ops.ef (.alloc (cs := List.replicate 32 (Value.int .u8 0)) Tryd.zeroValue24 (by kernel_rfl)) rfl rfl rfl ?_
  rintro _ _ ⟨rb, rfl, rfl⟩
  refine Ops.nil ?_
  refine Ext.seq ?_
  refine Cod.seq ?_
  refine Cod.region ?_
  refine Ops.ef (.alloc (cs := List.replicate 8 (Value.int .u32 0)) Tryd.zeroValue47 (by kernel_rfl)) rfl rfl rfl ?_
  rintro _ _ ⟨hb, rfl, rfl⟩
  refine Ops.nil ?_
  refine Ext.seq ?_
  refine Cod.seq ?_
  refine Cod.seq ?_
  refine Cod.region ?_
  refine Ops.st (.assign rfl) rfl rfl rfl ?_
  refine Ops.nil ?_
  refine Ext.seq ?_
  refine Cod.block ?_
  refine Cod.loop (fun i : Nat => ⟨i ≤ 32, [(0, v), (1, v2), (4, .pointer (some ⟨rb, 0, none⟩)), (5, .pointer (some ⟨hb, 0, none⟩)), (6, .int .i64 i)], [pt rb 24 (List.replicate 32 (Value.int .u8 0)), pt hb 47 (w32s (gst bs i))]⟩) (fun i => 32 - i) 0 (Nat.zero_le _) ⟨rfl, rfl, rfl, rfl, rfl, trivial⟩ (by rw [gst_zero]; exact Ent.take (by repeat' first | exact Takes.nil _ | exact TakeP.here _ | apply TakeP.there | apply Takes.cons)) ?_
  rintro i hi
  dsimp only
  refine Cod.seq ?_
  refine Cod.seq ?_
  refine Cod.region ?_
  refine Ops.st (.move rfl) rfl rfl rfl ?_
  refine Ops.st (.lss rfl rfl) rfl rfl rfl ?_
  refine Ops.nil ?_
  refine Ext.seq ?_
  refine Cod.condD rfl (fun h1 => ?_) (fun h1 => ?_)
  ·
    refine Cod.skip ?_
    refine Ext.seq ?_
    refine Cod.seq ?_
    refine Cod.block ?_
    refine Cod.regionT 14 mixed (by kernel_rfl) ?_
    refine Ss.st (.move rfl) rfl rfl rfl ?_
    refine Ss.st (.quo (r := ((i / 4 : Nat) : Int)) rfl rfl (by decide) (by rw [IntWalk.i64_quo _ _ (by omega)]; omega)) rfl rfl rfl ?_
    refine Ss.st (.move rfl) rfl rfl rfl ?_
    refine Ss.st (.quo (r := ((i / 4 : Nat) : Int)) rfl rfl (by decide) (by rw [IntWalk.i64_quo _ _ (by omega)]; omega)) rfl rfl rfl ?_
    refine Ss.st (.indexAddrA (j := i / 4) (off := i / 4) rfl rfl Tryd.runUnderlying47 Tryd.sizeOf46 rfl (by omega) (by omega)) rfl rfl rfl ?_
    refine Ss.st (.loadP rfl (by repeat first | exact TakeP.here _ | apply TakeP.there) Tryd.isAgg46 (w32s_get (by rw [gst_len]; omega))) rfl rfl rfl ?_
    refine Ss.st (.mulW32 rfl (show _ = some (W32 256) from rfl)) rfl rfl rfl ?_
    refine Ss.st (.move rfl) rfl rfl rfl ?_
    refine Ss.st (.move rfl) rfl rfl rfl ?_
    refine Ss.st (.indexAddr (j := i) (off := i) rfl rfl (Rd.ro hr) Tryd.runUnderlying22 Tryd.sizeOf5 rfl (by omega) (by omega)) rfl rfl rfl ?_
    refine Ss.st (.load_elem rfl (Rd.ro hr) Tryd.isAgg5 (u8s_getD (by omega))) rfl rfl rfl ?_
    refine Ss.st (.convW8_32 rfl Tryd.underlying5 Tryd.underlying46) rfl rfl rfl ?_
    refine Ss.st (.addW32 rfl rfl) rfl rfl rfl ?_
    refine Ss.st (.indexAddrA (j := i / 4) (off := i / 4) rfl rfl Tryd.runUnderlying47 Tryd.sizeOf46 rfl (by omega) (by omega)) rfl rfl rfl ?_
    refine Ss.nil ?_
    refine Ops.ef10 (.store (cs' := w32s (gst bs (i + 1))) rfl rfl (by repeat first | exact TakeP.here _ | apply TakeP.there) Tryd.sizeOf46 (by rw [w32s_len, gst_len]; exact Nat.ble_eq_true_of_le (by omega)) rfl (by rw [w32s_set, gst_get (by omega), gst_set (by omega)])) rfl rfl ?_
    refine Ops.nil ?_
    refine Ext.block ?_
    refine Ext.seq ?_
    refine Cod.region ?_
    refine Ops.st (.move rfl) rfl rfl rfl ?_
    refine Ops.st (.add rfl rfl (by first | exact IntWalk.i64_in _ (by omega) | rfl)) rfl rfl rfl ?_
    refine Ops.st (.assign rfl) rfl rfl rfl ?_
    refine Ops.nil ?_
    exact Ext.back (i + 1) (by omega) (by omega) ⟨rfl, rfl, rfl, rfl, rfl, trivial⟩ (Ent.take (by repeat' first | exact Takes.nil _ | exact TakeP.here _ | apply TakeP.there | apply Takes.cons))
  ·
    refine Cod.exit (Ext.seqX (Ext.stopX (Ext.hit ?_)))
    refine Ext.seq ?_
    refine Cod.seq ?_
    refine Cod.region ?_
    obtain rfl : i = 32 := by omega
    rw [gst_all]
    refine Ops.st (.assign (show _ = some (W64 0) from rfl)) rfl rfl rfl ?_
    refine Ops.nil ?_
    refine Ext.seq ?_
    refine Cod.seq ?_
    refine Cod.seq ?_
    refine Cod.region ?_
    refine Ops.st (.assign rfl) rfl rfl rfl ?_
    refine Ops.nil ?_
    refine Ext.seq ?_
    refine Cod.block ?_
    refine Cod.loop (fun i : Nat => ⟨i ≤ 8, [(0, v), (1, v2), (4, .pointer (some ⟨rb, 0, none⟩)), (5, .pointer (some ⟨hb, 0, none⟩)), (7, W64 (mul8 bs 32 i)), (8, .int .i64 ((32 + i : Nat) : Int))], [pt rb 24 (List.replicate 32 (Value.int .u8 0)), pt hb 47 (w32s (HM.load bs).st)]⟩) (fun i => 8 - i) 0 (Nat.zero_le _) ⟨rfl, rfl, rfl, rfl, rfl, rfl, trivial⟩ (Ent.take (by repeat' first | exact Takes.nil _ | exact TakeP.here _ | apply TakeP.there | apply Takes.cons)) ?_
    rintro i hi
    dsimp only
    refine Cod.seq ?_
    refine Cod.seq ?_
    refine Cod.region ?_
    refine Ops.st (.move rfl) rfl rfl rfl ?_
    refine Ops.st (.lss rfl rfl) rfl rfl rfl ?_
    refine Ops.nil ?_
    refine Ext.seq ?_
    refine Cod.condD rfl (fun h2 => ?_) (fun h2 => ?_)
    ·
      refine Cod.skip ?_
      refine Ext.seq ?_
      refine Cod.seq ?_
      refine Cod.block ?_
      refine Cod.region ?_
      refine Ops.st (.move rfl) rfl rfl rfl ?_
      refine Ops.st (.mulW64 rfl (show _ = some (W64 256) from rfl)) rfl rfl rfl ?_
      refine Ops.st (.move rfl) rfl rfl rfl ?_
      refine Ops.st (.move rfl) rfl rfl rfl ?_
      refine Ops.st (.indexAddr (j := 32 + i) (off := 32 + i) rfl rfl (Rd.ro hr) Tryd.runUnderlying22 Tryd.sizeOf5 rfl (by omega) (by omega)) rfl rfl rfl ?_
      refine Ops.st (.load_elem rfl (Rd.ro hr) Tryd.isAgg5 (u8s_getD (by omega))) rfl rfl rfl ?_
      refine Ops.st (.convW8_64 rfl Tryd.underlying5 Tryd.underlying45) rfl rfl rfl ?_
      refine Ops.st (.addW64 rfl rfl) rfl rfl rfl ?_
      refine Ops.st (.assign rfl) rfl rfl rfl ?_
      refine Ops.nil ?_
      refine Ext.block ?_
      refine Ext.seq ?_
      refine Cod.region ?_
      refine Ops.st (.move rfl) rfl rfl rfl ?_
      refine Ops.st (.add rfl rfl (by first | exact IntWalk.i64_in _ (by omega) | rfl)) rfl rfl rfl ?_
      refine Ops.st (.assign rfl) rfl rfl rfl ?_
      refine Ops.nil ?_
      exact Ext.back (i + 1) (by omega) (by omega) ⟨rfl, rfl, rfl, rfl, rfl, rfl, trivial⟩ (Ent.take (by repeat' first | exact Takes.nil _ | exact TakeP.here _ | apply TakeP.there | apply Takes.cons))
    ·
      refine Cod.exit (Ext.seqX (Ext.stopX (Ext.hit ?_)))
      refine Ext.seq ?_
      refine Cod.seq ?_
      refine Cod.region ?_
      obtain rfl : i = 8 := by omega
      rw [mul8_num]
      refine Ops.ef (.lit1 (vs := []) ei22 rfl rfl rfl One.nil) rfl rfl rfl ?_
      rintro ev0 _ ⟨hev0, rfl⟩
      refine Ops.st (.move rfl) rfl rfl rfl ?_
      refine Ops.st (.slice_l (lo := 40) rfl rfl (Rd.ro hr) Tryd.runUnderlying22 Tryd.sizeOf5 rfl (by omega)) rfl rfl rfl ?_
      refine Ops.ef (.append (v := ev0) rfl rfl (by repeat first | exact TakeP.here _ | apply TakeP.there) ((Rd.ro hr).cut8 (lo := 40) (by omega) (Nat.le_refl _) take_all8) ei22 (by simp; omega) (by simp only [maxLen, List.length_drop]; omega)) rfl rfl rfl ?_
      rintro av0 _ ⟨hav0, rfl⟩
      refine Ops.st (.move rfl) rfl rfl rfl ?_
      refine Ops.ef (.append (v := av0) rfl rfl (by repeat first | exact TakeP.here _ | apply TakeP.there) (Rd.ro hr2) ei22 (by simp; omega) (by simp only [maxLen, List.length_drop]; omega)) rfl rfl rfl ?_
      rintro av1 _ ⟨hav1, rfl⟩
      rw [show [] ++ u8s (bs.drop 40) ++ u8s more = u8s base from by rw [List.nil_append, ← u8s_app, hbase], show 0 + (bs.drop 40).length + more.length = base.length from by rw [hbl0]; simp]
      refine Ops.st (.assign rfl) rfl rfl rfl ?_
      refine Ops.nil ?_
      refine Ext.seq ?_
      refine Cod.seq ?_
      refine Cod.region ?_
      refine Ops.st (.move rfl) rfl rfl rfl ?_
      refine Ops.st (.move rfl) rfl rfl rfl ?_
      refine Ops.st (.len rfl (Rd.ro hr2) Tryd.runUnderlying22) rfl rfl rfl ?_
      refine Ops.st (.convI_64 rfl rfl Tryd.underlying3 Tryd.underlying45) rfl rfl rfl ?_
      refine Ops.st (.addW64 rfl rfl) rfl rfl rfl ?_
      refine Ops.st (.assign rfl) rfl rfl rfl ?_
      refine Ops.nil ?_
      refine Ext.seq ?_
      refine Cod.seq ?_
      refine Cod.region ?_
      refine Ops.st (.move rfl) rfl rfl rfl ?_
      refine Ops.ef (.lit1 ei22 rfl rfl rfl (by repeat' first | exact One.nil | apply One.cons rfl | (apply One.cons (Sl.one (by assumption))))) rfl rfl rfl ?_
      rintro l1 _ ⟨hl1, rfl⟩
      rw [hnU]
      refine Ops.ef (.append (v := av1) rfl rfl (by repeat first | exact TakeP.here _ | apply TakeP.there) (Rd.vec (v := l1) (by repeat first | exact TakeP.here _ | apply TakeP.there)) ei22 (by omega) (by simp only [maxLen]; omega)) rfl rfl rfl ?_
      rintro av2 _ ⟨hav2, rfl⟩
      rw [show u8s base ++ [Value.int .u8 128] = u8s (base ++ 128 :: List.replicate 0 0) from by rw [u8s_app]; rfl, show base.length + 1 = base.length + 1 + 0 by omega]
      refine Ops.st (.assign rfl) rfl rfl rfl ?_
      refine Ops.nil ?_
      refine Ext.seq ?_
      refine Cod.seq ?_
      refine Cod.block ?_
      refine Cod.loop (fun g : Nat × Value => ⟨g.1 ≤ z ∧ Sl g.2, [(4, .pointer (some ⟨rb, 0, none⟩)), (5, .pointer (some ⟨hb, 0, none⟩)), (7, W64 (UInt64.ofNat n)), (9, g.2)], [pt rb 24 (List.replicate 32 (Value.int .u8 0)), pt hb 47 (w32s (HM.load bs).st), vec g.2 5 1 (base.length + 1 + g.1) (u8s (base ++ 128 :: List.replicate g.1 0))]⟩) (fun g => z - g.1) (0, av2) ⟨Nat.zero_le _, hav2⟩ ⟨rfl, rfl, rfl, rfl, trivial⟩ (Ent.take (by repeat' first | exact Takes.nil _ | exact TakeP.here _ | apply TakeP.there | apply Takes.cons)) ?_
      rintro ⟨k, av⟩ ⟨hk, hav⟩
      dsimp only
      refine Cod.seq ?_
      refine Cod.seq ?_
      refine Cod.region ?_
      dsimp only at hk hav
      refine Ops.st (.move rfl) rfl rfl rfl ?_
      refine Ops.st (.len rfl (Rd.vec (v := av) (by repeat first | exact TakeP.here _ | apply TakeP.there)) Tryd.runUnderlying22) rfl rfl rfl ?_
      refine Ops.st (.rem (r := (((base.length + 1 + k) % 64 : Nat) : Int)) rfl rfl (by decide) (by rw [Int.tmod_eq_emod_of_nonneg (by omega)]; omega)) rfl rfl rfl ?_
      refine Ops.st (.neq rfl rfl) rfl rfl rfl ?_
      refine Ops.nil ?_
      refine Ext.seq ?_
      refine Cod.condD rfl (fun h3 => ?_) (fun h3 => ?_)
      ·
        refine Cod.skip ?_
        refine Ext.seq ?_
        refine Cod.block ?_
        refine Cod.region ?_
        refine Ops.st (.move rfl) rfl rfl rfl ?_
        refine Ops.ef (.lit1 ei22 rfl rfl rfl (by repeat' first | exact One.nil | apply One.cons rfl | (apply One.cons (Sl.one (by assumption))))) rfl rfl rfl ?_
        rintro l2 _ ⟨hl2, rfl⟩
        refine Ops.ef (.append (v := av) rfl rfl (by repeat first | exact TakeP.here _ | apply TakeP.there) (Rd.vec (v := l2) (by repeat first | exact TakeP.here _ | apply TakeP.there)) ei22 (by omega) (by simp only [maxLen]; omega)) rfl rfl rfl ?_
        rintro av3 _ ⟨hav3, rfl⟩
        have hkz : k < z := by omega
        refine Ops.st (.assign rfl) rfl rfl rfl ?_
        refine Ops.nil ?_
        refine Ext.block ?_
        exact Ext.back (k + 1, av3) (by dsimp only; omega) ⟨by dsimp only; omega, hav3⟩ ⟨rfl, rfl, rfl, rfl, trivial⟩ (by dsimp only; rw [show u8s (base ++ 128 :: List.replicate (k + 1) 0) = u8s (base ++ 128 :: List.replicate k 0) ++ [Value.int .u8 0] from by rw [List.replicate_succ', ← List.cons_append, ← List.append_assoc, u8s_app]; rfl, show base.length + 1 + (k + 1) = base.length + 1 + k + 1 by omega]; exact Ent.take (by repeat' first | exact Takes.nil _ | exact TakeP.here _ | apply TakeP.there | apply Takes.cons))
      ·
        refine Cod.exit (Ext.seqX (Ext.stopX (Ext.hit ?_)))
        refine Ext.seq ?_
        refine Cod.seq ?_
        refine Cod.region ?_
        have hkz : k = z := by unfold zerosTo at hz; omega
        subst hkz
        obtain ⟨all, hall⟩ : ∃ all, all = base ++ 128 :: (List.replicate k 0 ++ be64 (8 * UInt64.ofNat n)) := ⟨_, rfl⟩
        have hal : all.length = base.length + 1 + k + 8 := by rw [hall]; simp only [List.length_append, List.length_cons, List.length_replicate, be64_len]; omega
        refine Ops.st (.move rfl) rfl rfl rfl ?_
        refine Ops.st (.move rfl) rfl rfl rfl ?_
        refine Ops.st (.mulW64 (show _ = some (W64 8) from rfl) rfl) rfl rfl rfl ?_
        refine Ops.call ⟨Tryd.call22⟩ rfl rfl rfl (by repeat' first | exact Takes.nil _ | exact TakeP.here _ | apply TakeP.there | apply Takes.cons) (fun F' hF => refEight_any) rfl rfl rfl ?_
        rintro ev1 _ ⟨hev1, rfl⟩
        refine Ops.ef (.append (v := av) rfl rfl (by repeat first | exact TakeP.here _ | apply TakeP.there) (Rd.vec (v := ev1) (by repeat first | exact TakeP.here _ | apply TakeP.there)) ei22 (by omega) (by simp only [maxLen]; omega)) rfl rfl rfl ?_
        rintro wv _ ⟨hwv, rfl⟩
        rw [show u8s (base ++ 128 :: List.replicate k 0) ++ u8s (be64 (8 * UInt64.ofNat n)) = u8s all from by rw [hall, ← u8s_app]; simp, ← hal]
        refine Ops.st (.assign rfl) rfl rfl rfl ?_
        refine Ops.nil ?_
        refine Ext.seq ?_
        refine Cod.seq ?_
        refine Cod.seq ?_
        refine Cod.region ?_
        refine Ops.st (.assign rfl) rfl rfl rfl ?_
        refine Ops.nil ?_
        refine Ext.seq ?_
        refine Cod.block ?_
        refine Cod.loop (fun g : Nat × List UInt32 => ⟨64 * g.1 ≤ all.length ∧ g.2.length = 8 ∧ hfull g.2 (all.drop (64 * g.1)) = hfull (HM.load bs).st all, [(4, .pointer (some ⟨rb, 0, none⟩)), (5, .pointer (some ⟨hb, 0, none⟩)), (9, wv), (10, .int .i64 ((64 * g.1 : Nat) : Int))], [pt rb 24 (List.replicate 32 (Value.int .u8 0)), vec wv 5 1 all.length (u8s all), pt hb 47 (w32s g.2)]⟩) (fun g => all.length - 64 * g.1) (0, (HM.load bs).st) ⟨Nat.zero_le _, ok0.st, rfl⟩ ⟨rfl, rfl, rfl, rfl, trivial⟩ (Ent.take (by repeat' first | exact Takes.nil _ | exact TakeP.here _ | apply TakeP.there | apply Takes.cons)) ?_
        rintro ⟨i, st⟩ ⟨hi, hst, hful⟩
        dsimp only
        refine Cod.seq ?_
        refine Cod.seq ?_
        refine Cod.region ?_
        dsimp only at hi hst hful
        refine Ops.st (.move rfl) rfl rfl rfl ?_
        refine Ops.st (.move rfl) rfl rfl rfl ?_
        refine Ops.st (.len rfl (Rd.vec (v := wv) (by repeat first | exact TakeP.here _ | apply TakeP.there)) Tryd.runUnderlying22) rfl rfl rfl ?_
        refine Ops.st (.lss rfl rfl) rfl rfl rfl ?_
        refine Ops.nil ?_
        refine Ext.seq ?_
        refine Cod.condD rfl (fun h4 => ?_) (fun h4 => ?_)
        ·
          refine Cod.skip ?_
          refine Ext.seq ?_
          refine Cod.seq ?_
          refine Cod.block ?_
          have hi64 : 64 * i + 64 ≤ all.length := by omega
          have hbl : ((all.drop (64 * i)).take 64).length = 64 := by rw [List.length_take, List.length_drop]; omega
          refine Cod.regionA mixed (by kernel_rfl) (listed := #[false, false, false, false, false, false, false, false]) ?_
          refine As.take 1 rfl (by kernel_rfl) (by kernel_rfl) (by kernel_rfl) rfl rfl rfl (fun F hs => .move rfl) (by kernel_rfl) (listed' := #[false, true, false, false, false, false, false, false]) ?_
          refine As.take 2 rfl (by kernel_rfl) (by kernel_rfl) (by kernel_rfl) rfl rfl rfl (fun F hs => .move rfl) (by kernel_rfl) (listed' := #[false, true, true, false, false, false, false, false]) ?_
          refine As.take 3 rfl (by kernel_rfl) (by kernel_rfl) (by kernel_rfl) rfl rfl rfl (fun F hs => .move rfl) (by kernel_rfl) (listed' := #[false, true, true, true, false, false, false, false]) ?_
          refine As.take 4 rfl (by kernel_rfl) (by kernel_rfl) (by kernel_rfl) rfl rfl rfl (fun F hs => .add rfl rfl (by first | exact IntWalk.i64_in _ (by omega) | rfl)) (by kernel_rfl) (listed' := #[false, true, true, true, true, false, false, false]) ?_
          refine As.quiet [0, 5, 6] 3 1 rfl ?_
          refine Aq.st (i := 0) ⟨rfl, by kernel_rfl, by kernel_rfl, by kernel_rfl, by kernel_rfl, by kernel_rfl⟩ (.loadPA (ds := w32s st) rfl (by repeat first | exact TakeP.here _ | apply TakeP.there) Tryd.isAgg47 Tryd.sizeOf47 (read0 (by rw [w32s_len, hst])) (by rw [w32s_len, hst])) rfl rfl rfl (by kernel_rfl) (listed' := #[true, true, true, true, true, false, false, false]) ?_
          refine Aq.st (i := 5) ⟨rfl, by kernel_rfl, by kernel_rfl, by kernel_rfl, by kernel_rfl, by kernel_rfl⟩ (.slice_lh (lo := 64 * i) (hi := 64 * i + 64) rfl rfl rfl (Rd.vec (v := wv) (by repeat first | exact TakeP.here _ | apply TakeP.there)) Tryd.runUnderlying22 Tryd.sizeOf5 rfl (by omega) (by omega) (by omega)) rfl rfl rfl (by kernel_rfl) (listed' := #[true, true, true, true, true, true, false, false]) ?_
          refine Aq.call (i := 6) ⟨rfl, by kernel_rfl, by kernel_rfl, by kernel_rfl, by kernel_rfl, by kernel_rfl⟩ ⟨Tryd.call24⟩ rfl rfl rfl (by repeat' first | exact Takes.nil _ | exact TakeP.here _ | apply TakeP.there | apply Takes.cons) (fun F' hF => Spec.quiet (refBlock_any (st := st) (blk := (all.drop (64 * i)).take 64) hst hbl (((Rd.vec (v := wv) (by repeat first | exact TakeP.here _ | apply TakeP.there)).cut8 (lo := 64 * i) (hi := 64 * i + 64) (by omega) (by omega) (by rw [Nat.add_sub_cancel_left])).wider hF))) rfl rfl rfl (by kernel_rfl) (listed' := #[true, true, true, true, true, true, true, false]) ?_
          refine Aq.done (by kernel_rfl) ?_
          refine As.one (i := 7) (by kernel_rfl) ?_
          refine Ao.ef10 rfl (.storeA (vs := w32s (hblock st ((all.drop (64 * i)).take 64))) (cs' := w32s (hblock st ((all.drop (64 * i)).take 64))) rfl rfl (by repeat first | exact TakeP.here _ | apply TakeP.there) Tryd.sizeOf47 (by rw [w32s_len, hblock_len _ hst]) (fits0 (by rw [w32s_len, hst])) (w32s_one _) (whole (by rw [w32s_len, hst]))) rfl rfl (by kernel_rfl) (listed' := #[true, true, true, true, true, true, true, true]) ?_
          refine As.done (by kernel_rfl) ?_
          refine Ext.block ?_
          refine Ext.seq ?_
          refine Cod.region ?_
          refine Ops.st (.move rfl) rfl rfl rfl ?_
          refine Ops.st (.add rfl rfl (by first | exact IntWalk.i64_in _ (by omega) | rfl)) rfl rfl rfl ?_
          refine Ops.st (.assign rfl) rfl rfl rfl ?_
          refine Ops.nil ?_
          exact Ext.back (i + 1, hblock st ((all.drop (64 * i)).take 64)) (by dsimp only; omega) ⟨by dsimp only; omega, hblock_len _ hst, by dsimp only; rw [← hful, hfull_at hi64, show 64 * (i + 1) = 64 * i + 64 by omega]⟩ ⟨rfl, rfl, rfl, by rw [show ((64 * (i + 1) : Nat) : Int) = ((64 * i : Nat) : Int) + 64 by omega]; rfl, trivial⟩ (Ent.take (by repeat' first | exact Takes.nil _ | exact TakeP.here _ | apply TakeP.there | apply Takes.cons))
        ·
          refine Cod.exit (Ext.seqX (Ext.stopX (Ext.hit ?_)))
          refine Ext.seq ?_
          refine Cod.seq ?_
          refine Cod.region ?_
          have hdr : all.drop (64 * i) = [] := List.drop_of_length_le (by omega)
          rw [hdr, hfull_few (by decide)] at hful
          have hsm : ((HM.load bs).write more).sum = bytes32 st := by rw [hsum, ← hall, ← hful]
          refine Ops.st (.loadPA (ds := w32s st) rfl (by repeat first | exact TakeP.here _ | apply TakeP.there) Tryd.isAgg47 Tryd.sizeOf47 (read0 (by rw [w32s_len, hst])) (by rw [w32s_len, hst])) rfl rfl rfl ?_
          refine Ops.call ⟨Tryd.call25⟩ rfl rfl rfl (by repeat' first | exact Takes.nil _ | exact TakeP.here _ | apply TakeP.there | apply Takes.cons) (fun F' hF => refWords_any hst) rfl rfl rfl ?_
          rintro _ _ ⟨rfl, rfl⟩
          have hlen : (u8s (bytes32 st)).length = 32 := by rw [u8s_len, bytes32_len]
          refine Ops.ef10 (.storeA (vs := u8s (bytes32 st)) (cs' := u8s (bytes32 st)) rfl rfl (by repeat first | exact TakeP.here _ | apply TakeP.there) Tryd.sizeOf24 (by rw [u8s_len, bytes32_len]) (by simp) (u8s_one _) (whole (by simp))) rfl rfl ?_
          refine Ops.nil ?_
          refine Ext.seq ?_
          exact Cod.ret (Ext.retCE rfl rfl (by repeat first | exact TakeP.here _ | apply TakeP.there) Tryd.isAgg24 Tryd.sizeOf24 (by first | rfl | assumption) (Ent.nil _) (⟨by rw [hsm], rfl⟩))
end Go.Proofs.YtdnbnfebapofnaaDoor
