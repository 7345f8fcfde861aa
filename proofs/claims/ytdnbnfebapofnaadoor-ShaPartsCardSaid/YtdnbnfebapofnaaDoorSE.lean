/- The hash's bytes, a number's bytes, slices laid one behind the other. No condition. -/
import Derived.Test.YtdnbnfebapofnaaDoorSD
namespace Go.Proofs.YtdnbnfebapofnaaDoor
open Go

theorem Wider.cell {F F' : Fr} {rest r : List SP} {b o : Nat} {T : TypeId} {cs : List Value} {u : Value} (hw : Wider F rest F') (hk : TakeP (pt b T cs) rest r) (hu : cs[o]? = some u) : HCell F'.hf ⟨b, o, none⟩ u := by
  obtain ⟨z, hz, hl⟩ := SL_head hk hw.rest
  exact (hz.cell hu).mono hl

/-- The bytes of a state's words. -/
def byteOf (st : List UInt32) (i : Nat) : UInt8 := ((st.getD (i / 4) 0) >>> UInt32.ofNat (8 * (3 - i % 4))).toUInt8
def bytes32 (st : List UInt32) : List UInt8 := (List.range 32).map (byteOf st)
theorem bytes32_len (st : List UInt32) : (bytes32 st).length = 32 := by simp [bytes32]
theorem bytes32_get (st : List UInt32) {i : Nat} (h : i < 32) : (bytes32 st)[i]? = some (byteOf st i) := by simp [bytes32, List.getElem?_range h]
/-- Some of them, and noughts. -/
def upTo (l : List UInt8) (n i : Nat) : List UInt8 := l.take i ++ List.replicate (n - i) 0
theorem upTo_len {l : List UInt8} {n i : Nat} (h : l.length = n) (hi : i ≤ n) : (upTo l n i).length = n := by simp [upTo]; omega
theorem upTo_set {l : List UInt8} {n i : Nat} {c : UInt8} (h : l.length = n) (hi : i < n) (hc : l[i]? = some c) : (upTo l n i).set i c = upTo l n (i + 1) := by
  have hl : (l.take i).length = i := by rw [List.length_take]; omega
  rw [upTo, upTo, List.set_append_right _ _ (by omega), hl, Nat.sub_self, show n - i = (n - (i + 1)) + 1 by omega, List.replicate_succ, List.set_cons_zero]
  have h2 : l.take (i + 1) = l.take i ++ [c] := by
    rw [List.take_add_one, hc]; rfl
  rw [h2, List.append_assoc]
  rfl
theorem upTo_all {l : List UInt8} {n : Nat} (h : l.length = n) : upTo l n n = l := by rw [upTo, Nat.sub_self, List.replicate_zero, List.append_nil, List.take_of_length_le (by omega)]
theorem upTo_zero (l : List UInt8) (n : Nat) : upTo l n 0 = List.replicate n 0 := by simp [upTo]
theorem u8s_zeros (n : Nat) : u8s (List.replicate n 0) = List.replicate n (.int .u8 0) := by simp [u8s]

set_option maxRecDepth 4000 in
theorem shaBytes_any {F : Fr} {b : Nat} {st : List UInt32} (hst : st.length = 8) (hc : ∀ j, j < 8 → HCell F.hf ⟨b, j, none⟩ (W32 (st.getD j 0))) :
    Spec Tryd.prog F 29 [.pointer (some ⟨b, 0, none⟩)] [] (fun u hs' => u = .agg (u8s (bytes32 st)).toArray ∧ hs' = []) := by
  refine Spec.body Tryd.func29 rfl Tryd.ntmps29 rfl ?_
  refine Cod.seq ?_
  refine Cod.region ?_
  refine Ops.ef (.alloc (cs := List.replicate 32 (Value.int .u8 0)) Tryd.zeroValue24 (by kernel_rfl)) rfl rfl rfl ?_
  rintro _ _ ⟨rb, rfl, rfl⟩
  refine Ops.nil ?_
  refine Ext.seq ?_
  refine Cod.seq ?_
  refine Cod.region ?_
  refine Ops.ef (.alloc (cs := List.replicate 32 (Value.int .u8 0)) Tryd.zeroValue24 (by kernel_rfl)) rfl rfl rfl ?_
  rintro _ _ ⟨ob, rfl, rfl⟩
  refine Ops.nil ?_
  refine Ext.seq ?_
  refine Cod.seq ?_
  refine Cod.seq ?_
  refine Cod.region ?_
  have hbl := bytes32_len st
  refine Ops.st (.move rfl) rfl rfl rfl ?_
  refine Ops.nil ?_
  refine Ext.seq ?_
  refine Cod.block ?_
  refine Cod.loop (fun i : Nat => ⟨i ≤ 32, [(0, .pointer (some ⟨b, 0, none⟩)), (2, .pointer (some ⟨rb, 0, none⟩)), (3, .pointer (some ⟨ob, 0, none⟩)), (5, .int .i64 i)], [pt rb 24 (List.replicate 32 (Value.int .u8 0)), pt ob 24 (u8s (upTo (bytes32 st) 32 i))]⟩) (fun i => 32 - i) 0 (Nat.zero_le _) ⟨rfl, rfl, rfl, rfl, trivial⟩ (by rw [upTo_zero, u8s_zeros]; exact Ent.take (by repeat' first | exact Takes.nil _ | exact TakeP.here _ | apply TakeP.there | apply Takes.cons)) ?_
  rintro i hi
  dsimp only
  refine Cod.seq ?_
  refine Cod.region ?_
  refine Ops.st (.lss rfl rfl) rfl rfl rfl ?_
  refine Ops.nil ?_
  refine Ext.seq ?_
  refine Cod.seq ?_
  refine Cod.condD rfl (fun h1 => ?_) (fun h1 => ?_)
  ·
    refine Cod.skip ?_
    refine Ext.seq ?_
    refine Cod.seq ?_
    refine Cod.block ?_
    refine Cod.seq ?_
    refine Cod.region ?_
    refine Ops.st (.move rfl) rfl rfl rfl ?_
    refine Ops.st (.assign rfl) rfl rfl rfl ?_
    refine Ops.nil ?_
    refine Ext.seq ?_
    refine Cod.region ?_
    refine Ops.st (.move rfl) rfl rfl rfl ?_
    refine Ops.st (.move rfl) rfl rfl rfl ?_
    refine Ops.st (.move rfl) rfl rfl rfl ?_
    refine Ops.st (.quo (r := ((i / 4 : Nat) : Int)) rfl rfl (by decide) (by rw [IntWalk.i64_quo _ _ (by omega)]; omega)) rfl rfl rfl ?_
    refine Ops.st (.nilCheck rfl) rfl rfl rfl ?_
    refine Ops.st (.fieldAddr rfl fa53_0) rfl rfl rfl ?_
    refine Ops.st (.indexAddrA (j := i / 4) (off := i / 4) rfl rfl Tryd.runUnderlying47 Tryd.sizeOf46 rfl (by omega) (by omega)) rfl rfl rfl ?_
    refine Ops.st (.load rfl Tryd.isAgg46 (CellAt.ro (hc (i / 4) (by omega)))) rfl rfl rfl ?_
    refine Ops.st (.move rfl) rfl rfl rfl ?_
    refine Ops.st (.rem (r := ((i % 4 : Nat) : Int)) rfl rfl (by decide) (by rw [Int.tmod_eq_emod_of_nonneg (by omega)]; omega)) rfl rfl rfl ?_
    refine Ops.st (.sub rfl rfl (by first | exact IntWalk.i64_in _ (by omega) | rfl)) rfl rfl rfl ?_
    refine Ops.st (.mul rfl rfl (by first | exact IntWalk.i64_in _ (by omega) | rfl)) rfl rfl rfl ?_
    refine Ops.st (.shrW32 (n := 8 * (3 - i % 4)) rfl rfl (by omega) (by omega)) rfl rfl rfl ?_
    refine Ops.st (.convW32_8 rfl Tryd.underlying46 Tryd.underlying5) rfl rfl rfl ?_
    refine Ops.st (.indexAddrA (j := i) (off := i) rfl rfl Tryd.runUnderlying24 Tryd.sizeOf5 rfl (by omega) (by omega)) rfl rfl rfl ?_
    refine Ops.ef10 (.store (cs' := u8s (upTo (bytes32 st) 32 (i + 1))) rfl rfl (by repeat first | exact TakeP.here _ | apply TakeP.there) Tryd.sizeOf5 (by rw [u8s_len, upTo_len hbl hi]; exact Nat.ble_eq_true_of_le (by omega)) rfl (by rw [u8s_set]; exact congrArg u8s (upTo_set hbl (by omega) (bytes32_get st (by omega))))) rfl rfl ?_
    refine Ops.nil ?_
    refine Ext.block ?_
    refine Ext.seq ?_
    refine Cod.region ?_
    refine Ops.st (.add rfl rfl (by first | exact IntWalk.i64_in _ (by omega) | rfl)) rfl rfl rfl ?_
    refine Ops.st (.move rfl) rfl rfl rfl ?_
    refine Ops.nil ?_
    exact Ext.back (i + 1) (by omega) (by omega) ⟨rfl, rfl, rfl, rfl, trivial⟩ (Ent.take (by repeat' first | exact Takes.nil _ | exact TakeP.here _ | apply TakeP.there | apply Takes.cons))
  ·
    refine Cod.exit (Ext.seqX (Ext.stopX (Ext.hit ?_)))
    refine Ext.seq ?_
    refine Cod.seq ?_
    refine Cod.region ?_
    obtain rfl : i = 32 := by omega
    rw [upTo_all hbl]
    refine Ops.st (.loadPA (ds := u8s (bytes32 st)) rfl (by repeat first | exact TakeP.here _ | apply TakeP.there) Tryd.isAgg24 Tryd.sizeOf24 (by rw [List.drop_zero, List.take_of_length_le (by rw [u8s_len, hbl]; exact Nat.le_refl _)]) (by rw [u8s_len, hbl])) rfl rfl rfl ?_
    refine Ops.ef10 (.storeA (vs := u8s (bytes32 st)) (cs' := u8s (bytes32 st)) rfl rfl (by repeat first | exact TakeP.here _ | apply TakeP.there) Tryd.sizeOf24 (by rw [u8s_len, hbl]) (by simp) (u8s_one _) (by rw [List.take_zero, List.nil_append, List.drop_of_length_le (by simp), List.append_nil])) rfl rfl ?_
    refine Ops.nil ?_
    refine Ext.seq ?_
    exact Cod.ret (Ext.retCE rfl rfl (by repeat first | exact TakeP.here _ | apply TakeP.there) Tryd.isAgg24 Tryd.sizeOf24 (by first | rfl | assumption) (Ent.nil _) (⟨rfl, rfl⟩))

/-- A number's eight bytes, the highest first. -/
def be8 (n : UInt64) (i : Nat) : UInt8 := (n >>> UInt64.ofNat (8 * (7 - i))).toUInt8
def be64 (n : UInt64) : List UInt8 := (List.range 8).map (be8 n)
theorem be64_len (n : UInt64) : (be64 n).length = 8 := by simp [be64]
theorem be64_get (n : UInt64) {i : Nat} (h : i < 8) : (be64 n)[i]? = some (be8 n i) := by simp [be64, List.getElem?_range h]
theorem take_step {l : List UInt8} {i : Nat} {c : UInt8} (h : l[i]? = some c) : l.take (i + 1) = l.take i ++ [c] := by rw [List.take_add_one, h]; rfl
theorem shaLong_any {F : Fr} {n : UInt64} : Spec Tryd.prog F 28 [W64 n] [] (fun u hs' => Sl u ∧ hs' = [vec u 5 1 8 (u8s (be64 n))]) := by
  refine Spec.body Tryd.func28 rfl Tryd.ntmps28 rfl ?_
  refine Cod.seq ?_
  refine Cod.region ?_
  refine Ops.st (.assign rfl) rfl rfl rfl ?_
  refine Ops.nil ?_
  refine Ext.seq ?_
  refine Cod.seq ?_
  refine Cod.region ?_
  refine Ops.st (.assign rfl) rfl rfl rfl ?_
  refine Ops.nil ?_
  refine Ext.seq ?_
  refine Cod.seq ?_
  refine Cod.seq ?_
  refine Cod.region ?_
  refine Ops.st (.move rfl) rfl rfl rfl ?_
  refine Ops.nil ?_
  refine Ext.seq ?_
  refine Cod.block ?_
  refine Cod.loop (fun g : Nat × Value => ⟨g.1 ≤ 8 ∧ Sl g.2, [(0, W64 n), (3, g.2), (5, .int .i64 g.1)], [vec g.2 5 1 g.1 (u8s ((be64 n).take g.1))]⟩) (fun g => 8 - g.1) (0, .slice none 0 0) ⟨Nat.zero_le _, Sl.nil⟩ ⟨rfl, rfl, rfl, trivial⟩ (Ent.vecNil.trans (Ent.take (by repeat' first | exact Takes.nil _ | exact TakeP.here _ | apply TakeP.there | apply Takes.cons))) ?_
  rintro ⟨i, ov⟩ ⟨hi, hov⟩
  dsimp only
  refine Cod.seq ?_
  refine Cod.region ?_
  dsimp only at hi hov
  refine Ops.st (.lss rfl rfl) rfl rfl rfl ?_
  refine Ops.nil ?_
  refine Ext.seq ?_
  refine Cod.seq ?_
  refine Cod.condD rfl (fun h1 => ?_) (fun h1 => ?_)
  ·
    refine Cod.skip ?_
    refine Ext.seq ?_
    refine Cod.seq ?_
    refine Cod.block ?_
    refine Cod.seq ?_
    refine Cod.region ?_
    refine Ops.st (.move rfl) rfl rfl rfl ?_
    refine Ops.st (.assign rfl) rfl rfl rfl ?_
    refine Ops.nil ?_
    refine Ext.seq ?_
    refine Cod.region ?_
    refine Ops.st (.move rfl) rfl rfl rfl ?_
    refine Ops.st (.move rfl) rfl rfl rfl ?_
    refine Ops.st (.move rfl) rfl rfl rfl ?_
    refine Ops.st (.sub rfl rfl (by first | exact IntWalk.i64_in _ (by omega) | rfl)) rfl rfl rfl ?_
    refine Ops.st (.mul rfl rfl (by first | exact IntWalk.i64_in _ (by omega) | rfl)) rfl rfl rfl ?_
    refine Ops.st (.shrW64 (n := 8 * (7 - i)) rfl rfl (by omega) (by omega)) rfl rfl rfl ?_
    refine Ops.st (.convW64_8 rfl Tryd.underlying45 Tryd.underlying5) rfl rfl rfl ?_
    refine Ops.ef (.lit1 ei22 rfl rfl rfl (by repeat' first | exact One.nil | apply One.cons rfl | (apply One.cons (Sl.one (by assumption))))) rfl rfl rfl ?_
    rintro lv _ ⟨hlv, rfl⟩
    refine Ops.ef (.append (v := ov) rfl rfl (by repeat first | exact TakeP.here _ | apply TakeP.there) (Rd.vec (v := lv) (by repeat first | exact TakeP.here _ | apply TakeP.there)) ei22 (by omega) (by simp only [maxLen]; omega)) rfl rfl rfl ?_
    rintro nv _ ⟨hnv, rfl⟩
    refine Ops.st (.assign rfl) rfl rfl rfl ?_
    refine Ops.nil ?_
    refine Ext.block ?_
    refine Ext.seq ?_
    refine Cod.region ?_
    refine Ops.st (.add rfl rfl (by first | exact IntWalk.i64_in _ (by omega) | rfl)) rfl rfl rfl ?_
    refine Ops.st (.move rfl) rfl rfl rfl ?_
    refine Ops.nil ?_
    exact Ext.back (i + 1, nv) (by dsimp only; omega) ⟨by dsimp only; omega, hnv⟩ ⟨rfl, rfl, rfl, trivial⟩ (by dsimp only; rw [take_step (be64_get n (by omega)), u8s_app]; exact Ent.take (by repeat' first | exact Takes.nil _ | exact TakeP.here _ | apply TakeP.there | apply Takes.cons))
  ·
    refine Cod.exit (Ext.seqX (Ext.stopX (Ext.hit ?_)))
    refine Ext.seq ?_
    refine Cod.seq ?_
    refine Cod.region ?_
    obtain rfl : i = 8 := by omega
    rw [List.take_of_length_le (by rw [be64_len]; exact Nat.le_refl _)]
    refine Ops.st (.move rfl) rfl rfl rfl ?_
    refine Ops.st (.assign rfl) rfl rfl rfl ?_
    refine Ops.nil ?_
    refine Ext.seq ?_
    exact Cod.ret (Ext.ret rfl rfl ⟨hov, rfl⟩)

theorem grow_any {F : Fr} {n : Nat} (hn : n ≤ 70368744177664) : Spec Tryd.prog F 34 [.slice none 0 0, .int .i64 (n : Int)] [] (fun u hs' => Sl u ∧ hs' = [vec u 5 1 0 []]) := by
  refine Spec.body Tryd.func34 rfl Tryd.ntmps34 rfl ?_
  refine Cod.seq ?_
  refine Cod.region ?_
  refine Ops.st (.assign rfl) rfl rfl rfl ?_
  refine Ops.nil ?_
  refine Ext.seq ?_
  refine Cod.seq ?_
  refine Cod.seq ?_
  refine Cod.region ?_
  refine Ops.st (.move rfl) rfl rfl rfl ?_
  refine Ops.st (.lss rfl rfl) rfl rfl rfl ?_
  refine Ops.nil ?_
  refine Ext.seq ?_
  refine Cod.condF rfl (decide_eq_false (by omega)) ?_
  refine Cod.skip ?_
  refine Ext.seq ?_
  refine Cod.seq ?_
  refine Cod.seq ?_
  refine Cod.region ?_
  refine Ops.st (.move rfl) rfl rfl rfl ?_
  refine Ops.st (.move rfl) rfl rfl rfl ?_
  refine Ops.st (.capNil rfl Tryd.runUnderlying22) rfl rfl rfl ?_
  refine Ops.st (.move rfl) rfl rfl rfl ?_
  refine Ops.st (.len rfl (Rd.nil (sz := 1)) Tryd.runUnderlying22) rfl rfl rfl ?_
  refine Ops.st (.sub rfl rfl (by first | exact IntWalk.i64_in _ (by omega) | rfl)) rfl rfl rfl ?_
  refine Ops.st (.sub rfl rfl (by first | exact IntWalk.i64_in _ (by omega) | rfl)) rfl rfl rfl ?_
  refine Ops.st (.assign rfl) rfl rfl rfl ?_
  refine Ops.nil ?_
  refine Ext.seq ?_
  refine Cod.seq ?_
  refine Cod.region ?_
  refine Ops.st (.move rfl) rfl rfl rfl ?_
  refine Ops.st (.gtr rfl rfl) rfl rfl rfl ?_
  refine Ops.nil ?_
  refine Ext.seq ?_
  refine Cod.condD rfl (fun h1 => ?_) (fun h1 => ?_)
  ·
    refine Cod.region ?_
    refine Ops.st (.move rfl) rfl rfl rfl ?_
    refine Ops.st (.move rfl) rfl rfl rfl ?_
    refine Ops.st (.capNil rfl Tryd.runUnderlying22) rfl rfl rfl ?_
    refine Ops.st (.slice_h (hi := 0) rfl rfl (Rd.nil (sz := 1)) Tryd.runUnderlying22 Tryd.sizeOf5 rfl (Nat.le_refl _)) rfl rfl rfl ?_
    refine Ops.st (.move rfl) rfl rfl rfl ?_
    refine Ops.ef (.appendZ (m := n) (z := .int .u8 0) rfl (by rw [show (n : Int) - (0 - ((0 : Nat) : Int)) = n by omega]; rfl) ei22 rfl Tryd.underlying3 (by omega) (by omega) (by simp only [maxLen]; omega) rfl) rfl rfl rfl ?_
    rintro u _ ⟨hu, rfl⟩
    refine Ops.st (.move rfl) rfl rfl rfl ?_
    refine Ops.st (.len rfl (Rd.nil (sz := 1)) Tryd.runUnderlying22) rfl rfl rfl ?_
    refine Ops.st (.slice_h (hi := 0) rfl rfl (Rd.vec (v := u) (by repeat first | exact TakeP.here _ | apply TakeP.there)) Tryd.runUnderlying22 Tryd.sizeOf5 rfl (Nat.zero_le _)) rfl rfl rfl ?_
    refine Ops.st (.assign rfl) rfl rfl rfl ?_
    refine Ops.nil ?_
    refine Ext.seq ?_
    refine Cod.seq ?_
    refine Cod.region ?_
    refine Ops.st (.move rfl) rfl rfl rfl ?_
    refine Ops.st (.assign rfl) rfl rfl rfl ?_
    refine Ops.nil ?_
    refine Ext.seq ?_
    exact Cod.ret (Ext.retE rfl rfl ((Ent.one fun z hz => vec.cut hz (lo := 0) (hi := 0) (Nat.le_refl _) (Nat.zero_le _)).trans (Ent.take (ps := [vec (Value.cut u 0 0 1) 5 1 0 []]) (by simp only [Nat.sub_self, Nat.zero_mul, List.take_zero]; exact (by repeat' first | exact Takes.nil _ | exact TakeP.here _ | apply TakeP.there | apply Takes.cons)))) (⟨hu.cut, rfl⟩))
  ·
    refine Cod.skip ?_
    refine Ext.seq ?_
    refine Cod.seq ?_
    refine Cod.region ?_
    refine Ops.st (.move rfl) rfl rfl rfl ?_
    refine Ops.st (.assign rfl) rfl rfl rfl ?_
    refine Ops.nil ?_
    refine Ext.seq ?_
    exact Cod.ret (Ext.retE rfl rfl Ent.vecNil (⟨Sl.nil, rfl⟩))

theorem flat_take {bs : List (List UInt8)} {i : Nat} {c : List UInt8} (h : bs[i]? = some c) : (bs.take (i + 1)).flatten = (bs.take i).flatten ++ c := by rw [List.take_add_one, h]; simp
theorem flat_le (bs : List (List UInt8)) (i : Nat) : (bs.take i).flatten.length ≤ bs.flatten.length := by
  have h : bs.flatten = (bs.take i).flatten ++ (bs.drop i).flatten := by rw [← List.flatten_append, List.take_append_drop]
  rw [h, List.length_append]
  omega
theorem concat_any {F : Fr} {v : Value} {vs : List Value} {bs : List (List UInt8)} (hr : SlR F.hf v 1 bs.length vs) (hrow : Rows8 F vs bs) (hs : bs.flatten.length ≤ 70368744177664) :
    Spec Tryd.prog F 27 [v] [] (fun u hs' => Sl u ∧ hs' = [vec u 5 1 bs.flatten.length (u8s bs.flatten)]) := by
  have hsm := hr.small
  refine Spec.body Tryd.func27 rfl Tryd.ntmps27 rfl ?_
  refine Cod.seq ?_
  refine Cod.region ?_
  refine Ops.st (.assign rfl) rfl rfl rfl ?_
  refine Ops.nil ?_
  refine Ext.seq ?_
  refine Cod.seq ?_
  refine Cod.region ?_
  refine Ops.st (.assign rfl) rfl rfl rfl ?_
  refine Ops.nil ?_
  refine Ext.seq ?_
  refine Cod.seq ?_
  refine Cod.seq ?_
  refine Cod.region ?_
  refine Ops.st (.move rfl) rfl rfl rfl ?_
  refine Ops.st (.len rfl (Rd.ro hr) Tryd.runUnderlying41) rfl rfl rfl ?_
  refine Ops.st (.move rfl) rfl rfl rfl ?_
  refine Ops.nil ?_
  refine Ext.seq ?_
  refine Cod.block ?_
  refine Cod.loop (fun i : Nat => ⟨i ≤ bs.length, [(0, v), (9, v), (10, .int .i64 bs.length), (3, .int .i64 ((bs.take i).flatten.length : Nat)), (11, .int .i64 i)], []⟩) (fun i => bs.length - i) 0 (Nat.zero_le _) ⟨rfl, rfl, rfl, rfl, rfl, trivial⟩ (Ent.nil _) ?_
  rintro i hi
  dsimp only
  refine Cod.seq ?_
  refine Cod.region ?_
  refine Ops.st (.lss rfl rfl) rfl rfl rfl ?_
  refine Ops.nil ?_
  refine Ext.seq ?_
  refine Cod.seq ?_
  refine Cod.condD rfl (fun h1 => ?_) (fun h1 => ?_)
  ·
    refine Cod.skip ?_
    refine Ext.seq ?_
    refine Cod.seq ?_
    refine Cod.block ?_
    refine Cod.seq ?_
    refine Cod.region ?_
    obtain ⟨c, hc⟩ : ∃ c, bs[i]? = some c := ⟨bs[i]'(by omega), List.getElem?_eq_getElem (by omega)⟩
    obtain ⟨cv, hcv, hsc⟩ := hrow.get hc
    have hf1 := flat_le bs (i + 1)
    rw [flat_take hc, List.length_append] at hf1
    refine Ops.st (.indexAddr (j := i) (off := i) rfl rfl (Rd.ro hr) Tryd.runUnderlying41 Tryd.sizeOf22 rfl (by omega) (by omega)) rfl rfl rfl ?_
    refine Ops.st (.load_elem rfl (Rd.ro hr) Tryd.isAgg22 hcv) rfl rfl rfl ?_
    refine Ops.st (.assign rfl) rfl rfl rfl ?_
    refine Ops.nil ?_
    refine Ext.seq ?_
    refine Cod.seq ?_
    refine Cod.region ?_
    refine Ops.st (.move rfl) rfl rfl rfl ?_
    refine Ops.st (.move rfl) rfl rfl rfl ?_
    refine Ops.st (.len rfl (Rd.ro hsc) Tryd.runUnderlying22) rfl rfl rfl ?_
    refine Ops.st (.add rfl rfl (by first | exact IntWalk.i64_in _ (by omega) | rfl)) rfl rfl rfl ?_
    refine Ops.st (.assign rfl) rfl rfl rfl ?_
    refine Ops.nil ?_
    refine Ext.seq ?_
    refine Cod.seq ?_
    refine Cod.region ?_
    refine Ops.st (.move rfl) rfl rfl rfl ?_
    refine Ops.st (.lss rfl rfl) rfl rfl rfl ?_
    refine Ops.nil ?_
    refine Ext.seq ?_
    refine Cod.condF rfl (decide_eq_false (by omega)) ?_
    refine Cod.skip ?_
    refine Ext.block ?_
    refine Ext.seq ?_
    refine Cod.region ?_
    refine Ops.st (.add rfl rfl (by first | exact IntWalk.i64_in _ (by omega) | rfl)) rfl rfl rfl ?_
    refine Ops.st (.move rfl) rfl rfl rfl ?_
    refine Ops.nil ?_
    exact Ext.back (i + 1) (by omega) (by omega) ⟨rfl, rfl, rfl, by rw [flat_take hc, List.length_append]; rfl, rfl, trivial⟩ (Ent.nil _)
  ·
    refine Cod.exit (Ext.seqX (Ext.stopX (Ext.hit ?_)))
    refine Ext.seq ?_
    refine Cod.seq ?_
    refine Cod.region ?_
    obtain rfl : i = bs.length := by omega
    rw [List.take_length]
    refine Ops.st (.move rfl) rfl rfl rfl ?_
    refine Ops.call ⟨Tryd.call34⟩ rfl rfl rfl (by repeat' first | exact Takes.nil _ | exact TakeP.here _ | apply TakeP.there | apply Takes.cons) (fun F' hF => grow_any (n := bs.flatten.length) hs) rfl rfl rfl ?_
    rintro nv _ ⟨hnv, rfl⟩
    refine Ops.st (.assign rfl) rfl rfl rfl ?_
    refine Ops.nil ?_
    refine Ext.seq ?_
    refine Cod.seq ?_
    refine Cod.seq ?_
    refine Cod.region ?_
    refine Ops.st (.move rfl) rfl rfl rfl ?_
    refine Ops.st (.len rfl (Rd.ro hr) Tryd.runUnderlying41) rfl rfl rfl ?_
    refine Ops.st (.move rfl) rfl rfl rfl ?_
    refine Ops.nil ?_
    refine Ext.seq ?_
    refine Cod.block ?_
    refine Cod.loop (fun g : Nat × Value => ⟨g.1 ≤ bs.length ∧ Sl g.2, [(25, v), (26, .int .i64 bs.length), (6, g.2), (27, .int .i64 g.1)], [vec g.2 5 1 (bs.take g.1).flatten.length (u8s (bs.take g.1).flatten)]⟩) (fun g => bs.length - g.1) (0, nv) ⟨Nat.zero_le _, hnv⟩ ⟨rfl, rfl, rfl, rfl, trivial⟩ (Ent.take (by repeat' first | exact Takes.nil _ | exact TakeP.here _ | apply TakeP.there | apply Takes.cons)) ?_
    rintro ⟨i, ov⟩ ⟨hi, hov⟩
    dsimp only
    refine Cod.seq ?_
    refine Cod.region ?_
    dsimp only at hi hov
    refine Ops.st (.lss rfl rfl) rfl rfl rfl ?_
    refine Ops.nil ?_
    refine Ext.seq ?_
    refine Cod.seq ?_
    refine Cod.condD rfl (fun h2 => ?_) (fun h2 => ?_)
    ·
      refine Cod.skip ?_
      refine Ext.seq ?_
      refine Cod.seq ?_
      refine Cod.block ?_
      refine Cod.seq ?_
      refine Cod.region ?_
      obtain ⟨c, hc⟩ : ∃ c, bs[i]? = some c := ⟨bs[i]'(by omega), List.getElem?_eq_getElem (by omega)⟩
      obtain ⟨cv, hcv, hsc⟩ := hrow.get hc
      have hf1 := flat_le bs (i + 1)
      rw [flat_take hc, List.length_append] at hf1
      refine Ops.st (.indexAddr (j := i) (off := i) rfl rfl (Rd.ro hr) Tryd.runUnderlying41 Tryd.sizeOf22 rfl (by omega) (by omega)) rfl rfl rfl ?_
      refine Ops.st (.load_elem rfl (Rd.ro hr) Tryd.isAgg22 hcv) rfl rfl rfl ?_
      refine Ops.st (.assign rfl) rfl rfl rfl ?_
      refine Ops.nil ?_
      refine Ext.seq ?_
      refine Cod.region ?_
      refine Ops.st (.move rfl) rfl rfl rfl ?_
      refine Ops.st (.move rfl) rfl rfl rfl ?_
      refine Ops.ef (.append (v := ov) rfl rfl (by repeat first | exact TakeP.here _ | apply TakeP.there) (Rd.ro hsc) ei22 (by omega) (by simp only [maxLen]; omega)) rfl rfl rfl ?_
      rintro nv2 _ ⟨hnv2, rfl⟩
      refine Ops.st (.assign rfl) rfl rfl rfl ?_
      refine Ops.nil ?_
      refine Ext.block ?_
      refine Ext.seq ?_
      refine Cod.region ?_
      refine Ops.st (.add rfl rfl (by first | exact IntWalk.i64_in _ (by omega) | rfl)) rfl rfl rfl ?_
      refine Ops.st (.move rfl) rfl rfl rfl ?_
      refine Ops.nil ?_
      exact Ext.back (i + 1, nv2) (by dsimp only; omega) ⟨by dsimp only; omega, hnv2⟩ ⟨rfl, rfl, rfl, rfl, trivial⟩ (by dsimp only; rw [flat_take hc, List.length_append, u8s_app]; exact Ent.take (by repeat' first | exact Takes.nil _ | exact TakeP.here _ | apply TakeP.there | apply Takes.cons))
    ·
      refine Cod.exit (Ext.seqX (Ext.stopX (Ext.hit ?_)))
      refine Ext.seq ?_
      refine Cod.seq ?_
      refine Cod.region ?_
      obtain rfl : i = bs.length := by omega
      rw [List.take_length]
      refine Ops.st (.move rfl) rfl rfl rfl ?_
      refine Ops.st (.assign rfl) rfl rfl rfl ?_
      refine Ops.nil ?_
      refine Ext.seq ?_
      exact Cod.ret (Ext.ret rfl rfl ⟨hov, rfl⟩)
end Go.Proofs.YtdnbnfebapofnaaDoor
