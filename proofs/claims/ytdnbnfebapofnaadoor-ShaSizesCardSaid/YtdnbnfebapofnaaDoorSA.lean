/- Words, turned and put together; their laws. No condition. -/
import Derived.Test.YtdnbnfebapofnaaDoorT
import Derived.Test.YtdnbnfebapofnaaDoorLK
import Derived.Laws.Bits64b
namespace Go.Proofs.YtdnbnfebapofnaaDoor
open Go

def rot (x : UInt32) (n : Nat) : UInt32 := x <<< UInt32.ofNat (32 - n) ||| x >>> UInt32.ofNat n
theorem and31 {n : Nat} (h : 0 < n) (h' : n < 32) : bits .and .u64 (((18446744073709551616 - n : Nat) : Int)) 31 = ((32 - n : Nat) : Int) := by
  rw [show (31 : Int) = ((31 : Nat) : Int) from rfl, bits_and_u64_nat _ _ (by omega) (by omega)]
  congr 1
  have : (18446744073709551616 - n) &&& 31 = (18446744073709551616 - n) % 2 ^ 5 := Nat.and_two_pow_sub_one_eq_mod _ 5
  rw [this]
  omega
theorem rotl_any {F : Fr} {x : UInt32} {n : Nat} (h0 : 0 < n) (h1 : n < 32) : Spec Tryd.prog F 35 [W32 x, .int .i64 (-(n : Int))] [] (fun v hs' => v = W32 (rot x n) ∧ hs' = []) := by
  refine Spec.body Tryd.func35 rfl Tryd.ntmps35 rfl ?_
  refine Cod.seq ?_
  refine Cod.region ?_
  refine Ops.st (.assign rfl) rfl rfl rfl ?_
  refine Ops.nil ?_
  refine Ext.seq ?_
  refine Cod.seq ?_
  refine Cod.region ?_
  refine Ops.st (.move rfl) rfl rfl rfl ?_
  refine Ops.st (.conv (r := ((18446744073709551616 - n : Nat) : Int)) rfl Tryd.runUnderlying3 Tryd.runUnderlying56 (by rw [IntKind.wrap_u64]; omega)) rfl rfl rfl ?_
  refine Ops.st (.and rfl rfl (and31 h0 h1)) rfl rfl rfl ?_
  refine Ops.st (.assign rfl) rfl rfl rfl ?_
  refine Ops.nil ?_
  refine Ext.seq ?_
  refine Cod.seq ?_
  refine Cod.region ?_
  refine Ops.st (.move rfl) rfl rfl rfl ?_
  refine Ops.st (.move rfl) rfl rfl rfl ?_
  refine Ops.st (.shlW32 (n := 32 - n) rfl rfl rfl (by omega)) rfl rfl rfl ?_
  refine Ops.st (.move rfl) rfl rfl rfl ?_
  refine Ops.st (.move rfl) rfl rfl rfl ?_
  refine Ops.st (.sub (r := (n : Int)) rfl rfl (by rw [IntKind.wrap_u64]; omega)) rfl rfl rfl ?_
  refine Ops.st (.shrW32 (n := n) rfl rfl rfl (by omega)) rfl rfl rfl ?_
  refine Ops.st (.orW32 rfl rfl) rfl rfl rfl ?_
  refine Ops.st (.assign rfl) rfl rfl rfl ?_
  refine Ops.nil ?_
  refine Ext.seq ?_
  exact Cod.ret (Ext.ret rfl rfl ⟨rfl, rfl⟩)
theorem shaRight_any {F : Fr} {x : UInt32} {n : Nat} (h0 : 0 < n) (h1 : n < 32) : Spec Tryd.prog F 33 [W32 x, .int .i64 (n : Int)] [] (fun v hs' => v = W32 (rot x n) ∧ hs' = []) := by
  refine Spec.body Tryd.func33 rfl Tryd.ntmps33 rfl ?_
  refine Cod.seq ?_
  refine Cod.region ?_
  refine Ops.st (.assign rfl) rfl rfl rfl ?_
  refine Ops.nil ?_
  refine Ext.seq ?_
  refine Cod.seq ?_
  refine Cod.region ?_
  refine Ops.st (.move rfl) rfl rfl rfl ?_
  refine Ops.st (.move rfl) rfl rfl rfl ?_
  refine Ops.st (.neg rfl (by first | exact IntWalk.i64_in _ (by omega) | rfl)) rfl rfl rfl ?_
  refine Ops.call ⟨Tryd.call35⟩ rfl rfl rfl (by repeat' first | exact Takes.nil _ | exact TakeP.here _ | apply TakeP.there | apply Takes.cons) (fun F' hF => rotl_any h0 h1) rfl rfl rfl ?_
  rintro _ _ ⟨rfl, rfl⟩
  refine Ops.st (.assign rfl) rfl rfl rfl ?_
  refine Ops.nil ?_
  refine Ext.seq ?_
  exact Cod.ret (Ext.ret rfl rfl ⟨rfl, rfl⟩)
theorem rotr_any {F : Fr} {x : UInt32} {n : Nat} (h0 : 0 < n) (h1 : n < 32) : Spec Tryd.prog F 31 [W32 x, .int .u64 (n : Int)] [] (fun v hs' => v = W32 (rot x n) ∧ hs' = []) := by
  refine Spec.body Tryd.func31 rfl Tryd.ntmps31 rfl ?_
  refine Cod.seq ?_
  refine Cod.region ?_
  refine Ops.st (.assign rfl) rfl rfl rfl ?_
  refine Ops.nil ?_
  refine Ext.seq ?_
  refine Cod.seq ?_
  refine Cod.region ?_
  refine Ops.st (.move rfl) rfl rfl rfl ?_
  refine Ops.st (.move rfl) rfl rfl rfl ?_
  refine Ops.st (.shrW32 (n := n) rfl rfl rfl (by omega)) rfl rfl rfl ?_
  refine Ops.st (.move rfl) rfl rfl rfl ?_
  refine Ops.st (.move rfl) rfl rfl rfl ?_
  refine Ops.st (.sub (r := ((32 - n : Nat) : Int)) rfl rfl (by rw [IntKind.wrap_u64]; omega)) rfl rfl rfl ?_
  refine Ops.st (.shlW32 (n := 32 - n) rfl rfl rfl (by omega)) rfl rfl rfl ?_
  refine Ops.st (.orW32 rfl rfl) rfl rfl rfl ?_
  refine Ops.st (.assign rfl) rfl rfl rfl ?_
  refine Ops.nil ?_
  refine Ext.seq ?_
  exact Cod.ret (Ext.ret rfl rfl ⟨by rw [rot, UInt32.or_comm], rfl⟩)

/-- Four bytes as a word, the highest first. -/
def word4 (a b c d : UInt8) : UInt32 := a.toUInt32 <<< UInt32.ofNat 24 ||| b.toUInt32 <<< UInt32.ofNat 16 ||| c.toUInt32 <<< UInt32.ofNat 8 ||| d.toUInt32
def wordAt (bs : List UInt8) (k : Nat) : UInt32 := word4 (bs.getD k 0) (bs.getD (k + 1) 0) (bs.getD (k + 2) 0) (bs.getD (k + 3) 0)
theorem u8s_getD {bs : List UInt8} {j : Nat} (h : j < bs.length) : (u8s bs)[j]? = some (W8 (bs.getD j 0)) := by simp [u8s, List.getD, h]
theorem getD_drop (bs : List UInt8) (k j : Nat) : (bs.drop k).getD j 0 = bs.getD (k + j) 0 := by simp [List.getD, List.getElem?_drop]
theorem wordAt_drop (bs : List UInt8) (k j : Nat) : wordAt (bs.drop k) j = wordAt bs (k + j) := by simp only [wordAt, getD_drop]; rfl
theorem shaWord_any {F : Fr} {v : Value} {bs : List UInt8} (hr : SlR F.hf v 1 bs.length (u8s bs)) (hl : 4 ≤ bs.length) : Spec Tryd.prog F 30 [v] [] (fun u hs' => u = W32 (wordAt bs 0) ∧ hs' = []) := by
  refine Spec.body Tryd.func30 rfl Tryd.ntmps30 rfl ?_
  refine Cod.seq ?_
  refine Cod.region ?_
  refine Ops.st (.assign rfl) rfl rfl rfl ?_
  refine Ops.nil ?_
  refine Ext.seq ?_
  refine Cod.seq ?_
  refine Cod.regionQ mixed (by kernel_rfl) ?_
  refine Qs.st (.move rfl) rfl rfl rfl ?_
  refine Qs.st (.indexAddr (j := 0) rfl rfl (Rd.ro hr) Tryd.runUnderlying22 Tryd.sizeOf5 rfl (by omega) rfl) rfl rfl rfl ?_
  refine Qs.st (.load_elem rfl (Rd.ro hr) Tryd.isAgg5 (u8s_getD (by omega))) rfl rfl rfl ?_
  refine Qs.st (.convW8_32 rfl Tryd.underlying5 Tryd.underlying46) rfl rfl rfl ?_
  refine Qs.st (.shlW32 (n := 24) rfl rfl rfl (by first | omega | decide)) rfl rfl rfl ?_
  refine Qs.st (.move rfl) rfl rfl rfl ?_
  refine Qs.st (.indexAddr (j := 1) rfl rfl (Rd.ro hr) Tryd.runUnderlying22 Tryd.sizeOf5 rfl (by omega) rfl) rfl rfl rfl ?_
  refine Qs.st (.load_elem rfl (Rd.ro hr) Tryd.isAgg5 (u8s_getD (by omega))) rfl rfl rfl ?_
  refine Qs.st (.convW8_32 rfl Tryd.underlying5 Tryd.underlying46) rfl rfl rfl ?_
  refine Qs.st (.shlW32 (n := 16) rfl rfl rfl (by first | omega | decide)) rfl rfl rfl ?_
  refine Qs.st (.orW32 rfl rfl) rfl rfl rfl ?_
  refine Qs.st (.move rfl) rfl rfl rfl ?_
  refine Qs.st (.indexAddr (j := 2) rfl rfl (Rd.ro hr) Tryd.runUnderlying22 Tryd.sizeOf5 rfl (by omega) rfl) rfl rfl rfl ?_
  refine Qs.st (.load_elem rfl (Rd.ro hr) Tryd.isAgg5 (u8s_getD (by omega))) rfl rfl rfl ?_
  refine Qs.st (.convW8_32 rfl Tryd.underlying5 Tryd.underlying46) rfl rfl rfl ?_
  refine Qs.st (.shlW32 (n := 8) rfl rfl rfl (by first | omega | decide)) rfl rfl rfl ?_
  refine Qs.st (.orW32 rfl rfl) rfl rfl rfl ?_
  refine Qs.st (.move rfl) rfl rfl rfl ?_
  refine Qs.st (.indexAddr (j := 3) rfl rfl (Rd.ro hr) Tryd.runUnderlying22 Tryd.sizeOf5 rfl (by omega) rfl) rfl rfl rfl ?_
  refine Qs.st (.load_elem rfl (Rd.ro hr) Tryd.isAgg5 (u8s_getD (by omega))) rfl rfl rfl ?_
  refine Qs.st (.convW8_32 rfl Tryd.underlying5 Tryd.underlying46) rfl rfl rfl ?_
  refine Qs.st (.orW32 rfl rfl) rfl rfl rfl ?_
  refine Qs.st (.assign rfl) rfl rfl rfl ?_
  refine Qs.nil ?_
  refine Ext.seq ?_
  exact Cod.ret (Ext.ret rfl rfl ⟨rfl, rfl⟩)

/-! ### Numbers of bytes -/
theorem toNat_shl32 (a : UInt8) {k : Nat} (hk : k < 32) (h : a.toNat * 2 ^ k < 4294967296) : (a.toUInt32 <<< UInt32.ofNat k).toNat = a.toNat * 2 ^ k := by
  have h2 : (UInt32.ofNat k).toNat % 32 = k := by rw [UInt32.toNat_ofNat']; omega
  rw [UInt32.toNat_shiftLeft, h2, Nat.shiftLeft_eq, UInt8.toNat_toUInt32]
  exact Nat.mod_eq_of_lt h
theorem word4_nat (a b c d : UInt8) : (word4 a b c d).toNat = ((a.toNat * 256 + b.toNat) * 256 + c.toNat) * 256 + d.toNat := by
  have ha := a.toNat_lt; have hb := b.toNat_lt; have hc := c.toNat_lt; have hd := d.toNat_lt
  unfold word4
  rw [UInt32.toNat_or, UInt32.toNat_or, UInt32.toNat_or, toNat_shl32 a (by decide) (by omega), toNat_shl32 b (by decide) (by omega), toNat_shl32 c (by decide) (by omega), UInt8.toNat_toUInt32]
  have e1 : a.toNat * 2 ^ 24 ||| b.toNat * 2 ^ 16 = 2 ^ 24 * a.toNat + b.toNat * 2 ^ 16 := by rw [Nat.mul_comm a.toNat, ← Nat.two_pow_add_eq_or_of_lt (by omega)]
  have e2 : 2 ^ 24 * a.toNat + b.toNat * 2 ^ 16 = 2 ^ 16 * (a.toNat * 256 + b.toNat) := by omega
  have e3 : 2 ^ 16 * (a.toNat * 256 + b.toNat) ||| c.toNat * 2 ^ 8 = 2 ^ 16 * (a.toNat * 256 + b.toNat) + c.toNat * 2 ^ 8 := by rw [← Nat.two_pow_add_eq_or_of_lt (by omega)]
  have e4 : 2 ^ 16 * (a.toNat * 256 + b.toNat) + c.toNat * 2 ^ 8 = 2 ^ 8 * ((a.toNat * 256 + b.toNat) * 256 + c.toNat) := by omega
  have e5 : 2 ^ 8 * ((a.toNat * 256 + b.toNat) * 256 + c.toNat) ||| d.toNat = 2 ^ 8 * ((a.toNat * 256 + b.toNat) * 256 + c.toNat) + d.toNat := by rw [← Nat.two_pow_add_eq_or_of_lt (by omega)]
  rw [e1, e2, e3, e4, e5]
  omega
theorem word4_mul (a b c d : UInt8) : ((((0 * 256 + a.toUInt32) * 256 + b.toUInt32) * 256 + c.toUInt32) * 256 + d.toUInt32 : UInt32) = word4 a b c d := by
  apply UInt32.toNat_inj.1
  rw [word4_nat]
  have ha := a.toNat_lt; have hb := b.toNat_lt; have hc := c.toNat_lt; have hd := d.toNat_lt
  simp only [UInt32.toNat_add, UInt32.toNat_mul, UInt8.toNat_toUInt32]
  have h256 : (256 : UInt32).toNat = 256 := rfl
  have h0 : (0 : UInt32).toNat = 0 := rfl
  rw [h256, h0]
  omega
end Go.Proofs.YtdnbnfebapofnaaDoor
