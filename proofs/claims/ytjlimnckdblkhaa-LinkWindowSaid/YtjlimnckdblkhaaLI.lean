/- Machine words: bytes, words of 32 and of 64 bits as what an operation computes. No condition. -/
import Derived.Test.YtjlimnckdblkhaaLH
namespace Go.Proofs.Ytjlimnckdblkhaa
open Go

section
variable {P : Program} {F : Fr} {env : Env} {hs r : List SP} {dst : Option Tmp} {ty : TypeId} {pos : String} {after : Array Edge} {g : Option (Nat × Bool)} {x y c : Operand} {u v : Value} {t t' : TypeId}

/-- A word of 8 bits. -/
abbrev W8 (a : UInt8) : Value := .int .u8 (a.toNat : Int)
theorem w8_add (a b : UInt8) : IntKind.u8.wrap ((a.toNat : Int) + b.toNat) = ((a + b).toNat : Int) := by
  rw [IntKind.wrap_u8, UInt8.toNat_add]; omega
theorem w8_sub (a b : UInt8) : IntKind.u8.wrap ((a.toNat : Int) - b.toNat) = ((a - b).toNat : Int) := by
  have ha := a.toNat_lt; have hb := b.toNat_lt
  rw [IntKind.wrap_u8, UInt8.toNat_sub]; omega
theorem w8_mul (a b : UInt8) : IntKind.u8.wrap ((a.toNat : Int) * b.toNat) = ((a * b).toNat : Int) := by
  rw [IntKind.wrap_u8, UInt8.toNat_mul, ← Int.natCast_mul]; omega
theorem w8_and (a b : UInt8) : bits .and .u8 (a.toNat : Int) (b.toNat : Int) = ((a &&& b).toNat : Int) := by
  have e : ∀ c : UInt8, BitVec.ofInt (IntKind.bits .u8) (c.toNat : Int) = c.toBitVec := fun c => by
    apply BitVec.eq_of_toNat_eq
    have := c.toNat_lt
    have hb : (BitVec.ofInt 8 (c.toNat : Int)).toNat = c.toNat := by
      simp only [BitVec.ofInt_natCast, BitVec.toNat_ofNat]
      omega
    exact hb
  unfold bits
  simp only [e]
  rw [IntKind.wrap_u8]
  have h := (a &&& b).toNat_lt
  show ((a &&& b).toNat : Int) % 256 = ((a &&& b).toNat : Int)
  omega
theorem w8_or (a b : UInt8) : bits .or .u8 (a.toNat : Int) (b.toNat : Int) = ((a ||| b).toNat : Int) := by
  have e : ∀ c : UInt8, BitVec.ofInt (IntKind.bits .u8) (c.toNat : Int) = c.toBitVec := fun c => by
    apply BitVec.eq_of_toNat_eq
    have := c.toNat_lt
    have hb : (BitVec.ofInt 8 (c.toNat : Int)).toNat = c.toNat := by
      simp only [BitVec.ofInt_natCast, BitVec.toNat_ofNat]
      omega
    exact hb
  unfold bits
  simp only [e]
  rw [IntKind.wrap_u8]
  have h := (a ||| b).toNat_lt
  show ((a ||| b).toNat : Int) % 256 = ((a ||| b).toNat : Int)
  omega
theorem w8_xor (a b : UInt8) : bits .xor .u8 (a.toNat : Int) (b.toNat : Int) = ((a ^^^ b).toNat : Int) := by
  have e : ∀ c : UInt8, BitVec.ofInt (IntKind.bits .u8) (c.toNat : Int) = c.toBitVec := fun c => by
    apply BitVec.eq_of_toNat_eq
    have := c.toNat_lt
    have hb : (BitVec.ofInt 8 (c.toNat : Int)).toNat = c.toNat := by
      simp only [BitVec.ofInt_natCast, BitVec.toNat_ofNat]
      omega
    exact hb
  unfold bits
  simp only [e]
  rw [IntKind.wrap_u8]
  have h := (a ^^^ b).toNat_lt
  show ((a ^^^ b).toNat : Int) % 256 = ((a ^^^ b).toNat : Int)
  omega
theorem w8_not (a : UInt8) : bits .xor .u8 (if IntKind.signed .u8 then -1 else IntKind.max .u8) (a.toNat : Int) = ((~~~a).toNat : Int) := by
  have h : (if IntKind.signed .u8 then -1 else IntKind.max .u8) = (((255 : UInt8).toNat : Nat) : Int) := rfl
  rw [h, w8_xor]
  congr 2
theorem w8_shl (a : UInt8) {j : Int} {n : Nat} (hj : j = (n : Int)) (hn : n < 8) : IntKind.u8.wrap ((a.toNat : Int) * 2 ^ (min j.toNat (IntKind.bits .u8))) = ((a <<< UInt8.ofNat n).toNat : Int) := by
  subst hj
  have hb : IntKind.bits .u8 = 8 := rfl
  have h1 : min (n : Int).toNat 8 = n := by omega
  have h2 : (UInt8.ofNat n).toNat % 8 = n := by rw [UInt8.toNat_ofNat']; omega
  rw [hb, h1, IntKind.wrap_u8, UInt8.toNat_shiftLeft, h2, Nat.shiftLeft_eq, Int.natCast_emod, Int.natCast_mul, Int.natCast_pow]
  rfl
theorem w8_shr (a : UInt8) {j : Int} {n : Nat} (hj : j = (n : Int)) (hn : n < 8) : (a.toNat : Int).fdiv (2 ^ (min j.toNat (IntKind.bits .u8))) = ((a >>> UInt8.ofNat n).toNat : Int) := by
  subst hj
  have hb : IntKind.bits .u8 = 8 := rfl
  have h1 : min (n : Int).toNat 8 = n := by omega
  have h2 : (UInt8.ofNat n).toNat % 8 = n := by rw [UInt8.toNat_ofNat']; omega
  rw [hb, h1, UInt8.toNat_shiftRight, h2, Nat.shiftRight_eq_div_pow, Int.fdiv_eq_ediv_of_nonneg _ (Int.pow_nonneg (by decide)), Int.natCast_ediv, Int.natCast_pow]
  rfl
theorem w8_quo {a b : UInt8} : IntKind.u8.wrap ((a.toNat : Int).tdiv b.toNat) = ((a / b).toNat : Int) := by
  have h := (a / b).toNat_lt
  rw [IntKind.wrap_u8, Int.tdiv_eq_ediv_of_nonneg (Int.natCast_nonneg _)]
  rw [UInt8.toNat_div] at h ⊢
  rw [← Int.natCast_ediv]
  exact Int.emod_eq_of_lt (Int.natCast_nonneg _) (by omega)
theorem w8_rem {a b : UInt8} : (a.toNat : Int).tmod b.toNat = ((a % b).toNat : Int) := by rw [UInt8.toNat_mod]; rfl
theorem Ev.addW8 {a b : UInt8} (hx : ev env x = some (W8 a)) (hy : ev env y = some (W8 b)) : Ev P F env hs ⟨dst, .binOp .add t x y t', ty, pos, after, g⟩ (W8 (a + b)) := Ev.add hx hy (w8_add a b)
theorem Ev.subW8 {a b : UInt8} (hx : ev env x = some (W8 a)) (hy : ev env y = some (W8 b)) : Ev P F env hs ⟨dst, .binOp .sub t x y t', ty, pos, after, g⟩ (W8 (a - b)) := Ev.sub hx hy (w8_sub a b)
theorem Ev.mulW8 {a b : UInt8} (hx : ev env x = some (W8 a)) (hy : ev env y = some (W8 b)) : Ev P F env hs ⟨dst, .binOp .mul t x y t', ty, pos, after, g⟩ (W8 (a * b)) := Ev.mul hx hy (w8_mul a b)
theorem Ev.andW8 {a b : UInt8} (hx : ev env x = some (W8 a)) (hy : ev env y = some (W8 b)) : Ev P F env hs ⟨dst, .binOp .and t x y t', ty, pos, after, g⟩ (W8 (a &&& b)) := Ev.and hx hy (w8_and a b)
theorem Ev.orW8 {a b : UInt8} (hx : ev env x = some (W8 a)) (hy : ev env y = some (W8 b)) : Ev P F env hs ⟨dst, .binOp .or t x y t', ty, pos, after, g⟩ (W8 (a ||| b)) := Ev.or hx hy (w8_or a b)
theorem Ev.xorW8 {a b : UInt8} (hx : ev env x = some (W8 a)) (hy : ev env y = some (W8 b)) : Ev P F env hs ⟨dst, .binOp .xor t x y t', ty, pos, after, g⟩ (W8 (a ^^^ b)) := Ev.xor hx hy (w8_xor a b)
theorem Ev.notW8 {a : UInt8} (hx : ev env x = some (W8 a)) : Ev P F env hs ⟨dst, .unOp .xor t x, ty, pos, after, g⟩ (W8 (~~~a)) := Ev.not_ hx (w8_not a)
theorem Ev.shlW8 {a : UInt8} {kd' : IntKind} {j : Int} {n : Nat} (hx : ev env x = some (W8 a)) (hy : ev env y = some (.int kd' j)) (hj : j = (n : Int)) (hn : n < 8) : Ev P F env hs ⟨dst, .binOp .shl t x y t', ty, pos, after, g⟩ (W8 (a <<< UInt8.ofNat n)) := Ev.shl hx hy (by omega) (w8_shl a hj hn)
theorem Ev.shrW8 {a : UInt8} {kd' : IntKind} {j : Int} {n : Nat} (hx : ev env x = some (W8 a)) (hy : ev env y = some (.int kd' j)) (hj : j = (n : Int)) (hn : n < 8) : Ev P F env hs ⟨dst, .binOp .shr t x y t', ty, pos, after, g⟩ (W8 (a >>> UInt8.ofNat n)) := Ev.shr hx hy (by omega) (w8_shr a hj hn)
theorem Ev.quoW8 {a b : UInt8} (hx : ev env x = some (W8 a)) (hy : ev env y = some (W8 b)) (h0 : b ≠ 0) : Ev P F env hs ⟨dst, .binOp .quo t x y t', ty, pos, after, g⟩ (W8 (a / b)) := Ev.quo hx hy (fun h => h0 (UInt8.toNat_inj.1 (by simpa using h))) w8_quo
theorem Ev.remW8 {a b : UInt8} (hx : ev env x = some (W8 a)) (hy : ev env y = some (W8 b)) (h0 : b ≠ 0) : Ev P F env hs ⟨dst, .binOp .rem t x y t', ty, pos, after, g⟩ (W8 (a % b)) := Ev.rem hx hy (fun h => h0 (UInt8.toNat_inj.1 (by simpa using h))) w8_rem
theorem Ev.eqlW8 {a b : UInt8} (hx : ev env x = some (W8 a)) (hy : ev env y = some (W8 b)) : Ev P F env hs ⟨dst, .binOp .eql t x y t', ty, pos, after, g⟩ (.bool (decide (a = b))) := by
  have h := Ev.eql (P := P) (F := F) (hs := hs) (dst := dst) (ty := ty) (pos := pos) (after := after) (g := g) (t := t) (t' := t') hx hy
  rw [show decide ((a.toNat : Int) = b.toNat) = decide (a = b) from decide_eq_decide.2 (by rw [Int.natCast_inj, UInt8.toNat_inj])] at h
  exact h
theorem Ev.neqW8 {a b : UInt8} (hx : ev env x = some (W8 a)) (hy : ev env y = some (W8 b)) : Ev P F env hs ⟨dst, .binOp .neq t x y t', ty, pos, after, g⟩ (.bool (decide (a ≠ b))) := by
  have h := Ev.neq (P := P) (F := F) (hs := hs) (dst := dst) (ty := ty) (pos := pos) (after := after) (g := g) (t := t) (t' := t') hx hy
  rw [show decide ((a.toNat : Int) ≠ b.toNat) = decide (a ≠ b) from decide_eq_decide.2 (by rw [ne_eq, ne_eq, Int.natCast_inj, UInt8.toNat_inj] <;> rfl)] at h
  exact h
/-- A word of 32 bits. -/
abbrev W32 (a : UInt32) : Value := .int .u32 (a.toNat : Int)
theorem w32_add (a b : UInt32) : IntKind.u32.wrap ((a.toNat : Int) + b.toNat) = ((a + b).toNat : Int) := by
  rw [IntKind.wrap_u32, UInt32.toNat_add]; omega
theorem w32_sub (a b : UInt32) : IntKind.u32.wrap ((a.toNat : Int) - b.toNat) = ((a - b).toNat : Int) := by
  have ha := a.toNat_lt; have hb := b.toNat_lt
  rw [IntKind.wrap_u32, UInt32.toNat_sub]; omega
theorem w32_mul (a b : UInt32) : IntKind.u32.wrap ((a.toNat : Int) * b.toNat) = ((a * b).toNat : Int) := by
  rw [IntKind.wrap_u32, UInt32.toNat_mul, ← Int.natCast_mul]; omega
theorem w32_and (a b : UInt32) : bits .and .u32 (a.toNat : Int) (b.toNat : Int) = ((a &&& b).toNat : Int) := by
  have e : ∀ c : UInt32, BitVec.ofInt (IntKind.bits .u32) (c.toNat : Int) = c.toBitVec := fun c => by
    apply BitVec.eq_of_toNat_eq
    have := c.toNat_lt
    have hb : (BitVec.ofInt 32 (c.toNat : Int)).toNat = c.toNat := by
      simp only [BitVec.ofInt_natCast, BitVec.toNat_ofNat]
      omega
    exact hb
  unfold bits
  simp only [e]
  rw [IntKind.wrap_u32]
  have h := (a &&& b).toNat_lt
  show ((a &&& b).toNat : Int) % 4294967296 = ((a &&& b).toNat : Int)
  omega
theorem w32_or (a b : UInt32) : bits .or .u32 (a.toNat : Int) (b.toNat : Int) = ((a ||| b).toNat : Int) := by
  have e : ∀ c : UInt32, BitVec.ofInt (IntKind.bits .u32) (c.toNat : Int) = c.toBitVec := fun c => by
    apply BitVec.eq_of_toNat_eq
    have := c.toNat_lt
    have hb : (BitVec.ofInt 32 (c.toNat : Int)).toNat = c.toNat := by
      simp only [BitVec.ofInt_natCast, BitVec.toNat_ofNat]
      omega
    exact hb
  unfold bits
  simp only [e]
  rw [IntKind.wrap_u32]
  have h := (a ||| b).toNat_lt
  show ((a ||| b).toNat : Int) % 4294967296 = ((a ||| b).toNat : Int)
  omega
theorem w32_xor (a b : UInt32) : bits .xor .u32 (a.toNat : Int) (b.toNat : Int) = ((a ^^^ b).toNat : Int) := by
  have e : ∀ c : UInt32, BitVec.ofInt (IntKind.bits .u32) (c.toNat : Int) = c.toBitVec := fun c => by
    apply BitVec.eq_of_toNat_eq
    have := c.toNat_lt
    have hb : (BitVec.ofInt 32 (c.toNat : Int)).toNat = c.toNat := by
      simp only [BitVec.ofInt_natCast, BitVec.toNat_ofNat]
      omega
    exact hb
  unfold bits
  simp only [e]
  rw [IntKind.wrap_u32]
  have h := (a ^^^ b).toNat_lt
  show ((a ^^^ b).toNat : Int) % 4294967296 = ((a ^^^ b).toNat : Int)
  omega
theorem w32_not (a : UInt32) : bits .xor .u32 (if IntKind.signed .u32 then -1 else IntKind.max .u32) (a.toNat : Int) = ((~~~a).toNat : Int) := by
  have h : (if IntKind.signed .u32 then -1 else IntKind.max .u32) = (((4294967295 : UInt32).toNat : Nat) : Int) := rfl
  rw [h, w32_xor]
  congr 2
theorem w32_shl (a : UInt32) {j : Int} {n : Nat} (hj : j = (n : Int)) (hn : n < 32) : IntKind.u32.wrap ((a.toNat : Int) * 2 ^ (min j.toNat (IntKind.bits .u32))) = ((a <<< UInt32.ofNat n).toNat : Int) := by
  subst hj
  have hb : IntKind.bits .u32 = 32 := rfl
  have h1 : min (n : Int).toNat 32 = n := by omega
  have h2 : (UInt32.ofNat n).toNat % 32 = n := by rw [UInt32.toNat_ofNat']; omega
  rw [hb, h1, IntKind.wrap_u32, UInt32.toNat_shiftLeft, h2, Nat.shiftLeft_eq, Int.natCast_emod, Int.natCast_mul, Int.natCast_pow]
  rfl
theorem w32_shr (a : UInt32) {j : Int} {n : Nat} (hj : j = (n : Int)) (hn : n < 32) : (a.toNat : Int).fdiv (2 ^ (min j.toNat (IntKind.bits .u32))) = ((a >>> UInt32.ofNat n).toNat : Int) := by
  subst hj
  have hb : IntKind.bits .u32 = 32 := rfl
  have h1 : min (n : Int).toNat 32 = n := by omega
  have h2 : (UInt32.ofNat n).toNat % 32 = n := by rw [UInt32.toNat_ofNat']; omega
  rw [hb, h1, UInt32.toNat_shiftRight, h2, Nat.shiftRight_eq_div_pow, Int.fdiv_eq_ediv_of_nonneg _ (Int.pow_nonneg (by decide)), Int.natCast_ediv, Int.natCast_pow]
  rfl
theorem w32_quo {a b : UInt32} : IntKind.u32.wrap ((a.toNat : Int).tdiv b.toNat) = ((a / b).toNat : Int) := by
  have h := (a / b).toNat_lt
  rw [IntKind.wrap_u32, Int.tdiv_eq_ediv_of_nonneg (Int.natCast_nonneg _)]
  rw [UInt32.toNat_div] at h ⊢
  rw [← Int.natCast_ediv]
  exact Int.emod_eq_of_lt (Int.natCast_nonneg _) (by omega)
theorem w32_rem {a b : UInt32} : (a.toNat : Int).tmod b.toNat = ((a % b).toNat : Int) := by rw [UInt32.toNat_mod]; rfl
theorem Ev.addW32 {a b : UInt32} (hx : ev env x = some (W32 a)) (hy : ev env y = some (W32 b)) : Ev P F env hs ⟨dst, .binOp .add t x y t', ty, pos, after, g⟩ (W32 (a + b)) := Ev.add hx hy (w32_add a b)
theorem Ev.subW32 {a b : UInt32} (hx : ev env x = some (W32 a)) (hy : ev env y = some (W32 b)) : Ev P F env hs ⟨dst, .binOp .sub t x y t', ty, pos, after, g⟩ (W32 (a - b)) := Ev.sub hx hy (w32_sub a b)
theorem Ev.mulW32 {a b : UInt32} (hx : ev env x = some (W32 a)) (hy : ev env y = some (W32 b)) : Ev P F env hs ⟨dst, .binOp .mul t x y t', ty, pos, after, g⟩ (W32 (a * b)) := Ev.mul hx hy (w32_mul a b)
theorem Ev.andW32 {a b : UInt32} (hx : ev env x = some (W32 a)) (hy : ev env y = some (W32 b)) : Ev P F env hs ⟨dst, .binOp .and t x y t', ty, pos, after, g⟩ (W32 (a &&& b)) := Ev.and hx hy (w32_and a b)
theorem Ev.orW32 {a b : UInt32} (hx : ev env x = some (W32 a)) (hy : ev env y = some (W32 b)) : Ev P F env hs ⟨dst, .binOp .or t x y t', ty, pos, after, g⟩ (W32 (a ||| b)) := Ev.or hx hy (w32_or a b)
theorem Ev.xorW32 {a b : UInt32} (hx : ev env x = some (W32 a)) (hy : ev env y = some (W32 b)) : Ev P F env hs ⟨dst, .binOp .xor t x y t', ty, pos, after, g⟩ (W32 (a ^^^ b)) := Ev.xor hx hy (w32_xor a b)
theorem Ev.notW32 {a : UInt32} (hx : ev env x = some (W32 a)) : Ev P F env hs ⟨dst, .unOp .xor t x, ty, pos, after, g⟩ (W32 (~~~a)) := Ev.not_ hx (w32_not a)
theorem Ev.shlW32 {a : UInt32} {kd' : IntKind} {j : Int} {n : Nat} (hx : ev env x = some (W32 a)) (hy : ev env y = some (.int kd' j)) (hj : j = (n : Int)) (hn : n < 32) : Ev P F env hs ⟨dst, .binOp .shl t x y t', ty, pos, after, g⟩ (W32 (a <<< UInt32.ofNat n)) := Ev.shl hx hy (by omega) (w32_shl a hj hn)
theorem Ev.shrW32 {a : UInt32} {kd' : IntKind} {j : Int} {n : Nat} (hx : ev env x = some (W32 a)) (hy : ev env y = some (.int kd' j)) (hj : j = (n : Int)) (hn : n < 32) : Ev P F env hs ⟨dst, .binOp .shr t x y t', ty, pos, after, g⟩ (W32 (a >>> UInt32.ofNat n)) := Ev.shr hx hy (by omega) (w32_shr a hj hn)
theorem Ev.quoW32 {a b : UInt32} (hx : ev env x = some (W32 a)) (hy : ev env y = some (W32 b)) (h0 : b ≠ 0) : Ev P F env hs ⟨dst, .binOp .quo t x y t', ty, pos, after, g⟩ (W32 (a / b)) := Ev.quo hx hy (fun h => h0 (UInt32.toNat_inj.1 (by simpa using h))) w32_quo
theorem Ev.remW32 {a b : UInt32} (hx : ev env x = some (W32 a)) (hy : ev env y = some (W32 b)) (h0 : b ≠ 0) : Ev P F env hs ⟨dst, .binOp .rem t x y t', ty, pos, after, g⟩ (W32 (a % b)) := Ev.rem hx hy (fun h => h0 (UInt32.toNat_inj.1 (by simpa using h))) w32_rem
theorem Ev.eqlW32 {a b : UInt32} (hx : ev env x = some (W32 a)) (hy : ev env y = some (W32 b)) : Ev P F env hs ⟨dst, .binOp .eql t x y t', ty, pos, after, g⟩ (.bool (decide (a = b))) := by
  have h := Ev.eql (P := P) (F := F) (hs := hs) (dst := dst) (ty := ty) (pos := pos) (after := after) (g := g) (t := t) (t' := t') hx hy
  rw [show decide ((a.toNat : Int) = b.toNat) = decide (a = b) from decide_eq_decide.2 (by rw [Int.natCast_inj, UInt32.toNat_inj])] at h
  exact h
theorem Ev.neqW32 {a b : UInt32} (hx : ev env x = some (W32 a)) (hy : ev env y = some (W32 b)) : Ev P F env hs ⟨dst, .binOp .neq t x y t', ty, pos, after, g⟩ (.bool (decide (a ≠ b))) := by
  have h := Ev.neq (P := P) (F := F) (hs := hs) (dst := dst) (ty := ty) (pos := pos) (after := after) (g := g) (t := t) (t' := t') hx hy
  rw [show decide ((a.toNat : Int) ≠ b.toNat) = decide (a ≠ b) from decide_eq_decide.2 (by rw [ne_eq, ne_eq, Int.natCast_inj, UInt32.toNat_inj] <;> rfl)] at h
  exact h
/-- A word of 64 bits. -/
abbrev W64 (a : UInt64) : Value := .int .u64 (a.toNat : Int)
theorem w64_add (a b : UInt64) : IntKind.u64.wrap ((a.toNat : Int) + b.toNat) = ((a + b).toNat : Int) := by
  rw [IntKind.wrap_u64, UInt64.toNat_add]; omega
theorem w64_sub (a b : UInt64) : IntKind.u64.wrap ((a.toNat : Int) - b.toNat) = ((a - b).toNat : Int) := by
  have ha := a.toNat_lt; have hb := b.toNat_lt
  rw [IntKind.wrap_u64, UInt64.toNat_sub]; omega
theorem w64_mul (a b : UInt64) : IntKind.u64.wrap ((a.toNat : Int) * b.toNat) = ((a * b).toNat : Int) := by
  rw [IntKind.wrap_u64, UInt64.toNat_mul, ← Int.natCast_mul]; omega
theorem w64_and (a b : UInt64) : bits .and .u64 (a.toNat : Int) (b.toNat : Int) = ((a &&& b).toNat : Int) := by
  have e : ∀ c : UInt64, BitVec.ofInt (IntKind.bits .u64) (c.toNat : Int) = c.toBitVec := fun c => by
    apply BitVec.eq_of_toNat_eq
    have := c.toNat_lt
    have hb : (BitVec.ofInt 64 (c.toNat : Int)).toNat = c.toNat := by
      simp only [BitVec.ofInt_natCast, BitVec.toNat_ofNat]
      omega
    exact hb
  unfold bits
  simp only [e]
  rw [IntKind.wrap_u64]
  have h := (a &&& b).toNat_lt
  show ((a &&& b).toNat : Int) % 18446744073709551616 = ((a &&& b).toNat : Int)
  omega
theorem w64_or (a b : UInt64) : bits .or .u64 (a.toNat : Int) (b.toNat : Int) = ((a ||| b).toNat : Int) := by
  have e : ∀ c : UInt64, BitVec.ofInt (IntKind.bits .u64) (c.toNat : Int) = c.toBitVec := fun c => by
    apply BitVec.eq_of_toNat_eq
    have := c.toNat_lt
    have hb : (BitVec.ofInt 64 (c.toNat : Int)).toNat = c.toNat := by
      simp only [BitVec.ofInt_natCast, BitVec.toNat_ofNat]
      omega
    exact hb
  unfold bits
  simp only [e]
  rw [IntKind.wrap_u64]
  have h := (a ||| b).toNat_lt
  show ((a ||| b).toNat : Int) % 18446744073709551616 = ((a ||| b).toNat : Int)
  omega
theorem w64_xor (a b : UInt64) : bits .xor .u64 (a.toNat : Int) (b.toNat : Int) = ((a ^^^ b).toNat : Int) := by
  have e : ∀ c : UInt64, BitVec.ofInt (IntKind.bits .u64) (c.toNat : Int) = c.toBitVec := fun c => by
    apply BitVec.eq_of_toNat_eq
    have := c.toNat_lt
    have hb : (BitVec.ofInt 64 (c.toNat : Int)).toNat = c.toNat := by
      simp only [BitVec.ofInt_natCast, BitVec.toNat_ofNat]
      omega
    exact hb
  unfold bits
  simp only [e]
  rw [IntKind.wrap_u64]
  have h := (a ^^^ b).toNat_lt
  show ((a ^^^ b).toNat : Int) % 18446744073709551616 = ((a ^^^ b).toNat : Int)
  omega
theorem w64_not (a : UInt64) : bits .xor .u64 (if IntKind.signed .u64 then -1 else IntKind.max .u64) (a.toNat : Int) = ((~~~a).toNat : Int) := by
  have h : (if IntKind.signed .u64 then -1 else IntKind.max .u64) = (((18446744073709551615 : UInt64).toNat : Nat) : Int) := rfl
  rw [h, w64_xor]
  congr 2
theorem w64_shl (a : UInt64) {j : Int} {n : Nat} (hj : j = (n : Int)) (hn : n < 64) : IntKind.u64.wrap ((a.toNat : Int) * 2 ^ (min j.toNat (IntKind.bits .u64))) = ((a <<< UInt64.ofNat n).toNat : Int) := by
  subst hj
  have hb : IntKind.bits .u64 = 64 := rfl
  have h1 : min (n : Int).toNat 64 = n := by omega
  have h2 : (UInt64.ofNat n).toNat % 64 = n := by rw [UInt64.toNat_ofNat']; omega
  rw [hb, h1, IntKind.wrap_u64, UInt64.toNat_shiftLeft, h2, Nat.shiftLeft_eq, Int.natCast_emod, Int.natCast_mul, Int.natCast_pow]
  rfl
theorem w64_shr (a : UInt64) {j : Int} {n : Nat} (hj : j = (n : Int)) (hn : n < 64) : (a.toNat : Int).fdiv (2 ^ (min j.toNat (IntKind.bits .u64))) = ((a >>> UInt64.ofNat n).toNat : Int) := by
  subst hj
  have hb : IntKind.bits .u64 = 64 := rfl
  have h1 : min (n : Int).toNat 64 = n := by omega
  have h2 : (UInt64.ofNat n).toNat % 64 = n := by rw [UInt64.toNat_ofNat']; omega
  rw [hb, h1, UInt64.toNat_shiftRight, h2, Nat.shiftRight_eq_div_pow, Int.fdiv_eq_ediv_of_nonneg _ (Int.pow_nonneg (by decide)), Int.natCast_ediv, Int.natCast_pow]
  rfl
theorem w64_quo {a b : UInt64} : IntKind.u64.wrap ((a.toNat : Int).tdiv b.toNat) = ((a / b).toNat : Int) := by
  have h := (a / b).toNat_lt
  rw [IntKind.wrap_u64, Int.tdiv_eq_ediv_of_nonneg (Int.natCast_nonneg _)]
  rw [UInt64.toNat_div] at h ⊢
  rw [← Int.natCast_ediv]
  exact Int.emod_eq_of_lt (Int.natCast_nonneg _) (by omega)
theorem w64_rem {a b : UInt64} : (a.toNat : Int).tmod b.toNat = ((a % b).toNat : Int) := by rw [UInt64.toNat_mod]; rfl
theorem Ev.addW64 {a b : UInt64} (hx : ev env x = some (W64 a)) (hy : ev env y = some (W64 b)) : Ev P F env hs ⟨dst, .binOp .add t x y t', ty, pos, after, g⟩ (W64 (a + b)) := Ev.add hx hy (w64_add a b)
theorem Ev.subW64 {a b : UInt64} (hx : ev env x = some (W64 a)) (hy : ev env y = some (W64 b)) : Ev P F env hs ⟨dst, .binOp .sub t x y t', ty, pos, after, g⟩ (W64 (a - b)) := Ev.sub hx hy (w64_sub a b)
theorem Ev.mulW64 {a b : UInt64} (hx : ev env x = some (W64 a)) (hy : ev env y = some (W64 b)) : Ev P F env hs ⟨dst, .binOp .mul t x y t', ty, pos, after, g⟩ (W64 (a * b)) := Ev.mul hx hy (w64_mul a b)
theorem Ev.andW64 {a b : UInt64} (hx : ev env x = some (W64 a)) (hy : ev env y = some (W64 b)) : Ev P F env hs ⟨dst, .binOp .and t x y t', ty, pos, after, g⟩ (W64 (a &&& b)) := Ev.and hx hy (w64_and a b)
theorem Ev.orW64 {a b : UInt64} (hx : ev env x = some (W64 a)) (hy : ev env y = some (W64 b)) : Ev P F env hs ⟨dst, .binOp .or t x y t', ty, pos, after, g⟩ (W64 (a ||| b)) := Ev.or hx hy (w64_or a b)
theorem Ev.xorW64 {a b : UInt64} (hx : ev env x = some (W64 a)) (hy : ev env y = some (W64 b)) : Ev P F env hs ⟨dst, .binOp .xor t x y t', ty, pos, after, g⟩ (W64 (a ^^^ b)) := Ev.xor hx hy (w64_xor a b)
theorem Ev.notW64 {a : UInt64} (hx : ev env x = some (W64 a)) : Ev P F env hs ⟨dst, .unOp .xor t x, ty, pos, after, g⟩ (W64 (~~~a)) := Ev.not_ hx (w64_not a)
theorem Ev.shlW64 {a : UInt64} {kd' : IntKind} {j : Int} {n : Nat} (hx : ev env x = some (W64 a)) (hy : ev env y = some (.int kd' j)) (hj : j = (n : Int)) (hn : n < 64) : Ev P F env hs ⟨dst, .binOp .shl t x y t', ty, pos, after, g⟩ (W64 (a <<< UInt64.ofNat n)) := Ev.shl hx hy (by omega) (w64_shl a hj hn)
theorem Ev.shrW64 {a : UInt64} {kd' : IntKind} {j : Int} {n : Nat} (hx : ev env x = some (W64 a)) (hy : ev env y = some (.int kd' j)) (hj : j = (n : Int)) (hn : n < 64) : Ev P F env hs ⟨dst, .binOp .shr t x y t', ty, pos, after, g⟩ (W64 (a >>> UInt64.ofNat n)) := Ev.shr hx hy (by omega) (w64_shr a hj hn)
theorem Ev.quoW64 {a b : UInt64} (hx : ev env x = some (W64 a)) (hy : ev env y = some (W64 b)) (h0 : b ≠ 0) : Ev P F env hs ⟨dst, .binOp .quo t x y t', ty, pos, after, g⟩ (W64 (a / b)) := Ev.quo hx hy (fun h => h0 (UInt64.toNat_inj.1 (by simpa using h))) w64_quo
theorem Ev.remW64 {a b : UInt64} (hx : ev env x = some (W64 a)) (hy : ev env y = some (W64 b)) (h0 : b ≠ 0) : Ev P F env hs ⟨dst, .binOp .rem t x y t', ty, pos, after, g⟩ (W64 (a % b)) := Ev.rem hx hy (fun h => h0 (UInt64.toNat_inj.1 (by simpa using h))) w64_rem
theorem Ev.eqlW64 {a b : UInt64} (hx : ev env x = some (W64 a)) (hy : ev env y = some (W64 b)) : Ev P F env hs ⟨dst, .binOp .eql t x y t', ty, pos, after, g⟩ (.bool (decide (a = b))) := by
  have h := Ev.eql (P := P) (F := F) (hs := hs) (dst := dst) (ty := ty) (pos := pos) (after := after) (g := g) (t := t) (t' := t') hx hy
  rw [show decide ((a.toNat : Int) = b.toNat) = decide (a = b) from decide_eq_decide.2 (by rw [Int.natCast_inj, UInt64.toNat_inj])] at h
  exact h
theorem Ev.neqW64 {a b : UInt64} (hx : ev env x = some (W64 a)) (hy : ev env y = some (W64 b)) : Ev P F env hs ⟨dst, .binOp .neq t x y t', ty, pos, after, g⟩ (.bool (decide (a ≠ b))) := by
  have h := Ev.neq (P := P) (F := F) (hs := hs) (dst := dst) (ty := ty) (pos := pos) (after := after) (g := g) (t := t) (t' := t') hx hy
  rw [show decide ((a.toNat : Int) ≠ b.toNat) = decide (a ≠ b) from decide_eq_decide.2 (by rw [ne_eq, ne_eq, Int.natCast_inj, UInt64.toNat_inj] <;> rfl)] at h
  exact h
theorem Ev.convW8_32 {a : UInt8} (hx : ev env x = some (W8 a)) (hs' : P.underlying t = some (.int .u8)) (hd : P.underlying t' = some (.int .u32)) : Ev P F env hs ⟨dst, .convert t t' x, ty, pos, after, g⟩ (W32 a.toUInt32) :=
  Ev.conv hx (run_underlying hs') (run_underlying hd) (by rw [IntKind.wrap_u32, UInt8.toNat_toUInt32]; have := a.toNat_lt; omega)
theorem Ev.convW8_64 {a : UInt8} (hx : ev env x = some (W8 a)) (hs' : P.underlying t = some (.int .u8)) (hd : P.underlying t' = some (.int .u64)) : Ev P F env hs ⟨dst, .convert t t' x, ty, pos, after, g⟩ (W64 a.toUInt64) :=
  Ev.conv hx (run_underlying hs') (run_underlying hd) (by rw [IntKind.wrap_u64, UInt8.toNat_toUInt64]; have := a.toNat_lt; omega)
theorem Ev.convI_8 {kd : IntKind} {i : Int} {a : Nat} (hx : ev env x = some (.int kd i)) (hi : i = (a : Int)) (hs' : P.underlying t = some (.int kd)) (hd : P.underlying t' = some (.int .u8)) : Ev P F env hs ⟨dst, .convert t t' x, ty, pos, after, g⟩ (W8 (UInt8.ofNat a)) :=
  Ev.conv hx (run_underlying hs') (run_underlying hd) (by subst hi; rw [IntKind.wrap_u8, UInt8.toNat_ofNat']; omega)
theorem Ev.convW32_8 {a : UInt32} (hx : ev env x = some (W32 a)) (hs' : P.underlying t = some (.int .u32)) (hd : P.underlying t' = some (.int .u8)) : Ev P F env hs ⟨dst, .convert t t' x, ty, pos, after, g⟩ (W8 a.toUInt8) :=
  Ev.conv hx (run_underlying hs') (run_underlying hd) (by rw [IntKind.wrap_u8, UInt32.toNat_toUInt8]; have := a.toNat_lt; omega)
theorem Ev.convW32_64 {a : UInt32} (hx : ev env x = some (W32 a)) (hs' : P.underlying t = some (.int .u32)) (hd : P.underlying t' = some (.int .u64)) : Ev P F env hs ⟨dst, .convert t t' x, ty, pos, after, g⟩ (W64 a.toUInt64) :=
  Ev.conv hx (run_underlying hs') (run_underlying hd) (by rw [IntKind.wrap_u64, UInt32.toNat_toUInt64]; have := a.toNat_lt; omega)
theorem Ev.convI_32 {kd : IntKind} {i : Int} {a : Nat} (hx : ev env x = some (.int kd i)) (hi : i = (a : Int)) (hs' : P.underlying t = some (.int kd)) (hd : P.underlying t' = some (.int .u32)) : Ev P F env hs ⟨dst, .convert t t' x, ty, pos, after, g⟩ (W32 (UInt32.ofNat a)) :=
  Ev.conv hx (run_underlying hs') (run_underlying hd) (by subst hi; rw [IntKind.wrap_u32, UInt32.toNat_ofNat']; omega)
theorem Ev.convW64_8 {a : UInt64} (hx : ev env x = some (W64 a)) (hs' : P.underlying t = some (.int .u64)) (hd : P.underlying t' = some (.int .u8)) : Ev P F env hs ⟨dst, .convert t t' x, ty, pos, after, g⟩ (W8 a.toUInt8) :=
  Ev.conv hx (run_underlying hs') (run_underlying hd) (by rw [IntKind.wrap_u8, UInt64.toNat_toUInt8]; have := a.toNat_lt; omega)
theorem Ev.convW64_32 {a : UInt64} (hx : ev env x = some (W64 a)) (hs' : P.underlying t = some (.int .u64)) (hd : P.underlying t' = some (.int .u32)) : Ev P F env hs ⟨dst, .convert t t' x, ty, pos, after, g⟩ (W32 a.toUInt32) :=
  Ev.conv hx (run_underlying hs') (run_underlying hd) (by rw [IntKind.wrap_u32, UInt64.toNat_toUInt32]; have := a.toNat_lt; omega)
theorem Ev.convI_64 {kd : IntKind} {i : Int} {a : Nat} (hx : ev env x = some (.int kd i)) (hi : i = (a : Int)) (hs' : P.underlying t = some (.int kd)) (hd : P.underlying t' = some (.int .u64)) : Ev P F env hs ⟨dst, .convert t t' x, ty, pos, after, g⟩ (W64 (UInt64.ofNat a)) :=
  Ev.conv hx (run_underlying hs') (run_underlying hd) (by subst hi; rw [IntKind.wrap_u64, UInt64.toNat_ofNat']; omega)
theorem Ev.neg {kd : IntKind} {i r : Int} (hx : ev env x = some (.int kd i)) (h : kd.wrap (-i) = r) : Ev P F env hs ⟨dst, .unOp .neg t x, ty, pos, after, g⟩ (.int kd r) :=
  fun n a w ha _ => by simp [execOp, ha.ev hx, Op.unary, Op.intArith, h]

def w8s (l : List UInt8) : List Value := l.map W8
theorem w8s_len (l : List UInt8) : (w8s l).length = l.length := by simp [w8s]
theorem w8s_one (l : List UInt8) : One (w8s l) := One.map fun _ => rfl
theorem w8s_get {l : List UInt8} {j : Nat} (h : j < l.length) : (w8s l)[j]? = some (W8 (l.getD j 0)) := by simp [w8s, List.getD, h]
theorem w8s_get' {l : List UInt8} {j : Nat} {a : UInt8} (h : l[j]? = some a) : (w8s l)[j]? = some (W8 a) := by simp [w8s, h]
theorem w8s_set (l : List UInt8) (k : Nat) (c : UInt8) : (w8s l).set k (W8 c) = w8s (l.set k c) := by simp [w8s, List.map_set]
theorem w8s_app (a b : List UInt8) : w8s (a ++ b) = w8s a ++ w8s b := by simp [w8s]
theorem w8s_take (a : List UInt8) (k : Nat) : (w8s a).take k = w8s (a.take k) := by simp [w8s, List.map_take]
theorem w8s_drop (a : List UInt8) (k : Nat) : (w8s a).drop k = w8s (a.drop k) := by simp [w8s, List.map_drop]
def w32s (l : List UInt32) : List Value := l.map W32
theorem w32s_len (l : List UInt32) : (w32s l).length = l.length := by simp [w32s]
theorem w32s_one (l : List UInt32) : One (w32s l) := One.map fun _ => rfl
theorem w32s_get {l : List UInt32} {j : Nat} (h : j < l.length) : (w32s l)[j]? = some (W32 (l.getD j 0)) := by simp [w32s, List.getD, h]
theorem w32s_get' {l : List UInt32} {j : Nat} {a : UInt32} (h : l[j]? = some a) : (w32s l)[j]? = some (W32 a) := by simp [w32s, h]
theorem w32s_set (l : List UInt32) (k : Nat) (c : UInt32) : (w32s l).set k (W32 c) = w32s (l.set k c) := by simp [w32s, List.map_set]
theorem w32s_app (a b : List UInt32) : w32s (a ++ b) = w32s a ++ w32s b := by simp [w32s]
theorem w32s_take (a : List UInt32) (k : Nat) : (w32s a).take k = w32s (a.take k) := by simp [w32s, List.map_take]
theorem w32s_drop (a : List UInt32) (k : Nat) : (w32s a).drop k = w32s (a.drop k) := by simp [w32s, List.map_drop]
def w64s (l : List UInt64) : List Value := l.map W64
theorem w64s_len (l : List UInt64) : (w64s l).length = l.length := by simp [w64s]
theorem w64s_one (l : List UInt64) : One (w64s l) := One.map fun _ => rfl
theorem w64s_get {l : List UInt64} {j : Nat} (h : j < l.length) : (w64s l)[j]? = some (W64 (l.getD j 0)) := by simp [w64s, List.getD, h]
theorem w64s_get' {l : List UInt64} {j : Nat} {a : UInt64} (h : l[j]? = some a) : (w64s l)[j]? = some (W64 a) := by simp [w64s, h]
theorem w64s_set (l : List UInt64) (k : Nat) (c : UInt64) : (w64s l).set k (W64 c) = w64s (l.set k c) := by simp [w64s, List.map_set]
theorem w64s_app (a b : List UInt64) : w64s (a ++ b) = w64s a ++ w64s b := by simp [w64s]
theorem w64s_take (a : List UInt64) (k : Nat) : (w64s a).take k = w64s (a.take k) := by simp [w64s, List.map_take]
theorem w64s_drop (a : List UInt64) (k : Nat) : (w64s a).drop k = w64s (a.drop k) := by simp [w64s, List.map_drop]
end
end Go.Proofs.Ytjlimnckdblkhaa
