/- What is taken off bytes: bytes, numbers; the program and the reference. No condition. -/
import Derived.Test.YtacgngfjanlfnaaPO
import Derived.Test.YtacgngfjanlfnaaLK
namespace Go.Proofs.Ytacgngfjanlfnaa
open Go

def takeM (am : Bool) (n : Nat) (bs : List UInt8) : List UInt8 × List UInt8 × Bool := if am = true ∨ bs.length < n then ([], bs, true) else (bs.take n, bs.drop n, false)
theorem takeM_no {am : Bool} {n : Nat} {bs : List UInt8} (h : am = true ∨ bs.length < n) : takeM am n bs = ([], bs, true) := by rw [takeM, if_pos h]
theorem takeM_ok {n : Nat} {bs : List UInt8} (h : ¬ bs.length < n) : takeM false n bs = (bs.take n, bs.drop n, false) := by rw [takeM, if_neg (by simp; omega)]

theorem take_any {F : Fr} {rb : Nat} {bv : Value} {am : Bool} {bs : List UInt8} {n : Nat} {H : Hp} (hH : Hp.le H F.hf) (hb : SlR H bv 1 bs.length (u8s bs)) :
    Spec Try.prog F 44 [.pointer (some ⟨rb, 0, none⟩), .int .i64 (n : Int)] [pt rb 57 [bv, .bool am]]
      (fun u hs' => ∃ bv', SlR H u 1 (takeM am n bs).1.length (u8s (takeM am n bs).1) ∧ SlR H bv' 1 (takeM am n bs).2.1.length (u8s (takeM am n bs).2.1) ∧ hs' = [pt rb 57 [bv', .bool (takeM am n bs).2.2]]) := by
  have hbs := hb.sl
  have hbF := hb.mono hH
  refine Spec.body Try.func44 rfl Try.ntmps44 rfl ?_
  refine Cod.seq ?_
  refine Cod.region ?_
  refine Ops.st (.assign rfl) rfl rfl rfl ?_
  refine Ops.nil ?_
  refine Ext.seq ?_
  refine Cod.seq ?_
  refine Cod.seq ?_
  refine Cod.region ?_
  refine Ops.st (.move rfl) rfl rfl rfl ?_
  refine Ops.st (.move rfl) rfl rfl rfl ?_
  refine Ops.st (.nilCheck rfl) rfl rfl rfl ?_
  refine Ops.st (.fieldAddr rfl fa57_1) rfl rfl rfl ?_
  refine Ops.st (.loadP rfl (by repeat first | exact TakeP.here _ | apply TakeP.there) Try.isAgg4 rfl) rfl rfl rfl ?_
  refine Ops.st (.move rfl) rfl rfl rfl ?_
  refine Ops.splitB (t := 11) rfl (fun h1 => ?_) (fun h1 => ?_)
  ·
    refine Ops.skipG rfl rfl rfl h1 rfl rfl ?_
    refine Ops.skipG rfl rfl rfl h1 rfl rfl ?_
    refine Ops.skipG rfl rfl rfl h1 rfl rfl ?_
    refine Ops.skipG rfl rfl rfl h1 rfl rfl ?_
    refine Ops.skipG rfl rfl rfl h1 rfl rfl ?_
    refine Ops.skipG rfl rfl rfl h1 rfl rfl ?_
    refine Ops.skipG rfl rfl rfl h1 rfl rfl ?_
    refine Ops.st (.pickT rfl h1 rfl) rfl rfl rfl ?_
    refine Ops.st (.nilCheck rfl) rfl rfl rfl ?_
    refine Ops.st (.fieldAddr rfl fa57_1) rfl rfl rfl ?_
    refine Ops.ef10 (.store (cs' := [bv, _]) rfl rfl (by repeat first | exact TakeP.here _ | apply TakeP.there) Try.sizeOf4 rfl rfl rfl) rfl rfl ?_
    refine Ops.nil ?_
    refine Ext.seq ?_
    refine Cod.seq ?_
    refine Cod.region ?_
    refine Ops.st (.move rfl) rfl rfl rfl ?_
    refine Ops.st (.nilCheck rfl) rfl rfl rfl ?_
    refine Ops.st (.fieldAddr rfl fa57_1) rfl rfl rfl ?_
    refine Ops.st (.loadP rfl (by repeat first | exact TakeP.here _ | apply TakeP.there) Try.isAgg4 rfl) rfl rfl rfl ?_
    refine Ops.nil ?_
    refine Ext.seq ?_
    refine Cod.condT rfl rfl ?_
    refine Cod.seq ?_
    refine Cod.region ?_
    rw [takeM_no (.inl h1)]
    refine Ops.st (.assign rfl) rfl rfl rfl ?_
    refine Ops.nil ?_
    refine Ext.seq ?_
    exact Cod.ret (Ext.seqR (Ext.ret rfl rfl ⟨bv, SlR.nil _ _, hb, rfl⟩))
  ·
    refine Ops.stG rfl rfl rfl h1 (.move rfl) rfl rfl ?_
    refine Ops.stG rfl rfl rfl h1 (.move rfl) rfl rfl ?_
    refine Ops.stG rfl rfl rfl h1 (.nilCheck rfl) rfl rfl ?_
    refine Ops.stG rfl rfl rfl h1 (.fieldAddr rfl fa57_0) rfl rfl ?_
    refine Ops.stG rfl rfl rfl h1 (.loadP rfl (by repeat first | exact TakeP.here _ | apply TakeP.there) Try.isAgg26 rfl) rfl rfl ?_
    refine Ops.stG rfl rfl rfl h1 (.len rfl (Rd.ro hbF) Try.runUnderlying26) rfl rfl ?_
    refine Ops.stG rfl rfl rfl h1 (.gtr rfl rfl) rfl rfl ?_
    refine Ops.st (.pickF rfl h1 rfl) rfl rfl rfl ?_
    refine Ops.st (.nilCheck rfl) rfl rfl rfl ?_
    refine Ops.st (.fieldAddr rfl fa57_1) rfl rfl rfl ?_
    refine Ops.ef10 (.store (cs' := [bv, _]) rfl rfl (by repeat first | exact TakeP.here _ | apply TakeP.there) Try.sizeOf4 rfl rfl rfl) rfl rfl ?_
    refine Ops.nil ?_
    refine Ext.seq ?_
    refine Cod.seq ?_
    refine Cod.region ?_
    refine Ops.st (.move rfl) rfl rfl rfl ?_
    refine Ops.st (.nilCheck rfl) rfl rfl rfl ?_
    refine Ops.st (.fieldAddr rfl fa57_1) rfl rfl rfl ?_
    refine Ops.st (.loadP rfl (by repeat first | exact TakeP.here _ | apply TakeP.there) Try.isAgg4 rfl) rfl rfl rfl ?_
    refine Ops.nil ?_
    refine Ext.seq ?_
    refine Cod.condD rfl (fun h2 => ?_) (fun h2 => ?_)
    ·
      refine Cod.seq ?_
      refine Cod.region ?_
      rw [takeM_no (.inr (by omega))]
      refine Ops.st (.assign rfl) rfl rfl rfl ?_
      refine Ops.nil ?_
      refine Ext.seq ?_
      exact Cod.ret (Ext.seqR (Ext.retE rfl rfl (Ent.take (ps := [pt rb 57 [bv, .bool true]]) (by rw [show decide ((n : Int) > (bs.length : Int)) = true from decide_eq_true h2]; exact (by repeat' first | exact Takes.nil _ | exact TakeP.here _ | apply TakeP.there | apply Takes.cons))) (⟨bv, SlR.nil _ _, hb, rfl⟩)))
    ·
      refine Cod.skip ?_
      refine Ext.seq ?_
      refine Cod.seq ?_
      refine Cod.region ?_
      subst h1
      rw [takeM_ok (by omega)]
      refine Ops.st (.move rfl) rfl rfl rfl ?_
      refine Ops.st (.nilCheck rfl) rfl rfl rfl ?_
      refine Ops.st (.fieldAddr rfl fa57_0) rfl rfl rfl ?_
      refine Ops.st (.loadP rfl (by repeat first | exact TakeP.here _ | apply TakeP.there) Try.isAgg26 rfl) rfl rfl rfl ?_
      refine Ops.st (.move rfl) rfl rfl rfl ?_
      refine Ops.st (.slice_h (hi := n) rfl rfl (Rd.ro hbF) Try.runUnderlying26 Try.sizeOf5 rfl (by omega)) rfl rfl rfl ?_
      refine Ops.st (.assign rfl) rfl rfl rfl ?_
      refine Ops.nil ?_
      refine Ext.seq ?_
      refine Cod.seq ?_
      refine Cod.region ?_
      refine Ops.st (.move rfl) rfl rfl rfl ?_
      refine Ops.st (.move rfl) rfl rfl rfl ?_
      refine Ops.st (.nilCheck rfl) rfl rfl rfl ?_
      refine Ops.st (.fieldAddr rfl fa57_0) rfl rfl rfl ?_
      refine Ops.st (.loadP rfl (by repeat first | exact TakeP.here _ | apply TakeP.there) Try.isAgg26 rfl) rfl rfl rfl ?_
      refine Ops.st (.move rfl) rfl rfl rfl ?_
      refine Ops.st (.slice_l (lo := n) rfl rfl (Rd.ro hbF) Try.runUnderlying26 Try.sizeOf5 rfl (by omega)) rfl rfl rfl ?_
      refine Ops.st (.nilCheck rfl) rfl rfl rfl ?_
      refine Ops.st (.fieldAddr rfl fa57_0) rfl rfl rfl ?_
      refine Ops.ef10 (.store (cs' := [Value.cut bv n bs.length 1, _]) rfl rfl (by repeat first | exact TakeP.here _ | apply TakeP.there) Try.sizeOf26 rfl (hbs.cut).one rfl) rfl rfl ?_
      refine Ops.nil ?_
      refine Ext.seq ?_
      refine Cod.seq ?_
      refine Cod.region ?_
      refine Ops.st (.move rfl) rfl rfl rfl ?_
      refine Ops.st (.assign rfl) rfl rfl rfl ?_
      refine Ops.nil ?_
      refine Ext.seq ?_
      exact Cod.ret (Ext.retE rfl rfl (Ent.take (ps := [pt rb 57 [Value.cut bv n bs.length 1, .bool false]]) (by rw [show decide ((n : Int) > (bs.length : Int)) = false from decide_eq_false h2]; exact (by repeat' first | exact Takes.nil _ | exact TakeP.here _ | apply TakeP.there | apply Takes.cons))) (⟨_, hb.cut8 (Nat.zero_le _) (by omega) (by simp), hb.cut8 (by omega) (Nat.le_refl _) take_all8, rfl⟩))
theorem refTake_any {F : Fr} {rb : Nat} {bv : Value} {am : Bool} {bs : List UInt8} {n : Nat} {H : Hp} (hH : Hp.le H F.hf) (hb : SlR H bv 1 bs.length (u8s bs)) :
    Spec Try.prog F 39 [.pointer (some ⟨rb, 0, none⟩), .int .i64 (n : Int)] [pt rb 60 [bv, .bool am]]
      (fun u hs' => ∃ bv', SlR H u 1 (takeM am n bs).1.length (u8s (takeM am n bs).1) ∧ SlR H bv' 1 (takeM am n bs).2.1.length (u8s (takeM am n bs).2.1) ∧ hs' = [pt rb 60 [bv', .bool (takeM am n bs).2.2]]) := by
  have hbs := hb.sl
  have hbF := hb.mono hH
  refine Spec.body Try.func39 rfl Try.ntmps39 rfl ?_
  refine Cod.seq ?_
  refine Cod.region ?_
  refine Ops.st (.assign rfl) rfl rfl rfl ?_
  refine Ops.nil ?_
  refine Ext.seq ?_
  refine Cod.seq ?_
  refine Cod.seq ?_
  refine Cod.region ?_
  refine Ops.st (.move rfl) rfl rfl rfl ?_
  refine Ops.st (.nilCheck rfl) rfl rfl rfl ?_
  refine Ops.st (.fieldAddr rfl fa60_1) rfl rfl rfl ?_
  refine Ops.st (.loadP rfl (by repeat first | exact TakeP.here _ | apply TakeP.there) Try.isAgg4 rfl) rfl rfl rfl ?_
  refine Ops.st (.move rfl) rfl rfl rfl ?_
  refine Ops.splitB (t := 10) rfl (fun h1 => ?_) (fun h1 => ?_)
  ·
    refine Ops.skipG rfl rfl rfl h1 rfl rfl ?_
    refine Ops.skipG rfl rfl rfl h1 rfl rfl ?_
    refine Ops.skipG rfl rfl rfl h1 rfl rfl ?_
    refine Ops.skipG rfl rfl rfl h1 rfl rfl ?_
    refine Ops.skipG rfl rfl rfl h1 rfl rfl ?_
    refine Ops.skipG rfl rfl rfl h1 rfl rfl ?_
    refine Ops.skipG rfl rfl rfl h1 rfl rfl ?_
    refine Ops.st (.pickT rfl h1 rfl) rfl rfl rfl ?_
    refine Ops.nil ?_
    refine Ext.seq ?_
    refine Cod.condT rfl rfl ?_
    refine Cod.seq ?_
    refine Cod.region ?_
    rw [takeM_no (.inl h1)]
    refine Ops.st (.move rfl) rfl rfl rfl ?_
    refine Ops.st (.nilCheck rfl) rfl rfl rfl ?_
    refine Ops.st (.fieldAddr rfl fa60_1) rfl rfl rfl ?_
    refine Ops.ef10 (.store (cs' := [bv, .bool true]) rfl rfl (by repeat first | exact TakeP.here _ | apply TakeP.there) Try.sizeOf4 rfl rfl rfl) rfl rfl ?_
    refine Ops.nil ?_
    refine Ext.seq ?_
    refine Cod.seq ?_
    refine Cod.region ?_
    refine Ops.st (.assign rfl) rfl rfl rfl ?_
    refine Ops.nil ?_
    refine Ext.seq ?_
    exact Cod.ret (Ext.seqR (Ext.retE rfl rfl (Ent.take (ps := [pt rb 60 [bv, .bool true]]) (by repeat' first | exact Takes.nil _ | exact TakeP.here _ | apply TakeP.there | apply Takes.cons)) (⟨bv, SlR.nil _ _, hb, rfl⟩)))
  ·
    refine Ops.stG rfl rfl rfl h1 (.move rfl) rfl rfl ?_
    refine Ops.stG rfl rfl rfl h1 (.move rfl) rfl rfl ?_
    refine Ops.stG rfl rfl rfl h1 (.nilCheck rfl) rfl rfl ?_
    refine Ops.stG rfl rfl rfl h1 (.fieldAddr rfl fa60_0) rfl rfl ?_
    refine Ops.stG rfl rfl rfl h1 (.loadP rfl (by repeat first | exact TakeP.here _ | apply TakeP.there) Try.isAgg26 rfl) rfl rfl ?_
    refine Ops.stG rfl rfl rfl h1 (.len rfl (Rd.ro hbF) Try.runUnderlying26) rfl rfl ?_
    refine Ops.stG rfl rfl rfl h1 (.gtr rfl rfl) rfl rfl ?_
    refine Ops.st (.pickF rfl h1 rfl) rfl rfl rfl ?_
    refine Ops.nil ?_
    refine Ext.seq ?_
    refine Cod.condD rfl (fun h2 => ?_) (fun h2 => ?_)
    ·
      refine Cod.seq ?_
      refine Cod.region ?_
      rw [takeM_no (.inr (by omega))]
      refine Ops.st (.move rfl) rfl rfl rfl ?_
      refine Ops.st (.nilCheck rfl) rfl rfl rfl ?_
      refine Ops.st (.fieldAddr rfl fa60_1) rfl rfl rfl ?_
      refine Ops.ef10 (.store (cs' := [bv, .bool true]) rfl rfl (by repeat first | exact TakeP.here _ | apply TakeP.there) Try.sizeOf4 rfl rfl rfl) rfl rfl ?_
      refine Ops.nil ?_
      refine Ext.seq ?_
      refine Cod.seq ?_
      refine Cod.region ?_
      refine Ops.st (.assign rfl) rfl rfl rfl ?_
      refine Ops.nil ?_
      refine Ext.seq ?_
      exact Cod.ret (Ext.seqR (Ext.retE rfl rfl (Ent.take (ps := [pt rb 60 [bv, .bool true]]) (by repeat' first | exact Takes.nil _ | exact TakeP.here _ | apply TakeP.there | apply Takes.cons)) (⟨bv, SlR.nil _ _, hb, rfl⟩)))
    ·
      refine Cod.skip ?_
      refine Ext.seq ?_
      refine Cod.seq ?_
      refine Cod.region ?_
      subst h1
      rw [takeM_ok (by omega)]
      refine Ops.st (.move rfl) rfl rfl rfl ?_
      refine Ops.st (.nilCheck rfl) rfl rfl rfl ?_
      refine Ops.st (.fieldAddr rfl fa60_0) rfl rfl rfl ?_
      refine Ops.st (.loadP rfl (by repeat first | exact TakeP.here _ | apply TakeP.there) Try.isAgg26 rfl) rfl rfl rfl ?_
      refine Ops.st (.move rfl) rfl rfl rfl ?_
      refine Ops.st (.slice_h (hi := n) rfl rfl (Rd.ro hbF) Try.runUnderlying26 Try.sizeOf5 rfl (by omega)) rfl rfl rfl ?_
      refine Ops.st (.assign rfl) rfl rfl rfl ?_
      refine Ops.nil ?_
      refine Ext.seq ?_
      refine Cod.seq ?_
      refine Cod.region ?_
      refine Ops.st (.move rfl) rfl rfl rfl ?_
      refine Ops.st (.move rfl) rfl rfl rfl ?_
      refine Ops.st (.nilCheck rfl) rfl rfl rfl ?_
      refine Ops.st (.fieldAddr rfl fa60_0) rfl rfl rfl ?_
      refine Ops.st (.loadP rfl (by repeat first | exact TakeP.here _ | apply TakeP.there) Try.isAgg26 rfl) rfl rfl rfl ?_
      refine Ops.st (.move rfl) rfl rfl rfl ?_
      refine Ops.st (.slice_l (lo := n) rfl rfl (Rd.ro hbF) Try.runUnderlying26 Try.sizeOf5 rfl (by omega)) rfl rfl rfl ?_
      refine Ops.st (.nilCheck rfl) rfl rfl rfl ?_
      refine Ops.st (.fieldAddr rfl fa60_0) rfl rfl rfl ?_
      refine Ops.ef10 (.store (cs' := [Value.cut bv n bs.length 1, .bool false]) rfl rfl (by repeat first | exact TakeP.here _ | apply TakeP.there) Try.sizeOf26 rfl (hbs.cut).one rfl) rfl rfl ?_
      refine Ops.nil ?_
      refine Ext.seq ?_
      refine Cod.seq ?_
      refine Cod.region ?_
      refine Ops.st (.move rfl) rfl rfl rfl ?_
      refine Ops.st (.assign rfl) rfl rfl rfl ?_
      refine Ops.nil ?_
      refine Ext.seq ?_
      exact Cod.ret (Ext.retE rfl rfl (Ent.take (ps := [pt rb 60 [Value.cut bv n bs.length 1, .bool false]]) (by repeat' first | exact Takes.nil _ | exact TakeP.here _ | apply TakeP.there | apply Takes.cons)) (⟨_, hb.cut8 (Nat.zero_le _) (by omega) (by simp), hb.cut8 (by omega) (Nat.le_refl _) take_all8, rfl⟩))

/-- Numbers out of bytes. -/
theorem leN_snoc : ∀ (l : List UInt8) (c : UInt8), leN (l ++ [c]) = leN l + 256 ^ l.length * c.toNat
  | [], c => by simp [leN]
  | d :: l, c => by rw [List.cons_append, leN, leN, leN_snoc l c, List.length_cons, Nat.pow_succ, Nat.mul_add]; rw [Nat.mul_comm (256 ^ l.length) 256, Nat.mul_assoc]; omega
theorem or_up {l : List UInt8} {c : UInt8} (h : l.length < 8) : UInt64.ofNat (leN l) ||| (c.toUInt64 <<< UInt64.ofNat (8 * l.length)) = UInt64.ofNat (leN (l ++ [c])) := by
  have h1 := leN_lt l
  have hc := c.toNat_lt
  have e : 256 ^ l.length = 2 ^ (8 * l.length) := by rw [show (256 : Nat) = 2 ^ 8 from rfl, ← Nat.pow_mul]
  have hp : 256 ^ l.length * 256 ≤ 2 ^ 64 := by
    rw [← Nat.pow_succ, show (2 : Nat) ^ 64 = 256 ^ 8 from rfl]
    exact Nat.pow_le_pow_right (by decide) (by omega)
  have h2 : 256 ^ l.length * c.toNat + 256 ^ l.length ≤ 2 ^ 64 := by
    have : 256 ^ l.length * (c.toNat + 1) ≤ 256 ^ l.length * 256 := Nat.mul_le_mul_left _ (by omega)
    rw [Nat.mul_add, Nat.mul_one] at this
    omega
  apply UInt64.toNat_inj.1
  have e1 : (UInt64.ofNat (leN l)).toNat = leN l := by rw [UInt64.toNat_ofNat']; omega
  have e2 : (UInt64.ofNat (8 * l.length)).toNat % 64 = 8 * l.length := by rw [UInt64.toNat_ofNat']; omega
  have e3 : (c.toUInt64 <<< UInt64.ofNat (8 * l.length)).toNat = 2 ^ (8 * l.length) * c.toNat := by
    rw [UInt64.toNat_shiftLeft, e2, show c.toUInt64.toNat = c.toNat by simp, Nat.shiftLeft_eq, Nat.mod_eq_of_lt (by rw [Nat.mul_comm, ← e]; omega), Nat.mul_comm]
  rw [UInt64.toNat_or, e1, e3, leN_snoc, UInt64.toNat_ofNat', Nat.mod_eq_of_lt (by omega), Nat.or_comm, ← Nat.two_pow_add_eq_or_of_lt (by rw [← e]; exact h1), e, Nat.add_comm]
theorem numD_short {mn mx : UInt64} {bs : List UInt8} (h : bs.length < wid (mx - mn).toNat) : numD mn mx bs = none := by simp only [numD]; rw [if_pos h]
theorem numD_big {mn mx : UInt64} {bs : List UInt8} (h : leN (bs.take (wid (mx - mn).toNat)) > (mx - mn).toNat) : numD mn mx bs = none := by
  simp only [numD]
  by_cases h0 : bs.length < wid (mx - mn).toNat
  · rw [if_pos h0]
  · rw [if_neg h0, if_pos h]
theorem numD_good {mn mx : UInt64} {bs : List UInt8} (h0 : ¬ bs.length < wid (mx - mn).toNat) (h : ¬ leN (bs.take (wid (mx - mn).toNat)) > (mx - mn).toNat) : numD mn mx bs = some (leN (bs.take (wid (mx - mn).toNat)) + mn.toNat, bs.drop (wid (mx - mn).toNat)) := by
  simp only [numD]
  rw [if_neg h0, if_neg h]
theorem wid_two {n : Nat} (h : n < 18446744073709551616) (bs : List UInt8) : leN (bs.take (wid n)) < 18446744073709551616 := by
  have h1 := leN_lt (bs.take (wid n))
  have h2 : (bs.take (wid n)).length ≤ 8 := by rw [List.length_take]; have := wid_le n; omega
  have h3 : 256 ^ (bs.take (wid n)).length ≤ 256 ^ 8 := Nat.pow_le_pow_right (by decide) h2
  omega
theorem take_case (w : Nat) (bs : List UInt8) : bs.length < w ∧ takeM false w bs = ([], bs, true) ∨ ¬ bs.length < w ∧ takeM false w bs = (bs.take w, bs.drop w, false) := by
  by_cases h : bs.length < w
  · exact .inl ⟨h, takeM_no (.inr h)⟩
  · exact .inr ⟨h, takeM_ok h⟩
theorem num_big {mn mx : UInt64} {bs : List UInt8} {x : Nat} (hx : leN (takeM false (wid (mx - mn).toNat) bs).1 = x) (h : x > (mx - mn).toNat) : numD mn mx bs = none := by
  rcases take_case (wid (mx - mn).toNat) bs with ⟨hs, ht⟩ | ⟨hs, ht⟩
  · exact numD_short hs
  · rw [ht] at hx; exact numD_big (by rw [hx]; exact h)
theorem num_fine {mn mx : UInt64} {bs : List UInt8} {x : Nat} (hx : leN (takeM false (wid (mx - mn).toNat) bs).1 = x) (h : ¬ x > (mx - mn).toNat) : (takeM false (wid (mx - mn).toNat) bs).2.2 = (numD mn mx bs).isNone ∧ ∀ y r, numD mn mx bs = some (y, r) → y = x + mn.toNat ∧ (takeM false (wid (mx - mn).toNat) bs).2.1 = r := by
  rcases take_case (wid (mx - mn).toNat) bs with ⟨hs, ht⟩ | ⟨hs, ht⟩
  · rw [ht, numD_short hs]
    exact ⟨rfl, fun y r h => by cases h⟩
  · rw [ht] at hx ⊢
    dsimp only at hx
    rw [numD_good hs (by rw [hx]; exact h), hx]
    exact ⟨rfl, fun y r h => by simp only [Option.some.injEq, Prod.mk.injEq] at h; exact ⟨h.1.symm, h.2⟩⟩
theorem take_lt (mn mx : UInt64) (bs : List UInt8) : leN (takeM false (wid (mx - mn).toNat) bs).1 < 18446744073709551616 := by
  rcases take_case (wid (mx - mn).toNat) bs with ⟨hs, ht⟩ | ⟨hs, ht⟩
  · rw [ht]; exact (by decide : 0 < 18446744073709551616)
  · rw [ht]; exact wid_two (mx - mn).toNat_lt bs
theorem num_le {mn mx : UInt64} {x : Nat} (hm : mn ≤ mx) (h : ¬ x > (mx - mn).toNat) : UInt64.ofNat x + mn ≤ mx ∧ UInt64.ofNat x + mn = UInt64.ofNat (x + mn.toNat) := by
  have h1 := sub_nat hm
  have h2 := le_nat.1 hm
  have h3 := mx.toNat_lt
  refine ⟨?_, by rw [UInt64.ofNat_add, UInt64.ofNat_toNat]⟩
  rw [le_nat, UInt64.toNat_add, UInt64.toNat_ofNat']
  omega
/-- What a number's taking leaves. -/
def NumP (H : Hp) (R : TypeId) (rb : Nat) (mn mx : UInt64) (bs : List UInt8) (u : Value) (hs' : List SP) : Prop :=
  ∃ z bv' bs', u = W64 z ∧ z ≤ mx ∧ SlR H bv' 1 (bs' : List UInt8).length (u8s bs') ∧ hs' = [pt rb R [bv', .bool (numD mn mx bs).isNone]] ∧ ∀ x r, numD mn mx bs = some (x, r) → z = UInt64.ofNat x ∧ bs' = r
theorem takeN_any {F : Fr} {rb : Nat} {bv v : Value} {bs : List UInt8} {k : Int} {mn mx : UInt64} {H : Hp} (hv : Sl v) (hm : mn ≤ mx) (hH : Hp.le H F.hf) (hb : SlR H bv 1 bs.length (u8s bs)) :
    Spec Try.prog F 42 [.pointer (some ⟨rb, 0, none⟩), .agg #[.int .i64 k, W64 mn, W64 mx, v]] [pt rb 57 [bv, .bool false]] (NumP H 57 rb mn mx bs) := by
  have hwl := wid_le (mx - mn).toNat
  have hml := (mx - mn).toNat_lt
  refine Spec.body Try.func42 rfl Try.ntmps42 rfl ?_
  refine Cod.seq ?_
  refine Cod.region ?_
  refine Ops.ef (.box (cs := [.int .i64 k, W64 mn, W64 mx, v]) rfl (by obtain ⟨a, l, c, rfl⟩ := hv; rfl)) rfl rfl rfl ?_
  rintro b _ ⟨b, rfl, rfl⟩
  refine Ops.st (.assign rfl) rfl rfl rfl ?_
  refine Ops.nil ?_
  refine Ext.seq ?_
  refine Cod.seq ?_
  refine Cod.region ?_
  refine Ops.st (.assign rfl) rfl rfl rfl ?_
  refine Ops.nil ?_
  refine Ext.seq ?_
  refine Cod.seq ?_
  refine Cod.seq ?_
  refine Cod.region ?_
  refine Ops.st (.move rfl) rfl rfl rfl ?_
  refine Ops.st (.loadPA rfl (by repeat first | exact TakeP.here _ | apply TakeP.there) Try.isAgg63 Try.sizeOf63 rfl rfl) rfl rfl rfl ?_
  refine Ops.call ⟨Try.call36⟩ rfl rfl rfl (by repeat' first | exact Takes.nil _ | exact TakeP.here _ | apply TakeP.there | apply Takes.cons) (fun F' hF => width_any hv) rfl rfl rfl ?_
  rintro _ _ ⟨rfl, rfl⟩
  refine Ops.call ⟨Try.call44⟩ rfl rfl rfl (by repeat' first | exact Takes.nil _ | exact TakeP.here _ | apply TakeP.there | apply Takes.cons) (fun F' hF => take_any (Hp.le_tr hH hF.hf) hb) rfl rfl rfl ?_
  rintro tv _ ⟨bv', htv, hbv', rfl⟩
  have htF := htv.mono hH
  have htl : (takeM false (wid (mx - mn).toNat) bs).1.length ≤ 8 := by unfold takeM; split; exact Nat.zero_le _; rw [List.length_take]; omega
  refine Ops.st (.len rfl (Rd.ro htF) Try.runUnderlying26) rfl rfl rfl ?_
  refine Ops.st (.move rfl) rfl rfl rfl ?_
  refine Ops.nil ?_
  refine Ext.seq ?_
  refine Cod.block ?_
  refine Cod.loop (fun j : Nat => ⟨j ≤ (takeM false (wid (mx - mn).toNat) bs).1.length, [(0, .pointer (some ⟨rb, 0, none⟩)), (3, .pointer (some ⟨b, 0, none⟩)), (5, W64 (UInt64.ofNat (leN ((takeM false (wid (mx - mn).toNat) bs).1.take j)))), (11, tv), (12, .int .i64 (takeM false (wid (mx - mn).toNat) bs).1.length), (13, .int .i64 j)], [pt rb 57 [bv', .bool (takeM false (wid (mx - mn).toNat) bs).2.2], pt b 63 [.int .i64 k, W64 mn, W64 mx, v]]⟩) (fun j => (takeM false (wid (mx - mn).toNat) bs).1.length - j) 0 (Nat.zero_le _) ⟨rfl, rfl, rfl, rfl, rfl, rfl, trivial⟩ (Ent.take (by repeat' first | exact Takes.nil _ | exact TakeP.here _ | apply TakeP.there | apply Takes.cons)) ?_
  rintro j hj
  dsimp only
  refine Cod.seq ?_
  refine Cod.region ?_
  refine Ops.st (.lss rfl rfl) rfl rfl rfl ?_
  refine Ops.nil ?_
  refine Ext.seq ?_
  refine Cod.seq ?_
  refine Cod.condD rfl (fun h1 => ?_) (fun h1 => ?_)
  ·
    refine Cod.skip ?_
    refine Ext.seq ?_
    refine Cod.seq ?_
    refine Cod.block ?_
    refine Cod.seq ?_
    refine Cod.region ?_
    obtain ⟨c, hc⟩ : ∃ c, (takeM false (wid (mx - mn).toNat) bs).1[j]? = some c := ⟨_, List.getElem?_eq_getElem (by omega)⟩
    have hor := or_up (l := (takeM false (wid (mx - mn).toNat) bs).1.take j) (c := c) (by rw [List.length_take]; omega)
    rw [show ((takeM false (wid (mx - mn).toNat) bs).1.take j).length = j by rw [List.length_take]; omega, ← take_get hc] at hor
    refine Ops.st (.move rfl) rfl rfl rfl ?_
    refine Ops.st (.indexAddr (j := j) (off := j) rfl rfl (Rd.ro htF) Try.runUnderlying26 Try.sizeOf5 (by omega) (by omega) (by omega)) rfl rfl rfl ?_
    refine Ops.st (.load_elem (u := W8 c) rfl (Rd.ro htF) Try.isAgg5 (by rw [u8s, List.getElem?_map, hc]; rfl)) rfl rfl rfl ?_
    refine Ops.st (.assign rfl) rfl rfl rfl ?_
    refine Ops.st (.assign rfl) rfl rfl rfl ?_
    refine Ops.nil ?_
    refine Ext.seq ?_
    refine Cod.region ?_
    refine Ops.st (.move rfl) rfl rfl rfl ?_
    refine Ops.st (.move rfl) rfl rfl rfl ?_
    refine Ops.st (.convW8_64 rfl Try.underlying5 Try.underlying35) rfl rfl rfl ?_
    refine Ops.st (.move rfl) rfl rfl rfl ?_
    refine Ops.st (.mul rfl rfl (by first | exact IntWalk.i64_in _ (by omega) | rfl)) rfl rfl rfl ?_
    refine Ops.st (.shlW64 (n := 8 * j) rfl rfl (by omega) (by omega)) rfl rfl rfl ?_
    refine Ops.st (.orW64 rfl rfl) rfl rfl rfl ?_
    refine Ops.st (.assign rfl) rfl rfl rfl ?_
    refine Ops.nil ?_
    refine Ext.block ?_
    refine Ext.seq ?_
    refine Cod.region ?_
    refine Ops.st (.add rfl rfl (by first | exact IntWalk.i64_in _ (by omega) | rfl)) rfl rfl rfl ?_
    refine Ops.st (.move rfl) rfl rfl rfl ?_
    refine Ops.nil ?_
    exact Ext.back (j + 1) (by omega) (by omega) ⟨rfl, rfl, by rw [← hor]; rfl, rfl, rfl, rfl, trivial⟩ (Ent.take (by repeat' first | exact Takes.nil _ | exact TakeP.here _ | apply TakeP.there | apply Takes.cons))
  ·
    refine Cod.exit (Ext.seqX (Ext.stopX (Ext.hit ?_)))
    refine Ext.seq ?_
    refine Cod.seq ?_
    refine Cod.seq ?_
    refine Cod.region ?_
    rw [List.take_of_length_le (by omega)]
    have hlt := take_lt mn mx bs
    generalize hx : leN (takeM false (wid (mx - mn).toNat) bs).1 = x at hlt
    have hx2 : (UInt64.ofNat x).toNat = x := by rw [UInt64.toNat_ofNat']; omega
    refine Ops.st (.move rfl) rfl rfl rfl ?_
    refine Ops.st (.fieldAddr rfl fa63_2) rfl rfl rfl ?_
    refine Ops.st (.loadP rfl (by repeat first | exact TakeP.here _ | apply TakeP.there) Try.isAgg35 rfl) rfl rfl rfl ?_
    refine Ops.st (.fieldAddr rfl fa63_1) rfl rfl rfl ?_
    refine Ops.st (.loadP rfl (by repeat first | exact TakeP.here _ | apply TakeP.there) Try.isAgg35 rfl) rfl rfl rfl ?_
    refine Ops.st (.subW64 rfl rfl) rfl rfl rfl ?_
    refine Ops.st (.gtr rfl rfl) rfl rfl rfl ?_
    refine Ops.nil ?_
    refine Ext.seq ?_
    refine Cod.condD rfl (fun h2 => ?_) (fun h2 => ?_)
    ·
      refine Cod.seq ?_
      refine Cod.region ?_
      rw [hx2] at h2
      refine Ops.st (.move rfl) rfl rfl rfl ?_
      refine Ops.st (.nilCheck rfl) rfl rfl rfl ?_
      refine Ops.st (.fieldAddr rfl fa57_1) rfl rfl rfl ?_
      refine Ops.ef10 (.store (cs' := [bv', .bool true]) rfl rfl (by repeat first | exact TakeP.here _ | apply TakeP.there) Try.sizeOf4 rfl rfl rfl) rfl rfl ?_
      refine Ops.nil ?_
      refine Ext.seq ?_
      refine Cod.seq ?_
      refine Cod.region ?_
      refine Ops.st (.assign rfl) rfl rfl rfl ?_
      refine Ops.nil ?_
      refine Ext.seq ?_
      exact Cod.ret (Ext.seqR (Ext.retE rfl rfl (Ent.take (ps := [pt rb 57 [bv', .bool true]]) (by repeat' first | exact Takes.nil _ | exact TakeP.here _ | apply TakeP.there | apply Takes.cons)) (⟨0, bv', _, rfl, by rw [le_nat]; exact Nat.zero_le _, hbv', by rw [num_big hx (by omega)]; rfl, fun y r h => (by rw [num_big hx (by omega)] at h; cases h)⟩)))
    ·
      refine Cod.skip ?_
      refine Ext.seq ?_
      refine Cod.seq ?_
      refine Cod.region ?_
      rw [hx2] at h2
      obtain ⟨hf1, hf2⟩ := num_fine (mn := mn) (mx := mx) hx (by omega)
      obtain ⟨hf3, hf4⟩ := num_le (x := x) hm (by omega)
      refine Ops.st (.move rfl) rfl rfl rfl ?_
      refine Ops.st (.fieldAddr rfl fa63_1) rfl rfl rfl ?_
      refine Ops.st (.loadP rfl (by repeat first | exact TakeP.here _ | apply TakeP.there) Try.isAgg35 rfl) rfl rfl rfl ?_
      refine Ops.st (.addW64 rfl rfl) rfl rfl rfl ?_
      refine Ops.st (.assign rfl) rfl rfl rfl ?_
      refine Ops.nil ?_
      refine Ext.seq ?_
      exact Cod.ret (Ext.retE rfl rfl (Ent.take (ps := [pt rb 57 [bv', .bool (takeM false (wid (mx - mn).toNat) bs).2.2]]) (by repeat' first | exact Takes.nil _ | exact TakeP.here _ | apply TakeP.there | apply Takes.cons)) (⟨UInt64.ofNat x + mn, bv', _, rfl, hf3, hbv', by rw [hf1], fun y r h => ⟨by rw [hf4, (hf2 y r h).1], (hf2 y r h).2⟩⟩))
theorem refTakeN_any {F : Fr} {rb : Nat} {bv v : Value} {bs : List UInt8} {k : Int} {mn mx : UInt64} {H : Hp} (hv : Sl v) (hm : mn ≤ mx) (hH : Hp.le H F.hf) (hb : SlR H bv 1 bs.length (u8s bs)) :
    Spec Try.prog F 38 [.pointer (some ⟨rb, 0, none⟩), .agg #[.int .i64 k, W64 mn, W64 mx, v]] [pt rb 60 [bv, .bool false]] (NumP H 60 rb mn mx bs) := by
  have hwl := wid_le (mx - mn).toNat
  have hml := (mx - mn).toNat_lt
  refine Spec.body Try.func38 rfl Try.ntmps38 rfl ?_
  refine Cod.seq ?_
  refine Cod.region ?_
  refine Ops.ef (.box (cs := [.int .i64 k, W64 mn, W64 mx, v]) rfl (by obtain ⟨a, l, c, rfl⟩ := hv; rfl)) rfl rfl rfl ?_
  rintro b _ ⟨b, rfl, rfl⟩
  refine Ops.st (.assign rfl) rfl rfl rfl ?_
  refine Ops.nil ?_
  refine Ext.seq ?_
  refine Cod.seq ?_
  refine Cod.region ?_
  refine Ops.st (.move rfl) rfl rfl rfl ?_
  refine Ops.st (.fieldAddr rfl fa37_2) rfl rfl rfl ?_
  refine Ops.st (.loadP rfl (by repeat first | exact TakeP.here _ | apply TakeP.there) Try.isAgg35 rfl) rfl rfl rfl ?_
  refine Ops.st (.fieldAddr rfl fa37_1) rfl rfl rfl ?_
  refine Ops.st (.loadP rfl (by repeat first | exact TakeP.here _ | apply TakeP.there) Try.isAgg35 rfl) rfl rfl rfl ?_
  refine Ops.st (.subW64 rfl rfl) rfl rfl rfl ?_
  refine Ops.call ⟨Try.call34⟩ rfl rfl rfl (by repeat' first | exact Takes.nil _ | exact TakeP.here _ | apply TakeP.there | apply Takes.cons) (fun F' hF => refWidth_any) rfl rfl rfl ?_
  rintro _ _ ⟨rfl, rfl⟩
  refine Ops.call ⟨Try.call39⟩ rfl rfl rfl (by repeat' first | exact Takes.nil _ | exact TakeP.here _ | apply TakeP.there | apply Takes.cons) (fun F' hF => refTake_any (Hp.le_tr hH hF.hf) hb) rfl rfl rfl ?_
  rintro tv _ ⟨bv', htv, hbv', rfl⟩
  have htF := htv.mono hH
  have htl : (takeM false (wid (mx - mn).toNat) bs).1.length ≤ 8 := by unfold takeM; split; exact Nat.zero_le _; rw [List.length_take]; omega
  refine Ops.st (.assign rfl) rfl rfl rfl ?_
  refine Ops.nil ?_
  refine Ext.seq ?_
  refine Cod.seq ?_
  refine Cod.region ?_
  refine Ops.st (.assign rfl) rfl rfl rfl ?_
  refine Ops.nil ?_
  refine Ext.seq ?_
  refine Cod.seq ?_
  refine Cod.seq ?_
  refine Cod.region ?_
  refine Ops.st (.move rfl) rfl rfl rfl ?_
  refine Ops.st (.len rfl (Rd.ro htF) Try.runUnderlying26) rfl rfl rfl ?_
  refine Ops.st (.sub rfl rfl (by first | exact IntWalk.i64_in _ (by omega) | rfl)) rfl rfl rfl ?_
  refine Ops.st (.assign rfl) rfl rfl rfl ?_
  refine Ops.nil ?_
  refine Ext.seq ?_
  refine Cod.block ?_
  refine Cod.loop (fun j : Nat => ⟨j ≤ (takeM false (wid (mx - mn).toNat) bs).1.length, [(0, .pointer (some ⟨rb, 0, none⟩)), (3, .pointer (some ⟨b, 0, none⟩)), (6, W64 (UInt64.ofNat (leN ((takeM false (wid (mx - mn).toNat) bs).1.drop j)))), (5, tv), (7, .int .i64 ((j : Int) - 1))], [pt rb 60 [bv', .bool (takeM false (wid (mx - mn).toNat) bs).2.2], pt b 37 [.int .i64 k, W64 mn, W64 mx, v]]⟩) (fun j => j) ((takeM false (wid (mx - mn).toNat) bs).1.length) (Nat.le_refl _) ⟨rfl, rfl, by rw [List.drop_of_length_le (Nat.le_refl _)]; rfl, rfl, rfl, trivial⟩ (Ent.take (by repeat' first | exact Takes.nil _ | exact TakeP.here _ | apply TakeP.there | apply Takes.cons)) ?_
  rintro j hj
  dsimp only
  refine Cod.seq ?_
  refine Cod.seq ?_
  refine Cod.region ?_
  refine Ops.st (.move rfl) rfl rfl rfl ?_
  refine Ops.st (.geq rfl rfl) rfl rfl rfl ?_
  refine Ops.nil ?_
  refine Ext.seq ?_
  refine Cod.condD rfl (fun h1 => ?_) (fun h1 => ?_)
  ·
    refine Cod.skip ?_
    refine Ext.seq ?_
    refine Cod.seq ?_
    refine Cod.block ?_
    refine Cod.region ?_
    obtain ⟨i, rfl⟩ : ∃ i, j = i + 1 := ⟨j - 1, by omega⟩
    obtain ⟨c, hc⟩ : ∃ c, (takeM false (wid (mx - mn).toNat) bs).1[i]? = some c := ⟨_, List.getElem?_eq_getElem (by omega)⟩
    refine Ops.st (.move rfl) rfl rfl rfl ?_
    refine Ops.st (.mulW64 rfl (show _ = some (W64 256) from rfl)) rfl rfl rfl ?_
    refine Ops.st (.move rfl) rfl rfl rfl ?_
    refine Ops.st (.move rfl) rfl rfl rfl ?_
    refine Ops.st (.indexAddr (j := i) (off := i) rfl rfl (Rd.ro htF) Try.runUnderlying26 Try.sizeOf5 (by omega) (by omega) (by omega)) rfl rfl rfl ?_
    refine Ops.st (.load_elem (u := W8 c) rfl (Rd.ro htF) Try.isAgg5 (by rw [u8s, List.getElem?_map, hc]; rfl)) rfl rfl rfl ?_
    refine Ops.st (.convW8_64 rfl Try.underlying5 Try.underlying35) rfl rfl rfl ?_
    refine Ops.st (.addW64 rfl rfl) rfl rfl rfl ?_
    refine Ops.st (.assign rfl) rfl rfl rfl ?_
    refine Ops.nil ?_
    refine Ext.block ?_
    refine Ext.seq ?_
    refine Cod.region ?_
    refine Ops.st (.move rfl) rfl rfl rfl ?_
    refine Ops.st (.sub rfl rfl (by first | exact IntWalk.i64_in _ (by omega) | rfl)) rfl rfl rfl ?_
    refine Ops.st (.assign rfl) rfl rfl rfl ?_
    refine Ops.nil ?_
    exact Ext.back i (by omega) (by omega) ⟨rfl, rfl, by rw [← w64_up hc]; rfl, rfl, by rw [show ((i + 1 : Nat) : Int) - 1 = i by omega]; rfl, trivial⟩ (Ent.take (by repeat' first | exact Takes.nil _ | exact TakeP.here _ | apply TakeP.there | apply Takes.cons))
  ·
    refine Cod.exit (Ext.seqX (Ext.stopX (Ext.hit ?_)))
    refine Ext.seq ?_
    refine Cod.seq ?_
    refine Cod.seq ?_
    refine Cod.region ?_
    obtain rfl : j = 0 := by omega
    rw [List.drop_zero]
    have hlt := take_lt mn mx bs
    generalize hx : leN (takeM false (wid (mx - mn).toNat) bs).1 = x at hlt
    have hx2 : (UInt64.ofNat x).toNat = x := by rw [UInt64.toNat_ofNat']; omega
    refine Ops.st (.move rfl) rfl rfl rfl ?_
    refine Ops.st (.fieldAddr rfl fa37_2) rfl rfl rfl ?_
    refine Ops.st (.loadP rfl (by repeat first | exact TakeP.here _ | apply TakeP.there) Try.isAgg35 rfl) rfl rfl rfl ?_
    refine Ops.st (.fieldAddr rfl fa37_1) rfl rfl rfl ?_
    refine Ops.st (.loadP rfl (by repeat first | exact TakeP.here _ | apply TakeP.there) Try.isAgg35 rfl) rfl rfl rfl ?_
    refine Ops.st (.subW64 rfl rfl) rfl rfl rfl ?_
    refine Ops.st (.gtr rfl rfl) rfl rfl rfl ?_
    refine Ops.nil ?_
    refine Ext.seq ?_
    refine Cod.condD rfl (fun h2 => ?_) (fun h2 => ?_)
    ·
      refine Cod.seq ?_
      refine Cod.region ?_
      rw [hx2] at h2
      refine Ops.st (.move rfl) rfl rfl rfl ?_
      refine Ops.st (.nilCheck rfl) rfl rfl rfl ?_
      refine Ops.st (.fieldAddr rfl fa60_1) rfl rfl rfl ?_
      refine Ops.ef10 (.store (cs' := [bv', .bool true]) rfl rfl (by repeat first | exact TakeP.here _ | apply TakeP.there) Try.sizeOf4 rfl rfl rfl) rfl rfl ?_
      refine Ops.nil ?_
      refine Ext.seq ?_
      refine Cod.seq ?_
      refine Cod.region ?_
      refine Ops.st (.assign rfl) rfl rfl rfl ?_
      refine Ops.nil ?_
      refine Ext.seq ?_
      exact Cod.ret (Ext.seqR (Ext.retE rfl rfl (Ent.take (ps := [pt rb 60 [bv', .bool true]]) (by repeat' first | exact Takes.nil _ | exact TakeP.here _ | apply TakeP.there | apply Takes.cons)) (⟨0, bv', _, rfl, by rw [le_nat]; exact Nat.zero_le _, hbv', by rw [num_big hx (by omega)]; rfl, fun y r h => (by rw [num_big hx (by omega)] at h; cases h)⟩)))
    ·
      refine Cod.skip ?_
      refine Ext.seq ?_
      refine Cod.seq ?_
      refine Cod.region ?_
      rw [hx2] at h2
      obtain ⟨hf1, hf2⟩ := num_fine (mn := mn) (mx := mx) hx (by omega)
      obtain ⟨hf3, hf4⟩ := num_le (x := x) hm (by omega)
      refine Ops.st (.move rfl) rfl rfl rfl ?_
      refine Ops.st (.fieldAddr rfl fa37_1) rfl rfl rfl ?_
      refine Ops.st (.loadP rfl (by repeat first | exact TakeP.here _ | apply TakeP.there) Try.isAgg35 rfl) rfl rfl rfl ?_
      refine Ops.st (.addW64 rfl rfl) rfl rfl rfl ?_
      refine Ops.st (.assign rfl) rfl rfl rfl ?_
      refine Ops.nil ?_
      refine Ext.seq ?_
      exact Cod.ret (Ext.retE rfl rfl (Ent.take (ps := [pt rb 60 [bv', .bool (takeM false (wid (mx - mn).toNat) bs).2.2]]) (by repeat' first | exact Takes.nil _ | exact TakeP.here _ | apply TakeP.there | apply Takes.cons)) (⟨UInt64.ofNat x + mn, bv', _, rfl, hf3, hbv', by rw [hf1], fun y r h => ⟨by rw [hf4, (hf2 y r h).1], (hf2 y r h).2⟩⟩))
end Go.Proofs.Ytacgngfjanlfnaa
