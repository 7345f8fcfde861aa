/- A hash that goes on: its model, New, Write. No condition. -/
import Derived.Test.YtdnbnfebapofnaaDoorSB
namespace Go.Proofs.YtdnbnfebapofnaaDoor
open Go

/-- Blocks are taken as long as there are whole ones. -/
def hfull (st : List UInt32) (xs : List UInt8) : List UInt32 × List UInt8 := if h : xs.length < 64 then (st, xs) else hfull (hblock st (xs.take 64)) (xs.drop 64)
termination_by xs.length
decreasing_by simp only [List.length_drop]; omega
theorem hfull_few {st : List UInt32} {xs : List UInt8} (h : xs.length < 64) : hfull st xs = (st, xs) := by rw [hfull, dif_pos h]
theorem hfull_more {st : List UInt32} {xs : List UInt8} (h : ¬ xs.length < 64) : hfull st xs = hfull (hblock st (xs.take 64)) (xs.drop 64) := by rw [hfull, dif_neg h]
theorem hfull_block {st : List UInt32} {ys zs : List UInt8} (h : ys.length = 64) : hfull st (ys ++ zs) = hfull (hblock st ys) zs := by
  rw [hfull_more (by simp only [List.length_append]; omega), List.take_append_of_le_length (by omega), List.take_of_length_le (by omega), List.drop_append_of_le_length (by omega), List.drop_of_length_le (by omega), List.nil_append]
theorem hfull_len (n : Nat) : ∀ {st : List UInt32} {xs : List UInt8}, xs.length = n → st.length = 8 → (hfull st xs).1.length = 8 ∧ (hfull st xs).2.length < 64 ∧ (hfull st xs).2.length = n % 64 := by
  induction n using Nat.strongRecOn with
  | ind n ih =>
    intro st xs hn hst
    by_cases h : xs.length < 64
    · rw [hfull_few h]
      exact ⟨hst, h, by dsimp only; omega⟩
    · rw [hfull_more h]
      have h1 := ih (n - 64) (by omega) (st := hblock st (xs.take 64)) (xs := xs.drop 64) (by rw [List.length_drop, hn]) (hblock_len _ hst)
      exact ⟨h1.1, h1.2.1, by omega⟩
theorem hfull_app (n : Nat) : ∀ {st : List UInt32} {xs ys : List UInt8}, xs.length = n → hfull st (xs ++ ys) = hfull (hfull st xs).1 ((hfull st xs).2 ++ ys) := by
  induction n using Nat.strongRecOn with
  | ind n ih =>
    intro st xs ys hn
    by_cases h : xs.length < 64
    · rw [hfull_few h]
    · rw [hfull_more (xs := xs) h, ← ih (n - 64) (by omega) (by rw [List.length_drop, hn]), hfull_more (by simp only [List.length_append]; omega), List.take_append_of_le_length (by omega), List.drop_append_of_le_length (by omega)]

structure HM where
  st : List UInt32
  buf : List UInt8
  long : Nat
structure HM.Ok (m : HM) : Prop where
  st : m.st.length = 8
  buf : m.buf.length < 64
  mod : m.long % 64 = m.buf.length
  long : m.long ≤ 4611686018427387904
def HM.write (m : HM) (bs : List UInt8) : HM := ⟨(hfull m.st (m.buf ++ bs)).1, (hfull m.st (m.buf ++ bs)).2, m.long + bs.length⟩
theorem HM.Ok.write {m : HM} (ok : m.Ok) {bs : List UInt8} (h : m.long + bs.length ≤ 4611686018427387904) : (m.write bs).Ok := by
  have h1 := hfull_len (m.buf ++ bs).length (st := m.st) (xs := m.buf ++ bs) rfl ok.st
  refine ⟨h1.1, h1.2.1, ?_, h⟩
  have h2 := ok.mod
  have h3 := h1.2.2
  rw [List.length_append] at h3
  show (m.long + bs.length) % 64 = (hfull m.st (m.buf ++ bs)).2.length
  omega
theorem HM.write_write (m : HM) (a b : List UInt8) : (m.write a).write b = m.write (a ++ b) := by
  unfold HM.write
  dsimp only
  rw [← hfull_app (m.buf ++ a).length rfl, List.append_assoc, List.length_append, Nat.add_assoc]
theorem HM.write_nil {m : HM} (ok : m.Ok) : m.write [] = m := by
  unfold HM.write
  rw [List.append_nil, hfull_few ok.buf]
  rfl
def H0 : List UInt32 := [1779033703, 3144134277, 1013904242, 2773480762, 1359893119, 2600822924, 528734635, 1541459225]
def HM.new : HM := ⟨H0, [], 0⟩
theorem HM.new_ok : HM.new.Ok := ⟨rfl, by decide, rfl, by decide⟩

def hashP (b : Nat) (m : HM) : SP := fun z => ∃ rest : List UInt8, (rest.length = 64 ∧ rest.take m.buf.length = m.buf) ∧ SL [pt b 53 (hsC m.st rest m.buf.length m.long)] z
theorem hash_open (b : Nat) (m : HM) : ∀ z, hashP b m z → ∃ rest : List UInt8, (rest.length = 64 ∧ rest.take m.buf.length = m.buf) ∧ SL [pt b 53 (hsC m.st rest m.buf.length m.long)] z := fun _ h => h
theorem hash_mk {b : Nat} {m : HM} {rest : List UInt8} (h : rest.length = 64) (h' : rest.take m.buf.length = m.buf) : ∀ z, SL [pt b 53 (hsC m.st rest m.buf.length m.long)] z → hashP b m z := fun _ hz => ⟨rest, ⟨h, h'⟩, hz⟩

set_option maxRecDepth 4000 in
theorem shaNew_any {F : Fr} : Spec Tryd.prog F 13 [] [] (fun u hs' => ∃ b, u = .pointer (some ⟨b, 0, none⟩) ∧ hs' = [hashP b HM.new]) := by
  refine Spec.body Tryd.func13 rfl Tryd.ntmps13 rfl ?_
  refine Cod.seq ?_
  refine Cod.region ?_
  refine Ops.st (.assign rfl) rfl rfl rfl ?_
  refine Ops.nil ?_
  refine Ext.seq ?_
  refine Cod.seq ?_
  refine Cod.region ?_
  refine Ops.st (.build (z := .agg (w32s H0).toArray) rfl (fun w => by kernel_rfl)) rfl rfl rfl ?_
  refine Ops.st (.build (z := .agg (hsC H0 (List.replicate 64 0) 0 0).toArray) rfl (fun w => by kernel_rfl)) rfl rfl rfl ?_
  refine Ops.ef (.box (cs := hsC H0 (List.replicate 64 0) 0 0) rfl rfl) rfl rfl rfl ?_
  rintro _ _ ⟨b, rfl, rfl⟩
  refine Ops.st (.assign rfl) rfl rfl rfl ?_
  refine Ops.nil ?_
  refine Ext.seq ?_
  exact Cod.ret (Ext.retE rfl rfl (Ent.fold1 (A := hashP b HM.new) (by repeat' first | exact Takes.nil _ | exact TakeP.here _ | apply TakeP.there | apply Takes.cons) (hash_mk (m := HM.new) (rest := List.replicate 64 0) rfl rfl)) (⟨b, rfl, rfl⟩))

theorem hs_lay {st : List UInt32} {rest : List UInt8} {f l : Int} (h : st.length = 8) (h' : rest.length = 64) {k : Nat} {xs : List UInt8} (hk : k + xs.length ≤ 64) :
    (hsC st rest f l).take (8 + k) ++ u8s xs ++ (hsC st rest f l).drop (8 + k + xs.length) = hsC st (rest.take k ++ xs ++ rest.drop (k + xs.length)) f l := by
  have e1 : (hsC st rest f l).take (8 + k) = w32s st ++ u8s (rest.take k) := by
    rw [hsC, List.take_append, List.take_of_length_le (by rw [w32s_len]; omega), w32s_len, h, Nat.add_sub_cancel_left, List.take_append_of_le_length (by rw [u8s_len]; omega), u8s_take]
  have e2 : (hsC st rest f l).drop (8 + k + xs.length) = u8s (rest.drop (k + xs.length)) ++ [.int .i64 f, .int .i64 l] := by
    rw [hsC, List.drop_append, List.drop_of_length_le (by rw [w32s_len]; omega), w32s_len, h, List.nil_append, show 8 + k + xs.length - 8 = k + xs.length by omega, List.drop_append_of_le_length (by rw [u8s_len]; omega), u8s_drop]
  rw [e1, e2, hsC, u8s_app, u8s_app]
  simp only [List.append_assoc]

/-- What is left to be written. -/
structure WG where
  i : Nat
  v : Value
  st : List UInt32
  rest : List UInt8
  buf : List UInt8
set_option maxRecDepth 4000 in
theorem shaWrite_any {F : Fr} {b : Nat} {m : HM} {v : Value} {bs : List UInt8} (ok : m.Ok) (tab : Tab F) (hr : SlR F.hf v 1 bs.length (u8s bs)) (hlong : m.long + bs.length ≤ 4611686018427387904) :
    Spec Tryd.prog F 14 [.pointer (some ⟨b, 0, none⟩), v] [hashP b m] (fun _ hs' => hs' = [hashP b (m.write bs)]) := by
  refine Spec.open_ (hash_open b m) ?_
  rintro rest ⟨hre, htk⟩
  dsimp only [List.cons_append, List.nil_append]
  have hst := ok.st
  refine Spec.body Tryd.func14 rfl Tryd.ntmps14 rfl ?_
  refine Cod.seq ?_
  refine Cod.region ?_
  refine Ops.st (.move rfl) rfl rfl rfl ?_
  refine Ops.st (.nilCheck rfl) rfl rfl rfl ?_
  refine Ops.st (.fieldAddr rfl fa53_3) rfl rfl rfl ?_
  refine Ops.st (.loadP rfl (by repeat first | exact TakeP.here _ | apply TakeP.there) Tryd.isAgg3 (hs_long hst hre)) rfl rfl rfl ?_
  refine Ops.st (.move rfl) rfl rfl rfl ?_
  refine Ops.st (.len rfl (Rd.ro hr) Tryd.runUnderlying22) rfl rfl rfl ?_
  refine Ops.st (.add rfl rfl (by first | exact IntWalk.i64_in _ (by omega) | rfl)) rfl rfl rfl ?_
  refine Ops.st (.nilCheck rfl) rfl rfl rfl ?_
  refine Ops.st (.fieldAddr rfl fa53_3) rfl rfl rfl ?_
  refine Ops.ef10 (.store rfl rfl (by repeat first | exact TakeP.here _ | apply TakeP.there) Tryd.sizeOf3 (by rw [hs_len hst hre]; rfl) rfl (hs_set_long hst hre)) rfl rfl ?_
  refine Ops.nil ?_
  refine Ext.seq ?_
  refine Cod.block ?_
  refine Cod.loop (fun g : WG => ⟨g.i ≤ bs.length ∧ SlR F.hf g.v 1 (bs.drop g.i).length (u8s (bs.drop g.i)) ∧ g.st.length = 8 ∧ g.rest.length = 64 ∧ g.rest.take g.buf.length = g.buf ∧ g.buf.length < 64 ∧ hfull g.st (g.buf ++ bs.drop g.i) = hfull m.st (m.buf ++ bs), [(0, .pointer (some ⟨b, 0, none⟩)), (1, g.v)], [pt b 53 (hsC g.st g.rest g.buf.length ((m.long + bs.length : Nat) : Int))]⟩) (fun g => bs.length - g.i) ⟨0, v, m.st, rest, m.buf⟩ ⟨Nat.zero_le _, hr, hst, hre, htk, ok.buf, rfl⟩ ⟨rfl, rfl, trivial⟩ (Ent.take (by repeat' first | exact Takes.nil _ | exact TakeP.here _ | apply TakeP.there | apply Takes.cons)) ?_
  rintro ⟨i, bv, st, re, buf⟩ ⟨hi, hbv, hst2, hre2, htk2, hbuf, hfull⟩
  dsimp only
  refine Cod.seq ?_
  refine Cod.seq ?_
  refine Cod.region ?_
  dsimp only at hi hbv hst2 hre2 htk2 hbuf hfull
  have hdl : (bs.drop i).length = bs.length - i := by simp
  refine Ops.st (.move rfl) rfl rfl rfl ?_
  refine Ops.st (.len rfl (Rd.ro hbv) Tryd.runUnderlying22) rfl rfl rfl ?_
  refine Ops.st (.gtr rfl rfl) rfl rfl rfl ?_
  refine Ops.nil ?_
  refine Ext.seq ?_
  refine Cod.condD rfl (fun h1 => ?_) (fun h1 => ?_)
  ·
    refine Cod.skip ?_
    refine Ext.seq ?_
    refine Cod.block ?_
    refine Cod.seq ?_
    obtain ⟨n, hn⟩ : ∃ n, n = min (bs.drop i).length (64 - buf.length) := ⟨_, rfl⟩
    refine Cod.regionT 9 mixed (by kernel_rfl) ?_
    refine Ss.st (.move rfl) rfl rfl rfl ?_
    refine Ss.st (.nilCheck rfl) rfl rfl rfl ?_
    refine Ss.st (.fieldAddr rfl fa53_1) rfl rfl rfl ?_
    refine Ss.st (.move rfl) rfl rfl rfl ?_
    refine Ss.st (.nilCheck rfl) rfl rfl rfl ?_
    refine Ss.st (.fieldAddr rfl fa53_2) rfl rfl rfl ?_
    refine Ss.st (.loadP rfl (by repeat first | exact TakeP.here _ | apply TakeP.there) Tryd.isAgg3 (hs_fill hst2 hre2)) rfl rfl rfl ?_
    refine Ss.st (.sliceArr_l (lo := buf.length) rfl rfl Tryd.runUnderlying51 Tryd.sizeOf5 rfl (by omega)) rfl rfl rfl ?_
    refine Ss.st (.move rfl) rfl rfl rfl ?_
    refine Ss.nil ?_
    refine Ops.ef1 (.copyR (b := b) (o := 0 + 8 + buf.length * 1) (dn := 64 - buf.length) (m := (bs.drop i).length) (cn := n) (cs' := hsC st (re.take buf.length ++ (bs.drop i).take n ++ re.drop (buf.length + n)) buf.length ((m.long + bs.length : Nat) : Int)) rfl ((RowAt.full (by decide)).cut (by omega) (by omega)) rfl (by repeat first | exact TakeP.here _ | apply TakeP.there) (Rd.ro hbv) Tryd.runUnderlying22 Tryd.sizeOf5 hn.symm (by rw [hs_len hst2 hre2]; omega) (by have h := hs_lay (f := buf.length) (l := ((m.long + bs.length : Nat) : Int)) hst2 hre2 (k := buf.length) (xs := (bs.drop i).take n) (by rw [List.length_take]; omega); rw [List.length_take, Nat.min_eq_left (by omega)] at h; rw [Nat.mul_one, Nat.mul_one, u8s_take]; simpa using h)) rfl rfl rfl ?_
    obtain ⟨re3, hre3⟩ : ∃ re3, re3 = re.take buf.length ++ (bs.drop i).take n ++ re.drop (buf.length + n) := ⟨_, rfl⟩
    have hl3 : re3.length = 64 := by rw [hre3]; simp only [List.length_append, List.length_take, List.length_drop]; omega
    rw [← hre3]
    refine Ops.st (.assign rfl) rfl rfl rfl ?_
    refine Ops.nil ?_
    refine Ext.seq ?_
    refine Cod.seq ?_
    refine Cod.regionA mixed (by kernel_rfl) (listed := #[false, false, false, false, false, false, false, false, false, false, false, false, false, false]) ?_
    refine As.take 0 rfl (by kernel_rfl) (by kernel_rfl) (by kernel_rfl) rfl rfl rfl (fun F hs => .move rfl) (by kernel_rfl) (listed' := #[true, false, false, false, false, false, false, false, false, false, false, false, false, false]) ?_
    refine As.take 1 rfl (by kernel_rfl) (by kernel_rfl) (by kernel_rfl) rfl rfl rfl (fun F hs => .move rfl) (by kernel_rfl) (listed' := #[true, true, false, false, false, false, false, false, false, false, false, false, false, false]) ?_
    refine As.take 2 rfl (by kernel_rfl) (by kernel_rfl) (by kernel_rfl) rfl rfl rfl (fun F hs => .nilCheck rfl) (by kernel_rfl) (listed' := #[true, true, true, false, false, false, false, false, false, false, false, false, false, false]) ?_
    refine As.take 3 rfl (by kernel_rfl) (by kernel_rfl) (by kernel_rfl) rfl rfl rfl (fun F hs => .fieldAddr rfl fa53_2) (by kernel_rfl) (listed' := #[true, true, true, true, false, false, false, false, false, false, false, false, false, false]) ?_
    refine As.take 5 rfl (by kernel_rfl) (by kernel_rfl) (by kernel_rfl) rfl rfl rfl (fun F hs => .move rfl) (by kernel_rfl) (listed' := #[true, true, true, true, false, true, false, false, false, false, false, false, false, false]) ?_
    refine As.take 7 rfl (by kernel_rfl) (by kernel_rfl) (by kernel_rfl) rfl rfl rfl (fun F hs => .move rfl) (by kernel_rfl) (listed' := #[true, true, true, true, false, true, false, true, false, false, false, false, false, false]) ?_
    refine As.take 8 rfl (by kernel_rfl) (by kernel_rfl) (by kernel_rfl) rfl rfl rfl (fun F hs => .move rfl) (by kernel_rfl) (listed' := #[true, true, true, true, false, true, false, true, true, false, false, false, false, false]) ?_
    refine As.two (i := 4) (j := 9) (by kernel_rfl) ?_ ?_
    ·
      refine Ao.st rfl (.loadP rfl (by repeat first | exact TakeP.here _ | apply TakeP.there) Tryd.isAgg3 (hs_fill hst2 hl3)) rfl rfl rfl (by kernel_rfl) (listed' := #[true, true, true, true, true, true, false, true, true, false, false, false, false, false]) ?_
      refine As.take 6 rfl (by kernel_rfl) (by kernel_rfl) (by kernel_rfl) rfl rfl rfl (fun F hs => .add rfl rfl (by first | exact IntWalk.i64_in _ (by omega) | rfl)) (by kernel_rfl) (listed' := #[true, true, true, true, true, true, true, true, true, false, false, false, false, false]) ?_
      refine As.take 10 rfl (by kernel_rfl) (by kernel_rfl) (by kernel_rfl) rfl rfl rfl (fun F hs => .nilCheck rfl) (by kernel_rfl) (listed' := #[true, true, true, true, true, true, true, true, true, false, true, false, false, false]) ?_
      refine As.take 11 rfl (by kernel_rfl) (by kernel_rfl) (by kernel_rfl) rfl rfl rfl (fun F hs => .fieldAddr rfl fa53_2) (by kernel_rfl) (listed' := #[true, true, true, true, true, true, true, true, true, false, true, true, false, false]) ?_
      refine As.two (i := 9) (j := 12) (by kernel_rfl) ?_ ?_
      ·
        refine Ao.st rfl (.slice_l (lo := n) rfl rfl (Rd.ro hbv) Tryd.runUnderlying22 Tryd.sizeOf5 rfl (by omega)) rfl rfl rfl (by kernel_rfl) (listed' := #[true, true, true, true, true, true, true, true, true, true, true, true, false, false]) ?_
        refine As.one (i := 12) (by kernel_rfl) ?_
        refine Ao.ef10 rfl (.store (cs' := hsC st re3 ((buf.length + n : Nat) : Int) ((m.long + bs.length : Nat) : Int)) rfl rfl (by repeat first | exact TakeP.here _ | apply TakeP.there) Tryd.sizeOf3 (by rw [hs_len hst2 hl3]; rfl) rfl (hs_set_fill hst2 hl3)) rfl rfl (by kernel_rfl) (listed' := #[true, true, true, true, true, true, true, true, true, true, true, true, true, false]) ?_
        refine As.take 13 rfl (by kernel_rfl) (by kernel_rfl) (by kernel_rfl) rfl rfl rfl (fun F hs => .assign rfl) (by kernel_rfl) (listed' := #[true, true, true, true, true, true, true, true, true, true, true, true, true, true]) ?_
        refine As.done (by kernel_rfl) ?_
        refine Ext.seq ?_
        refine Cod.seq ?_
        refine Cod.region ?_
        have hbv3 : SlR F.hf (Value.cut bv n (bs.drop i).length 1) 1 (bs.drop (i + n)).length (u8s (bs.drop (i + n))) := by have h := hbv.cut8 (lo := n) (by omega) (Nat.le_refl _) take_all8; rwa [List.drop_drop] at h
        have hbuf3 : re3.take (buf.length + n) = buf ++ (bs.drop i).take n := by rw [hre3, htk2, List.take_append_of_le_length (by simp only [List.length_append, List.length_take]; omega), List.take_of_length_le (by simp only [List.length_append, List.length_take]; omega)]
        have hcat : buf ++ bs.drop i = (buf ++ (bs.drop i).take n) ++ bs.drop (i + n) := by rw [List.append_assoc, ← List.drop_drop, List.take_append_drop]
        refine Ops.st (.move rfl) rfl rfl rfl ?_
        refine Ops.st (.nilCheck rfl) rfl rfl rfl ?_
        refine Ops.st (.fieldAddr rfl fa53_2) rfl rfl rfl ?_
        refine Ops.st (.loadP rfl (by repeat first | exact TakeP.here _ | apply TakeP.there) Tryd.isAgg3 (hs_fill hst2 hl3)) rfl rfl rfl ?_
        refine Ops.st (.eql rfl rfl) rfl rfl rfl ?_
        refine Ops.nil ?_
        refine Ext.seq ?_
        refine Cod.condD rfl (fun h2 => ?_) (fun h2 => ?_)
        ·
          refine Cod.seq ?_
          refine Cod.region ?_
          refine Ops.st (.move rfl) rfl rfl rfl ?_
          refine Ops.st (.move rfl) rfl rfl rfl ?_
          refine Ops.st (.nilCheck rfl) rfl rfl rfl ?_
          refine Ops.st (.fieldAddr rfl fa53_1) rfl rfl rfl ?_
          refine Ops.st (.sliceArr rfl Tryd.runUnderlying51 Tryd.sizeOf5) rfl rfl rfl ?_
          refine Ops.call ⟨Tryd.call26⟩ rfl rfl rfl (by repeat' first | exact Takes.nil _ | exact TakeP.here _ | apply TakeP.there | apply Takes.cons) (fun F' hF => shaTake_any hst2 hl3 (tab.mono hF.hf)) rfl rfl rfl ?_
          rintro _ _ rfl
          refine Ops.nil ?_
          refine Ext.seq ?_
          refine Cod.region ?_
          have hbl : (hblock st re3).length = 8 := hblock_len _ hst2
          have hr64 : re3 = buf ++ (bs.drop i).take n := by rw [← hbuf3, List.take_of_length_le (by omega)]
          refine Ops.st (.move rfl) rfl rfl rfl ?_
          refine Ops.st (.nilCheck rfl) rfl rfl rfl ?_
          refine Ops.st (.fieldAddr rfl fa53_2) rfl rfl rfl ?_
          refine Ops.ef10 (.store (cs' := hsC (hblock st re3) re3 ((0 : Nat) : Int) ((m.long + bs.length : Nat) : Int)) rfl rfl (by repeat first | exact TakeP.here _ | apply TakeP.there) Tryd.sizeOf3 (by rw [hs_len hbl hl3]; rfl) rfl (hs_set_fill hbl hl3)) rfl rfl ?_
          refine Ops.nil ?_
          refine Ext.block ?_
          exact Ext.back ⟨i + n, Value.cut bv n (bs.drop i).length 1, hblock st re3, re3, []⟩ (by dsimp only; omega) ⟨by dsimp only; omega, hbv3, hbl, hl3, rfl, Nat.zero_lt_succ _, by rw [← hfull, hcat, ← hr64, hfull_block hl3]; rfl⟩ ⟨rfl, rfl, trivial⟩ (Ent.take (by repeat' first | exact Takes.nil _ | exact TakeP.here _ | apply TakeP.there | apply Takes.cons))
        ·
          refine Cod.skip ?_
          refine Ext.block ?_
          exact Ext.back ⟨i + n, Value.cut bv n (bs.drop i).length 1, st, re3, buf ++ (bs.drop i).take n⟩ (by dsimp only; omega) ⟨by dsimp only; omega, hbv3, hst2, hl3, by dsimp only; rw [List.length_append, List.length_take, Nat.min_eq_left (by omega)]; exact hbuf3, by dsimp only; rw [List.length_append, List.length_take]; omega, by rw [← hfull, hcat]⟩ ⟨rfl, rfl, trivial⟩ (by dsimp only; rw [show (buf ++ (bs.drop i).take n).length = buf.length + n by rw [List.length_append, List.length_take, Nat.min_eq_left (by omega)]]; exact Ent.take (by repeat' first | exact Takes.nil _ | exact TakeP.here _ | apply TakeP.there | apply Takes.cons))
      ·
        refine Ao.ef10 rfl (.store (cs' := hsC st re3 ((buf.length + n : Nat) : Int) ((m.long + bs.length : Nat) : Int)) rfl rfl (by repeat first | exact TakeP.here _ | apply TakeP.there) Tryd.sizeOf3 (by rw [hs_len hst2 hl3]; rfl) rfl (hs_set_fill hst2 hl3)) rfl rfl (by kernel_rfl) (listed' := #[true, true, true, true, true, true, true, true, true, false, true, true, true, false]) ?_
        refine As.one (i := 9) (by kernel_rfl) ?_
        refine Ao.st rfl (.slice_l (lo := n) rfl rfl (Rd.ro hbv) Tryd.runUnderlying22 Tryd.sizeOf5 rfl (by omega)) rfl rfl rfl (by kernel_rfl) (listed' := #[true, true, true, true, true, true, true, true, true, true, true, true, true, false]) ?_
        refine As.take 13 rfl (by kernel_rfl) (by kernel_rfl) (by kernel_rfl) rfl rfl rfl (fun F hs => .assign rfl) (by kernel_rfl) (listed' := #[true, true, true, true, true, true, true, true, true, true, true, true, true, true]) ?_
        refine As.done (by kernel_rfl) ?_
        refine Ext.seq ?_
        refine Cod.seq ?_
        refine Cod.region ?_
        have hbv3 : SlR F.hf (Value.cut bv n (bs.drop i).length 1) 1 (bs.drop (i + n)).length (u8s (bs.drop (i + n))) := by have h := hbv.cut8 (lo := n) (by omega) (Nat.le_refl _) take_all8; rwa [List.drop_drop] at h
        have hbuf3 : re3.take (buf.length + n) = buf ++ (bs.drop i).take n := by rw [hre3, htk2, List.take_append_of_le_length (by simp only [List.length_append, List.length_take]; omega), List.take_of_length_le (by simp only [List.length_append, List.length_take]; omega)]
        have hcat : buf ++ bs.drop i = (buf ++ (bs.drop i).take n) ++ bs.drop (i + n) := by rw [List.append_assoc, ← List.drop_drop, List.take_append_drop]
        refine Ops.st (.move rfl) rfl rfl rfl ?_
        refine Ops.st (.nilCheck rfl) rfl rfl rfl ?_
        refine Ops.st (.fieldAddr rfl fa53_2) rfl rfl rfl ?_
        refine Ops.st (.loadP rfl (by repeat first | exact TakeP.here _ | apply TakeP.there) Tryd.isAgg3 (hs_fill hst2 hl3)) rfl rfl rfl ?_
        refine Ops.st (.eql rfl rfl) rfl rfl rfl ?_
        refine Ops.nil ?_
        refine Ext.seq ?_
        refine Cod.condD rfl (fun h2 => ?_) (fun h2 => ?_)
        ·
          refine Cod.seq ?_
          refine Cod.region ?_
          refine Ops.st (.move rfl) rfl rfl rfl ?_
          refine Ops.st (.move rfl) rfl rfl rfl ?_
          refine Ops.st (.nilCheck rfl) rfl rfl rfl ?_
          refine Ops.st (.fieldAddr rfl fa53_1) rfl rfl rfl ?_
          refine Ops.st (.sliceArr rfl Tryd.runUnderlying51 Tryd.sizeOf5) rfl rfl rfl ?_
          refine Ops.call ⟨Tryd.call26⟩ rfl rfl rfl (by repeat' first | exact Takes.nil _ | exact TakeP.here _ | apply TakeP.there | apply Takes.cons) (fun F' hF => shaTake_any hst2 hl3 (tab.mono hF.hf)) rfl rfl rfl ?_
          rintro _ _ rfl
          refine Ops.nil ?_
          refine Ext.seq ?_
          refine Cod.region ?_
          have hbl : (hblock st re3).length = 8 := hblock_len _ hst2
          have hr64 : re3 = buf ++ (bs.drop i).take n := by rw [← hbuf3, List.take_of_length_le (by omega)]
          refine Ops.st (.move rfl) rfl rfl rfl ?_
          refine Ops.st (.nilCheck rfl) rfl rfl rfl ?_
          refine Ops.st (.fieldAddr rfl fa53_2) rfl rfl rfl ?_
          refine Ops.ef10 (.store (cs' := hsC (hblock st re3) re3 ((0 : Nat) : Int) ((m.long + bs.length : Nat) : Int)) rfl rfl (by repeat first | exact TakeP.here _ | apply TakeP.there) Tryd.sizeOf3 (by rw [hs_len hbl hl3]; rfl) rfl (hs_set_fill hbl hl3)) rfl rfl ?_
          refine Ops.nil ?_
          refine Ext.block ?_
          exact Ext.back ⟨i + n, Value.cut bv n (bs.drop i).length 1, hblock st re3, re3, []⟩ (by dsimp only; omega) ⟨by dsimp only; omega, hbv3, hbl, hl3, rfl, Nat.zero_lt_succ _, by rw [← hfull, hcat, ← hr64, hfull_block hl3]; rfl⟩ ⟨rfl, rfl, trivial⟩ (Ent.take (by repeat' first | exact Takes.nil _ | exact TakeP.here _ | apply TakeP.there | apply Takes.cons))
        ·
          refine Cod.skip ?_
          refine Ext.block ?_
          exact Ext.back ⟨i + n, Value.cut bv n (bs.drop i).length 1, st, re3, buf ++ (bs.drop i).take n⟩ (by dsimp only; omega) ⟨by dsimp only; omega, hbv3, hst2, hl3, by dsimp only; rw [List.length_append, List.length_take, Nat.min_eq_left (by omega)]; exact hbuf3, by dsimp only; rw [List.length_append, List.length_take]; omega, by rw [← hfull, hcat]⟩ ⟨rfl, rfl, trivial⟩ (by dsimp only; rw [show (buf ++ (bs.drop i).take n).length = buf.length + n by rw [List.length_append, List.length_take, Nat.min_eq_left (by omega)]]; exact Ent.take (by repeat' first | exact Takes.nil _ | exact TakeP.here _ | apply TakeP.there | apply Takes.cons))
    ·
      refine Ao.st rfl (.slice_l (lo := n) rfl rfl (Rd.ro hbv) Tryd.runUnderlying22 Tryd.sizeOf5 rfl (by omega)) rfl rfl rfl (by kernel_rfl) (listed' := #[true, true, true, true, false, true, false, true, true, true, false, false, false, false]) ?_
      refine As.one (i := 4) (by kernel_rfl) ?_
      refine Ao.st rfl (.loadP rfl (by repeat first | exact TakeP.here _ | apply TakeP.there) Tryd.isAgg3 (hs_fill hst2 hl3)) rfl rfl rfl (by kernel_rfl) (listed' := #[true, true, true, true, true, true, false, true, true, true, false, false, false, false]) ?_
      refine As.take 6 rfl (by kernel_rfl) (by kernel_rfl) (by kernel_rfl) rfl rfl rfl (fun F hs => .add rfl rfl (by first | exact IntWalk.i64_in _ (by omega) | rfl)) (by kernel_rfl) (listed' := #[true, true, true, true, true, true, true, true, true, true, false, false, false, false]) ?_
      refine As.take 10 rfl (by kernel_rfl) (by kernel_rfl) (by kernel_rfl) rfl rfl rfl (fun F hs => .nilCheck rfl) (by kernel_rfl) (listed' := #[true, true, true, true, true, true, true, true, true, true, true, false, false, false]) ?_
      refine As.take 11 rfl (by kernel_rfl) (by kernel_rfl) (by kernel_rfl) rfl rfl rfl (fun F hs => .fieldAddr rfl fa53_2) (by kernel_rfl) (listed' := #[true, true, true, true, true, true, true, true, true, true, true, true, false, false]) ?_
      refine As.one (i := 12) (by kernel_rfl) ?_
      refine Ao.ef10 rfl (.store (cs' := hsC st re3 ((buf.length + n : Nat) : Int) ((m.long + bs.length : Nat) : Int)) rfl rfl (by repeat first | exact TakeP.here _ | apply TakeP.there) Tryd.sizeOf3 (by rw [hs_len hst2 hl3]; rfl) rfl (hs_set_fill hst2 hl3)) rfl rfl (by kernel_rfl) (listed' := #[true, true, true, true, true, true, true, true, true, true, true, true, true, false]) ?_
      refine As.take 13 rfl (by kernel_rfl) (by kernel_rfl) (by kernel_rfl) rfl rfl rfl (fun F hs => .assign rfl) (by kernel_rfl) (listed' := #[true, true, true, true, true, true, true, true, true, true, true, true, true, true]) ?_
      refine As.done (by kernel_rfl) ?_
      refine Ext.seq ?_
      refine Cod.seq ?_
      refine Cod.region ?_
      have hbv3 : SlR F.hf (Value.cut bv n (bs.drop i).length 1) 1 (bs.drop (i + n)).length (u8s (bs.drop (i + n))) := by have h := hbv.cut8 (lo := n) (by omega) (Nat.le_refl _) take_all8; rwa [List.drop_drop] at h
      have hbuf3 : re3.take (buf.length + n) = buf ++ (bs.drop i).take n := by rw [hre3, htk2, List.take_append_of_le_length (by simp only [List.length_append, List.length_take]; omega), List.take_of_length_le (by simp only [List.length_append, List.length_take]; omega)]
      have hcat : buf ++ bs.drop i = (buf ++ (bs.drop i).take n) ++ bs.drop (i + n) := by rw [List.append_assoc, ← List.drop_drop, List.take_append_drop]
      refine Ops.st (.move rfl) rfl rfl rfl ?_
      refine Ops.st (.nilCheck rfl) rfl rfl rfl ?_
      refine Ops.st (.fieldAddr rfl fa53_2) rfl rfl rfl ?_
      refine Ops.st (.loadP rfl (by repeat first | exact TakeP.here _ | apply TakeP.there) Tryd.isAgg3 (hs_fill hst2 hl3)) rfl rfl rfl ?_
      refine Ops.st (.eql rfl rfl) rfl rfl rfl ?_
      refine Ops.nil ?_
      refine Ext.seq ?_
      refine Cod.condD rfl (fun h2 => ?_) (fun h2 => ?_)
      ·
        refine Cod.seq ?_
        refine Cod.region ?_
        refine Ops.st (.move rfl) rfl rfl rfl ?_
        refine Ops.st (.move rfl) rfl rfl rfl ?_
        refine Ops.st (.nilCheck rfl) rfl rfl rfl ?_
        refine Ops.st (.fieldAddr rfl fa53_1) rfl rfl rfl ?_
        refine Ops.st (.sliceArr rfl Tryd.runUnderlying51 Tryd.sizeOf5) rfl rfl rfl ?_
        refine Ops.call ⟨Tryd.call26⟩ rfl rfl rfl (by repeat' first | exact Takes.nil _ | exact TakeP.here _ | apply TakeP.there | apply Takes.cons) (fun F' hF => shaTake_any hst2 hl3 (tab.mono hF.hf)) rfl rfl rfl ?_
        rintro _ _ rfl
        refine Ops.nil ?_
        refine Ext.seq ?_
        refine Cod.region ?_
        have hbl : (hblock st re3).length = 8 := hblock_len _ hst2
        have hr64 : re3 = buf ++ (bs.drop i).take n := by rw [← hbuf3, List.take_of_length_le (by omega)]
        refine Ops.st (.move rfl) rfl rfl rfl ?_
        refine Ops.st (.nilCheck rfl) rfl rfl rfl ?_
        refine Ops.st (.fieldAddr rfl fa53_2) rfl rfl rfl ?_
        refine Ops.ef10 (.store (cs' := hsC (hblock st re3) re3 ((0 : Nat) : Int) ((m.long + bs.length : Nat) : Int)) rfl rfl (by repeat first | exact TakeP.here _ | apply TakeP.there) Tryd.sizeOf3 (by rw [hs_len hbl hl3]; rfl) rfl (hs_set_fill hbl hl3)) rfl rfl ?_
        refine Ops.nil ?_
        refine Ext.block ?_
        exact Ext.back ⟨i + n, Value.cut bv n (bs.drop i).length 1, hblock st re3, re3, []⟩ (by dsimp only; omega) ⟨by dsimp only; omega, hbv3, hbl, hl3, rfl, Nat.zero_lt_succ _, by rw [← hfull, hcat, ← hr64, hfull_block hl3]; rfl⟩ ⟨rfl, rfl, trivial⟩ (Ent.take (by repeat' first | exact Takes.nil _ | exact TakeP.here _ | apply TakeP.there | apply Takes.cons))
      ·
        refine Cod.skip ?_
        refine Ext.block ?_
        exact Ext.back ⟨i + n, Value.cut bv n (bs.drop i).length 1, st, re3, buf ++ (bs.drop i).take n⟩ (by dsimp only; omega) ⟨by dsimp only; omega, hbv3, hst2, hl3, by dsimp only; rw [List.length_append, List.length_take, Nat.min_eq_left (by omega)]; exact hbuf3, by dsimp only; rw [List.length_append, List.length_take]; omega, by rw [← hfull, hcat]⟩ ⟨rfl, rfl, trivial⟩ (by dsimp only; rw [show (buf ++ (bs.drop i).take n).length = buf.length + n by rw [List.length_append, List.length_take, Nat.min_eq_left (by omega)]]; exact Ent.take (by repeat' first | exact Takes.nil _ | exact TakeP.here _ | apply TakeP.there | apply Takes.cons))
  ·
    refine Cod.exit (Ext.seqX (Ext.stopX (Ext.hit ?_)))
    have hi0 : bs.drop i = [] := List.eq_nil_of_length_eq_zero (by omega)
    rw [hi0, List.append_nil, hfull_few hbuf] at hfull
    have hw : m.write bs = ⟨st, buf, m.long + bs.length⟩ := by unfold HM.write; rw [← hfull]
    rw [hw]
    exact Ext.ret0EN rfl (Ent.fold1 (A := hashP b ⟨st, buf, m.long + bs.length⟩) (by repeat' first | exact Takes.nil _ | exact TakeP.here _ | apply TakeP.there | apply Takes.cons) (hash_mk (m := ⟨st, buf, m.long + bs.length⟩) hre2 htk2)) (rfl)
end Go.Proofs.YtdnbnfebapofnaaDoor
