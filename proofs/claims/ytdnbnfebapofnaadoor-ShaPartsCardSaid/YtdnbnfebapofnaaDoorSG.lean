/- Load of a hash; the reference's small functions. No condition. -/
import Derived.Test.YtdnbnfebapofnaaDoorSF
import Derived.Test.YtdnbnfebapofnaaDoorSC
namespace Go.Proofs.YtdnbnfebapofnaaDoor
open Go

def num64 (bs : List UInt8) : UInt64 := (wordAt bs 32).toUInt64 <<< UInt64.ofNat 32 ||| (wordAt bs 36).toUInt64
/-- Is that a hash's Save? -/
def isSave (bs : List UInt8) : Bool := decide (40 ≤ bs.length) && (decide ((num64 bs).toNat ≤ 1099511627776) && decide (UInt64.ofNat (bs.length - 40) = num64 bs % 64))
def HM.load (bs : List UInt8) : HM := ⟨(List.range 8).map fun i => wordAt bs (4 * i), bs.drop 40, (num64 bs).toNat⟩
def ldSt (bs : List UInt8) (i : Nat) : List UInt32 := (List.range 8).map fun j => if j < i then wordAt bs (4 * j) else 0
theorem ldSt_len (bs : List UInt8) (i : Nat) : (ldSt bs i).length = 8 := by simp [ldSt]
theorem ldSt_set {bs : List UInt8} {i : Nat} : (ldSt bs i).set i (wordAt bs (4 * i)) = ldSt bs (i + 1) := by
  refine List.ext_getElem? fun j => ?_
  rw [List.getElem?_set, ldSt_len]
  by_cases hj : i = j
  · subst hj
    rw [if_pos rfl]
    by_cases h : i < 8
    · rw [if_pos h]; simp [ldSt, List.getElem?_range h]
    · rw [if_neg h, List.getElem?_eq_none (by rw [ldSt_len]; omega)]
  · rw [if_neg hj]
    by_cases h : j < 8
    · simp only [ldSt, List.getElem?_map, List.getElem?_range h, Option.map_some]
      congr 1
      by_cases h2 : j < i
      · rw [if_pos h2, if_pos (by omega)]
      · rw [if_neg h2, if_neg (by omega)]
    · rw [List.getElem?_eq_none (by rw [ldSt_len]; omega), List.getElem?_eq_none (by rw [ldSt_len]; omega)]
theorem ldSt_zero (bs : List UInt8) : ldSt bs 0 = List.replicate 8 0 := by simp [ldSt]; rfl
theorem ldSt_all (bs : List UInt8) : ldSt bs 8 = (HM.load bs).st := rfl
theorem ofNat_mod {n : Nat} {x : UInt64} (hn : n < 18446744073709551616) (h : UInt64.ofNat n = x % 64) : n = x.toNat % 64 := by
  have h1 := congrArg UInt64.toNat h
  rw [UInt64.toNat_ofNat', UInt64.toNat_mod] at h1
  have h2 : (64 : UInt64).toNat = 64 := rfl
  rw [h2] at h1
  omega
theorem HM.load_ok {bs : List UInt8} (h : isSave bs = true) (hl : bs.length < 18446744073709551616) : (HM.load bs).Ok := by
  simp only [isSave, Bool.and_eq_true, decide_eq_true_eq] at h
  have h1 := ofNat_mod (by omega) h.2.2
  refine ⟨by simp [HM.load], ?_, ?_, ?_⟩
  · simp only [HM.load, List.length_drop]; omega
  · simp only [HM.load, List.length_drop]; omega
  · simp only [HM.load]; omega

set_option maxRecDepth 4000 in
theorem shaLoad_any {F : Fr} {v : Value} {bs : List UInt8} (hr : SlR F.hf v 1 bs.length (u8s bs)) :
    Spec Tryd.prog F 18 [v] [] (fun u hs' => (isSave bs = true ∧ ∃ b, u = .tuple #[.pointer (some ⟨b, 0, none⟩), .int .i64 0] ∧ hs' = [hashP b (HM.load bs)]) ∨ (isSave bs = false ∧ u = .tuple #[.pointer none, .int .i64 2] ∧ hs' = [])) := by
  have hsm := hr.small
  refine Spec.body Tryd.func18 rfl Tryd.ntmps18 rfl ?_
  refine Cod.seq ?_
  refine Cod.region ?_
  refine Ops.st (.assign rfl) rfl rfl rfl ?_
  refine Ops.st (.assign rfl) rfl rfl rfl ?_
  refine Ops.nil ?_
  refine Ext.seq ?_
  refine Cod.seq ?_
  refine Cod.seq ?_
  refine Cod.region ?_
  refine Ops.st (.move rfl) rfl rfl rfl ?_
  refine Ops.st (.len rfl (Rd.ro hr) Tryd.runUnderlying22) rfl rfl rfl ?_
  refine Ops.st (.lss rfl rfl) rfl rfl rfl ?_
  refine Ops.nil ?_
  refine Ext.seq ?_
  refine Cod.condD rfl (fun h0 => ?_) (fun h0 => ?_)
  ·
    refine Cod.seq ?_
    refine Cod.region ?_
    refine Ops.st (.assign rfl) rfl rfl rfl ?_
    refine Ops.st (.assign rfl) rfl rfl rfl ?_
    refine Ops.nil ?_
    refine Ext.seq ?_
    exact Cod.ret (Ext.seqR (Ext.ret2 rfl rfl rfl (.inr ⟨by rw [isSave, decide_eq_false (by omega)]; rfl, rfl, rfl⟩)))
  ·
    refine Cod.skip ?_
    refine Ext.seq ?_
    refine Cod.seq ?_
    refine Cod.region ?_
    refine Ops.st (.build (z := .agg (hsC (List.replicate 8 0) (List.replicate 64 0) 0 0).toArray) rfl (fun w => by kernel_rfl)) rfl rfl rfl ?_
    refine Ops.ef (.box (cs := hsC (List.replicate 8 0) (List.replicate 64 0) 0 0) rfl rfl) rfl rfl rfl ?_
    rintro _ _ ⟨b, rfl, rfl⟩
    refine Ops.st (.assign rfl) rfl rfl rfl ?_
    refine Ops.nil ?_
    refine Ext.seq ?_
    refine Cod.seq ?_
    refine Cod.seq ?_
    refine Cod.region ?_
    refine Ops.st (.move rfl) rfl rfl rfl ?_
    refine Ops.nil ?_
    refine Ext.seq ?_
    refine Cod.block ?_
    refine Cod.loop (fun i : Nat => ⟨i ≤ 8, [(0, v), (4, .pointer (some ⟨b, 0, none⟩)), (12, .int .i64 i)], [pt b 53 (hsC (ldSt bs i) (List.replicate 64 0) 0 0)]⟩) (fun i => 8 - i) 0 (Nat.zero_le _) ⟨rfl, rfl, rfl, trivial⟩ (by rw [ldSt_zero]; exact Ent.take (by repeat' first | exact Takes.nil _ | exact TakeP.here _ | apply TakeP.there | apply Takes.cons)) ?_
    rintro i hi
    dsimp only
    refine Cod.seq ?_
    refine Cod.region ?_
    refine Ops.st (.lss rfl rfl) rfl rfl rfl ?_
    refine Ops.nil ?_
    refine Ext.seq ?_
    refine Cod.seq ?_
    refine Cod.condD rfl (fun h1 => ?_) (fun h1 => ?_)
    ·
      refine Cod.skip ?_
      refine Ext.seq ?_
      refine Cod.seq ?_
      refine Cod.block ?_
      refine Cod.seq ?_
      refine Cod.region ?_
      refine Ops.st (.move rfl) rfl rfl rfl ?_
      refine Ops.st (.assign rfl) rfl rfl rfl ?_
      refine Ops.nil ?_
      refine Ext.seq ?_
      refine Cod.regionA mixed (by kernel_rfl) (listed := #[false, false, false, false, false, false, false, false, false, false, false]) ?_
      refine As.take 0 rfl (by kernel_rfl) (by kernel_rfl) (by kernel_rfl) rfl rfl rfl (fun F hs => .move rfl) (by kernel_rfl) (listed' := #[true, false, false, false, false, false, false, false, false, false, false]) ?_
      refine As.take 1 rfl (by kernel_rfl) (by kernel_rfl) (by kernel_rfl) rfl rfl rfl (fun F hs => .move rfl) (by kernel_rfl) (listed' := #[true, true, false, false, false, false, false, false, false, false, false]) ?_
      refine As.take 2 rfl (by kernel_rfl) (by kernel_rfl) (by kernel_rfl) rfl rfl rfl (fun F hs => .move rfl) (by kernel_rfl) (listed' := #[true, true, true, false, false, false, false, false, false, false, false]) ?_
      refine As.take 3 rfl (by kernel_rfl) (by kernel_rfl) (by kernel_rfl) rfl rfl rfl (fun F hs => .move rfl) (by kernel_rfl) (listed' := #[true, true, true, true, false, false, false, false, false, false, false]) ?_
      refine As.take 4 rfl (by kernel_rfl) (by kernel_rfl) (by kernel_rfl) rfl rfl rfl (fun F hs => .mul rfl rfl (by first | exact IntWalk.i64_in _ (by omega) | rfl)) (by kernel_rfl) (listed' := #[true, true, true, true, true, false, false, false, false, false, false]) ?_
      refine As.take 7 rfl (by kernel_rfl) (by kernel_rfl) (by kernel_rfl) rfl rfl rfl (fun F hs => .nilCheck rfl) (by kernel_rfl) (listed' := #[true, true, true, true, true, false, false, true, false, false, false]) ?_
      refine As.take 8 rfl (by kernel_rfl) (by kernel_rfl) (by kernel_rfl) rfl rfl rfl (fun F hs => .fieldAddr rfl fa53_0) (by kernel_rfl) (listed' := #[true, true, true, true, true, false, false, true, true, false, false]) ?_
      refine As.quiet [5, 6, 9] 3 1 rfl ?_
      refine Aq.st (i := 5) ⟨rfl, by kernel_rfl, by kernel_rfl, by kernel_rfl, by kernel_rfl, by kernel_rfl⟩ (.slice_l (lo := 4 * i) rfl rfl (Rd.ro hr) Tryd.runUnderlying22 Tryd.sizeOf5 rfl (by omega)) rfl rfl rfl (by kernel_rfl) (listed' := #[true, true, true, true, true, true, false, true, true, false, false]) ?_
      refine Aq.call (i := 6) ⟨rfl, by kernel_rfl, by kernel_rfl, by kernel_rfl, by kernel_rfl, by kernel_rfl⟩ ⟨Tryd.call30⟩ rfl rfl rfl (by repeat' first | exact Takes.nil _ | exact TakeP.here _ | apply TakeP.there | apply Takes.cons) (fun F' hF => Spec.quiet (by have h := shaWord_any (F := F') (bs := bs.drop (4 * i)) ((hr.cut8 (lo := 4 * i) (by omega) (Nat.le_refl _) take_all8).mono hF.hf) (by simp; omega); rw [wordAt_drop, Nat.add_zero] at h; exact h)) rfl rfl rfl (by kernel_rfl) (listed' := #[true, true, true, true, true, true, true, true, true, false, false]) ?_
      refine Aq.st (i := 9) ⟨rfl, by kernel_rfl, by kernel_rfl, by kernel_rfl, by kernel_rfl, by kernel_rfl⟩ (.indexAddrA (j := i) (off := i) rfl rfl Tryd.runUnderlying47 Tryd.sizeOf46 rfl (by omega) (by omega)) rfl rfl rfl (by kernel_rfl) (listed' := #[true, true, true, true, true, true, true, true, true, true, false]) ?_
      refine Aq.done (by kernel_rfl) ?_
      refine As.one (i := 10) (by kernel_rfl) ?_
      refine Ao.ef10 rfl (.store (cs' := hsC (ldSt bs (i + 1)) (List.replicate 64 0) 0 0) rfl rfl (by repeat first | exact TakeP.here _ | apply TakeP.there) Tryd.sizeOf46 (by rw [hs_len (ldSt_len bs i) (by simp)]; exact Nat.ble_eq_true_of_le (by omega)) rfl (by rw [hs_set_st (ldSt_len bs i) (by omega), ldSt_set])) rfl rfl (by kernel_rfl) (listed' := #[true, true, true, true, true, true, true, true, true, true, true]) ?_
      refine As.done (by kernel_rfl) ?_
      refine Ext.block ?_
      refine Ext.seq ?_
      refine Cod.region ?_
      refine Ops.st (.add rfl rfl (by first | exact IntWalk.i64_in _ (by omega) | rfl)) rfl rfl rfl ?_
      refine Ops.st (.move rfl) rfl rfl rfl ?_
      refine Ops.nil ?_
      exact Ext.back (i + 1) (by omega) (by omega) ⟨rfl, rfl, rfl, trivial⟩ (Ent.take (by repeat' first | exact Takes.nil _ | exact TakeP.here _ | apply TakeP.there | apply Takes.cons))
    ·
      refine Cod.exit (Ext.seqX (Ext.stopX (Ext.hit ?_)))
      refine Ext.seq ?_
      refine Cod.seq ?_
      obtain rfl : i = 8 := by omega
      rw [ldSt_all]
      refine Cod.regionQ mixed (by kernel_rfl) ?_
      refine Qs.st (.move rfl) rfl rfl rfl ?_
      refine Qs.st (.slice_l (lo := 32) rfl rfl (Rd.ro hr) Tryd.runUnderlying22 Tryd.sizeOf5 rfl (by omega)) rfl rfl rfl ?_
      refine Qs.call ⟨Tryd.call30⟩ rfl rfl rfl (by repeat' first | exact Takes.nil _ | exact TakeP.here _ | apply TakeP.there | apply Takes.cons) (fun F' hF => Spec.quiet (by have h := shaWord_any (F := F') (bs := bs.drop 32) ((hr.cut8 (lo := 32) (by omega) (Nat.le_refl _) take_all8).mono hF.hf) (by simp; omega); rw [wordAt_drop] at h; exact h)) rfl rfl rfl ?_
      refine Qs.st (.convW32_64 rfl Tryd.underlying46 Tryd.underlying45) rfl rfl rfl ?_
      refine Qs.st (.shlW64 (n := 32) rfl rfl rfl (by first | omega | decide)) rfl rfl rfl ?_
      refine Qs.st (.move rfl) rfl rfl rfl ?_
      refine Qs.st (.slice_l (lo := 36) rfl rfl (Rd.ro hr) Tryd.runUnderlying22 Tryd.sizeOf5 rfl (by omega)) rfl rfl rfl ?_
      refine Qs.call ⟨Tryd.call30⟩ rfl rfl rfl (by repeat' first | exact Takes.nil _ | exact TakeP.here _ | apply TakeP.there | apply Takes.cons) (fun F' hF => Spec.quiet (by have h := shaWord_any (F := F') (bs := bs.drop 36) ((hr.cut8 (lo := 36) (by omega) (Nat.le_refl _) take_all8).mono hF.hf) (by simp; omega); rw [wordAt_drop] at h; exact h)) rfl rfl rfl ?_
      refine Qs.st (.convW32_64 rfl Tryd.underlying46 Tryd.underlying45) rfl rfl rfl ?_
      refine Qs.st (.orW64 rfl rfl) rfl rfl rfl ?_
      refine Qs.st (.assign rfl) rfl rfl rfl ?_
      refine Qs.nil ?_
      refine Ext.seq ?_
      refine Cod.seq ?_
      refine Cod.seq ?_
      obtain ⟨n, hn⟩ : ∃ n, n = num64 bs := ⟨_, rfl⟩
      rw [show (wordAt bs (32 + 0)).toUInt64 <<< UInt64.ofNat 32 ||| (wordAt bs (36 + 0)).toUInt64 = n from by rw [hn]; rfl]
      refine Cod.region ?_
      refine Ops.st (.move rfl) rfl rfl rfl ?_
      refine Ops.st (.gtr rfl rfl) rfl rfl rfl ?_
      refine Ops.st (.move rfl) rfl rfl rfl ?_
      refine Ops.splitD (t := 38) rfl (fun h2 => ?_) (fun h2 => ?_)
      ·
        refine Ops.skipG rfl rfl rfl (decide_eq_true h2) rfl rfl ?_
        refine Ops.skipG rfl rfl rfl (decide_eq_true h2) rfl rfl ?_
        refine Ops.skipG rfl rfl rfl (decide_eq_true h2) rfl rfl ?_
        refine Ops.skipG rfl rfl rfl (decide_eq_true h2) rfl rfl ?_
        refine Ops.skipG rfl rfl rfl (decide_eq_true h2) rfl rfl ?_
        refine Ops.skipG rfl rfl rfl (decide_eq_true h2) rfl rfl ?_
        refine Ops.skipG rfl rfl rfl (decide_eq_true h2) rfl rfl ?_
        refine Ops.st (.pickT rfl (decide_eq_true h2) rfl) rfl rfl rfl ?_
        refine Ops.nil ?_
        refine Ext.seq ?_
        refine Cod.condT rfl rfl ?_
        refine Cod.seq ?_
        refine Cod.region ?_
        refine Ops.st (.assign rfl) rfl rfl rfl ?_
        refine Ops.st (.assign rfl) rfl rfl rfl ?_
        refine Ops.nil ?_
        refine Ext.seq ?_
        exact Cod.ret (Ext.seqR (Ext.ret2E rfl rfl rfl (Ent.nil _) ((.inr ⟨by rw [isSave, ← hn, decide_eq_false (by omega : ¬ n.toNat ≤ 1099511627776)]; simp, rfl, rfl⟩))))
      ·
        refine Ops.stG rfl rfl rfl (decide_eq_false h2) (.move rfl) rfl rfl ?_
        refine Ops.stG rfl rfl rfl (decide_eq_false h2) (.len rfl (Rd.ro hr) Tryd.runUnderlying22) rfl rfl ?_
        refine Ops.stG rfl rfl rfl (decide_eq_false h2) (.sub rfl rfl (by first | exact IntWalk.i64_in _ (by omega) | rfl)) rfl rfl ?_
        refine Ops.stG rfl rfl rfl (decide_eq_false h2) (.convI_64 (a := bs.length - 40) rfl (by omega) Tryd.underlying3 Tryd.underlying45) rfl rfl ?_
        refine Ops.stG rfl rfl rfl (decide_eq_false h2) (.move rfl) rfl rfl ?_
        refine Ops.stG rfl rfl rfl (decide_eq_false h2) (.remW64 rfl (show _ = some (W64 64) from rfl) (by decide)) rfl rfl ?_
        refine Ops.stG rfl rfl rfl (decide_eq_false h2) (.neqW64 rfl rfl) rfl rfl ?_
        refine Ops.st (.pickF rfl (decide_eq_false h2) rfl) rfl rfl rfl ?_
        refine Ops.nil ?_
        refine Ext.seq ?_
        refine Cod.condD rfl (fun h3 => ?_) (fun h3 => ?_)
        ·
          refine Cod.seq ?_
          refine Cod.region ?_
          refine Ops.st (.assign rfl) rfl rfl rfl ?_
          refine Ops.st (.assign rfl) rfl rfl rfl ?_
          refine Ops.nil ?_
          refine Ext.seq ?_
          exact Cod.ret (Ext.seqR (Ext.ret2E rfl rfl rfl (Ent.nil _) ((.inr ⟨by rw [isSave, ← hn, decide_eq_false h3]; simp, rfl, rfl⟩))))
        ·
          refine Cod.skip ?_
          refine Ext.seq ?_
          refine Cod.seq ?_
          have h3' : UInt64.ofNat (bs.length - 40) = n % 64 := by simpa using h3
          have hsv : isSave bs = true := by rw [isSave, ← hn]; simp only [Bool.and_eq_true, decide_eq_true_eq]; exact ⟨by omega, by omega, h3'⟩
          have hm := ofNat_mod (by omega) h3'
          have hst : (HM.load bs).st.length = 8 := by simp [HM.load]
          have hdl : (bs.drop 40).length = bs.length - 40 := by simp
          have hre : (bs.drop 40 ++ List.replicate (64 - (bs.length - 40)) 0).length = 64 := by simp; omega
          have hcp : (hsC (HM.load bs).st (List.replicate 64 0) 0 0).take 8 ++ u8s (bs.drop 40) ++ (hsC (HM.load bs).st (List.replicate 64 0) 0 0).drop (8 + (bs.drop 40).length) = hsC (HM.load bs).st (bs.drop 40 ++ List.replicate (64 - (bs.length - 40)) 0) 0 0 := by have h := hs_lay (f := 0) (l := 0) (rest := List.replicate 64 0) hst (by simp) (k := 0) (xs := bs.drop 40) (by omega); rw [List.take_zero, List.nil_append, Nat.zero_add, List.drop_replicate, Nat.add_zero, hdl] at h; rw [hdl]; exact h
          refine Cod.regionA mixed (by kernel_rfl) (listed := #[false, false, false, false, false, false, false, false, false, false, false, false, false, false, false, false, false]) ?_
          refine As.take 0 rfl (by kernel_rfl) (by kernel_rfl) (by kernel_rfl) rfl rfl rfl (fun F hs => .move rfl) (by kernel_rfl) (listed' := #[true, false, false, false, false, false, false, false, false, false, false, false, false, false, false, false, false]) ?_
          refine As.take 1 rfl (by kernel_rfl) (by kernel_rfl) (by kernel_rfl) rfl rfl rfl (fun F hs => .move rfl) (by kernel_rfl) (listed' := #[true, true, false, false, false, false, false, false, false, false, false, false, false, false, false, false, false]) ?_
          refine As.take 2 rfl (by kernel_rfl) (by kernel_rfl) (by kernel_rfl) rfl rfl rfl (fun F hs => .move rfl) (by kernel_rfl) (listed' := #[true, true, true, false, false, false, false, false, false, false, false, false, false, false, false, false, false]) ?_
          refine As.take 3 rfl (by kernel_rfl) (by kernel_rfl) (by kernel_rfl) rfl rfl rfl (fun F hs => .conv rfl Tryd.runUnderlying45 Tryd.runUnderlying3 (by first | exact IntWalk.i64_in _ (by omega) | rfl)) (by kernel_rfl) (listed' := #[true, true, true, true, false, false, false, false, false, false, false, false, false, false, false, false, false]) ?_
          refine As.take 4 rfl (by kernel_rfl) (by kernel_rfl) (by kernel_rfl) rfl rfl rfl (fun F hs => .move rfl) (by kernel_rfl) (listed' := #[true, true, true, true, true, false, false, false, false, false, false, false, false, false, false, false, false]) ?_
          refine As.take 5 rfl (by kernel_rfl) (by kernel_rfl) (by kernel_rfl) rfl rfl rfl (fun F hs => .nilCheck rfl) (by kernel_rfl) (listed' := #[true, true, true, true, true, true, false, false, false, false, false, false, false, false, false, false, false]) ?_
          refine As.take 6 rfl (by kernel_rfl) (by kernel_rfl) (by kernel_rfl) rfl rfl rfl (fun F hs => .fieldAddr rfl fa53_1) (by kernel_rfl) (listed' := #[true, true, true, true, true, true, true, false, false, false, false, false, false, false, false, false, false]) ?_
          refine As.take 7 rfl (by kernel_rfl) (by kernel_rfl) (by kernel_rfl) rfl rfl rfl (fun F hs => .sliceArr rfl Tryd.runUnderlying51 Tryd.sizeOf5) (by kernel_rfl) (listed' := #[true, true, true, true, true, true, true, true, false, false, false, false, false, false, false, false, false]) ?_
          refine As.take 8 rfl (by kernel_rfl) (by kernel_rfl) (by kernel_rfl) rfl rfl rfl (fun F hs => .move rfl) (by kernel_rfl) (listed' := #[true, true, true, true, true, true, true, true, true, false, false, false, false, false, false, false, false]) ?_
          refine As.one (i := 9) (by kernel_rfl) ?_
          refine Ao.st rfl (.slice_l (lo := 40) rfl rfl (Rd.ro hr) Tryd.runUnderlying22 Tryd.sizeOf5 rfl (by omega)) rfl rfl rfl (by kernel_rfl) (listed' := #[true, true, true, true, true, true, true, true, true, true, false, false, false, false, false, false, false]) ?_
          refine As.one (i := 10) (by kernel_rfl) ?_
          refine Ao.ef1 rfl (.copyR (b := b) (o := 0 + 8) (dn := 64) (m := (bs.drop 40).length) (cn := (bs.drop 40).length) (ys := u8s (bs.drop 40)) (cs' := hsC (HM.load bs).st (bs.drop 40 ++ List.replicate (64 - (bs.length - 40)) 0) 0 0) rfl (RowAt.full (by decide)) rfl (by repeat first | exact TakeP.here _ | apply TakeP.there) ((Rd.ro hr).cut8 (lo := 40) (by omega) (Nat.le_refl _) take_all8) Tryd.runUnderlying22 Tryd.sizeOf5 (by omega) (by rw [hs_len hst (by simp)]; omega) (by rw [Nat.mul_one, List.take_of_length_le (l := u8s (bs.drop 40)) (by rw [u8s_len]; exact Nat.le_refl _), Nat.zero_add]; exact hcp)) rfl rfl rfl (by kernel_rfl) (listed' := #[true, true, true, true, true, true, true, true, true, true, true, false, false, false, false, false, false]) ?_
          refine As.take 11 rfl (by kernel_rfl) (by kernel_rfl) (by kernel_rfl) rfl rfl rfl (fun F hs => .nilCheck rfl) (by kernel_rfl) (listed' := #[true, true, true, true, true, true, true, true, true, true, true, true, false, false, false, false, false]) ?_
          refine As.take 12 rfl (by kernel_rfl) (by kernel_rfl) (by kernel_rfl) rfl rfl rfl (fun F hs => .fieldAddr rfl fa53_3) (by kernel_rfl) (listed' := #[true, true, true, true, true, true, true, true, true, true, true, true, true, false, false, false, false]) ?_
          refine As.one (i := 13) (by kernel_rfl) ?_
          refine Ao.ef10 rfl (.store (cs' := hsC (HM.load bs).st (bs.drop 40 ++ List.replicate (64 - (bs.length - 40)) 0) 0 n.toNat) rfl rfl (by repeat first | exact TakeP.here _ | apply TakeP.there) Tryd.sizeOf3 (by rw [hs_len hst hre]; rfl) rfl (hs_set_long hst hre)) rfl rfl (by kernel_rfl) (listed' := #[true, true, true, true, true, true, true, true, true, true, true, true, true, true, false, false, false]) ?_
          refine As.take 14 rfl (by kernel_rfl) (by kernel_rfl) (by kernel_rfl) rfl rfl rfl (fun F hs => .nilCheck rfl) (by kernel_rfl) (listed' := #[true, true, true, true, true, true, true, true, true, true, true, true, true, true, true, false, false]) ?_
          refine As.take 15 rfl (by kernel_rfl) (by kernel_rfl) (by kernel_rfl) rfl rfl rfl (fun F hs => .fieldAddr rfl fa53_2) (by kernel_rfl) (listed' := #[true, true, true, true, true, true, true, true, true, true, true, true, true, true, true, true, false]) ?_
          refine As.one (i := 16) (by kernel_rfl) ?_
          refine Ao.ef10 rfl (.store (cs' := hsC (HM.load bs).st (bs.drop 40 ++ List.replicate (64 - (bs.length - 40)) 0) (bs.drop 40).length n.toNat) rfl rfl (by repeat first | exact TakeP.here _ | apply TakeP.there) Tryd.sizeOf3 (by rw [hs_len hst hre]; rfl) rfl (hs_set_fill hst hre)) rfl rfl (by kernel_rfl) (listed' := #[true, true, true, true, true, true, true, true, true, true, true, true, true, true, true, true, true]) ?_
          refine As.done (by kernel_rfl) ?_
          refine Ext.seq ?_
          refine Cod.seq ?_
          refine Cod.region ?_
          subst hn
          refine Ops.st (.move rfl) rfl rfl rfl ?_
          refine Ops.st (.assign rfl) rfl rfl rfl ?_
          refine Ops.st (.assign rfl) rfl rfl rfl ?_
          refine Ops.nil ?_
          refine Ext.seq ?_
          exact Cod.ret (Ext.ret2E rfl rfl rfl (Ent.fold1 (A := hashP b (HM.load bs)) (by repeat' first | exact Takes.nil _ | exact TakeP.here _ | apply TakeP.there | apply Takes.cons) (hash_mk (m := HM.load bs) hre (by show List.take (bs.drop 40).length _ = bs.drop 40; rw [List.take_append_of_le_length (Nat.le_refl _), List.take_length]))) ((.inl ⟨hsv, b, rfl, rfl⟩)))

theorem refStart_any {F : Fr} : Spec Tryd.prog F 23 [] [] (fun v hs' => v = .agg (w32s H0).toArray ∧ hs' = []) := by
  refine Spec.body Tryd.func23 rfl Tryd.ntmps23 rfl ?_
  refine Cod.seq ?_
  refine Cod.region ?_
  refine Ops.ef (.alloc (cs := List.replicate 8 (Value.int .u32 0)) Tryd.zeroValue47 (by kernel_rfl)) rfl rfl rfl ?_
  rintro _ _ ⟨wb, rfl, rfl⟩
  refine Ops.nil ?_
  refine Ext.seq ?_
  refine Cod.seq ?_
  refine Cod.region ?_
  refine Ops.st (.build (z := .agg (w32s H0).toArray) rfl (fun w => by kernel_rfl)) rfl rfl rfl ?_
  refine Ops.ef10 (.storeA (vs := w32s H0) (cs' := w32s H0) rfl rfl (by repeat first | exact TakeP.here _ | apply TakeP.there) Tryd.sizeOf47 rfl (by decide) (w32s_one H0) rfl) rfl rfl ?_
  refine Ops.nil ?_
  refine Ext.seq ?_
  exact Cod.ret (Ext.retC rfl rfl (by repeat first | exact TakeP.here _ | apply TakeP.there) Tryd.isAgg47 Tryd.sizeOf47 (by first | rfl | assumption) ⟨rfl, rfl⟩)

set_option maxRecDepth 4000 in
theorem refWords_any {F : Fr} {st : List UInt32} (hst : st.length = 8) : Spec Tryd.prog F 25 [.agg (w32s st).toArray] [] (fun u hs' => u = .agg (u8s (bytes32 st)).toArray ∧ hs' = []) := by
  refine Spec.body Tryd.func25 rfl Tryd.ntmps25 rfl ?_
  refine Cod.seq ?_
  refine Cod.region ?_
  refine Ops.ef (.box (cs := w32s st) rfl rfl) rfl rfl rfl ?_
  rintro _ _ ⟨b, rfl, rfl⟩
  refine Ops.ef (.alloc (cs := List.replicate 32 (Value.int .u8 0)) Tryd.zeroValue24 (by kernel_rfl)) rfl rfl rfl ?_
  rintro _ _ ⟨rb, rfl, rfl⟩
  refine Ops.nil ?_
  refine Ext.seq ?_
  refine Cod.seq ?_
  refine Cod.region ?_
  refine Ops.ef (.alloc (cs := List.replicate 32 (Value.int .u8 0)) Tryd.zeroValue24 (by kernel_rfl)) rfl rfl rfl ?_
  rintro _ _ ⟨ob, rfl, rfl⟩
  refine Ops.nil ?_
  refine Ext.seq ?_
  refine Cod.seq ?_
  refine Cod.seq ?_
  refine Cod.region ?_
  have hbl := bytes32_len st
  refine Ops.st (.assign rfl) rfl rfl rfl ?_
  refine Ops.nil ?_
  refine Ext.seq ?_
  refine Cod.block ?_
  refine Cod.loop (fun i : Nat => ⟨i ≤ 32, [(1, .pointer (some ⟨b, 0, none⟩)), (2, .pointer (some ⟨rb, 0, none⟩)), (3, .pointer (some ⟨ob, 0, none⟩)), (4, .int .i64 i)], [pt b 47 (w32s st), pt rb 24 (List.replicate 32 (Value.int .u8 0)), pt ob 24 (u8s (upTo (bytes32 st) 32 i))]⟩) (fun i => 32 - i) 0 (Nat.zero_le _) ⟨rfl, rfl, rfl, rfl, trivial⟩ (by rw [upTo_zero, u8s_zeros]; exact Ent.take (by repeat' first | exact Takes.nil _ | exact TakeP.here _ | apply TakeP.there | apply Takes.cons)) ?_
  rintro i hi
  dsimp only
  refine Cod.seq ?_
  refine Cod.seq ?_
  refine Cod.region ?_
  refine Ops.st (.move rfl) rfl rfl rfl ?_
  refine Ops.st (.lss rfl rfl) rfl rfl rfl ?_
  refine Ops.nil ?_
  refine Ext.seq ?_
  refine Cod.condD rfl (fun h1 => ?_) (fun h1 => ?_)
  ·
    refine Cod.skip ?_
    refine Ext.seq ?_
    refine Cod.seq ?_
    refine Cod.block ?_
    refine Cod.region ?_
    refine Ops.st (.move rfl) rfl rfl rfl ?_
    refine Ops.st (.move rfl) rfl rfl rfl ?_
    refine Ops.st (.quo (r := ((i / 4 : Nat) : Int)) rfl rfl (by decide) (by rw [IntWalk.i64_quo _ _ (by omega)]; omega)) rfl rfl rfl ?_
    refine Ops.st (.indexAddrA (j := i / 4) (off := i / 4) rfl rfl Tryd.runUnderlying47 Tryd.sizeOf46 rfl (by omega) (by omega)) rfl rfl rfl ?_
    refine Ops.st (.loadP rfl (by repeat first | exact TakeP.here _ | apply TakeP.there) Tryd.isAgg46 (w32s_get (by omega))) rfl rfl rfl ?_
    refine Ops.st (.move rfl) rfl rfl rfl ?_
    refine Ops.st (.rem (r := ((i % 4 : Nat) : Int)) rfl rfl (by decide) (by rw [Int.tmod_eq_emod_of_nonneg (by omega)]; omega)) rfl rfl rfl ?_
    refine Ops.st (.mul rfl rfl (by first | exact IntWalk.i64_in _ (by omega) | rfl)) rfl rfl rfl ?_
    refine Ops.st (.sub rfl rfl (by first | exact IntWalk.i64_in _ (by omega) | rfl)) rfl rfl rfl ?_
    refine Ops.st (.conv (r := ((8 * (3 - i % 4) : Nat) : Int)) rfl Tryd.runUnderlying3 Tryd.runUnderlying56 (by rw [IntKind.wrap_u64]; omega)) rfl rfl rfl ?_
    refine Ops.st (.shrW32 (n := 8 * (3 - i % 4)) rfl rfl rfl (by omega)) rfl rfl rfl ?_
    refine Ops.st (.convW32_8 rfl Tryd.underlying46 Tryd.underlying5) rfl rfl rfl ?_
    refine Ops.st (.indexAddrA (j := i) (off := i) rfl rfl Tryd.runUnderlying24 Tryd.sizeOf5 rfl (by omega) (by omega)) rfl rfl rfl ?_
    refine Ops.ef10 (.store (cs' := u8s (upTo (bytes32 st) 32 (i + 1))) rfl rfl (by repeat first | exact TakeP.here _ | apply TakeP.there) Tryd.sizeOf5 (by rw [u8s_len, upTo_len hbl hi]; exact Nat.ble_eq_true_of_le (by omega)) rfl (by rw [u8s_set]; exact congrArg u8s (upTo_set hbl (by omega) (bytes32_get st (by omega))))) rfl rfl ?_
    refine Ops.nil ?_
    refine Ext.block ?_
    refine Ext.seq ?_
    refine Cod.region ?_
    refine Ops.st (.move rfl) rfl rfl rfl ?_
    refine Ops.st (.add rfl rfl (by first | exact IntWalk.i64_in _ (by omega) | rfl)) rfl rfl rfl ?_
    refine Ops.st (.assign rfl) rfl rfl rfl ?_
    refine Ops.nil ?_
    exact Ext.back (i + 1) (by omega) (by omega) ⟨rfl, rfl, rfl, rfl, trivial⟩ (Ent.take (by repeat' first | exact Takes.nil _ | exact TakeP.here _ | apply TakeP.there | apply Takes.cons))
  ·
    refine Cod.exit (Ext.seqX (Ext.stopX (Ext.hit ?_)))
    refine Ext.seq ?_
    refine Cod.seq ?_
    refine Cod.region ?_
    obtain rfl : i = 32 := by omega
    rw [upTo_all hbl]
    have hlen : (u8s (bytes32 st)).length = 32 := by rw [u8s_len, hbl]
    refine Ops.st (.loadPA (ds := u8s (bytes32 st)) rfl (by repeat first | exact TakeP.here _ | apply TakeP.there) Tryd.isAgg24 Tryd.sizeOf24 (by rw [List.drop_zero, List.take_of_length_le (by rw [u8s_len, hbl]; exact Nat.le_refl _)]) (by rw [u8s_len, hbl])) rfl rfl rfl ?_
    refine Ops.ef10 (.storeA (vs := u8s (bytes32 st)) (cs' := u8s (bytes32 st)) rfl rfl (by repeat first | exact TakeP.here _ | apply TakeP.there) Tryd.sizeOf24 (by rw [u8s_len, hbl]) (by simp) (u8s_one _) (by rw [List.take_zero, List.nil_append, List.drop_of_length_le (by simp), List.append_nil])) rfl rfl ?_
    refine Ops.nil ?_
    refine Ext.seq ?_
    exact Cod.ret (Ext.retCE rfl rfl (by repeat first | exact TakeP.here _ | apply TakeP.there) Tryd.isAgg24 Tryd.sizeOf24 (by first | rfl | assumption) (Ent.nil _) (⟨rfl, rfl⟩))

/-- The last bytes of a number, noughts ahead. -/
def loOf (n : UInt64) (k : Nat) : List UInt8 := List.replicate (8 - k) 0 ++ (be64 n).drop (8 - k)
theorem loOf_len (n : UInt64) {k : Nat} (h : k ≤ 8) : (loOf n k).length = 8 := by simp only [loOf, List.length_append, List.length_replicate, List.length_drop, be64_len]; omega
theorem loOf_set (n : UInt64) {k : Nat} (h : k < 8) : (loOf n k).set (7 - k) (be8 n (7 - k)) = loOf n (k + 1) := by
  rw [loOf, loOf, show 8 - k = (8 - (k + 1)) + 1 by omega, List.replicate_succ', List.append_assoc, List.set_append_right _ _ (by rw [List.length_replicate]; omega), List.length_replicate, show 7 - k - (8 - (k + 1)) = 0 by omega]
  rw [List.drop_eq_getElem_cons (i := 8 - (k + 1)) (by rw [be64_len]; omega)]
  congr 1
  simp only [List.cons_append, List.nil_append, List.set_cons_zero]
  congr 1
  have h2 := be64_get n (i := 8 - (k + 1)) (by omega)
  have h3 := List.getElem?_eq_some_iff.1 h2
  rw [h3.2, show 8 - (k + 1) = 7 - k by omega]
theorem loOf_all (n : UInt64) : loOf n 8 = be64 n := by simp [loOf]
theorem loOf_zero (n : UInt64) : loOf n 0 = List.replicate 8 0 := by simp [loOf, be64_len, List.drop_of_length_le]
theorem shr_quo (n : UInt64) {k : Nat} (h : k < 8) : (n >>> UInt64.ofNat (8 * k)) / 256 = if k = 7 then 0 else n >>> UInt64.ofNat (8 * (k + 1)) := by
  have h1 : (UInt64.ofNat (8 * k)).toNat % 64 = 8 * k := by rw [UInt64.toNat_ofNat']; omega
  have hn := n.toNat_lt
  split
  · subst_vars
    apply UInt64.toNat_inj.1
    rw [UInt64.toNat_div, UInt64.toNat_shiftRight, h1, Nat.shiftRight_eq_div_pow]
    have h2 : (256 : UInt64).toNat = 256 := rfl
    have h3 : (0 : UInt64).toNat = 0 := rfl
    rw [h2, h3]
    omega
  · have h4 : (UInt64.ofNat (8 * (k + 1))).toNat % 64 = 8 * (k + 1) := by rw [UInt64.toNat_ofNat']; omega
    apply UInt64.toNat_inj.1
    rw [UInt64.toNat_div, UInt64.toNat_shiftRight, UInt64.toNat_shiftRight, h1, h4, Nat.shiftRight_eq_div_pow, Nat.shiftRight_eq_div_pow]
    have h2 : (256 : UInt64).toNat = 256 := rfl
    rw [h2, Nat.div_div_eq_div_mul, show 8 * (k + 1) = 8 * k + 8 by omega, Nat.pow_add]
def shrK (n : UInt64) (k : Nat) : UInt64 := if k = 8 then 0 else n >>> UInt64.ofNat (8 * k)
theorem shrK_succ (n : UInt64) {k : Nat} (h : k < 8) : shrK n (k + 1) = shrK n k / 256 := by
  rw [shrK, shrK, if_neg (by omega : ¬ k = 8), shr_quo n h]
  by_cases h7 : k = 7
  · rw [if_pos h7, if_pos (by omega)]
  · rw [if_neg h7, if_neg (by omega)]
theorem mod256_byte (x : UInt64) : (x % 256).toUInt8 = x.toUInt8 := by
  apply UInt8.toNat_inj.1
  rw [UInt64.toNat_toUInt8, UInt64.toNat_toUInt8, UInt64.toNat_mod]
  have h2 : (256 : UInt64).toNat = 256 := rfl
  rw [h2]
  omega
theorem refEight_any {F : Fr} {n : UInt64} : Spec Tryd.prog F 22 [W64 n] [] (fun u hs' => Sl u ∧ hs' = [vec u 5 1 8 (u8s (be64 n))]) := by
  refine Spec.body Tryd.func22 rfl Tryd.ntmps22 rfl ?_
  refine Cod.seq ?_
  refine Cod.region ?_
  refine Ops.st (.assign rfl) rfl rfl rfl ?_
  refine Ops.nil ?_
  refine Ext.seq ?_
  refine Cod.seq ?_
  refine Cod.region ?_
  refine Ops.ef (.make (ln := 8) (cn := 8) (xs := u8s (List.replicate 8 0)) (ys := []) rfl rfl ei22 rfl rfl (Nat.le_refl _) (by decide) (by decide) (by rw [madeCells_one, u8s_zeros, List.append_nil]) rfl (u8s_one _)) rfl rfl rfl ?_
  rintro ov _ ⟨hov, rfl⟩
  refine Ops.st (.assign rfl) rfl rfl rfl ?_
  refine Ops.nil ?_
  refine Ext.seq ?_
  refine Cod.seq ?_
  refine Cod.seq ?_
  refine Cod.region ?_
  refine Ops.st (.assign rfl) rfl rfl rfl ?_
  refine Ops.nil ?_
  refine Ext.seq ?_
  refine Cod.block ?_
  refine Cod.loop (fun k : Nat => ⟨k ≤ 8, [(0, W64 (shrK n k)), (3, ov), (4, .int .i64 (7 - (k : Int)))], [vec ov 5 1 8 (u8s (loOf n k))]⟩) (fun k => 8 - k) 0 (Nat.zero_le _) ⟨by rw [shrK, if_neg (by decide)]; show some (W64 n) = some (W64 (n >>> UInt64.ofNat 0)); rw [show n >>> UInt64.ofNat 0 = n from by apply UInt64.toNat_inj.1; simp [UInt64.toNat_shiftRight]], rfl, rfl, trivial⟩ (by rw [loOf_zero]; exact Ent.take (by repeat' first | exact Takes.nil _ | exact TakeP.here _ | apply TakeP.there | apply Takes.cons)) ?_
  rintro k hk
  dsimp only
  refine Cod.seq ?_
  refine Cod.seq ?_
  refine Cod.region ?_
  refine Ops.st (.move rfl) rfl rfl rfl ?_
  refine Ops.st (.geq rfl rfl) rfl rfl rfl ?_
  refine Ops.nil ?_
  refine Ext.seq ?_
  refine Cod.condD rfl (fun h1 => ?_) (fun h1 => ?_)
  ·
    refine Cod.skip ?_
    refine Ext.seq ?_
    refine Cod.seq ?_
    refine Cod.block ?_
    refine Cod.seq ?_
    refine Cod.region ?_
    have hk8 : ¬ k = 8 := by omega
    refine Ops.st (.move rfl) rfl rfl rfl ?_
    refine Ops.st (.move rfl) rfl rfl rfl ?_
    refine Ops.st (.move rfl) rfl rfl rfl ?_
    refine Ops.st (.remW64 rfl (show _ = some (W64 256) from rfl) (by decide)) rfl rfl rfl ?_
    refine Ops.st (.convW64_8 rfl Tryd.underlying45 Tryd.underlying5) rfl rfl rfl ?_
    refine Ops.st (.indexAddr (j := 7 - k) (off := 7 - k) rfl rfl (Rd.vec (v := ov) (by repeat first | exact TakeP.here _ | apply TakeP.there)) Tryd.runUnderlying22 Tryd.sizeOf5 (by omega) (by omega) (by omega)) rfl rfl rfl ?_
    refine Ops.ef10 (.store_elem (v := ov) rfl rfl (by repeat first | exact TakeP.here _ | apply TakeP.there) Tryd.sizeOf5 (by rw [u8s_len, loOf_len n hk]; omega) rfl) rfl rfl ?_
    refine Ops.nil ?_
    refine Ext.seq ?_
    refine Cod.region ?_
    refine Ops.st (.move rfl) rfl rfl rfl ?_
    refine Ops.st (.quoW64 rfl (show _ = some (W64 256) from rfl) (by decide)) rfl rfl rfl ?_
    refine Ops.st (.assign rfl) rfl rfl rfl ?_
    refine Ops.nil ?_
    refine Ext.block ?_
    refine Ext.seq ?_
    refine Cod.region ?_
    refine Ops.st (.move rfl) rfl rfl rfl ?_
    refine Ops.st (.sub rfl rfl (by first | exact IntWalk.i64_in _ (by omega) | rfl)) rfl rfl rfl ?_
    refine Ops.st (.assign rfl) rfl rfl rfl ?_
    refine Ops.nil ?_
    exact Ext.back (k + 1) (by omega) (by omega) ⟨by rw [shrK_succ n (by omega)]; rfl, rfl, by rw [show (7 : Int) - (((k + 1 : Nat)) : Int) = 7 - (k : Int) - 1 by omega]; rfl, trivial⟩ (by rw [← loOf_set n (by omega), ← u8s_set, show be8 n (7 - k) = (shrK n k % 256).toUInt8 from by rw [mod256_byte, shrK, if_neg hk8, be8, show 7 - (7 - k) = k by omega]]; exact Ent.take (by repeat' first | exact Takes.nil _ | exact TakeP.here _ | apply TakeP.there | apply Takes.cons))
  ·
    refine Cod.exit (Ext.seqX (Ext.stopX (Ext.hit ?_)))
    refine Ext.seq ?_
    refine Cod.seq ?_
    refine Cod.region ?_
    obtain rfl : k = 8 := by omega
    rw [loOf_all]
    refine Ops.st (.move rfl) rfl rfl rfl ?_
    refine Ops.st (.assign rfl) rfl rfl rfl ?_
    refine Ops.nil ?_
    refine Ext.seq ?_
    exact Cod.ret (Ext.ret rfl rfl ⟨hov, rfl⟩)
end Go.Proofs.YtdnbnfebapofnaaDoor
