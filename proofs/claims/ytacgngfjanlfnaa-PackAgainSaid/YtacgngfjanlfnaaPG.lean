/- Arrays of truths; a record is put: the program. No condition. -/
import Derived.Test.YtacgngfjanlfnaaPF
namespace Go.Proofs.Ytacgngfjanlfnaa
open Go

section
variable {P : Program} {F : Fr} {env : Env} {hs r : List SP} {dst : Option Tmp} {ty : TypeId} {pos : String} {after : Array Edge} {g : Option (Nat × Bool)} {x y z : Operand} {t e : TypeId}
theorem Ev.build3 {a b c : Bool} {z0 : Value} (hp : evs env [x, y, z] = some [.bool a, .bool b, .bool c]) (hu : ∀ w, (underlying t).run P w = .ok (.array 3 e) w) (hz : ∀ w, (sizeOf e).run P w = .ok 1 w) (h0 : ∀ w, (zeroValue t).run P w = .ok z0 w) (hc : z0.cells = #[.bool false, .bool false, .bool false]) :
    Ev P F env hs ⟨dst, .build t #[(0, x), (1, y), (2, z)], ty, pos, after, g⟩ (.agg #[.bool a, .bool b, .bool c]) :=
  Ev.build (vs := [.bool a, .bool b, .bool c]) hp fun w => by
    simp only [Instr.build, Sem.run_bind, h0, Result.andThen_ok, hu, hz, hc]
    rfl
theorem Ev.indexA {kd : IntKind} {cs : Array Value} {i : Int} {j n : Nat} {u : Value} (hx : ev env x = some (.agg cs)) (hy : ev env y = some (.int kd i)) (hi : i = (j : Int)) (hu : ∀ w, (underlying t).run P w = .ok (.array n e) w) (hz : ∀ w, (sizeOf e).run P w = .ok 1 w)
    (ha : ∀ w, (isAgg e).run P w = .ok false w) (hj : j < n) (hg : cs[j]? = some u) : Ev P F env hs ⟨dst, .index t x y, ty, pos, after, g⟩ u := fun _ a w hA _ => by
  subst hi
  have h1 : (0 : Int) ≤ (j : Int) ∧ (j : Int) < (n : Int) := by omega
  obtain ⟨hl, rfl⟩ := Array.getElem?_eq_some_iff.1 hg
  simp [execOp, hA.ev hx, hA.ev hy, Instr.index, asIntOf, hu, h1, hz, part, ha, hl]
  intro h
  omega
end

mutual
/-- A weight that bounds what is written. -/
def wtV : Val → Nat
  | .mk _ b l => 8 + b.length + wtQ l
def wtR : List Val → Nat
  | [] => 0
  | v :: vs => wtV v + wtR vs
def wtQ : List (List Val) → Nat
  | [] => 0
  | r :: rs => wtR r + wtQ rs
end
theorem fitR_len : ∀ {fs : List Fld} {vs : List Val}, fitR fs vs = true → fs.length = vs.length
  | [], [], _ => rfl
  | f :: fs, v :: vs, h => by rw [fitR, Bool.and_eq_true] at h; rw [List.length_cons, List.length_cons, fitR_len h.2]
  | [], _ :: _, h => by simp [fitR] at h
  | _ :: _, [], h => by simp [fitR] at h
theorem fitR_len' {fs : List Fld} {vs : List Val} (h : fs.length ≠ vs.length) : fitR fs vs = false := by
  cases hq : fitR fs vs
  · rfl
  · exact absurd (fitR_len hq) h
theorem putR_nil : putR [] [] = [] := by rw [putR]; intro; intros; contradiction
/-- What stands in a value that its kind has not. -/
def badN (k : Int) (l : List Bool) : Nat → Bool
  | 0 => false
  | j + 1 => badN k l j || (!l.getD j true && decide ((j : Int) + 1 ≠ k))
theorem len0 {α : Type} (l : List α) : decide ((l.length : Int) = 0) = l.isEmpty := by cases l <;> simp; omega
theorem nil0 (l : List UInt8) : decide (l = []) = l.isEmpty := by cases l <;> simp
def bare (n : UInt64) (b : List UInt8) (l : List (List Val)) : List Bool := [decide (n = 0), decide ((b.length : Int) = 0), decide ((l.length : Int) = 0)]
theorem inS_nat {mn mx : UInt64} {n : Nat} (h : n < 18446744073709551616) : inS mn mx (UInt64.ofNat n) = (decide (mn.toNat ≤ n) && decide (n ≤ mx.toNat)) := by
  have e : (UInt64.ofNat n).toNat = n := by rw [UInt64.toNat_ofNat']; omega
  unfold inS
  congr 1
  · rw [decide_eq_decide, le_nat, e]
  · rw [decide_eq_decide, le_nat, e]
theorem fit1 {k : Int} {mn mx n : UInt64} {of : List Fld} {b : List UInt8} {l : List (List Val)} (hk : k = 1) : (badN k (bare n b l) 3 || !inS mn mx n) = !fitF (.mk k mn mx of) (.mk n b l) := by
  subst hk
  rw [fitF, if_pos rfl, nil0]
  unfold bare inS
  rw [len0, len0]
  cases b.isEmpty <;> cases l.isEmpty <;> cases decide (mn ≤ n) <;> cases decide (n ≤ mx) <;> cases decide (n = 0) <;> rfl
theorem fit2 {k : Int} {mn mx n : UInt64} {of : List Fld} {b : List UInt8} {l : List (List Val)} (hk : k = 2) (hb : b.length < 18446744073709551616) : (badN k (bare n b l) 3 || !inS mn mx (UInt64.ofNat b.length)) = !fitF (.mk k mn mx of) (.mk n b l) := by
  subst hk
  rw [fitF, if_neg (by decide), if_pos rfl, inS_nat hb]
  unfold bare
  rw [len0, len0]
  cases b.isEmpty <;> cases l.isEmpty <;> cases decide (mn.toNat ≤ b.length) <;> cases decide (b.length ≤ mx.toNat) <;> cases decide (n = 0) <;> rfl
theorem fit3 {k : Int} {mn mx n : UInt64} {of : List Fld} {b : List UInt8} {l : List (List Val)} (hk : k = 3) (hl : l.length < 18446744073709551616) : fitF (.mk k mn mx of) (.mk n b l) = (!(badN k (bare n b l) 3 || !inS mn mx (UInt64.ofNat l.length)) && l.all fun r => fitR of r) := by
  subst hk
  rw [fitF, if_neg (by decide), if_neg (by decide), inS_nat hl, nil0]
  unfold bare
  rw [len0, len0]
  cases b.isEmpty <;> cases l.isEmpty <;> cases decide (mn.toNat ≤ l.length) <;> cases decide (l.length ≤ mx.toNat) <;> cases decide (n = 0) <;> cases (l.all fun r => fitR of r) <;> rfl
theorem numB_nat {mn mx : UInt64} {n : Nat} (h : n < 18446744073709551616) (hi : inS mn mx (UInt64.ofNat n) = true) : numB mn mx (UInt64.ofNat n) = leB (n - mn.toNat) (wid (mx - mn).toNat) := by
  rw [numB, if_pos hi, show (UInt64.ofNat n).toNat = n by rw [UInt64.toNat_ofNat']; omega]
theorem mostL_mem {d : Nat} {f : Fld} : ∀ {fs : List Fld} {s n : Nat}, mostL d fs s = some n → f ∈ fs → ∃ m, mostF d f = some m
  | [], _, _, _, hm => by cases hm
  | g :: fs, s, n, h, hm => by
    rw [mostL] at h
    split at h
    · cases h
    · rename_i q hq
      split at h
      · cases h
      · rcases List.mem_cons.1 hm with rfl | hm
        · exact ⟨q, hq⟩
        · exact mostL_mem h hm
theorem mostR_sub {d : Nat} {fs : List Fld} {m i : Nat} {k : Int} {mn mx : UInt64} {of : List Fld} (h : mostR d fs = some m) (hi : fs[i]? = some (.mk k mn mx of)) : (k = 1 ∨ k = 2 ∨ k = 3) ∧ d ≤ 4 ∧ (k = 3 → ∃ m', mostR (d + 1) of = some m') := by
  rw [mostR] at h
  split at h
  · cases h
  · rename_i hc
    obtain ⟨q, hq⟩ := mostL_mem h (List.mem_of_getElem? hi)
    refine ⟨?_, by omega, ?_⟩
    · have := mostF_ok d _ _ hq
      rw [okF] at this
      exact this.1
    · intro hk
      rw [mostF_eq, eachF, if_neg (by omega), if_neg (by omega), if_pos hk] at hq
      split at hq
      · cases hq
      · rename_i e he
        exact ⟨e, he⟩

theorem go_all {α : Type} {p : α → Bool} {l : List α} {j : Nat} {a : Bool} (ham : false = !(!a && (l.take j).all p)) : (!a && (l.take j).all p) = true := by
  cases hq : (!a && (l.take j).all p)
  · rw [hq] at ham; cases ham
  · rfl
theorem stop_all {α : Type} {p : α → Bool} {l : List α} {j : Nat} {a am : Bool} (ham : am = !(!a && (l.take j).all p)) (h : am = true) : (!a && l.all p) = false := by
  subst h
  cases hq : (!a && l.all p)
  · rfl
  · rw [Bool.and_eq_true] at hq
    have : (l.take j).all p = true := List.all_eq_true.2 fun x hx => List.all_eq_true.1 hq.2 x (List.mem_of_mem_take hx)
    rw [hq.1, this] at ham
    cases ham
theorem or_not {a b c : Bool} (h : (a || !b) = c) (hc : (!c) = true) : b = true := by cases a <;> cases b <;> cases c <;> simp_all

theorem record_step {d : Nat} (ih : d ≤ 4 → ∀ {F : Fr} {wb : Nat} {bv lv vv : Value} {bs : List UInt8} {cs ws : List Value} {fs : List Fld} {vs : List Val} {m : Nat}, Sl bv → SlR F.hf lv 4 fs.length cs → FldsR F.hf fs cs → SlR F.hf vv 3 vs.length ws → ValsR F.hf vs ws → mostR (d + 1) fs = some m → bs.length + wtR vs ≤ 70368744177664 →
      Spec Try.prog F 26 [.pointer (some ⟨wb, 0, none⟩), lv, vv] [pt wb 50 [bv, .bool false], vec bv 5 1 bs.length (u8s bs)]
        (fun _ hs' => ∃ bv' bs', Sl bv' ∧ bs'.length ≤ bs.length + wtR vs ∧ (fitR fs vs = true → bs' = bs ++ putR fs vs) ∧ hs' = [pt wb 50 [bv', .bool (!fitR fs vs)], vec bv' 5 1 bs'.length (u8s bs')]))
    {F : Fr} {wb : Nat} {bv lv vv : Value} {bs : List UInt8} {cs ws : List Value} {fs : List Fld} {vs : List Val} {m : Nat} (hbv : Sl bv) (hr : SlR F.hf lv 4 fs.length cs) (hc : FldsR F.hf fs cs) (hs : SlR F.hf vv 3 vs.length ws) (hw : ValsR F.hf vs ws) (hm : mostR d fs = some m) (hl : bs.length + wtR vs ≤ 70368744177664) :
    Spec Try.prog F 26 [.pointer (some ⟨wb, 0, none⟩), lv, vv] [pt wb 50 [bv, .bool false], vec bv 5 1 bs.length (u8s bs)]
      (fun _ hs' => ∃ bv' bs', Sl bv' ∧ bs'.length ≤ bs.length + wtR vs ∧ (fitR fs vs = true → bs' = bs ++ putR fs vs) ∧ hs' = [pt wb 50 [bv', .bool (!fitR fs vs)], vec bv' 5 1 bs'.length (u8s bs')]) := by
  have hfl := hr.small
  refine Spec.body Try.func26 rfl Try.ntmps26 rfl ?_
  refine Cod.seq ?_
  refine Cod.seq ?_
  refine Cod.region ?_
  refine Ops.st (.move rfl) rfl rfl rfl ?_
  refine Ops.st (.len rfl (Rd.ro hr) Try.runUnderlying22) rfl rfl rfl ?_
  refine Ops.st (.move rfl) rfl rfl rfl ?_
  refine Ops.st (.len rfl (Rd.ro hs) Try.runUnderlying23) rfl rfl rfl ?_
  refine Ops.st (.neq rfl rfl) rfl rfl rfl ?_
  refine Ops.nil ?_
  refine Ext.seq ?_
  refine Cod.condD rfl (fun h0 => ?_) (fun h0 => ?_)
  ·
    refine Cod.seq ?_
    refine Cod.region ?_
    refine Ops.st (.move rfl) rfl rfl rfl ?_
    refine Ops.st (.nilCheck rfl) rfl rfl rfl ?_
    refine Ops.st (.fieldAddr rfl fa50_1) rfl rfl rfl ?_
    refine Ops.ef10 (.store (cs' := [bv, .bool true]) rfl rfl (by repeat first | exact TakeP.here _ | apply TakeP.there) Try.sizeOf4 rfl rfl rfl) rfl rfl ?_
    refine Ops.nil ?_
    refine Ext.seq ?_
    exact Cod.ret (Ext.seqR (Ext.ret0E rfl (Ent.take (ps := [pt wb 50 [bv, .bool true], vec bv 5 1 bs.length (u8s bs)]) (by repeat' first | exact Takes.nil _ | exact TakeP.here _ | apply TakeP.there | apply Takes.cons)) (⟨bv, bs, hbv, by omega, fun h => absurd (fitR_len h) (by omega), by rw [fitR_len' (by omega)]; rfl⟩)))
  ·
    refine Cod.skip ?_
    refine Ext.seq ?_
    refine Cod.seq ?_
    refine Cod.region ?_
    have hln : fs.length = vs.length := by omega
    refine Ops.st (.move rfl) rfl rfl rfl ?_
    refine Ops.st (.len rfl (Rd.ro hr) Try.runUnderlying22) rfl rfl rfl ?_
    refine Ops.st (.move rfl) rfl rfl rfl ?_
    refine Ops.nil ?_
    refine Ext.seq ?_
    refine Cod.block ?_
    refine Cod.loop (fun g : Nat × Value × List UInt8 => ⟨g.1 ≤ fs.length ∧ Sl g.2.1 ∧ g.2.2.length + wtR (vs.drop g.1) ≤ bs.length + wtR vs ∧ fitR fs vs = fitR (fs.drop g.1) (vs.drop g.1) ∧ bs ++ putR fs vs = g.2.2 ++ putR (fs.drop g.1) (vs.drop g.1), [(0, .pointer (some ⟨wb, 0, none⟩)), (2, vv), (21, lv), (22, .int .i64 fs.length), (23, .int .i64 g.1)], [pt wb 50 [g.2.1, .bool false], vec g.2.1 5 1 g.2.2.length (u8s g.2.2)]⟩) (fun g => fs.length - g.1) (0, bv, bs) ⟨Nat.zero_le _, hbv, Nat.le_refl _, rfl, rfl⟩ ⟨rfl, rfl, rfl, rfl, rfl, trivial⟩ (Ent.take (by repeat' first | exact Takes.nil _ | exact TakeP.here _ | apply TakeP.there | apply Takes.cons)) ?_
    rintro ⟨i, bv1, bs1⟩ ⟨hi, hbv1, hl1, hf1, hp1⟩
    dsimp only
    refine Cod.seq ?_
    refine Cod.region ?_
    dsimp only at hi hbv1 hl1 hf1 hp1
    refine Ops.st (.lss rfl rfl) rfl rfl rfl ?_
    refine Ops.nil ?_
    refine Ext.seq ?_
    refine Cod.seq ?_
    refine Cod.condD rfl (fun h4 => ?_) (fun h4 => ?_)
    ·
      refine Cod.skip ?_
      refine Ext.seq ?_
      refine Cod.seq ?_
      refine Cod.block ?_
      refine Cod.seq ?_
      refine Cod.region ?_
      obtain ⟨k, mn, mx, of, hf⟩ : ∃ k mn mx of, fs[i]? = some (.mk k mn mx of) := by rcases he : fs[i]'(by omega) with ⟨k, mn, mx, of⟩; exact ⟨k, mn, mx, of, by rw [List.getElem?_eq_getElem (by omega), he]⟩
      obtain ⟨n, b, l, hv⟩ : ∃ n b l, vs[i]? = some (.mk n b l) := by rcases he : vs[i]'(by omega) with ⟨n, b, l⟩; exact ⟨n, b, l, by rw [List.getElem?_eq_getElem (by omega), he]⟩
      obtain ⟨ov, ocs, hrow, hor, hoc⟩ := hc.get hf
      obtain ⟨xv, yv, rows, hvrow, hxr, hyr, hrs⟩ := hw.get hv
      obtain ⟨hk, hd4, hsub⟩ := mostR_sub hm hf
      have hov := hor.sl
      have hxv := hxr.sl
      have hyv := hyr.sl
      have hbl := hxr.small
      have hll := hyr.small
      rw [drop_get hf, drop_get hv, fitR] at hf1
      rw [drop_get hf, drop_get hv, putR] at hp1
      rw [drop_get hv, wtR] at hl1
      refine Ops.st (.move rfl) rfl rfl rfl ?_
      refine Ops.st (.indexAddr (j := i) (off := i * 4) rfl rfl (Rd.ro hr) Try.runUnderlying22 Try.sizeOf37 rfl (by omega) rfl) rfl rfl rfl ?_
      refine Ops.st (.load_elemA (ds := [.int .i64 k, W64 mn, W64 mx, ov]) rfl (Rd.ro hr) Try.isAgg37 Try.sizeOf37 (by omega) rfl (row_at hrow)) rfl rfl rfl ?_
      refine Ops.ef (.alloc Try.zeroValue37 rfl) rfl rfl rfl ?_
      rintro fb _ ⟨fb, rfl, rfl⟩
      refine Ops.st (.assign rfl) rfl rfl rfl ?_
      refine Ops.ef10 (.storeA (vs := [.int .i64 k, W64 mn, W64 mx, ov]) (cs' := [.int .i64 k, W64 mn, W64 mx, ov]) rfl rfl (by repeat first | exact TakeP.here _ | apply TakeP.there) Try.sizeOf37 rfl (by decide) (by exact One.cons rfl (One.cons rfl (One.cons rfl (One.cons hov.one One.nil)))) rfl) rfl rfl ?_
      refine Ops.nil ?_
      refine Ext.seq ?_
      refine Cod.seq ?_
      refine Cod.region ?_
      refine Ops.st (.move rfl) rfl rfl rfl ?_
      refine Ops.st (.move rfl) rfl rfl rfl ?_
      refine Ops.st (.indexAddr (j := i) (off := i * 3) rfl rfl (Rd.ro hs) Try.runUnderlying23 Try.sizeOf40 rfl (by omega) rfl) rfl rfl rfl ?_
      refine Ops.st (.load_elemA (ds := [W64 n, xv, yv]) rfl (Rd.ro hs) Try.isAgg40 Try.sizeOf40 (by omega) rfl (row_at hvrow)) rfl rfl rfl ?_
      refine Ops.ef (.alloc Try.zeroValue40 rfl) rfl rfl rfl ?_
      rintro xb _ ⟨xb, rfl, rfl⟩
      refine Ops.ef10 (.storeA (vs := [W64 n, xv, yv]) (cs' := [W64 n, xv, yv]) rfl rfl (by repeat first | exact TakeP.here _ | apply TakeP.there) Try.sizeOf40 rfl (by decide) (by exact One.cons rfl (One.cons hxv.one (One.cons hyv.one One.nil))) rfl) rfl rfl ?_
      refine Ops.nil ?_
      refine Ext.seq ?_
      refine Cod.seq ?_
      refine Cod.region ?_
      refine Ops.st (.fieldAddr rfl fa40_0) rfl rfl rfl ?_
      refine Ops.st (.loadP rfl (by repeat first | exact TakeP.here _ | apply TakeP.there) Try.isAgg35 rfl) rfl rfl rfl ?_
      refine Ops.st (.eqlW64 rfl (show _ = some (W64 0) from rfl)) rfl rfl rfl ?_
      refine Ops.st (.fieldAddr rfl fa40_1) rfl rfl rfl ?_
      refine Ops.st (.loadP rfl (by repeat first | exact TakeP.here _ | apply TakeP.there) Try.isAgg26 rfl) rfl rfl rfl ?_
      refine Ops.st (.len rfl (Rd.ro hxr) Try.runUnderlying26) rfl rfl rfl ?_
      refine Ops.st (.eql rfl rfl) rfl rfl rfl ?_
      refine Ops.st (.fieldAddr rfl fa40_2) rfl rfl rfl ?_
      refine Ops.st (.loadP rfl (by repeat first | exact TakeP.here _ | apply TakeP.there) Try.isAgg38 rfl) rfl rfl rfl ?_
      refine Ops.st (.len rfl (Rd.ro hyr) Try.runUnderlying38) rfl rfl rfl ?_
      refine Ops.st (.eql rfl rfl) rfl rfl rfl ?_
      refine Ops.st (.build3 rfl Try.runUnderlying61 Try.sizeOf4 Try.zeroValue61 rfl) rfl rfl rfl ?_
      refine Ops.ef (.alloc Try.zeroValue61 rfl) rfl rfl rfl ?_
      rintro ab _ ⟨ab, rfl, rfl⟩
      refine Ops.ef10 (.storeA (vs := (bare n b l).map Value.bool) (cs' := (bare n b l).map Value.bool) rfl rfl (by repeat first | exact TakeP.here _ | apply TakeP.there) Try.sizeOf61 rfl (by decide) (by exact One.cons rfl (One.cons rfl (One.cons rfl One.nil))) rfl) rfl rfl ?_
      refine Ops.nil ?_
      refine Ext.seq ?_
      refine Cod.seq ?_
      refine Cod.seq ?_
      refine Cod.region ?_
      refine Ops.st (.loadPA (ds := (bare n b l).map Value.bool) rfl (by repeat first | exact TakeP.here _ | apply TakeP.there) Try.isAgg61 Try.sizeOf61 rfl rfl) rfl rfl rfl ?_
      refine Ops.st (.move rfl) rfl rfl rfl ?_
      refine Ops.nil ?_
      refine Ext.seq ?_
      refine Cod.block ?_
      refine Cod.loop (fun j : Nat => ⟨j ≤ 3, [(0, .pointer (some ⟨wb, 0, none⟩)), (2, vv), (21, lv), (22, .int .i64 fs.length), (23, .int .i64 i), (7, .pointer (some ⟨fb, 0, none⟩)), (8, .pointer (some ⟨xb, 0, none⟩)), (44, .agg ((bare n b l).map Value.bool).toArray), (45, .int .i64 j)], [pt wb 50 [bv1, .bool (badN k (bare n b l) j)], vec bv1 5 1 bs1.length (u8s bs1), pt fb 37 [.int .i64 k, W64 mn, W64 mx, ov], pt xb 40 [W64 n, xv, yv]]⟩) (fun j => 3 - j) 0 (Nat.zero_le _) ⟨rfl, rfl, rfl, rfl, rfl, rfl, rfl, rfl, rfl, trivial⟩ (Ent.take (by repeat' first | exact Takes.nil _ | exact TakeP.here _ | apply TakeP.there | apply Takes.cons)) ?_
      rintro j hj
      dsimp only
      refine Cod.seq ?_
      refine Cod.region ?_
      refine Ops.st (.lss rfl rfl) rfl rfl rfl ?_
      refine Ops.nil ?_
      refine Ext.seq ?_
      refine Cod.seq ?_
      refine Cod.condD rfl (fun h5 => ?_) (fun h5 => ?_)
      ·
        refine Cod.skip ?_
        refine Ext.seq ?_
        refine Cod.seq ?_
        refine Cod.block ?_
        refine Cod.seq ?_
        refine Cod.region ?_
        refine Ops.st (.move rfl) rfl rfl rfl ?_
        refine Ops.st (.indexA (j := j) (u := .bool ((bare n b l).getD j true)) rfl rfl rfl Try.runUnderlying61 Try.sizeOf4 Try.isAgg4 (by omega) (by match j, (by omega : j < 3) with | 0, _ => rfl | 1, _ => rfl | 2, _ => rfl)) rfl rfl rfl ?_
        refine Ops.st (.assign rfl) rfl rfl rfl ?_
        refine Ops.st (.assign rfl) rfl rfl rfl ?_
        refine Ops.nil ?_
        refine Ext.seq ?_
        refine Cod.region ?_
        refine Ops.st (.move rfl) rfl rfl rfl ?_
        refine Ops.st (.move rfl) rfl rfl rfl ?_
        refine Ops.st (.nilCheck rfl) rfl rfl rfl ?_
        refine Ops.st (.fieldAddr rfl fa50_1) rfl rfl rfl ?_
        refine Ops.st (.loadP rfl (by repeat first | exact TakeP.here _ | apply TakeP.there) Try.isAgg4 rfl) rfl rfl rfl ?_
        refine Ops.st (.move rfl) rfl rfl rfl ?_
        refine Ops.splitB (t := 54) rfl (fun g1 => ?_) (fun g1 => ?_)
        ·
          refine Ops.skipG rfl rfl rfl g1 rfl rfl ?_
          refine Ops.skipG rfl rfl rfl g1 rfl rfl ?_
          refine Ops.skipG rfl rfl rfl g1 rfl rfl ?_
          refine Ops.skipU rfl rfl rfl rfl rfl ?_
          refine Ops.skipU rfl rfl rfl rfl rfl ?_
          refine Ops.skipU rfl rfl rfl rfl rfl ?_
          refine Ops.skipU rfl rfl rfl rfl rfl ?_
          refine Ops.skipU rfl rfl rfl rfl rfl ?_
          refine Ops.skipG rfl rfl rfl g1 rfl rfl ?_
          refine Ops.st (.pickT rfl g1 rfl) rfl rfl rfl ?_
          refine Ops.st (.nilCheck rfl) rfl rfl rfl ?_
          refine Ops.st (.fieldAddr rfl fa50_1) rfl rfl rfl ?_
          refine Ops.ef10 (.store (cs' := [bv1, _]) rfl rfl (by repeat first | exact TakeP.here _ | apply TakeP.there) Try.sizeOf4 rfl rfl rfl) rfl rfl ?_
          refine Ops.nil ?_
          refine Ext.block ?_
          refine Ext.seq ?_
          refine Cod.region ?_
          refine Ops.st (.add rfl rfl (by first | exact IntWalk.i64_in _ (by omega) | rfl)) rfl rfl rfl ?_
          refine Ops.st (.move rfl) rfl rfl rfl ?_
          refine Ops.nil ?_
          exact Ext.back (j + 1) (by omega) (by omega) ⟨rfl, rfl, rfl, rfl, rfl, rfl, rfl, rfl, rfl, trivial⟩ (by rw [badN, g1, Bool.true_or]; exact Ent.take (by repeat' first | exact Takes.nil _ | exact TakeP.here _ | apply TakeP.there | apply Takes.cons))
        ·
          refine Ops.stG rfl rfl rfl g1 (.move rfl) rfl rfl ?_
          refine Ops.stG rfl rfl rfl g1 (.notB rfl) rfl rfl ?_
          refine Ops.stG rfl rfl rfl g1 (.move rfl) rfl rfl ?_
          refine Ops.splitB (t := 57) rfl (fun g2 => ?_) (fun g2 => ?_)
          ·
            refine Ops.stG rfl rfl rfl g2 (.move rfl) rfl rfl ?_
            refine Ops.stG rfl rfl rfl g2 (.add rfl rfl (by first | exact IntWalk.i64_in _ (by omega) | rfl)) rfl rfl ?_
            refine Ops.stG rfl rfl rfl g2 (.fieldAddr rfl fa37_0) rfl rfl ?_
            refine Ops.stG rfl rfl rfl g2 (.loadP rfl (by repeat first | exact TakeP.here _ | apply TakeP.there) Try.isAgg3 rfl) rfl rfl ?_
            refine Ops.stG rfl rfl rfl g2 (.neq rfl rfl) rfl rfl ?_
            refine Ops.stG rfl rfl rfl g1 (.pickT rfl g2 rfl) rfl rfl ?_
            refine Ops.st (.pickF rfl g1 rfl) rfl rfl rfl ?_
            refine Ops.st (.nilCheck rfl) rfl rfl rfl ?_
            refine Ops.st (.fieldAddr rfl fa50_1) rfl rfl rfl ?_
            refine Ops.ef10 (.store (cs' := [bv1, _]) rfl rfl (by repeat first | exact TakeP.here _ | apply TakeP.there) Try.sizeOf4 rfl rfl rfl) rfl rfl ?_
            refine Ops.nil ?_
            refine Ext.block ?_
            refine Ext.seq ?_
            refine Cod.region ?_
            refine Ops.st (.add rfl rfl (by first | exact IntWalk.i64_in _ (by omega) | rfl)) rfl rfl rfl ?_
            refine Ops.st (.move rfl) rfl rfl rfl ?_
            refine Ops.nil ?_
            exact Ext.back (j + 1) (by omega) (by omega) ⟨rfl, rfl, rfl, rfl, rfl, rfl, rfl, rfl, rfl, trivial⟩ (by rw [badN, g1, g2, Bool.false_or, Bool.true_and]; exact Ent.take (by repeat' first | exact Takes.nil _ | exact TakeP.here _ | apply TakeP.there | apply Takes.cons))
          ·
            refine Ops.skipG rfl rfl rfl g2 rfl rfl ?_
            refine Ops.skipG rfl rfl rfl g2 rfl rfl ?_
            refine Ops.skipG rfl rfl rfl g2 rfl rfl ?_
            refine Ops.skipG rfl rfl rfl g2 rfl rfl ?_
            refine Ops.skipG rfl rfl rfl g2 rfl rfl ?_
            refine Ops.stG rfl rfl rfl g1 (.pickF rfl g2 rfl) rfl rfl ?_
            refine Ops.st (.pickF rfl g1 rfl) rfl rfl rfl ?_
            refine Ops.st (.nilCheck rfl) rfl rfl rfl ?_
            refine Ops.st (.fieldAddr rfl fa50_1) rfl rfl rfl ?_
            refine Ops.ef10 (.store (cs' := [bv1, _]) rfl rfl (by repeat first | exact TakeP.here _ | apply TakeP.there) Try.sizeOf4 rfl rfl rfl) rfl rfl ?_
            refine Ops.nil ?_
            refine Ext.block ?_
            refine Ext.seq ?_
            refine Cod.region ?_
            refine Ops.st (.add rfl rfl (by first | exact IntWalk.i64_in _ (by omega) | rfl)) rfl rfl rfl ?_
            refine Ops.st (.move rfl) rfl rfl rfl ?_
            refine Ops.nil ?_
            exact Ext.back (j + 1) (by omega) (by omega) ⟨rfl, rfl, rfl, rfl, rfl, rfl, rfl, rfl, rfl, trivial⟩ (by rw [badN, g1, g2, Bool.false_or, Bool.false_and]; exact Ent.take (by repeat' first | exact Takes.nil _ | exact TakeP.here _ | apply TakeP.there | apply Takes.cons))
      ·
        refine Cod.exit (Ext.seqX (Ext.stopX (Ext.hit ?_)))
        refine Ext.seq ?_
        refine Cod.seq ?_
        refine Cod.cutK (fun g : Bool × Value × List UInt8 => ⟨Sl g.2.1 ∧ g.2.2.length ≤ bs1.length + wtV (.mk n b l) ∧ g.1 = !fitF (.mk k mn mx of) (.mk n b l) ∧ (fitF (.mk k mn mx of) (.mk n b l) = true → g.2.2 = bs1 ++ putF (.mk k mn mx of) (.mk n b l)), [(0, .pointer (some ⟨wb, 0, none⟩)), (2, vv), (21, lv), (22, .int .i64 fs.length), (23, .int .i64 i)], [pt wb 50 [g.2.1, .bool g.1], vec g.2.1 5 1 g.2.2.length (u8s g.2.2)]⟩) ?_ ?_
        ·
          refine Cod.seq ?_
          refine Cod.region ?_
          obtain rfl : j = 3 := by omega
          refine Ops.st (.fieldAddr rfl fa37_0) rfl rfl rfl ?_
          refine Ops.st (.loadP rfl (by repeat first | exact TakeP.here _ | apply TakeP.there) Try.isAgg3 rfl) rfl rfl rfl ?_
          refine Ops.nil ?_
          refine Ext.seq ?_
          refine Cod.block ?_
          refine Cod.seq ?_
          refine Cod.region ?_
          refine Ops.st (.eql rfl rfl) rfl rfl rfl ?_
          refine Ops.st (.assign rfl) rfl rfl rfl ?_
          refine Ops.nil ?_
          refine Ext.seq ?_
          refine Cod.condD rfl (fun k1 => ?_) (fun k1 => ?_)
          ·
            refine Cod.region ?_
            refine Ops.st (.move rfl) rfl rfl rfl ?_
            refine Ops.st (.loadPA rfl (by repeat first | exact TakeP.here _ | apply TakeP.there) Try.isAgg37 Try.sizeOf37 rfl rfl) rfl rfl rfl ?_
            refine Ops.st (.fieldAddr rfl fa40_0) rfl rfl rfl ?_
            refine Ops.st (.loadP rfl (by repeat first | exact TakeP.here _ | apply TakeP.there) Try.isAgg35 rfl) rfl rfl rfl ?_
            refine Ops.call ⟨Try.call33⟩ rfl rfl rfl (by repeat' first | exact Takes.nil _ | exact TakeP.here _ | apply TakeP.there | apply Takes.cons) (fun F' hF => number_any hov hbv1 (by omega)) rfl rfl rfl ?_
            rintro _ _ ⟨bv2, hbv2, rfl⟩
            refine Ops.nil ?_
            refine Ext.block ?_
            exact Ext.at_ (badN k (bare n b l) 3 || !inS mn mx n, bv2, bs1 ++ numB mn mx n) ⟨hbv2, by have := numB_le mn mx n; dsimp only; rw [List.length_append, wtV]; omega, fit1 k1, fun h => by have hin : inS mn mx n = true := (by have := fit1 (k := k) (mn := mn) (mx := mx) (n := n) (of := of) (b := b) (l := l) k1; rw [h] at this; cases hq : inS mn mx n; rw [hq] at this; simp at this; rfl); dsimp only; rw [putF, if_pos k1, numB, if_pos hin]⟩ ⟨rfl, rfl, rfl, rfl, rfl, trivial⟩ (Ent.take (by repeat' first | exact Takes.nil _ | exact TakeP.here _ | apply TakeP.there | apply Takes.cons))
          ·
            refine Cod.seq ?_
            refine Cod.region ?_
            refine Ops.st (.eql rfl rfl) rfl rfl rfl ?_
            refine Ops.st (.assign rfl) rfl rfl rfl ?_
            refine Ops.nil ?_
            refine Ext.seq ?_
            refine Cod.condD rfl (fun k2 => ?_) (fun k2 => ?_)
            ·
              refine Cod.seq ?_
              refine Cod.region ?_
              refine Ops.st (.move rfl) rfl rfl rfl ?_
              refine Ops.st (.loadPA rfl (by repeat first | exact TakeP.here _ | apply TakeP.there) Try.isAgg37 Try.sizeOf37 rfl rfl) rfl rfl rfl ?_
              refine Ops.st (.fieldAddr rfl fa40_1) rfl rfl rfl ?_
              refine Ops.st (.loadP rfl (by repeat first | exact TakeP.here _ | apply TakeP.there) Try.isAgg26 rfl) rfl rfl rfl ?_
              refine Ops.st (.len rfl (Rd.ro hxr) Try.runUnderlying26) rfl rfl rfl ?_
              refine Ops.st (.convI_64 rfl rfl Try.underlying3 Try.underlying35) rfl rfl rfl ?_
              refine Ops.call ⟨Try.call33⟩ rfl rfl rfl (by repeat' first | exact Takes.nil _ | exact TakeP.here _ | apply TakeP.there | apply Takes.cons) (fun F' hF => number_any hov hbv1 (by omega)) rfl rfl rfl ?_
              rintro _ _ ⟨bv2, hbv2, rfl⟩
              refine Ops.nil ?_
              refine Ext.seq ?_
              have hnl := numB_le mn mx (UInt64.ofNat b.length)
              have hnl2 : (bs1 ++ numB mn mx (UInt64.ofNat b.length)).length = bs1.length + (numB mn mx (UInt64.ofNat b.length)).length := List.length_append
              rw [wtV] at hl1
              refine Cod.regionA mixed (by kernel_rfl) (listed := #[false, false, false, false, false, false, false, false, false, false, false]) ?_
              refine As.take 0 rfl (by kernel_rfl) (by kernel_rfl) (by kernel_rfl) rfl rfl rfl (fun F hs => .move rfl) (by kernel_rfl) (listed' := #[true, false, false, false, false, false, false, false, false, false, false]) ?_
              refine As.take 1 rfl (by kernel_rfl) (by kernel_rfl) (by kernel_rfl) rfl rfl rfl (fun F hs => .move rfl) (by kernel_rfl) (listed' := #[true, true, false, false, false, false, false, false, false, false, false]) ?_
              refine As.take 2 rfl (by kernel_rfl) (by kernel_rfl) (by kernel_rfl) rfl rfl rfl (fun F hs => .nilCheck rfl) (by kernel_rfl) (listed' := #[true, true, true, false, false, false, false, false, false, false, false]) ?_
              refine As.take 3 rfl (by kernel_rfl) (by kernel_rfl) (by kernel_rfl) rfl rfl rfl (fun F hs => .fieldAddr rfl fa50_0) (by kernel_rfl) (listed' := #[true, true, true, true, false, false, false, false, false, false, false]) ?_
              refine As.take 5 rfl (by kernel_rfl) (by kernel_rfl) (by kernel_rfl) rfl rfl rfl (fun F hs => .fieldAddr rfl fa40_1) (by kernel_rfl) (listed' := #[true, true, true, true, false, true, false, false, false, false, false]) ?_
              refine As.quiet [4, 6] 2 4 rfl ?_
              refine Aq.st (i := 4) ⟨rfl, by kernel_rfl, by kernel_rfl, by kernel_rfl, by kernel_rfl, by kernel_rfl⟩ (.loadP rfl (by repeat first | exact TakeP.here _ | apply TakeP.there) Try.isAgg26 rfl) rfl rfl rfl (by kernel_rfl) (listed' := #[true, true, true, true, true, true, false, false, false, false, false]) ?_
              refine Aq.st (i := 6) ⟨rfl, by kernel_rfl, by kernel_rfl, by kernel_rfl, by kernel_rfl, by kernel_rfl⟩ (.loadP rfl (by repeat first | exact TakeP.here _ | apply TakeP.there) Try.isAgg26 rfl) rfl rfl rfl (by kernel_rfl) (listed' := #[true, true, true, true, true, true, true, false, false, false, false]) ?_
              refine Aq.done (by kernel_rfl) ?_
              refine As.one (i := 7) (by kernel_rfl) ?_
              refine Ao.ef rfl (.append (v := bv2) rfl rfl (by repeat first | exact TakeP.here _ | apply TakeP.there) (Rd.ro hxr) ei26 (by omega) (by simp only [maxLen]; omega)) rfl rfl rfl (by kernel_rfl) (listed' := #[true, true, true, true, true, true, true, true, false, false, false]) ?_
              rintro bv3 _ ⟨hbv3, rfl⟩
              refine As.take 8 rfl (by kernel_rfl) (by kernel_rfl) (by kernel_rfl) rfl rfl rfl (fun F hs => .nilCheck rfl) (by kernel_rfl) (listed' := #[true, true, true, true, true, true, true, true, true, false, false]) ?_
              refine As.take 9 rfl (by kernel_rfl) (by kernel_rfl) (by kernel_rfl) rfl rfl rfl (fun F hs => .fieldAddr rfl fa50_0) (by kernel_rfl) (listed' := #[true, true, true, true, true, true, true, true, true, true, false]) ?_
              refine As.one (i := 10) (by kernel_rfl) ?_
              refine Ao.ef10 rfl (.store (cs' := [bv3, .bool (badN k (bare n b l) 3 || !inS mn mx (UInt64.ofNat b.length))]) rfl rfl (by repeat first | exact TakeP.here _ | apply TakeP.there) Try.sizeOf26 rfl hbv3.one rfl) rfl rfl (by kernel_rfl) (listed' := #[true, true, true, true, true, true, true, true, true, true, true]) ?_
              refine As.done (by kernel_rfl) ?_
              refine Ext.block ?_
              exact Ext.at_ (badN k (bare n b l) 3 || !inS mn mx (UInt64.ofNat b.length), bv3, bs1 ++ numB mn mx (UInt64.ofNat b.length) ++ b) ⟨hbv3, by dsimp only; rw [List.length_append, wtV]; omega, fit2 k2 (by omega), fun h => by have hin : inS mn mx (UInt64.ofNat b.length) = true := (by have := fit2 (k := k) (mn := mn) (mx := mx) (n := n) (of := of) (b := b) (l := l) k2 (by omega); rw [h] at this; cases hq : inS mn mx (UInt64.ofNat b.length); rw [hq] at this; simp at this; rfl); dsimp only; rw [putF, if_neg k1, if_pos k2, numB_nat (by omega) hin, List.append_assoc]⟩ ⟨rfl, rfl, rfl, rfl, rfl, trivial⟩ (by dsimp only; rw [u8s_app (bs1 ++ numB mn mx (UInt64.ofNat b.length)) b, List.length_append (bs := b)]; exact Ent.take (by repeat' first | exact Takes.nil _ | exact TakeP.here _ | apply TakeP.there | apply Takes.cons))
            ·
              refine Cod.seq ?_
              refine Cod.region ?_
              refine Ops.st (.eql rfl rfl) rfl rfl rfl ?_
              refine Ops.st (.assign rfl) rfl rfl rfl ?_
              refine Ops.nil ?_
              refine Ext.seq ?_
              refine Cod.condT rfl (decide_eq_true (by omega)) ?_
              refine Cod.seq ?_
              refine Cod.region ?_
              refine Ops.st (.move rfl) rfl rfl rfl ?_
              refine Ops.st (.loadPA rfl (by repeat first | exact TakeP.here _ | apply TakeP.there) Try.isAgg37 Try.sizeOf37 rfl rfl) rfl rfl rfl ?_
              refine Ops.st (.fieldAddr rfl fa40_2) rfl rfl rfl ?_
              refine Ops.st (.loadP rfl (by repeat first | exact TakeP.here _ | apply TakeP.there) Try.isAgg38 rfl) rfl rfl rfl ?_
              refine Ops.st (.len rfl (Rd.ro hyr) Try.runUnderlying38) rfl rfl rfl ?_
              refine Ops.st (.convI_64 rfl rfl Try.underlying3 Try.underlying35) rfl rfl rfl ?_
              refine Ops.call ⟨Try.call33⟩ rfl rfl rfl (by repeat' first | exact Takes.nil _ | exact TakeP.here _ | apply TakeP.there | apply Takes.cons) (fun F' hF => number_any hov hbv1 (by omega)) rfl rfl rfl ?_
              rintro _ _ ⟨bv2, hbv2, rfl⟩
              refine Ops.nil ?_
              refine Ext.seq ?_
              refine Cod.seq ?_
              refine Cod.region ?_
              obtain ⟨m2, hm2⟩ := hsub (by omega)
              have hnl := numB_le mn mx (UInt64.ofNat l.length)
              have hnl2 : (bs1 ++ numB mn mx (UInt64.ofNat l.length)).length = bs1.length + (numB mn mx (UInt64.ofNat l.length)).length := List.length_append
              have hfit := fit3 (k := k) (mn := mn) (mx := mx) (n := n) (of := of) (b := b) (l := l) (by omega) (by omega)
              rw [wtV] at hl1
              generalize ham2 : (badN k (bare n b l) 3 || !inS mn mx (UInt64.ofNat l.length)) = am2 at hfit
              generalize hbs2 : bs1 ++ numB mn mx (UInt64.ofNat l.length) = bs2 at hnl2
              refine Ops.st (.assign rfl) rfl rfl rfl ?_
              refine Ops.nil ?_
              refine Ext.seq ?_
              refine Cod.block ?_
              refine Cod.loop (fun g : Nat × Bool × Value × List UInt8 => ⟨g.1 ≤ l.length ∧ Sl g.2.2.1 ∧ g.2.2.2.length + wtQ (l.drop g.1) ≤ bs2.length + wtQ l ∧ g.2.1 = !(!am2 && (l.take g.1).all fun r => fitR of r) ∧ (g.2.1 = false → g.2.2.2 = bs2 ++ (l.take g.1).flatMap fun r => putR of r), [(0, .pointer (some ⟨wb, 0, none⟩)), (2, vv), (21, lv), (22, .int .i64 fs.length), (23, .int .i64 i), (7, .pointer (some ⟨fb, 0, none⟩)), (8, .pointer (some ⟨xb, 0, none⟩)), (12, .int .i64 g.1)], [pt wb 50 [g.2.2.1, .bool g.2.1], vec g.2.2.1 5 1 g.2.2.2.length (u8s g.2.2.2), pt fb 37 [.int .i64 k, W64 mn, W64 mx, ov], pt xb 40 [W64 n, xv, yv]]⟩) (fun g => l.length - g.1) (0, am2, bv2, bs2) ⟨Nat.zero_le _, hbv2, Nat.le_refl _, by simp, fun _ => by simp⟩ ⟨rfl, rfl, rfl, rfl, rfl, rfl, rfl, rfl, trivial⟩ (Ent.take (by repeat' first | exact Takes.nil _ | exact TakeP.here _ | apply TakeP.there | apply Takes.cons)) ?_
              rintro ⟨j, am3, bv3, bs3⟩ ⟨hj, hbv3, hl3, ham3, hp3⟩
              dsimp only
              refine Cod.seq ?_
              refine Cod.seq ?_
              refine Cod.region ?_
              dsimp only at hj hbv3 hl3 ham3 hp3
              refine Ops.st (.move rfl) rfl rfl rfl ?_
              refine Ops.st (.fieldAddr rfl fa40_2) rfl rfl rfl ?_
              refine Ops.st (.loadP rfl (by repeat first | exact TakeP.here _ | apply TakeP.there) Try.isAgg38 rfl) rfl rfl rfl ?_
              refine Ops.st (.len rfl (Rd.ro hyr) Try.runUnderlying38) rfl rfl rfl ?_
              refine Ops.st (.lss rfl rfl) rfl rfl rfl ?_
              refine Ops.st (.move rfl) rfl rfl rfl ?_
              refine Ops.splitD (t := 110) rfl (fun h6 => ?_) (fun h6 => ?_)
              ·
                refine Ops.stG rfl rfl rfl (decide_eq_true h6) (.move rfl) rfl rfl ?_
                refine Ops.stG rfl rfl rfl (decide_eq_true h6) (.nilCheck rfl) rfl rfl ?_
                refine Ops.stG rfl rfl rfl (decide_eq_true h6) (.fieldAddr rfl fa50_1) rfl rfl ?_
                refine Ops.stG rfl rfl rfl (decide_eq_true h6) (.loadP rfl (by repeat first | exact TakeP.here _ | apply TakeP.there) Try.isAgg4 rfl) rfl rfl ?_
                refine Ops.stG rfl rfl rfl (decide_eq_true h6) (.notB rfl) rfl rfl ?_
                refine Ops.st (.pickT rfl (decide_eq_true h6) rfl) rfl rfl rfl ?_
                refine Ops.nil ?_
                refine Ext.seq ?_
                refine Cod.cond rfl (fun h7 => ?_) (fun h7 => ?_)
                ·
                  refine Cod.skip ?_
                  refine Ext.seq ?_
                  refine Cod.seq ?_
                  refine Cod.block ?_
                  obtain rfl : am3 = false := by cases am3; rfl; cases h7
                  obtain ⟨r, hrj⟩ : ∃ r, l[j]? = some r := ⟨l[j]'(by omega), List.getElem?_eq_getElem (by omega)⟩
                  obtain ⟨rv, rcs, hrv, hrr, hrq⟩ := hrs.get hrj
                  rw [drop_get hrj, wtQ] at hl3
                  refine Cod.regionT 8 mixed (by kernel_rfl) ?_
                  refine Ss.st (.move rfl) rfl rfl rfl ?_
                  refine Ss.st (.fieldAddr rfl fa37_3) rfl rfl rfl ?_
                  refine Ss.st (.loadP rfl (by repeat first | exact TakeP.here _ | apply TakeP.there) Try.isAgg22 rfl) rfl rfl rfl ?_
                  refine Ss.st (.fieldAddr rfl fa40_2) rfl rfl rfl ?_
                  refine Ss.st (.loadP rfl (by repeat first | exact TakeP.here _ | apply TakeP.there) Try.isAgg38 rfl) rfl rfl rfl ?_
                  refine Ss.st (.move rfl) rfl rfl rfl ?_
                  refine Ss.st (.indexAddr (j := j) (off := j) rfl rfl (Rd.ro hyr) Try.runUnderlying38 Try.sizeOf23 rfl (by omega) (by omega)) rfl rfl rfl ?_
                  refine Ss.st (.load_elem rfl (Rd.ro hyr) Try.isAgg23 hrv) rfl rfl rfl ?_
                  refine Ss.nil ?_
                  refine Ops.call ⟨Try.call26⟩ rfl rfl rfl (by repeat' first | exact Takes.nil _ | exact TakeP.here _ | apply TakeP.there | apply Takes.cons) (fun F' hF => ih hd4 hbv3 (hor.mono hF.hf) (hoc.mono hF.hf of) (hrr.mono hF.hf) (hrq.mono hF.hf r) hm2 (by omega)) rfl rfl rfl ?_
                  rintro _ _ ⟨bv4, bs4, hbv4, hl4, hp4, rfl⟩
                  refine Ops.nil ?_
                  refine Ext.block ?_
                  refine Ext.seq ?_
                  refine Cod.region ?_
                  refine Ops.st (.move rfl) rfl rfl rfl ?_
                  refine Ops.st (.add rfl rfl (by first | exact IntWalk.i64_in _ (by omega) | rfl)) rfl rfl rfl ?_
                  refine Ops.st (.assign rfl) rfl rfl rfl ?_
                  refine Ops.nil ?_
                  exact Ext.back (j + 1, !fitR of r, bv4, bs4) (by dsimp only; omega) ⟨by dsimp only; omega, hbv4, by dsimp only; omega, by dsimp only; rw [List.take_add_one, hrj, List.all_append, ← Bool.and_assoc, go_all ham3]; simp, fun h => by dsimp only at h ⊢; rw [hp4 (by cases hq : fitR of r; rw [hq] at h; cases h; rfl), hp3 rfl, List.take_add_one, hrj, List.flatMap_append, List.append_assoc]; simp⟩ ⟨rfl, rfl, rfl, rfl, rfl, rfl, rfl, rfl, trivial⟩ (Ent.take (by repeat' first | exact Takes.nil _ | exact TakeP.here _ | apply TakeP.there | apply Takes.cons))
                ·
                  refine Cod.exit (Ext.seqX (Ext.stopX (Ext.hit ?_)))
                  refine Ext.block ?_
                  have h9 : am3 = true := by cases am3; cases h7; rfl
                  have h10 := stop_all ham3 h9
                  rw [h10] at hfit
                  exact Ext.at_ (am3, bv3, bs3) ⟨hbv3, by dsimp only; rw [wtV]; omega, by rw [hfit]; exact h9, fun h => by rw [hfit] at h; cases h⟩ ⟨rfl, rfl, rfl, rfl, rfl, trivial⟩ (Ent.take (by repeat' first | exact Takes.nil _ | exact TakeP.here _ | apply TakeP.there | apply Takes.cons))
              ·
                refine Ops.skipG rfl rfl rfl (decide_eq_false h6) rfl rfl ?_
                refine Ops.skipG rfl rfl rfl (decide_eq_false h6) rfl rfl ?_
                refine Ops.skipG rfl rfl rfl (decide_eq_false h6) rfl rfl ?_
                refine Ops.skipG rfl rfl rfl (decide_eq_false h6) rfl rfl ?_
                refine Ops.skipG rfl rfl rfl (decide_eq_false h6) rfl rfl ?_
                refine Ops.st (.pickF rfl (decide_eq_false h6) rfl) rfl rfl rfl ?_
                refine Ops.nil ?_
                refine Ext.seq ?_
                refine Cod.condF rfl (by simp) ?_
                refine Cod.exit (Ext.seqX (Ext.stopX (Ext.hit ?_)))
                refine Ext.block ?_
                rw [List.take_of_length_le (by omega)] at ham3 hp3
                exact Ext.at_ (am3, bv3, bs3) ⟨hbv3, by dsimp only; rw [wtV]; omega, by rw [hfit]; exact ham3, fun h => by have h2 := h; rw [hfit, Bool.and_eq_true] at h2; have h3 : am3 = false := (by rw [ham3, h2.1, h2.2]; rfl); dsimp only; rw [putF, if_neg k1, if_neg k2, hp3 h3, ← hbs2, numB_nat (by omega) (or_not ham2 h2.1), List.append_assoc]⟩ ⟨rfl, rfl, rfl, rfl, rfl, trivial⟩ (Ent.take (by repeat' first | exact Takes.nil _ | exact TakeP.here _ | apply TakeP.there | apply Takes.cons))
        ·
          rintro ⟨am, bv2, bs2⟩ ⟨hbv2, hl2, ham, hp2⟩
          dsimp only
          refine Cod.seq ?_
          refine Cod.region ?_
          dsimp only at hbv2 hl2 ham hp2
          refine Ops.st (.move rfl) rfl rfl rfl ?_
          refine Ops.st (.nilCheck rfl) rfl rfl rfl ?_
          refine Ops.st (.fieldAddr rfl fa50_1) rfl rfl rfl ?_
          refine Ops.st (.loadP rfl (by repeat first | exact TakeP.here _ | apply TakeP.there) Try.isAgg4 rfl) rfl rfl rfl ?_
          refine Ops.nil ?_
          refine Ext.seq ?_
          refine Cod.cond rfl (fun h8 => ?_) (fun h8 => ?_)
          ·
            have hF : fitF (.mk k mn mx of) (.mk n b l) = false := by cases hq : fitF (.mk k mn mx of) (.mk n b l); rfl; rw [ham, hq] at h8; cases h8
            exact Cod.ret (Ext.blockR (Ext.seqR (Ext.stopR (Ext.blockR (Ext.ret0E rfl (Ent.take (ps := [pt wb 50 [bv2, .bool true], vec bv2 5 1 bs2.length (u8s bs2)]) (by rw [h8]; exact (by repeat' first | exact Takes.nil _ | exact TakeP.here _ | apply TakeP.there | apply Takes.cons))) (⟨bv2, bs2, hbv2, by omega, fun h => (by rw [hf1, hF] at h; cases h), by rw [hf1, hF]; rfl⟩))))))
          ·
            refine Cod.skip ?_
            refine Ext.block ?_
            refine Ext.seq ?_
            refine Cod.region ?_
            have hF : fitF (.mk k mn mx of) (.mk n b l) = true := by cases hq : fitF (.mk k mn mx of) (.mk n b l); rw [ham, hq] at h8; cases h8; rfl
            refine Ops.st (.add rfl rfl (by first | exact IntWalk.i64_in _ (by omega) | rfl)) rfl rfl rfl ?_
            refine Ops.st (.move rfl) rfl rfl rfl ?_
            refine Ops.nil ?_
            exact Ext.back (i + 1, bv2, bs2) (by dsimp only; omega) ⟨by dsimp only; omega, hbv2, by dsimp only; omega, by rw [hf1, hF, Bool.true_and], by rw [hp1, hp2 hF, List.append_assoc]⟩ ⟨rfl, rfl, rfl, rfl, rfl, trivial⟩ (by dsimp only; rw [h8]; exact Ent.take (by repeat' first | exact Takes.nil _ | exact TakeP.here _ | apply TakeP.there | apply Takes.cons))
    ·
      refine Cod.exit (Ext.seqX (Ext.stopX (Ext.hit ?_)))
      obtain rfl : i = fs.length := by omega
      rw [List.drop_length, hln, List.drop_length] at hf1 hp1
      rw [putR_nil, List.append_nil] at hp1
      exact Ext.ret0EN rfl (Ent.take (ps := [pt wb 50 [bv1, .bool false], vec bv1 5 1 bs1.length (u8s bs1)]) (by repeat' first | exact Takes.nil _ | exact TakeP.here _ | apply TakeP.there | apply Takes.cons)) (⟨bv1, bs1, hbv1, by omega, fun _ => hp1.symm, by rw [hf1, fitR]; rfl⟩)
theorem record_any : ∀ (q d : Nat), d + q = 5 → ∀ {F : Fr} {wb : Nat} {bv lv vv : Value} {bs : List UInt8} {cs ws : List Value} {fs : List Fld} {vs : List Val} {m : Nat}, Sl bv → SlR F.hf lv 4 fs.length cs → FldsR F.hf fs cs → SlR F.hf vv 3 vs.length ws → ValsR F.hf vs ws → mostR d fs = some m → bs.length + wtR vs ≤ 70368744177664 →
      Spec Try.prog F 26 [.pointer (some ⟨wb, 0, none⟩), lv, vv] [pt wb 50 [bv, .bool false], vec bv 5 1 bs.length (u8s bs)]
        (fun _ hs' => ∃ bv' bs', Sl bv' ∧ bs'.length ≤ bs.length + wtR vs ∧ (fitR fs vs = true → bs' = bs ++ putR fs vs) ∧ hs' = [pt wb 50 [bv', .bool (!fitR fs vs)], vec bv' 5 1 bs'.length (u8s bs')])
  | 0, d, h, _, _, _, _, _, _, _, _, _, _, _, hbv, hr, hc, hs, hw, hm, hl => record_step (fun h4 => absurd h4 (by omega)) hbv hr hc hs hw hm hl
  | q + 1, d, h, _, _, _, _, _, _, _, _, _, _, _, hbv, hr, hc, hs, hw, hm, hl => record_step (fun _ {F wb bv lv vv bs cs ws fs vs m} => record_any q (d + 1) (by omega)) hbv hr hc hs hw hm hl
end Go.Proofs.Ytacgngfjanlfnaa
