/- The record in which all is as long as it may be. No condition. -/
import Derived.Test.YtacgngfjanlfnaaPN
import Derived.Test.YtacgngfjanlfnaaLG
namespace Go.Proofs.Ytacgngfjanlfnaa
open Go

theorem Wider.ice {F F' : Fr} {rest r : List SP} {h1 : Hp} (hw : Wider F rest F') (hk : TakeP (ice h1) rest r) : Hp.le h1 F'.hf := by
  obtain ⟨z, hz, hl⟩ := SL_head hk hw.rest
  cases hz
  exact hl
mutual
/-- A field's longest value. -/
def longF : Fld → Val
  | .mk k _ mx of => if k = 1 then .mk mx [] [] else if k = 2 then .mk 0 (List.replicate mx.toNat 0) [] else .mk 0 [] (List.replicate mx.toNat (longL of))
def longL : List Fld → List Val
  | [] => []
  | f :: fs => longF f :: longL fs
end
theorem longL_len : ∀ fs, (longL fs).length = fs.length
  | [] => rfl
  | f :: fs => by rw [longL, List.length_cons, List.length_cons, longL_len fs]
theorem longL_app : ∀ (a b : List Fld), longL (a ++ b) = longL a ++ longL b
  | [], b => by rw [longL]; rfl
  | f :: a, b => by rw [List.cons_append, longL, longL, longL_app a b]; rfl
theorem flat_rep {α β : Type} {q : α → List β} {x : α} : ∀ n, ((List.replicate n x).flatMap q).length = n * (q x).length
  | 0 => by simp
  | n + 1 => by rw [List.replicate_succ, List.flatMap_cons, List.length_append, flat_rep n, Nat.add_mul]; omega
theorem wtQ_rep (r : List Val) : ∀ n, wtQ (List.replicate n r) = n * wtR r
  | 0 => by simp [wtQ]
  | n + 1 => by rw [List.replicate_succ, wtQ, wtQ_rep r n, Nat.add_mul]; omega
mutual
theorem longF_put : ∀ (d : Nat) (f : Fld) (n : Nat), mostF d f = some n → fitF f (longF f) = true ∧ (putF f (longF f)).length = n ∧ wtV (longF f) ≤ 8 * n
  | d, .mk k mn mx of, n, h => by
    have ok := mostF_ok d _ n h
    rw [okF] at ok
    obtain ⟨_, hm, hw, _⟩ := ok
    have hm2 := le_nat.1 hm
    rw [mostF] at h
    by_cases h1 : k = 1
    · simp only [h1, if_true] at h
      rw [longF, if_pos h1]
      split at h
      · cases h
      · split at h
        · cases h
        · simp only [Option.some.injEq] at h
          have hwp := wid_pos (mx - mn).toNat
          rw [if_neg (fun x : (1 : Int) ≠ 1 => x rfl)] at h
          refine ⟨?_, ?_, ?_⟩
          · rw [fitF, if_pos h1]; simp [hm, le_nat]
          · rw [putF, if_pos h1, leB_len]; omega
          · rw [wtV, wtQ]; simp only [List.length_nil]; omega
    · simp only [if_neg h1] at h
      rw [longF, if_neg h1]
      by_cases h2 : k = 2
      · simp only [h2, if_true] at h
        rw [if_pos h2]
        split at h
        · cases h
        · rename_i e he
          split at he
          · simp only [Option.some.injEq] at he
            split at h
            · cases h
            · simp only [Option.some.injEq] at h
              subst he
              have hn : (2 : Int) ≠ 1 := by decide
              rw [if_pos hn] at h
              have hwp := wid_pos (mx - mn).toNat
              refine ⟨?_, ?_, ?_⟩
              · rw [fitF, if_neg h1, if_pos h2]; simp [hm2]
              · rw [putF, if_neg h1, if_pos h2, List.length_append, leB_len, List.length_replicate]; omega
              · rw [wtV, wtQ, List.length_replicate]; omega
          · cases he
      · simp only [if_neg h2] at h
        rw [if_neg h2]
        split at h
        · cases h
        · rename_i e he
          split at he
          · split at he
            · cases he
            · split at h
              · cases h
              · simp only [Option.some.injEq] at h
                obtain ⟨h4, h5, h6⟩ := longL_put (d + 1) of 0 e he
                have h7 : mx.toNat * wtR (longL of) ≤ mx.toNat * (8 * e) := Nat.mul_le_mul_left _ (by omega)
                have h8 : mx.toNat * (8 * e) = 8 * (mx.toNat * e) := by rw [Nat.mul_left_comm]
                have h9 : mx.toNat * (putR of (longL of)).length = mx.toNat * e := by rw [show (putR of (longL of)).length = e by omega]
                have hwp := wid_pos (mx - mn).toNat
                refine ⟨?_, ?_, ?_⟩
                · rw [fitF, if_neg h1, if_neg h2]
                  simp only [Bool.and_eq_true, decide_eq_true_eq, List.length_replicate]
                  exact ⟨trivial, trivial, ⟨hm2, Nat.le_refl _⟩, List.all_eq_true.2 fun r hr => by rw [List.eq_of_mem_replicate hr]; exact h4⟩
                · rw [putF, if_neg h1, if_neg h2, List.length_append, leB_len, flat_rep (q := fun r => putR of r), h9]; omega
                · rw [wtV, wtQ_rep]; simp only [List.length_nil]; omega
          · cases he
theorem longL_put : ∀ (d : Nat) (fs : List Fld) (s n : Nat), mostL d fs s = some n → fitR fs (longL fs) = true ∧ s + (putR fs (longL fs)).length = n ∧ 8 * s + wtR (longL fs) ≤ 8 * n
  | d, [], s, n, h => by
    simp only [mostL, Option.some.injEq] at h
    rw [longL, fitR, putR_nil, wtR]
    exact ⟨rfl, by simpa using h, by omega⟩
  | d, f :: fs, s, n, h => by
    rw [mostL] at h
    split at h
    · cases h
    · rename_i m hm
      split at h
      · cases h
      · obtain ⟨h1, h2, h3⟩ := longF_put d f m hm
        obtain ⟨h4, h5, h6⟩ := longL_put d fs _ n h
        rw [longL, fitR, putR, wtR, List.length_append, h1, h4]
        exact ⟨rfl, by omega, by omega⟩
end
theorem longR_put {d : Nat} {fs : List Fld} {n : Nat} (h : mostR d fs = some n) : fitR fs (longL fs) = true ∧ (putR fs (longL fs)).length = n ∧ wtR (longL fs) ≤ 8 * n := by
  rw [mostR] at h
  split at h
  · cases h
  · have := longL_put d fs 0 n h
    exact ⟨this.1, by omega, by omega⟩
theorem ValsR.snoc {h : Hp} {v : Val} {c : List Value} (hv : ValR h v c) : ∀ {vs : List Val} {cs : List Value}, ValsR h vs cs → ValsR h (vs ++ [v]) (cs ++ c)
  | [], cs, x => by rw [ValsR] at x; subst x; rw [List.nil_append, List.nil_append, ValsR]; exact ⟨c, [], by simp, hv, by rw [ValsR]⟩
  | w :: vs, cs, x => by
    rw [ValsR] at x
    obtain ⟨a, b, rfl, h1, h2⟩ := x
    rw [List.cons_append, ValsR]
    exact ⟨a, b ++ c, by rw [List.append_assoc], h1, ValsR.snoc hv h2⟩
theorem RecsR.rep {h : Hp} {r : List Val} {rv : Value} {rcs : List Value} (h1 : SlR h rv 3 r.length rcs) (h2 : ValsR h r rcs) : ∀ n, RecsR h (List.replicate n r) (List.replicate n rv)
  | 0 => by rw [List.replicate_zero, List.replicate_zero, RecsR]
  | n + 1 => by rw [List.replicate_succ, List.replicate_succ, RecsR]; exact ⟨rv, rcs, _, rfl, h1, h2, RecsR.rep h1 h2 n⟩
theorem ValsR.len {h : Hp} : ∀ {vs : List Val} {cs : List Value}, ValsR h vs cs → cs.length = vs.length * 3
  | [], cs, x => by rw [ValsR] at x; subst x; rfl
  | w :: vs, cs, x => by
    rw [ValsR] at x
    obtain ⟨a, b, rfl, h1, h2⟩ := x
    rw [List.length_append, h1.len, ValsR.len h2, List.length_cons]
    omega

theorem zeros8 (n : Nat) : u8s (List.replicate n 0) = List.replicate n (.int .u8 0) := by simp [u8s]
theorem ValR.sls {h : Hp} {v : Val} {a x y : Value} (hv : ValR h v [a, x, y]) : Sl x ∧ Sl y := by
  cases v
  rw [ValR] at hv
  obtain ⟨bv, lv, e, h1, rows, h2, _⟩ := hv
  simp only [List.cons.injEq] at e
  obtain ⟨_, rfl, rfl, _⟩ := e
  exact ⟨h1.sl, h2.sl⟩
section
variable {P : Program} {n : Nat} {F : Fr} {k : Kont} {c : Exit} {env : Env} {hs r : List SP}
theorem Ext.open_ {α : Type} {A : SP} {φ : α → Prop} {I : α → List SP} {rest : List SP} (hk : TakeP A hs rest) (h : ∀ z, A z → ∃ x, φ x ∧ SL (I x) z) (hh : ∀ x, φ x → Ext P n F k c env (I x ++ rest)) : Ext P n F k c env hs := by
  intro a w s
  have s' := s.sat.ent hk.ent
  obtain ⟨z, d, u, z1, z2, hd, rfl, hz1, hz2⟩ := s'.heap
  obtain ⟨x, hφ, hx⟩ := h z1 hz1
  exact hh x hφ a w ⟨s.ag, s'.os, s'.out, s'.tape, _, d, u, SL_append.2 ⟨z1, z2, hd, rfl, hx, hz2⟩⟩
theorem Ext.freeze {v : Value} {T : TypeId} {sz m : Nat} {xs : List Value} {h0 : Hp} (hk : Takes [vec v T sz m xs, ice h0] hs r) (hh : ∀ h1, Hp.le h0 h1 → SlR h1 v sz m xs → Ext P n F k c env (ice h1 :: r)) : Ext P n F k c env hs :=
  Ext.ent (Ent.fold hk fun _ z => z) (Ext.open_ (.here _) (ice_open (φ := fun y => SlR y v sz m xs) fun _ z => vec.slR z) fun x ⟨h1, y, hy, hl⟩ => hh x h1 (hy.mono hl))
end

theorem longest_step {d : Nat} (ih : d ≤ 4 → ∀ {F : Fr} {h0 : Hp} {lv : Value} {cs : List Value} {fs : List Fld} {m : Nat}, SlR F.hf lv 4 fs.length cs → FldsR F.hf fs cs → mostR (d + 1) fs = some m →
      Spec Try.prog F 21 [lv] [ice h0] (fun u hs' => ∃ h1 ws, Hp.le h0 h1 ∧ SlR h1 u 3 fs.length ws ∧ ValsR h1 (longL fs) ws ∧ hs' = [ice h1]))
    {F : Fr} {h0 : Hp} {lv : Value} {cs : List Value} {fs : List Fld} {m : Nat} (hr : SlR F.hf lv 4 fs.length cs) (hc : FldsR F.hf fs cs) (hm : mostR d fs = some m) :
    Spec Try.prog F 21 [lv] [ice h0] (fun u hs' => ∃ h1 ws, Hp.le h0 h1 ∧ SlR h1 u 3 fs.length ws ∧ ValsR h1 (longL fs) ws ∧ hs' = [ice h1]) := by
  have hfl : fs.length ≤ 16 := by
    rw [mostR] at hm
    split at hm
    · cases hm
    · omega
  refine Spec.body Try.func21 rfl Try.ntmps21 rfl ?_
  refine Cod.seq ?_
  refine Cod.region ?_
  refine Ops.st (.assign rfl) rfl rfl rfl ?_
  refine Ops.nil ?_
  refine Ext.seq ?_
  refine Cod.seq ?_
  refine Cod.region ?_
  refine Ops.st (.assign rfl) rfl rfl rfl ?_
  refine Ops.nil ?_
  refine Ext.seq ?_
  refine Cod.seq ?_
  refine Cod.seq ?_
  refine Cod.region ?_
  refine Ops.st (.assign rfl) rfl rfl rfl ?_
  refine Ops.nil ?_
  refine Ext.seq ?_
  refine Cod.block ?_
  refine Cod.loop (fun g : Nat × Value × Hp × List Value => ⟨g.1 ≤ fs.length ∧ Sl g.2.1 ∧ Hp.le h0 g.2.2.1 ∧ ValsR g.2.2.1 (longL (fs.take g.1)) g.2.2.2, [(0, lv), (3, g.2.1), (4, .int .i64 g.1)], [vec g.2.1 40 3 g.1 g.2.2.2, ice g.2.2.1]⟩) (fun g => fs.length - g.1) (0, .slice none 0 0, h0, []) ⟨Nat.zero_le _, Sl.nil, Hp.le_rfl _, by rw [List.take_zero, longL, ValsR]⟩ ⟨rfl, rfl, rfl, trivial⟩ ((Ent.vecNil (T := 40) (sz := 3)).trans (Ent.take (by repeat' first | exact Takes.nil _ | exact TakeP.here _ | apply TakeP.there | apply Takes.cons))) ?_
  rintro ⟨i, ou, hh, oc⟩ ⟨hi, hou, hle, hoc⟩
  dsimp only
  refine Cod.seq ?_
  refine Cod.seq ?_
  refine Cod.region ?_
  dsimp only at hi hou hle hoc
  refine Ops.st (.move rfl) rfl rfl rfl ?_
  refine Ops.st (.move rfl) rfl rfl rfl ?_
  refine Ops.st (.len rfl (Rd.ro hr) Try.runUnderlying22) rfl rfl rfl ?_
  refine Ops.st (.lss rfl rfl) rfl rfl rfl ?_
  refine Ops.nil ?_
  refine Ext.seq ?_
  refine Cod.condD rfl (fun h4 => ?_) (fun h4 => ?_)
  ·
    refine Cod.skip ?_
    refine Ext.seq ?_
    refine Cod.seq ?_
    refine Cod.block ?_
    refine Cod.seq ?_
    refine Cod.region ?_
    obtain ⟨k, mn, mx, of, hf⟩ : ∃ k mn mx of, fs[i]? = some (.mk k mn mx of) := by rcases he : fs[i]'(by omega) with ⟨k, mn, mx, of⟩; exact ⟨k, mn, mx, of, by rw [List.getElem?_eq_getElem (by omega), he]⟩
    obtain ⟨ov, ocs, hrow, hor, hoc2⟩ := hc.get hf
    obtain ⟨hk, hd4, hsub⟩ := mostR_sub hm hf
    have hok := mostR_ok hm
    have hmx : k ≠ 1 → mx.toNat ≤ 65536 := by obtain ⟨q, hq⟩ : ∃ q, mostF d (.mk k mn mx of) = some q := (by rw [mostR_far (by rw [mostR] at hm; split at hm; cases hm; omega) (by omega) (by omega)] at hm; exact mostL_mem hm (List.mem_of_getElem? hf)); have := mostF_ok d _ _ hq; rw [okF] at this; exact this.2.2.1
    refine Ops.st (.build1 (os := []) (cs := [(.int .u64 0), (.slice none 0 0), (.slice none 0 0)]) bs40 rfl rfl rfl (by repeat' first | exact One.nil | apply One.cons rfl | (apply One.cons (Sl.one (by assumption)))) rfl) rfl rfl rfl ?_
    refine Ops.ef (.alloc Try.zeroValue40 rfl) rfl rfl rfl ?_
    rintro b _ ⟨b, rfl, rfl⟩
    refine Ops.ef10 (.storeA (vs := [W64 0, .slice none 0 0, .slice none 0 0]) (cs' := [W64 0, .slice none 0 0, .slice none 0 0]) rfl rfl (by repeat first | exact TakeP.here _ | apply TakeP.there) Try.sizeOf40 rfl (by decide) (by exact One.cons rfl (One.cons rfl (One.cons rfl One.nil))) rfl) rfl rfl ?_
    refine Ops.nil ?_
    refine Ext.seq ?_
    refine Cod.seq ?_
    refine Cod.cutK (fun g : Hp × UInt64 × Value × Value => ⟨Hp.le hh g.1 ∧ ValR g.1 (longF (.mk k mn mx of)) [W64 g.2.1, g.2.2.1, g.2.2.2], [(0, lv), (3, ou), (4, .int .i64 i), (5, .pointer (some ⟨b, 0, none⟩))], [pt b 40 [W64 g.2.1, g.2.2.1, g.2.2.2], vec ou 40 3 i oc, ice g.1]⟩) ?_ ?_
    ·
      refine Cod.seq ?_
      refine Cod.region ?_
      refine Ops.st (.move rfl) rfl rfl rfl ?_
      refine Ops.st (.move rfl) rfl rfl rfl ?_
      refine Ops.st (.indexAddr (j := i) (off := i * 4) rfl rfl (Rd.ro hr) Try.runUnderlying22 Try.sizeOf37 rfl (by omega) rfl) rfl rfl rfl ?_
      refine Ops.st (.fieldAddr_elem (j := i * 4 + 0) rfl (Rd.ro hr) fa37_0 (by omega) rfl) rfl rfl rfl ?_
      refine Ops.st (.load_elem rfl (Rd.ro hr) Try.isAgg3 (row_at hrow 0 _ rfl)) rfl rfl rfl ?_
      refine Ops.nil ?_
      refine Ext.seq ?_
      refine Cod.block ?_
      refine Cod.seq ?_
      refine Cod.region ?_
      refine Ops.st (.eql rfl rfl) rfl rfl rfl ?_
      refine Ops.st (.assign rfl) rfl rfl rfl ?_
      refine Ops.nil ?_
      refine Ext.seq ?_
      refine Cod.condD rfl (fun k1 => ?_) (fun k1 => ?_)
      ·
        refine Cod.region ?_
        refine Ops.st (.move rfl) rfl rfl rfl ?_
        refine Ops.st (.move rfl) rfl rfl rfl ?_
        refine Ops.st (.indexAddr (j := i) (off := i * 4) rfl rfl (Rd.ro hr) Try.runUnderlying22 Try.sizeOf37 rfl (by omega) rfl) rfl rfl rfl ?_
        refine Ops.st (.fieldAddr_elem (j := i * 4 + 2) rfl (Rd.ro hr) fa37_2 (by omega) rfl) rfl rfl rfl ?_
        refine Ops.st (.load_elem rfl (Rd.ro hr) Try.isAgg35 (row_at hrow 2 _ rfl)) rfl rfl rfl ?_
        refine Ops.st (.fieldAddr rfl fa40_0) rfl rfl rfl ?_
        refine Ops.ef10 (.store (cs' := [W64 mx, .slice none 0 0, .slice none 0 0]) rfl rfl (by repeat first | exact TakeP.here _ | apply TakeP.there) Try.sizeOf35 rfl rfl rfl) rfl rfl ?_
        refine Ops.nil ?_
        refine Ext.block ?_
        exact Ext.at_ (hh, mx, .slice none 0 0, .slice none 0 0) ⟨Hp.le_rfl _, by rw [longF, if_pos k1, ValR]; exact ⟨_, _, rfl, SlR.nil _ _, [], SlR.nil _ _, by rw [RecsR]⟩⟩ ⟨rfl, rfl, rfl, rfl, trivial⟩ (Ent.take (by repeat' first | exact Takes.nil _ | exact TakeP.here _ | apply TakeP.there | apply Takes.cons))
      ·
        refine Cod.seq ?_
        refine Cod.region ?_
        refine Ops.st (.eql rfl rfl) rfl rfl rfl ?_
        refine Ops.st (.assign rfl) rfl rfl rfl ?_
        refine Ops.nil ?_
        refine Ext.seq ?_
        refine Cod.condD rfl (fun k2 => ?_) (fun k2 => ?_)
        ·
          refine Cod.region ?_
          refine Ops.st (.move rfl) rfl rfl rfl ?_
          refine Ops.st (.move rfl) rfl rfl rfl ?_
          refine Ops.st (.indexAddr (j := i) (off := i * 4) rfl rfl (Rd.ro hr) Try.runUnderlying22 Try.sizeOf37 rfl (by omega) rfl) rfl rfl rfl ?_
          refine Ops.st (.fieldAddr_elem (j := i * 4 + 2) rfl (Rd.ro hr) fa37_2 (by omega) rfl) rfl rfl rfl ?_
          refine Ops.st (.load_elem rfl (Rd.ro hr) Try.isAgg35 (row_at hrow 2 _ rfl)) rfl rfl rfl ?_
          refine Ops.ef (.make (ln := mx.toNat) (cn := mx.toNat) (xs := u8s (List.replicate mx.toNat 0)) (ys := []) rfl rfl ei26 rfl rfl (Nat.le_refl _) (by have := hmx (by omega); omega) (by have := hmx (by omega); simp only [maxLen]; omega) (by rw [madeCells_one, zeros8, List.append_nil, Nat.mul_one]) (by rw [u8s_len, List.length_replicate, Nat.mul_one]) (u8s_one _)) rfl rfl rfl ?_
          rintro nv _ ⟨hnv, rfl⟩
          refine Ops.freeze (v := nv) (by repeat' first | exact Takes.nil _ | exact TakeP.here _ | apply TakeP.there | apply Takes.cons) fun hd hle2 hsn => ?_
          refine Ops.st (.fieldAddr rfl fa40_1) rfl rfl rfl ?_
          refine Ops.ef10 (.store (cs' := [W64 0, nv, .slice none 0 0]) rfl rfl (by repeat first | exact TakeP.here _ | apply TakeP.there) Try.sizeOf26 rfl hnv.one rfl) rfl rfl ?_
          refine Ops.nil ?_
          refine Ext.block ?_
          exact Ext.at_ (hd, 0, nv, .slice none 0 0) ⟨hle2, by rw [longF, if_neg k1, if_pos k2, ValR]; exact ⟨_, _, rfl, by rw [List.length_replicate]; exact hsn, [], SlR.nil _ _, by rw [RecsR]⟩⟩ ⟨rfl, rfl, rfl, rfl, trivial⟩ (Ent.take (by repeat' first | exact Takes.nil _ | exact TakeP.here _ | apply TakeP.there | apply Takes.cons))
        ·
          refine Cod.seq ?_
          refine Cod.region ?_
          refine Ops.st (.eql rfl rfl) rfl rfl rfl ?_
          refine Ops.st (.assign rfl) rfl rfl rfl ?_
          refine Ops.nil ?_
          refine Ext.seq ?_
          refine Cod.condT rfl (decide_eq_true (by omega)) ?_
          refine Cod.seq ?_
          obtain ⟨m2, hm2⟩ := hsub (by omega)
          have hmx2 := hmx k1
          refine Cod.region ?_
          refine Ops.st (.move rfl) rfl rfl rfl ?_
          refine Ops.st (.move rfl) rfl rfl rfl ?_
          refine Ops.st (.indexAddr (j := i) (off := i * 4) rfl rfl (Rd.ro hr) Try.runUnderlying22 Try.sizeOf37 rfl (by omega) rfl) rfl rfl rfl ?_
          refine Ops.st (.fieldAddr_elem (j := i * 4 + 3) rfl (Rd.ro hr) fa37_3 (by omega) rfl) rfl rfl rfl ?_
          refine Ops.st (.load_elem rfl (Rd.ro hr) Try.isAgg22 (row_at hrow 3 _ rfl)) rfl rfl rfl ?_
          refine Ops.call ⟨Try.call21⟩ rfl rfl rfl (by repeat' first | exact Takes.nil _ | exact TakeP.here _ | apply TakeP.there | apply Takes.cons) (fun F' hF => ih hd4 (hor.mono hF.hf) (hoc2.mono hF.hf of) hm2) rfl rfl rfl ?_
          rintro one _ ⟨h1, rcs, hle1, hone, honev, rfl⟩
          have hones := hone.sl
          refine Ops.st (.assign rfl) rfl rfl rfl ?_
          refine Ops.nil ?_
          refine Ext.seq ?_
          refine Cod.seq ?_
          refine Cod.region ?_
          refine Ops.st (.assign rfl) rfl rfl rfl ?_
          refine Ops.nil ?_
          refine Ext.seq ?_
          refine Cod.block ?_
          refine Cod.loop (fun g : Nat × Value => ⟨g.1 ≤ mx.toNat ∧ Sl g.2, [(0, lv), (3, ou), (4, .int .i64 i), (5, .pointer (some ⟨b, 0, none⟩)), (6, one), (7, W64 (UInt64.ofNat g.1))], [pt b 40 [W64 0, .slice none 0 0, g.2], vec g.2 23 1 g.1 (List.replicate g.1 one), vec ou 40 3 i oc, ice h1]⟩) (fun g => mx.toNat - g.1) (0, .slice none 0 0) ⟨Nat.zero_le _, Sl.nil⟩ ⟨rfl, rfl, rfl, rfl, rfl, rfl, trivial⟩ ((Ent.vecNil (T := 23) (sz := 1)).trans (Ent.take (by repeat' first | exact Takes.nil _ | exact TakeP.here _ | apply TakeP.there | apply Takes.cons))) ?_
          rintro ⟨j, yv⟩ ⟨hj, hyv⟩
          dsimp only
          refine Cod.seq ?_
          refine Cod.seq ?_
          refine Cod.region ?_
          dsimp only at hj hyv
          have ej : (UInt64.ofNat j).toNat = j := by rw [UInt64.toNat_ofNat']; omega
          refine Ops.st (.move rfl) rfl rfl rfl ?_
          refine Ops.st (.move rfl) rfl rfl rfl ?_
          refine Ops.st (.move rfl) rfl rfl rfl ?_
          refine Ops.st (.indexAddr (j := i) (off := i * 4) rfl rfl (Rd.ro hr) Try.runUnderlying22 Try.sizeOf37 rfl (by omega) rfl) rfl rfl rfl ?_
          refine Ops.st (.fieldAddr_elem (j := i * 4 + 2) rfl (Rd.ro hr) fa37_2 (by omega) rfl) rfl rfl rfl ?_
          refine Ops.st (.load_elem rfl (Rd.ro hr) Try.isAgg35 (row_at hrow 2 _ rfl)) rfl rfl rfl ?_
          refine Ops.st (.lss rfl rfl) rfl rfl rfl ?_
          refine Ops.nil ?_
          refine Ext.seq ?_
          refine Cod.condD rfl (fun h5 => ?_) (fun h5 => ?_)
          ·
            refine Cod.skip ?_
            refine Ext.seq ?_
            refine Cod.seq ?_
            refine Cod.block ?_
            refine Cod.region ?_
            rw [ej] at h5
            refine Ops.st (.fieldAddr rfl fa40_2) rfl rfl rfl ?_
            refine Ops.st (.loadP rfl (by repeat first | exact TakeP.here _ | apply TakeP.there) Try.isAgg38 rfl) rfl rfl rfl ?_
            refine Ops.st (.move rfl) rfl rfl rfl ?_
            refine Ops.ef (.lit1 ei38 rfl rfl rfl (by repeat' first | exact One.nil | apply One.cons rfl | (apply One.cons (Sl.one (by assumption))))) rfl rfl rfl ?_
            rintro l2 _ ⟨hl2, rfl⟩
            refine Ops.ef (.append (v := yv) rfl rfl (by repeat first | exact TakeP.here _ | apply TakeP.there) (Rd.vec (v := l2) (by repeat first | exact TakeP.here _ | apply TakeP.there)) ei38 (by omega) (by simp only [maxLen]; omega)) rfl rfl rfl ?_
            rintro nv _ ⟨hnv, rfl⟩
            refine Ops.st (.fieldAddr rfl fa40_2) rfl rfl rfl ?_
            refine Ops.ef10 (.store (cs' := [W64 0, .slice none 0 0, nv]) rfl rfl (by repeat first | exact TakeP.here _ | apply TakeP.there) Try.sizeOf38 rfl hnv.one rfl) rfl rfl ?_
            refine Ops.nil ?_
            refine Ext.block ?_
            refine Ext.seq ?_
            refine Cod.region ?_
            refine Ops.st (.move rfl) rfl rfl rfl ?_
            refine Ops.st (.addW64 rfl (show _ = some (W64 1) from rfl)) rfl rfl rfl ?_
            refine Ops.st (.assign rfl) rfl rfl rfl ?_
            refine Ops.nil ?_
            exact Ext.back (j + 1, nv) (by dsimp only; omega) ⟨by dsimp only; omega, hnv⟩ ⟨rfl, rfl, rfl, rfl, rfl, by dsimp only; rw [UInt64.ofNat_add]; rfl, trivial⟩ (by dsimp only; rw [List.replicate_succ']; exact Ent.take (by repeat' first | exact Takes.nil _ | exact TakeP.here _ | apply TakeP.there | apply Takes.cons))
          ·
            refine Cod.exit (Ext.seqX (Ext.stopX (Ext.hit ?_)))
            refine Ext.block ?_
            rw [ej] at h5
            obtain rfl : j = mx.toNat := by omega
            refine Ext.freeze (v := yv) (by repeat' first | exact Takes.nil _ | exact TakeP.here _ | apply TakeP.there | apply Takes.cons) fun hd hle3 hsn => ?_
            exact Ext.at_ (hd, 0, .slice none 0 0, yv) ⟨Hp.le_tr hle1 hle3, by rw [longF, if_neg k1, if_neg (by omega), ValR]; exact ⟨_, _, rfl, SlR.nil _ _, _, by rw [List.length_replicate]; exact hsn, RecsR.rep (by rw [longL_len]; exact hone.mono hle3) (honev.mono hle3 _) _⟩⟩ ⟨rfl, rfl, rfl, rfl, trivial⟩ (Ent.take (by repeat' first | exact Takes.nil _ | exact TakeP.here _ | apply TakeP.there | apply Takes.cons))
    ·
      rintro ⟨h2, n, xv, yv⟩ ⟨hle2, hval⟩
      dsimp only
      refine Cod.region ?_
      dsimp only at hle2 hval
      obtain ⟨hxv, hyv⟩ := hval.sls
      refine Ops.st (.move rfl) rfl rfl rfl ?_
      refine Ops.st (.loadPA rfl (by repeat first | exact TakeP.here _ | apply TakeP.there) Try.isAgg40 Try.sizeOf40 rfl rfl) rfl rfl rfl ?_
      refine Ops.ef (.lit (xs := [_, _, _]) ei23 rfl rfl rfl rfl (by repeat' first | exact allSz_nil | apply allSz_cons rfl) rfl (by repeat' first | exact One.nil | apply One.cons rfl | (apply One.cons (Sl.one (by assumption))))) rfl rfl rfl ?_
      rintro sv _ ⟨hsv, rfl⟩
      refine Ops.ef (.append (v := ou) rfl rfl (by repeat first | exact TakeP.here _ | apply TakeP.there) (Rd.vec (v := sv) (by repeat first | exact TakeP.here _ | apply TakeP.there)) ei23 (by omega) (by simp only [maxLen]; omega)) rfl rfl rfl ?_
      rintro ou2 _ ⟨hou2, rfl⟩
      refine Ops.st (.assign rfl) rfl rfl rfl ?_
      refine Ops.nil ?_
      refine Ext.block ?_
      refine Ext.seq ?_
      refine Cod.region ?_
      refine Ops.st (.move rfl) rfl rfl rfl ?_
      refine Ops.st (.add rfl rfl (by first | exact IntWalk.i64_in _ (by omega) | rfl)) rfl rfl rfl ?_
      refine Ops.st (.assign rfl) rfl rfl rfl ?_
      refine Ops.nil ?_
      exact Ext.back (i + 1, ou2, h2, oc ++ [W64 n, xv, yv]) (by dsimp only; omega) ⟨by dsimp only; omega, hou2, Hp.le_tr hle hle2, by dsimp only; rw [take_get hf, longL_app, longL, longL]; exact ValsR.snoc hval (hoc.mono hle2 _)⟩ ⟨rfl, rfl, rfl, trivial⟩ (by dsimp only; exact Ent.take (by repeat' first | exact Takes.nil _ | exact TakeP.here _ | apply TakeP.there | apply Takes.cons))
  ·
    refine Cod.exit (Ext.seqX (Ext.stopX (Ext.hit ?_)))
    refine Ext.seq ?_
    refine Cod.seq ?_
    refine Cod.region ?_
    obtain rfl : i = fs.length := by omega
    rw [List.take_length] at hoc
    refine Ops.freeze (v := ou) (by repeat' first | exact Takes.nil _ | exact TakeP.here _ | apply TakeP.there | apply Takes.cons) fun hd hle2 hsn => ?_
    refine Ops.st (.move rfl) rfl rfl rfl ?_
    refine Ops.st (.assign rfl) rfl rfl rfl ?_
    refine Ops.nil ?_
    refine Ext.seq ?_
    exact Cod.ret (Ext.ret rfl rfl ⟨hd, oc, Hp.le_tr hle hle2, hsn, hoc.mono hle2 _, rfl⟩)
theorem longest_any : ∀ (q d : Nat), d + q = 5 → ∀ {F : Fr} {h0 : Hp} {lv : Value} {cs : List Value} {fs : List Fld} {m : Nat}, SlR F.hf lv 4 fs.length cs → FldsR F.hf fs cs → mostR d fs = some m →
      Spec Try.prog F 21 [lv] [ice h0] (fun u hs' => ∃ h1 ws, Hp.le h0 h1 ∧ SlR h1 u 3 fs.length ws ∧ ValsR h1 (longL fs) ws ∧ hs' = [ice h1])
  | 0, d, h, _, _, _, _, _, _, hr, hc, hm => longest_step (fun h4 => absurd h4 (by omega)) hr hc hm
  | q + 1, d, h, _, _, _, _, _, _, hr, hc, hm => longest_step (fun _ {F h0 lv cs fs m} => longest_any q (d + 1) (by omega)) hr hc hm
/-- A record in which all is as long as it may be. -/
theorem packMost_law {F : Fr} {lv : Value} {cs : List Value} {fs : List Fld} (hr : SlR F.hf lv 4 fs.length cs) (hc : FldsR F.hf fs cs) : Spec Try.prog F 7 [lv] [] (fun u _ => u = .bool true) := by
  refine Spec.body Try.func7 rfl Try.ntmps7 rfl ?_
  refine Cod.seq ?_
  refine Cod.region ?_
  refine Ops.st (.assign rfl) rfl rfl rfl ?_
  refine Ops.nil ?_
  refine Ext.seq ?_
  refine Cod.seq ?_
  refine Cod.region ?_
  refine Ops.call ⟨Try.call11⟩ rfl rfl rfl (by repeat' first | exact Takes.nil _ | exact TakeP.here _ | apply TakeP.there | apply Takes.cons) (fun F' hF => awake_any) rfl rfl rfl ?_
  rintro _ _ ⟨rfl, rfl⟩
  refine Ops.st (.assign rfl) rfl rfl rfl ?_
  refine Ops.nil ?_
  refine Ext.seq ?_
  refine Cod.seq ?_
  refine Cod.region ?_
  refine Ops.st (.move rfl) rfl rfl rfl ?_
  refine Ops.call ⟨Try.call16⟩ rfl rfl rfl (by repeat' first | exact Takes.nil _ | exact TakeP.here _ | apply TakeP.there | apply Takes.cons) (fun F' hF => fields_any 6 1 rfl (hr.mono hF.hf) (hc.mono hF.hf fs)) rfl rfl rfl ?_
  rintro _ _ ⟨⟨b, rfl⟩, rfl⟩
  refine Ops.st (.assign rfl) rfl rfl rfl ?_
  refine Ops.nil ?_
  refine Ext.seq ?_
  refine Cod.seq ?_
  refine Cod.region ?_
  refine Ops.st (.move rfl) rfl rfl rfl ?_
  refine Ops.call ⟨Try.call19⟩ rfl rfl rfl (by repeat' first | exact Takes.nil _ | exact TakeP.here _ | apply TakeP.there | apply Takes.cons) (fun F' hF => packMost_any (hr.mono hF.hf) (hc.mono hF.hf fs)) rfl rfl rfl ?_
  rintro _ _ ⟨rfl, rfl⟩
  refine Ops.st (.assign rfl) rfl rfl rfl ?_
  refine Ops.nil ?_
  refine Ext.seq ?_
  refine Cod.seq ?_
  refine Cod.seq ?_
  refine Cod.region ?_
  refine Ops.st (.move rfl) rfl rfl rfl ?_
  refine Ops.st (.notB rfl) rfl rfl rfl ?_
  refine Ops.st (.move rfl) rfl rfl rfl ?_
  refine Ops.stG rfl rfl rfl rfl (.move rfl) rfl rfl ?_
  refine Ops.stG rfl rfl rfl rfl (.notB rfl) rfl rfl ?_
  refine Ops.st (.pickF rfl rfl rfl) rfl rfl rfl ?_
  refine Ops.st (.move rfl) rfl rfl rfl ?_
  refine Ops.splitB (t := 21) rfl (fun h1 => ?_) (fun h1 => ?_)
  ·
    refine Ops.skipG rfl rfl rfl h1 rfl rfl ?_
    refine Ops.skipG rfl rfl rfl h1 rfl rfl ?_
    refine Ops.st (.pickT rfl h1 rfl) rfl rfl rfl ?_
    refine Ops.nil ?_
    refine Ext.seq ?_
    refine Cod.condT rfl (by simp) ?_
    refine Cod.seq ?_
    refine Cod.region ?_
    refine Ops.st (.move rfl) rfl rfl rfl ?_
    refine Ops.st (.assign rfl) rfl rfl rfl ?_
    refine Ops.nil ?_
    refine Ext.seq ?_
    exact Cod.ret (Ext.seqR (Ext.ret rfl rfl rfl))
  ·
    refine Ops.stG rfl rfl rfl h1 (.move rfl) rfl rfl ?_
    refine Ops.stG rfl rfl rfl h1 (.gtr rfl rfl) rfl rfl ?_
    refine Ops.st (.pickF rfl h1 rfl) rfl rfl rfl ?_
    refine Ops.nil ?_
    refine Ext.seq ?_
    refine Cod.condD rfl (fun h2 => ?_) (fun h2 => ?_)
    ·
      refine Cod.seq ?_
      refine Cod.region ?_
      refine Ops.st (.move rfl) rfl rfl rfl ?_
      refine Ops.st (.assign rfl) rfl rfl rfl ?_
      refine Ops.nil ?_
      refine Ext.seq ?_
      exact Cod.ret (Ext.seqR (Ext.ret rfl rfl rfl))
    ·
      refine Cod.skip ?_
      refine Ext.seq ?_
      refine Cod.seq ?_
      refine Cod.region ?_
      refine Ops.st (.move rfl) rfl rfl rfl ?_
      refine Ops.call ⟨Try.call17⟩ rfl rfl rfl (by repeat' first | exact Takes.nil _ | exact TakeP.here _ | apply TakeP.there | apply Takes.cons) (fun F' hF => right_any (hr.mono hF.hf) (hc.mono hF.hf fs)) rfl rfl rfl ?_
      rintro _ _ ⟨rfl, rfl⟩
      refine Ops.st (.assign rfl) rfl rfl rfl ?_
      refine Ops.nil ?_
      refine Ext.seq ?_
      refine Cod.seq ?_
      refine Cod.seq ?_
      refine Cod.region ?_
      refine Ops.st (.move rfl) rfl rfl rfl ?_
      refine Ops.st (.notB rfl) rfl rfl rfl ?_
      refine Ops.nil ?_
      refine Ext.seq ?_
      refine Cod.cond rfl (fun h3 => ?_) (fun h3 => ?_)
      ·
        refine Cod.seq ?_
        refine Cod.region ?_
        have h4 : mostR 1 fs = none := by cases hq : mostR 1 fs; rfl; rw [hq] at h3; cases h3
        rw [h4]
        refine Ops.st (.move rfl) rfl rfl rfl ?_
        refine Ops.st (.eql rfl rfl) rfl rfl rfl ?_
        refine Ops.st (.assign rfl) rfl rfl rfl ?_
        refine Ops.nil ?_
        refine Ext.seq ?_
        exact Cod.ret (Ext.seqR (Ext.ret rfl rfl rfl))
      ·
        refine Cod.skip ?_
        refine Ext.seq ?_
        refine Cod.seq ?_
        refine Cod.region ?_
        obtain ⟨m, hm⟩ : ∃ m, mostR 1 fs = some m := by cases hq : mostR 1 fs; rw [hq] at h3; cases h3; exact ⟨_, rfl⟩
        have hml := mostR_le hm
        obtain ⟨hp1, hp2, hp3⟩ := longR_put hm
        have henc : encM fs (longL fs) = some (putR fs (longL fs)) := encM_some (by rw [hm]; rfl) hp1
        rw [hm]
        refine Ops.ent Ent.ice0 ?_
        refine Ops.st (.move rfl) rfl rfl rfl ?_
        refine Ops.call ⟨Try.call21⟩ rfl rfl rfl (by repeat' first | exact Takes.nil _ | exact TakeP.here _ | apply TakeP.there | apply Takes.cons) (fun F' hF => longest_any 4 1 rfl (hr.mono hF.hf) (hc.mono hF.hf fs) hm) rfl rfl rfl ?_
        rintro vv _ ⟨hh, ws, hle, hvs, hvv, rfl⟩
        rw [← longL_len fs] at hvs
        refine Ops.st (.assign rfl) rfl rfl rfl ?_
        refine Ops.nil ?_
        refine Ext.seq ?_
        refine Cod.seq ?_
        refine Cod.region ?_
        refine Ops.st (.move rfl) rfl rfl rfl ?_
        refine Ops.st (.move rfl) rfl rfl rfl ?_
        refine Ops.call ⟨Try.call13⟩ rfl rfl rfl (by repeat' first | exact Takes.nil _ | exact TakeP.here _ | apply TakeP.there | apply Takes.cons) (fun F' hF => encode_any (hr.mono hF.hf) (hc.mono hF.hf fs) (hvs.mono (hF.ice (by repeat first | exact TakeP.here _ | apply TakeP.there))) (hvv.mono (hF.ice (by repeat first | exact TakeP.here _ | apply TakeP.there)) _) (by omega)) rfl rfl rfl ?_
        rintro _ _ ⟨b1, rfl, hb1, rfl⟩
        rw [henc]
        refine Ops.st (.move rfl) rfl rfl rfl ?_
        refine Ops.st (.extract rfl rfl) rfl rfl rfl ?_
        refine Ops.st (.extract rfl rfl) rfl rfl rfl ?_
        refine Ops.st (.assign rfl) rfl rfl rfl ?_
        refine Ops.st (.assign rfl) rfl rfl rfl ?_
        refine Ops.nil ?_
        refine Ext.seq ?_
        refine Cod.seq ?_
        refine Cod.region ?_
        refine Ops.st (.move rfl) rfl rfl rfl ?_
        refine Ops.st (.eql rfl rfl) rfl rfl rfl ?_
        refine Ops.st (.move rfl) rfl rfl rfl ?_
        refine Ops.stG rfl rfl rfl rfl (.move rfl) rfl rfl ?_
        refine Ops.stG rfl rfl rfl rfl (.len rfl (Rd.vec (v := b1) (by repeat first | exact TakeP.here _ | apply TakeP.there)) Try.runUnderlying26) rfl rfl ?_
        refine Ops.stG rfl rfl rfl rfl (.move rfl) rfl rfl ?_
        refine Ops.stG rfl rfl rfl rfl (.eql rfl rfl) rfl rfl ?_
        refine Ops.st (.pickT rfl rfl rfl) rfl rfl rfl ?_
        refine Ops.st (.assign rfl) rfl rfl rfl ?_
        refine Ops.nil ?_
        refine Ext.seq ?_
        exact Cod.ret (Ext.ret rfl rfl (by simp [hp2]))
end Go.Proofs.Ytacgngfjanlfnaa
