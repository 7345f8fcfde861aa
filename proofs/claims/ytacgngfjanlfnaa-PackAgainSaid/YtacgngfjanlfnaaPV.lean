/- What was decoded, encoded again: the law PackAgain. No condition. -/
import Derived.Test.YtacgngfjanlfnaaPU
namespace Go.Proofs.Ytacgngfjanlfnaa
open Go

theorem wtQ_flat {q : List Val → List UInt8} : ∀ {l : List (List Val)}, (∀ r ∈ l, wtR r ≤ 8 * (q r).length) → wtQ l ≤ 8 * (l.flatMap q).length
  | [], _ => by simp [wtQ]
  | r :: l, h => by
    have h1 := h r (List.mem_cons_self ..)
    have h2 := wtQ_flat fun x hx => h x (List.mem_cons_of_mem r hx)
    rw [wtQ, List.flatMap_cons, List.length_append]
    omega
mutual
theorem wtV_put : ∀ (f : Fld) (v : Val), okF f → fitF f v = true → wtV v ≤ 8 * (putF f v).length
  | .mk k mn mx of, .mk n b l, ok, h => by
    have hwp := wid_pos (mx - mn).toNat
    rw [okF] at ok
    obtain ⟨hk, _, _, ho⟩ := ok
    rw [fitF] at h
    rw [putF, wtV]
    by_cases h1 : k = 1
    · rw [if_pos h1] at h ⊢
      simp only [Bool.and_eq_true, decide_eq_true_eq, List.isEmpty_iff] at h
      obtain ⟨rfl, rfl, _⟩ := h
      rw [leB_len, wtQ]
      simp only [List.length_nil]
      omega
    · rw [if_neg h1] at h ⊢
      by_cases h2 : k = 2
      · rw [if_pos h2] at h ⊢
        simp only [Bool.and_eq_true, decide_eq_true_eq, List.isEmpty_iff] at h
        obtain ⟨_, rfl, _⟩ := h
        rw [List.length_append, leB_len, wtQ]
        omega
      · rw [if_neg h2] at h ⊢
        simp only [Bool.and_eq_true, decide_eq_true_eq] at h
        obtain ⟨_, rfl, _, h3⟩ := h
        have := wtQ_flat (q := fun r => putR of r) fun r hr => wtR_put of r ho (List.all_eq_true.1 h3 r hr)
        rw [List.length_append, leB_len]
        simp only [List.length_nil]
        omega
theorem wtR_put : ∀ (fs : List Fld) (vs : List Val), okL fs → fitR fs vs = true → wtR vs ≤ 8 * (putR fs vs).length
  | [], [], _, _ => by rw [wtR]; exact Nat.zero_le _
  | f :: fs, v :: vs, ok, h => by
    rw [okL] at ok
    rw [fitR, Bool.and_eq_true] at h
    have h1 := wtV_put f v ok.1 h.1
    have h2 := wtR_put fs vs ok.2 h.2
    rw [wtR, putR, List.length_append]
    omega
  | [], _ :: _, _, h => by simp [fitR] at h
  | _ :: _, [], _, h => by simp [fitR] at h
end
theorem decM_err (fs : List Fld) (bs : List UInt8) : (decM fs bs).1 = 0 ∨ (decM fs bs).1 = 1 ∨ (decM fs bs).1 = 2 := by
  rw [decM]
  split
  · split
    · exact .inr (.inr rfl)
    · split
      · exact .inl rfl
      · exact .inr (.inr rfl)
  · exact .inr (.inl rfl)
theorem decM_zero {fs : List Fld} {bs : List UInt8} (h : (decM fs bs).1 = 0) : ∃ vs m, decR fs bs = some (vs, []) ∧ decM fs bs = (0, some vs) ∧ mostR 1 fs = some m := by
  rw [decM] at h ⊢
  split at h
  · rename_i hi
    obtain ⟨m, hm⟩ := Option.isSome_iff_exists.1 hi
    split at h
    · cases h
    · rename_i vs r hq
      split at h
      · rename_i hr
        subst hr
        rw [if_pos hi, hq]
        exact ⟨vs, m, rfl, by simp, hm⟩
      · cases h
  · cases h

theorem dec_less {fs : List Fld} {bs : List UInt8} {vs : List Val} {m : Nat} (hm : mostR 1 fs = some m) (hdec : decR fs bs = some (vs, [])) (hne : bs ≠ []) : (decM fs (bs.take (bs.length - 1))).1 = 2 := by
  refine congrArg Prod.fst (decM_none (by rw [hm]; rfl) ?_)
  cases hq : decR fs (bs.take (bs.length - 1)) with
  | none => rfl
  | some p =>
    have h5 := decR_more (mostR_ok hm) hq (bs.drop (bs.length - 1))
    rw [List.take_append_drop, hdec] at h5
    simp only [Option.some.injEq, Prod.mk.injEq] at h5
    have h6 := congrArg List.length h5.2
    have h7 : bs.length ≠ 0 := fun h => hne (List.eq_nil_of_length_eq_zero h)
    simp only [List.length_nil, List.length_append, List.length_drop] at h6
    omega

/-- What was decoded, encoded again, is what stood there. -/
theorem packAgain_any {F : Fr} {lv bv : Value} {cs : List Value} {fs : List Fld} {bs : List UInt8} (hr : SlR F.hf lv 4 fs.length cs) (hc : FldsR F.hf fs cs) (hb : SlR F.hf bv 1 bs.length (u8s bs)) : Spec Try.prog F 9 [lv, bv] [] (fun u _ => u = .bool true) := by
  have hbv := hb.sl
  refine Spec.body Try.func9 rfl Try.ntmps9 rfl ?_
  refine Cod.seq ?_
  refine Cod.region ?_
  refine Ops.st (.assign rfl) rfl rfl rfl ?_
  refine Ops.nil ?_
  refine Ext.seq ?_
  refine Cod.seq ?_
  refine Cod.region ?_
  refine Ops.call ⟨Try.call11⟩ rfl rfl rfl (by repeat' first | exact Takes.nil _ | exact TakeP.here _ | apply TakeP.there | apply Takes.cons) (fun F' hF => awake_any) rfl rfl rfl ?_
  rintro _ _ ⟨rfl, rfl⟩
  refine Ops.st (.assign rfl) rfl rfl rfl ?_
  refine Ops.nil ?_
  refine Ext.seq ?_
  refine Cod.seq ?_
  refine Cod.region ?_
  refine Ops.st (.move rfl) rfl rfl rfl ?_
  refine Ops.call ⟨Try.call16⟩ rfl rfl rfl (by repeat' first | exact Takes.nil _ | exact TakeP.here _ | apply TakeP.there | apply Takes.cons) (fun F' hF => fields_any 6 1 rfl (hr.mono hF.hf) (hc.mono hF.hf fs)) rfl rfl rfl ?_
  rintro _ _ ⟨⟨b, rfl⟩, rfl⟩
  refine Ops.st (.assign rfl) rfl rfl rfl ?_
  refine Ops.nil ?_
  refine Ext.seq ?_
  refine Cod.seq ?_
  refine Cod.seq ?_
  refine Cod.region ?_
  refine Ops.st (.move rfl) rfl rfl rfl ?_
  refine Ops.st (.notB rfl) rfl rfl rfl ?_
  refine Ops.st (.move rfl) rfl rfl rfl ?_
  refine Ops.stG rfl rfl rfl rfl (.move rfl) rfl rfl ?_
  refine Ops.stG rfl rfl rfl rfl (.notB rfl) rfl rfl ?_
  refine Ops.st (.pickF rfl rfl rfl) rfl rfl rfl ?_
  refine Ops.st (.move rfl) rfl rfl rfl ?_
  refine Ops.splitB (t := 24) rfl (fun h1 => ?_) (fun h1 => ?_)
  ·
    refine Ops.skipG rfl rfl rfl h1 rfl rfl ?_
    refine Ops.skipG rfl rfl rfl h1 rfl rfl ?_
    refine Ops.skipG rfl rfl rfl h1 rfl rfl ?_
    refine Ops.st (.pickT rfl h1 rfl) rfl rfl rfl ?_
    refine Ops.nil ?_
    refine Ext.seq ?_
    refine Cod.condT rfl (by simp) ?_
    refine Cod.seq ?_
    refine Cod.region ?_
    refine Ops.st (.move rfl) rfl rfl rfl ?_
    refine Ops.st (.assign rfl) rfl rfl rfl ?_
    refine Ops.nil ?_
    refine Ext.seq ?_
    exact Cod.ret (Ext.seqR (Ext.ret rfl rfl rfl))
  ·
    refine Ops.stG rfl rfl rfl h1 (.move rfl) rfl rfl ?_
    refine Ops.stG rfl rfl rfl h1 (.len rfl (Rd.ro hb) Try.runUnderlying26) rfl rfl ?_
    refine Ops.stG rfl rfl rfl h1 (.gtr rfl rfl) rfl rfl ?_
    refine Ops.st (.pickF rfl h1 rfl) rfl rfl rfl ?_
    refine Ops.nil ?_
    refine Ext.seq ?_
    refine Cod.condD rfl (fun h2 => ?_) (fun h2 => ?_)
    ·
      refine Cod.seq ?_
      refine Cod.region ?_
      refine Ops.st (.move rfl) rfl rfl rfl ?_
      refine Ops.st (.assign rfl) rfl rfl rfl ?_
      refine Ops.nil ?_
      refine Ext.seq ?_
      exact Cod.ret (Ext.seqR (Ext.ret rfl rfl rfl))
    ·
      refine Cod.skip ?_
      refine Ext.seq ?_
      refine Cod.seq ?_
      refine Cod.region ?_
      refine Ops.ent Ent.ice0 ?_
      refine Ops.st (.move rfl) rfl rfl rfl ?_
      refine Ops.st (.move rfl) rfl rfl rfl ?_
      refine Ops.call ⟨Try.call22⟩ rfl rfl rfl (by repeat' first | exact Takes.nil _ | exact TakeP.here _ | apply TakeP.there | apply Takes.cons) (fun F' hF => decode_any (hr.mono hF.hf) (hc.mono hF.hf fs) (hb.mono hF.hf)) rfl rfl rfl ?_
      rintro _ _ ⟨h3, v, ws, hle, rfl, hv, hvv, rfl⟩
      refine Ops.st (.move rfl) rfl rfl rfl ?_
      refine Ops.st (.extract rfl rfl) rfl rfl rfl ?_
      refine Ops.st (.extract rfl rfl) rfl rfl rfl ?_
      refine Ops.st (.assign rfl) rfl rfl rfl ?_
      refine Ops.st (.assign rfl) rfl rfl rfl ?_
      refine Ops.nil ?_
      refine Ext.seq ?_
      refine Cod.seq ?_
      refine Cod.seq ?_
      refine Cod.region ?_
      refine Ops.st (.move rfl) rfl rfl rfl ?_
      refine Ops.st (.neq rfl rfl) rfl rfl rfl ?_
      refine Ops.nil ?_
      refine Ext.seq ?_
      refine Cod.condD rfl (fun e1 => ?_) (fun e1 => ?_)
      ·
        refine Cod.seq ?_
        refine Cod.region ?_
        refine Ops.st (.move rfl) rfl rfl rfl ?_
        refine Ops.st (.eql rfl rfl) rfl rfl rfl ?_
        refine Ops.st (.move rfl) rfl rfl rfl ?_
        refine Ops.splitD (t := 40) rfl (fun e2 => ?_) (fun e2 => ?_)
        ·
          refine Ops.skipG rfl rfl rfl (decide_eq_true e2) rfl rfl ?_
          refine Ops.skipG rfl rfl rfl (decide_eq_true e2) rfl rfl ?_
          refine Ops.st (.pickT rfl (decide_eq_true e2) rfl) rfl rfl rfl ?_
          refine Ops.st (.assign rfl) rfl rfl rfl ?_
          refine Ops.nil ?_
          refine Ext.seq ?_
          exact Cod.ret (Ext.seqR (Ext.ret rfl rfl rfl))
        ·
          refine Ops.stG rfl rfl rfl (decide_eq_false e2) (.move rfl) rfl rfl ?_
          refine Ops.stG rfl rfl rfl (decide_eq_false e2) (.eql rfl rfl) rfl rfl ?_
          refine Ops.st (.pickF rfl (decide_eq_false e2) rfl) rfl rfl rfl ?_
          refine Ops.st (.assign rfl) rfl rfl rfl ?_
          refine Ops.nil ?_
          refine Ext.seq ?_
          exact Cod.ret (Ext.seqR (Ext.ret rfl rfl (by rcases decM_err fs bs with h | h | h; exact absurd h e1; rw [decide_eq_true h]; exact absurd h e2)))
      ·
        refine Cod.skip ?_
        refine Ext.seq ?_
        refine Cod.seq ?_
        refine Cod.region ?_
        obtain ⟨vs, m, hdec, hdm, hm⟩ := decM_zero (Decidable.of_not_not e1)
        have hright : (mostR 1 fs).isSome = true := by rw [hm]; rfl
        obtain ⟨hfit, hput⟩ := decR_some fs bs vs [] (mostR_ok hm) hdec
        rw [List.append_nil] at hput
        have hwt := wtR_put fs vs (mostR_ok hm) hfit
        have hbl : bs.length ≤ 5000 := by omega
        rw [hput] at hwt
        have henc : encM fs vs = some bs := by rw [encM_some hright hfit, hput]
        have hd0 : decM fs (bs ++ [0]) = (2, none) := decM_more hright (by have := decR_more (mostR_ok hm) hdec [0]; rwa [List.nil_append] at this) (by simp)
        have hd1 := dec_less hm hdec
        rw [hdm] at hv hvv
        simp only [Option.getD_some] at hv hvv
        rw [hdm]
        refine Ops.st (.move rfl) rfl rfl rfl ?_
        refine Ops.st (.move rfl) rfl rfl rfl ?_
        refine Ops.call ⟨Try.call13⟩ rfl rfl rfl (by repeat' first | exact Takes.nil _ | exact TakeP.here _ | apply TakeP.there | apply Takes.cons) (fun F' hF => encode_any (vs := vs) (hr.mono hF.hf) (hc.mono hF.hf fs) (hv.mono (hF.ice (by repeat first | exact TakeP.here _ | apply TakeP.there))) (hvv.mono (hF.ice (by repeat first | exact TakeP.here _ | apply TakeP.there)) _) (by omega)) rfl rfl rfl ?_
        rintro _ _ ⟨b1, rfl, hb1, rfl⟩
        rw [henc]
        simp only [Option.getD_some]
        refine Ops.st (.move rfl) rfl rfl rfl ?_
        refine Ops.st (.extract rfl rfl) rfl rfl rfl ?_
        refine Ops.st (.extract rfl rfl) rfl rfl rfl ?_
        refine Ops.st (.assign rfl) rfl rfl rfl ?_
        refine Ops.st (.assign rfl) rfl rfl rfl ?_
        refine Ops.nil ?_
        refine Ext.seq ?_
        refine Cod.seq ?_
        refine Cod.region ?_
        refine Ops.st (.move rfl) rfl rfl rfl ?_
        refine Ops.ef (.lit1 ei26 rfl rfl rfl (by repeat' first | exact One.nil | apply One.cons rfl | (apply One.cons (Sl.one (by assumption))))) rfl rfl rfl ?_
        rintro x0 _ ⟨hx0, rfl⟩
        refine Ops.st (.move rfl) rfl rfl rfl ?_
        refine Ops.ef (.append (v := x0) rfl rfl (by repeat first | exact TakeP.here _ | apply TakeP.there) (Rd.ro hb) ei26 (by omega) (by simp only [maxLen]; omega)) rfl rfl rfl ?_
        rintro x1 _ ⟨hx1, rfl⟩
        simp only [Nat.zero_add, List.nil_append]
        refine Ops.ef (.lit1 ei26 rfl rfl rfl (by repeat' first | exact One.nil | apply One.cons rfl | (apply One.cons (Sl.one (by assumption))))) rfl rfl rfl ?_
        rintro x2 _ ⟨hx2, rfl⟩
        refine Ops.ef (.append (v := x1) rfl rfl (by repeat first | exact TakeP.here _ | apply TakeP.there) (Rd.vec (v := x2) (by repeat first | exact TakeP.here _ | apply TakeP.there)) ei26 (by omega) (by simp only [maxLen]; omega)) rfl rfl rfl ?_
        rintro x3 _ ⟨hx3, rfl⟩
        have hsn : vec x3 5 1 (bs.length + 1) (u8s bs ++ [.int .u8 0]) = vec x3 5 1 (bs ++ [0]).length (u8s (bs ++ [0])) := (vec_snoc x3 5 bs 0).symm
        rw [hsn]
        refine Ops.call ⟨Try.call22⟩ rfl rfl rfl (by repeat' first | exact Takes.nil _ | exact TakeP.here _ | apply TakeP.there | apply Takes.cons) (fun F' hF => decode_any (bs := bs ++ [0]) (hr.mono hF.hf) (hc.mono hF.hf fs) ((Rd.vec (v := x3) (by repeat first | exact TakeP.here _ | apply TakeP.there)).wider hF)) rfl rfl rfl ?_
        rintro _ _ ⟨h4, v4, ws4, hle4, rfl, hv4, hvv4, rfl⟩
        rw [hd0]
        refine Ops.st (.move rfl) rfl rfl rfl ?_
        refine Ops.st (.extract rfl rfl) rfl rfl rfl ?_
        refine Ops.st (.extract rfl rfl) rfl rfl rfl ?_
        refine Ops.st (.assign rfl) rfl rfl rfl ?_
        refine Ops.st (.assign rfl) rfl rfl rfl ?_
        refine Ops.nil ?_
        refine Ext.seq ?_
        refine Cod.seq ?_
        refine Cod.region ?_
        refine Ops.st (.move rfl) rfl rfl rfl ?_
        refine Ops.st (.move rfl) rfl rfl rfl ?_
        refine Ops.st (.move rfl) rfl rfl rfl ?_
        refine Ops.st (.len rfl (Rd.ro hb) Try.runUnderlying26) rfl rfl rfl ?_
        refine Ops.st (.sub rfl rfl (by first | exact IntWalk.i64_in _ (by omega) | rfl)) rfl rfl rfl ?_
        refine Ops.st (.max_ rfl rfl) rfl rfl rfl ?_
        refine Ops.st (.slice_h (hi := bs.length - 1) rfl rfl (Rd.ro hb) Try.runUnderlying26 Try.sizeOf5 (by omega) (by omega)) rfl rfl rfl ?_
        refine Ops.call ⟨Try.call22⟩ rfl rfl rfl (by repeat' first | exact Takes.nil _ | exact TakeP.here _ | apply TakeP.there | apply Takes.cons) (fun F' hF => decode_any (bs := bs.take (bs.length - 1)) (hr.mono hF.hf) (hc.mono hF.hf fs) ((hb.cut8 (Nat.zero_le _) (by omega) (by simp)).mono hF.hf)) rfl rfl rfl ?_
        rintro _ _ ⟨h5, v5, ws5, hle5, rfl, hv5, hvv5, rfl⟩
        refine Ops.st (.move rfl) rfl rfl rfl ?_
        refine Ops.st (.extract rfl rfl) rfl rfl rfl ?_
        refine Ops.st (.extract rfl rfl) rfl rfl rfl ?_
        refine Ops.st (.assign rfl) rfl rfl rfl ?_
        refine Ops.st (.assign rfl) rfl rfl rfl ?_
        refine Ops.nil ?_
        refine Ext.seq ?_
        refine Cod.seq ?_
        refine Cod.region ?_
        refine Ops.st (.move rfl) rfl rfl rfl ?_
        refine Ops.st (.eql rfl rfl) rfl rfl rfl ?_
        refine Ops.st (.move rfl) rfl rfl rfl ?_
        refine Ops.stG rfl rfl rfl rfl (.move rfl) rfl rfl ?_
        refine Ops.stG rfl rfl rfl rfl (.toStr rfl (Rd.vec (v := b1) (by repeat first | exact TakeP.here _ | apply TakeP.there)) Try.underlying26 Try.underlying5 Try.underlying9) rfl rfl ?_
        refine Ops.stG rfl rfl rfl rfl (.move rfl) rfl rfl ?_
        refine Ops.stG rfl rfl rfl rfl (.toStr rfl (Rd.ro hb) Try.underlying26 Try.underlying5 Try.underlying9) rfl rfl ?_
        refine Ops.stG rfl rfl rfl rfl (.eqStr rfl rfl) rfl rfl ?_
        refine Ops.st (.pickT rfl rfl rfl) rfl rfl rfl ?_
        refine Ops.st (.move rfl) rfl rfl rfl ?_
        refine Ops.stG rfl rfl rfl (decide_eq_true rfl) (.move rfl) rfl rfl ?_
        refine Ops.stG rfl rfl rfl (decide_eq_true rfl) (.eql rfl rfl) rfl rfl ?_
        refine Ops.st (.pickT rfl (decide_eq_true rfl) rfl) rfl rfl rfl ?_
        refine Ops.st (.move rfl) rfl rfl rfl ?_
        refine Ops.stG rfl rfl rfl rfl (.move rfl) rfl rfl ?_
        refine Ops.stG rfl rfl rfl rfl (.eql rfl rfl) rfl rfl ?_
        refine Ops.stG rfl rfl rfl rfl (.move rfl) rfl rfl ?_
        refine Ops.splitD (t := 87) rfl (fun e3 => ?_) (fun e3 => ?_)
        ·
          refine Ops.skipG rfl rfl rfl (decide_eq_true e3) rfl rfl ?_
          refine Ops.skipG rfl rfl rfl (decide_eq_true e3) rfl rfl ?_
          refine Ops.skipG rfl rfl rfl (decide_eq_true e3) rfl rfl ?_
          refine Ops.stG rfl rfl rfl rfl (.pickT rfl (decide_eq_true e3) rfl) rfl rfl ?_
          refine Ops.st (.pickT rfl rfl rfl) rfl rfl rfl ?_
          refine Ops.st (.assign rfl) rfl rfl rfl ?_
          refine Ops.nil ?_
          refine Ext.seq ?_
          exact Cod.ret (Ext.ret rfl rfl rfl)
        ·
          refine Ops.stG rfl rfl rfl (decide_eq_false e3) (.move rfl) rfl rfl ?_
          refine Ops.stG rfl rfl rfl (decide_eq_false e3) (.len rfl (Rd.ro hb) Try.runUnderlying26) rfl rfl ?_
          refine Ops.stG rfl rfl rfl (decide_eq_false e3) (.eql rfl rfl) rfl rfl ?_
          refine Ops.stG rfl rfl rfl rfl (.pickF rfl (decide_eq_false e3) rfl) rfl rfl ?_
          refine Ops.st (.pickT rfl rfl rfl) rfl rfl rfl ?_
          refine Ops.st (.assign rfl) rfl rfl rfl ?_
          refine Ops.nil ?_
          refine Ext.seq ?_
          exact Cod.ret (Ext.ret rfl rfl (by have h6 : bs = [] := (by by_cases hne : bs = []; exact hne; exact absurd (hd1 hne) e3); rw [h6]; rfl))
end Go.Proofs.Ytacgngfjanlfnaa
