/- Unlike records' bytes; a record of one number. No condition. -/
import Derived.Test.YtacgngfjanlfnaaPM
namespace Go.Proofs.Ytacgngfjanlfnaa
open Go

theorem apart_one {fs : List Fld} {v w : List Val} (ok : okL fs) (hv : fitR fs v = true) (hw : fitR fs w = true) (h : (putR fs w).take (putR fs v).length = putR fs v) : v = w := by
  have h1 : putR fs w = putR fs v ++ (putR fs w).drop (putR fs v).length := by conv => lhs; rw [← List.take_append_drop (putR fs v).length (putR fs w), h]
  have h2 := decR_put fs w [] ok hw
  rw [List.append_nil, h1, decR_put fs v _ ok hv] at h2
  simp only [Option.some.injEq, Prod.mk.injEq] at h2
  exact h2.1
theorem apart {fs : List Fld} {v w : List Val} (ok : okL fs) (hv : fitR fs v = true) (hw : fitR fs w = true) {n : Nat} (hn : n = min (putR fs v).length (putR fs w).length) : (putR fs v).take n = (putR fs w).take n ↔ v = w := by
  constructor
  · intro h
    by_cases hl : (putR fs v).length ≤ (putR fs w).length
    · refine apart_one ok hv hw ?_
      rw [hn, Nat.min_eq_left hl, List.take_length] at h
      exact h.symm
    · refine (apart_one ok hw hv ?_).symm
      rw [hn, Nat.min_eq_right (by omega), List.take_length] at h
      exact h
  · intro h
    rw [h]
theorem encM_is {fs : List Fld} {vs : List Val} {b : List UInt8} (h : encM fs vs = some b) : b = putR fs vs ∧ fitR fs vs = true ∧ ∃ m, mostR 1 fs = some m := by
  rw [encM] at h
  split at h
  · rename_i hc
    exact ⟨(Option.some.inj h).symm, hc.2, Option.isSome_iff_exists.1 hc.1⟩
  · cases h
theorem errE_zero {o : Option (List UInt8)} (h : ¬ errE o ≠ 0) : ∃ b, o = some b := by cases o with | none => exact absurd (by decide) h | some b => exact ⟨b, rfl⟩

/-- Of two unlike records of the same fields none's bytes are the beginning of the other's. -/
theorem packApart_any {F : Fr} {lv vv uv : Value} {cs ws us : List Value} {fs : List Fld} {vs vs2 : List Val} (hr : SlR F.hf lv 4 fs.length cs) (hc : FldsR F.hf fs cs) (hs : SlR F.hf vv 3 vs.length ws) (hw : ValsR F.hf vs ws) (hs2 : SlR F.hf uv 3 vs2.length us) (hw2 : ValsR F.hf vs2 us) :
    Spec Try.prog F 4 [lv, vv, uv] [] (fun u _ => u = .bool true) := by
  refine Spec.body Try.func4 rfl Try.ntmps4 rfl ?_
  refine Cod.seq ?_
  refine Cod.region ?_
  refine Ops.st (.assign rfl) rfl rfl rfl ?_
  refine Ops.nil ?_
  refine Ext.seq ?_
  refine Cod.seq ?_
  refine Cod.region ?_
  refine Ops.call ⟨Try.call11⟩ rfl rfl rfl (by repeat' first | exact Takes.nil _ | exact TakeP.here _ | apply TakeP.there | apply Takes.cons) (fun F' hF => awake_any) rfl rfl rfl ?_
  rintro _ _ ⟨rfl, rfl⟩
  refine Ops.st (.assign rfl) rfl rfl rfl ?_
  refine Ops.nil ?_
  refine Ext.seq ?_
  refine Cod.seq ?_
  refine Cod.region ?_
  refine Ops.st (.move rfl) rfl rfl rfl ?_
  refine Ops.st (.move rfl) rfl rfl rfl ?_
  refine Ops.call ⟨Try.call12⟩ rfl rfl rfl (by repeat' first | exact Takes.nil _ | exact TakeP.here _ | apply TakeP.there | apply Takes.cons) (fun F' hF => few_any (hr.mono hF.hf) (hc.mono hF.hf fs) (hs.mono hF.hf) (hw.mono hF.hf vs)) rfl rfl rfl ?_
  rintro _ _ ⟨⟨x1, rfl, hwt⟩, rfl⟩
  refine Ops.st (.assign rfl) rfl rfl rfl ?_
  refine Ops.nil ?_
  refine Ext.seq ?_
  refine Cod.seq ?_
  refine Cod.region ?_
  refine Ops.st (.move rfl) rfl rfl rfl ?_
  refine Ops.st (.move rfl) rfl rfl rfl ?_
  refine Ops.call ⟨Try.call12⟩ rfl rfl rfl (by repeat' first | exact Takes.nil _ | exact TakeP.here _ | apply TakeP.there | apply Takes.cons) (fun F' hF => few_any (hr.mono hF.hf) (hc.mono hF.hf fs) (hs2.mono hF.hf) (hw2.mono hF.hf vs2)) rfl rfl rfl ?_
  rintro _ _ ⟨⟨x2, rfl, hwt2⟩, rfl⟩
  refine Ops.st (.assign rfl) rfl rfl rfl ?_
  refine Ops.nil ?_
  refine Ext.seq ?_
  refine Cod.seq ?_
  refine Cod.seq ?_
  refine Cod.region ?_
  refine Ops.st (.move rfl) rfl rfl rfl ?_
  refine Ops.st (.notB rfl) rfl rfl rfl ?_
  refine Ops.st (.move rfl) rfl rfl rfl ?_
  refine Ops.stG rfl rfl rfl rfl (.move rfl) rfl rfl ?_
  refine Ops.stG rfl rfl rfl rfl (.notB rfl) rfl rfl ?_
  refine Ops.st (.pickF rfl rfl rfl) rfl rfl rfl ?_
  refine Ops.st (.move rfl) rfl rfl rfl ?_
  refine Ops.splitB (t := 29) rfl (fun h1 => ?_) (fun h1 => ?_)
  ·
    refine Ops.skipG rfl rfl rfl h1 rfl rfl ?_
    refine Ops.skipG rfl rfl rfl h1 rfl rfl ?_
    refine Ops.st (.pickT rfl h1 rfl) rfl rfl rfl ?_
    refine Ops.nil ?_
    refine Ext.seq ?_
    refine Cod.condT rfl (by simp) ?_
    refine Cod.seq ?_
    refine Cod.region ?_
    refine Ops.st (.move rfl) rfl rfl rfl ?_
    refine Ops.st (.assign rfl) rfl rfl rfl ?_
    refine Ops.nil ?_
    refine Ext.seq ?_
    exact Cod.ret (Ext.seqR (Ext.ret rfl rfl rfl))
  ·
    refine Ops.stG rfl rfl rfl h1 (.move rfl) rfl rfl ?_
    refine Ops.stG rfl rfl rfl h1 (.notB rfl) rfl rfl ?_
    refine Ops.st (.pickF rfl h1 rfl) rfl rfl rfl ?_
    refine Ops.nil ?_
    refine Ext.seq ?_
    refine Cod.cond rfl (fun h2 => ?_) (fun h2 => ?_)
    ·
      refine Cod.seq ?_
      refine Cod.region ?_
      refine Ops.st (.move rfl) rfl rfl rfl ?_
      refine Ops.st (.assign rfl) rfl rfl rfl ?_
      refine Ops.nil ?_
      refine Ext.seq ?_
      exact Cod.ret (Ext.seqR (Ext.ret rfl rfl rfl))
    ·
      refine Cod.skip ?_
      refine Ext.seq ?_
      refine Cod.seq ?_
      refine Cod.region ?_
      have hwt3 : wtR vs ≤ 70368744177664 := hwt (by cases x1; cases h1; rfl)
      have hwt4 : wtR vs2 ≤ 70368744177664 := hwt2 (by cases x2; cases h2; rfl)
      refine Ops.st (.move rfl) rfl rfl rfl ?_
      refine Ops.st (.move rfl) rfl rfl rfl ?_
      refine Ops.call ⟨Try.call13⟩ rfl rfl rfl (by repeat' first | exact Takes.nil _ | exact TakeP.here _ | apply TakeP.there | apply Takes.cons) (fun F' hF => encode_any (hr.mono hF.hf) (hc.mono hF.hf fs) (hs.mono hF.hf) (hw.mono hF.hf vs) hwt3) rfl rfl rfl ?_
      rintro _ _ ⟨b1, rfl, hb1, rfl⟩
      refine Ops.st (.move rfl) rfl rfl rfl ?_
      refine Ops.st (.extract rfl rfl) rfl rfl rfl ?_
      refine Ops.st (.extract rfl rfl) rfl rfl rfl ?_
      refine Ops.st (.assign rfl) rfl rfl rfl ?_
      refine Ops.st (.assign rfl) rfl rfl rfl ?_
      refine Ops.nil ?_
      refine Ext.seq ?_
      refine Cod.seq ?_
      refine Cod.region ?_
      refine Ops.st (.move rfl) rfl rfl rfl ?_
      refine Ops.st (.move rfl) rfl rfl rfl ?_
      refine Ops.call ⟨Try.call13⟩ rfl rfl rfl (by repeat' first | exact Takes.nil _ | exact TakeP.here _ | apply TakeP.there | apply Takes.cons) (fun F' hF => encode_any (hr.mono hF.hf) (hc.mono hF.hf fs) (hs2.mono hF.hf) (hw2.mono hF.hf vs2) hwt4) rfl rfl rfl ?_
      rintro _ _ ⟨b2, rfl, hb2, rfl⟩
      refine Ops.st (.move rfl) rfl rfl rfl ?_
      refine Ops.st (.extract rfl rfl) rfl rfl rfl ?_
      refine Ops.st (.extract rfl rfl) rfl rfl rfl ?_
      refine Ops.st (.assign rfl) rfl rfl rfl ?_
      refine Ops.st (.assign rfl) rfl rfl rfl ?_
      refine Ops.nil ?_
      refine Ext.seq ?_
      refine Cod.seq ?_
      refine Cod.seq ?_
      refine Cod.region ?_
      refine Ops.st (.move rfl) rfl rfl rfl ?_
      refine Ops.st (.neq rfl rfl) rfl rfl rfl ?_
      refine Ops.st (.move rfl) rfl rfl rfl ?_
      refine Ops.splitD (t := 48) rfl (fun e1 => ?_) (fun e1 => ?_)
      ·
        refine Ops.skipG rfl rfl rfl (decide_eq_true e1) rfl rfl ?_
        refine Ops.skipG rfl rfl rfl (decide_eq_true e1) rfl rfl ?_
        refine Ops.st (.pickT rfl (decide_eq_true e1) rfl) rfl rfl rfl ?_
        refine Ops.nil ?_
        refine Ext.seq ?_
        refine Cod.condT rfl (by simp) ?_
        refine Cod.seq ?_
        refine Cod.region ?_
        refine Ops.st (.assign rfl) rfl rfl rfl ?_
        refine Ops.nil ?_
        refine Ext.seq ?_
        exact Cod.ret (Ext.seqR (Ext.ret rfl rfl rfl))
      ·
        refine Ops.stG rfl rfl rfl (decide_eq_false e1) (.move rfl) rfl rfl ?_
        refine Ops.stG rfl rfl rfl (decide_eq_false e1) (.neq rfl rfl) rfl rfl ?_
        refine Ops.st (.pickF rfl (decide_eq_false e1) rfl) rfl rfl rfl ?_
        refine Ops.nil ?_
        refine Ext.seq ?_
        refine Cod.condD rfl (fun e2 => ?_) (fun e2 => ?_)
        ·
          refine Cod.seq ?_
          refine Cod.region ?_
          refine Ops.st (.assign rfl) rfl rfl rfl ?_
          refine Ops.nil ?_
          refine Ext.seq ?_
          exact Cod.ret (Ext.seqR (Ext.ret rfl rfl rfl))
        ·
          refine Cod.skip ?_
          refine Ext.seq ?_
          refine Cod.seq ?_
          refine Cod.region ?_
          obtain ⟨p1, hp1⟩ := errE_zero e1
          obtain ⟨p2, hp2⟩ := errE_zero e2
          obtain ⟨rfl, hf1, m, hm⟩ := encM_is hp1
          obtain ⟨rfl, hf2, _⟩ := encM_is hp2
          rw [hp1, hp2]
          simp only [Option.getD_some]
          have hap := apart (mostR_ok hm) hf1 hf2 (n := min (putR fs vs).length (putR fs vs2).length) rfl
          refine Ops.st (.move rfl) rfl rfl rfl ?_
          refine Ops.st (.len rfl (Rd.vec (v := b1) (by repeat first | exact TakeP.here _ | apply TakeP.there)) Try.runUnderlying26) rfl rfl rfl ?_
          refine Ops.st (.move rfl) rfl rfl rfl ?_
          refine Ops.st (.len rfl (Rd.vec (v := b2) (by repeat first | exact TakeP.here _ | apply TakeP.there)) Try.runUnderlying26) rfl rfl rfl ?_
          refine Ops.st (.min_ rfl rfl) rfl rfl rfl ?_
          refine Ops.st (.assign rfl) rfl rfl rfl ?_
          refine Ops.nil ?_
          refine Ext.seq ?_
          refine Cod.seq ?_
          refine Cod.region ?_
          refine Ops.st (.move rfl) rfl rfl rfl ?_
          refine Ops.st (.move rfl) rfl rfl rfl ?_
          refine Ops.call ⟨Try.call15⟩ rfl rfl rfl (by repeat' first | exact Takes.nil _ | exact TakeP.here _ | apply TakeP.there | apply Takes.cons) (fun F' hF => same_any (wtR vs + 1) (Nat.lt_succ_self _) (hs.mono hF.hf) (hw.mono hF.hf vs) (hs2.mono hF.hf) (hw2.mono hF.hf vs2)) rfl rfl rfl ?_
          rintro _ _ ⟨⟨sm, rfl, hsm⟩, rfl⟩
          refine Ops.st (.assign rfl) rfl rfl rfl ?_
          refine Ops.nil ?_
          refine Ext.seq ?_
          refine Cod.seq ?_
          refine Cod.regionQ mixed (by kernel_rfl) ?_
          refine Qs.st (.move rfl) rfl rfl rfl ?_
          refine Qs.st (.move rfl) rfl rfl rfl ?_
          refine Qs.st (.slice_h (hi := min (putR fs vs).length (putR fs vs2).length) rfl rfl (Rd.vec (v := b1) (by repeat first | exact TakeP.here _ | apply TakeP.there)) Try.runUnderlying26 Try.sizeOf5 (by omega) (by omega)) rfl rfl rfl ?_
          refine Qs.st (.toStr rfl (Rd.cut8 (Rd.vec (v := b1) (by repeat first | exact TakeP.here _ | apply TakeP.there)) (Nat.zero_le _) (by omega) rfl) Try.underlying26 Try.underlying5 Try.underlying9) rfl rfl rfl ?_
          refine Qs.st (.move rfl) rfl rfl rfl ?_
          refine Qs.st (.move rfl) rfl rfl rfl ?_
          refine Qs.st (.slice_h (hi := min (putR fs vs).length (putR fs vs2).length) rfl rfl (Rd.vec (v := b2) (by repeat first | exact TakeP.here _ | apply TakeP.there)) Try.runUnderlying26 Try.sizeOf5 (by omega) (by omega)) rfl rfl rfl ?_
          refine Qs.st (.toStr rfl (Rd.cut8 (Rd.vec (v := b2) (by repeat first | exact TakeP.here _ | apply TakeP.there)) (Nat.zero_le _) (by omega) rfl) Try.underlying26 Try.underlying5 Try.underlying9) rfl rfl rfl ?_
          refine Qs.st (.eqStr rfl rfl) rfl rfl rfl ?_
          refine Qs.st (.move rfl) rfl rfl rfl ?_
          refine Qs.st (.eqB rfl rfl Try.underlying4) rfl rfl rfl ?_
          refine Qs.st (.assign rfl) rfl rfl rfl ?_
          refine Qs.nil ?_
          refine Ext.seq ?_
          exact Cod.ret (Ext.ret rfl rfl (by simp only [List.drop_zero, Nat.sub_zero]; congr 1; cases sm; simp; intro h; exact absurd (hsm.2 (hap.1 h)) (by simp); simp; exact hap.2 (hsm.1 rfl)))

theorem num_most {low high : UInt64} (h : low ≤ high) : mostR 1 [.mk 1 low high []] = some (wid (high - low).toNat) := by
  have hw := wid_le (high - low).toNat
  rw [mostR_far (by simp) (by simp) (by omega), mostL, mostF_good (e := 0) (by intro x; rcases x with x | x; exact absurd (UInt64.lt_iff_toNat_lt.1 x) (by have := le_nat.1 h; omega); exact x.1 rfl) (by rw [eachF, if_pos rfl, if_pos rfl])]
  simp only
  rw [if_neg (fun x : (1 : Int) ≠ 1 => x rfl), Nat.zero_add, Nat.add_zero, if_neg (by omega), mostL]
theorem num_fit {low high n : UInt64} : fitR [.mk 1 low high []] [.mk n [] []] = inS low high n := by rw [fitR, fitR, fitE1 rfl]; simp
theorem num_put {low high n : UInt64} (h : inS low high n = true) : putR [.mk 1 low high []] [.mk n [] []] = leB (n - low).toNat (wid (high - low).toNat) := by
  rw [putR, putR_nil, List.append_nil, (putF1 rfl (by rw [fitE1 rfl]; simpa using h)).2]
theorem num_enc {low high n : UInt64} (h : low ≤ high) : encM [.mk 1 low high []] [.mk n [] []] = if inS low high n = true then some (leB (n - low).toNat (wid (high - low).toNat)) else none := by
  cases hq : inS low high n
  · rw [encM_unfit (by rw [num_fit, hq])]; rfl
  · rw [encM_some (by rw [num_most h]; rfl) (by rw [num_fit, hq]), num_put hq]; rfl
def widk (k : Nat) : Nat := if k = 0 then 0 else wid k
theorem widk_step {k : Nat} (h : 0 < k) (hk : k < 18446744073709551616) : widk k = widk (k / 256) + 1 := by
  unfold widk
  by_cases h2 : k < 256
  · rw [if_neg (by omega), if_pos (by omega), wid, if_pos h2]
  · rw [if_neg (by omega), if_neg (by omega), wid_step k (by omega) hk]
theorem wid_k (n : Nat) (h : n < 18446744073709551616) : wid n = widk (n / 256) + 1 := by
  by_cases h2 : n = 0
  · subst h2; rfl
  · rw [← widk_step (by omega) h, widk, if_neg h2]
theorem of8 (c : UInt8) : c.toUInt64 = UInt64.ofNat c.toNat := by
  apply UInt64.toNat_inj.1
  simp
theorem w64_up {bs : List UInt8} {j : Nat} {c : UInt8} (h : bs[j]? = some c) : UInt64.ofNat (leN (bs.drop (j + 1))) * 256 + c.toUInt64 = UInt64.ofNat (leN (bs.drop j)) := by
  rw [drop_get h, leN, of8, UInt64.ofNat_add, UInt64.ofNat_mul, UInt64.add_comm, UInt64.mul_comm]
  rfl
theorem lone_f {h : Hp} {low high : UInt64} : FldsR h [.mk 1 low high []] [.int .i64 1, W64 low, W64 high, .slice none 0 0] := by
  rw [FldsR]
  refine ⟨[.int .i64 1, W64 low, W64 high, .slice none 0 0], [], rfl, ?_, by rw [FldsR]⟩
  rw [FldR]; exact ⟨_, rfl, [], SlR.nil _ _, by rw [FldsR]⟩
theorem lone_v {h : Hp} {n : UInt64} : ValsR h [.mk n [] []] [W64 n, .slice none 0 0, .slice none 0 0] := by
  rw [ValsR]
  refine ⟨[W64 n, .slice none 0 0, .slice none 0 0], [], rfl, ?_, by rw [ValsR]⟩
  rw [ValR]; exact ⟨_, _, rfl, SlR.nil _ _, [], SlR.nil _ _, by rw [RecsR]⟩
/-- A record of one number. -/
theorem packNumbers_any {F : Fr} {low high n : UInt64} : Spec Try.prog F 6 [W64 low, W64 high, W64 n] [] (fun u _ => u = .bool true) := by
  have hnl := n.toNat_lt
  refine Spec.body Try.func6 rfl Try.ntmps6 rfl ?_
  refine Cod.seq ?_
  refine Cod.region ?_
  refine Ops.st (.assign rfl) rfl rfl rfl ?_
  refine Ops.nil ?_
  refine Ext.seq ?_
  refine Cod.seq ?_
  refine Cod.region ?_
  refine Ops.call ⟨Try.call11⟩ rfl rfl rfl (by repeat' first | exact Takes.nil _ | exact TakeP.here _ | apply TakeP.there | apply Takes.cons) (fun F' hF => awake_any) rfl rfl rfl ?_
  rintro _ _ ⟨rfl, rfl⟩
  refine Ops.st (.assign rfl) rfl rfl rfl ?_
  refine Ops.nil ?_
  refine Ext.seq ?_
  refine Cod.seq ?_
  refine Cod.seq ?_
  refine Cod.region ?_
  refine Ops.st (.move rfl) rfl rfl rfl ?_
  refine Ops.st (.notB rfl) rfl rfl rfl ?_
  refine Ops.st (.move rfl) rfl rfl rfl ?_
  refine Ops.stG rfl rfl rfl rfl (.move rfl) rfl rfl ?_
  refine Ops.stG rfl rfl rfl rfl (.move rfl) rfl rfl ?_
  refine Ops.stG rfl rfl rfl rfl (.gtr rfl rfl) rfl rfl ?_
  refine Ops.st (.pickF rfl rfl rfl) rfl rfl rfl ?_
  refine Ops.nil ?_
  refine Ext.seq ?_
  refine Cod.condD rfl (fun h0 => ?_) (fun h0 => ?_)
  ·
    refine Cod.seq ?_
    refine Cod.region ?_
    refine Ops.st (.move rfl) rfl rfl rfl ?_
    refine Ops.st (.assign rfl) rfl rfl rfl ?_
    refine Ops.nil ?_
    refine Ext.seq ?_
    exact Cod.ret (Ext.seqR (Ext.ret rfl rfl rfl))
  ·
    refine Cod.skip ?_
    refine Ext.seq ?_
    refine Cod.seq ?_
    refine Cod.region ?_
    have hle : low ≤ high := le_nat.2 (by omega)
    refine Ops.st (.move rfl) rfl rfl rfl ?_
    refine Ops.st (.move rfl) rfl rfl rfl ?_
    refine Ops.st (.build1 (os := [0, 1, 2]) (cs := [_, _, _, (.slice none 0 0)]) bs37 rfl rfl rfl (by repeat' first | exact One.nil | apply One.cons rfl | (apply One.cons (Sl.one (by assumption)))) rfl) rfl rfl rfl ?_
    refine Ops.ef (.lit (xs := [_, _, _, _]) ei22 rfl rfl rfl rfl (by repeat' first | exact allSz_nil | apply allSz_cons rfl) rfl (by repeat' first | exact One.nil | apply One.cons rfl | (apply One.cons (Sl.one (by assumption))))) rfl rfl rfl ?_
    rintro lv _ ⟨hlv, rfl⟩
    refine Ops.st (.assign rfl) rfl rfl rfl ?_
    refine Ops.nil ?_
    refine Ext.seq ?_
    refine Cod.seq ?_
    refine Cod.region ?_
    refine Ops.st (.move rfl) rfl rfl rfl ?_
    refine Ops.st (.move rfl) rfl rfl rfl ?_
    refine Ops.st (.build1 (os := [0]) (cs := [_, (.slice none 0 0), (.slice none 0 0)]) bs40 rfl rfl rfl (by repeat' first | exact One.nil | apply One.cons rfl | (apply One.cons (Sl.one (by assumption)))) rfl) rfl rfl rfl ?_
    refine Ops.ef (.lit (xs := [_, _, _]) ei23 rfl rfl rfl rfl (by repeat' first | exact allSz_nil | apply allSz_cons rfl) rfl (by repeat' first | exact One.nil | apply One.cons rfl | (apply One.cons (Sl.one (by assumption))))) rfl rfl rfl ?_
    rintro vv _ ⟨hvv, rfl⟩
    refine Ops.call ⟨Try.call13⟩ rfl rfl rfl (by repeat' first | exact Takes.nil _ | exact TakeP.here _ | apply TakeP.there | apply Takes.cons) (fun F' hF => encode_any (fs := [.mk 1 low high []]) (vs := [.mk n [] []]) ((Rd.vec (v := lv) (by repeat first | exact TakeP.here _ | apply TakeP.there)).wider hF) lone_f ((Rd.vec (v := vv) (by repeat first | exact TakeP.here _ | apply TakeP.there)).wider hF) lone_v (by simp [wtR, wtV, wtQ])) rfl rfl rfl ?_
    rintro _ _ ⟨b1, rfl, hb1, rfl⟩
    rw [num_enc hle]
    refine Ops.st (.move rfl) rfl rfl rfl ?_
    refine Ops.st (.extract rfl rfl) rfl rfl rfl ?_
    refine Ops.st (.extract rfl rfl) rfl rfl rfl ?_
    refine Ops.st (.assign rfl) rfl rfl rfl ?_
    refine Ops.st (.assign rfl) rfl rfl rfl ?_
    refine Ops.nil ?_
    refine Ext.seq ?_
    refine Cod.seq ?_
    refine Cod.seq ?_
    refine Cod.region ?_
    refine Ops.st (.move rfl) rfl rfl rfl ?_
    refine Ops.st (.move rfl) rfl rfl rfl ?_
    refine Ops.st (.lss rfl rfl) rfl rfl rfl ?_
    refine Ops.st (.move rfl) rfl rfl rfl ?_
    refine Ops.splitD (t := 39) rfl (fun e1 => ?_) (fun e1 => ?_)
    ·
      refine Ops.skipG rfl rfl rfl (decide_eq_true e1) rfl rfl ?_
      refine Ops.skipG rfl rfl rfl (decide_eq_true e1) rfl rfl ?_
      refine Ops.skipG rfl rfl rfl (decide_eq_true e1) rfl rfl ?_
      refine Ops.st (.pickT rfl (decide_eq_true e1) rfl) rfl rfl rfl ?_
      refine Ops.nil ?_
      refine Ext.seq ?_
      refine Cod.condT rfl (by simp) ?_
      refine Cod.seq ?_
      refine Cod.region ?_
      rw [inS_lo e1]
      refine Ops.st (.move rfl) rfl rfl rfl ?_
      refine Ops.st (.eql rfl rfl) rfl rfl rfl ?_
      refine Ops.st (.move rfl) rfl rfl rfl ?_
      refine Ops.stG rfl rfl rfl rfl (.move rfl) rfl rfl ?_
      refine Ops.stG rfl rfl rfl rfl (.len rfl (Rd.vec (v := b1) (by repeat first | exact TakeP.here _ | apply TakeP.there)) Try.runUnderlying26) rfl rfl ?_
      refine Ops.stG rfl rfl rfl rfl (.eql rfl rfl) rfl rfl ?_
      refine Ops.st (.pickT rfl rfl rfl) rfl rfl rfl ?_
      refine Ops.st (.assign rfl) rfl rfl rfl ?_
      refine Ops.nil ?_
      refine Ext.seq ?_
      exact Cod.ret (Ext.seqR (Ext.ret rfl rfl rfl))
    ·
      refine Ops.stG rfl rfl rfl (decide_eq_false e1) (.move rfl) rfl rfl ?_
      refine Ops.stG rfl rfl rfl (decide_eq_false e1) (.move rfl) rfl rfl ?_
      refine Ops.stG rfl rfl rfl (decide_eq_false e1) (.gtr rfl rfl) rfl rfl ?_
      refine Ops.st (.pickF rfl (decide_eq_false e1) rfl) rfl rfl rfl ?_
      refine Ops.nil ?_
      refine Ext.seq ?_
      refine Cod.condD rfl (fun e2 => ?_) (fun e2 => ?_)
      ·
        refine Cod.seq ?_
        refine Cod.region ?_
        rw [inS_hi e2]
        refine Ops.st (.move rfl) rfl rfl rfl ?_
        refine Ops.st (.eql rfl rfl) rfl rfl rfl ?_
        refine Ops.st (.move rfl) rfl rfl rfl ?_
        refine Ops.stG rfl rfl rfl rfl (.move rfl) rfl rfl ?_
        refine Ops.stG rfl rfl rfl rfl (.len rfl (Rd.vec (v := b1) (by repeat first | exact TakeP.here _ | apply TakeP.there)) Try.runUnderlying26) rfl rfl ?_
        refine Ops.stG rfl rfl rfl rfl (.eql rfl rfl) rfl rfl ?_
        refine Ops.st (.pickT rfl rfl rfl) rfl rfl rfl ?_
        refine Ops.st (.assign rfl) rfl rfl rfl ?_
        refine Ops.nil ?_
        refine Ext.seq ?_
        exact Cod.ret (Ext.seqR (Ext.ret rfl rfl rfl))
      ·
        refine Cod.skip ?_
        refine Ext.seq ?_
        refine Cod.seq ?_
        refine Cod.region ?_
        have hin := inS_in e1 e2
        rw [hin]
        simp only [if_true, Option.getD_some]
        have hbl := leB_len (wid (high - low).toNat) (n - low).toNat
        have hwl := wid_le (high - low).toNat
        have hw1 := wid_pos (high - low).toNat
        have hhl := (high - low).toNat_lt
        have hwk := wid_k (high - low).toNat hhl
        refine Ops.st (.assign rfl) rfl rfl rfl ?_
        refine Ops.nil ?_
        refine Ext.seq ?_
        refine Cod.seq ?_
        refine Cod.seq ?_
        refine Cod.region ?_
        refine Ops.st (.move rfl) rfl rfl rfl ?_
        refine Ops.st (.move rfl) rfl rfl rfl ?_
        refine Ops.st (.subW64 rfl rfl) rfl rfl rfl ?_
        refine Ops.st (.quoW64 rfl (show _ = some (W64 256) from rfl) (by decide)) rfl rfl rfl ?_
        refine Ops.st (.assign rfl) rfl rfl rfl ?_
        refine Ops.nil ?_
        refine Ext.seq ?_
        refine Cod.block ?_
        refine Cod.loop (fun g : Nat × UInt64 => ⟨g.1 + widk g.2.toNat = wid (high - low).toNat, [(0, W64 low), (2, W64 n), (8, lv), (9, b1), (10, .int .i64 0), (11, .int .i64 g.1), (12, W64 g.2)], [vec lv 37 4 1 [.int .i64 1, W64 low, W64 high, .slice none 0 0], vec b1 5 1 (leB (n - low).toNat (wid (high - low).toNat)).length (u8s (leB (n - low).toNat (wid (high - low).toNat)))]⟩) (fun g => g.2.toNat) (1, (high - low) / 256) (by dsimp only; rw [UInt64.toNat_div, show (256 : UInt64).toNat = 256 from rfl]; omega) ⟨rfl, rfl, rfl, rfl, rfl, rfl, rfl, trivial⟩ (Ent.take (by repeat' first | exact Takes.nil _ | exact TakeP.here _ | apply TakeP.there | apply Takes.cons)) ?_
        rintro ⟨mm, k⟩ hk
        dsimp only
        refine Cod.seq ?_
        refine Cod.seq ?_
        refine Cod.region ?_
        dsimp only at hk
        have hkl := k.toNat_lt
        refine Ops.st (.move rfl) rfl rfl rfl ?_
        refine Ops.st (.gtr rfl rfl) rfl rfl rfl ?_
        refine Ops.nil ?_
        refine Ext.seq ?_
        refine Cod.condD rfl (fun h1 => ?_) (fun h1 => ?_)
        ·
          refine Cod.skip ?_
          refine Ext.seq ?_
          refine Cod.seq ?_
          refine Cod.block ?_
          refine Cod.region ?_
          have hks := widk_step (k := k.toNat) (by simpa using h1) hkl
          refine Ops.st (.move rfl) rfl rfl rfl ?_
          refine Ops.st (.add rfl rfl (by first | exact IntWalk.i64_in _ (by omega) | rfl)) rfl rfl rfl ?_
          refine Ops.st (.assign rfl) rfl rfl rfl ?_
          refine Ops.nil ?_
          refine Ext.block ?_
          refine Ext.seq ?_
          refine Cod.region ?_
          refine Ops.st (.move rfl) rfl rfl rfl ?_
          refine Ops.st (.quoW64 rfl (show _ = some (W64 256) from rfl) (by decide)) rfl rfl rfl ?_
          refine Ops.st (.assign rfl) rfl rfl rfl ?_
          refine Ops.nil ?_
          exact Ext.back (mm + 1, k / 256) (by dsimp only; rw [UInt64.toNat_div, show (256 : UInt64).toNat = 256 from rfl]; have : 0 < k.toNat := (by simpa using h1); omega) (by dsimp only; rw [UInt64.toNat_div, show (256 : UInt64).toNat = 256 from rfl]; omega) ⟨rfl, rfl, rfl, rfl, rfl, rfl, rfl, trivial⟩ (Ent.take (by repeat' first | exact Takes.nil _ | exact TakeP.here _ | apply TakeP.there | apply Takes.cons))
        ·
          refine Cod.exit (Ext.seqX (Ext.stopX (Ext.hit ?_)))
          refine Ext.seq ?_
          refine Cod.seq ?_
          refine Cod.region ?_
          have hk0 : k.toNat = 0 := by have : ¬ 0 < k.toNat := (by simpa using h1); omega
          rw [hk0] at hk
          obtain rfl : mm = wid (high - low).toNat := hk
          refine Ops.st (.assign rfl) rfl rfl rfl ?_
          refine Ops.nil ?_
          refine Ext.seq ?_
          refine Cod.seq ?_
          refine Cod.seq ?_
          refine Cod.region ?_
          refine Ops.st (.move rfl) rfl rfl rfl ?_
          refine Ops.st (.len rfl (Rd.vec (v := b1) (by repeat first | exact TakeP.here _ | apply TakeP.there)) Try.runUnderlying26) rfl rfl rfl ?_
          refine Ops.st (.sub rfl rfl (by first | exact IntWalk.i64_in _ (by omega) | rfl)) rfl rfl rfl ?_
          refine Ops.st (.assign rfl) rfl rfl rfl ?_
          refine Ops.nil ?_
          refine Ext.seq ?_
          refine Cod.block ?_
          refine Cod.loop (fun j : Nat => ⟨j ≤ wid (high - low).toNat, [(0, W64 low), (2, W64 n), (8, lv), (9, b1), (10, .int .i64 0), (11, .int .i64 (wid (high - low).toNat)), (13, W64 (UInt64.ofNat (leN ((leB (n - low).toNat (wid (high - low).toNat)).drop j)))), (14, .int .i64 ((j : Int) - 1))], [vec lv 37 4 1 [.int .i64 1, W64 low, W64 high, .slice none 0 0], vec b1 5 1 (leB (n - low).toNat (wid (high - low).toNat)).length (u8s (leB (n - low).toNat (wid (high - low).toNat)))]⟩) (fun j => j) (wid (high - low).toNat) (Nat.le_refl _) ⟨rfl, rfl, rfl, rfl, rfl, rfl, by rw [List.drop_of_length_le (by omega)]; rfl, by rw [hbl]; rfl, trivial⟩ (Ent.take (by repeat' first | exact Takes.nil _ | exact TakeP.here _ | apply TakeP.there | apply Takes.cons)) ?_
          rintro j hj
          dsimp only
          refine Cod.seq ?_
          refine Cod.seq ?_
          refine Cod.region ?_
          refine Ops.st (.move rfl) rfl rfl rfl ?_
          refine Ops.st (.geq rfl rfl) rfl rfl rfl ?_
          refine Ops.nil ?_
          refine Ext.seq ?_
          refine Cod.condD rfl (fun h2 => ?_) (fun h2 => ?_)
          ·
            refine Cod.skip ?_
            refine Ext.seq ?_
            refine Cod.seq ?_
            refine Cod.block ?_
            refine Cod.region ?_
            obtain ⟨i, rfl⟩ : ∃ i, j = i + 1 := ⟨j - 1, by omega⟩
            obtain ⟨c, hc⟩ : ∃ c, (leB (n - low).toNat (wid (high - low).toNat))[i]? = some c := ⟨_, List.getElem?_eq_getElem (by omega)⟩
            refine Ops.st (.move rfl) rfl rfl rfl ?_
            refine Ops.st (.mulW64 rfl (show _ = some (W64 256) from rfl)) rfl rfl rfl ?_
            refine Ops.st (.move rfl) rfl rfl rfl ?_
            refine Ops.st (.move rfl) rfl rfl rfl ?_
            refine Ops.st (.indexAddr (j := i) (off := i) rfl rfl (Rd.vec (v := b1) (by repeat first | exact TakeP.here _ | apply TakeP.there)) Try.runUnderlying26 Try.sizeOf5 (by omega) (by omega) (by omega)) rfl rfl rfl ?_
            refine Ops.st (.load_elem (u := W8 c) rfl (Rd.vec (v := b1) (by repeat first | exact TakeP.here _ | apply TakeP.there)) Try.isAgg5 (by rw [u8s, List.getElem?_map, hc]; rfl)) rfl rfl rfl ?_
            refine Ops.st (.convW8_64 rfl Try.underlying5 Try.underlying35) rfl rfl rfl ?_
            refine Ops.st (.addW64 rfl rfl) rfl rfl rfl ?_
            refine Ops.st (.assign rfl) rfl rfl rfl ?_
            refine Ops.nil ?_
            refine Ext.block ?_
            refine Ext.seq ?_
            refine Cod.region ?_
            refine Ops.st (.move rfl) rfl rfl rfl ?_
            refine Ops.st (.sub rfl rfl (by first | exact IntWalk.i64_in _ (by omega) | rfl)) rfl rfl rfl ?_
            refine Ops.st (.assign rfl) rfl rfl rfl ?_
            refine Ops.nil ?_
            exact Ext.back i (by omega) (by omega) ⟨rfl, rfl, rfl, rfl, rfl, rfl, by rw [← w64_up hc]; rfl, by rw [show ((i + 1 : Nat) : Int) - 1 = i by omega]; rfl, trivial⟩ (Ent.take (by repeat' first | exact Takes.nil _ | exact TakeP.here _ | apply TakeP.there | apply Takes.cons))
          ·
            refine Cod.exit (Ext.seqX (Ext.stopX (Ext.hit ?_)))
            refine Ext.seq ?_
            refine Cod.seq ?_
            refine Cod.region ?_
            obtain rfl : j = 0 := by omega
            rw [List.drop_zero, leN_leB _ _ (by have h5 := wid_lt hhl; have h6 := le_nat.1 hle; rw [sub_nat hle] at h5; have h7 : (n - low).toNat ≤ (high - low).toNat := (by simp only [inS, Bool.and_eq_true, decide_eq_true_eq] at hin; rw [sub_nat hin.1, sub_nat hle]; have := le_nat.1 hin.2; omega); rw [sub_nat hle] at h7 ⊢; omega), UInt64.ofNat_toNat]
            refine Ops.st (.move rfl) rfl rfl rfl ?_
            refine Ops.st (.eql rfl rfl) rfl rfl rfl ?_
            refine Ops.st (.move rfl) rfl rfl rfl ?_
            refine Ops.stG rfl rfl rfl rfl (.move rfl) rfl rfl ?_
            refine Ops.stG rfl rfl rfl rfl (.len rfl (Rd.vec (v := b1) (by repeat first | exact TakeP.here _ | apply TakeP.there)) Try.runUnderlying26) rfl rfl ?_
            refine Ops.stG rfl rfl rfl rfl (.move rfl) rfl rfl ?_
            refine Ops.stG rfl rfl rfl rfl (.eql rfl rfl) rfl rfl ?_
            refine Ops.st (.pickT rfl rfl rfl) rfl rfl rfl ?_
            refine Ops.st (.move rfl) rfl rfl rfl ?_
            refine Ops.stG rfl rfl rfl (decide_eq_true (by omega)) (.move rfl) rfl rfl ?_
            refine Ops.callG rfl rfl rfl (decide_eq_true (by omega)) ⟨Try.call19⟩ rfl rfl rfl (by repeat' first | exact Takes.nil _ | exact TakeP.here _ | apply TakeP.there | apply Takes.cons) (fun F' hF => packMost_any (fs := [.mk 1 low high []]) ((Rd.vec (v := lv) (by repeat first | exact TakeP.here _ | apply TakeP.there)).wider hF) lone_f) rfl rfl ?_
            rintro _ _ ⟨rfl, rfl⟩
            refine Ops.stG rfl rfl rfl (decide_eq_true (by omega)) (.move rfl) rfl rfl ?_
            refine Ops.stG rfl rfl rfl (decide_eq_true (by omega)) (.eql rfl rfl) rfl rfl ?_
            refine Ops.st (.pickT rfl (decide_eq_true (by omega)) rfl) rfl rfl rfl ?_
            refine Ops.st (.move rfl) rfl rfl rfl ?_
            refine Ops.stG rfl rfl rfl (decide_eq_true (by rw [num_most hle]; rfl)) (.move rfl) rfl rfl ?_
            refine Ops.stG rfl rfl rfl (decide_eq_true (by rw [num_most hle]; rfl)) (.move rfl) rfl rfl ?_
            refine Ops.stG rfl rfl rfl (decide_eq_true (by rw [num_most hle]; rfl)) (.move rfl) rfl rfl ?_
            refine Ops.stG rfl rfl rfl (decide_eq_true (by rw [num_most hle]; rfl)) (.subW64 rfl rfl) rfl rfl ?_
            refine Ops.stG rfl rfl rfl (decide_eq_true (by rw [num_most hle]; rfl)) (.eqlW64 rfl rfl) rfl rfl ?_
            refine Ops.st (.pickT rfl (decide_eq_true (by rw [num_most hle]; rfl)) rfl) rfl rfl rfl ?_
            refine Ops.st (.assign rfl) rfl rfl rfl ?_
            refine Ops.nil ?_
            refine Ext.seq ?_
            exact Cod.ret (Ext.ret rfl rfl (by simp))
end Go.Proofs.Ytacgngfjanlfnaa
