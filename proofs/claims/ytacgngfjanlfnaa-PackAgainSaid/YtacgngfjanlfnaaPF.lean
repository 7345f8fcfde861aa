/- Values on the heap; a number of a span is put: the program and the reference. No condition. -/
import Derived.Test.YtacgngfjanlfnaaPE
namespace Go.Proofs.Ytacgngfjanlfnaa
open Go

mutual
/-- A value's cells; values' cells; records'. -/
def ValR (h : Hp) : Val → List Value → Prop
  | .mk n b l, cs => ∃ bv lv, cs = [W64 n, bv, lv] ∧ SlR h bv 1 b.length (u8s b) ∧ ∃ rows, SlR h lv 1 l.length rows ∧ RecsR h l rows
def ValsR (h : Hp) : List Val → List Value → Prop
  | [], cs => cs = []
  | v :: vs, cs => ∃ a c, cs = a ++ c ∧ ValR h v a ∧ ValsR h vs c
def RecsR (h : Hp) : List (List Val) → List Value → Prop
  | [], cs => cs = []
  | r :: rs, cs => ∃ rv rcs c, cs = rv :: c ∧ SlR h rv 3 r.length rcs ∧ ValsR h r rcs ∧ RecsR h rs c
end
mutual
theorem ValR.mono {h h' : Hp} (x : Hp.le h h') : ∀ (v : Val) {cs : List Value}, ValR h v cs → ValR h' v cs
  | .mk n b l, cs, y => by
    rw [ValR] at y ⊢
    obtain ⟨bv, lv, e, h1, rows, h2, h3⟩ := y
    exact ⟨bv, lv, e, h1.mono x, rows, h2.mono x, RecsR.mono x l h3⟩
theorem ValsR.mono {h h' : Hp} (x : Hp.le h h') : ∀ (vs : List Val) {cs : List Value}, ValsR h vs cs → ValsR h' vs cs
  | [], cs, y => by rw [ValsR] at y ⊢; exact y
  | v :: vs, cs, y => by
    rw [ValsR] at y ⊢
    obtain ⟨a, c, e, h1, h2⟩ := y
    exact ⟨a, c, e, ValR.mono x v h1, ValsR.mono x vs h2⟩
theorem RecsR.mono {h h' : Hp} (x : Hp.le h h') : ∀ (rs : List (List Val)) {cs : List Value}, RecsR h rs cs → RecsR h' rs cs
  | [], cs, y => by rw [RecsR] at y ⊢; exact y
  | r :: rs, cs, y => by
    rw [RecsR] at y ⊢
    obtain ⟨rv, rcs, c, e, h1, h2, h3⟩ := y
    exact ⟨rv, rcs, c, e, h1.mono x, ValsR.mono x r h2, RecsR.mono x rs h3⟩
end
theorem ValR.len {h : Hp} {v : Val} {cs : List Value} (x : ValR h v cs) : cs.length = 3 := by
  cases v
  rw [ValR] at x
  obtain ⟨bv, lv, rfl, _⟩ := x
  rfl
theorem ValsR.get {h : Hp} : ∀ {vs : List Val} {cs : List Value} {i : Nat} {n : UInt64} {b : List UInt8} {l : List (List Val)}, ValsR h vs cs → vs[i]? = some (.mk n b l) →
    ∃ bv lv rows, (cs.drop (i * 3)).take 3 = [W64 n, bv, lv] ∧ SlR h bv 1 b.length (u8s b) ∧ SlR h lv 1 l.length rows ∧ RecsR h l rows
  | [], _, _, _, _, _, _, hi => by simp at hi
  | v :: vs, cs, 0, n, b, l, x, hi => by
    simp only [List.getElem?_cons_zero, Option.some.injEq] at hi
    subst hi
    rw [ValsR] at x
    obtain ⟨a, c, rfl, h1, _⟩ := x
    rw [ValR] at h1
    obtain ⟨bv, lv, rfl, h2, rows, h3, h4⟩ := h1
    exact ⟨bv, lv, rows, rfl, h2, h3, h4⟩
  | v :: vs, cs, i + 1, n, b, l, x, hi => by
    rw [List.getElem?_cons_succ] at hi
    rw [ValsR] at x
    obtain ⟨a, c, rfl, h1, h2⟩ := x
    obtain ⟨bv, lv, rows, h3, h4⟩ := ValsR.get h2 hi
    have ha := h1.len
    exact ⟨bv, lv, rows, by rw [show (i + 1) * 3 = a.length + i * 3 by omega, List.drop_append, List.drop_of_length_le (by omega), List.nil_append, Nat.add_sub_cancel_left, h3], h4⟩
theorem RecsR.get {h : Hp} : ∀ {rs : List (List Val)} {cs : List Value} {i : Nat} {r : List Val}, RecsR h rs cs → rs[i]? = some r → ∃ rv rcs, cs[i]? = some rv ∧ SlR h rv 3 r.length rcs ∧ ValsR h r rcs
  | [], _, _, _, _, hi => by simp at hi
  | r :: rs, cs, 0, r', x, hi => by
    simp only [List.getElem?_cons_zero, Option.some.injEq] at hi
    subst hi
    rw [RecsR] at x
    obtain ⟨rv, rcs, c, rfl, h1, h2, _⟩ := x
    exact ⟨rv, rcs, rfl, h1, h2⟩
  | r :: rs, cs, i + 1, r', x, hi => by
    rw [List.getElem?_cons_succ] at hi
    rw [RecsR] at x
    obtain ⟨rv, rcs, c, rfl, h1, h2, h3⟩ := x
    obtain ⟨a, b, e, h4⟩ := RecsR.get h3 hi
    exact ⟨a, b, by rw [List.getElem?_cons_succ]; exact e, h4⟩

/-- Does a number fit, and its bytes. -/
def inS (mn mx n : UInt64) : Bool := decide (mn ≤ n) && decide (n ≤ mx)
def numB (mn mx n : UInt64) : List UInt8 := if inS mn mx n = true then leB (n.toNat - mn.toNat) (wid (mx - mn).toNat) else []
theorem numB_le (mn mx n : UInt64) : (numB mn mx n).length ≤ 8 := by
  unfold numB
  split
  · rw [leB_len]; exact wid_le _
  · exact Nat.zero_le _
theorem leB_snoc : ∀ (j N : Nat), leB N (j + 1) = leB N j ++ [UInt8.ofNat (N / 256 ^ j % 256)]
  | 0, N => by simp [leB]
  | j + 1, N => by
    rw [leB, leB_snoc j, leB, List.cons_append]
    congr 3
    rw [Nat.div_div_eq_div_mul, Nat.pow_succ, Nat.mul_comm]
theorem byte_of (x : UInt64) : x.toUInt8 = UInt8.ofNat (x.toNat % 256) := by
  apply UInt8.toNat_inj.1
  simp
theorem vec_snoc (v : Value) (T : TypeId) (L : List UInt8) (c : UInt8) : vec v T 1 (L ++ [c]).length (u8s (L ++ [c])) = vec v T 1 (L.length + 1) (u8s L ++ [W8 c]) := by rw [u8s_app, List.length_append]; rfl
theorem shr8 (x : UInt64) : (x >>> UInt64.ofNat 8).toNat = x.toNat / 256 := by simp [UInt64.toNat_shiftRight, Nat.shiftRight_eq_div_pow]

theorem number_any {F : Fr} {wb : Nat} {bv v : Value} {am : Bool} {bs : List UInt8} {k : Int} {mn mx n : UInt64} (hv : Sl v) (hbv : Sl bv) (hl : bs.length ≤ 70368744177664) :
    Spec Try.prog F 33 [.pointer (some ⟨wb, 0, none⟩), .agg #[.int .i64 k, W64 mn, W64 mx, v], W64 n] [pt wb 50 [bv, .bool am], vec bv 5 1 bs.length (u8s bs)]
      (fun _ hs' => ∃ bv', Sl bv' ∧ hs' = [pt wb 50 [bv', .bool (am || !inS mn mx n)], vec bv' 5 1 (bs ++ numB mn mx n).length (u8s (bs ++ numB mn mx n))]) := by
  have hwl := wid_le (mx - mn).toNat
  refine Spec.body Try.func33 rfl Try.ntmps33 rfl ?_
  refine Cod.seq ?_
  refine Cod.region ?_
  refine Ops.ef (.box (cs := [.int .i64 k, W64 mn, W64 mx, v]) rfl (by obtain ⟨a, l, c, rfl⟩ := hv; rfl)) rfl rfl rfl ?_
  rintro b _ ⟨b, rfl, rfl⟩
  refine Ops.nil ?_
  refine Ext.seq ?_
  refine Cod.seq ?_
  refine Cod.seq ?_
  refine Cod.region ?_
  refine Ops.st (.loadPA rfl (by repeat first | exact TakeP.here _ | apply TakeP.there) Try.isAgg63 Try.sizeOf63 rfl rfl) rfl rfl rfl ?_
  refine Ops.st (.move rfl) rfl rfl rfl ?_
  refine Ops.call ⟨Try.call40⟩ rfl rfl rfl (by repeat' first | exact Takes.nil _ | exact TakeP.here _ | apply TakeP.there | apply Takes.cons) (fun F' hF => has_any hv) rfl rfl rfl ?_
  rintro _ _ ⟨rfl, rfl⟩
  refine Ops.st (.notB rfl) rfl rfl rfl ?_
  refine Ops.nil ?_
  refine Ext.seq ?_
  refine Cod.cond rfl (fun h1 => ?_) (fun h1 => ?_)
  ·
    refine Cod.seq ?_
    refine Cod.region ?_
    refine Ops.st (.move rfl) rfl rfl rfl ?_
    refine Ops.st (.nilCheck rfl) rfl rfl rfl ?_
    refine Ops.st (.fieldAddr rfl fa50_1) rfl rfl rfl ?_
    refine Ops.ef10 (.store (cs' := [bv, .bool true]) rfl rfl (by repeat first | exact TakeP.here _ | apply TakeP.there) Try.sizeOf4 rfl rfl rfl) rfl rfl ?_
    refine Ops.nil ?_
    refine Ext.seq ?_
    exact Cod.ret (Ext.seqR (Ext.ret0E rfl (Ent.take (ps := [pt wb 50 [bv, .bool true], vec bv 5 1 bs.length (u8s bs)]) (by repeat' first | exact Takes.nil _ | exact TakeP.here _ | apply TakeP.there | apply Takes.cons)) (⟨bv, hbv, by have hin : inS mn mx n = false := (by cases hq : inS mn mx n; rfl; unfold inS at hq; rw [hq] at h1; cases h1); rw [numB, hin]; simp⟩)))
  ·
    refine Cod.skip ?_
    refine Ext.seq ?_
    refine Cod.seq ?_
    refine Cod.region ?_
    have hin : inS mn mx n = true := by unfold inS; simpa using h1
    have hin2 := hin
    simp only [inS, Bool.and_eq_true, decide_eq_true_eq] at hin2
    have hsub := sub_nat hin2.1
    refine Ops.st (.move rfl) rfl rfl rfl ?_
    refine Ops.st (.fieldAddr rfl fa63_1) rfl rfl rfl ?_
    refine Ops.st (.loadP rfl (by repeat first | exact TakeP.here _ | apply TakeP.there) Try.isAgg35 rfl) rfl rfl rfl ?_
    refine Ops.st (.subW64 rfl rfl) rfl rfl rfl ?_
    refine Ops.st (.assign rfl) rfl rfl rfl ?_
    refine Ops.nil ?_
    refine Ext.seq ?_
    refine Cod.seq ?_
    refine Cod.region ?_
    refine Ops.st (.loadPA rfl (by repeat first | exact TakeP.here _ | apply TakeP.there) Try.isAgg63 Try.sizeOf63 rfl rfl) rfl rfl rfl ?_
    refine Ops.call ⟨Try.call36⟩ rfl rfl rfl (by repeat' first | exact Takes.nil _ | exact TakeP.here _ | apply TakeP.there | apply Takes.cons) (fun F' hF => width_any hv) rfl rfl rfl ?_
    rintro _ _ ⟨rfl, rfl⟩
    refine Ops.st (.move rfl) rfl rfl rfl ?_
    refine Ops.nil ?_
    refine Ext.seq ?_
    refine Cod.block ?_
    refine Cod.loop (fun g : Nat × UInt64 × Value => ⟨g.1 ≤ wid (mx - mn).toNat ∧ Sl g.2.2 ∧ g.2.1.toNat = (n - mn).toNat / 256 ^ g.1, [(0, .pointer (some ⟨wb, 0, none⟩)), (2, W64 g.2.1), (18, .int .i64 (wid (mx - mn).toNat)), (19, .int .i64 g.1)], [pt wb 50 [g.2.2, .bool am], vec g.2.2 5 1 (bs ++ leB (n - mn).toNat g.1).length (u8s (bs ++ leB (n - mn).toNat g.1))]⟩) (fun g => wid (mx - mn).toNat - g.1) (0, n - mn, bv) ⟨Nat.zero_le _, hbv, by simp⟩ ⟨rfl, rfl, rfl, rfl, trivial⟩ (by simp only [leB, List.append_nil]; exact Ent.take (by repeat' first | exact Takes.nil _ | exact TakeP.here _ | apply TakeP.there | apply Takes.cons)) ?_
    rintro ⟨j, x, ov⟩ ⟨hj, hov, hx⟩
    dsimp only
    refine Cod.seq ?_
    refine Cod.region ?_
    dsimp only at hj hov hx
    have hll : (bs ++ leB (n - mn).toNat j).length = bs.length + j := by rw [List.length_append, leB_len]
    have hsn : bs ++ leB (n - mn).toNat (j + 1) = (bs ++ leB (n - mn).toNat j) ++ [x.toUInt8] := by rw [leB_snoc, ← hx, ← byte_of, List.append_assoc]
    refine Ops.st (.lss rfl rfl) rfl rfl rfl ?_
    refine Ops.nil ?_
    refine Ext.seq ?_
    refine Cod.seq ?_
    refine Cod.condD rfl (fun h2 => ?_) (fun h2 => ?_)
    ·
      refine Cod.skip ?_
      refine Ext.seq ?_
      refine Cod.seq ?_
      refine Cod.block ?_
      refine Cod.seq ?_
      refine Cod.region ?_
      refine Ops.st (.move rfl) rfl rfl rfl ?_
      refine Ops.st (.move rfl) rfl rfl rfl ?_
      refine Ops.st (.nilCheck rfl) rfl rfl rfl ?_
      refine Ops.st (.fieldAddr rfl fa50_0) rfl rfl rfl ?_
      refine Ops.st (.loadP rfl (by repeat first | exact TakeP.here _ | apply TakeP.there) Try.isAgg26 rfl) rfl rfl rfl ?_
      refine Ops.st (.move rfl) rfl rfl rfl ?_
      refine Ops.st (.convW64_8 rfl Try.underlying35 Try.underlying5) rfl rfl rfl ?_
      refine Ops.ef (.lit1 ei26 rfl rfl rfl (by repeat' first | exact One.nil | apply One.cons rfl | (apply One.cons (Sl.one (by assumption))))) rfl rfl rfl ?_
      rintro lv _ ⟨hlv, rfl⟩
      refine Ops.ef (.append (v := ov) rfl rfl (by repeat first | exact TakeP.here _ | apply TakeP.there) (Rd.vec (v := lv) (by repeat first | exact TakeP.here _ | apply TakeP.there)) ei26 (by omega) (by simp only [maxLen]; omega)) rfl rfl rfl ?_
      rintro nv _ ⟨hnv, rfl⟩
      refine Ops.st (.nilCheck rfl) rfl rfl rfl ?_
      refine Ops.st (.fieldAddr rfl fa50_0) rfl rfl rfl ?_
      refine Ops.ef10 (.store (cs' := [nv, .bool am]) rfl rfl (by repeat first | exact TakeP.here _ | apply TakeP.there) Try.sizeOf26 rfl hnv.one rfl) rfl rfl ?_
      refine Ops.nil ?_
      refine Ext.seq ?_
      refine Cod.region ?_
      refine Ops.st (.move rfl) rfl rfl rfl ?_
      refine Ops.st (.shrW64 (n := 8) rfl rfl rfl (by first | omega | decide)) rfl rfl rfl ?_
      refine Ops.st (.assign rfl) rfl rfl rfl ?_
      refine Ops.nil ?_
      refine Ext.block ?_
      refine Ext.seq ?_
      refine Cod.region ?_
      refine Ops.st (.add rfl rfl (by first | exact IntWalk.i64_in _ (by omega) | rfl)) rfl rfl rfl ?_
      refine Ops.st (.move rfl) rfl rfl rfl ?_
      refine Ops.nil ?_
      exact Ext.back (j + 1, x >>> UInt64.ofNat 8, nv) (by dsimp only; omega) ⟨by dsimp only; omega, hnv, by dsimp only; rw [shr8, hx, Nat.div_div_eq_div_mul, Nat.pow_succ]⟩ ⟨rfl, rfl, rfl, rfl, trivial⟩ (by dsimp only; rw [hsn, vec_snoc]; exact Ent.take (by repeat' first | exact Takes.nil _ | exact TakeP.here _ | apply TakeP.there | apply Takes.cons))
    ·
      refine Cod.exit (Ext.seqX (Ext.stopX (Ext.hit ?_)))
      obtain rfl : j = wid (mx - mn).toNat := by omega
      exact Ext.ret0EN rfl (Ent.take (ps := [pt wb 50 [ov, .bool am], vec ov 5 1 (bs ++ leB (n - mn).toNat (wid (mx - mn).toNat)).length (u8s (bs ++ leB (n - mn).toNat (wid (mx - mn).toNat)))]) (by repeat' first | exact Takes.nil _ | exact TakeP.here _ | apply TakeP.there | apply Takes.cons)) (⟨ov, hov, by rw [numB, if_pos hin, hin, hsub]; simp⟩)
theorem refNumber_any {F : Fr} {n : UInt64} {m : Nat} (hm : m ≤ 8) : Spec Try.prog F 35 [W64 n, .int .i64 (m : Int)] [] (fun u hs' => Sl u ∧ hs' = [vec u 5 1 (leB n.toNat m).length (u8s (leB n.toNat m))]) := by
  refine Spec.body Try.func35 rfl Try.ntmps35 rfl ?_
  refine Cod.seq ?_
  refine Cod.region ?_
  refine Ops.st (.assign rfl) rfl rfl rfl ?_
  refine Ops.nil ?_
  refine Ext.seq ?_
  refine Cod.seq ?_
  refine Cod.region ?_
  refine Ops.st (.assign rfl) rfl rfl rfl ?_
  refine Ops.nil ?_
  refine Ext.seq ?_
  refine Cod.seq ?_
  refine Cod.seq ?_
  refine Cod.region ?_
  refine Ops.st (.assign rfl) rfl rfl rfl ?_
  refine Ops.nil ?_
  refine Ext.seq ?_
  refine Cod.block ?_
  refine Cod.loop (fun g : Nat × UInt64 × Value => ⟨g.1 ≤ m ∧ Sl g.2.2 ∧ g.2.1.toNat = n.toNat / 256 ^ g.1, [(0, W64 g.2.1), (1, .int .i64 m), (5, g.2.2), (6, .int .i64 g.1)], [vec g.2.2 5 1 (leB n.toNat g.1).length (u8s (leB n.toNat g.1))]⟩) (fun g => m - g.1) (0, n, .slice none 0 0) ⟨Nat.zero_le _, Sl.nil, by simp⟩ ⟨rfl, rfl, rfl, rfl, trivial⟩ (Ent.vecNil.trans (Ent.take (by repeat' first | exact Takes.nil _ | exact TakeP.here _ | apply TakeP.there | apply Takes.cons))) ?_
  rintro ⟨j, x, ov⟩ ⟨hj, hov, hx⟩
  dsimp only
  refine Cod.seq ?_
  refine Cod.seq ?_
  refine Cod.region ?_
  dsimp only at hj hov hx
  have hll := leB_len j n.toNat
  refine Ops.st (.move rfl) rfl rfl rfl ?_
  refine Ops.st (.move rfl) rfl rfl rfl ?_
  refine Ops.st (.lss rfl rfl) rfl rfl rfl ?_
  refine Ops.nil ?_
  refine Ext.seq ?_
  refine Cod.condD rfl (fun h2 => ?_) (fun h2 => ?_)
  ·
    refine Cod.skip ?_
    refine Ext.seq ?_
    refine Cod.seq ?_
    refine Cod.block ?_
    refine Cod.seq ?_
    refine Cod.region ?_
    refine Ops.st (.move rfl) rfl rfl rfl ?_
    refine Ops.st (.move rfl) rfl rfl rfl ?_
    refine Ops.st (.remW64 rfl (show _ = some (W64 256) from rfl) (by decide)) rfl rfl rfl ?_
    refine Ops.st (.convW64_8 rfl Try.underlying35 Try.underlying5) rfl rfl rfl ?_
    refine Ops.ef (.lit1 ei26 rfl rfl rfl (by repeat' first | exact One.nil | apply One.cons rfl | (apply One.cons (Sl.one (by assumption))))) rfl rfl rfl ?_
    rintro lv _ ⟨hlv, rfl⟩
    refine Ops.ef (.append (v := ov) rfl rfl (by repeat first | exact TakeP.here _ | apply TakeP.there) (Rd.vec (v := lv) (by repeat first | exact TakeP.here _ | apply TakeP.there)) ei26 (by omega) (by simp only [maxLen]; omega)) rfl rfl rfl ?_
    rintro nv _ ⟨hnv, rfl⟩
    refine Ops.st (.assign rfl) rfl rfl rfl ?_
    refine Ops.nil ?_
    refine Ext.seq ?_
    refine Cod.region ?_
    refine Ops.st (.move rfl) rfl rfl rfl ?_
    refine Ops.st (.quoW64 rfl (show _ = some (W64 256) from rfl) (by decide)) rfl rfl rfl ?_
    refine Ops.st (.assign rfl) rfl rfl rfl ?_
    refine Ops.nil ?_
    refine Ext.block ?_
    refine Ext.seq ?_
    refine Cod.region ?_
    refine Ops.st (.move rfl) rfl rfl rfl ?_
    refine Ops.st (.add rfl rfl (by first | exact IntWalk.i64_in _ (by omega) | rfl)) rfl rfl rfl ?_
    refine Ops.st (.assign rfl) rfl rfl rfl ?_
    refine Ops.nil ?_
    exact Ext.back (j + 1, x / 256, nv) (by dsimp only; omega) ⟨by dsimp only; omega, hnv, by dsimp only; rw [UInt64.toNat_div, show (256 : UInt64).toNat = 256 from rfl, hx, Nat.div_div_eq_div_mul, Nat.pow_succ]⟩ ⟨rfl, rfl, rfl, rfl, trivial⟩ (by dsimp only; rw [leB_snoc, ← hx, show UInt8.ofNat (x.toNat % 256) = (x % 256).toUInt8 by apply UInt8.toNat_inj.1; simp, vec_snoc]; exact Ent.take (by repeat' first | exact Takes.nil _ | exact TakeP.here _ | apply TakeP.there | apply Takes.cons))
  ·
    refine Cod.exit (Ext.seqX (Ext.stopX (Ext.hit ?_)))
    refine Ext.seq ?_
    refine Cod.seq ?_
    refine Cod.region ?_
    obtain rfl : j = m := by omega
    refine Ops.st (.move rfl) rfl rfl rfl ?_
    refine Ops.st (.assign rfl) rfl rfl rfl ?_
    refine Ops.nil ?_
    refine Ext.seq ?_
    exact Cod.ret (Ext.ret rfl rfl ⟨hov, rfl⟩)
end Go.Proofs.Ytacgngfjanlfnaa
