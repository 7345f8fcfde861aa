/- The disk: Write. No condition. -/
import Derived.Test.YtjlgdbmeajdciaaC
namespace Go.Proofs.Ytjlgdbmeajdciaa
open Go

def DiskM.old (D : DiskM) (k : Int) : Option (List UInt8) := (D.dirty.find? fun e => decide (k = e.1)).map (·.2)
def padS (l : List UInt8) : List UInt8 := l ++ List.replicate (128 - l.length) 0
theorem padS_len {l : List UInt8} (h : l.length ≤ 128) : (padS l).length = 128 := by simp [padS]; omega
/-- The sector is written. -/
def DiskM.put (D : DiskM) (k : Int) (l : List UInt8) : DiskM :=
  { D with dirty := if (D.old k).isSome then D.dirty else D.dirty ++ [(k, D.now[k.toNat]?.getD [])], now := D.now.set k.toNat (padS l) }
def DiskM.write (D : DiskM) (k : Int) (l : List UInt8) : Int × DiskM :=
  if ¬ D.has k ∨ 128 < l.length then (1, D) else if D.meet.1 ≠ 0 then D.meet else (0, D.meet.2.put k l)

theorem meet_now (D : DiskM) : D.meet.2.now = D.now := by unfold DiskM.meet; split; rfl; split; rfl; split; rfl; split <;> rfl
theorem meet_dirty (D : DiskM) : D.meet.2.dirty = D.dirty := by unfold DiskM.meet; split; rfl; split; rfl; split; rfl; split <;> rfl

theorem mget_dirtyV (d : List (Int × List UInt8)) (k : Int) : mget (dirtyV d) k = ((d.find? fun e => decide (k = e.1)).map (·.2)).map fun s => .agg (u8s s).toArray := by
  unfold mget dirtyV
  induction d with
  | nil => rfl
  | cons e d ih =>
    simp only [List.map_cons, List.find?_cons]
    by_cases h : k = e.1
    · simp [h]
    · simp only [h, decide_false]
      exact ih
theorem mset_dirtyV {d : List (Int × List UInt8)} {k : Int} {s : List UInt8} (h : (d.find? fun e => decide (k = e.1)).isSome = false) : mset (dirtyV d) k (.agg (u8s s).toArray) = dirtyV (d ++ [(k, s)]) := by
  unfold dirtyV
  induction d with
  | nil => rfl
  | cons e d ih =>
    rw [List.find?_cons] at h
    by_cases hk : k = e.1
    · simp [hk] at h
    · simp only [hk, decide_false] at h
      simp only [List.map_cons, mset, hk, if_false, List.cons_append]
      rw [ih h]

theorem put_ok {D : DiskM} (ok : D.Ok) {n : Nat} (hn : n < D.now.length) {l : List UInt8} (hl : l.length ≤ 128) : (D.put n l).Ok := by
  refine ⟨?_, ?_, ?_⟩
  · intro s hs
    rcases List.mem_or_eq_of_mem_set hs with h | h
    · exact ok.now s h
    · rw [h]; exact padS_len hl
  · intro e he
    simp only [DiskM.put] at he
    split at he
    · exact ok.dirty e he
    · rcases List.mem_append.1 he with h | h
      · exact ok.dirty e h
      · simp only [List.mem_singleton] at h
        subst h
        simp only [Int.toNat_natCast, List.getElem?_eq_getElem hn, Option.getD_some]
        exact ok.now _ (List.getElem_mem _)
  · simpa [DiskM.put] using ok.size

/-- What the map hands back for a sector's number, as cells. -/
def zsec (D : DiskM) (n : Nat) : List Value := match (D.dirty.find? fun e => decide ((n : Int) = e.1)) with | some e => u8s e.2 | none => List.replicate 128 (.int .u8 0)
theorem zsec_eq (D : DiskM) (n : Nat) : some ((mget (dirtyV D.dirty) (n : Int)).getD (.agg (List.replicate 128 (.int .u8 0)).toArray)) = some (.agg (zsec D n).toArray) := by
  rw [mget_dirtyV]
  unfold zsec
  cases D.dirty.find? fun e => decide ((n : Int) = e.1) <;> rfl
theorem zsec_len {D : DiskM} (ok : D.Ok) (n : Nat) : (zsec D n).length = 128 := by
  unfold zsec
  cases h : D.dirty.find? fun e => decide ((n : Int) = e.1) with
  | none => simp
  | some e => rw [u8s_len]; exact ok.dirty e (List.mem_of_find?_eq_some h)
theorem zsec_one (D : DiskM) (n : Nat) : One (zsec D n) := by
  unfold zsec
  split
  · exact u8s_one _
  · exact One.rep rfl
theorem secCs_at {l : List (List UInt8)} (h : ∀ s ∈ l, s.length = 128) {k : Nat} (hk : k < l.length) {s : List UInt8} (hs : s = l[k]) : ((secCs l).drop (0 + k * 128)).take 128 = u8s s := by
  subst hs
  have h1 := h l[k] (List.getElem_mem _)
  apply List.ext_getElem?
  intro i
  rw [List.getElem?_take, List.getElem?_drop, Nat.zero_add]
  split
  · rename_i hi
    cases hu : (u8s l[k])[i]? with
    | none => rw [List.getElem?_eq_none_iff, u8s_len] at hu; omega
    | some u => exact secCs_get h hk hu
  · rename_i hi
    rw [List.getElem?_eq_none (by rw [u8s_len]; omega)]

theorem put_dirty_old {D : DiskM} {n : Nat} {l : List UInt8} (h : (D.dirty.find? fun e => decide ((n : Int) = e.1)).isSome = true) : (D.put n l).dirty = D.dirty := by
  simp only [DiskM.put, DiskM.old, Option.isSome_map, h, if_true]
theorem put_dirty_new {D : DiskM} {n : Nat} {l s : List UInt8} (hn : n < D.now.length) (hs : s = D.now[n]) (h : (D.dirty.find? fun e => decide ((n : Int) = e.1)).isSome = false) : (D.put n l).dirty = D.dirty ++ [((n : Int), s)] := by
  subst hs
  simp [DiskM.put, DiskM.old, h, hn]

theorem secCs_seg {l : List (List UInt8)} (h : ∀ s ∈ l, s.length = 128) {k : Nat} (hk : k < l.length) : ∃ A B, A.length = k * 128 ∧ ∀ t : List UInt8, t.length = 128 → secCs (l.set k t) = A ++ (u8s t ++ B) := by
  refine ⟨(secCs l).take (k * 128), (secCs l).drop (k * 128 + 128), ?_, fun t _ => ?_⟩
  · rw [List.length_take, secCs_len h]; omega
  · rw [← secCs_put h hk, List.append_assoc]
theorem secCs_copy {w : List (List UInt8)} (h : ∀ s ∈ w, s.length = 128) {k : Nat} (hk : k < w.length) {s l : List UInt8} (hs : s = w[k]) (hl : l.length ≤ 128) :
    (secCs w).take (0 + k * 128) ++ (u8s l).take (l.length * 1) ++ (secCs w).drop (0 + k * 128 + l.length * 1) = secCs (w.set k (l ++ s.drop l.length)) := by
  have h128 : s.length = 128 := by rw [hs]; exact h _ (List.getElem_mem _)
  obtain ⟨A, B, hA, hq⟩ := secCs_seg h hk
  have e1 : secCs w = A ++ (u8s s ++ B) := by
    have := hq s h128
    rw [hs, List.set_getElem_self] at this
    rw [hs]; exact this
  rw [hq _ (by simp; omega), e1, Nat.zero_add, Nat.mul_one, u8s_app]
  have e2 : (A ++ (u8s s ++ B)).take (k * 128) = A := by rw [← hA, List.take_left]
  have e3 : (A ++ (u8s s ++ B)).drop (k * 128 + l.length) = u8s (s.drop l.length) ++ B := by
    rw [← hA, List.drop_append, List.drop_of_length_le (by omega), List.nil_append, Nat.add_sub_cancel_left, List.drop_append_of_le_length (by rw [u8s_len]; omega), u8s_drop]
  rw [e2, e3, List.take_of_length_le (by rw [u8s_len]; exact Nat.le_refl _)]
  simp only [List.append_assoc]
theorem secCs_len2 {w : List (List UInt8)} (h : ∀ s ∈ w, s.length = 128) {k : Nat} {s l : List UInt8} (h128 : s.length = 128) (hl : l.length ≤ 128) : (secCs (w.set k (l ++ s.drop l.length))).length = w.length * 128 := by
  rw [secCs_len]
  · simp
  · intro t ht
    rcases List.mem_or_eq_of_mem_set ht with h1 | h1
    · exact h t h1
    · rw [h1]; simp; omega
theorem secCs_clear {w : List (List UInt8)} (h : ∀ s ∈ w, s.length = 128) {k : Nat} (hk : k < w.length) {s l : List UInt8} (h128 : s.length = 128) (hl : l.length ≤ 128) :
    (secCs (w.set k (l ++ s.drop l.length))).take (0 + k * 128 + l.length * 1) ++ List.replicate (128 - l.length) (.int .u8 0) ++ (secCs (w.set k (l ++ s.drop l.length))).drop (0 + k * 128 + l.length * 1 + (List.replicate (128 - l.length) (Value.int .u8 0)).length) = secCs (w.set k (padS l)) := by
  obtain ⟨A, B, hA, hq⟩ := secCs_seg h hk
  rw [hq _ (by simp; omega), hq _ (padS_len hl), Nat.zero_add, Nat.mul_one, List.length_replicate, padS, u8s_app, u8s_app]
  have e1 : (A ++ (u8s l ++ u8s (s.drop l.length) ++ B)).take (k * 128 + l.length) = A ++ u8s l := by
    rw [← hA, List.take_append, List.take_of_length_le (by omega), Nat.add_sub_cancel_left, List.append_assoc, List.take_append_of_le_length (by rw [u8s_len]; exact Nat.le_refl _), List.take_of_length_le (by rw [u8s_len]; exact Nat.le_refl _)]
  have e2 : (A ++ (u8s l ++ u8s (s.drop l.length) ++ B)).drop (k * 128 + l.length + (128 - l.length)) = B := by
    rw [show A ++ (u8s l ++ u8s (s.drop l.length) ++ B) = (A ++ (u8s l ++ u8s (s.drop l.length))) ++ B by simp, List.drop_append, List.drop_of_length_le (by simp [u8s_len]; omega), List.nil_append]
    rw [show k * 128 + l.length + (128 - l.length) - (A ++ (u8s l ++ u8s (s.drop l.length))).length = 0 by simp [u8s_len]; omega]
    rfl
  rw [e1, e2]
  have e3 : u8s (List.replicate (128 - l.length) 0) = List.replicate (128 - l.length) (.int .u8 0) := by simp [u8s]
  rw [e3]
  simp only [List.append_assoc]
theorem disk_put {b nb mr n : Nat} {pv : Value} {D : DiskM} {l : List UInt8} (h : Sl pv) (ok : D.Ok) (hn : n < D.now.length) (hl : l.length ≤ 128) :
    ∀ z, SL [pt b 60 [.slice (some ⟨nb, 0, none⟩) D.now.length D.now.length, .map (some mr), pv, .bool D.off], pt nb 62 (secCs (D.now.set n (padS l))), mp mr (Value.int .i64) (dirtyV (D.put n l).dirty), vec pv 5 1 D.plan.length (u8s D.plan)] z → disk b (D.put n l) z := fun z hz => by
  refine disk_mk (D := D.put n l) (nb := nb) (mr := mr) h (put_ok ok hn hl) z ?_
  have e : (D.put n l).now.length = D.now.length := by simp [DiskM.put]
  rw [e]
  exact hz

theorem write_any {F : Fr} {b : Nat} {k : Int} {D : DiskM} {v : Value} {l : List UInt8} (hr : SlR F.hf v 1 l.length (u8s l)) (_hl : l.length ≤ 70368744177664) :
    Spec Try.prog F 11 [.pointer (some ⟨b, 0, none⟩), .int .i64 k, v] [disk b D] (fun u hs' => u = .int .i64 (D.write k l).1 ∧ hs' = [disk b (D.write k l).2]) := by
  refine Spec.body Try.func11 rfl Try.ntmps11 rfl ?_
  refine Cod.seq ?_
  refine Cod.region ?_
  refine Ops.st (.assign rfl) rfl rfl rfl ?_
  refine Ops.nil ?_
  refine Ext.seq ?_
  refine Cod.seq ?_
  refine Cod.seq ?_
  refine Cod.region ?_
  refine Ops.st (.move rfl) rfl rfl rfl ?_
  refine Ops.st (.move rfl) rfl rfl rfl ?_
  refine Ops.call ⟨Try.call26⟩ rfl rfl rfl (by repeat' first | exact Takes.nil _ | exact TakeP.here _ | apply TakeP.there | apply Takes.cons) (fun F' hF => has_any) rfl rfl rfl ?_
  rintro _ _ ⟨rfl, rfl⟩
  refine Ops.st (.notB rfl) rfl rfl rfl ?_
  refine Ops.st (.move rfl) rfl rfl rfl ?_
  refine Ops.splitB (t := 15) rfl (fun h => ?_) (fun h => ?_)
  ·
    refine Ops.skipG rfl rfl rfl h rfl rfl ?_
    refine Ops.skipG rfl rfl rfl h rfl rfl ?_
    refine Ops.skipG rfl rfl rfl h rfl rfl ?_
    refine Ops.st (.pickT rfl h rfl) rfl rfl rfl ?_
    refine Ops.nil ?_
    refine Ext.seq ?_
    refine Cod.condT rfl rfl ?_
    refine Cod.seq ?_
    refine Cod.region ?_
    refine Ops.st (.assign rfl) rfl rfl rfl ?_
    refine Ops.nil ?_
    refine Ext.seq ?_
    exact Cod.ret (Ext.seqR (Ext.ret rfl rfl ⟨by simp [DiskM.write, DiskM.has] at h ⊢; rw [if_pos (by omega)], by simp [DiskM.write, DiskM.has] at h ⊢; rw [if_pos (by omega)]⟩))
  ·
    refine Ops.stG rfl rfl rfl h (.move rfl) rfl rfl ?_
    refine Ops.stG rfl rfl rfl h (.len rfl (Rd.ro hr) Try.runUnderlying22) rfl rfl ?_
    refine Ops.stG rfl rfl rfl h (.gtr rfl rfl) rfl rfl ?_
    refine Ops.st (.pickF rfl h rfl) rfl rfl rfl ?_
    refine Ops.nil ?_
    refine Ext.seq ?_
    refine Cod.condD rfl (fun h2 => ?_) (fun h2 => ?_)
    ·
      refine Cod.seq ?_
      refine Cod.region ?_
      refine Ops.st (.assign rfl) rfl rfl rfl ?_
      refine Ops.nil ?_
      refine Ext.seq ?_
      exact Cod.ret (Ext.seqR (Ext.ret rfl rfl ⟨by simp [DiskM.write, DiskM.has] at h ⊢; rw [if_pos (by omega)], by simp [DiskM.write, DiskM.has] at h ⊢; rw [if_pos (by omega)]⟩))
    ·
      refine Cod.skip ?_
      refine Ext.seq ?_
      refine Cod.seq ?_
      refine Cod.seq ?_
      refine Cod.region ?_
      refine Ops.st (.move rfl) rfl rfl rfl ?_
      refine Ops.call ⟨Try.call27⟩ rfl rfl rfl (by repeat' first | exact Takes.nil _ | exact TakeP.here _ | apply TakeP.there | apply Takes.cons) (fun F' hF => meet_any) rfl rfl rfl ?_
      rintro _ _ ⟨rfl, rfl⟩
      have hw : ¬ (¬ D.has k ∨ 128 < l.length) := by simp [DiskM.has] at h ⊢; omega
      refine Ops.st (.assign rfl) rfl rfl rfl ?_
      refine Ops.nil ?_
      refine Ext.seq ?_
      refine Cod.seq ?_
      refine Cod.region ?_
      refine Ops.st (.move rfl) rfl rfl rfl ?_
      refine Ops.st (.neq rfl rfl) rfl rfl rfl ?_
      refine Ops.nil ?_
      refine Ext.seq ?_
      refine Cod.condD rfl (fun h3 => ?_) (fun h3 => ?_)
      ·
        refine Cod.seq ?_
        refine Cod.region ?_
        refine Ops.st (.move rfl) rfl rfl rfl ?_
        refine Ops.st (.assign rfl) rfl rfl rfl ?_
        refine Ops.nil ?_
        refine Ext.seq ?_
        exact Cod.ret (Ext.seqR (Ext.ret rfl rfl ⟨by rw [DiskM.write, if_neg hw, if_pos h3], by rw [DiskM.write, if_neg hw, if_pos h3]; rfl⟩))
      ·
        refine Cod.skip ?_
        refine Ext.seq ?_
        refine Cod.seq ?_
        refine Cod.seq ?_
        refine Cod.region ?_
        have hw2 : D.write k l = (0, D.meet.2.put k l) := by rw [DiskM.write, if_neg hw, if_neg h3]
        rw [hw2]
        have hk : D.meet.2.has k := by simp only [DiskM.has, meet_now]; simp at h; exact h
        generalize D.meet.2 = D1 at hk ⊢
        have hl : l.length ≤ 128 := by omega
        clear hw hw2 h h2 h3 _hl
        obtain ⟨n, rfl⟩ : ∃ n : Nat, k = n := ⟨k.toNat, by have := hk.1; omega⟩
        have hn : n < D1.now.length := by have := hk.2; omega
        refine Ops.open_ (.here _) (disk_open b D1) ?_
        rintro ⟨nb, mr, pv⟩ ⟨hpv, ok⟩
        dsimp only [dI, List.cons_append, List.nil_append] at hpv ⊢
        obtain ⟨s, hsn⟩ : ∃ s, s = D1.now[n] := ⟨_, rfl⟩
        have hs : s.length = 128 := by rw [hsn]; exact ok.now _ (List.getElem_mem _)
        refine Ops.st (.move rfl) rfl rfl rfl ?_
        refine Ops.st (.nilCheck rfl) rfl rfl rfl ?_
        refine Ops.st (.fieldAddr rfl fa60_1) rfl rfl rfl ?_
        refine Ops.st (.loadP rfl (by repeat first | exact TakeP.here _ | apply TakeP.there) Try.isAgg58 rfl) rfl rfl rfl ?_
        refine Ops.st (.move rfl) rfl rfl rfl ?_
        refine Ops.st (.lookupOk rfl rfl (by repeat first | exact TakeP.here _ | apply TakeP.there) (KeyOk.int Try.underlying3) Try.underlying58 zv62) rfl rfl rfl ?_
        refine Ops.st (.move rfl) rfl rfl rfl ?_
        refine Ops.st (.extract rfl rfl) rfl rfl rfl ?_
        refine Ops.st (.extract rfl rfl) rfl rfl rfl ?_
        refine Ops.ef (.alloc zv62 rfl) rfl rfl rfl ?_
        rintro _ _ ⟨zb, rfl, rfl⟩
        refine Ops.ef10 (.storeA (vs := zsec D1 n) rfl (zsec_eq D1 n) (by repeat first | exact TakeP.here _ | apply TakeP.there) Try.sizeOf62 (zsec_len ok n) (by simp) (zsec_one D1 n) rfl) rfl rfl ?_
        refine Ops.st (.assign rfl) rfl rfl rfl ?_
        refine Ops.nil ?_
        refine Ext.seq ?_
        refine Cod.seq ?_
        refine Cod.region ?_
        refine Ops.st (.move rfl) rfl rfl rfl ?_
        refine Ops.st (.notB rfl) rfl rfl rfl ?_
        refine Ops.nil ?_
        refine Ext.seq ?_
        refine Cod.cutK (fun _ : Unit => ⟨True, [(0, .pointer (some ⟨b, 0, none⟩)), (1, .int .i64 n), (2, v)], [pt b 60 [.slice (some ⟨nb, 0, none⟩) D1.now.length D1.now.length, .map (some mr), pv, .bool D1.off], pt nb 62 (secCs D1.now), mp mr (Value.int .i64) (dirtyV (D1.put n l).dirty), vec pv 5 1 D1.plan.length (u8s D1.plan)]⟩) ?_ ?_
        ·
          refine Cod.cond rfl (fun h5 => ?_) (fun h5 => ?_)
          ·
            have h6 : (D1.dirty.find? fun e => decide ((n : Int) = e.1)).isSome = false := by simpa [mget_dirtyV] using h5
            refine Cod.regionT 12 mixed (by kernel_rfl) ?_
            refine Ss.st (.move rfl) rfl rfl rfl ?_
            refine Ss.st (.nilCheck rfl) rfl rfl rfl ?_
            refine Ss.st (.fieldAddr rfl fa60_1) rfl rfl rfl ?_
            refine Ss.st (.loadP rfl (by repeat first | exact TakeP.here _ | apply TakeP.there) Try.isAgg58 rfl) rfl rfl rfl ?_
            refine Ss.st (.move rfl) rfl rfl rfl ?_
            refine Ss.st (.move rfl) rfl rfl rfl ?_
            refine Ss.st (.nilCheck rfl) rfl rfl rfl ?_
            refine Ss.st (.fieldAddr rfl fa60_0) rfl rfl rfl ?_
            refine Ss.st (.loadP rfl (by repeat first | exact TakeP.here _ | apply TakeP.there) Try.isAgg57 rfl) rfl rfl rfl ?_
            refine Ss.st (.move rfl) rfl rfl rfl ?_
            refine Ss.st (.indexAddrP (j := n) rfl rfl Try.runUnderlying57 Try.sizeOf62 rfl hn rfl) rfl rfl rfl ?_
            refine Ss.st (.loadPA (b := nb) (o := 0 + n * 128) (cs := secCs D1.now) (ds := u8s s) rfl (by repeat first | exact TakeP.here _ | apply TakeP.there) Try.isAgg62 Try.sizeOf62 (secCs_at ok.now hn hsn) (by rw [u8s_len, hs])) rfl rfl rfl ?_
            refine Ss.nil ?_
            refine Ops.ef10 (.mapUpdate (r := mr) (κ := Int) (k := (n : Int)) rfl rfl rfl (by repeat first | exact TakeP.here _ | apply TakeP.there) (KeyOk.int Try.underlying3) Try.underlying58) rfl rfl ?_
            refine Ops.nil ?_
            exact Ext.at_ () trivial ⟨rfl, rfl, rfl, trivial⟩ (by rw [mset_dirtyV h6, put_dirty_new hn hsn h6]; exact Ent.take (by repeat' first | exact Takes.nil _ | exact TakeP.here _ | apply TakeP.there | apply Takes.cons))
          ·
            refine Cod.skip ?_
            exact Ext.at_ () trivial ⟨rfl, rfl, rfl, trivial⟩ (by rw [put_dirty_old (by simpa [mget_dirtyV] using h5)]; exact Ent.take (by repeat' first | exact Takes.nil _ | exact TakeP.here _ | apply TakeP.there | apply Takes.cons))
        ·
          rintro _ _
          dsimp only
          refine Cod.seq ?_
          refine Cod.region ?_
          refine Ops.st (.move rfl) rfl rfl rfl ?_
          refine Ops.st (.nilCheck rfl) rfl rfl rfl ?_
          refine Ops.st (.fieldAddr rfl fa60_0) rfl rfl rfl ?_
          refine Ops.st (.loadP rfl (by repeat first | exact TakeP.here _ | apply TakeP.there) Try.isAgg57 rfl) rfl rfl rfl ?_
          refine Ops.st (.move rfl) rfl rfl rfl ?_
          refine Ops.st (.indexAddrP (j := n) rfl rfl Try.runUnderlying57 Try.sizeOf62 rfl hn rfl) rfl rfl rfl ?_
          refine Ops.st (.sliceArr rfl Try.runUnderlying62 Try.sizeOf5) rfl rfl rfl ?_
          refine Ops.st (.move rfl) rfl rfl rfl ?_
          refine Ops.ef1 (.copyR (cn := l.length) (cs := secCs D1.now) rfl (RowAt.full (by decide)) rfl (by repeat first | exact TakeP.here _ | apply TakeP.there) (Rd.ro hr) Try.runUnderlying22 Try.sizeOf5 (by omega) (by rw [secCs_len ok.now]; omega) (secCs_copy ok.now hn hsn hl)) rfl rfl rfl ?_
          refine Ops.st (.assign rfl) rfl rfl rfl ?_
          refine Ops.nil ?_
          refine Ext.seq ?_
          refine Cod.seq ?_
          refine Cod.region ?_
          refine Ops.st (.move rfl) rfl rfl rfl ?_
          refine Ops.st (.nilCheck rfl) rfl rfl rfl ?_
          refine Ops.st (.fieldAddr rfl fa60_0) rfl rfl rfl ?_
          refine Ops.st (.loadP rfl (by repeat first | exact TakeP.here _ | apply TakeP.there) Try.isAgg57 rfl) rfl rfl rfl ?_
          refine Ops.st (.move rfl) rfl rfl rfl ?_
          refine Ops.st (.indexAddrP (j := n) rfl rfl Try.runUnderlying57 Try.sizeOf62 rfl hn rfl) rfl rfl rfl ?_
          refine Ops.st (.move rfl) rfl rfl rfl ?_
          refine Ops.st (.sliceArr_l (lo := l.length) rfl rfl Try.runUnderlying62 Try.sizeOf5 rfl hl) rfl rfl rfl ?_
          refine Ops.ef10 (.clearR (b := nb) rfl ((RowAt.full (by decide)).cut hl (Nat.le_refl _)) (by repeat first | exact TakeP.here _ | apply TakeP.there) ei22 (zeroCells_one _ _) (One.rep rfl) (by rw [List.length_replicate, secCs_len2 ok.now hs hl]; omega) (secCs_clear ok.now hn hs hl)) rfl rfl ?_
          refine Ops.nil ?_
          refine Ext.seq ?_
          refine Cod.seq ?_
          refine Cod.region ?_
          refine Ops.st (.assign rfl) rfl rfl rfl ?_
          refine Ops.nil ?_
          refine Ext.seq ?_
          exact Cod.ret (Ext.retE rfl rfl (Ent.fold (A := disk b (D1.put n l)) (by repeat' first | exact Takes.nil _ | exact TakeP.here _ | apply TakeP.there | apply Takes.cons) (disk_put hpv ok hn hl)) (⟨rfl, rfl⟩))
end Go.Proofs.Ytjlgdbmeajdciaa
