/- The block of the hash: the program's and the reference's. No condition. -/
import Derived.Test.YtdnbnfebapofnaaDoorSA
namespace Go.Proofs.YtdnbnfebapofnaaDoor
open Go

def sig0 (x : UInt32) : UInt32 := rot x 7 ^^^ rot x 18 ^^^ x >>> UInt32.ofNat 3
def sig1 (y : UInt32) : UInt32 := rot y 17 ^^^ rot y 19 ^^^ y >>> UInt32.ofNat 10
/-- The words of the rounds, of a block. -/
def sch (blk : List UInt8) : Nat → List UInt32
  | 0 => []
  | t + 1 => sch blk t ++ [if t < 16 then wordAt blk (4 * t) else sig1 ((sch blk t).getD (t - 2) 0) + (sch blk t).getD (t - 7) 0 + sig0 ((sch blk t).getD (t - 15) 0) + (sch blk t).getD (t - 16) 0]
theorem sch_len (blk : List UInt8) : ∀ t, (sch blk t).length = t
  | 0 => rfl
  | t + 1 => by simp [sch, sch_len blk t]
def schM (blk : List UInt8) (t : Nat) : List UInt32 := sch blk t ++ List.replicate (64 - t) 0
theorem schM_len (blk : List UInt8) {t : Nat} (h : t ≤ 64) : (schM blk t).length = 64 := by simp [schM, sch_len]; omega
theorem schM_get {blk : List UInt8} {t j : Nat} (h : j < t) : (w32s (schM blk t))[j]? = some (W32 ((sch blk t).getD j 0)) := by
  have hl : j < (sch blk t).length := by rw [sch_len]; exact h
  refine w32s_get' ?_
  rw [schM, List.getElem?_append_left hl]
  simp [List.getD, hl]
theorem schM_set {blk : List UInt8} {t : Nat} {x : UInt32} (h : t < 64) (hx : sch blk (t + 1) = sch blk t ++ [x]) : (w32s (schM blk t)).set t (W32 x) = w32s (schM blk (t + 1)) := by
  rw [w32s_set]
  congr 1
  rw [schM, schM, hx, List.set_append_right _ _ (by rw [sch_len]; exact Nat.le_refl _), sch_len, Nat.sub_self, show 64 - t = (64 - (t + 1)) + 1 by omega, List.replicate_succ, List.set_cons_zero]
  simp
theorem schM_full (blk : List UInt8) : schM blk 64 = sch blk 64 := by simp [schM]
theorem schM_zero (blk : List UInt8) : schM blk 0 = List.replicate 64 0 := by simp [schM, sch]

structure S8 where
  a : UInt32
  b : UInt32
  c : UInt32
  d : UInt32
  e : UInt32
  f : UInt32
  g : UInt32
  h : UInt32
abbrev S8.list (s : S8) : List UInt32 := [s.a, s.b, s.c, s.d, s.e, s.f, s.g, s.h]
abbrev S8.cells (s : S8) : List Value := [W32 s.a, W32 s.b, W32 s.c, W32 s.d, W32 s.e, W32 s.f, W32 s.g, W32 s.h]
theorem S8.cells_eq (s : S8) : s.cells = w32s s.list := rfl
def S8.of (st : List UInt32) : S8 := ⟨st.getD 0 0, st.getD 1 0, st.getD 2 0, st.getD 3 0, st.getD 4 0, st.getD 5 0, st.getD 6 0, st.getD 7 0⟩
theorem S8.of_list {st : List UInt32} (h : st.length = 8) : (S8.of st).list = st := by
  match st, h with
  | [a, b, c, d, e, f, g, h], _ => rfl
def step (k w : UInt32) (s : S8) : S8 :=
  ⟨(s.h + (rot s.e 6 ^^^ rot s.e 11 ^^^ rot s.e 25) + (s.e &&& s.f ^^^ ~~~s.e &&& s.g) + k + w) + ((rot s.a 2 ^^^ rot s.a 13 ^^^ rot s.a 22) + (s.a &&& s.b ^^^ s.a &&& s.c ^^^ s.b &&& s.c)), s.a, s.b, s.c,
    s.d + (s.h + (rot s.e 6 ^^^ rot s.e 11 ^^^ rot s.e 25) + (s.e &&& s.f ^^^ ~~~s.e &&& s.g) + k + w), s.e, s.f, s.g⟩
/-- The words of the table. -/
def KT : List UInt32 := [1116352408, 1899447441, 3049323471, 3921009573, 961987163, 1508970993, 2453635748, 2870763221, 3624381080, 310598401, 607225278, 1426881987, 1925078388, 2162078206, 2614888103, 3248222580, 3835390401, 4022224774, 264347078, 604807628, 770255983, 1249150122, 1555081692, 1996064986, 2554220882, 2821834349, 2952996808, 3210313671, 3336571891, 3584528711, 113926993, 338241895, 666307205, 773529912, 1294757372, 1396182291, 1695183700, 1986661051, 2177026350, 2456956037, 2730485921, 2820302411, 3259730800, 3345764771, 3516065817, 3600352804, 4094571909, 275423344, 430227734, 506948616, 659060556, 883997877, 958139571, 1322822218, 1537002063, 1747873779, 1955562222, 2024104815, 2227730452, 2361852424, 2428436474, 2756734187, 3204031479, 3329325298]
def rounds (ws : List UInt32) : Nat → S8 → S8
  | 0, s => s
  | n + 1, s => step (KT.getD n 0) (ws.getD n 0) (rounds ws n s)
/-- The state behind a block. -/
def hblock (st : List UInt32) (blk : List UInt8) : List UInt32 := List.zipWith (· + ·) st (rounds (sch blk 64) 64 (S8.of st)).list
theorem hblock_len {st : List UInt32} (blk : List UInt8) (h : st.length = 8) : (hblock st blk).length = 8 := by simp [hblock, h]
def adds (st ls : List UInt32) (i : Nat) : List UInt32 := (List.zipWith (· + ·) st ls).take i ++ st.drop i
theorem adds_len {st ls : List UInt32} {i : Nat} (h : st.length = 8) (h' : ls.length = 8) : (adds st ls i).length = 8 := by simp [adds, h, h']; omega
theorem adds_zero (st ls : List UInt32) : adds st ls 0 = st := by simp [adds]
theorem adds_all {st ls : List UInt32} (h : st.length = 8) (h' : ls.length = 8) : adds st ls 8 = List.zipWith (· + ·) st ls := by
  rw [adds, List.drop_of_length_le (by omega), List.append_nil, List.take_of_length_le (by simp [h, h'])]
theorem adds_get {st ls : List UInt32} {i : Nat} (h : st.length = 8) (h' : ls.length = 8) (hi : i < 8) : (adds st ls i).getD i 0 = st.getD i 0 := by
  have hl : ((List.zipWith (· + ·) st ls).take i).length = i := by simp [h, h']; omega
  simp only [adds, List.getD]
  rw [List.getElem?_append_right (by omega), hl, Nat.sub_self, List.getElem?_drop, Nat.add_zero]
theorem adds_set {st ls : List UInt32} {i : Nat} (h : st.length = 8) (h' : ls.length = 8) (hi : i < 8) : (adds st ls i).set i ((adds st ls i).getD i 0 + ls.getD i 0) = adds st ls (i + 1) := by
  rw [adds_get h h' hi]
  have hl : ((List.zipWith (· + ·) st ls).take i).length = i := by simp [h, h']; omega
  have hz : i < (List.zipWith (· + ·) st ls).length := by simp [h, h']; omega
  rw [adds, adds, List.set_append_right _ _ (by omega), hl, Nat.sub_self, List.drop_eq_getElem_cons (by omega : i < st.length), List.set_cons_zero, List.take_succ_eq_append_getElem hz]
  simp [List.getD, h, h', hi]

/-- The cells of a hash that goes on. -/
def hsC (st : List UInt32) (rest : List UInt8) (fill long : Int) : List Value := w32s st ++ (u8s rest ++ [.int .i64 fill, .int .i64 long])
section
variable {st : List UInt32} {rest : List UInt8} {fill long : Int}
theorem hs_len (h : st.length = 8) (h' : rest.length = 64) : (hsC st rest fill long).length = 74 := by simp [hsC, w32s_len, u8s_len, h, h']
theorem hs_st (h : st.length = 8) {j : Nat} (hj : j < 8) : (hsC st rest fill long)[j]? = some (W32 (st.getD j 0)) := by
  rw [hsC, List.getElem?_append_left (by rw [w32s_len]; omega)]
  exact w32s_get (by omega)
theorem hs_rest (h : st.length = 8) (h' : rest.length = 64) {j : Nat} (hj : j < 64) : (hsC st rest fill long)[8 + j]? = (u8s rest)[j]? := by
  rw [hsC, List.getElem?_append_right (by rw [w32s_len]; omega), w32s_len, h, Nat.add_sub_cancel_left, List.getElem?_append_left (by rw [u8s_len]; omega)]
theorem hs_fill (h : st.length = 8) (h' : rest.length = 64) : (hsC st rest fill long)[72]? = some (.int .i64 fill) := by
  rw [hsC, List.getElem?_append_right (by rw [w32s_len]; omega), w32s_len, h, List.getElem?_append_right (by rw [u8s_len]; omega), u8s_len, h']; rfl
theorem hs_long (h : st.length = 8) (h' : rest.length = 64) : (hsC st rest fill long)[73]? = some (.int .i64 long) := by
  rw [hsC, List.getElem?_append_right (by rw [w32s_len]; omega), w32s_len, h, List.getElem?_append_right (by rw [u8s_len]; omega), u8s_len, h']; rfl
theorem hs_set_st (h : st.length = 8) {j : Nat} {x : UInt32} (hj : j < 8) : (hsC st rest fill long).set j (W32 x) = hsC (st.set j x) rest fill long := by
  rw [hsC, hsC, List.set_append_left _ _ (by rw [w32s_len]; omega), w32s_set]
theorem hs_set_fill (h : st.length = 8) (h' : rest.length = 64) {f : Int} : (hsC st rest fill long).set 72 (.int .i64 f) = hsC st rest f long := by
  rw [hsC, hsC, List.set_append_right _ _ (by rw [w32s_len]; omega), w32s_len, h, List.set_append_right _ _ (by rw [u8s_len]; omega), u8s_len, h']; rfl
theorem hs_set_long (h : st.length = 8) (h' : rest.length = 64) {l : Int} : (hsC st rest fill long).set 73 (.int .i64 l) = hsC st rest fill l := by
  rw [hsC, hsC, List.set_append_right _ _ (by rw [w32s_len]; omega), w32s_len, h, List.set_append_right _ _ (by rw [u8s_len]; omega), u8s_len, h']; rfl
theorem hs_state (h : st.length = 8) : ((hsC st rest fill long).drop 0).take 8 = (S8.of st).cells := by
  rw [S8.cells_eq, S8.of_list h, List.drop_zero, hsC, List.take_append_of_le_length (by rw [w32s_len]; omega), List.take_of_length_le (by rw [w32s_len]; omega)]
theorem hs_one : One (hsC st rest fill long) := (w32s_one _).app ((u8s_one _).app (One.cons rfl (One.cons rfl One.nil)))
end
/-- The table, where the program reads it. -/
def Tab (F : Fr) : Prop := ∀ t, t < 64 → HCell F.hf ⟨0, t, none⟩ (W32 (KT.getD t 0))
theorem Tab.mono {F F' : Fr} (h : Tab F) (l : Hp.le F.hf F'.hf) : Tab F' := fun t ht => (h t ht).mono l
theorem zeros64 : List.replicate 64 (Value.int .u32 0) = w32s (List.replicate 64 0) := rfl

set_option maxRecDepth 4000 in
theorem shaTake_any {F : Fr} {b : Nat} {st : List UInt32} {rest : List UInt8} {fill long : Int} (hst : st.length = 8) (hre : rest.length = 64) (tab : Tab F) :
    Spec Tryd.prog F 26 [.pointer (some ⟨b, 0, none⟩), .slice (some ⟨b, 8, none⟩) 64 64] [pt b 53 (hsC st rest fill long)] (fun _ hs' => hs' = [pt b 53 (hsC (hblock st rest) rest fill long)]) := by
  refine Spec.body Tryd.func26 rfl Tryd.ntmps26 rfl ?_
  refine Cod.seq ?_
  refine Cod.region ?_
  refine Ops.ef (.alloc (cs := List.replicate 64 (Value.int .u32 0)) Tryd.zeroValue57 (by kernel_rfl)) rfl rfl rfl ?_
  rintro _ _ ⟨wb, rfl, rfl⟩
  refine Ops.nil ?_
  refine Ext.seq ?_
  refine Cod.seq ?_
  refine Cod.seq ?_
  refine Cod.region ?_
  rw [zeros64]
  refine Ops.st (.move rfl) rfl rfl rfl ?_
  refine Ops.nil ?_
  refine Ext.seq ?_
  refine Cod.block ?_
  refine Cod.loop (fun t : Nat => ⟨t ≤ 64, [(0, .pointer (some ⟨b, 0, none⟩)), (1, .slice (some ⟨b, 8, none⟩) 64 64), (4, .pointer (some ⟨wb, 0, none⟩)), (15, .int .i64 t)], [pt b 53 (hsC st rest fill long), pt wb 57 (w32s (schM rest t))]⟩) (fun t => 64 - t) 0 (Nat.zero_le _) ⟨rfl, rfl, rfl, rfl, trivial⟩ (by rw [schM_zero]; exact Ent.take (by repeat' first | exact Takes.nil _ | exact TakeP.here _ | apply TakeP.there | apply Takes.cons)) ?_
  rintro t ht
  dsimp only
  refine Cod.seq ?_
  refine Cod.region ?_
  refine Ops.st (.lss rfl rfl) rfl rfl rfl ?_
  refine Ops.nil ?_
  refine Ext.seq ?_
  refine Cod.seq ?_
  refine Cod.condD rfl (fun h1 => ?_) (fun h1 => ?_)
  ·
    refine Cod.skip ?_
    refine Ext.seq ?_
    refine Cod.seq ?_
    refine Cod.block ?_
    refine Cod.seq ?_
    refine Cod.region ?_
    refine Ops.st (.move rfl) rfl rfl rfl ?_
    refine Ops.st (.assign rfl) rfl rfl rfl ?_
    refine Ops.nil ?_
    refine Ext.seq ?_
    refine Cod.seq ?_
    refine Cod.seq ?_
    refine Cod.region ?_
    refine Ops.st (.move rfl) rfl rfl rfl ?_
    refine Ops.st (.lss rfl rfl) rfl rfl rfl ?_
    refine Ops.nil ?_
    refine Ext.seq ?_
    refine Cod.condD rfl (fun h2 => ?_) (fun h2 => ?_)
    ·
      refine Cod.seq ?_
      refine Cod.region ?_
      refine Ops.st (.move rfl) rfl rfl rfl ?_
      refine Ops.st (.move rfl) rfl rfl rfl ?_
      refine Ops.st (.move rfl) rfl rfl rfl ?_
      refine Ops.st (.mul rfl rfl (by first | exact IntWalk.i64_in _ (by omega) | rfl)) rfl rfl rfl ?_
      refine Ops.st (.slice_l (v := .slice (some ⟨b, 8, none⟩) 64 64) (lo := 4 * t) (n := 64) (xs := u8s rest) rfl rfl (Rd.row (b := b) (o := 8) (n := 64) (cs := hsC st rest fill long) (xs := u8s rest) (RowAt.full (by decide)) (by repeat first | exact TakeP.here _ | apply TakeP.there) (by rw [u8s_len]; omega) (u8s_one _) (fun i u hi => by have hl := (List.getElem?_eq_some_iff.1 hi).1; rw [u8s_len] at hl; rw [hs_rest hst hre (by omega)]; exact hi)) Tryd.runUnderlying22 Tryd.sizeOf5 rfl (by omega)) rfl rfl rfl ?_
      refine Ops.call ⟨Tryd.call30⟩ rfl rfl rfl (by repeat' first | exact Takes.nil _ | exact TakeP.here _ | apply TakeP.there | apply Takes.cons) (fun F' hF => shaWord_any (bs := rest.drop (4 * t)) (by have h := (Rd.cut8 (lo := 4 * t) (hi := rest.length) (bs := rest) (by rw [hre]; exact (Rd.row (b := b) (o := 8) (n := 64) (cs := hsC st rest fill long) (xs := u8s rest) (RowAt.full (by decide)) (by repeat first | exact TakeP.here _ | apply TakeP.there) (by rw [u8s_len]; omega) (u8s_one _) (fun i u hi => by have hl := (List.getElem?_eq_some_iff.1 hi).1; rw [u8s_len] at hl; rw [hs_rest hst hre (by omega)]; exact hi))) (by omega) (Nat.le_refl _) take_all8).wider hF; rw [hre] at h; exact h) (by simp; omega)) rfl rfl rfl ?_
      rintro _ _ ⟨rfl, rfl⟩
      refine Ops.st (.indexAddrA (j := t) (off := t) rfl rfl Tryd.runUnderlying57 Tryd.sizeOf46 rfl (by omega) (by omega)) rfl rfl rfl ?_
      refine Ops.ef10 (.store rfl rfl (by repeat first | exact TakeP.here _ | apply TakeP.there) Tryd.sizeOf46 (by simp [w32s_len, schM_len rest ht]; omega) rfl (schM_set (by omega) (by rw [sch, if_pos (by omega), wordAt_drop, Nat.add_zero]))) rfl rfl ?_
      refine Ops.nil ?_
      refine Ext.seq ?_
      refine Cod.exit (Ext.seqX (Ext.hit ?_))
      refine Ext.seq ?_
      refine Cod.region ?_
      refine Ops.st (.add rfl rfl (by first | exact IntWalk.i64_in _ (by omega) | rfl)) rfl rfl rfl ?_
      refine Ops.st (.move rfl) rfl rfl rfl ?_
      refine Ops.nil ?_
      exact Ext.back (t + 1) (by omega) (by omega) ⟨rfl, rfl, rfl, rfl, trivial⟩ (Ent.take (by repeat' first | exact Takes.nil _ | exact TakeP.here _ | apply TakeP.there | apply Takes.cons))
    ·
      refine Cod.skip ?_
      refine Ext.seq ?_
      refine Cod.seq ?_
      refine Cod.regionQ mixed (by kernel_rfl) ?_
      refine Qs.st (.move rfl) rfl rfl rfl ?_
      refine Qs.st (.sub rfl rfl (by first | exact IntWalk.i64_in _ (by omega) | rfl)) rfl rfl rfl ?_
      refine Qs.st (.indexAddrA (j := t - 15) (off := t - 15) rfl rfl Tryd.runUnderlying57 Tryd.sizeOf46 (by omega) (by omega) (by omega)) rfl rfl rfl ?_
      refine Qs.st (.loadP rfl (by repeat first | exact TakeP.here _ | apply TakeP.there) Tryd.isAgg46 (schM_get (by omega))) rfl rfl rfl ?_
      refine Qs.st (.move rfl) rfl rfl rfl ?_
      refine Qs.st (.sub rfl rfl (by first | exact IntWalk.i64_in _ (by omega) | rfl)) rfl rfl rfl ?_
      refine Qs.st (.indexAddrA (j := t - 2) (off := t - 2) rfl rfl Tryd.runUnderlying57 Tryd.sizeOf46 (by omega) (by omega) (by omega)) rfl rfl rfl ?_
      refine Qs.st (.loadP rfl (by repeat first | exact TakeP.here _ | apply TakeP.there) Tryd.isAgg46 (schM_get (by omega))) rfl rfl rfl ?_
      refine Qs.st (.assign rfl) rfl rfl rfl ?_
      refine Qs.st (.assign rfl) rfl rfl rfl ?_
      refine Qs.nil ?_
      refine Ext.seq ?_
      refine Cod.regionA mixed (by kernel_rfl) (listed := #[false, false, false, false, false, false, false, false, false, false, false, false, false, false, false, false, false, false, false, false, false, false, false, false, false, false, false, false, false, false]) ?_
      refine As.take 0 rfl (by kernel_rfl) (by kernel_rfl) (by kernel_rfl) rfl rfl rfl (fun F hs => .move rfl) (by kernel_rfl) (listed' := #[true, false, false, false, false, false, false, false, false, false, false, false, false, false, false, false, false, false, false, false, false, false, false, false, false, false, false, false, false, false]) ?_
      refine As.take 1 rfl (by kernel_rfl) (by kernel_rfl) (by kernel_rfl) rfl rfl rfl (fun F hs => .move rfl) (by kernel_rfl) (listed' := #[true, true, false, false, false, false, false, false, false, false, false, false, false, false, false, false, false, false, false, false, false, false, false, false, false, false, false, false, false, false]) ?_
      refine As.take 3 rfl (by kernel_rfl) (by kernel_rfl) (by kernel_rfl) rfl rfl rfl (fun F hs => .move rfl) (by kernel_rfl) (listed' := #[true, true, false, true, false, false, false, false, false, false, false, false, false, false, false, false, false, false, false, false, false, false, false, false, false, false, false, false, false, false]) ?_
      refine As.take 6 rfl (by kernel_rfl) (by kernel_rfl) (by kernel_rfl) rfl rfl rfl (fun F hs => .move rfl) (by kernel_rfl) (listed' := #[true, true, false, true, false, false, true, false, false, false, false, false, false, false, false, false, false, false, false, false, false, false, false, false, false, false, false, false, false, false]) ?_
      refine As.take 7 rfl (by kernel_rfl) (by kernel_rfl) (by kernel_rfl) rfl rfl rfl (fun F hs => .shrW32 (n := 10) rfl rfl rfl (by first | omega | decide)) (by kernel_rfl) (listed' := #[true, true, false, true, false, false, true, true, false, false, false, false, false, false, false, false, false, false, false, false, false, false, false, false, false, false, false, false, false, false]) ?_
      refine As.take 9 rfl (by kernel_rfl) (by kernel_rfl) (by kernel_rfl) rfl rfl rfl (fun F hs => .move rfl) (by kernel_rfl) (listed' := #[true, true, false, true, false, false, true, true, false, true, false, false, false, false, false, false, false, false, false, false, false, false, false, false, false, false, false, false, false, false]) ?_
      refine As.take 10 rfl (by kernel_rfl) (by kernel_rfl) (by kernel_rfl) rfl rfl rfl (fun F hs => .sub rfl rfl (by first | exact IntWalk.i64_in _ (by omega) | rfl)) (by kernel_rfl) (listed' := #[true, true, false, true, false, false, true, true, false, true, true, false, false, false, false, false, false, false, false, false, false, false, false, false, false, false, false, false, false, false]) ?_
      refine As.take 11 rfl (by kernel_rfl) (by kernel_rfl) (by kernel_rfl) rfl rfl rfl (fun F hs => .indexAddrA (j := t - 7) (off := t - 7) rfl rfl Tryd.runUnderlying57 Tryd.sizeOf46 (by omega) (by omega) (by omega)) (by kernel_rfl) (listed' := #[true, true, false, true, false, false, true, true, false, true, true, true, false, false, false, false, false, false, false, false, false, false, false, false, false, false, false, false, false, false]) ?_
      refine As.take 14 rfl (by kernel_rfl) (by kernel_rfl) (by kernel_rfl) rfl rfl rfl (fun F hs => .move rfl) (by kernel_rfl) (listed' := #[true, true, false, true, false, false, true, true, false, true, true, true, false, false, true, false, false, false, false, false, false, false, false, false, false, false, false, false, false, false]) ?_
      refine As.take 16 rfl (by kernel_rfl) (by kernel_rfl) (by kernel_rfl) rfl rfl rfl (fun F hs => .move rfl) (by kernel_rfl) (listed' := #[true, true, false, true, false, false, true, true, false, true, true, true, false, false, true, false, true, false, false, false, false, false, false, false, false, false, false, false, false, false]) ?_
      refine As.take 19 rfl (by kernel_rfl) (by kernel_rfl) (by kernel_rfl) rfl rfl rfl (fun F hs => .move rfl) (by kernel_rfl) (listed' := #[true, true, false, true, false, false, true, true, false, true, true, true, false, false, true, false, true, false, false, true, false, false, false, false, false, false, false, false, false, false]) ?_
      refine As.take 20 rfl (by kernel_rfl) (by kernel_rfl) (by kernel_rfl) rfl rfl rfl (fun F hs => .shrW32 (n := 3) rfl rfl rfl (by first | omega | decide)) (by kernel_rfl) (listed' := #[true, true, false, true, false, false, true, true, false, true, true, true, false, false, true, false, true, false, false, true, true, false, false, false, false, false, false, false, false, false]) ?_
      refine As.take 23 rfl (by kernel_rfl) (by kernel_rfl) (by kernel_rfl) rfl rfl rfl (fun F hs => .move rfl) (by kernel_rfl) (listed' := #[true, true, false, true, false, false, true, true, false, true, true, true, false, false, true, false, true, false, false, true, true, false, false, true, false, false, false, false, false, false]) ?_
      refine As.take 24 rfl (by kernel_rfl) (by kernel_rfl) (by kernel_rfl) rfl rfl rfl (fun F hs => .sub rfl rfl (by first | exact IntWalk.i64_in _ (by omega) | rfl)) (by kernel_rfl) (listed' := #[true, true, false, true, false, false, true, true, false, true, true, true, false, false, true, false, true, false, false, true, true, false, false, true, true, false, false, false, false, false]) ?_
      refine As.take 25 rfl (by kernel_rfl) (by kernel_rfl) (by kernel_rfl) rfl rfl rfl (fun F hs => .indexAddrA (j := t - 16) (off := t - 16) rfl rfl Tryd.runUnderlying57 Tryd.sizeOf46 (by omega) (by omega) (by omega)) (by kernel_rfl) (listed' := #[true, true, false, true, false, false, true, true, false, true, true, true, false, false, true, false, true, false, false, true, true, false, false, true, true, true, false, false, false, false]) ?_
      refine As.quiet [2, 4, 5, 8, 12, 13, 15, 17, 18, 21, 22, 26, 27, 28] 14 1 rfl ?_
      refine Aq.call (i := 2) ⟨rfl, by kernel_rfl, by kernel_rfl, by kernel_rfl, by kernel_rfl, by kernel_rfl⟩ ⟨Tryd.call33⟩ rfl rfl rfl (by repeat' first | exact Takes.nil _ | exact TakeP.here _ | apply TakeP.there | apply Takes.cons) (fun F' hF => Spec.quiet (shaRight_any (n := 17) (by decide) (by decide))) rfl rfl rfl (by kernel_rfl) (listed' := #[true, true, true, true, false, false, true, true, false, true, true, true, false, false, true, false, true, false, false, true, true, false, false, true, true, true, false, false, false, false]) ?_
      refine Aq.call (i := 4) ⟨rfl, by kernel_rfl, by kernel_rfl, by kernel_rfl, by kernel_rfl, by kernel_rfl⟩ ⟨Tryd.call33⟩ rfl rfl rfl (by repeat' first | exact Takes.nil _ | exact TakeP.here _ | apply TakeP.there | apply Takes.cons) (fun F' hF => Spec.quiet (shaRight_any (n := 19) (by decide) (by decide))) rfl rfl rfl (by kernel_rfl) (listed' := #[true, true, true, true, true, false, true, true, false, true, true, true, false, false, true, false, true, false, false, true, true, false, false, true, true, true, false, false, false, false]) ?_
      refine Aq.st (i := 5) ⟨rfl, by kernel_rfl, by kernel_rfl, by kernel_rfl, by kernel_rfl, by kernel_rfl⟩ (.xorW32 rfl rfl) rfl rfl rfl (by kernel_rfl) (listed' := #[true, true, true, true, true, true, true, true, false, true, true, true, false, false, true, false, true, false, false, true, true, false, false, true, true, true, false, false, false, false]) ?_
      refine Aq.st (i := 8) ⟨rfl, by kernel_rfl, by kernel_rfl, by kernel_rfl, by kernel_rfl, by kernel_rfl⟩ (.xorW32 rfl rfl) rfl rfl rfl (by kernel_rfl) (listed' := #[true, true, true, true, true, true, true, true, true, true, true, true, false, false, true, false, true, false, false, true, true, false, false, true, true, true, false, false, false, false]) ?_
      refine Aq.st (i := 12) ⟨rfl, by kernel_rfl, by kernel_rfl, by kernel_rfl, by kernel_rfl, by kernel_rfl⟩ (.loadP rfl (by repeat first | exact TakeP.here _ | apply TakeP.there) Tryd.isAgg46 (schM_get (by omega))) rfl rfl rfl (by kernel_rfl) (listed' := #[true, true, true, true, true, true, true, true, true, true, true, true, true, false, true, false, true, false, false, true, true, false, false, true, true, true, false, false, false, false]) ?_
      refine Aq.st (i := 13) ⟨rfl, by kernel_rfl, by kernel_rfl, by kernel_rfl, by kernel_rfl, by kernel_rfl⟩ (.addW32 rfl rfl) rfl rfl rfl (by kernel_rfl) (listed' := #[true, true, true, true, true, true, true, true, true, true, true, true, true, true, true, false, true, false, false, true, true, false, false, true, true, true, false, false, false, false]) ?_
      refine Aq.call (i := 15) ⟨rfl, by kernel_rfl, by kernel_rfl, by kernel_rfl, by kernel_rfl, by kernel_rfl⟩ ⟨Tryd.call33⟩ rfl rfl rfl (by repeat' first | exact Takes.nil _ | exact TakeP.here _ | apply TakeP.there | apply Takes.cons) (fun F' hF => Spec.quiet (shaRight_any (n := 7) (by decide) (by decide))) rfl rfl rfl (by kernel_rfl) (listed' := #[true, true, true, true, true, true, true, true, true, true, true, true, true, true, true, true, true, false, false, true, true, false, false, true, true, true, false, false, false, false]) ?_
      refine Aq.call (i := 17) ⟨rfl, by kernel_rfl, by kernel_rfl, by kernel_rfl, by kernel_rfl, by kernel_rfl⟩ ⟨Tryd.call33⟩ rfl rfl rfl (by repeat' first | exact Takes.nil _ | exact TakeP.here _ | apply TakeP.there | apply Takes.cons) (fun F' hF => Spec.quiet (shaRight_any (n := 18) (by decide) (by decide))) rfl rfl rfl (by kernel_rfl) (listed' := #[true, true, true, true, true, true, true, true, true, true, true, true, true, true, true, true, true, true, false, true, true, false, false, true, true, true, false, false, false, false]) ?_
      refine Aq.st (i := 18) ⟨rfl, by kernel_rfl, by kernel_rfl, by kernel_rfl, by kernel_rfl, by kernel_rfl⟩ (.xorW32 rfl rfl) rfl rfl rfl (by kernel_rfl) (listed' := #[true, true, true, true, true, true, true, true, true, true, true, true, true, true, true, true, true, true, true, true, true, false, false, true, true, true, false, false, false, false]) ?_
      refine Aq.st (i := 21) ⟨rfl, by kernel_rfl, by kernel_rfl, by kernel_rfl, by kernel_rfl, by kernel_rfl⟩ (.xorW32 rfl rfl) rfl rfl rfl (by kernel_rfl) (listed' := #[true, true, true, true, true, true, true, true, true, true, true, true, true, true, true, true, true, true, true, true, true, true, false, true, true, true, false, false, false, false]) ?_
      refine Aq.st (i := 22) ⟨rfl, by kernel_rfl, by kernel_rfl, by kernel_rfl, by kernel_rfl, by kernel_rfl⟩ (.addW32 rfl rfl) rfl rfl rfl (by kernel_rfl) (listed' := #[true, true, true, true, true, true, true, true, true, true, true, true, true, true, true, true, true, true, true, true, true, true, true, true, true, true, false, false, false, false]) ?_
      refine Aq.st (i := 26) ⟨rfl, by kernel_rfl, by kernel_rfl, by kernel_rfl, by kernel_rfl, by kernel_rfl⟩ (.loadP rfl (by repeat first | exact TakeP.here _ | apply TakeP.there) Tryd.isAgg46 (schM_get (by omega))) rfl rfl rfl (by kernel_rfl) (listed' := #[true, true, true, true, true, true, true, true, true, true, true, true, true, true, true, true, true, true, true, true, true, true, true, true, true, true, true, false, false, false]) ?_
      refine Aq.st (i := 27) ⟨rfl, by kernel_rfl, by kernel_rfl, by kernel_rfl, by kernel_rfl, by kernel_rfl⟩ (.addW32 rfl rfl) rfl rfl rfl (by kernel_rfl) (listed' := #[true, true, true, true, true, true, true, true, true, true, true, true, true, true, true, true, true, true, true, true, true, true, true, true, true, true, true, true, false, false]) ?_
      refine Aq.st (i := 28) ⟨rfl, by kernel_rfl, by kernel_rfl, by kernel_rfl, by kernel_rfl, by kernel_rfl⟩ (.indexAddrA (j := t) (off := t) rfl rfl Tryd.runUnderlying57 Tryd.sizeOf46 rfl (by omega) (by omega)) rfl rfl rfl (by kernel_rfl) (listed' := #[true, true, true, true, true, true, true, true, true, true, true, true, true, true, true, true, true, true, true, true, true, true, true, true, true, true, true, true, true, false]) ?_
      refine Aq.done (by kernel_rfl) ?_
      refine As.one (i := 29) (by kernel_rfl) ?_
      refine Ao.ef10 rfl (.store rfl rfl (by repeat first | exact TakeP.here _ | apply TakeP.there) Tryd.sizeOf46 (by simp [w32s_len, schM_len rest ht]; omega) rfl (schM_set (by omega) (by rw [sch, if_neg (by omega)]; rfl))) rfl rfl (by kernel_rfl) (listed' := #[true, true, true, true, true, true, true, true, true, true, true, true, true, true, true, true, true, true, true, true, true, true, true, true, true, true, true, true, true, true]) ?_
      refine As.done (by kernel_rfl) ?_
      refine Ext.block ?_
      refine Ext.seq ?_
      refine Cod.region ?_
      refine Ops.st (.add rfl rfl (by first | exact IntWalk.i64_in _ (by omega) | rfl)) rfl rfl rfl ?_
      refine Ops.st (.move rfl) rfl rfl rfl ?_
      refine Ops.nil ?_
      exact Ext.back (t + 1) (by omega) (by omega) ⟨rfl, rfl, rfl, rfl, trivial⟩ (Ent.take (by repeat' first | exact Takes.nil _ | exact TakeP.here _ | apply TakeP.there | apply Takes.cons))
  ·
    refine Cod.exit (Ext.seqX (Ext.stopX (Ext.hit ?_)))
    refine Ext.seq ?_
    refine Cod.seq ?_
    refine Cod.region ?_
    obtain rfl : t = 64 := by omega
    rw [schM_full]
    refine Ops.st (.move rfl) rfl rfl rfl ?_
    refine Ops.st (.nilCheck rfl) rfl rfl rfl ?_
    refine Ops.st (.fieldAddr rfl fa53_0) rfl rfl rfl ?_
    refine Ops.st (.loadPA (ds := (S8.of st).cells) rfl (by repeat first | exact TakeP.here _ | apply TakeP.there) Tryd.isAgg47 Tryd.sizeOf47 (hs_state hst) rfl) rfl rfl rfl ?_
    refine Ops.ef (.alloc Tryd.zeroValue47 rfl) rfl rfl rfl ?_
    rintro _ _ ⟨sb, rfl, rfl⟩
    refine Ops.ef10 (.storeA (cs' := (S8.of st).cells) rfl rfl (by repeat first | exact TakeP.here _ | apply TakeP.there) Tryd.sizeOf47 rfl (by decide) (One.cons rfl (One.cons rfl (One.cons rfl (One.cons rfl (One.cons rfl (One.cons rfl (One.cons rfl (One.cons rfl One.nil)))))))) rfl) rfl rfl ?_
    refine Ops.nil ?_
    refine Ext.seq ?_
    refine Cod.seq ?_
    refine Cod.seq ?_
    refine Cod.region ?_
    refine Ops.st (.move rfl) rfl rfl rfl ?_
    refine Ops.nil ?_
    refine Ext.seq ?_
    refine Cod.block ?_
    refine Cod.loop (fun n : Nat => ⟨n ≤ 64, [(0, .pointer (some ⟨b, 0, none⟩)), (4, .pointer (some ⟨wb, 0, none⟩)), (8, .pointer (some ⟨sb, 0, none⟩)), (69, .int .i64 n)], [pt b 53 (hsC st rest fill long), pt wb 57 (w32s (sch rest 64)), pt sb 47 (rounds (sch rest 64) n (S8.of st)).cells]⟩) (fun n => 64 - n) 0 (Nat.zero_le _) ⟨rfl, rfl, rfl, rfl, trivial⟩ (Ent.take (by repeat' first | exact Takes.nil _ | exact TakeP.here _ | apply TakeP.there | apply Takes.cons)) ?_
    rintro n hn
    dsimp only
    refine Cod.seq ?_
    refine Cod.region ?_
    refine Ops.st (.lss rfl rfl) rfl rfl rfl ?_
    refine Ops.nil ?_
    refine Ext.seq ?_
    refine Cod.seq ?_
    refine Cod.condD rfl (fun h3 => ?_) (fun h3 => ?_)
    ·
      refine Cod.skip ?_
      refine Ext.seq ?_
      refine Cod.seq ?_
      refine Cod.block ?_
      refine Cod.seq ?_
      refine Cod.region ?_
      obtain ⟨s, hs⟩ : ∃ s, s = rounds (sch rest 64) n (S8.of st) := ⟨_, rfl⟩
      rw [← hs]
      refine Ops.st (.move rfl) rfl rfl rfl ?_
      refine Ops.st (.assign rfl) rfl rfl rfl ?_
      refine Ops.nil ?_
      refine Ext.seq ?_
      refine Cod.seq ?_
      refine Cod.regionQ mixed (by kernel_rfl) ?_
      refine Qs.st (.indexAddrA (j := 0) rfl rfl Tryd.runUnderlying47 Tryd.sizeOf46 rfl (by decide) rfl) rfl rfl rfl ?_
      refine Qs.st (.loadP rfl (by repeat first | exact TakeP.here _ | apply TakeP.there) Tryd.isAgg46 rfl) rfl rfl rfl ?_
      refine Qs.st (.indexAddrA (j := 4) rfl rfl Tryd.runUnderlying47 Tryd.sizeOf46 rfl (by decide) rfl) rfl rfl rfl ?_
      refine Qs.st (.loadP rfl (by repeat first | exact TakeP.here _ | apply TakeP.there) Tryd.isAgg46 rfl) rfl rfl rfl ?_
      refine Qs.st (.assign rfl) rfl rfl rfl ?_
      refine Qs.st (.assign rfl) rfl rfl rfl ?_
      refine Qs.nil ?_
      refine Ext.seq ?_
      refine Cod.seq ?_
      refine Cod.regionQ mixed (by kernel_rfl) ?_
      refine Qs.st (.indexAddrA (j := 7) rfl rfl Tryd.runUnderlying47 Tryd.sizeOf46 rfl (by decide) rfl) rfl rfl rfl ?_
      refine Qs.st (.loadP rfl (by repeat first | exact TakeP.here _ | apply TakeP.there) Tryd.isAgg46 rfl) rfl rfl rfl ?_
      refine Qs.st (.move rfl) rfl rfl rfl ?_
      refine Qs.call ⟨Tryd.call33⟩ rfl rfl rfl (by repeat' first | exact Takes.nil _ | exact TakeP.here _ | apply TakeP.there | apply Takes.cons) (fun F' hF => Spec.quiet (shaRight_any (n := 6) (by decide) (by decide))) rfl rfl rfl ?_
      refine Qs.st (.move rfl) rfl rfl rfl ?_
      refine Qs.call ⟨Tryd.call33⟩ rfl rfl rfl (by repeat' first | exact Takes.nil _ | exact TakeP.here _ | apply TakeP.there | apply Takes.cons) (fun F' hF => Spec.quiet (shaRight_any (n := 11) (by decide) (by decide))) rfl rfl rfl ?_
      refine Qs.st (.xorW32 rfl rfl) rfl rfl rfl ?_
      refine Qs.st (.move rfl) rfl rfl rfl ?_
      refine Qs.call ⟨Tryd.call33⟩ rfl rfl rfl (by repeat' first | exact Takes.nil _ | exact TakeP.here _ | apply TakeP.there | apply Takes.cons) (fun F' hF => Spec.quiet (shaRight_any (n := 25) (by decide) (by decide))) rfl rfl rfl ?_
      refine Qs.st (.xorW32 rfl rfl) rfl rfl rfl ?_
      refine Qs.st (.addW32 rfl rfl) rfl rfl rfl ?_
      refine Qs.st (.move rfl) rfl rfl rfl ?_
      refine Qs.st (.indexAddrA (j := 5) rfl rfl Tryd.runUnderlying47 Tryd.sizeOf46 rfl (by decide) rfl) rfl rfl rfl ?_
      refine Qs.st (.loadP rfl (by repeat first | exact TakeP.here _ | apply TakeP.there) Tryd.isAgg46 rfl) rfl rfl rfl ?_
      refine Qs.st (.andW32 rfl rfl) rfl rfl rfl ?_
      refine Qs.st (.move rfl) rfl rfl rfl ?_
      refine Qs.st (.notW32 rfl) rfl rfl rfl ?_
      refine Qs.st (.indexAddrA (j := 6) rfl rfl Tryd.runUnderlying47 Tryd.sizeOf46 rfl (by decide) rfl) rfl rfl rfl ?_
      refine Qs.st (.loadP rfl (by repeat first | exact TakeP.here _ | apply TakeP.there) Tryd.isAgg46 rfl) rfl rfl rfl ?_
      refine Qs.st (.andW32 rfl rfl) rfl rfl rfl ?_
      refine Qs.st (.xorW32 rfl rfl) rfl rfl rfl ?_
      refine Qs.st (.addW32 rfl rfl) rfl rfl rfl ?_
      refine Qs.st (.move rfl) rfl rfl rfl ?_
      refine Qs.st (.indexAddrA (b := 0) (o := 0) (j := n) (off := n) rfl rfl Tryd.runUnderlying57 Tryd.sizeOf46 rfl (by omega) (by omega)) rfl rfl rfl ?_
      refine Qs.st (.load rfl Tryd.isAgg46 (CellAt.ro (tab n (by omega)))) rfl rfl rfl ?_
      refine Qs.st (.addW32 rfl rfl) rfl rfl rfl ?_
      refine Qs.st (.move rfl) rfl rfl rfl ?_
      refine Qs.st (.indexAddrA (j := n) (off := n) rfl rfl Tryd.runUnderlying57 Tryd.sizeOf46 rfl (by omega) (by omega)) rfl rfl rfl ?_
      refine Qs.st (.loadP rfl (by repeat first | exact TakeP.here _ | apply TakeP.there) Tryd.isAgg46 (w32s_get (by rw [sch_len]; omega))) rfl rfl rfl ?_
      refine Qs.st (.addW32 rfl rfl) rfl rfl rfl ?_
      refine Qs.st (.assign rfl) rfl rfl rfl ?_
      refine Qs.nil ?_
      refine Ext.seq ?_
      refine Cod.seq ?_
      refine Cod.regionQ mixed (by kernel_rfl) ?_
      refine Qs.st (.move rfl) rfl rfl rfl ?_
      refine Qs.call ⟨Tryd.call33⟩ rfl rfl rfl (by repeat' first | exact Takes.nil _ | exact TakeP.here _ | apply TakeP.there | apply Takes.cons) (fun F' hF => Spec.quiet (shaRight_any (n := 2) (by decide) (by decide))) rfl rfl rfl ?_
      refine Qs.st (.move rfl) rfl rfl rfl ?_
      refine Qs.call ⟨Tryd.call33⟩ rfl rfl rfl (by repeat' first | exact Takes.nil _ | exact TakeP.here _ | apply TakeP.there | apply Takes.cons) (fun F' hF => Spec.quiet (shaRight_any (n := 13) (by decide) (by decide))) rfl rfl rfl ?_
      refine Qs.st (.xorW32 rfl rfl) rfl rfl rfl ?_
      refine Qs.st (.move rfl) rfl rfl rfl ?_
      refine Qs.call ⟨Tryd.call33⟩ rfl rfl rfl (by repeat' first | exact Takes.nil _ | exact TakeP.here _ | apply TakeP.there | apply Takes.cons) (fun F' hF => Spec.quiet (shaRight_any (n := 22) (by decide) (by decide))) rfl rfl rfl ?_
      refine Qs.st (.xorW32 rfl rfl) rfl rfl rfl ?_
      refine Qs.st (.move rfl) rfl rfl rfl ?_
      refine Qs.st (.indexAddrA (j := 1) rfl rfl Tryd.runUnderlying47 Tryd.sizeOf46 rfl (by decide) rfl) rfl rfl rfl ?_
      refine Qs.st (.loadP rfl (by repeat first | exact TakeP.here _ | apply TakeP.there) Tryd.isAgg46 rfl) rfl rfl rfl ?_
      refine Qs.st (.andW32 rfl rfl) rfl rfl rfl ?_
      refine Qs.st (.move rfl) rfl rfl rfl ?_
      refine Qs.st (.indexAddrA (j := 2) rfl rfl Tryd.runUnderlying47 Tryd.sizeOf46 rfl (by decide) rfl) rfl rfl rfl ?_
      refine Qs.st (.loadP rfl (by repeat first | exact TakeP.here _ | apply TakeP.there) Tryd.isAgg46 rfl) rfl rfl rfl ?_
      refine Qs.st (.andW32 rfl rfl) rfl rfl rfl ?_
      refine Qs.st (.xorW32 rfl rfl) rfl rfl rfl ?_
      refine Qs.st (.indexAddrA (j := 1) rfl rfl Tryd.runUnderlying47 Tryd.sizeOf46 rfl (by decide) rfl) rfl rfl rfl ?_
      refine Qs.st (.loadP rfl (by repeat first | exact TakeP.here _ | apply TakeP.there) Tryd.isAgg46 rfl) rfl rfl rfl ?_
      refine Qs.st (.indexAddrA (j := 2) rfl rfl Tryd.runUnderlying47 Tryd.sizeOf46 rfl (by decide) rfl) rfl rfl rfl ?_
      refine Qs.st (.loadP rfl (by repeat first | exact TakeP.here _ | apply TakeP.there) Tryd.isAgg46 rfl) rfl rfl rfl ?_
      refine Qs.st (.andW32 rfl rfl) rfl rfl rfl ?_
      refine Qs.st (.xorW32 rfl rfl) rfl rfl rfl ?_
      refine Qs.st (.addW32 rfl rfl) rfl rfl rfl ?_
      refine Qs.st (.assign rfl) rfl rfl rfl ?_
      refine Qs.nil ?_
      refine Ext.seq ?_
      refine Cod.seq ?_
      refine Cod.regionT 2 mixed (by kernel_rfl) ?_
      refine Ss.st (.sliceArr_l (lo := 1) rfl rfl Tryd.runUnderlying47 Tryd.sizeOf46 rfl (by decide)) rfl rfl rfl ?_
      refine Ss.st (.sliceArr_h (hi := 7) rfl rfl Tryd.runUnderlying47 Tryd.sizeOf46 rfl (by decide)) rfl rfl rfl ?_
      refine Ss.nil ?_
      refine Ops.ef1 (.copyR (b := sb) (o := 0 + 1 * 1) (dn := 8 - 1) (m := 7 - 0) (ys := [W32 s.a, W32 s.b, W32 s.c, W32 s.d, W32 s.e, W32 s.f, W32 s.g]) (cs' := [W32 s.a, W32 s.a, W32 s.b, W32 s.c, W32 s.d, W32 s.e, W32 s.f, W32 s.g]) rfl ((RowAt.full (by decide)).cut (by decide) (by decide)) rfl (by repeat first | exact TakeP.here _ | apply TakeP.there) (Rd.row (b := sb) (o := 0 + 0 * 1) ((RowAt.full (by decide)).cut (by decide) (by decide)) (by repeat first | exact TakeP.here _ | apply TakeP.there) rfl (One.cons rfl (One.cons rfl (One.cons rfl (One.cons rfl (One.cons rfl (One.cons rfl (One.cons rfl One.nil))))))) (by intro i u hi; match i, hi with | 0, hi => exact hi | 1, hi => exact hi | 2, hi => exact hi | 3, hi => exact hi | 4, hi => exact hi | 5, hi => exact hi | 6, hi => exact hi | n + 7, hi => cases hi)) Tryd.runUnderlying61 Tryd.sizeOf46 rfl (by show (_ : Nat) ≤ 8; decide) rfl) rfl rfl rfl ?_
      refine Ops.nil ?_
      refine Ext.seq ?_
      refine Cod.seq ?_
      refine Cod.region ?_
      refine Ops.st (.indexAddrA (j := 4) rfl rfl Tryd.runUnderlying47 Tryd.sizeOf46 rfl (by decide) rfl) rfl rfl rfl ?_
      refine Ops.st (.loadP rfl (by repeat first | exact TakeP.here _ | apply TakeP.there) Tryd.isAgg46 rfl) rfl rfl rfl ?_
      refine Ops.st (.move rfl) rfl rfl rfl ?_
      refine Ops.st (.addW32 rfl rfl) rfl rfl rfl ?_
      refine Ops.st (.indexAddrA (j := 4) rfl rfl Tryd.runUnderlying47 Tryd.sizeOf46 rfl (by decide) rfl) rfl rfl rfl ?_
      refine Ops.ef10 (.store rfl rfl (by repeat first | exact TakeP.here _ | apply TakeP.there) Tryd.sizeOf46 rfl rfl (by simp only [Nat.zero_add, List.set_cons_zero, List.set_cons_succ]; rfl)) rfl rfl ?_
      refine Ops.nil ?_
      refine Ext.seq ?_
      refine Cod.region ?_
      refine Ops.st (.move rfl) rfl rfl rfl ?_
      refine Ops.st (.move rfl) rfl rfl rfl ?_
      refine Ops.st (.addW32 rfl rfl) rfl rfl rfl ?_
      refine Ops.st (.indexAddrA (j := 0) rfl rfl Tryd.runUnderlying47 Tryd.sizeOf46 rfl (by decide) rfl) rfl rfl rfl ?_
      refine Ops.ef10 (.store rfl rfl (by repeat first | exact TakeP.here _ | apply TakeP.there) Tryd.sizeOf46 rfl rfl (by simp only [Nat.zero_add, List.set_cons_zero, List.set_cons_succ]; rfl)) rfl rfl ?_
      refine Ops.nil ?_
      refine Ext.block ?_
      refine Ext.seq ?_
      refine Cod.region ?_
      refine Ops.st (.add rfl rfl (by first | exact IntWalk.i64_in _ (by omega) | rfl)) rfl rfl rfl ?_
      refine Ops.st (.move rfl) rfl rfl rfl ?_
      refine Ops.nil ?_
      exact Ext.back (n + 1) (by omega) (by omega) ⟨rfl, rfl, rfl, rfl, trivial⟩ (by rw [show rounds (sch rest 64) (n + 1) (S8.of st) = step (KT.getD n 0) ((sch rest 64).getD n 0) s from by rw [hs]; rfl]; exact Ent.take (by repeat' first | exact Takes.nil _ | exact TakeP.here _ | apply TakeP.there | apply Takes.cons))
    ·
      refine Cod.exit (Ext.seqX (Ext.stopX (Ext.hit ?_)))
      refine Ext.seq ?_
      refine Cod.seq ?_
      refine Cod.region ?_
      obtain rfl : n = 64 := by omega
      obtain ⟨s, hs⟩ : ∃ s, s = rounds (sch rest 64) 64 (S8.of st) := ⟨_, rfl⟩
      rw [← hs, S8.cells_eq]
      refine Ops.st (.move rfl) rfl rfl rfl ?_
      refine Ops.nil ?_
      refine Ext.seq ?_
      refine Cod.block ?_
      refine Cod.loop (fun i : Nat => ⟨i ≤ 8, [(0, .pointer (some ⟨b, 0, none⟩)), (8, .pointer (some ⟨sb, 0, none⟩)), (143, .int .i64 i)], [pt b 53 (hsC (adds st s.list i) rest fill long), pt sb 47 (w32s s.list)]⟩) (fun i => 8 - i) 0 (Nat.zero_le _) ⟨rfl, rfl, rfl, trivial⟩ (by rw [adds_zero]; exact Ent.take (by repeat' first | exact Takes.nil _ | exact TakeP.here _ | apply TakeP.there | apply Takes.cons)) ?_
      rintro i hi
      dsimp only
      refine Cod.seq ?_
      refine Cod.region ?_
      refine Ops.st (.lss rfl rfl) rfl rfl rfl ?_
      refine Ops.nil ?_
      refine Ext.seq ?_
      refine Cod.seq ?_
      refine Cod.condD rfl (fun h4 => ?_) (fun h4 => ?_)
      ·
        refine Cod.skip ?_
        refine Ext.seq ?_
        refine Cod.seq ?_
        refine Cod.block ?_
        refine Cod.seq ?_
        refine Cod.region ?_
        have hal : (adds st s.list i).length = 8 := adds_len hst rfl
        refine Ops.st (.move rfl) rfl rfl rfl ?_
        refine Ops.st (.assign rfl) rfl rfl rfl ?_
        refine Ops.nil ?_
        refine Ext.seq ?_
        refine Cod.regionT 13 mixed (by kernel_rfl) ?_
        refine Ss.st (.move rfl) rfl rfl rfl ?_
        refine Ss.st (.move rfl) rfl rfl rfl ?_
        refine Ss.st (.nilCheck rfl) rfl rfl rfl ?_
        refine Ss.st (.fieldAddr rfl fa53_0) rfl rfl rfl ?_
        refine Ss.st (.indexAddrA (j := i) (off := i) rfl rfl Tryd.runUnderlying47 Tryd.sizeOf46 rfl (by omega) (by omega)) rfl rfl rfl ?_
        refine Ss.st (.loadP rfl (by repeat first | exact TakeP.here _ | apply TakeP.there) Tryd.isAgg46 (hs_st hal (by omega))) rfl rfl rfl ?_
        refine Ss.st (.move rfl) rfl rfl rfl ?_
        refine Ss.st (.indexAddrA (j := i) (off := i) rfl rfl Tryd.runUnderlying47 Tryd.sizeOf46 rfl (by omega) (by omega)) rfl rfl rfl ?_
        refine Ss.st (.loadP rfl (by repeat first | exact TakeP.here _ | apply TakeP.there) Tryd.isAgg46 (w32s_get (by show i < 8; omega))) rfl rfl rfl ?_
        refine Ss.st (.addW32 rfl rfl) rfl rfl rfl ?_
        refine Ss.st (.nilCheck rfl) rfl rfl rfl ?_
        refine Ss.st (.fieldAddr rfl fa53_0) rfl rfl rfl ?_
        refine Ss.st (.indexAddrA (j := i) (off := i) rfl rfl Tryd.runUnderlying47 Tryd.sizeOf46 rfl (by omega) (by omega)) rfl rfl rfl ?_
        refine Ss.nil ?_
        refine Ops.ef10 (.store rfl rfl (by repeat first | exact TakeP.here _ | apply TakeP.there) Tryd.sizeOf46 (by rw [hs_len hal hre]; exact Nat.ble_eq_true_of_le (by omega)) rfl (by rw [hs_set_st hal (by omega), adds_set hst rfl (by omega)])) rfl rfl ?_
        refine Ops.nil ?_
        refine Ext.block ?_
        refine Ext.seq ?_
        refine Cod.region ?_
        refine Ops.st (.add rfl rfl (by first | exact IntWalk.i64_in _ (by omega) | rfl)) rfl rfl rfl ?_
        refine Ops.st (.move rfl) rfl rfl rfl ?_
        refine Ops.nil ?_
        exact Ext.back (i + 1) (by omega) (by omega) ⟨rfl, rfl, rfl, trivial⟩ (Ent.take (by repeat' first | exact Takes.nil _ | exact TakeP.here _ | apply TakeP.there | apply Takes.cons))
      ·
        refine Cod.exit (Ext.seqX (Ext.stopX (Ext.hit ?_)))
        obtain rfl : i = 8 := by omega
        rw [adds_all hst rfl, hs]
        exact Ext.ret0EN rfl (Ent.take (by repeat' first | exact Takes.nil _ | exact TakeP.here _ | apply TakeP.there | apply Takes.cons)) (rfl)
end Go.Proofs.YtdnbnfebapofnaaDoor
