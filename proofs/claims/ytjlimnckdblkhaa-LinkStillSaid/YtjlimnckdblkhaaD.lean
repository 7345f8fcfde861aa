/- Packets, read. No condition. -/
import Derived.Test.YtjlimnckdblkhaaC
import Derived.Test.YtjlimnckdblkhaaLF
namespace Go.Proofs.Ytjlimnckdblkhaa
open Go Go.ChangeShapes Go.WideShapes Go.ChangeAt Go.RowKit

section
variable {H : Type} {enc : TypeId × Value → H} {w : World} {base : Nat} {spare : Nat → Bool} {held : Bool}
def PacketQ (w : World) (cs : List Value) : Prop := ∃ k fr to seq ack bv, ∃ bs : List UInt8, cs = packC k fr to seq ack bv ∧ SlR (hp w) bv 1 bs.length (u8s bs)
theorem cells3 : Try.prog.cellsOf 3 = 1 := by kernel_rfl
theorem cells22 : Try.prog.cellsOf 22 = 1 := by kernel_rfl
theorem cells24 : Try.prog.cellsOf 24 = 6 := by kernel_rfl
theorem packetAt : OpenAt enc Try.prog w base spare held 24 (PacketQ w) := by
  refine OpenAt.mono (OpenAt.struct Try.underlying24) ?_
  rintro cs ⟨hl, hf⟩
  rw [cells24] at hl
  match cs, hl with
  | [a, b, c, d, e, f], _ =>
    obtain ⟨k, hk, _⟩ := OpenAt.field hf 0 (OpenAt.int Try.underlying3) cells3 rfl rfl rfl
    obtain ⟨fr, hfr, _⟩ := OpenAt.field hf 1 (OpenAt.int Try.underlying3) cells3 rfl rfl rfl
    obtain ⟨to, hto, _⟩ := OpenAt.field hf 2 (OpenAt.int Try.underlying3) cells3 rfl rfl rfl
    obtain ⟨seq, hseq, _⟩ := OpenAt.field hf 3 (OpenAt.int Try.underlying3) cells3 rfl rfl rfl
    obtain ⟨ack, hack, _⟩ := OpenAt.field hf 4 (OpenAt.int Try.underlying3) cells3 rfl rfl rfl
    obtain ⟨bv, bs, hb, hs⟩ := OpenAt.field hf 5 (OpenAt.bytes Try.underlying22 Try.underlying5 (by kernel_rfl)) cells22 rfl rfl rfl
    cases hk; cases hfr; cases hto; cases hseq; cases hack; cases hb
    exact ⟨k, fr, to, seq, ack, _, bs, rfl, hs⟩
theorem open_packet {r : Reach} {b0 : Nat} {v : Value} {d : DataW H} {p : List MemPlace} (hv : Value.okWide Try.prog w r b0 24 v) (h : DataW.Trod enc Try.prog w base spare held 24 v d p) :
    ∃ k fr to seq ack bv, ∃ bs : List UInt8, v = .agg (packC k fr to seq ack bv).toArray ∧ SlR (hp w) bv 1 bs.length (u8s bs) := by
  obtain ⟨cs, rfl, _⟩ := okWide_struct Try.underlying24 hv
  obtain ⟨fuel, hf⟩ := h
  obtain ⟨k, fr, to, seq, ack, bv, bs, hc, hs⟩ := packetAt fuel _ _ hf
  refine ⟨k, fr, to, seq, ack, bv, bs, ?_, hs⟩
  congr 1
  exact Array.ext' hc
end
end Go.Proofs.Ytjlimnckdblkhaa
