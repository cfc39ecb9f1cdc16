/- PolytextJoins: the walk. -/
import Derived.Test.YtnghlhcekghciaaGreatDoorXD
import Derived.Test.YtnghlhcekghciaaGreatDoorXE
import Derived.Test.YtnghlhcekghciaaGreatDoorXF
namespace Go.Proofs.YtnghlhcekghciaaGreatDoor
open Go.RowKit

/-- a list of names as an argument -/
structure NArg (w : World) (B : Nat) (A : Option Addr) (c : Nat) (ls : List Bs) : Prop where
  rd : Reads w B 1 A ls.length (ls.map strV)
  cap : ls.length ≤ c
  len : ls.length ≤ maxLen
  el : ∀ l ∈ ls, l.length ≤ maxLen
theorem NArg.nin {w : World} {B c : Nat} {A : Option Addr} {ls : List Bs} (h : NArg w B A c ls) (hn : Nms ls) : NIn w B A c ls :=
  ⟨h.rd, h.cap, by have := hn.1; omega, fun l hl => by have := hn.2 l hl; omega⟩
theorem NArg.below {w w' : World} {B c : Nat} {A : Option Addr} {ls : List Bs} (h : NArg w B A c ls) (hb : Below B w w') : NArg w' B A c ls := { h with rd := h.rd.below hb }
theorem Tryz.str_at0 (l : Bs) (h : 0 < l.length) (W : World) : (Instr.index 9 (.string ⟨l.toArray⟩) (.int .i64 0)).run Tryz.prog W = .ok (.int .u8 ((l.getD 0 0).toNat : Int)) W := Tryz.str_at l 0 h W

theorem run_adds {P : Program} (x y : Bs) (h : x.length + y.length ≤ 9223372036854775807) (W : World) : (Op.stringOp .add ⟨x.toArray⟩ ⟨y.toArray⟩).run P W = .ok (.string ⟨(x ++ y).toArray⟩) W := by
  have := run_string_add_sum (P := P) W ⟨x.toArray⟩ ⟨y.toArray⟩ (by simpa [ByteArray.size] using h)
  rwa [ByteArray.mk_append_mk] at this
theorem Tryz.str_tail (b : UInt8) (r : Bs) (W : World) : (Instr.slice 9 (.string ⟨(b :: r).toArray⟩) (some (.int .i64 1)) none none).run Tryz.prog W = .ok (.string ⟨r.toArray⟩) W := by
  have e : (⟨(b :: r).toArray⟩ : ByteArray).extract 1 (r.length + 1) = ⟨r.toArray⟩ := by
    apply ByteArray.ext
    rw [ByteArray.data_extract]
    apply Array.ext'
    simp
  simp [Instr.slice, run_underlying Tryz.underlying9, go_sem]
  rw [if_pos (by omega), e]
theorem fmtGo_app (ns : List Bs) : ∀ (l l' : List Tm) (first : Bool), fmtGo ns first (l ++ l') = fmtGo ns first l ++ fmtGo ns (first && l.isEmpty) l'
  | [], l', first => by simp [fmtGo]
  | t :: l, l', first => by
    rw [List.cons_append, fmtGo, fmtGo_app ns l l' false, fmtGo]
    simp
theorem fmtGo_pre {ns : List Bs} {P : List Tm} {L : Nat} (h : (fmtS ns P).length ≤ L) (k : Nat) : (fmtGo ns true (P.take k)).length ≤ L := by
  cases P with
  | nil => simp [fmtGo]
  | cons t P =>
    rw [fmtS_go (by simp)] at h
    have e := fmtGo_app ns ((t :: P).take k) ((t :: P).drop k) true
    rw [List.take_append_drop] at e
    rw [e, List.length_append] at h
    omega

end Go.Proofs.YtnghlhcekghciaaGreatDoor
