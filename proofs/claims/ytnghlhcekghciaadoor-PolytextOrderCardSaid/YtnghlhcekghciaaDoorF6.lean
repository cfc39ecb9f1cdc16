/- A byte among the arguments; PolytextOrder at such a byte. -/
import Derived.Test.YtnghlhcekghciaaDoorXM
import Derived.Test.YtnghlhcekghciaaDoorF4
namespace Go.Proofs.YtnghlhcekghciaaDoor
open Go.RowKit
theorem wf_u8 {x : Int} (h : (Lit.int .u8 x).wf = true) : 0 ≤ x ∧ x ≤ 255 := by
  simp [Lit.wf, IntKind.min, IntKind.max, IntKind.signed, IntKind.bits] at h
  omega
theorem Order_wf (a0 : Option Addr) (cap0 : Nat) (ps0 : List PT) (x : Int) (W : World) (in0 : PolyIn W W.heap.size a0 ps0) (wf0 : ∀ p ∈ ps0, WfM p.m) (hx : (Lit.int .u8 x).wf = true) (htab : TabT W) :
    Calls Tryd.prog 4 #[.slice a0 ps0.length cap0, .int .u8 x] W fun e w' => e = .returned (.bool true) ∧ Below W.heap.size W w' := by
  have h := wf_u8 hx
  have e : ((x.toNat : Nat) : Int) = x := by omega
  have hh := Order_any a0 cap0 ps0 x.toNat W in0 wf0 (by omega) htab
  rw [e] at hh
  exact hh
end Go.Proofs.YtnghlhcekghciaaDoor
