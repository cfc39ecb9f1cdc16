/- A region that draws its order inside a round of a range over a function: its orders as outside of a round. -/
import Derived.Deep.RegionHeld
import Derived.OrdersIn
import Derived.Test.YtpbapoanjkekmaaGreatV0
namespace Go.Proofs.YtpbapoanjkekmaaGreat
open Go.RowKit

/-- the normal way on alone -/
def OnlyN (Q : Exit → Act → World → Prop) : Exit → Act → World → Prop
  | .normal, a, w => Q .normal a w
  | _, _, _ => False
theorem onlyN_out {Q : Exit → Act → World → Prop} : ¬ LetsOut (OnlyN Q) := fun ⟨_, _, h⟩ => h
theorem rowsIn_of {l n : Nat} {P : Program} {row : String} {args : Array Value} {w : World} {R : Value → World → Prop} (h : Rows P row args w R) : RowsIn (Fence.wide.inRound l) n P row args w R :=
  fun c cs _ => let ⟨v, w', r, s⟩ := h c cs; ⟨v, w', r, stepsIn_wide.2 s⟩
section
variable {l n : Nat} {P : Program} {ops : Array Oper} {Q : Exit → Act → World → Prop} {md : Region.Mode}
theorem opIn_of {i : Nat} {K : Act → World → Prop} {a : Act} {w : World} (hnd : NoDefer ops) (h : wpOp P ops (OnlyN Q) i K a w) : wpOpIn (Fence.wide.inRound l) n P ops Q i K a w := by
  unfold wpOp at h
  unfold wpOpIn
  cases ho : ops[i]? with
  | none => simp only [ho] at h ⊢; exact h
  | some o =>
    simp only [ho] at h ⊢
    by_cases hw : Region.wanted o (yielded ops a.tmps) = true
    · simp only [hw, if_true] at h ⊢
      rcases h with h | ⟨_, h⟩
      · unfold Oper.wp at h
        unfold Oper.wpIn
        refine ⟨fun _ _ => trivial, ?_⟩
        rw [Oper.semAt_eq _ _ _ (hnd i o ho)]
        revert h
        cases (execOp a.eval o).run P w with
        | ok x w' =>
          cases x <;> simp only [Oper.upon, Oper.uponIn]
          case value u => exact fun h => h
          case skip => exact fun h => h
          case defer d => exact fun h => h
          case enter f args =>
            intro h
            refine ⟨fun hd => (by cases hd), callsIn_wide.2 (Calls.mono h fun e w'' he => ?_)⟩
            cases e with
            | returned u => exact he
            | panicked c => exact he.elim
            | outgrown => exact absurd he onlyN_out
          case row r args => exact fun h => ⟨fun hd => (by cases hd), rowsIn_of h⟩
          all_goals exact fun h => h.elim
        | halt x w' =>
          cases x <;> simp only [Oper.upon, Oper.uponIn]
          case panic v => exact fun h => h.elim
          all_goals exact fun h => h
      · exact absurd h onlyN_out
    · simp only [hw, Bool.false_eq_true, if_false] at h ⊢
      exact ⟨fun _ _ => trivial, h⟩
theorem anyIn_of (hnd : NoDefer ops) : ∀ (fuel : Nat) (listed : Array Bool) (a : Act) (w : World), wpAny P md ops (OnlyN Q) fuel listed a w → wpAnyIn (Fence.wide.inRound l) n P md ops Q fuel listed a w
  | 0, _, _, _, h => h
  | fuel + 1, _, _, _, h => ⟨h.1, fun i hi => opIn_of hnd (wpOp_mono (fun a' w' h' => anyIn_of hnd fuel _ a' w' h') (h.2 i hi))⟩
theorem region_held_round {id : Nat} {a : Act} {w : World} {S : World → Prop} (hnd : NoDefer ops) (hm : P.follows .mixedOrders = true) (hS : S w.drew)
    (h : S w.drew → wpAnyH P .any ops (OnlyN Q) S ops.size (Array.replicate ops.size false) a w.drew) : (Code.region id ops true).wpIn (Fence.wide.inRound l) n P Q a w :=
  wpIn_region_any hm (anyIn_of hnd _ _ _ _ (wpAny_of_held _ _ _ _ (h hS)))
end
end Go.Proofs.YtpbapoanjkekmaaGreat
