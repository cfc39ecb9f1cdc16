/- A region that draws its order inside a round of a range over a function: where its operations only read, and its callees leave alone what was there, it is walked once, in the order of the text. -/
import Derived.Lib.QuietBelowIn
import Derived.Sort.BigQuietIn
import Derived.Test.YtpbapoanjkekmaaGreatZN
namespace Go.Proofs.YtpbapoanjkekmaaGreat
open Go.RowKit Go.Sort

/-- no operation defers -/
def NoDefer (ops : Array Oper) : Prop := ∀ (i : Nat) (o : Oper), ops[i]? = some o → ∀ c, o.op ≠ .defer c
section
variable {F : Fence} {n : Nat} {P : Program} {C : World → Prop} {ops : Array Oper} {md : Region.Mode}
theorem oper_of_quiet {o : Oper} {a : Act} {K : Act → Prop} {K' : Act → World → Prop} {Q' : Exit → Act → World → Prop} {w : World} (hnd : ∀ c, o.op ≠ .defer c) (hw : C w) (h : ∀ a w', C w' → K a → K' a w')
    (ha : o.askedIn F P a C) (hh : o.quietIn F n P a C K) : o.wpIn F n P a w K' Q' := by
  obtain ⟨v, h1, h2⟩ := hh
  have h3 := h1 w hw
  unfold Oper.wpIn
  refine ⟨ha w hw, ?_⟩
  rw [Oper.semAt_eq _ _ _ hnd]
  unfold Oper.quietAtIn at h3
  revert h3
  cases (execOp a.eval o).run P w with
  | halt x w' => intro h3; simp only [Oper.quietUponIn] at h3
  | ok x w' =>
    intro h3
    cases x <;> simp only [Oper.quietUponIn] at h3 <;> simp only [Oper.uponIn]
    case value u => obtain ⟨rfl, rfl⟩ := h3; exact h _ _ hw h2
    case skip => obtain ⟨rfl, e2⟩ := h3; rw [← e2]; exact h _ _ hw h2
    case enter f args => obtain ⟨rfl, hd, hc⟩ := h3; exact ⟨hd, hc.mono fun e w'' ⟨he, hw''⟩ => by subst he; exact h _ _ hw'' h2⟩
theorem any_of_quiet (hnd : NoDefer ops) {Q : Act → Prop} {Q' : Exit → Act → World → Prop} (hQ : ∀ a w, C w → Q a → Q' .normal a w) (fuel : Nat) : ∀ (listed : Array Bool) (a : Act) (w : World), C w → wpAnyQIn F n P md ops C Q fuel listed a → wpAnyIn F n P md ops Q' fuel listed a w := by
  induction fuel with
  | zero => exact fun _ _ _ hw h => ⟨h.1, hQ _ _ hw h.2⟩
  | succ fuel ih =>
    intro listed a w hw h
    refine ⟨fun h0 => hQ _ _ hw (h.1 h0), fun i hi => ?_⟩
    have hi' := h.2 i hi
    unfold qOpIn at hi'
    unfold wpOpIn
    split
    · rename_i ho; simp only [ho] at hi'; exact ih _ _ _ hw hi'
    · rename_i o ho
      simp only [ho] at hi'
      obtain ⟨ha, hh⟩ := hi'
      split
      · rename_i hwt; simp only [hwt, if_true] at hh; exact oper_of_quiet (hnd i o ho) hw (fun a' w' hw' hk => ih _ _ _ hw' hk) ha hh
      · rename_i hwt; simp only [hwt] at hh; exact ⟨ha w hw, ih _ _ _ hw hh⟩
theorem region_quiet_r {id : Nat} {Q : Exit → Act → World → Prop} {a : Act} {w : World} {l : List Oper} (hnd : NoDefer l.toArray) (hm : P.follows .mixedOrders = true) (hB : Region.lexB .any l.toArray = true)
    (h : wpQuietIn F n P l.toArray (fun w' => ∃ p : Regrown, w' = grow (redrawn w p.d) p.os) (fun a' => ∀ w', (∃ p : Regrown, w' = grow (redrawn w p.d) p.os) → Q .normal a' w') l a) : (Code.region id l.toArray true).wpIn F n P Q a w := by
  simp only [Region.lexB, Bool.and_eq_true] at hB
  refine wpIn_region_any hm (any_of_quiet (C := fun w' => ∃ p : Regrown, w' = grow (redrawn w p.d) p.os) (Q := fun a' => ∀ w', (∃ p : Regrown, w' = grow (redrawn w p.d) p.os) → Q .normal a' w') hnd (fun _ w' hw' h => h w' hw') _ _ _ _ ⟨⟨w.drawn + 1, #[]⟩, by rw [grow_empty]; rfl⟩ ?_)
  have := wpAnyQIn_lex (F := F) (n := n) (C := fun w' => ∃ p : Regrown, w' = grow (redrawn w p.d) p.os) (md := .any) hB.1 l 0 (Array.replicate l.toArray.size false) a (by simp) (by simpa using hB.2) h
  simpa using this
end
theorem noDefer_of {l : List Oper} (h : l.all (fun o => match o.op with | .defer _ => false | _ => true) = true) : NoDefer l.toArray := fun i o ho c hc => by
  have hm := List.all_eq_true.1 h o (by have := Array.mem_of_getElem? ho; simpa using this)
  rw [hc] at hm
  cases hm
end Go.Proofs.YtpbapoanjkekmaaGreat
