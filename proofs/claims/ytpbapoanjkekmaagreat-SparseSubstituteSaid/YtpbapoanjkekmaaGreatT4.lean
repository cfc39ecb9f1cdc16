/- A range over sparse.Terms whose body may read the coefficient that is yielded: the caller's law, with a premise on what is yielded. -/
import Derived.Test.YtpbapoanjkekmaaGreatZK
namespace Go.Proofs.YtpbapoanjkekmaaGreat
open Go.RowKit Go.Shelf

/-- an iterator that tells, at each yield, a fact of what it yields -/
def SeqTells {α : Type} (F : Fence) (n : Nat) (P : Program) (gf : Nat) (lb : Array Value) (encs : α → Array Value) (Kp : World → World → Prop) (Pr : List α → α → World → Prop) (S Sp : List α → Prop) (w : World) : Prop :=
  ∀ (l : Nat) (J Jx : List α → World → Prop) (W : World), Below w.heap.size w W → AbidesFrom W.heap.size J →
    (∀ pre x W1, J pre W1 → Pr pre x W1 → YieldAt F (n - 1) P l (encs x) W1 fun e W' => (e = .returned (.bool true) ∧ J (pre ++ [x]) W' ∧ Kp W1 W') ∨ (e = .returned (.bool false) ∧ Jx (pre ++ [x]) W')) →
    J [] W → CallsIn F n P gf (#[.func (.yield l) #[] #[]] ++ lb) W fun e W' => (∃ v, e = .returned v) ∧ ((∃ xs, S xs ∧ J xs W') ∨ (∃ pre, Sp pre ∧ Jx pre W'))

section
variable {P : Program} {F : Fence} {n : Nat} {α : Type} {g : Operand} {ps : Array Tmp} {assign body : Code} {Q : Exit → Act → World → Prop} {a : Act} {w : World}
/-- what is left of a round: the record is shut or ready again -/
def Behind (w : World) (Kp : World → World → Prop) (I : List α → World → Prop) (Ix : Code → List α → World → Prop) (xs : List α) (W : World) : Exit → Act → World → Prop
  | .normal, _, W' => KeepsFrom w.heap.size W W' ∧ Kp W W' ∧ I xs W'
  | .exit id, _, W' => KeepsFrom w.heap.size W W' ∧ Ix (.exit id) xs W'
  | _, _, _ => False

theorem wpIn_range_tells (hro : F.round = none) (h1 : 1 ≤ n) {gf : Nat} {lb : Array Value} (hg : a.eval g = .func (.func gf) #[] lb) (hFg : F.fn gf) (eg : ∀ args w, (callFunc gf args).run P w = .ok (.enter gf args) w)
    {encs : α → Array Value} {Kp : World → World → Prop} {Pr : List α → α → World → Prop} {S Sp : List α → Prop} (hseq : SeqTells F (n - 1) P gf lb encs Kp Pr S Sp w)
    (hKt : ∀ {A B C : World}, Kp A B → Kp B C → Kp A C) (hKb : ∀ (W : World) (l : Nat) (o o' : Obj), W.heap[l]? = some o → o.isCells = false → Kp W (W.putObj l o')) (hps : ∀ x, (encs x).size = ps.size)
    (I : List α → World → Prop) (Ix : Code → List α → World → Prop) (hI : OwnFrom w.heap.size I) (hIx : ∀ c, OwnFrom w.heap.size (Ix c)) (h0 : I [] w)
    (Ax : List α → α → Act → World → Prop) (hAx : ∀ pre x a', OwnFrom w.heap.size (fun (_ : Unit) W => Ax pre x a' W))
    (hassign : ∀ (l : Nat) (pre : List α) (x : α) (W : World) (K : Act → World → Prop), I pre W → Pr pre x W → (∀ a' W', KeepsFrom w.heap.size W W' → Kp W W' → I pre W' → Ax pre x a' W' → K a' W') →
      assign.wpIn (F.inRound l) (n - 1 - 1) P (Exit.then K (fun _ _ _ => False)) { tmps := (ps.zip (encs x)).foldl (fun t (p, v) => t.setIfInBounds p v) a.tmps, defers := [] } W)
    (hbody : ∀ (l : Nat) (pre : List α) (x : α) (a' : Act) (W : World), w.heap.size ≤ l → I pre W → Ax pre x a' W → body.wpIn (F.inRound l) (n - 1 - 1) P (Behind w Kp I Ix (pre ++ [x]) W) a' W)
    (hdone : ∀ (D : Nat) (xs : List α) (W : World), w.heap.size ≤ D → S xs → I xs W → W.heap[D]? = some (.deferred (some [])) → Q .normal { a with defers := { target := .collected D, args := #[] } :: a.defers } W)
    (hstop : ∀ (D : Nat) (c : Code) (pre : List α) (W : World), w.heap.size ≤ D → Sp pre → Ix c pre W → W.heap[D]? = some (.deferred (some [])) → c.wpIn F n P Q { a with defers := { target := .collected D, args := #[] } :: a.defers } W) :
    (Code.rangeFunc g ps assign body).wpIn F n P Q a w := by
  refine wpIn_rangeFunc fun fn hfn => ?_
  rw [hro]
  let rc : LoopState → Option Code → Loop := fun st pe => { state := st, pending := pe, fn, tmps := a.tmps, params := ps, assign, body, defers := w.heap.size }
  let W0 : World := (w.alloc (.deferred (some []))).alloc (.loop (rc .ready none))
  have hL0 : W0.heap[w.heap.size + 1]? = some (.loop (rc .ready none)) := by
    have := World.alloc_heap_new (w.alloc (.deferred (some []))) (.loop (rc .ready none))
    rwa [World.size_alloc] at this
  have hD0 : W0.heap[w.heap.size]? = some (.deferred (some [])) := (Below.heap_alloc _ _ _ (by simp)).trans (World.alloc_heap_new w _)
  have hs0 : w.heap.size ≤ W0.heap.size := by show w.heap.size ≤ ((w.alloc _).alloc _).heap.size; simp; omega
  have hb0 : Below w.heap.size w W0 := ((Below.refl _ w).alloc (Nat.le_refl _) _).alloc (by simp) _
  refine ⟨w.heap.size + 1, [{ target := .collected w.heap.size, args := #[] }], W0, { target := .fn (.func gf) lb, args := #[.func (.yield (w.heap.size + 1)) #[] #[]] }, W0, gf, #[.func (.yield (w.heap.size + 1)) #[] #[]] ++ lb, W0,
    run_enterLoop_outer _ _ _ _ _, ?_, ?_, ?_, fun _ => h1, ?_⟩
  · simp only [resolve, hg]
    simp [go_sem]
  · intro f' hf'
    simp [Target.leads] at hf'
    subst hf'
    exact hFg
  · simp [invoke, go_sem, eg]
  · have far : ∀ {A : World} {row : Option Nat}, (∀ r, row = some r → W0.heap.size ≤ r ∧ ∃ o : Obj, A.heap[r]? = some o ∧ o.isWalk = true) → ∀ r, row = some r → w.heap.size ≤ r ∧ ∃ o : Obj, A.heap[r]? = some o ∧ o.isCells = false := fun hr r e => by
      obtain ⟨hB, o, ho, hw⟩ := hr r e
      exact ⟨Nat.le_trans hs0 hB, o, ho, Obj.not_cells_of_walk hw⟩
    refine (hseq (w.heap.size + 1) (fun pre W => I pre W ∧ W.heap[w.heap.size + 1]? = some (.loop (rc .ready none)) ∧ W.heap[w.heap.size]? = some (.deferred (some [])))
      (fun pre W => ∃ c, Ix c pre W ∧ W.heap[w.heap.size + 1]? = some (.loop (rc .done (some c))) ∧ W.heap[w.heap.size]? = some (.deferred (some []))) W0 hb0
      (fun s A B row hs hg' hr => ⟨hI s A B row hs.1 hg' (far hr), (grownBy_keeps hg' (fun r e => (hr r e).2) hs.2.1 rfl).trans hs.2.1, (grownBy_keeps hg' (fun r e => (hr r e).2) hs.2.2 rfl).trans hs.2.2⟩)
      ?_ ⟨hI.alloc _ (hI.alloc _ h0), hL0, hD0⟩).mono ?_
    · rintro pre x W ⟨hi, hl, hk⟩ hpr
      refine ⟨fn, _, assign, body, run_yield (P := P) (args := encs x) hl (hps x), roundIn_of_wpIn hfn (hassign _ pre x W _ hi hpr ?_)⟩
      intro a' Wa hkfa hkpa hia hax
      have la := hkfa.same _ _ (by omega) hl rfl
      have ka := hkfa.same _ _ (Nat.le_refl _) hk rfl
      have sa : w.heap.size + 1 < Wa.heap.size := (Array.getElem?_eq_some_iff.1 la).1
      refine ⟨_, run_beginRound la rfl, ?_⟩
      let Wb : World := Wa.putObj (w.heap.size + 1) (.loop { rc .ready none with state := .busy })
      have lb' : Wb.heap[w.heap.size + 1]? = some (.loop { rc .ready none with state := .busy }) := World.putObj_heap_same sa
      have kb : Wb.heap[w.heap.size]? = some (.deferred (some [])) := (World.putObj_heap_other (by omega)).trans ka
      have pb : Kp Wa Wb := hKb _ _ _ _ la rfl
      refine wpIn_mono (hbody _ pre x a' _ (by omega) (hI.putObj _ hia (by omega) la rfl) ((hAx pre x a').putObj (s := ()) _ hax (by omega) la rfl)) ?_
      rintro e a3 W3 hp
      cases e with
      | normal =>
        obtain ⟨hk3, hkp3, hi3⟩ := hp
        have l3 := hk3.same _ _ (by omega) lb' rfl
        exact ⟨_, _, run_endRound (P := P) none l3, .inl ⟨rfl, ⟨hI.putObj _ hi3 (by omega) l3 rfl, World.putObj_heap_same (Array.getElem?_eq_some_iff.1 l3).1, (World.putObj_heap_other (by omega)).trans (hk3.same _ _ (Nat.le_refl _) kb rfl)⟩,
          hKt hkpa (hKt (hKt pb hkp3) (hKb _ _ _ _ l3 rfl))⟩⟩
      | exit id =>
        obtain ⟨hk3, hi3⟩ := hp
        have l3 := hk3.same _ _ (by omega) lb' rfl
        exact ⟨_, _, run_endRound (P := P) (some (.exit id)) l3, .inr ⟨rfl, .exit id, (hIx _).putObj _ hi3 (by omega) l3 rfl, World.putObj_heap_same (Array.getElem?_eq_some_iff.1 l3).1, (World.putObj_heap_other (by omega)).trans (hk3.same _ _ (Nat.le_refl _) kb rfl)⟩⟩
      | ret => exact hp.elim
      | goto t => exact hp.elim
      | panic ch => exact hp.elim
      | outgrown => exact hp.elim
    · rintro e W2 ⟨⟨v, rfl⟩, (⟨xs, hS, hi, hl, hk⟩ | ⟨pre, hSp, c, hi, hl, hk⟩)⟩
      · exact ⟨none, _, run_endLoop (P := P) hl (by simp [rc]), hdone _ xs _ (Nat.le_refl _) hS (hI.putObj _ hi (by omega) hl rfl) ((World.putObj_heap_other (by omega)).trans hk)⟩
      · exact ⟨some c, _, run_endLoop (P := P) hl (by simp [rc]), hstop _ c pre _ (Nat.le_refl _) hSp ((hIx c).putObj _ hi (by omega) hl rfl) ((World.putObj_heap_other (by omega)).trans hk)⟩
end

/-- what Terms tells of the term that it yields -/
def Told (ps : List PT) (pre : List PT) (x : PT) (W : World) : Prop :=
  NatIn W W.heap.size x.A x.c x.ds ∧ Cn x ∧ x.ds.length ≤ 1000 ∧ pre.map PT.tm ++ [x.tm] = (ps.take (pre.length + 1)).map PT.tm ∧ pre.length < ps.length
theorem Terms1_tells (n : Nat) (hn : 1 ≤ n) (Bs base : Nat) (A : Option Addr) (c : Nat) (ps : List PT) (w : World) (hlen : ps.length ≤ 100000) (hBs : Blk w Bs 23 #[.slice A ps.length c]) (hin : POwn w base (.slice A ps.length c) ps) (hdl : ∀ p ∈ ps, p.ds.length ≤ 1000) :
    SeqTells Fence.wide n Tryz.prog 53 #[.pointer (some ⟨Bs, 0, none⟩)] yargs (KT Bs base (.slice A ps.length c) ps) (Told ps) (fun ys => ys.map PT.tm = ps.map PT.tm) (fun pre => ∃ k, pre.map PT.tm = (ps.take k).map PT.tm) w :=
  fun l J Jx W hW hJ hY h0 => Terms1_in n hn l Bs base A c ps W J Jx hJ hlen (fun pre x W1 hj h1 h2 h3 h4 h5 => hY pre x W1 hj ⟨h1, h2, h3, h4, h5⟩) (hBs.old hW) (hin.old hW) hdl h0
end Go.Proofs.YtpbapoanjkekmaaGreat
