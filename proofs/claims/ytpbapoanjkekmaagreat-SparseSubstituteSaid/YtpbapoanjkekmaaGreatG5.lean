/- Words for a gather: one term more; append at a step of a region that draws its order. -/
import Derived.Test.YtpbapoanjkekmaaGreatZG
namespace Go.Proofs.YtpbapoanjkekmaaGreat
open Go.RowKit

theorem own_far {w : World} {base n size g o : Nat} {e : TypeId} {v : Value} {xs : List Value} (h : w.ownsRow base e size v n xs) (hne : v.ownBlock ≠ some g) (u : Value) : (w.setCell ⟨g, o, none⟩ u).ownsRow base e size v n xs := by
  obtain ⟨hl, h⟩ := h
  refine ⟨hl, ?_⟩
  rcases h with h | ⟨r, cap, cur, rfl, hb, hh, h1, h2, h3, h4⟩
  · exact .inl h
  · refine .inr ⟨r, cap, cur, rfl, hb, ?_, h1, h2, h3, h4⟩
    have : r ≠ g := fun e => hne (by simp [Value.ownBlock, e])
    exact (Below.heap_setCell w ⟨g, o, none⟩ u r this).trans hh
theorem own_slice6 {w : World} {base n size : Nat} {e : TypeId} {v : Value} {xs : List Value} (h : w.ownsRow base e size v n xs) : ∃ A cap, v = .slice A n cap := by
  rcases h.2 with ⟨rfl, rfl⟩ | ⟨g, cap, cur, rfl, _⟩
  · exact ⟨_, _, rfl⟩
  · exact ⟨_, _, rfl⟩
theorem own_old {w w' : World} {base n size : Nat} {e : TypeId} {v : Value} {xs : List Value} (h : w.ownsRow base e size v n xs) (hb : Below w.heap.size w w') : w'.ownsRow base e size v n xs :=
  h.kept ⟨hb.os, hb.tape, hb.output, hb.size, fun k hk _ => hb.block k hk⟩ (row := none) (by cases v.ownBlock <;> simp)
theorem IdxOk.snoc {ps : List PT} {f : Mo → Option Nat} (h : IdxOk ps f) (q : PT) : IdxOk (ps ++ [q]) (fun x => if x = q.m then some ps.length else f x) := by
  refine ⟨fun m i hi => ?_, fun m hm p hp => ?_⟩
  · simp only at hi
    by_cases e : m = q.m
    · rw [if_pos e] at hi
      injection hi with hi
      subst hi
      exact ⟨q, by simp, e.symm⟩
    · rw [if_neg e] at hi
      obtain ⟨p, hp, k⟩ := h.1 m i hi
      exact ⟨p, by rw [List.getElem?_append_left (List.getElem?_eq_some_iff.1 hp).1]; exact hp, k⟩
  · simp only at hm
    by_cases e : m = q.m
    · rw [if_pos e] at hm; cases hm
    · rw [if_neg e] at hm
      rcases List.mem_append.1 hp with k | k
      · exact h.2 m hm p k
      · simp at k
        subst k
        exact fun x => e x.symm
theorem map_ne_own {w : World} {b n : Nat} {f : Mo → Option Nat} (h : MMap w b n f) {base k size : Nat} {e : TypeId} {v : Value} {xs : List Value} (ho : w.ownsRow base e size v k xs) : some b ≠ v.ownBlock := by
  rcases ho.2 with ⟨rfl, _⟩ | ⟨g, cap, cur, rfl, _, hh, _⟩
  · simp [Value.ownBlock]
  · intro he
    have e1 : b = g := by simpa [Value.ownBlock] using he
    exact h.ne_blk (show Blk w g e cur from hh) e1
theorem ne_gt : (95 : TypeId) ≠ 56 := by decide
theorem map_no_cell {w : World} {b n : Nat} {f : Mo → Option Nat} (h : MMap w b n f) (o : Nat) : w.cell? ⟨b, o, none⟩ = none := by
  obtain ⟨D, ⟨es, cl, hb, _⟩, _⟩ := h
  simp [World.cell?, hb]
theorem NatIn.map_ {w w' : World} {B c b n : Nat} {A : Option Addr} {ds : List Nat} {f : Mo → Option Nat} (h : NatIn w B A c ds) (hB : B ≤ w.heap.size) (hm : MMap w b n f) (hg : w.grownBy w' (some b)) : NatIn w' B A c ds := by
  refine ⟨⟨h.rd.1, fun hp => ?_⟩, h.dg, h.cap⟩
  obtain ⟨b', o, e, hb, hc⟩ := h.rd.2 hp
  refine ⟨b', o, e, hb, fun j u hu => ?_⟩
  have h1 := hc j u hu
  have hne : b' ≠ b := by
    rintro rfl
    rw [map_no_cell hm] at h1
    cases h1
  exact (World.cell?_of_block (hg.block b' (by omega) (fun e => hne (by injection e)))).trans h1
theorem flat_snoc (ps : List PT) (q : PT) : (ps ++ [q]).flatMap PT.cells = ps.flatMap PT.cells ++ q.cells := by simp
theorem gat_snoc {X w4 : World} {base g mb : Nat} {v v' : Value} {ps : List PT} {q : PT} {f : Mo → Option Nat} (hbs : base ≤ X.heap.size) (hlg : base ≤ g) (hlm : base ≤ mb) (gb : Blk X g 95 #[.map (some mb), v]) (mp : MMap X mb (ps.length + 1) f) (hix : IdxOk (ps ++ [q]) f)
    (row : X.ownsRow base 56 6 v ps.length (ps.flatMap PT.cells)) (dg : ∀ p ∈ ps, NatB X p.A p.ds ∧ p.ds.length ≤ p.c) (cn : ∀ p ∈ ps, Cn p) (hq : NatB X q.A q.ds) (hqc : q.ds.length ≤ q.c) (hqn : Cn q) (o : Obj)
    (hown : w4.ownsRow base 56 6 v' (ps.length + 1) (ps.flatMap PT.cells ++ q.cells)) (hg : (X.alloc o).grownBy w4 v.ownBlock) :
    GAt (w4.setCell ⟨g, 1, none⟩ v') base g mb v' (ps ++ [q]) ∧ GTurn base X (w4.setCell ⟨g, 1, none⟩ v') := by
  have hba : Below X.heap.size X (X.alloc o) := (Below.refl _ X).alloc (Nat.le_refl _) o
  have row1 := own_old row hba
  have gb1 := gb.old hba
  have gb4 := gb1.grown hg (own_row_far row1 gb1 (by decide))
  have mp1 := mp.old hba
  have mp4 := mp1.kept hg (map_ne_own mp1 row1)
  have t1 : GTurn base X (X.alloc o) := .of_below hbs hba
  have t2 : GTurn base (X.alloc o) w4 := .grown (Nat.le_trans hbs hba.size) row1 hg
  have t3 : GTurn base w4 (w4.setCell ⟨g, 1, none⟩ v') := .set_g hlg gb4 v'
  have t := (t1.trans t2).trans t3
  have hne : v'.ownBlock ≠ some g := fun e => own_row_far hown gb4 (by decide) e.symm
  refine ⟨⟨gb4.set_ 1 v', ?_, ?_, ?_, ?_, hlg, hlm⟩, t⟩
  · exact ⟨f, by rw [List.length_append]; exact mp4.set_ (mp4.ne_blk gb4) v', hix⟩
  · rw [flat_snoc, List.length_append]
    exact own_far hown hne v'
  · intro p hp
    rcases List.mem_append.1 hp with k | k
    · exact ⟨t.natB (dg p k).1, (dg p k).2⟩
    · simp at k
      subst k
      exact ⟨t.natB hq, hqc⟩
  · intro p hp
    rcases List.mem_append.1 hp with k | k
    · exact cn p k
    · simp at k
      subst k
      exact hqn
section
variable {P : Program} (w : World)
theorem step_append_any {ops : Array Oper} {o : Oper} {a : Act} {K : Act → World → Prop} {Q : Exit → Act → World → Prop} {E : Prop} (hgd : o.guard = none) (s x : Operand) (t : TypeId)
    (ho : o.op = .call { callee := .builtin .append, args := #[s, x], argTypes := #[t, t] })
    (base : Nat) (e : TypeId) (i : TypeInfo) (z : Value) (size bytes : Nat) (ht : P.underlying t = some (.slice e)) (hi : P.info? e = some i) (hz : i.zero = some z)
    (hsize : i.size = size) (hby : i.bytes = bytes) (hzs : z.cells.size = size) (hsz : 0 < size)
    (v : Value) (n : Nat) (xs : List Value) (hs : a.eval s = v) (hown : w.ownsRow base e size v n xs)
    (B : Nat) (A : Option Addr) (m c : Nat) (news : List Value) (hx : a.eval x = .slice A m c) (hr : Reads w B size A m news) (h1 : ∀ u ∈ news, u.oneCell' = true)
    (h63 : n + m ≤ maxLen) (hbytes : (n + m) * bytes ≤ 140737488355328) (hbase : base ≤ w.heap.size)
    (h : ∀ v' w', w'.ownsRow base e size v' (n + m) (xs ++ news) → w.grownBy w' v.ownBlock → (v'.ownBlock = v.ownBlock ∨ v'.ownBlock = some w.heap.size) → K (a.put o.dst v') w') :
    if Region.wanted o (yielded ops a.tmps) = true then Oper.wp P o a w K Q else E := by
  have hw : Region.wanted o (yielded ops a.tmps) = true := by simp [Region.wanted, hgd]
  rw [if_pos hw]
  exact wp_append_any w s x t ho base e i z size bytes ht hi hz hsize hby hzs hsz v n xs hs hown B A m c news hx hr h1 h63 hbytes hbase h
end
theorem Reads.six_new (w : World) (cs : List Value) (h : cs.length = 6) (t : TypeId) : Reads (w.alloc (.cells cs.toArray t)) (w.heap.size + 1) 6 (some ⟨w.heap.size, 0, none⟩) 1 cs := by
  refine ⟨by omega, fun _ => ⟨_, _, rfl, by omega, fun j x hj => ?_⟩⟩
  have := (Blk.new w t cs.toArray).cell j
  rw [Nat.zero_add, this]
  simpa using hj
end Go.Proofs.YtpbapoanjkekmaaGreat
