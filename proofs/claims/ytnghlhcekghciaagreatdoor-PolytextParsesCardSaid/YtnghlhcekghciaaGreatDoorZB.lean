/- Contract of polytext.readFactor. -/
import Derived.StillTailTactics
import Derived.Test.YtnghlhcekghciaaGreatDoorZY
import Derived.Test.YtnghlhcekghciaaGreatDoorH5
import Derived.Test.YtnghlhcekghciaaGreatDoorZI
import Derived.Test.YtnghlhcekghciaaGreatDoorXL
namespace Go.Proofs.YtnghlhcekghciaaGreatDoor
open Go.RowKit

/-- internal/bytealg.MaxLen holds some number -/
def MaxL (w : World) : Prop := ∃ m : Int, w.cell? ⟨0, 0, none⟩ = some (.int .i64 m)
theorem MaxL.below {w w' : World} {B : Nat} (h : MaxL w) (hb : Below B w w') (hB : 0 < B) : MaxL w' := h.imp fun _ k => (hb.cell (p := ⟨0, 0, none⟩) hB).trans k
theorem Cut_any (l : Bs) (c : UInt8) (w : World) (hl : l.length ≤ 1000000) (hm : MaxL w) :
    Calls Tryz.prog 34 #[.string ⟨l.toArray⟩, .string ⟨#[c]⟩] w fun e w' => e = .returned (.tuple #[.string ⟨(Lib.cut l [c]).1.toArray⟩, .string ⟨(Lib.cut l [c]).2.1.toArray⟩, .bool (Lib.cut l [c]).2.2]) ∧ Drawn w w' := by
  obtain ⟨m, hm⟩ := hm
  exact Tryz.strings_Cut ⟨l.toArray⟩ ⟨#[c]⟩ m w (by simp [ByteArray.size]; omega) hm
def toB (l : Bs) : ByteArray := ⟨l.toArray⟩
def idxN (ls : List Bs) (x : Bs) : Int := Lib.idxOfS (ls.map toB) (toB x)
theorem idxN_range (ls : List Bs) (x : Bs) : idxN ls x = -1 ∨ ∃ k : Nat, k < ls.length ∧ idxN ls x = (k : Int) := by
  have key : ∀ (zs : List ByteArray) (y : ByteArray) (i : Nat), Lib.idxFromS zs y i = -1 ∨ ∃ k : Nat, k < zs.length ∧ Lib.idxFromS zs y i = ((i + k : Nat) : Int) := by
    intro zs y
    induction zs with
    | nil => intro i; exact .inl rfl
    | cons z zs ih =>
      intro i
      unfold Lib.idxFromS
      split
      · exact .inr ⟨0, by simp, by simp⟩
      · rcases ih (i + 1) with h | ⟨k, hk, h⟩
        · exact .inl h
        · exact .inr ⟨k + 1, by simpa using hk, by rw [h]; congr 1; omega⟩
  rcases key (ls.map toB) (toB x) 0 with h | ⟨k, hk, h⟩
  · exact .inl h
  · exact .inr ⟨k, by simpa using hk, by unfold idxN Lib.idxOfS; rw [h]; congr 1; omega⟩
theorem Index_any (A : Option Addr) (c B : Nat) (ls : List Bs) (x : Bs) (w : World) (h : Reads w B 1 A ls.length (ls.map strV)) (hm : ls.length ≤ 1000000) :
    Calls Tryz.prog 49 #[.slice A ls.length c, .string ⟨x.toArray⟩] w fun e w' => e = .returned (.int .i64 (idxN ls x)) ∧ w = w' := by
  rcases Nat.eq_zero_or_pos ls.length with h0 | h0
  · obtain rfl := List.eq_nil_of_length_eq_zero h0
    refine (Tryz.slices_Index_string_empty A c ⟨x.toArray⟩ w).mono ?_
    rintro e w' ⟨rfl, rfl⟩
    exact ⟨rfl, rfl⟩
  · obtain ⟨b, o, rfl, hb, hc⟩ := h.2 h0
    refine (Tryz.slices_Index_string b o ls.length c (ls.map toB) ⟨x.toArray⟩ w (by simp) (by omega) (fun j hj => ?_)).mono ?_
    · have hj' : j < ls.length := by simpa using hj
      rw [hc j (strV (ls[j])) (by simp [List.getElem?_eq_getElem hj'])]
      simp [List.getElem?_eq_getElem hj', strV, toB]
    · rintro e w' ⟨rfl, rfl⟩
      refine ⟨?_, rfl⟩
      rw [show (ls.map toB).take ls.length = ls.map toB from List.take_of_length_le (by simp)]
      rfl

/-! ### all but one block is kept -/
abbrev Only (g : Nat) (w w' : World) : Prop := w.grownBy w' (some g)
theorem Only.of_below {g : Nat} {w w' : World} (h : Below w.heap.size w w') : Only g w w' := ⟨h.os, h.tape, h.output, h.size, fun k hk _ => h.block k hk⟩
theorem Only.trans {g : Nat} {u v w : World} (h : Only g u v) (k : Only g v w) : Only g u w :=
  ⟨k.os.trans h.os, k.tape.trans h.tape, k.output.trans h.output, Nat.le_trans h.size k.size, fun i hi hn => (k.block i (Nat.lt_of_lt_of_le hi h.size) hn).trans (h.block i hi hn)⟩
theorem Only.set_ {g : Nat} (w : World) (o : Nat) (u : Value) : Only g w (w.setCell ⟨g, o, none⟩ u) :=
  ⟨rfl, rfl, rfl, by simp, fun k _ hn => Below.heap_setCell w ⟨g, o, none⟩ u k (fun e => hn (by rw [e]))⟩

/-! ### factors -/
def addAt (m : Mo) (j : Nat) (x : Int) : Mo := if j = 0 then (m.1 + x, m.2.1, m.2.2.1, m.2.2.2) else if j = 1 then (m.1, m.2.1 + x, m.2.2.1, m.2.2.2) else if j = 2 then (m.1, m.2.1, m.2.2.1 + x, m.2.2.2) else (m.1, m.2.1, m.2.2.1, m.2.2.2 + x)
def cellsT (ng : Bool) (A : Option Addr) (n c : Nat) (m : Mo) : Array Value := #[.bool ng, .slice A n c, .int .i64 m.1, .int .i64 m.2.1, .int .i64 m.2.2.1, .int .i64 m.2.2.2]
theorem cellsT_add (ng : Bool) (A : Option Addr) (n c : Nat) (m : Mo) {j : Nat} (hj : j < 4) (x : Int) : (cellsT ng A n c m).setIfInBounds (2 + j) (.int .i64 (gt m j + x)) = cellsT ng A n c (addAt m j x) := by
  rcases (by omega : j = 0 ∨ j = 1 ∨ j = 2 ∨ j = 3) with rfl | rfl | rfl | rfl <;> rfl
theorem cellsT_at {w : World} {g : Nat} {ng : Bool} {A : Option Addr} {n c : Nat} {m : Mo} (h : Blk w g 47 (cellsT ng A n c m)) {j : Nat} (hj : j < 4) : w.cell? ⟨g, 2 + j, none⟩ = some (.int .i64 (gt m j)) := by
  rw [h.cell]
  rcases (by omega : j = 0 ∨ j = 1 ∨ j = 2 ∨ j = 3) with rfl | rfl | rfl | rfl <;> rfl
/-- what a factor's text says: the variable, the exponent -/
def factR (ls : List Bs) (t : Bs) : Option (Nat × Int) :=
  if idxN ls (Lib.cut t [94]).1 < 0 then none
  else if (Lib.cut t [94]).2.2 = false then some ((idxN ls (Lib.cut t [94]).1).toNat, 1)
  else match decP (Lib.cut t [94]).2.1 with
    | none => none
    | some z => if 2 ≤ z ∧ z ≤ 1073741824 then some ((idxN ls (Lib.cut t [94]).1).toNat, z) else none
def FactRes (o : Option (Nat × Int)) (g : Nat) (ng : Bool) (A : Option Addr) (n c : Nat) (m : Mo) (w : World) (e : Ending) (w' : World) : Prop :=
  ((o = none ∧ e = .returned (.bool false) ∧ Blk w' g 47 (cellsT ng A n c m)) ∨ ∃ j x, o = some (j, x) ∧ j < 4 ∧ 0 ≤ x ∧ x ≤ 1073741824 ∧ e = .returned (.bool true) ∧ Blk w' g 47 (cellsT ng A n c (addAt m j x))) ∧ Only g w w'
theorem cut_len (l s : Bs) : (Lib.cut l s).1.length ≤ l.length ∧ (Lib.cut l s).2.1.length ≤ l.length := by
  unfold Lib.cut
  split
  · simp only [List.length_take, List.length_drop]; omega
  · simp

theorem ival_own (z : Int) : ival (decide (z < 0)) (dig z.natAbs) = z := by
  unfold ival
  rw [val_dig]
  by_cases h : z < 0
  · simp [h]; omega
  · simp [h]; omega
theorem decP_small {s : Bs} {z : Int} (h : decP s = some z) : (dig z.natAbs).length ≤ s.length := by
  unfold decP at h
  split at h
  · rename_i hd
    have hall : (sgnR s).all (fun c => decide (48 ≤ c.toNat ∧ c.toNat ≤ 57)) = true := by
      unfold decOk at hd
      simp only [Bool.and_eq_true] at hd
      exact hd.2
    have h1 := decV_lt hall
    have h2 : (sgnR s).length ≤ s.length := by unfold sgnR; split <;> simp
    have h3 : z.natAbs = decV (sgnR s) := by
      injection h with h
      rw [← h]
      split <;> simp
    rw [h3]
    exact Nat.le_trans (dig_len_lt (Nat.lt_of_lt_of_le h1 (pow_le_big _))) h2
  · cases h

set_option maxHeartbeats 4000000 in
set_option maxRecDepth 100000 in
theorem readFactor_any (t : Bs) (A A' : Option Addr) (c n c' B g : Nat) (ng : Bool) (m : Mo) (ls : List Bs) (w : World) (ht : t.length ≤ 100000) (hl : Reads w B 1 A ls.length (ls.map strV)) (h4 : ls.length ≤ 4)
    (hg : Blk w g 47 (cellsT ng A' n c' m)) (hx : ∀ j, j < 4 → 0 ≤ gt m j ∧ gt m j ≤ 4611686018427387904) (hm : MaxL w) :
    Calls Tryz.prog 58 #[.string ⟨t.toArray⟩, .slice A ls.length c, .pointer (some ⟨g, 2, none⟩)] w (FactRes (factR ls t) g ng A' n c' m w) := by
  have HCU := Lib.hid (Cut_any t 94 w (by omega) hm)
  have hcl := cut_len t [94]
  have HF := Lib.hid (show factR ls t = if idxN ls (Lib.cut t [94]).1 < 0 then none
    else if (Lib.cut t [94]).2.2 = false then some ((idxN ls (Lib.cut t [94]).1).toNat, 1)
    else match decP (Lib.cut t [94]).2.1 with
      | none => none
      | some z => if 2 ≤ z ∧ z ≤ 1073741824 then some ((idxN ls (Lib.cut t [94]).1).toNat, z) else none from rfl)
  generalize factR ls t = o at *
  generalize (Lib.cut t [94]).1 = t1 at *
  generalize (Lib.cut t [94]).2.1 = t2 at *
  generalize (Lib.cut t [94]).2.2 = pw at *
  have HIX := Lib.hid (fun (W : World) (hW : Drawn w W) => Index_any A c B ls t1 W (hl.drawn hW) (by omega))
  have HDP := Lib.hid (fun (W : World) => DParse_any t2 W (by omega))
  have hir := idxN_range ls t1
  generalize idxN ls t1 = ix at *
  have HX := Lib.hid hx
  clear hl hm hx
  generalize hln : ls.length = nl at *
  go_enter Tryz.func58, Tryz.ntmps58
  go_wp2_with fail
  refine HCU.out.mono ?_
  rintro e w1 ⟨rfl, hdr⟩
  have hk1 := hg.drawn hdr
  have ho1 := Only.of_below (g := g) (hdr.below w.heap.size)
  go_wp2_with fail
  refine (HIX.out _ hdr).mono ?_
  rintro e w1' ⟨rfl, rfl⟩
  rcases hir with rfl | ⟨k, hk, rfl⟩
  · have HO := Lib.hid (show o = none by rw [HF.out]; rfl)
    clear HF hdr
    go_wp2_with fail
    go_ret
    exact ⟨.inl ⟨HO.out, rfl, hk1⟩, ho1⟩
  · have hk4' : k < 4 := by omega
    have hkn : ¬ (k : Int) < 0 := by omega
    rw [if_neg hkn, show ((k : Int)).toNat = k from Int.toNat_natCast k] at HF
    have HXK := Lib.hid (HX.out k hk4')
    have i4 : (k : Int) < 4 := by omega
    have i0 : (0 : Int) ≤ (k : Int) := by omega
    cases pw with
    | false =>
      have HO := Lib.hid (show o = some (k, 1) by rw [HF.out]; rfl)
      have hce := cellsT_at hk1 hk4'
      have hfr := hk1.frozen (2 + k)
      have hxk := HXK.out
      have HKS := Lib.hid (fun (W : World) (hW : Blk W g 47 (cellsT ng A' n c' m)) => show Blk (W.setCell ⟨g, 2 + k, none⟩ (.int .i64 (gt m k + 1))) g 47 (cellsT ng A' n c' (addAt m k 1)) by
        have := hW.set_ (2 + k) (.int .i64 (gt m k + 1))
        rwa [cellsT_add ng A' n c' m hk4' 1] at this)
      generalize gt m k = x at *
      have hgl := hk1.lt
      clear HF hdr
      go_wp2_with fail
      refine wp_region_still_tail 8 (by kernel_rfl) (by kernel_rfl) ?_
      simp only [List.take_succ_cons, List.take_zero, List.drop_succ_cons, List.drop_zero]
      repeat still_step
      refine wpStill_nil ?_
      change wpList _ _ _ _ _ w1.drew
      have hk2 := hk1.drawn (.drew _)
      have ho2 := ho1.trans (Only.of_below (g := g) ((Drawn.drew w1).below _))
      have c2 : w1.drew.cell? ⟨g, 2 + k, none⟩ = some (.int .i64 x) := hce
      have f2 : w1.drew.frozen? ⟨g, 2 + k, none⟩ = false := hfr
      have g2 : g < w1.drew.heap.size := hgl
      clear hce hfr hgl hk1 ho1
      generalize w1.drew = w2 at *
      go_wp2_with fail
      go_ret
      exact ⟨.inr ⟨k, 1, HO.out, hk4', by omega, by omega, rfl, HKS.out _ hk2⟩, ho2.trans (Only.set_ _ _ _)⟩
    | true =>
      rw [if_neg (by decide)] at HF
      clear hdr
      go_wp2_with fail
      refine (HDP.out _).mono ?_
      rintro e w2 ⟨hr, hb2⟩
      have hk2 := hk1.old hb2
      have ho2 := ho1.trans (Only.of_below (g := g) hb2)
      rcases hr with ⟨hp, rfl⟩ | ⟨z, hp, A2, c2, rfl, h1, h2⟩
      · have HO := Lib.hid (show o = none by rw [HF.out, hp])
        clear HF hp hk1 ho1 hb2
        have hk3 := hk2.alloc (.cells #[.bool false, .slice none 0 0] 43)
        have ho3 := ho2.trans (Only.of_below (g := g) ((Below.refl w2.heap.size w2).alloc (Nat.le_refl _) (.cells #[.bool false, .slice none 0 0] 43)))
        go_wp2_with fail
        go_ret
        exact ⟨.inl ⟨HO.out, rfl, hk3⟩, ho3⟩
      · have HO := Lib.hid (show o = if 2 ≤ z ∧ z ≤ 1073741824 then some (k, z) else none by rw [HF.out, hp])
        have hdl := decP_small hp
        have hbx := Blk.new w2 43 #[.bool (decide (z < 0)), .slice A2 (dig z.natAbs).length c2]
        have hk3 := hk2.alloc (.cells #[.bool (decide (z < 0)), .slice A2 (dig z.natAbs).length c2] 43)
        have ho3 := ho2.trans (Only.of_below (g := g) ((Below.refl w2.heap.size w2).alloc (Nat.le_refl _) (.cells #[.bool (decide (z < 0)), .slice A2 (dig z.natAbs).length c2] 43)))
        have h3 := h2.old ((Below.refl w2.heap.size w2).alloc (Nat.le_refl _) (.cells #[.bool (decide (z < 0)), .slice A2 (dig z.natAbs).length c2] 43))
        have HI := Lib.hid (Int64_any (decide (z < 0)) A2 c2 _ (dig z.natAbs) _ (Nat.le_refl _) h1 (by omega) h3.reads (dig_dig _) (fun h => by rw [val_dig]; have := of_decide_eq_true h; omega))
        rw [ival_own] at HI
        have d0 := hbx.cell 0
        have d1 := hbx.cell 1
        have HK3 := Lib.hid hk3; have HO3 := Lib.hid ho3
        clear HF hp hk1 ho1 hb2 hk2 ho2 h1 h2 h3 hk3 ho3 hbx
        generalize (dig z.natAbs).length = nz at *
        generalize decide (z < 0) = zn at *
        go_wp2_with fail
        refine HI.out.mono ?_
        rintro e w4 ⟨hr, hb4⟩
        have hk4 := HK3.out.old hb4
        have ho4 := HO3.out.trans (Only.of_below (g := g) hb4)
        rcases hr with ⟨hz1, hz2, rfl⟩ | ⟨hz, rfl⟩
        · clear hb4 d0 d1
          by_cases hlo : z < 2
          · have HN := Lib.hid (show o = none by rw [HO.out, if_neg (by omega)])
            go_wp2_with fail
            go_ret
            exact ⟨.inl ⟨HN.out, rfl, hk4⟩, ho4⟩
          · by_cases hhi : 1073741824 < z
            · have HN := Lib.hid (show o = none by rw [HO.out, if_neg (by omega)])
              go_wp2_with fail
              go_ret
              exact ⟨.inl ⟨HN.out, rfl, hk4⟩, ho4⟩
            · have HN := Lib.hid (show o = some (k, z) by rw [HO.out, if_pos (by omega)])
              have hce := cellsT_at hk4 hk4'
              have hfr := hk4.frozen (2 + k)
              have hxk := HXK.out
              have HKS := Lib.hid (fun (W : World) (hW : Blk W g 47 (cellsT ng A' n c' m)) => show Blk (W.setCell ⟨g, 2 + k, none⟩ (.int .i64 (gt m k + z))) g 47 (cellsT ng A' n c' (addAt m k z)) by
                have := hW.set_ (2 + k) (.int .i64 (gt m k + z))
                rwa [cellsT_add ng A' n c' m hk4' z] at this)
              generalize gt m k = x at *
              have hgl := hk4.lt
              go_wp2_with fail
              refine wp_region_still_tail 9 (by kernel_rfl) (by kernel_rfl) ?_
              simp only [List.take_succ_cons, List.take_zero, List.drop_succ_cons, List.drop_zero]
              repeat still_step
              refine wpStill_nil ?_
              change wpList _ _ _ _ _ w4.drew
              have hk5 := hk4.drawn (.drew _)
              have ho5 := ho4.trans (Only.of_below (g := g) ((Drawn.drew w4).below _))
              have c5 : w4.drew.cell? ⟨g, 2 + k, none⟩ = some (.int .i64 x) := hce
              have f5 : w4.drew.frozen? ⟨g, 2 + k, none⟩ = false := hfr
              have g5 : g < w4.drew.heap.size := hgl
              clear hce hfr hgl hk4 ho4
              generalize w4.drew = w5 at *
              go_wp2_with fail
              go_ret
              exact ⟨.inr ⟨k, z, HN.out, hk4', by omega, by omega, rfl, HKS.out _ hk5⟩, ho5.trans (Only.set_ _ _ _)⟩
        · have HN := Lib.hid (show o = none by rw [HO.out, if_neg (by omega)])
          clear hb4 d0 d1
          go_wp2_with fail
          go_ret
          exact ⟨.inl ⟨HN.out, rfl, hk4⟩, ho4⟩
end Go.Proofs.YtnghlhcekghciaaGreatDoor

/- Contract of polytext.readTerm. -/
namespace Go.Proofs.YtnghlhcekghciaaGreatDoor
open Go.RowKit

theorem MaxL.pos {w : World} (h : MaxL w) : 0 < w.heap.size := by
  obtain ⟨m, h⟩ := h
  rcases Nat.eq_zero_or_pos w.heap.size with h0 | h0
  · exfalso
    unfold World.cell? at h
    have : w.heap[0]? = none := Array.getElem?_eq_none (by omega)
    simp [this] at h
  · exact h0
theorem MaxL.old {w w' : World} (h : MaxL w) (hb : Below w.heap.size w w') : MaxL w' := h.below hb h.pos
theorem MaxL.only {w w' : World} {g : Nat} (h : MaxL w) (hb : Only g w w') (hg : 0 < g) : MaxL w' := by
  obtain ⟨m, k⟩ := h
  have hp := MaxL.pos ⟨m, k⟩
  exact ⟨m, (World.cell?_of_block (a := ⟨0, 0, none⟩) (hb.block 0 hp (fun e => by injection e with e; omega))).trans k⟩
theorem Blk.only {w w' : World} {g g' : Nat} {t : TypeId} {cs : Array Value} (h : Blk w g' t cs) (hb : Only g w w') (hne : g' ≠ g) : Blk w' g' t cs := h.grown hb (fun e => hne (by injection e))
theorem Blk.ne {w : World} {g g' : Nat} {t t' : TypeId} {cs cs' : Array Value} (h : Blk w g t cs) (h' : Blk w g' t' cs') (ht : t ≠ t') : g ≠ g' := by
  rintro rfl
  unfold Blk at h h'
  rw [h] at h'
  injection h' with h'
  injection h' with _ h'
  exact ht h'
theorem NatB.only {w w' : World} {g : Nat} {A : Option Addr} {ds : List Nat} {cs : Array Value} {t : TypeId} (h : NatB w A ds) (hk : Blk w g t cs) (ht : t ≠ 39) (hb : Only g w w') : NatB w' A ds :=
  h.keep fun _ _ k => k.only hb (Blk.ne k hk (fun e => ht e.symm))

/-! ### the parts of a text -/
def partsS (c : UInt8) (l : Bs) : List Bs := (Lib.splitB ⟨#[c]⟩ 0 (Lib.countB ⟨l.toArray⟩ ⟨#[c]⟩) ⟨l.toArray⟩).map fun b => b.data.toList
theorem splitB_size (sep : ByteArray) : ∀ (k : Nat) (s : ByteArray), ∀ b ∈ Lib.splitB sep 0 k s, b.size ≤ s.size
  | 0, s, b, hb => by
    rw [Lib.splitB_zero, List.mem_singleton] at hb
    rw [hb]; exact Nat.le_refl _
  | k + 1, s, b, hb => by
    unfold Lib.splitB at hb
    split at hb
    · rw [List.mem_singleton] at hb
      rw [hb]; exact Nat.le_refl _
    · rcases List.mem_cons.1 hb with rfl | hb
      · rw [ByteArray.size_extract]; omega
      · have := splitB_size sep k _ b hb
        rw [ByteArray.size_extract] at this
        omega
theorem partsS_len (c : UInt8) (l : Bs) : (partsS c l).length = Lib.countB ⟨l.toArray⟩ ⟨#[c]⟩ + 1 := by
  unfold partsS
  rw [List.length_map]
  exact Lib.splitB_all ⟨#[c]⟩ (Nat.le_refl 1) 0 _ _ rfl
theorem partsS_few (c : UInt8) (l : Bs) : (partsS c l).length ≤ l.length + 1 := by
  rw [partsS_len]
  have := Lib.countB_le ⟨#[c]⟩ (Nat.le_refl 1) _ ⟨l.toArray⟩ (Nat.le_refl _)
  simp [ByteArray.size] at this
  omega
theorem partsS_el (c : UInt8) (l : Bs) : ∀ p ∈ partsS c l, p.length ≤ l.length := fun p hp => by
  obtain ⟨b, hb, rfl⟩ := List.mem_map.1 hp
  have h1 := splitB_size _ _ _ b hb
  have h2 : (⟨l.toArray⟩ : ByteArray).size = l.length := by simp [ByteArray.size]
  rw [h2] at h1
  show b.data.toList.length ≤ l.length
  rw [Array.length_toList]
  exact h1
theorem Split_any (c : UInt8) (l : Bs) (w : World) (hl : l.length ≤ 1000000) (hm : MaxL w) :
    Calls Tryz.prog 56 #[.string ⟨l.toArray⟩, .string ⟨#[c]⟩] w fun e w' => e = .returned (.slice (some ⟨w.heap.size, 0, none⟩) (partsS c l).length (partsS c l).length) ∧ w' = w.alloc (.cells ((partsS c l).map strV).toArray 9) := by
  obtain ⟨m, hm⟩ := hm
  have h := Tryz.strings_Split ⟨l.toArray⟩ ⟨#[c]⟩ m w (by simp [ByteArray.size]; omega) hm (Nat.le_refl 1)
  refine h.mono ?_
  rintro e w' ⟨rfl, rfl⟩
  rw [partsS_len]
  refine ⟨rfl, ?_⟩
  congr 3
  unfold partsS
  rw [List.map_map]
  apply List.map_congr_left
  intro b _
  simp [strV]

/-! ### what a term's text says -/
def factsR (ls : List Bs) : List Bs → Mo → Option Mo
  | [], m => some m
  | p :: ps, m => match factR ls p with
    | none => none
    | some (j, x) => factsR ls ps (addAt m j x)
def termR (ls : List Bs) (t : Bs) : Option (Int × Mo) := match partsS 42 t with
  | [] => some (1, (0, 0, 0, 0))
  | p :: ps => match decP p with
    | some z => (factsR ls ps (0, 0, 0, 0)).map fun m => (z, m)
    | none => (factsR ls (p :: ps) (0, 0, 0, 0)).map fun m => (1, m)
theorem ten_pow (n : Nat) : 10 ^ (9 * n) ≤ 4294967296 ^ n := by
  rw [Nat.pow_mul]
  exact Nat.pow_le_pow_left (by decide) n
theorem decP_pw {s : Bs} {z : Int} {k : Nat} (h : decP s = some z) (hl : s.length ≤ 9 * k) : z.natAbs < pw k := by
  unfold decP at h
  split at h
  · rename_i hd
    have hall : (sgnR s).all (fun c => decide (48 ≤ c.toNat ∧ c.toNat ≤ 57)) = true := by
      unfold decOk at hd
      simp only [Bool.and_eq_true] at hd
      exact hd.2
    have h1 := decV_lt hall
    have h2 : (sgnR s).length ≤ s.length := by unfold sgnR; split <;> simp
    have h3 : z.natAbs = decV (sgnR s) := by
      injection h with h
      rw [← h]
      split <;> simp
    rw [h3]
    exact Nat.lt_of_lt_of_le h1 (Nat.le_trans (Nat.pow_le_pow_right (by decide) (by omega)) (ten_pow k))
  · cases h
def TermRes (o : Option (Int × Mo)) (w : World) (e : Ending) (w' : World) : Prop :=
  ((o = none ∧ e = .returned (.tuple #[.agg #[.bool false, .slice none 0 0, .int .i64 0, .int .i64 0, .int .i64 0, .int .i64 0], .bool false])) ∨
    ∃ z m, o = some (z, m) ∧ ∃ A c, e = .returned (.tuple #[.agg (cellsT (decide (z < 0)) A (dig z.natAbs).length c m), .bool true]) ∧ (dig z.natAbs).length ≤ c ∧ NatB w' A (dig z.natAbs) ∧ (dig z.natAbs).length ≤ 100000 ∧ ∀ j, j < 4 → 0 ≤ gt m j ∧ gt m j ≤ 200000 * 1073741824) ∧ Below w.heap.size w w'
theorem Tryz.sizeTerm6 : (Tryz.prog.info? 47).map (·.size) = some 6 := by kernel_rfl
theorem gt_add {m : Mo} {j : Nat} {x : Int} (hj : j < 4) {k : Int} (hm : ∀ i, i < 4 → 0 ≤ gt m i ∧ gt m i ≤ k) (h0 : 0 ≤ x) (h1 : x ≤ 1073741824) : ∀ i, i < 4 → 0 ≤ gt (addAt m j x) i ∧ gt (addAt m j x) i ≤ k + 1073741824 := fun i hi => by
  have a0 := hm 0 (by omega); have a1 := hm 1 (by omega); have a2 := hm 2 (by omega); have a3 := hm 3 (by omega)
  rcases (by omega : j = 0 ∨ j = 1 ∨ j = 2 ∨ j = 3) with rfl | rfl | rfl | rfl <;> rcases (by omega : i = 0 ∨ i = 1 ∨ i = 2 ∨ i = 3) with rfl | rfl | rfl | rfl <;> simp [addAt, gt] at * <;> omega

set_option maxHeartbeats 4000000 in
set_option maxRecDepth 100000 in
theorem readTerm_any (t : Bs) (A : Option Addr) (c B : Nat) (ls : List Bs) (w : World) (ht : t.length ≤ 100000) (hB : B ≤ w.heap.size) (hl : Reads w B 1 A ls.length (ls.map strV)) (h4 : ls.length ≤ 4) (hm : MaxL w) :
    Calls Tryz.prog 35 #[.string ⟨t.toArray⟩, .slice A ls.length c] w (TermRes (termR ls t) w) := by
  have hb0 := (Below.refl w.heap.size w).alloc (Nat.le_refl _) (.cells #[.bool false, .slice none 0 0, .int .i64 0, .int .i64 0, .int .i64 0, .int .i64 0] 47)
  have hk0 := Blk.new w 47 #[.bool false, .slice none 0 0, .int .i64 0, .int .i64 0, .int .i64 0, .int .i64 0]
  obtain ⟨z1, hz1, HIO⟩ : ∃ z1 : Int, z1 = 1 ∧ Calls Tryz.prog 55 #[.int .i64 1] (w.alloc (.cells #[.bool false, .slice none 0 0, .int .i64 0, .int .i64 0, .int .i64 0, .int .i64 0] 47)) (IntRes z1 (w.alloc (.cells #[.bool false, .slice none 0 0, .int .i64 0, .int .i64 0, .int .i64 0, .int .i64 0] 47))) := ⟨1, rfl, IOf_any 1 (by decide) (by decide) _⟩
  have HIO := Lib.hid HIO
  have hpf := partsS_few 42 t
  have HPE := Lib.hid (partsS_el 42 t)
  have HSP := Lib.hid (fun (W : World) (hW : MaxL W) => Split_any 42 t W (by omega) hW)
  have HTR := Lib.hid (show termR ls t = match partsS 42 t with
    | [] => some (z1, (0, 0, 0, 0))
    | p :: ps => match decP p with
      | some z => (factsR ls ps (0, 0, 0, 0)).map fun m => (z, m)
      | none => (factsR ls (p :: ps) (0, 0, 0, 0)).map fun m => (z1, m) by rw [hz1]; rfl)
  have hp0 : 0 < (partsS 42 t).length := by rw [partsS_len]; omega
  generalize termR ls t = o at *
  generalize partsS 42 t = P at *
  have HL := Lib.hid hl; have HM := Lib.hid hm; have HB0 := Lib.hid hb0; have HK0 := Lib.hid hk0
  unfold IntRes at HIO
  have HZ1 := Lib.hid hz1
  have HD1 := Lib.hid (show (dig z1.natAbs).length ≤ 100000 by rw [hz1]; exact Nat.le_trans (dig_len_lt (n := 1) (by decide)) (by decide))
  clear hz1
  clear hl hm hb0 hk0
  generalize hln : ls.length = nl at *
  have HLN := Lib.hid hln
  clear hln
  go_enter Tryz.func35, Tryz.ntmps35
  go_wp2_with fail
  refine HIO.out.mono ?_
  rintro e w1 ⟨A1, c1, rfl, h1, h2, hb1⟩
  have hk1 := HK0.out.old hb1
  have hbw1 := HB0.out.trans (hb1.mono HB0.out.size)
  have hm1 := HM.out.old hbw1
  clear hb1
  have HH1 := Lib.hid h1; have HH2 := Lib.hid h2
  clear h1 h2
  have hbx := Blk.new w1 47 (cellsT (decide (z1 < 0)) A1 (dig z1.natAbs).length c1 (0, 0, 0, 0))
  have hbl2 := hbw1.alloc hbw1.size (.cells (cellsT (decide (z1 < 0)) A1 (dig z1.natAbs).length c1 (0, 0, 0, 0)) 47)
  have hk2 := hk1.alloc (.cells (cellsT (decide (z1 < 0)) A1 (dig z1.natAbs).length c1 (0, 0, 0, 0)) 47)
  have hm2 := hm1.old ((Below.refl w1.heap.size w1).alloc (Nat.le_refl _) (.cells (cellsT (decide (z1 < 0)) A1 (dig z1.natAbs).length c1 (0, 0, 0, 0)) 47))
  have hnb2 := HH2.out.old ((Below.refl w1.heap.size w1).alloc (Nat.le_refl _) (.cells (cellsT (decide (z1 < 0)) A1 (dig z1.natAbs).length c1 (0, 0, 0, 0)) 47))
  have HSP2 := Lib.hid (HSP.out _ hm2)
  have HX := Lib.hid (And.intro hbx (And.intro hbl2 (And.intro hk2 (And.intro hm2 hnb2))))
  have hgw := hk1.lt
  clear hbx hbl2 hk2 hm2 hnb2 hm1 hbw1
  unfold cellsT at HSP2 HX
  simp only at HSP2 HX
  go_wp2_with fail
  refine HSP2.out.mono ?_
  rintro e w2 ⟨rfl, hw2⟩
  obtain ⟨hx1, hx2, hx3, hx4, hx5⟩ := HX.out
  have hk6 := hx1.alloc (.cells (P.map strV).toArray 9)
  have hbl := hx2.alloc hx2.size (.cells (P.map strV).toArray 9)
  have hk4 := hx3.alloc (.cells (P.map strV).toArray 9)
  have hm2 := hx4.old ((Below.refl _ _).alloc (Nat.le_refl _) (.cells (P.map strV).toArray 9))
  have hnb := hx5.old ((Below.refl _ _).alloc (Nat.le_refl _) (.cells (P.map strV).toArray 9))
  have hks := Blk.new (w1.alloc (.cells (cellsT (decide (z1 < 0)) A1 (dig z1.natAbs).length c1 (0, 0, 0, 0)) 47)) 9 (P.map strV).toArray
  unfold cellsT at hks
  simp only at hks
  rw [← hw2] at hk6 hbl hk4 hm2 hnb hks
  have hgs : w1.heap.size < (w1.alloc (.cells #[.bool (decide (z1 < 0)), .slice A1 (dig z1.natAbs).length c1, .int .i64 0, .int .i64 0, .int .i64 0, .int .i64 0] 47)).heap.size := by simp
  have hm0 := HM.out.pos
  clear hw2 hx1 hx2 hx3 hx4 hx5 HX HSP2 HSP HIO hk1
  generalize (w1.alloc (.cells #[.bool (decide (z1 < 0)), .slice A1 (dig z1.natAbs).length c1, .int .i64 0, .int .i64 0, .int .i64 0, .int .i64 0] 47)).heap.size = gs at *
  generalize w1.heap.size = g6 at *
  generalize hnp : P.length = np at *
  have HNP := Lib.hid hnp
  clear hnp
  have hnp1 : np ≤ 100001 := by omega
  have hm0' : 0 < g6 := by omega
  go_wp2_with fail
  go_loopg [7, 8, 9, 10, 16] np (fun gn _ _ _ _ ix wr => ∃ (k : Nat) (z : Int) (m : Mo) (A : Option Addr) (c : Nat), k ≤ np ∧ gn = np - k ∧ ix = .int .i64 k ∧
    ((k = 0 ∧ z = z1 ∧ m = (0, 0, 0, 0)) ∨ (0 < k ∧ o = (factsR ls (P.drop k) m).map fun m => (z, m))) ∧ (∀ j, j < 4 → 0 ≤ gt m j ∧ gt m j ≤ (k : Int) * 1073741824) ∧
    Blk wr g6 47 (cellsT (decide (z < 0)) A (dig z.natAbs).length c m) ∧ (dig z.natAbs).length ≤ c ∧ NatB wr A (dig z.natAbs) ∧ (dig z.natAbs).length ≤ 100000 ∧
    Blk wr w.heap.size 47 #[.bool false, .slice none 0 0, .int .i64 0, .int .i64 0, .int .i64 0, .int .i64 0] ∧ Blk wr gs 9 (P.map strV).toArray ∧ Below w.heap.size w wr ∧ MaxL wr)
  case atStart => exact ⟨0, z1, (0, 0, 0, 0), A1, c1, Nat.zero_le _, rfl, rfl, .inl ⟨rfl, rfl, rfl⟩, fun j hj => by rcases (by omega : j = 0 ∨ j = 1 ∨ j = 2 ∨ j = 3) with rfl | rfl | rfl | rfl <;> simp [gt], hk6, HH1.out, hnb, HD1.out, hk4, hks, hbl, hm2⟩
  case round =>
    clear hk6 hnb hk4 hks hbl hm2
    obtain ⟨k, z, m, A2, c2, hk, hgk, rfl, hst, hex, hk6, hcc, hnb, hdl, hk4, hks, hbl, hm2⟩ := hrel
    have HG := Lib.hid hgk
    clear hgk
    by_cases hlt : k < np
    · have HDR := Lib.hid (show P.drop k = P.getD k [] :: P.drop (k + 1) by
        rw [List.drop_eq_getElem_cons (by have := HNP.out; omega), List.getD_eq_getElem?_getD, List.getElem?_eq_getElem (by have := HNP.out; omega)]
        rfl)
      have hpl : (P.getD k []).length ≤ t.length := HPE.out _ (by
        rw [List.getD_eq_getElem?_getD, List.getElem?_eq_getElem (by have := HNP.out; omega)]
        exact List.getElem_mem _)
      have hcs : wr.cell? ⟨gs, k, none⟩ = some (.string ⟨(P.getD k []).toArray⟩) := by
        rw [hks.cell]
        simp [List.getElem?_eq_getElem (show k < P.length by have := HNP.out; omega), strV]
      have i1 : (k : Int) < (np : Int) := by omega
      have i0 : (0 : Int) ≤ (k : Int) := by omega
      have lgs := hks.lt
      generalize P.getD k [] = pt at *
      rcases hst with ⟨rfl, rfl, rfl⟩ | ⟨hk0, ho⟩
      · have HO0 := Lib.hid (show o = match decP pt with
            | some z' => (factsR ls (P.drop 1) (0, 0, 0, 0)).map fun m => (z', m)
            | none => (factsR ls (P.drop 0) (0, 0, 0, 0)).map fun m => (z, m) by
          rw [HTR.out]
          have h0 := HDR.out
          rw [List.drop_zero] at h0
          rw [List.drop_zero, h0]
          rfl)
        have HDP := Lib.hid (DParse_any pt wr (by omega))
        have HHX := Lib.hid hex
        clear hex HTR
        go_wp2_with fail
        refine HDP.out.mono ?_
        rintro e w3 ⟨hr, hb3⟩
        have hk6' := hk6.old hb3
        have hnb' := hnb.old hb3
        have hk4' := hk4.old hb3
        have hks' := hks.old hb3
        have hm3 := hm2.old hb3
        have hbl3 := hbl.trans (hb3.mono hbl.size)
        rcases hr with ⟨hp, rfl⟩ | ⟨z', hp, A3, c3, rfl, h1, h2⟩
        · have HO := Lib.hid (show o = (factsR ls (P.drop 0) (0, 0, 0, 0)).map fun m => (z, m) by rw [HO0.out, hp])
          clear HO0 hp hb3 hk6 hnb hk4 hks hm2 hbl hcs
          have hbx : Below w3.heap.size w3 (w3.alloc (.cells #[.bool false, .slice none 0 0] 43)) := (Below.refl _ _).alloc (Nat.le_refl _) _
          have hk6 := hk6'.old hbx; have hnb := hnb'.old hbx; have hk4 := hk4'.old hbx; have hks := hks'.old hbx; have hm2 := hm3.old hbx
          have hbl := hbl3.trans (hbx.mono hbl3.size)
          have hex := HHX.out
          clear hbx hk6' hnb' hk4' hks' hm3 hbl3
          have HRF := Lib.hid (fun (W : World) (hW : Below w.heap.size w W) (hk : Blk W g6 47 (cellsT (decide (z < 0)) A2 (dig z.natAbs).length c2 (0, 0, 0, 0))) (hm : MaxL W) => readFactor_any pt A A2 c (dig z.natAbs).length c2 B g6 (decide (z < 0)) (0, 0, 0, 0) ls W (by omega) (by rw [HLN.out]; exact HL.out.below (hW.mono hB)) (by rw [HLN.out]; exact h4) hk (fun j hj => by have := hex j hj; omega) hm)
          rw [HLN.out] at HRF
          go_wp2_with fail
          refine (HRF.out _ hbl hk6 hm2).mono ?_
          rintro e w4 ⟨hr, ho4⟩
          have hnb4 := hnb.only hk6 (by decide) ho4
          have hk4' := hk4.only ho4 (by omega)
          have hks' := hks.only ho4 (by omega)
          have hm4 := hm2.only ho4 hm0'
          have hbl4 := hbl.grown ho4 hbl.size (fun k hk => by injection hk with hk; omega)
          rw [HDR.out, factsR] at HO
          rcases hr with ⟨hf, rfl, hk6'⟩ | ⟨j, x, hf, hj4, hx0, hx1, rfl, hk6'⟩
          · have HN := Lib.hid (show o = none by rw [HO.out, hf]; rfl)
            clear hf HO hk6 hnb hk4 hks hm2 hbl ho4
            have f0 := hk4'.frozen 0; have f1 := hk4'.frozen 1; have f2 := hk4'.frozen 2; have f3 := hk4'.frozen 3; have f4 := hk4'.frozen 4; have f5 := hk4'.frozen 5
            have d0 : w4.cell? ⟨w.heap.size, 0, none⟩ = some (.bool false) := hk4'.cell 0
            have d1 : w4.cell? ⟨w.heap.size, 1, none⟩ = some (.slice none 0 0) := hk4'.cell 1
            have d2 : w4.cell? ⟨w.heap.size, 2, none⟩ = some (.int .i64 0) := hk4'.cell 2
            have d3 : w4.cell? ⟨w.heap.size, 3, none⟩ = some (.int .i64 0) := hk4'.cell 3
            have d4 : w4.cell? ⟨w.heap.size, 4, none⟩ = some (.int .i64 0) := hk4'.cell 4
            have d5 : w4.cell? ⟨w.heap.size, 5, none⟩ = some (.int .i64 0) := hk4'.cell 5
            have z0 := hk4'.lt
            go_wp2_with fail
            exact ret_blk2 Tryz.results35 rfl rfl ((((((hk4'.set_ 0 _).set_ 1 _).set_ 2 _).set_ 3 _).set_ 4 _).set_ 5 _) Tryz.underlying47 rfl Tryz.sizeTerm6 ⟨.inl ⟨HN.out, rfl⟩, (((((hbl4.setCell (Nat.le_refl _) _).setCell (Nat.le_refl _) _).setCell (Nat.le_refl _) _).setCell (Nat.le_refl _) _).setCell (Nat.le_refl _) _).setCell (Nat.le_refl _) _⟩
          · have HN := Lib.hid (show o = (factsR ls (P.drop (0 + 1)) (addAt (0, 0, 0, 0) j x)).map fun m => (z, m) by rw [HO.out, hf])
            have HE := Lib.hid (show ∀ i, i < 4 → 0 ≤ gt (addAt (0, 0, 0, 0) j x) i ∧ gt (addAt (0, 0, 0, 0) j x) i ≤ ((0 + 1 : Nat) : Int) * 1073741824 from fun i hi => by have := gt_add hj4 hex hx0 hx1 i hi; omega)
            clear hf HO hk6 hnb hk4 hks hm2 hbl ho4
            go_wp2_with fail
            go_roundg (np - (0 + 1))
            case rel => exact ⟨0 + 1, z, addAt (0, 0, 0, 0) j x, A2, c2, by omega, rfl, by go_num, .inr ⟨by omega, HN.out⟩, HE.out, hk6', hcc, hnb4, hdl, hk4', hks', hbl4, hm4⟩
            case measure => have := HG.out; omega
        · have HO := Lib.hid (show o = (factsR ls (P.drop 1) (0, 0, 0, 0)).map fun m => (z', m) by rw [HO0.out, hp])
          have hd3 := decP_small hp
          clear HO0 hp hb3 hk6 hnb hk4 hks hm2 hbl hcs hnb'
          have hbx : Below w3.heap.size w3 (w3.alloc (.cells #[.bool (decide (z' < 0)), .slice A3 (dig z'.natAbs).length c3] 43)) := (Below.refl _ _).alloc (Nat.le_refl _) _
          have hkx := Blk.new w3 43 #[.bool (decide (z' < 0)), .slice A3 (dig z'.natAbs).length c3]
          have hk6 := hk6'.old hbx; have hnb := h2.old hbx; have hk4 := hk4'.old hbx; have hks := hks'.old hbx; have hm2 := hm3.old hbx
          have hbl := hbl3.trans (hbx.mono hbl3.size)
          have HEX := HHX
          clear hbx hk6' hk4' hks' hm3 hbl3 h2
          have x0 : (w3.alloc (.cells #[.bool (decide (z' < 0)), .slice A3 (dig z'.natAbs).length c3] 43)).cell? ⟨w3.heap.size, 0, none⟩ = some (.bool (decide (z' < 0))) := hkx.cell 0
          have x1 : (w3.alloc (.cells #[.bool (decide (z' < 0)), .slice A3 (dig z'.natAbs).length c3] 43)).cell? ⟨w3.heap.size, 1, none⟩ = some (.slice A3 (dig z'.natAbs).length c3) := hkx.cell 1
          have d0 : (w3.alloc (.cells #[.bool (decide (z' < 0)), .slice A3 (dig z'.natAbs).length c3] 43)).cell? ⟨g6, 0, none⟩ = some (.bool (decide (z < 0))) := hk6.cell 0
          have d1 : (w3.alloc (.cells #[.bool (decide (z' < 0)), .slice A3 (dig z'.natAbs).length c3] 43)).cell? ⟨g6, 1, none⟩ = some (.slice A2 (dig z.natAbs).length c2) := hk6.cell 1
          have f0 := hk6.frozen 0
          have f1 := hk6.frozen 1
          have z0 := hk6.lt
          have z4 := hk4.lt
          have HS6 := Lib.hid (show Blk (((w3.alloc (.cells #[.bool (decide (z' < 0)), .slice A3 (dig z'.natAbs).length c3] 43)).setCell ⟨g6, 0, none⟩ (.bool (decide (z' < 0)))).setCell ⟨g6, 1, none⟩ (.slice A3 (dig z'.natAbs).length c3)) g6 47 (cellsT (decide (z' < 0)) A3 (dig z'.natAbs).length c3 (0, 0, 0, 0)) from (hk6.set_ 0 _).set_ 1 _)
          have HN6 := Lib.hid (hnb.store2 hk6 (by decide) (.bool (decide (z' < 0))) (.slice A3 (dig z'.natAbs).length c3))
          have HS4 := Lib.hid ((hk4.far (p := ⟨g6, 0, none⟩) (by simp; omega) (.bool (decide (z' < 0)))).far (p := ⟨g6, 1, none⟩) (by simp; omega) (.slice A3 (dig z'.natAbs).length c3))
          have HSS := Lib.hid ((hks.far (p := ⟨g6, 0, none⟩) (by simp; omega) (.bool (decide (z' < 0)))).far (p := ⟨g6, 1, none⟩) (by simp; omega) (.slice A3 (dig z'.natAbs).length c3))
          have HSB := Lib.hid ((hbl.setCell (p := ⟨g6, 0, none⟩) (by simp; omega) (.bool (decide (z' < 0)))).setCell (p := ⟨g6, 1, none⟩) (by simp; omega) (.slice A3 (dig z'.natAbs).length c3))
          have HSM := Lib.hid (hm2.only ((Only.set_ (g := g6) (w3.alloc (.cells #[.bool (decide (z' < 0)), .slice A3 (dig z'.natAbs).length c3] 43)) 0 (.bool (decide (z' < 0)))).trans (Only.set_ (g := g6) _ 1 (.slice A3 (dig z'.natAbs).length c3))) hm0')
          have H1 := Lib.hid h1
          have HZL := Lib.hid (show (dig z'.natAbs).length ≤ 100000 by omega)
          clear hk6 hnb hk4 hks hm2 hbl hkx h1 hd3
          go_wp2_with fail
          go_roundg (np - 1)
          case rel => exact ⟨1, z', (0, 0, 0, 0), A3, c3, by omega, rfl, by go_num, .inr ⟨by omega, HO.out⟩, fun j hj => by have := HEX.out j hj; omega, HS6.out, H1.out, HN6.out, HZL.out, HS4.out, HSS.out, HSB.out, HSM.out⟩
          case measure => have := HG.out; omega
      · have HO := Lib.hid ho
        have HRF := Lib.hid (fun (W : World) (hW : Below w.heap.size w W) (hk : Blk W g6 47 (cellsT (decide (z < 0)) A2 (dig z.natAbs).length c2 m)) (hm : MaxL W) => readFactor_any pt A A2 c (dig z.natAbs).length c2 B g6 (decide (z < 0)) m ls W (by omega) (by rw [HLN.out]; exact HL.out.below (hW.mono hB)) (by rw [HLN.out]; exact h4) hk (fun j hj => by have := hex j hj; omega) hm)
        rw [HLN.out] at HRF
        have k0 : ((k : Int) == 0) = false := by simp; omega
        clear ho
        go_wp2_with fail
        refine (HRF.out _ hbl hk6 hm2).mono ?_
        rintro e w4 ⟨hr, ho4⟩
        have hnb4 := hnb.only hk6 (by decide) ho4
        have hk4' := hk4.only ho4 (by omega)
        have hks' := hks.only ho4 (by omega)
        have hm4 := hm2.only ho4 hm0'
        have hbl4 := hbl.grown ho4 hbl.size (fun k hk => by injection hk with hk; omega)
        rw [HDR.out, factsR] at HO
        rcases hr with ⟨hf, rfl, hk6'⟩ | ⟨j, x, hf, hj4, hx0, hx1, rfl, hk6'⟩
        · have HN := Lib.hid (show o = none by rw [HO.out, hf]; rfl)
          clear hf HO hk6 hnb hk4 hks hm2 hbl ho4
          have f0 := hk4'.frozen 0; have f1 := hk4'.frozen 1; have f2 := hk4'.frozen 2; have f3 := hk4'.frozen 3; have f4 := hk4'.frozen 4; have f5 := hk4'.frozen 5
          have d0 : w4.cell? ⟨w.heap.size, 0, none⟩ = some (.bool false) := hk4'.cell 0
          have d1 : w4.cell? ⟨w.heap.size, 1, none⟩ = some (.slice none 0 0) := hk4'.cell 1
          have d2 : w4.cell? ⟨w.heap.size, 2, none⟩ = some (.int .i64 0) := hk4'.cell 2
          have d3 : w4.cell? ⟨w.heap.size, 3, none⟩ = some (.int .i64 0) := hk4'.cell 3
          have d4 : w4.cell? ⟨w.heap.size, 4, none⟩ = some (.int .i64 0) := hk4'.cell 4
          have d5 : w4.cell? ⟨w.heap.size, 5, none⟩ = some (.int .i64 0) := hk4'.cell 5
          have z0 := hk4'.lt
          go_wp2_with fail
          exact ret_blk2 Tryz.results35 rfl rfl ((((((hk4'.set_ 0 _).set_ 1 _).set_ 2 _).set_ 3 _).set_ 4 _).set_ 5 _) Tryz.underlying47 rfl Tryz.sizeTerm6 ⟨.inl ⟨HN.out, rfl⟩, (((((hbl4.setCell (Nat.le_refl _) _).setCell (Nat.le_refl _) _).setCell (Nat.le_refl _) _).setCell (Nat.le_refl _) _).setCell (Nat.le_refl _) _).setCell (Nat.le_refl _) _⟩
        · have HN := Lib.hid (show o = (factsR ls (P.drop (k + 1)) (addAt m j x)).map fun m => (z, m) by rw [HO.out, hf])
          have HE := Lib.hid (show ∀ i, i < 4 → 0 ≤ gt (addAt m j x) i ∧ gt (addAt m j x) i ≤ ((k + 1 : Nat) : Int) * 1073741824 from fun i hi => by have := gt_add hj4 hex hx0 hx1 i hi; omega)
          clear hf HO hk6 hnb hk4 hks hm2 hbl ho4
          go_wp2_with fail
          go_roundg (np - (k + 1))
          case rel => exact ⟨k + 1, z, addAt m j x, A2, c2, by omega, rfl, by go_num, .inr ⟨by omega, HN.out⟩, HE.out, hk6', hcc, hnb4, hdl, hk4', hks', hbl4, hm4⟩
          case measure => have := HG.out; omega
    · obtain rfl : k = np := by omega
      have HO := Lib.hid (show o = some (z, m) by
        rcases hst with ⟨h, _⟩ | ⟨_, h⟩
        · omega
        · rw [h, List.drop_of_length_le (by rw [HNP.out]; exact Nat.le_refl _)]
          rfl)
      have HEX := Lib.hid (show ∀ j, j < 4 → 0 ≤ gt m j ∧ gt m j ≤ 200000 * 1073741824 from fun j hj => by have := hex j hj; omega)
      have hx0 : wr.cell? ⟨g6, 0, none⟩ = some (.bool (decide (z < 0))) := hk6.cell 0
      have hx1 : wr.cell? ⟨g6, 1, none⟩ = some (.slice A2 (dig z.natAbs).length c2) := hk6.cell 1
      have hx2 : wr.cell? ⟨g6, 2, none⟩ = some (.int .i64 m.1) := hk6.cell 2
      have hx3 : wr.cell? ⟨g6, 3, none⟩ = some (.int .i64 m.2.1) := hk6.cell 3
      have hx4 : wr.cell? ⟨g6, 4, none⟩ = some (.int .i64 m.2.2.1) := hk6.cell 4
      have hx5 : wr.cell? ⟨g6, 5, none⟩ = some (.int .i64 m.2.2.2) := hk6.cell 5
      have f0 := hk4.frozen 0; have f1 := hk4.frozen 1; have f2 := hk4.frozen 2; have f3 := hk4.frozen 3; have f4 := hk4.frozen 4; have f5 := hk4.frozen 5
      have d0 : wr.cell? ⟨w.heap.size, 0, none⟩ = some (.bool false) := hk4.cell 0
      have d1 : wr.cell? ⟨w.heap.size, 1, none⟩ = some (.slice none 0 0) := hk4.cell 1
      have d2 : wr.cell? ⟨w.heap.size, 2, none⟩ = some (.int .i64 0) := hk4.cell 2
      have d3 : wr.cell? ⟨w.heap.size, 3, none⟩ = some (.int .i64 0) := hk4.cell 3
      have d4 : wr.cell? ⟨w.heap.size, 4, none⟩ = some (.int .i64 0) := hk4.cell 4
      have d5 : wr.cell? ⟨w.heap.size, 5, none⟩ = some (.int .i64 0) := hk4.cell 5
      have z0 := hk4.lt
      have z6 := hk6.lt
      have HK4 := Lib.hid hk4; have HBL := Lib.hid hbl
      have HNB := Lib.hid (((hnb.far hk4 (by decide) 0 (.bool (decide (z < 0)))).far (hk4.set_ 0 _) (by decide) 1 (.slice A2 (dig z.natAbs).length c2)).far ((hk4.set_ 0 _).set_ 1 _) (by decide) 2 (.int .i64 m.1) |>.far (((hk4.set_ 0 _).set_ 1 _).set_ 2 _) (by decide) 3 (.int .i64 m.2.1) |>.far ((((hk4.set_ 0 _).set_ 1 _).set_ 2 _).set_ 3 _) (by decide) 4 (.int .i64 m.2.2.1) |>.far (((((hk4.set_ 0 _).set_ 1 _).set_ 2 _).set_ 3 _).set_ 4 _) (by decide) 5 (.int .i64 m.2.2.2))
      clear hex hst hk6 hks hnb hk4 hbl hm2
      go_wp2_with fail
      exact ret_blk2 Tryz.results35 rfl rfl ((((((HK4.out.set_ 0 _).set_ 1 _).set_ 2 _).set_ 3 _).set_ 4 _).set_ 5 _) Tryz.underlying47 rfl Tryz.sizeTerm6 ⟨.inr ⟨z, m, HO.out, A2, c2, rfl, hcc, HNB.out, hdl, HEX.out⟩, (((((HBL.out.setCell (Nat.le_refl _) _).setCell (Nat.le_refl _) _).setCell (Nat.le_refl _) _).setCell (Nat.le_refl _) _).setCell (Nat.le_refl _) _).setCell (Nat.le_refl _) _⟩
end Go.Proofs.YtnghlhcekghciaaGreatDoor

/- Contract of polytext.read. -/
namespace Go.Proofs.YtnghlhcekghciaaGreatDoor
open Go.RowKit

def readGo (ls : List Bs) : Nat → Bool → Bs → List Tm → Option (List Tm)
  | 0, _, _, _ => none
  | n + 1, mi, rest, acc => match termR ls (Lib.cut rest [32]).1 with
    | none => none
    | some (z, m) => if (Lib.cut rest [32]).2.2 = false then some (acc ++ [(if mi then -z else z, m)])
      else if Lib.hasPrefix (Lib.cut rest [32]).2.1 [43, 32] then readGo ls n false ((Lib.cut rest [32]).2.1.drop 2) (acc ++ [(if mi then -z else z, m)])
      else if Lib.hasPrefix (Lib.cut rest [32]).2.1 [45, 32] then readGo ls n true ((Lib.cut rest [32]).2.1.drop 2) (acc ++ [(if mi then -z else z, m)])
      else none
def readR (ls : List Bs) (s : Bs) : Option (List Tm) := readGo ls (s.length + 1) (Lib.hasPrefix s [45]) (Lib.trimPrefix s [45]) []
/-- bounds of a term that was read -/
structure QRd (q : PT) : Prop where
  cn : Cn q
  sm : (dig q.tm.1.natAbs).length ≤ 100000
  ex : ∀ j, j < 4 → 0 ≤ gt q.m j ∧ gt q.m j ≤ 200000 * 1073741824
def ReadRes (o : Option (List Tm)) (N : Nat) (w : World) (e : Ending) (w' : World) : Prop :=
  ((o = none ∧ e = .returned (.tuple #[.slice none 0 0, .bool false])) ∨
    ∃ qs A c, o = some (qs.map PT.tm) ∧ e = .returned (.tuple #[.slice A qs.length c, .bool true]) ∧ PRow w' w.heap.size (.slice A qs.length c) qs ∧ (∀ q ∈ qs, QRd q) ∧ qs.length ≤ N + 1) ∧ Below w.heap.size w w'
theorem NatB.natK {w : World} {A : Option Addr} {ds : List Nat} (h : NatB w A ds) : NatK w A ds := by
  rcases h with h | ⟨g, zs, h1, h2, h3⟩
  · exact .inl h
  · refine .inr ⟨g, _, h1, h2, ?_⟩
    rw [List.toList_toArray]
    unfold u32s
    rw [← List.map_take, ← h3]
theorem cut_more {l : Bs} {c : UInt8} (h : (Lib.cut l [c]).2.2 = true) : (Lib.cut l [c]).2.1.length + 1 ≤ l.length := by
  unfold Lib.cut at *
  split
  · rename_i hi
    have := Lib.index_room l [c] hi
    simp only [List.length_drop, List.length_singleton] at *
    omega
  · rename_i hi
    rw [if_neg hi] at h
    cases h
theorem hasP_len {l p : Bs} (h : Lib.hasPrefix l p = true) : p.length ≤ l.length := by
  unfold Lib.hasPrefix at h
  exact (List.isPrefixOf_iff_prefix.1 h).length_le
theorem HasP_any (l p : Bs) (w : World) : Calls Tryz.prog 37 #[.string ⟨l.toArray⟩, .string ⟨p.toArray⟩] w fun e w' => e = .returned (.bool (Lib.hasPrefix l p)) ∧ w' = w := Tryz.strings_HasPrefix ⟨l.toArray⟩ ⟨p.toArray⟩ w
theorem CutP_any (l p : Bs) (w : World) : Calls Tryz.prog 33 #[.string ⟨l.toArray⟩, .string ⟨p.toArray⟩] w fun e w' => e = .returned (.tuple #[.string ⟨(Lib.trimPrefix l p).toArray⟩, .bool (Lib.hasPrefix l p)]) ∧ w' = w := Tryz.strings_CutPrefix ⟨l.toArray⟩ ⟨p.toArray⟩ w
theorem trimP_len (l p : Bs) : (Lib.trimPrefix l p).length ≤ l.length := by
  unfold Lib.trimPrefix
  split
  · rw [List.length_drop]; omega
  · exact Nat.le_refl _

set_option maxHeartbeats 4000000 in
set_option maxRecDepth 100000 in
theorem read_any (s : Bs) (A : Option Addr) (c B : Nat) (ls : List Bs) (w : World) (hs : s.length ≤ 100000) (hB : B ≤ w.heap.size) (hl : Reads w B 1 A ls.length (ls.map strV)) (h4 : ls.length ≤ 4) (hm : MaxL w) :
    Calls Tryz.prog 17 #[.string ⟨s.toArray⟩, .slice A ls.length c] w (ReadRes (readR ls s) s.length w) := by
  obtain ⟨i0, hi0, hz0, hz1, hz2⟩ := info_parts Tryz.infoTerm
  have HCP := Lib.hid (CutP_any s [45] w)
  have htl := trimP_len s [45]
  have HRO := Lib.hid (show readR ls s = readGo ls (s.length + 1) (Lib.hasPrefix s [45]) (Lib.trimPrefix s [45]) [] from rfl)
  have HL := Lib.hid (fun (W : World) (hW : Below w.heap.size w W) => hl.below (hW.mono hB))
  have HM := Lib.hid hm
  generalize readR ls s = o at *
  generalize Lib.trimPrefix s [45] = r0 at *
  generalize Lib.hasPrefix s [45] = mi0 at *
  clear hl hm
  generalize hnl : ls.length = nl at *
  have HLN := Lib.hid hnl
  clear hnl
  generalize hsl : s.length = sl at *
  go_enter Tryz.func17, Tryz.ntmps17
  go_wp2_with fail
  refine HCP.out.mono ?_
  rintro e w' ⟨rfl, hw'⟩
  rw [hw']
  clear hw'
  go_wp2_with fail
  go_loopg [6, 7, 8, 9, 10, 11, 12, 13, 45, 48] r0.length (fun gn lv rv mv _ _ _ _ _ _ _ wr => ∃ (n : Nat) (rest : Bs) (mi : Bool) (qs : List PT), gn = rest.length ∧ rv = .string ⟨rest.toArray⟩ ∧ mv = .bool mi ∧ o = readGo ls n mi rest (qs.map PT.tm) ∧ rest.length < n ∧ qs.length + rest.length ≤ sl ∧ (∀ q ∈ qs, QRd q) ∧ PRow wr w.heap.size lv qs ∧ Below w.heap.size w wr)
  case atStart => exact ⟨sl + 1, r0, mi0, [], rfl, rfl, rfl, HRO.out, by omega, by simpa using htl, by simp, PRow.nil _ _, Below.refl _ _⟩
  case round =>
    clear HRO htl
    obtain ⟨n, rest, mi, qs, hgn, rfl, rfl, ho, hn, hlen, hq, hrow, hbl⟩ := hrel
    have HG := Lib.hid hgn; have HQ := Lib.hid hq
    clear hgn hq
    obtain ⟨n, rfl⟩ : ∃ k, n = k + 1 := ⟨n - 1, by omega⟩
    rw [readGo] at ho
    have hmw := HM.out.old hbl
    have HCU := Lib.hid (Cut_any rest 32 wr (by omega) hmw)
    have hcl := cut_len rest [32]
    have hcm := @cut_more rest 32
    generalize (Lib.cut rest [32]).1 = tx at *
    generalize (Lib.cut rest [32]).2.1 = af at *
    generalize (Lib.cut rest [32]).2.2 = mo at *
    have HRT := Lib.hid (fun (W : World) (hW : Below w.heap.size w W) (hm : MaxL W) => readTerm_any tx A c B ls W (by omega) (Nat.le_trans hB hW.size) (by rw [HLN.out]; exact HL.out W hW) (by rw [HLN.out]; exact h4) hm)
    rw [HLN.out] at HRT
    have HO := Lib.hid ho; have HCM := Lib.hid hcm
    clear ho hcm
    generalize termR ls tx = tr at *
    obtain ⟨Aq, cq, rfl⟩ := own_slice6 hrow.row
    go_wp2_with fail
    refine HCU.out.mono ?_
    rintro e w1 ⟨rfl, hdr⟩
    have hbd := hdr.below wr.heap.size
    have hbl1 := hbl.trans (hbd.mono hbl.size)
    have hrow1 := hrow.old hbd
    have hm1 := hmw.old hbd
    clear hdr hbd hrow hbl hmw
    go_wp2_with fail
    refine (HRT.out _ hbl1 hm1).mono ?_
    rintro e w2 ⟨hr, hb2⟩
    have hbl2 := hbl1.trans (hb2.mono hbl1.size)
    have hrow2 := hrow1.old hb2
    have hm2 := hm1.old hb2
    clear hb2 hrow1 hbl1 hm1
    rcases hr with ⟨ht, rfl⟩ | ⟨z, m, ht, A2, c2, rfl, h1, h2, h3, h5⟩
    · have HN := Lib.hid (show o = none by rw [HO.out, ht])
      have hbl3 := hbl2.alloc hbl2.size (.cells #[.bool false, .slice none 0 0, .int .i64 0, .int .i64 0, .int .i64 0, .int .i64 0] 47)
      clear HO ht hrow2 hm2 hbl2
      go_wp2_with fail
      go_ret2
      exact ⟨.inl ⟨HN.out, rfl⟩, hbl3⟩
    · have HO2 := Lib.hid (show o = if mo = false then some (qs.map PT.tm ++ [(if mi then -z else z, m)])
          else if Lib.hasPrefix af [43, 32] then readGo ls n false (af.drop 2) (qs.map PT.tm ++ [(if mi then -z else z, m)])
          else if Lib.hasPrefix af [45, 32] then readGo ls n true (af.drop 2) (qs.map PT.tm ++ [(if mi then -z else z, m)])
          else none by rw [HO.out, ht])
      have H1 := Lib.hid h1; have H3 := Lib.hid h3; have H5 := Lib.hid h5
      have hba := (Below.refl w2.heap.size w2).alloc (Nat.le_refl _) (.cells (cellsT (decide (z < 0)) A2 (dig z.natAbs).length c2 m) 47)
      have hkt := Blk.new w2 47 (cellsT (decide (z < 0)) A2 (dig z.natAbs).length c2 m)
      have hnb := h2.old hba
      have hrow3 := hrow2.old hba
      have hbl3 := hbl2.trans (hba.mono hbl2.size)
      have hg2 := hbl2.size
      clear HO ht hm2 h1 h3 h5 h2
      have HBL2 := Lib.hid hbl2
      clear hbl2
      unfold cellsT at hkt hnb hrow3 hbl3 ⊢
      cases mi with
      | false =>
        have hcc := H1.out
        rw [show (if false = true then -z else z) = z from rfl] at HO2
        have HYA := Lib.hid (rfl : z.natAbs = z.natAbs)
        clear hrow2 hba
        have HCN := Lib.hid (show QRd (mkP (z) A2 c2 m) from ⟨mkP_cn _ _ _ _, by rw [mkP_tm]; have h1 := H3.out; rw [← HYA.out] at h1; exact h1, H5.out⟩)
        have HTM := Lib.hid (show (qs ++ [mkP (z) A2 c2 m]).map PT.tm = qs.map PT.tm ++ [(z, m)] by rw [List.map_append, List.map_singleton, mkP_tm])
        have HDL := Lib.hid (show (dig (z).natAbs).length ≤ c2 from hcc)
        have d0 : (w2.alloc (.cells #[.bool (decide (z < 0)), .slice A2 (dig z.natAbs).length c2, .int .i64 m.1, .int .i64 m.2.1, .int .i64 m.2.2.1, .int .i64 m.2.2.2] 47)).cell? ⟨w2.heap.size, 0, none⟩ = some (.bool (decide (z < 0))) := hkt.cell 0
        have d1 : (w2.alloc (.cells #[.bool (decide (z < 0)), .slice A2 (dig z.natAbs).length c2, .int .i64 m.1, .int .i64 m.2.1, .int .i64 m.2.2.1, .int .i64 m.2.2.2] 47)).cell? ⟨w2.heap.size, 1, none⟩ = some (.slice A2 (dig (z).natAbs).length c2) := hkt.cell 1
        have d2 : (w2.alloc (.cells #[.bool (decide (z < 0)), .slice A2 (dig z.natAbs).length c2, .int .i64 m.1, .int .i64 m.2.1, .int .i64 m.2.2.1, .int .i64 m.2.2.2] 47)).cell? ⟨w2.heap.size, 2, none⟩ = some (.int .i64 m.1) := hkt.cell 2
        have d3 : (w2.alloc (.cells #[.bool (decide (z < 0)), .slice A2 (dig z.natAbs).length c2, .int .i64 m.1, .int .i64 m.2.1, .int .i64 m.2.2.1, .int .i64 m.2.2.2] 47)).cell? ⟨w2.heap.size, 3, none⟩ = some (.int .i64 m.2.1) := hkt.cell 3
        have d4 : (w2.alloc (.cells #[.bool (decide (z < 0)), .slice A2 (dig z.natAbs).length c2, .int .i64 m.1, .int .i64 m.2.1, .int .i64 m.2.2.1, .int .i64 m.2.2.2] 47)).cell? ⟨w2.heap.size, 4, none⟩ = some (.int .i64 m.2.2.1) := hkt.cell 4
        have d5 : (w2.alloc (.cells #[.bool (decide (z < 0)), .slice A2 (dig z.natAbs).length c2, .int .i64 m.1, .int .i64 m.2.1, .int .i64 m.2.2.1, .int .i64 m.2.2.2] 47)).cell? ⟨w2.heap.size, 5, none⟩ = some (.int .i64 m.2.2.2) := hkt.cell 5
        have z0 := hkt.lt
        have hba2 := (Below.refl (w2.alloc (.cells #[.bool (decide (z < 0)), .slice A2 (dig z.natAbs).length c2, .int .i64 m.1, .int .i64 m.2.1, .int .i64 m.2.2.1, .int .i64 m.2.2.2] 47)).heap.size (w2.alloc (.cells #[.bool (decide (z < 0)), .slice A2 (dig z.natAbs).length c2, .int .i64 m.1, .int .i64 m.2.1, .int .i64 m.2.2.1, .int .i64 m.2.2.2] 47))).alloc (Nat.le_refl _) (.cells #[.bool (decide (z < 0)), .slice A2 (dig (z).natAbs).length c2, .int .i64 m.1, .int .i64 m.2.1, .int .i64 m.2.2.1, .int .i64 m.2.2.2] 47)
        have hrow4 := hrow3.old hba2
        have hrd := Reads.six_new (w2.alloc (.cells #[.bool (decide (z < 0)), .slice A2 (dig z.natAbs).length c2, .int .i64 m.1, .int .i64 m.2.1, .int .i64 m.2.2.1, .int .i64 m.2.2.2] 47)) (mkP (z) A2 c2 m).cells rfl 47
        rw [show (w2.alloc (.cells #[.bool (decide (z < 0)), .slice A2 (dig z.natAbs).length c2, .int .i64 m.1, .int .i64 m.2.1, .int .i64 m.2.2.1, .int .i64 m.2.2.2] 47)).heap.size = w2.heap.size + 1 by simp] at hrd
        have hone := cells_one [mkP (z) A2 c2 m]
        have h63 : qs.length + 1 ≤ maxLen := by unfold maxLen; omega
        have hby : (qs.length + 1) * 64 ≤ 140737488355328 := by omega
        have hbl4 := hbl3.trans (hba2.mono hbl3.size)
        have hbX := hbl4.size
        have hnk := (hnb.old hba2).natK
        simp only [PT.cells, mkP] at hrd
        go_wp2_with (at_builtin; refine wpList_append_any _ rfl (.tmp 38) (.tmp 40) 26 rfl w.heap.size 47 i0 _ 6 64 Tryz.underlying26 hi0 hz0 hz1 hz2 rfl (by decide) (.slice Aq qs.length cq) qs.length (qs.flatMap PT.cells) rfl hrow4.row (w2.heap.size + 1 + 1) (some ⟨w2.heap.size + 1, 0, none⟩) 1 1 _ rfl hrd (by simpa [PT.cells, mkP] using hone) h63 hby hbX ?_; intro v5 w5 hown5 hg5 hat5; refine Hid.out ?_)
        refine Lib.hid ?_
        have hrow5 := hrow4.snoc (p := mkP (z) A2 c2 m) ⟨hnk, dig_dig _, HDL.out⟩ (by simpa [PT.cells, mkP] using hown5) hg5
        have hbl5 := hbl4.grown hg5 hbX (fun k hk => (hrow4.row.lt k hk).1)
        have HR5 := Lib.hid hrow5; have HB5 := Lib.hid hbl5
        have HQ5 := Lib.hid (show ∀ q ∈ qs ++ [mkP (z) A2 c2 m], QRd q from fun q hq => by
          rcases List.mem_append.1 hq with hq | hq
          · exact HQ.out q hq
          · rw [List.mem_singleton] at hq; subst hq; exact HCN.out)
        clear hown5 hg5 hat5 hrow3 hrow4 hrow5 hbl3 hbl4 hbl5 hba2 hrd hone hbX hnk hnb hkt d0 d1 d2 d3 d4 d5 z0
        obtain ⟨A5, c5, rfl⟩ := own_slice6 HR5.out.row
        rw [List.length_append, List.length_singleton] at HR5
        cases mo with
        | false =>
          have HN := Lib.hid (show o = some ((qs ++ [mkP (z) A2 c2 m]).map PT.tm) by rw [HO2.out, if_pos rfl, HTM.out])
          clear HO2
          go_wp2_with fail
          go_ret2
          exact ⟨.inr ⟨qs ++ [mkP (z) A2 c2 m], A5, c5, HN.out, by rw [List.length_append, List.length_singleton]; rfl, by rw [List.length_append, List.length_singleton]; exact HR5.out, HQ5.out, by rw [List.length_append, List.length_singleton]; omega⟩, HB5.out⟩
        | true =>
          rw [if_neg (by decide)] at HO2
          have haf := HCM.out rfl
          have HPL := Lib.hid (fun (W : World) => HasP_any af [43, 32] W)
          have HMI := Lib.hid (fun (W : World) => HasP_any af [45, 32] W)
          have HLP := Lib.hid (@hasP_len af [43, 32]); have HLM := Lib.hid (@hasP_len af [45, 32])
          generalize Lib.hasPrefix af [43, 32] = pl at *
          generalize Lib.hasPrefix af [45, 32] = mn at *
          cases pl with
          | true =>
            have hl2 := HLP.out rfl
            have HN := Lib.hid (show o = readGo ls n false (af.drop 2) ((qs ++ [mkP (z) A2 c2 m]).map PT.tm) by rw [HO2.out, if_pos rfl, HTM.out])
            have hsd : ∀ W, (Instr.slice 9 (.string ⟨af.toArray⟩) (some (.int .i64 2)) none none).run Tryz.prog W = .ok (.string ⟨(af.drop 2).toArray⟩) W := fun W => Tryz.str_drop af 2 hl2 W
            have HDR := Lib.hid (show (af.drop 2).length = af.length - 2 from List.length_drop)
            have hl3 : (2 : Int) ≤ (af.length : Int) := by simp at hl2; omega
            generalize af.drop 2 = rest2 at *
            clear HO2 hl2
            go_wp2_with fail
            refine (HPL.out _).mono ?_
            rintro e w' ⟨rfl, hw'⟩
            rw [hw']
            clear hw'
            go_wp2_with fail
            go_roundg rest2.length
            case rel => exact ⟨n, rest2, false, _, rfl, rfl, rfl, HN.out, by have := HDR.out; omega, by rw [List.length_append, List.length_singleton]; have := HDR.out; omega, HQ5.out, HR5.out, HB5.out⟩
            case measure => have := HG.out; have := HDR.out; omega
          | false =>
            rw [if_neg (by decide)] at HO2
            cases mn with
            | true =>
              have hl2 := HLM.out rfl
              have HN := Lib.hid (show o = readGo ls n true (af.drop 2) ((qs ++ [mkP (z) A2 c2 m]).map PT.tm) by rw [HO2.out, if_pos rfl, HTM.out])
              have hsd : ∀ W, (Instr.slice 9 (.string ⟨af.toArray⟩) (some (.int .i64 2)) none none).run Tryz.prog W = .ok (.string ⟨(af.drop 2).toArray⟩) W := fun W => Tryz.str_drop af 2 hl2 W
              have HDR := Lib.hid (show (af.drop 2).length = af.length - 2 from List.length_drop)
              have hl3 : (2 : Int) ≤ (af.length : Int) := by simp at hl2; omega
              generalize af.drop 2 = rest2 at *
              clear HO2 hl2
              go_wp2_with fail
              refine (HPL.out _).mono ?_
              rintro e w' ⟨rfl, hw'⟩
              rw [hw']
              clear hw'
              go_wp2_with fail
              refine (HMI.out _).mono ?_
              rintro e w' ⟨rfl, hw'⟩
              rw [hw']
              clear hw'
              go_wp2_with fail
              go_roundg rest2.length
              case rel => exact ⟨n, rest2, true, _, rfl, rfl, rfl, HN.out, by have := HDR.out; omega, by rw [List.length_append, List.length_singleton]; have := HDR.out; omega, HQ5.out, HR5.out, HB5.out⟩
              case measure => have := HG.out; have := HDR.out; omega
            | false =>
              have HN := Lib.hid (show o = none by rw [HO2.out, if_neg (by decide)])
              clear HO2
              go_wp2_with fail
              refine (HPL.out _).mono ?_
              rintro e w' ⟨rfl, hw'⟩
              rw [hw']
              clear hw'
              go_wp2_with fail
              refine (HMI.out _).mono ?_
              rintro e w' ⟨rfl, hw'⟩
              rw [hw']
              clear hw'
              go_wp2_with fail
              go_ret2
              exact ⟨.inl ⟨HN.out, rfl⟩, HB5.out⟩
      | true =>
        obtain ⟨y, hy⟩ : ∃ y : Int, y = -z := ⟨_, rfl⟩
        rw [show (if true = true then -z else z) = y from hy.symm] at HO2
        have HYA := Lib.hid (show y.natAbs = z.natAbs by rw [hy]; exact Int.natAbs_neg z)
        have HNG := Lib.hid (INeg_any (decide (z < 0)) A2 c2 _ (dig z.natAbs) _ (Nat.le_refl _) ⟨hnb.reads, dig_dig _, H1.out⟩ (by have := H3.out; omega))
        rw [ival_own, ← hy] at HNG
        have d0 : (w2.alloc (.cells #[.bool (decide (z < 0)), .slice A2 (dig z.natAbs).length c2, .int .i64 m.1, .int .i64 m.2.1, .int .i64 m.2.2.1, .int .i64 m.2.2.2] 47)).cell? ⟨w2.heap.size, 0, none⟩ = some (.bool (decide (z < 0))) := hkt.cell 0
        have d1 : (w2.alloc (.cells #[.bool (decide (z < 0)), .slice A2 (dig z.natAbs).length c2, .int .i64 m.1, .int .i64 m.2.1, .int .i64 m.2.2.1, .int .i64 m.2.2.2] 47)).cell? ⟨w2.heap.size, 1, none⟩ = some (.slice A2 (dig z.natAbs).length c2) := hkt.cell 1
        have z0 := hkt.lt
        have HKT := Lib.hid hkt
        have HBA := Lib.hid hba; have HROW2 := Lib.hid hrow2
        unfold IntRes at HNG
        clear hnb hrow3 hbl3 hy hkt hba hrow2
        go_wp2_with fail
        refine HNG.out.mono ?_
        rintro e w4 ⟨A4, c4, rfl, hcc, k2, k3⟩
        have hk4 := HKT.out.old k3
        have hkt := (hk4.set_ 0 (.bool (decide (y < 0)))).set_ 1 (.slice A4 (dig y.natAbs).length c4)
        have hnb := k2.store2 hk4 (by decide) (.bool (decide (y < 0))) (.slice A4 (dig y.natAbs).length c4)
        have hB5 := ((HBA.out.trans (k3.mono HBA.out.size)).setCell (p := ⟨w2.heap.size, 0, none⟩) (Nat.le_refl _) (.bool (decide (y < 0)))).setCell (p := ⟨w2.heap.size, 1, none⟩) (Nat.le_refl _) (.slice A4 (dig y.natAbs).length c4)
        have hrow3 := HROW2.out.old hB5
        have hbl3 := HBL2.out.trans (hB5.mono HBL2.out.size)
        have e0 : w4.cell? ⟨w2.heap.size, 0, none⟩ = some (.bool (decide (z < 0))) := hk4.cell 0
        have e1 : w4.cell? ⟨w2.heap.size, 1, none⟩ = some (.slice A2 (dig z.natAbs).length c2) := hk4.cell 1
        have f0 := hk4.frozen 0
        have f1 := hk4.frozen 1
        have z4 := hk4.lt
        clear k2 k3 d0 d1 z0 hB5
        have HCN := Lib.hid (show QRd (mkP (y) A4 c4 m) from ⟨mkP_cn _ _ _ _, by rw [mkP_tm]; have h1 := H3.out; rw [← HYA.out] at h1; exact h1, H5.out⟩)
        have HTM := Lib.hid (show (qs ++ [mkP (y) A4 c4 m]).map PT.tm = qs.map PT.tm ++ [(y, m)] by rw [List.map_append, List.map_singleton, mkP_tm])
        have HDL := Lib.hid (show (dig (y).natAbs).length ≤ c4 from hcc)
        have d0 : ((w4.setCell ⟨w2.heap.size, 0, none⟩ (.bool (decide (y < 0)))).setCell ⟨w2.heap.size, 1, none⟩ (.slice A4 (dig y.natAbs).length c4)).cell? ⟨w2.heap.size, 0, none⟩ = some (.bool (decide (y < 0))) := hkt.cell 0
        have d1 : ((w4.setCell ⟨w2.heap.size, 0, none⟩ (.bool (decide (y < 0)))).setCell ⟨w2.heap.size, 1, none⟩ (.slice A4 (dig y.natAbs).length c4)).cell? ⟨w2.heap.size, 1, none⟩ = some (.slice A4 (dig (y).natAbs).length c4) := hkt.cell 1
        have d2 : ((w4.setCell ⟨w2.heap.size, 0, none⟩ (.bool (decide (y < 0)))).setCell ⟨w2.heap.size, 1, none⟩ (.slice A4 (dig y.natAbs).length c4)).cell? ⟨w2.heap.size, 2, none⟩ = some (.int .i64 m.1) := hkt.cell 2
        have d3 : ((w4.setCell ⟨w2.heap.size, 0, none⟩ (.bool (decide (y < 0)))).setCell ⟨w2.heap.size, 1, none⟩ (.slice A4 (dig y.natAbs).length c4)).cell? ⟨w2.heap.size, 3, none⟩ = some (.int .i64 m.2.1) := hkt.cell 3
        have d4 : ((w4.setCell ⟨w2.heap.size, 0, none⟩ (.bool (decide (y < 0)))).setCell ⟨w2.heap.size, 1, none⟩ (.slice A4 (dig y.natAbs).length c4)).cell? ⟨w2.heap.size, 4, none⟩ = some (.int .i64 m.2.2.1) := hkt.cell 4
        have d5 : ((w4.setCell ⟨w2.heap.size, 0, none⟩ (.bool (decide (y < 0)))).setCell ⟨w2.heap.size, 1, none⟩ (.slice A4 (dig y.natAbs).length c4)).cell? ⟨w2.heap.size, 5, none⟩ = some (.int .i64 m.2.2.2) := hkt.cell 5
        have z0 := hkt.lt
        have hba2 := (Below.refl ((w4.setCell ⟨w2.heap.size, 0, none⟩ (.bool (decide (y < 0)))).setCell ⟨w2.heap.size, 1, none⟩ (.slice A4 (dig y.natAbs).length c4)).heap.size ((w4.setCell ⟨w2.heap.size, 0, none⟩ (.bool (decide (y < 0)))).setCell ⟨w2.heap.size, 1, none⟩ (.slice A4 (dig y.natAbs).length c4))).alloc (Nat.le_refl _) (.cells #[.bool (decide (y < 0)), .slice A4 (dig (y).natAbs).length c4, .int .i64 m.1, .int .i64 m.2.1, .int .i64 m.2.2.1, .int .i64 m.2.2.2] 47)
        have hrow4 := hrow3.old hba2
        have hrd := Reads.six_new ((w4.setCell ⟨w2.heap.size, 0, none⟩ (.bool (decide (y < 0)))).setCell ⟨w2.heap.size, 1, none⟩ (.slice A4 (dig y.natAbs).length c4)) (mkP (y) A4 c4 m).cells rfl 47
        rw [show ((w4.setCell ⟨w2.heap.size, 0, none⟩ (.bool (decide (y < 0)))).setCell ⟨w2.heap.size, 1, none⟩ (.slice A4 (dig y.natAbs).length c4)).heap.size = w4.heap.size by simp] at hrd
        have hone := cells_one [mkP (y) A4 c4 m]
        have h63 : qs.length + 1 ≤ maxLen := by unfold maxLen; omega
        have hby : (qs.length + 1) * 64 ≤ 140737488355328 := by omega
        have hbl4 := hbl3.trans (hba2.mono hbl3.size)
        have hbX := hbl4.size
        have hnk := (hnb.old hba2).natK
        simp only [PT.cells, mkP] at hrd
        go_wp2_with (at_builtin; refine wpList_append_any _ rfl (.tmp 38) (.tmp 40) 26 rfl w.heap.size 47 i0 _ 6 64 Tryz.underlying26 hi0 hz0 hz1 hz2 rfl (by decide) (.slice Aq qs.length cq) qs.length (qs.flatMap PT.cells) rfl hrow4.row (w4.heap.size + 1) (some ⟨w4.heap.size, 0, none⟩) 1 1 _ rfl hrd (by simpa [PT.cells, mkP] using hone) h63 hby hbX ?_; intro v5 w5 hown5 hg5 hat5; refine Hid.out ?_)
        refine Lib.hid ?_
        have hrow5 := hrow4.snoc (p := mkP (y) A4 c4 m) ⟨hnk, dig_dig _, HDL.out⟩ (by simpa [PT.cells, mkP] using hown5) hg5
        have hbl5 := hbl4.grown hg5 hbX (fun k hk => (hrow4.row.lt k hk).1)
        have HR5 := Lib.hid hrow5; have HB5 := Lib.hid hbl5
        have HQ5 := Lib.hid (show ∀ q ∈ qs ++ [mkP (y) A4 c4 m], QRd q from fun q hq => by
          rcases List.mem_append.1 hq with hq | hq
          · exact HQ.out q hq
          · rw [List.mem_singleton] at hq; subst hq; exact HCN.out)
        clear hown5 hg5 hat5 hrow3 hrow4 hrow5 hbl3 hbl4 hbl5 hba2 hrd hone hbX hnk hnb hkt d0 d1 d2 d3 d4 d5 z0
        obtain ⟨A5, c5, rfl⟩ := own_slice6 HR5.out.row
        rw [List.length_append, List.length_singleton] at HR5
        cases mo with
        | false =>
          have HN := Lib.hid (show o = some ((qs ++ [mkP (y) A4 c4 m]).map PT.tm) by rw [HO2.out, if_pos rfl, HTM.out])
          clear HO2
          go_wp2_with fail
          go_ret2
          exact ⟨.inr ⟨qs ++ [mkP (y) A4 c4 m], A5, c5, HN.out, by rw [List.length_append, List.length_singleton]; rfl, by rw [List.length_append, List.length_singleton]; exact HR5.out, HQ5.out, by rw [List.length_append, List.length_singleton]; omega⟩, HB5.out⟩
        | true =>
          rw [if_neg (by decide)] at HO2
          have haf := HCM.out rfl
          have HPL := Lib.hid (fun (W : World) => HasP_any af [43, 32] W)
          have HMI := Lib.hid (fun (W : World) => HasP_any af [45, 32] W)
          have HLP := Lib.hid (@hasP_len af [43, 32]); have HLM := Lib.hid (@hasP_len af [45, 32])
          generalize Lib.hasPrefix af [43, 32] = pl at *
          generalize Lib.hasPrefix af [45, 32] = mn at *
          cases pl with
          | true =>
            have hl2 := HLP.out rfl
            have HN := Lib.hid (show o = readGo ls n false (af.drop 2) ((qs ++ [mkP (y) A4 c4 m]).map PT.tm) by rw [HO2.out, if_pos rfl, HTM.out])
            have hsd : ∀ W, (Instr.slice 9 (.string ⟨af.toArray⟩) (some (.int .i64 2)) none none).run Tryz.prog W = .ok (.string ⟨(af.drop 2).toArray⟩) W := fun W => Tryz.str_drop af 2 hl2 W
            have HDR := Lib.hid (show (af.drop 2).length = af.length - 2 from List.length_drop)
            have hl3 : (2 : Int) ≤ (af.length : Int) := by simp at hl2; omega
            generalize af.drop 2 = rest2 at *
            clear HO2 hl2
            go_wp2_with fail
            refine (HPL.out _).mono ?_
            rintro e w' ⟨rfl, hw'⟩
            rw [hw']
            clear hw'
            go_wp2_with fail
            go_roundg rest2.length
            case rel => exact ⟨n, rest2, false, _, rfl, rfl, rfl, HN.out, by have := HDR.out; omega, by rw [List.length_append, List.length_singleton]; have := HDR.out; omega, HQ5.out, HR5.out, HB5.out⟩
            case measure => have := HG.out; have := HDR.out; omega
          | false =>
            rw [if_neg (by decide)] at HO2
            cases mn with
            | true =>
              have hl2 := HLM.out rfl
              have HN := Lib.hid (show o = readGo ls n true (af.drop 2) ((qs ++ [mkP (y) A4 c4 m]).map PT.tm) by rw [HO2.out, if_pos rfl, HTM.out])
              have hsd : ∀ W, (Instr.slice 9 (.string ⟨af.toArray⟩) (some (.int .i64 2)) none none).run Tryz.prog W = .ok (.string ⟨(af.drop 2).toArray⟩) W := fun W => Tryz.str_drop af 2 hl2 W
              have HDR := Lib.hid (show (af.drop 2).length = af.length - 2 from List.length_drop)
              have hl3 : (2 : Int) ≤ (af.length : Int) := by simp at hl2; omega
              generalize af.drop 2 = rest2 at *
              clear HO2 hl2
              go_wp2_with fail
              refine (HPL.out _).mono ?_
              rintro e w' ⟨rfl, hw'⟩
              rw [hw']
              clear hw'
              go_wp2_with fail
              refine (HMI.out _).mono ?_
              rintro e w' ⟨rfl, hw'⟩
              rw [hw']
              clear hw'
              go_wp2_with fail
              go_roundg rest2.length
              case rel => exact ⟨n, rest2, true, _, rfl, rfl, rfl, HN.out, by have := HDR.out; omega, by rw [List.length_append, List.length_singleton]; have := HDR.out; omega, HQ5.out, HR5.out, HB5.out⟩
              case measure => have := HG.out; have := HDR.out; omega
            | false =>
              have HN := Lib.hid (show o = none by rw [HO2.out, if_neg (by decide)])
              clear HO2
              go_wp2_with fail
              refine (HPL.out _).mono ?_
              rintro e w' ⟨rfl, hw'⟩
              rw [hw']
              clear hw'
              go_wp2_with fail
              refine (HMI.out _).mono ?_
              rintro e w' ⟨rfl, hw'⟩
              rw [hw']
              clear hw'
              go_wp2_with fail
              go_ret2
              exact ⟨.inl ⟨HN.out, rfl⟩, HB5.out⟩
end Go.Proofs.YtnghlhcekghciaaGreatDoor
