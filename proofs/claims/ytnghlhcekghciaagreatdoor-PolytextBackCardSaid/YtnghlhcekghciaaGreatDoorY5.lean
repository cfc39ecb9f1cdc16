/- Contract of polytext.readFactor. -/
import Derived.StillTailTactics
import Derived.Test.YtnghlhcekghciaaGreatDoorZY
import Derived.Test.YtnghlhcekghciaaGreatDoorH5
namespace Go.Proofs.YtnghlhcekghciaaGreatDoor
open Go.RowKit

/-- internal/bytealg.MaxLen holds some number -/
def MaxL (w : World) : Prop := ∃ m : Int, w.cell? ⟨0, 0, none⟩ = some (.int .i64 m)
theorem MaxL.below {w w' : World} {B : Nat} (h : MaxL w) (hb : Below B w w') (hB : 0 < B) : MaxL w' := h.imp fun _ k => (hb.cell (p := ⟨0, 0, none⟩) hB).trans k
theorem Cut_any (l : Bs) (c : UInt8) (w : World) (hl : l.length ≤ 1000000) (hm : MaxL w) :
    Calls Tryz.prog 34 #[.string ⟨l.toArray⟩, .string ⟨#[c]⟩] w fun e w' => e = .returned (.tuple #[.string ⟨(Lib.cut l [c]).1.toArray⟩, .string ⟨(Lib.cut l [c]).2.1.toArray⟩, .bool (Lib.cut l [c]).2.2]) ∧ Drawn w w' := by
  obtain ⟨m, hm⟩ := hm
  exact Tryz.strings_Cut ⟨l.toArray⟩ ⟨#[c]⟩ m w (by simp [ByteArray.size]; omega) hm
def toB (l : Bs) : ByteArray := ⟨l.toArray⟩
def idxN (ls : List Bs) (x : Bs) : Int := Lib.idxOfS (ls.map toB) (toB x)
theorem idxN_range (ls : List Bs) (x : Bs) : idxN ls x = -1 ∨ ∃ k : Nat, k < ls.length ∧ idxN ls x = (k : Int) := by
  have key : ∀ (zs : List ByteArray) (y : ByteArray) (i : Nat), Lib.idxFromS zs y i = -1 ∨ ∃ k : Nat, k < zs.length ∧ Lib.idxFromS zs y i = ((i + k : Nat) : Int) := by
    intro zs y
    induction zs with
    | nil => intro i; exact .inl rfl
    | cons z zs ih =>
      intro i
      unfold Lib.idxFromS
      split
      · exact .inr ⟨0, by simp, by simp⟩
      · rcases ih (i + 1) with h | ⟨k, hk, h⟩
        · exact .inl h
        · exact .inr ⟨k + 1, by simpa using hk, by rw [h]; congr 1; omega⟩
  rcases key (ls.map toB) (toB x) 0 with h | ⟨k, hk, h⟩
  · exact .inl h
  · exact .inr ⟨k, by simpa using hk, by unfold idxN Lib.idxOfS; rw [h]; congr 1; omega⟩
theorem Index_any (A : Option Addr) (c B : Nat) (ls : List Bs) (x : Bs) (w : World) (h : Reads w B 1 A ls.length (ls.map strV)) (hm : ls.length ≤ 1000000) :
    Calls Tryz.prog 49 #[.slice A ls.length c, .string ⟨x.toArray⟩] w fun e w' => e = .returned (.int .i64 (idxN ls x)) ∧ w = w' := by
  rcases Nat.eq_zero_or_pos ls.length with h0 | h0
  · obtain rfl := List.eq_nil_of_length_eq_zero h0
    refine (Tryz.slices_Index_string_empty A c ⟨x.toArray⟩ w).mono ?_
    rintro e w' ⟨rfl, rfl⟩
    exact ⟨rfl, rfl⟩
  · obtain ⟨b, o, rfl, hb, hc⟩ := h.2 h0
    refine (Tryz.slices_Index_string b o ls.length c (ls.map toB) ⟨x.toArray⟩ w (by simp) (by omega) (fun j hj => ?_)).mono ?_
    · have hj' : j < ls.length := by simpa using hj
      rw [hc j (strV (ls[j])) (by simp [List.getElem?_eq_getElem hj'])]
      simp [List.getElem?_eq_getElem hj', strV, toB]
    · rintro e w' ⟨rfl, rfl⟩
      refine ⟨?_, rfl⟩
      rw [show (ls.map toB).take ls.length = ls.map toB from List.take_of_length_le (by simp)]
      rfl

/-! ### all but one block is kept -/
abbrev Only (g : Nat) (w w' : World) : Prop := w.grownBy w' (some g)
theorem Only.of_below {g : Nat} {w w' : World} (h : Below w.heap.size w w') : Only g w w' := ⟨h.os, h.tape, h.output, h.size, fun k hk _ => h.block k hk⟩
theorem Only.trans {g : Nat} {u v w : World} (h : Only g u v) (k : Only g v w) : Only g u w :=
  ⟨k.os.trans h.os, k.tape.trans h.tape, k.output.trans h.output, Nat.le_trans h.size k.size, fun i hi hn => (k.block i (Nat.lt_of_lt_of_le hi h.size) hn).trans (h.block i hi hn)⟩
theorem Only.set_ {g : Nat} (w : World) (o : Nat) (u : Value) : Only g w (w.setCell ⟨g, o, none⟩ u) :=
  ⟨rfl, rfl, rfl, by simp, fun k _ hn => Below.heap_setCell w ⟨g, o, none⟩ u k (fun e => hn (by rw [e]))⟩

/-! ### factors -/
def addAt (m : Mo) (j : Nat) (x : Int) : Mo := if j = 0 then (m.1 + x, m.2.1, m.2.2.1, m.2.2.2) else if j = 1 then (m.1, m.2.1 + x, m.2.2.1, m.2.2.2) else if j = 2 then (m.1, m.2.1, m.2.2.1 + x, m.2.2.2) else (m.1, m.2.1, m.2.2.1, m.2.2.2 + x)
def cellsT (ng : Bool) (A : Option Addr) (n c : Nat) (m : Mo) : Array Value := #[.bool ng, .slice A n c, .int .i64 m.1, .int .i64 m.2.1, .int .i64 m.2.2.1, .int .i64 m.2.2.2]
theorem cellsT_add (ng : Bool) (A : Option Addr) (n c : Nat) (m : Mo) {j : Nat} (hj : j < 4) (x : Int) : (cellsT ng A n c m).setIfInBounds (2 + j) (.int .i64 (gt m j + x)) = cellsT ng A n c (addAt m j x) := by
  rcases (by omega : j = 0 ∨ j = 1 ∨ j = 2 ∨ j = 3) with rfl | rfl | rfl | rfl <;> rfl
theorem cellsT_at {w : World} {g : Nat} {ng : Bool} {A : Option Addr} {n c : Nat} {m : Mo} (h : Blk w g 47 (cellsT ng A n c m)) {j : Nat} (hj : j < 4) : w.cell? ⟨g, 2 + j, none⟩ = some (.int .i64 (gt m j)) := by
  rw [h.cell]
  rcases (by omega : j = 0 ∨ j = 1 ∨ j = 2 ∨ j = 3) with rfl | rfl | rfl | rfl <;> rfl
/-- what a factor's text says: the variable, the exponent -/
def factR (ls : List Bs) (t : Bs) : Option (Nat × Int) :=
  if idxN ls (Lib.cut t [94]).1 < 0 then none
  else if (Lib.cut t [94]).2.2 = false then some ((idxN ls (Lib.cut t [94]).1).toNat, 1)
  else match decP (Lib.cut t [94]).2.1 with
    | none => none
    | some z => if 2 ≤ z ∧ z ≤ 1073741824 then some ((idxN ls (Lib.cut t [94]).1).toNat, z) else none
def FactRes (o : Option (Nat × Int)) (g : Nat) (ng : Bool) (A : Option Addr) (n c : Nat) (m : Mo) (w : World) (e : Ending) (w' : World) : Prop :=
  ((o = none ∧ e = .returned (.bool false) ∧ Blk w' g 47 (cellsT ng A n c m)) ∨ ∃ j x, o = some (j, x) ∧ j < 4 ∧ 0 ≤ x ∧ x ≤ 1073741824 ∧ e = .returned (.bool true) ∧ Blk w' g 47 (cellsT ng A n c (addAt m j x))) ∧ Only g w w'
theorem cut_len (l s : Bs) : (Lib.cut l s).1.length ≤ l.length ∧ (Lib.cut l s).2.1.length ≤ l.length := by
  unfold Lib.cut
  split
  · simp only [List.length_take, List.length_drop]; omega
  · simp

theorem ival_own (z : Int) : ival (decide (z < 0)) (dig z.natAbs) = z := by
  unfold ival
  rw [val_dig]
  by_cases h : z < 0
  · simp [h]; omega
  · simp [h]; omega
theorem decP_small {s : Bs} {z : Int} (h : decP s = some z) : (dig z.natAbs).length ≤ s.length := by
  unfold decP at h
  split at h
  · rename_i hd
    have hall : (sgnR s).all (fun c => decide (48 ≤ c.toNat ∧ c.toNat ≤ 57)) = true := by
      unfold decOk at hd
      simp only [Bool.and_eq_true] at hd
      exact hd.2
    have h1 := decV_lt hall
    have h2 : (sgnR s).length ≤ s.length := by unfold sgnR; split <;> simp
    have h3 : z.natAbs = decV (sgnR s) := by
      injection h with h
      rw [← h]
      split <;> simp
    rw [h3]
    exact Nat.le_trans (dig_len_lt (Nat.lt_of_lt_of_le h1 (pow_le_big _))) h2
  · cases h

set_option maxHeartbeats 4000000 in
set_option maxRecDepth 100000 in
theorem readFactor_any (t : Bs) (A A' : Option Addr) (c n c' B g : Nat) (ng : Bool) (m : Mo) (ls : List Bs) (w : World) (ht : t.length ≤ 100000) (hl : Reads w B 1 A ls.length (ls.map strV)) (h4 : ls.length ≤ 4)
    (hg : Blk w g 47 (cellsT ng A' n c' m)) (hx : ∀ j, j < 4 → 0 ≤ gt m j ∧ gt m j ≤ 4611686018427387904) (hm : MaxL w) :
    Calls Tryz.prog 58 #[.string ⟨t.toArray⟩, .slice A ls.length c, .pointer (some ⟨g, 2, none⟩)] w (FactRes (factR ls t) g ng A' n c' m w) := by
  have HCU := Lib.hid (Cut_any t 94 w (by omega) hm)
  have hcl := cut_len t [94]
  have HF := Lib.hid (show factR ls t = if idxN ls (Lib.cut t [94]).1 < 0 then none
    else if (Lib.cut t [94]).2.2 = false then some ((idxN ls (Lib.cut t [94]).1).toNat, 1)
    else match decP (Lib.cut t [94]).2.1 with
      | none => none
      | some z => if 2 ≤ z ∧ z ≤ 1073741824 then some ((idxN ls (Lib.cut t [94]).1).toNat, z) else none from rfl)
  generalize factR ls t = o at *
  generalize (Lib.cut t [94]).1 = t1 at *
  generalize (Lib.cut t [94]).2.1 = t2 at *
  generalize (Lib.cut t [94]).2.2 = pw at *
  have HIX := Lib.hid (fun (W : World) (hW : Drawn w W) => Index_any A c B ls t1 W (hl.drawn hW) (by omega))
  have HDP := Lib.hid (fun (W : World) => DParse_any t2 W (by omega))
  have hir := idxN_range ls t1
  generalize idxN ls t1 = ix at *
  have HX := Lib.hid hx
  clear hl hm hx
  generalize hln : ls.length = nl at *
  go_enter Tryz.func58, Tryz.ntmps58
  go_wp2_with fail
  refine HCU.out.mono ?_
  rintro e w1 ⟨rfl, hdr⟩
  have hk1 := hg.drawn hdr
  have ho1 := Only.of_below (g := g) (hdr.below w.heap.size)
  go_wp2_with fail
  refine (HIX.out _ hdr).mono ?_
  rintro e w1' ⟨rfl, rfl⟩
  rcases hir with rfl | ⟨k, hk, rfl⟩
  · have HO := Lib.hid (show o = none by rw [HF.out]; rfl)
    clear HF hdr
    go_wp2_with fail
    go_ret
    exact ⟨.inl ⟨HO.out, rfl, hk1⟩, ho1⟩
  · have hk4' : k < 4 := by omega
    have hkn : ¬ (k : Int) < 0 := by omega
    rw [if_neg hkn, show ((k : Int)).toNat = k from Int.toNat_natCast k] at HF
    have HXK := Lib.hid (HX.out k hk4')
    have i4 : (k : Int) < 4 := by omega
    have i0 : (0 : Int) ≤ (k : Int) := by omega
    cases pw with
    | false =>
      have HO := Lib.hid (show o = some (k, 1) by rw [HF.out]; rfl)
      have hce := cellsT_at hk1 hk4'
      have hfr := hk1.frozen (2 + k)
      have hxk := HXK.out
      have HKS := Lib.hid (fun (W : World) (hW : Blk W g 47 (cellsT ng A' n c' m)) => show Blk (W.setCell ⟨g, 2 + k, none⟩ (.int .i64 (gt m k + 1))) g 47 (cellsT ng A' n c' (addAt m k 1)) by
        have := hW.set_ (2 + k) (.int .i64 (gt m k + 1))
        rwa [cellsT_add ng A' n c' m hk4' 1] at this)
      generalize gt m k = x at *
      have hgl := hk1.lt
      clear HF hdr
      go_wp2_with fail
      refine wp_region_still_tail 8 (by kernel_rfl) (by kernel_rfl) ?_
      simp only [List.take_succ_cons, List.take_zero, List.drop_succ_cons, List.drop_zero]
      repeat still_step
      refine wpStill_nil ?_
      change wpList _ _ _ _ _ w1.drew
      have hk2 := hk1.drawn (.drew _)
      have ho2 := ho1.trans (Only.of_below (g := g) ((Drawn.drew w1).below _))
      have c2 : w1.drew.cell? ⟨g, 2 + k, none⟩ = some (.int .i64 x) := hce
      have f2 : w1.drew.frozen? ⟨g, 2 + k, none⟩ = false := hfr
      have g2 : g < w1.drew.heap.size := hgl
      clear hce hfr hgl hk1 ho1
      generalize w1.drew = w2 at *
      go_wp2_with fail
      go_ret
      exact ⟨.inr ⟨k, 1, HO.out, hk4', by omega, by omega, rfl, HKS.out _ hk2⟩, ho2.trans (Only.set_ _ _ _)⟩
    | true =>
      rw [if_neg (by decide)] at HF
      clear hdr
      go_wp2_with fail
      refine (HDP.out _).mono ?_
      rintro e w2 ⟨hr, hb2⟩
      have hk2 := hk1.old hb2
      have ho2 := ho1.trans (Only.of_below (g := g) hb2)
      rcases hr with ⟨hp, rfl⟩ | ⟨z, hp, A2, c2, rfl, h1, h2⟩
      · have HO := Lib.hid (show o = none by rw [HF.out, hp])
        clear HF hp hk1 ho1 hb2
        have hk3 := hk2.alloc (.cells #[.bool false, .slice none 0 0] 43)
        have ho3 := ho2.trans (Only.of_below (g := g) ((Below.refl w2.heap.size w2).alloc (Nat.le_refl _) (.cells #[.bool false, .slice none 0 0] 43)))
        go_wp2_with fail
        go_ret
        exact ⟨.inl ⟨HO.out, rfl, hk3⟩, ho3⟩
      · have HO := Lib.hid (show o = if 2 ≤ z ∧ z ≤ 1073741824 then some (k, z) else none by rw [HF.out, hp])
        have hdl := decP_small hp
        have hbx := Blk.new w2 43 #[.bool (decide (z < 0)), .slice A2 (dig z.natAbs).length c2]
        have hk3 := hk2.alloc (.cells #[.bool (decide (z < 0)), .slice A2 (dig z.natAbs).length c2] 43)
        have ho3 := ho2.trans (Only.of_below (g := g) ((Below.refl w2.heap.size w2).alloc (Nat.le_refl _) (.cells #[.bool (decide (z < 0)), .slice A2 (dig z.natAbs).length c2] 43)))
        have h3 := h2.old ((Below.refl w2.heap.size w2).alloc (Nat.le_refl _) (.cells #[.bool (decide (z < 0)), .slice A2 (dig z.natAbs).length c2] 43))
        have HI := Lib.hid (Int64_any (decide (z < 0)) A2 c2 _ (dig z.natAbs) _ (Nat.le_refl _) h1 (by omega) h3.reads (dig_dig _) (fun h => by rw [val_dig]; have := of_decide_eq_true h; omega))
        rw [ival_own] at HI
        have d0 := hbx.cell 0
        have d1 := hbx.cell 1
        have HK3 := Lib.hid hk3; have HO3 := Lib.hid ho3
        clear HF hp hk1 ho1 hb2 hk2 ho2 h1 h2 h3 hk3 ho3 hbx
        generalize (dig z.natAbs).length = nz at *
        generalize decide (z < 0) = zn at *
        go_wp2_with fail
        refine HI.out.mono ?_
        rintro e w4 ⟨hr, hb4⟩
        have hk4 := HK3.out.old hb4
        have ho4 := HO3.out.trans (Only.of_below (g := g) hb4)
        rcases hr with ⟨hz1, hz2, rfl⟩ | ⟨hz, rfl⟩
        · clear hb4 d0 d1
          by_cases hlo : z < 2
          · have HN := Lib.hid (show o = none by rw [HO.out, if_neg (by omega)])
            go_wp2_with fail
            go_ret
            exact ⟨.inl ⟨HN.out, rfl, hk4⟩, ho4⟩
          · by_cases hhi : 1073741824 < z
            · have HN := Lib.hid (show o = none by rw [HO.out, if_neg (by omega)])
              go_wp2_with fail
              go_ret
              exact ⟨.inl ⟨HN.out, rfl, hk4⟩, ho4⟩
            · have HN := Lib.hid (show o = some (k, z) by rw [HO.out, if_pos (by omega)])
              have hce := cellsT_at hk4 hk4'
              have hfr := hk4.frozen (2 + k)
              have hxk := HXK.out
              have HKS := Lib.hid (fun (W : World) (hW : Blk W g 47 (cellsT ng A' n c' m)) => show Blk (W.setCell ⟨g, 2 + k, none⟩ (.int .i64 (gt m k + z))) g 47 (cellsT ng A' n c' (addAt m k z)) by
                have := hW.set_ (2 + k) (.int .i64 (gt m k + z))
                rwa [cellsT_add ng A' n c' m hk4' z] at this)
              generalize gt m k = x at *
              have hgl := hk4.lt
              go_wp2_with fail
              refine wp_region_still_tail 9 (by kernel_rfl) (by kernel_rfl) ?_
              simp only [List.take_succ_cons, List.take_zero, List.drop_succ_cons, List.drop_zero]
              repeat still_step
              refine wpStill_nil ?_
              change wpList _ _ _ _ _ w4.drew
              have hk5 := hk4.drawn (.drew _)
              have ho5 := ho4.trans (Only.of_below (g := g) ((Drawn.drew w4).below _))
              have c5 : w4.drew.cell? ⟨g, 2 + k, none⟩ = some (.int .i64 x) := hce
              have f5 : w4.drew.frozen? ⟨g, 2 + k, none⟩ = false := hfr
              have g5 : g < w4.drew.heap.size := hgl
              clear hce hfr hgl hk4 ho4
              generalize w4.drew = w5 at *
              go_wp2_with fail
              go_ret
              exact ⟨.inr ⟨k, z, HN.out, hk4', by omega, by omega, rfl, HKS.out _ hk5⟩, ho5.trans (Only.set_ _ _ _)⟩
        · have HN := Lib.hid (show o = none by rw [HO.out, if_neg (by omega)])
          clear hb4 d0 d1
          go_wp2_with fail
          go_ret
          exact ⟨.inl ⟨HN.out, rfl, hk4⟩, ho4⟩
end Go.Proofs.YtnghlhcekghciaaGreatDoor
