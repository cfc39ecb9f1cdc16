/- Contract of polytext.readTerm. -/
import Derived.Test.YtnghlhcekghciaaGreatDoorY5
import Derived.Test.YtnghlhcekghciaaGreatDoorZI
namespace Go.Proofs.YtnghlhcekghciaaGreatDoor
open Go.RowKit

theorem MaxL.pos {w : World} (h : MaxL w) : 0 < w.heap.size := by
  obtain ⟨m, h⟩ := h
  rcases Nat.eq_zero_or_pos w.heap.size with h0 | h0
  · exfalso
    unfold World.cell? at h
    have : w.heap[0]? = none := Array.getElem?_eq_none (by omega)
    simp [this] at h
  · exact h0
theorem MaxL.old {w w' : World} (h : MaxL w) (hb : Below w.heap.size w w') : MaxL w' := h.below hb h.pos
theorem MaxL.only {w w' : World} {g : Nat} (h : MaxL w) (hb : Only g w w') (hg : 0 < g) : MaxL w' := by
  obtain ⟨m, k⟩ := h
  have hp := MaxL.pos ⟨m, k⟩
  exact ⟨m, (World.cell?_of_block (a := ⟨0, 0, none⟩) (hb.block 0 hp (fun e => by injection e with e; omega))).trans k⟩
theorem Blk.only {w w' : World} {g g' : Nat} {t : TypeId} {cs : Array Value} (h : Blk w g' t cs) (hb : Only g w w') (hne : g' ≠ g) : Blk w' g' t cs := h.grown hb (fun e => hne (by injection e))
theorem Blk.ne {w : World} {g g' : Nat} {t t' : TypeId} {cs cs' : Array Value} (h : Blk w g t cs) (h' : Blk w g' t' cs') (ht : t ≠ t') : g ≠ g' := by
  rintro rfl
  unfold Blk at h h'
  rw [h] at h'
  injection h' with h'
  injection h' with _ h'
  exact ht h'
theorem NatB.only {w w' : World} {g : Nat} {A : Option Addr} {ds : List Nat} {cs : Array Value} {t : TypeId} (h : NatB w A ds) (hk : Blk w g t cs) (ht : t ≠ 39) (hb : Only g w w') : NatB w' A ds :=
  h.keep fun _ _ k => k.only hb (Blk.ne k hk (fun e => ht e.symm))

/-! ### the parts of a text -/
def partsS (c : UInt8) (l : Bs) : List Bs := (Lib.splitB ⟨#[c]⟩ 0 (Lib.countB ⟨l.toArray⟩ ⟨#[c]⟩) ⟨l.toArray⟩).map fun b => b.data.toList
theorem splitB_size (sep : ByteArray) : ∀ (k : Nat) (s : ByteArray), ∀ b ∈ Lib.splitB sep 0 k s, b.size ≤ s.size
  | 0, s, b, hb => by
    rw [Lib.splitB_zero, List.mem_singleton] at hb
    rw [hb]; exact Nat.le_refl _
  | k + 1, s, b, hb => by
    unfold Lib.splitB at hb
    split at hb
    · rw [List.mem_singleton] at hb
      rw [hb]; exact Nat.le_refl _
    · rcases List.mem_cons.1 hb with rfl | hb
      · rw [ByteArray.size_extract]; omega
      · have := splitB_size sep k _ b hb
        rw [ByteArray.size_extract] at this
        omega
theorem partsS_len (c : UInt8) (l : Bs) : (partsS c l).length = Lib.countB ⟨l.toArray⟩ ⟨#[c]⟩ + 1 := by
  unfold partsS
  rw [List.length_map]
  exact Lib.splitB_all ⟨#[c]⟩ (Nat.le_refl 1) 0 _ _ rfl
theorem partsS_few (c : UInt8) (l : Bs) : (partsS c l).length ≤ l.length + 1 := by
  rw [partsS_len]
  have := Lib.countB_le ⟨#[c]⟩ (Nat.le_refl 1) _ ⟨l.toArray⟩ (Nat.le_refl _)
  simp [ByteArray.size] at this
  omega
theorem partsS_el (c : UInt8) (l : Bs) : ∀ p ∈ partsS c l, p.length ≤ l.length := fun p hp => by
  obtain ⟨b, hb, rfl⟩ := List.mem_map.1 hp
  have h1 := splitB_size _ _ _ b hb
  have h2 : (⟨l.toArray⟩ : ByteArray).size = l.length := by simp [ByteArray.size]
  rw [h2] at h1
  show b.data.toList.length ≤ l.length
  rw [Array.length_toList]
  exact h1
theorem Split_any (c : UInt8) (l : Bs) (w : World) (hl : l.length ≤ 1000000) (hm : MaxL w) :
    Calls Tryz.prog 56 #[.string ⟨l.toArray⟩, .string ⟨#[c]⟩] w fun e w' => e = .returned (.slice (some ⟨w.heap.size, 0, none⟩) (partsS c l).length (partsS c l).length) ∧ w' = w.alloc (.cells ((partsS c l).map strV).toArray 9) := by
  obtain ⟨m, hm⟩ := hm
  have h := Tryz.strings_Split ⟨l.toArray⟩ ⟨#[c]⟩ m w (by simp [ByteArray.size]; omega) hm (Nat.le_refl 1)
  refine h.mono ?_
  rintro e w' ⟨rfl, rfl⟩
  rw [partsS_len]
  refine ⟨rfl, ?_⟩
  congr 3
  unfold partsS
  rw [List.map_map]
  apply List.map_congr_left
  intro b _
  simp [strV]

/-! ### what a term's text says -/
def factsR (ls : List Bs) : List Bs → Mo → Option Mo
  | [], m => some m
  | p :: ps, m => match factR ls p with
    | none => none
    | some (j, x) => factsR ls ps (addAt m j x)
def termR (ls : List Bs) (t : Bs) : Option (Int × Mo) := match partsS 42 t with
  | [] => some (1, (0, 0, 0, 0))
  | p :: ps => match decP p with
    | some z => (factsR ls ps (0, 0, 0, 0)).map fun m => (z, m)
    | none => (factsR ls (p :: ps) (0, 0, 0, 0)).map fun m => (1, m)
theorem ten_pow (n : Nat) : 10 ^ (9 * n) ≤ 4294967296 ^ n := by
  rw [Nat.pow_mul]
  exact Nat.pow_le_pow_left (by decide) n
theorem decP_pw {s : Bs} {z : Int} {k : Nat} (h : decP s = some z) (hl : s.length ≤ 9 * k) : z.natAbs < pw k := by
  unfold decP at h
  split at h
  · rename_i hd
    have hall : (sgnR s).all (fun c => decide (48 ≤ c.toNat ∧ c.toNat ≤ 57)) = true := by
      unfold decOk at hd
      simp only [Bool.and_eq_true] at hd
      exact hd.2
    have h1 := decV_lt hall
    have h2 : (sgnR s).length ≤ s.length := by unfold sgnR; split <;> simp
    have h3 : z.natAbs = decV (sgnR s) := by
      injection h with h
      rw [← h]
      split <;> simp
    rw [h3]
    exact Nat.lt_of_lt_of_le h1 (Nat.le_trans (Nat.pow_le_pow_right (by decide) (by omega)) (ten_pow k))
  · cases h
def TermRes (o : Option (Int × Mo)) (w : World) (e : Ending) (w' : World) : Prop :=
  ((o = none ∧ e = .returned (.tuple #[.agg #[.bool false, .slice none 0 0, .int .i64 0, .int .i64 0, .int .i64 0, .int .i64 0], .bool false])) ∨
    ∃ z m, o = some (z, m) ∧ ∃ A c, e = .returned (.tuple #[.agg (cellsT (decide (z < 0)) A (dig z.natAbs).length c m), .bool true]) ∧ (dig z.natAbs).length ≤ c ∧ NatB w' A (dig z.natAbs) ∧ (dig z.natAbs).length ≤ 100000 ∧ ∀ j, j < 4 → 0 ≤ gt m j ∧ gt m j ≤ 200000 * 1073741824) ∧ Below w.heap.size w w'
theorem Tryz.sizeTerm6 : (Tryz.prog.info? 47).map (·.size) = some 6 := by kernel_rfl
theorem gt_add {m : Mo} {j : Nat} {x : Int} (hj : j < 4) {k : Int} (hm : ∀ i, i < 4 → 0 ≤ gt m i ∧ gt m i ≤ k) (h0 : 0 ≤ x) (h1 : x ≤ 1073741824) : ∀ i, i < 4 → 0 ≤ gt (addAt m j x) i ∧ gt (addAt m j x) i ≤ k + 1073741824 := fun i hi => by
  have a0 := hm 0 (by omega); have a1 := hm 1 (by omega); have a2 := hm 2 (by omega); have a3 := hm 3 (by omega)
  rcases (by omega : j = 0 ∨ j = 1 ∨ j = 2 ∨ j = 3) with rfl | rfl | rfl | rfl <;> rcases (by omega : i = 0 ∨ i = 1 ∨ i = 2 ∨ i = 3) with rfl | rfl | rfl | rfl <;> simp [addAt, gt] at * <;> omega

set_option maxHeartbeats 4000000 in
set_option maxRecDepth 100000 in
theorem readTerm_any (t : Bs) (A : Option Addr) (c B : Nat) (ls : List Bs) (w : World) (ht : t.length ≤ 100000) (hB : B ≤ w.heap.size) (hl : Reads w B 1 A ls.length (ls.map strV)) (h4 : ls.length ≤ 4) (hm : MaxL w) :
    Calls Tryz.prog 35 #[.string ⟨t.toArray⟩, .slice A ls.length c] w (TermRes (termR ls t) w) := by
  have hb0 := (Below.refl w.heap.size w).alloc (Nat.le_refl _) (.cells #[.bool false, .slice none 0 0, .int .i64 0, .int .i64 0, .int .i64 0, .int .i64 0] 47)
  have hk0 := Blk.new w 47 #[.bool false, .slice none 0 0, .int .i64 0, .int .i64 0, .int .i64 0, .int .i64 0]
  obtain ⟨z1, hz1, HIO⟩ : ∃ z1 : Int, z1 = 1 ∧ Calls Tryz.prog 55 #[.int .i64 1] (w.alloc (.cells #[.bool false, .slice none 0 0, .int .i64 0, .int .i64 0, .int .i64 0, .int .i64 0] 47)) (IntRes z1 (w.alloc (.cells #[.bool false, .slice none 0 0, .int .i64 0, .int .i64 0, .int .i64 0, .int .i64 0] 47))) := ⟨1, rfl, IOf_any 1 (by decide) (by decide) _⟩
  have HIO := Lib.hid HIO
  have hpf := partsS_few 42 t
  have HPE := Lib.hid (partsS_el 42 t)
  have HSP := Lib.hid (fun (W : World) (hW : MaxL W) => Split_any 42 t W (by omega) hW)
  have HTR := Lib.hid (show termR ls t = match partsS 42 t with
    | [] => some (z1, (0, 0, 0, 0))
    | p :: ps => match decP p with
      | some z => (factsR ls ps (0, 0, 0, 0)).map fun m => (z, m)
      | none => (factsR ls (p :: ps) (0, 0, 0, 0)).map fun m => (z1, m) by rw [hz1]; rfl)
  have hp0 : 0 < (partsS 42 t).length := by rw [partsS_len]; omega
  generalize termR ls t = o at *
  generalize partsS 42 t = P at *
  have HL := Lib.hid hl; have HM := Lib.hid hm; have HB0 := Lib.hid hb0; have HK0 := Lib.hid hk0
  unfold IntRes at HIO
  have HZ1 := Lib.hid hz1
  have HD1 := Lib.hid (show (dig z1.natAbs).length ≤ 100000 by rw [hz1]; exact Nat.le_trans (dig_len_lt (n := 1) (by decide)) (by decide))
  clear hz1
  clear hl hm hb0 hk0
  generalize hln : ls.length = nl at *
  have HLN := Lib.hid hln
  clear hln
  go_enter Tryz.func35, Tryz.ntmps35
  go_wp2_with fail
  refine HIO.out.mono ?_
  rintro e w1 ⟨A1, c1, rfl, h1, h2, hb1⟩
  have hk1 := HK0.out.old hb1
  have hbw1 := HB0.out.trans (hb1.mono HB0.out.size)
  have hm1 := HM.out.old hbw1
  clear hb1
  have HH1 := Lib.hid h1; have HH2 := Lib.hid h2
  clear h1 h2
  have hbx := Blk.new w1 47 (cellsT (decide (z1 < 0)) A1 (dig z1.natAbs).length c1 (0, 0, 0, 0))
  have hbl2 := hbw1.alloc hbw1.size (.cells (cellsT (decide (z1 < 0)) A1 (dig z1.natAbs).length c1 (0, 0, 0, 0)) 47)
  have hk2 := hk1.alloc (.cells (cellsT (decide (z1 < 0)) A1 (dig z1.natAbs).length c1 (0, 0, 0, 0)) 47)
  have hm2 := hm1.old ((Below.refl w1.heap.size w1).alloc (Nat.le_refl _) (.cells (cellsT (decide (z1 < 0)) A1 (dig z1.natAbs).length c1 (0, 0, 0, 0)) 47))
  have hnb2 := HH2.out.old ((Below.refl w1.heap.size w1).alloc (Nat.le_refl _) (.cells (cellsT (decide (z1 < 0)) A1 (dig z1.natAbs).length c1 (0, 0, 0, 0)) 47))
  have HSP2 := Lib.hid (HSP.out _ hm2)
  have HX := Lib.hid (And.intro hbx (And.intro hbl2 (And.intro hk2 (And.intro hm2 hnb2))))
  have hgw := hk1.lt
  clear hbx hbl2 hk2 hm2 hnb2 hm1 hbw1
  unfold cellsT at HSP2 HX
  simp only at HSP2 HX
  go_wp2_with fail
  refine HSP2.out.mono ?_
  rintro e w2 ⟨rfl, hw2⟩
  obtain ⟨hx1, hx2, hx3, hx4, hx5⟩ := HX.out
  have hk6 := hx1.alloc (.cells (P.map strV).toArray 9)
  have hbl := hx2.alloc hx2.size (.cells (P.map strV).toArray 9)
  have hk4 := hx3.alloc (.cells (P.map strV).toArray 9)
  have hm2 := hx4.old ((Below.refl _ _).alloc (Nat.le_refl _) (.cells (P.map strV).toArray 9))
  have hnb := hx5.old ((Below.refl _ _).alloc (Nat.le_refl _) (.cells (P.map strV).toArray 9))
  have hks := Blk.new (w1.alloc (.cells (cellsT (decide (z1 < 0)) A1 (dig z1.natAbs).length c1 (0, 0, 0, 0)) 47)) 9 (P.map strV).toArray
  unfold cellsT at hks
  simp only at hks
  rw [← hw2] at hk6 hbl hk4 hm2 hnb hks
  have hgs : w1.heap.size < (w1.alloc (.cells #[.bool (decide (z1 < 0)), .slice A1 (dig z1.natAbs).length c1, .int .i64 0, .int .i64 0, .int .i64 0, .int .i64 0] 47)).heap.size := by simp
  have hm0 := HM.out.pos
  clear hw2 hx1 hx2 hx3 hx4 hx5 HX HSP2 HSP HIO hk1
  generalize (w1.alloc (.cells #[.bool (decide (z1 < 0)), .slice A1 (dig z1.natAbs).length c1, .int .i64 0, .int .i64 0, .int .i64 0, .int .i64 0] 47)).heap.size = gs at *
  generalize w1.heap.size = g6 at *
  generalize hnp : P.length = np at *
  have HNP := Lib.hid hnp
  clear hnp
  have hnp1 : np ≤ 100001 := by omega
  have hm0' : 0 < g6 := by omega
  go_wp2_with fail
  go_loopg [7, 8, 9, 10, 16] np (fun gn _ _ _ _ ix wr => ∃ (k : Nat) (z : Int) (m : Mo) (A : Option Addr) (c : Nat), k ≤ np ∧ gn = np - k ∧ ix = .int .i64 k ∧
    ((k = 0 ∧ z = z1 ∧ m = (0, 0, 0, 0)) ∨ (0 < k ∧ o = (factsR ls (P.drop k) m).map fun m => (z, m))) ∧ (∀ j, j < 4 → 0 ≤ gt m j ∧ gt m j ≤ (k : Int) * 1073741824) ∧
    Blk wr g6 47 (cellsT (decide (z < 0)) A (dig z.natAbs).length c m) ∧ (dig z.natAbs).length ≤ c ∧ NatB wr A (dig z.natAbs) ∧ (dig z.natAbs).length ≤ 100000 ∧
    Blk wr w.heap.size 47 #[.bool false, .slice none 0 0, .int .i64 0, .int .i64 0, .int .i64 0, .int .i64 0] ∧ Blk wr gs 9 (P.map strV).toArray ∧ Below w.heap.size w wr ∧ MaxL wr)
  case atStart => exact ⟨0, z1, (0, 0, 0, 0), A1, c1, Nat.zero_le _, rfl, rfl, .inl ⟨rfl, rfl, rfl⟩, fun j hj => by rcases (by omega : j = 0 ∨ j = 1 ∨ j = 2 ∨ j = 3) with rfl | rfl | rfl | rfl <;> simp [gt], hk6, HH1.out, hnb, HD1.out, hk4, hks, hbl, hm2⟩
  case round =>
    clear hk6 hnb hk4 hks hbl hm2
    obtain ⟨k, z, m, A2, c2, hk, hgk, rfl, hst, hex, hk6, hcc, hnb, hdl, hk4, hks, hbl, hm2⟩ := hrel
    have HG := Lib.hid hgk
    clear hgk
    by_cases hlt : k < np
    · have HDR := Lib.hid (show P.drop k = P.getD k [] :: P.drop (k + 1) by
        rw [List.drop_eq_getElem_cons (by have := HNP.out; omega), List.getD_eq_getElem?_getD, List.getElem?_eq_getElem (by have := HNP.out; omega)]
        rfl)
      have hpl : (P.getD k []).length ≤ t.length := HPE.out _ (by
        rw [List.getD_eq_getElem?_getD, List.getElem?_eq_getElem (by have := HNP.out; omega)]
        exact List.getElem_mem _)
      have hcs : wr.cell? ⟨gs, k, none⟩ = some (.string ⟨(P.getD k []).toArray⟩) := by
        rw [hks.cell]
        simp [List.getElem?_eq_getElem (show k < P.length by have := HNP.out; omega), strV]
      have i1 : (k : Int) < (np : Int) := by omega
      have i0 : (0 : Int) ≤ (k : Int) := by omega
      have lgs := hks.lt
      generalize P.getD k [] = pt at *
      rcases hst with ⟨rfl, rfl, rfl⟩ | ⟨hk0, ho⟩
      · have HO0 := Lib.hid (show o = match decP pt with
            | some z' => (factsR ls (P.drop 1) (0, 0, 0, 0)).map fun m => (z', m)
            | none => (factsR ls (P.drop 0) (0, 0, 0, 0)).map fun m => (z, m) by
          rw [HTR.out]
          have h0 := HDR.out
          rw [List.drop_zero] at h0
          rw [List.drop_zero, h0]
          rfl)
        have HDP := Lib.hid (DParse_any pt wr (by omega))
        have HHX := Lib.hid hex
        clear hex HTR
        go_wp2_with fail
        refine HDP.out.mono ?_
        rintro e w3 ⟨hr, hb3⟩
        have hk6' := hk6.old hb3
        have hnb' := hnb.old hb3
        have hk4' := hk4.old hb3
        have hks' := hks.old hb3
        have hm3 := hm2.old hb3
        have hbl3 := hbl.trans (hb3.mono hbl.size)
        rcases hr with ⟨hp, rfl⟩ | ⟨z', hp, A3, c3, rfl, h1, h2⟩
        · have HO := Lib.hid (show o = (factsR ls (P.drop 0) (0, 0, 0, 0)).map fun m => (z, m) by rw [HO0.out, hp])
          clear HO0 hp hb3 hk6 hnb hk4 hks hm2 hbl hcs
          have hbx : Below w3.heap.size w3 (w3.alloc (.cells #[.bool false, .slice none 0 0] 43)) := (Below.refl _ _).alloc (Nat.le_refl _) _
          have hk6 := hk6'.old hbx; have hnb := hnb'.old hbx; have hk4 := hk4'.old hbx; have hks := hks'.old hbx; have hm2 := hm3.old hbx
          have hbl := hbl3.trans (hbx.mono hbl3.size)
          have hex := HHX.out
          clear hbx hk6' hnb' hk4' hks' hm3 hbl3
          have HRF := Lib.hid (fun (W : World) (hW : Below w.heap.size w W) (hk : Blk W g6 47 (cellsT (decide (z < 0)) A2 (dig z.natAbs).length c2 (0, 0, 0, 0))) (hm : MaxL W) => readFactor_any pt A A2 c (dig z.natAbs).length c2 B g6 (decide (z < 0)) (0, 0, 0, 0) ls W (by omega) (by rw [HLN.out]; exact HL.out.below (hW.mono hB)) (by rw [HLN.out]; exact h4) hk (fun j hj => by have := hex j hj; omega) hm)
          rw [HLN.out] at HRF
          go_wp2_with fail
          refine (HRF.out _ hbl hk6 hm2).mono ?_
          rintro e w4 ⟨hr, ho4⟩
          have hnb4 := hnb.only hk6 (by decide) ho4
          have hk4' := hk4.only ho4 (by omega)
          have hks' := hks.only ho4 (by omega)
          have hm4 := hm2.only ho4 hm0'
          have hbl4 := hbl.grown ho4 hbl.size (fun k hk => by injection hk with hk; omega)
          rw [HDR.out, factsR] at HO
          rcases hr with ⟨hf, rfl, hk6'⟩ | ⟨j, x, hf, hj4, hx0, hx1, rfl, hk6'⟩
          · have HN := Lib.hid (show o = none by rw [HO.out, hf]; rfl)
            clear hf HO hk6 hnb hk4 hks hm2 hbl ho4
            have f0 := hk4'.frozen 0; have f1 := hk4'.frozen 1; have f2 := hk4'.frozen 2; have f3 := hk4'.frozen 3; have f4 := hk4'.frozen 4; have f5 := hk4'.frozen 5
            have d0 : w4.cell? ⟨w.heap.size, 0, none⟩ = some (.bool false) := hk4'.cell 0
            have d1 : w4.cell? ⟨w.heap.size, 1, none⟩ = some (.slice none 0 0) := hk4'.cell 1
            have d2 : w4.cell? ⟨w.heap.size, 2, none⟩ = some (.int .i64 0) := hk4'.cell 2
            have d3 : w4.cell? ⟨w.heap.size, 3, none⟩ = some (.int .i64 0) := hk4'.cell 3
            have d4 : w4.cell? ⟨w.heap.size, 4, none⟩ = some (.int .i64 0) := hk4'.cell 4
            have d5 : w4.cell? ⟨w.heap.size, 5, none⟩ = some (.int .i64 0) := hk4'.cell 5
            have z0 := hk4'.lt
            go_wp2_with fail
            exact ret_blk2 Tryz.results35 rfl rfl ((((((hk4'.set_ 0 _).set_ 1 _).set_ 2 _).set_ 3 _).set_ 4 _).set_ 5 _) Tryz.underlying47 rfl Tryz.sizeTerm6 ⟨.inl ⟨HN.out, rfl⟩, (((((hbl4.setCell (Nat.le_refl _) _).setCell (Nat.le_refl _) _).setCell (Nat.le_refl _) _).setCell (Nat.le_refl _) _).setCell (Nat.le_refl _) _).setCell (Nat.le_refl _) _⟩
          · have HN := Lib.hid (show o = (factsR ls (P.drop (0 + 1)) (addAt (0, 0, 0, 0) j x)).map fun m => (z, m) by rw [HO.out, hf])
            have HE := Lib.hid (show ∀ i, i < 4 → 0 ≤ gt (addAt (0, 0, 0, 0) j x) i ∧ gt (addAt (0, 0, 0, 0) j x) i ≤ ((0 + 1 : Nat) : Int) * 1073741824 from fun i hi => by have := gt_add hj4 hex hx0 hx1 i hi; omega)
            clear hf HO hk6 hnb hk4 hks hm2 hbl ho4
            go_wp2_with fail
            go_roundg (np - (0 + 1))
            case rel => exact ⟨0 + 1, z, addAt (0, 0, 0, 0) j x, A2, c2, by omega, rfl, by go_num, .inr ⟨by omega, HN.out⟩, HE.out, hk6', hcc, hnb4, hdl, hk4', hks', hbl4, hm4⟩
            case measure => have := HG.out; omega
        · have HO := Lib.hid (show o = (factsR ls (P.drop 1) (0, 0, 0, 0)).map fun m => (z', m) by rw [HO0.out, hp])
          have hd3 := decP_small hp
          clear HO0 hp hb3 hk6 hnb hk4 hks hm2 hbl hcs hnb'
          have hbx : Below w3.heap.size w3 (w3.alloc (.cells #[.bool (decide (z' < 0)), .slice A3 (dig z'.natAbs).length c3] 43)) := (Below.refl _ _).alloc (Nat.le_refl _) _
          have hkx := Blk.new w3 43 #[.bool (decide (z' < 0)), .slice A3 (dig z'.natAbs).length c3]
          have hk6 := hk6'.old hbx; have hnb := h2.old hbx; have hk4 := hk4'.old hbx; have hks := hks'.old hbx; have hm2 := hm3.old hbx
          have hbl := hbl3.trans (hbx.mono hbl3.size)
          have HEX := HHX
          clear hbx hk6' hk4' hks' hm3 hbl3 h2
          have x0 : (w3.alloc (.cells #[.bool (decide (z' < 0)), .slice A3 (dig z'.natAbs).length c3] 43)).cell? ⟨w3.heap.size, 0, none⟩ = some (.bool (decide (z' < 0))) := hkx.cell 0
          have x1 : (w3.alloc (.cells #[.bool (decide (z' < 0)), .slice A3 (dig z'.natAbs).length c3] 43)).cell? ⟨w3.heap.size, 1, none⟩ = some (.slice A3 (dig z'.natAbs).length c3) := hkx.cell 1
          have d0 : (w3.alloc (.cells #[.bool (decide (z' < 0)), .slice A3 (dig z'.natAbs).length c3] 43)).cell? ⟨g6, 0, none⟩ = some (.bool (decide (z < 0))) := hk6.cell 0
          have d1 : (w3.alloc (.cells #[.bool (decide (z' < 0)), .slice A3 (dig z'.natAbs).length c3] 43)).cell? ⟨g6, 1, none⟩ = some (.slice A2 (dig z.natAbs).length c2) := hk6.cell 1
          have f0 := hk6.frozen 0
          have f1 := hk6.frozen 1
          have z0 := hk6.lt
          have z4 := hk4.lt
          have HS6 := Lib.hid (show Blk (((w3.alloc (.cells #[.bool (decide (z' < 0)), .slice A3 (dig z'.natAbs).length c3] 43)).setCell ⟨g6, 0, none⟩ (.bool (decide (z' < 0)))).setCell ⟨g6, 1, none⟩ (.slice A3 (dig z'.natAbs).length c3)) g6 47 (cellsT (decide (z' < 0)) A3 (dig z'.natAbs).length c3 (0, 0, 0, 0)) from (hk6.set_ 0 _).set_ 1 _)
          have HN6 := Lib.hid (hnb.store2 hk6 (by decide) (.bool (decide (z' < 0))) (.slice A3 (dig z'.natAbs).length c3))
          have HS4 := Lib.hid ((hk4.far (p := ⟨g6, 0, none⟩) (by simp; omega) (.bool (decide (z' < 0)))).far (p := ⟨g6, 1, none⟩) (by simp; omega) (.slice A3 (dig z'.natAbs).length c3))
          have HSS := Lib.hid ((hks.far (p := ⟨g6, 0, none⟩) (by simp; omega) (.bool (decide (z' < 0)))).far (p := ⟨g6, 1, none⟩) (by simp; omega) (.slice A3 (dig z'.natAbs).length c3))
          have HSB := Lib.hid ((hbl.setCell (p := ⟨g6, 0, none⟩) (by simp; omega) (.bool (decide (z' < 0)))).setCell (p := ⟨g6, 1, none⟩) (by simp; omega) (.slice A3 (dig z'.natAbs).length c3))
          have HSM := Lib.hid (hm2.only ((Only.set_ (g := g6) (w3.alloc (.cells #[.bool (decide (z' < 0)), .slice A3 (dig z'.natAbs).length c3] 43)) 0 (.bool (decide (z' < 0)))).trans (Only.set_ (g := g6) _ 1 (.slice A3 (dig z'.natAbs).length c3))) hm0')
          have H1 := Lib.hid h1
          have HZL := Lib.hid (show (dig z'.natAbs).length ≤ 100000 by omega)
          clear hk6 hnb hk4 hks hm2 hbl hkx h1 hd3
          go_wp2_with fail
          go_roundg (np - 1)
          case rel => exact ⟨1, z', (0, 0, 0, 0), A3, c3, by omega, rfl, by go_num, .inr ⟨by omega, HO.out⟩, fun j hj => by have := HEX.out j hj; omega, HS6.out, H1.out, HN6.out, HZL.out, HS4.out, HSS.out, HSB.out, HSM.out⟩
          case measure => have := HG.out; omega
      · have HO := Lib.hid ho
        have HRF := Lib.hid (fun (W : World) (hW : Below w.heap.size w W) (hk : Blk W g6 47 (cellsT (decide (z < 0)) A2 (dig z.natAbs).length c2 m)) (hm : MaxL W) => readFactor_any pt A A2 c (dig z.natAbs).length c2 B g6 (decide (z < 0)) m ls W (by omega) (by rw [HLN.out]; exact HL.out.below (hW.mono hB)) (by rw [HLN.out]; exact h4) hk (fun j hj => by have := hex j hj; omega) hm)
        rw [HLN.out] at HRF
        have k0 : ((k : Int) == 0) = false := by simp; omega
        clear ho
        go_wp2_with fail
        refine (HRF.out _ hbl hk6 hm2).mono ?_
        rintro e w4 ⟨hr, ho4⟩
        have hnb4 := hnb.only hk6 (by decide) ho4
        have hk4' := hk4.only ho4 (by omega)
        have hks' := hks.only ho4 (by omega)
        have hm4 := hm2.only ho4 hm0'
        have hbl4 := hbl.grown ho4 hbl.size (fun k hk => by injection hk with hk; omega)
        rw [HDR.out, factsR] at HO
        rcases hr with ⟨hf, rfl, hk6'⟩ | ⟨j, x, hf, hj4, hx0, hx1, rfl, hk6'⟩
        · have HN := Lib.hid (show o = none by rw [HO.out, hf]; rfl)
          clear hf HO hk6 hnb hk4 hks hm2 hbl ho4
          have f0 := hk4'.frozen 0; have f1 := hk4'.frozen 1; have f2 := hk4'.frozen 2; have f3 := hk4'.frozen 3; have f4 := hk4'.frozen 4; have f5 := hk4'.frozen 5
          have d0 : w4.cell? ⟨w.heap.size, 0, none⟩ = some (.bool false) := hk4'.cell 0
          have d1 : w4.cell? ⟨w.heap.size, 1, none⟩ = some (.slice none 0 0) := hk4'.cell 1
          have d2 : w4.cell? ⟨w.heap.size, 2, none⟩ = some (.int .i64 0) := hk4'.cell 2
          have d3 : w4.cell? ⟨w.heap.size, 3, none⟩ = some (.int .i64 0) := hk4'.cell 3
          have d4 : w4.cell? ⟨w.heap.size, 4, none⟩ = some (.int .i64 0) := hk4'.cell 4
          have d5 : w4.cell? ⟨w.heap.size, 5, none⟩ = some (.int .i64 0) := hk4'.cell 5
          have z0 := hk4'.lt
          go_wp2_with fail
          exact ret_blk2 Tryz.results35 rfl rfl ((((((hk4'.set_ 0 _).set_ 1 _).set_ 2 _).set_ 3 _).set_ 4 _).set_ 5 _) Tryz.underlying47 rfl Tryz.sizeTerm6 ⟨.inl ⟨HN.out, rfl⟩, (((((hbl4.setCell (Nat.le_refl _) _).setCell (Nat.le_refl _) _).setCell (Nat.le_refl _) _).setCell (Nat.le_refl _) _).setCell (Nat.le_refl _) _).setCell (Nat.le_refl _) _⟩
        · have HN := Lib.hid (show o = (factsR ls (P.drop (k + 1)) (addAt m j x)).map fun m => (z, m) by rw [HO.out, hf])
          have HE := Lib.hid (show ∀ i, i < 4 → 0 ≤ gt (addAt m j x) i ∧ gt (addAt m j x) i ≤ ((k + 1 : Nat) : Int) * 1073741824 from fun i hi => by have := gt_add hj4 hex hx0 hx1 i hi; omega)
          clear hf HO hk6 hnb hk4 hks hm2 hbl ho4
          go_wp2_with fail
          go_roundg (np - (k + 1))
          case rel => exact ⟨k + 1, z, addAt m j x, A2, c2, by omega, rfl, by go_num, .inr ⟨by omega, HN.out⟩, HE.out, hk6', hcc, hnb4, hdl, hk4', hks', hbl4, hm4⟩
          case measure => have := HG.out; omega
    · obtain rfl : k = np := by omega
      have HO := Lib.hid (show o = some (z, m) by
        rcases hst with ⟨h, _⟩ | ⟨_, h⟩
        · omega
        · rw [h, List.drop_of_length_le (by rw [HNP.out]; exact Nat.le_refl _)]
          rfl)
      have HEX := Lib.hid (show ∀ j, j < 4 → 0 ≤ gt m j ∧ gt m j ≤ 200000 * 1073741824 from fun j hj => by have := hex j hj; omega)
      have hx0 : wr.cell? ⟨g6, 0, none⟩ = some (.bool (decide (z < 0))) := hk6.cell 0
      have hx1 : wr.cell? ⟨g6, 1, none⟩ = some (.slice A2 (dig z.natAbs).length c2) := hk6.cell 1
      have hx2 : wr.cell? ⟨g6, 2, none⟩ = some (.int .i64 m.1) := hk6.cell 2
      have hx3 : wr.cell? ⟨g6, 3, none⟩ = some (.int .i64 m.2.1) := hk6.cell 3
      have hx4 : wr.cell? ⟨g6, 4, none⟩ = some (.int .i64 m.2.2.1) := hk6.cell 4
      have hx5 : wr.cell? ⟨g6, 5, none⟩ = some (.int .i64 m.2.2.2) := hk6.cell 5
      have f0 := hk4.frozen 0; have f1 := hk4.frozen 1; have f2 := hk4.frozen 2; have f3 := hk4.frozen 3; have f4 := hk4.frozen 4; have f5 := hk4.frozen 5
      have d0 : wr.cell? ⟨w.heap.size, 0, none⟩ = some (.bool false) := hk4.cell 0
      have d1 : wr.cell? ⟨w.heap.size, 1, none⟩ = some (.slice none 0 0) := hk4.cell 1
      have d2 : wr.cell? ⟨w.heap.size, 2, none⟩ = some (.int .i64 0) := hk4.cell 2
      have d3 : wr.cell? ⟨w.heap.size, 3, none⟩ = some (.int .i64 0) := hk4.cell 3
      have d4 : wr.cell? ⟨w.heap.size, 4, none⟩ = some (.int .i64 0) := hk4.cell 4
      have d5 : wr.cell? ⟨w.heap.size, 5, none⟩ = some (.int .i64 0) := hk4.cell 5
      have z0 := hk4.lt
      have z6 := hk6.lt
      have HK4 := Lib.hid hk4; have HBL := Lib.hid hbl
      have HNB := Lib.hid (((hnb.far hk4 (by decide) 0 (.bool (decide (z < 0)))).far (hk4.set_ 0 _) (by decide) 1 (.slice A2 (dig z.natAbs).length c2)).far ((hk4.set_ 0 _).set_ 1 _) (by decide) 2 (.int .i64 m.1) |>.far (((hk4.set_ 0 _).set_ 1 _).set_ 2 _) (by decide) 3 (.int .i64 m.2.1) |>.far ((((hk4.set_ 0 _).set_ 1 _).set_ 2 _).set_ 3 _) (by decide) 4 (.int .i64 m.2.2.1) |>.far (((((hk4.set_ 0 _).set_ 1 _).set_ 2 _).set_ 3 _).set_ 4 _) (by decide) 5 (.int .i64 m.2.2.2))
      clear hex hst hk6 hks hnb hk4 hbl hm2
      go_wp2_with fail
      exact ret_blk2 Tryz.results35 rfl rfl ((((((HK4.out.set_ 0 _).set_ 1 _).set_ 2 _).set_ 3 _).set_ 4 _).set_ 5 _) Tryz.underlying47 rfl Tryz.sizeTerm6 ⟨.inr ⟨z, m, HO.out, A2, c2, rfl, hcc, HNB.out, hdl, HEX.out⟩, (((((HBL.out.setCell (Nat.le_refl _) _).setCell (Nat.le_refl _) _).setCell (Nat.le_refl _) _).setCell (Nat.le_refl _) _).setCell (Nat.le_refl _) _).setCell (Nat.le_refl _) _⟩
end Go.Proofs.YtnghlhcekghciaaGreatDoor
