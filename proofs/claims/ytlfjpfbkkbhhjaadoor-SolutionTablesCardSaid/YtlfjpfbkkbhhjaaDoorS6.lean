/- Contract of solution.split, for at most 1000 rows of at most 6 signs. -/
import Derived.Test.YtlfjpfbkkbhhjaaDoorS5
namespace Go.Proofs.YtlfjpfbkkbhhjaaDoor
open Go.RowKit

theorem Tryd.infoInts : (Tryd.prog.info? 34).map (fun i => (i.zero, i.size, i.bytes)) = some (some (.slice none 0 0), 1, 24) := by kernel_rfl

/-! ### what 'split' reckons -/
def seenF (rows : List (List Int × Bool)) : Nat → List UInt8 → Option Bool
  | 0 => fun _ => none
  | k + 1 => if (seenF rows k (keyOf (sg rows k))).getD false then seenF rows k else fun s => if s = keyOf (sg rows k) then some true else seenF rows k s
def pickTo (b : Bool) (rows : List (List Int × Bool)) : Nat → List (List Int)
  | 0 => []
  | k + 1 => if (seenF rows k (keyOf (sg rows k))).getD false then pickTo b rows k else if tr rows k == b then pickTo b rows k ++ [sg rows k] else pickTo b rows k
theorem pickTo_len (b : Bool) (rows : List (List Int × Bool)) (k : Nat) : (pickTo b rows k).length ≤ k := by
  induction k with
  | zero => simp [pickTo]
  | succ k ih =>
    unfold pickTo
    split
    · omega
    · split
      · simp; omega
      · omega

theorem own_map_ne {P : Program} {ks eb : TypeId} {w : World} {b n : Nat} {f : List UInt8 → Option Bool} (h : BMap P ks eb w b n f) {base : Nat} {e : TypeId} {size m : Nat} {v : Value} {xs : List Value} (ho : w.ownsRow base e size v m xs) : some b ≠ v.ownBlock := by
  obtain ⟨D, ⟨es, clock, hb, _⟩, _⟩ := h
  rcases ho.2 with ⟨rfl, _⟩ | ⟨g', cap, cur, rfl, _, hh, _⟩
  · simp [Value.ownBlock]
  · intro he
    have : g' = b := by simpa [Value.ownBlock] using he.symm
    subst this
    rw [hh] at hb
    cases hb

/-- two rows of the call's own that do not share a block -/
def Apart (v u : Value) : Prop := ∀ g, v.ownBlock = some g → u.ownBlock ≠ some g
theorem Apart.kept {v u : Value} {w w' : World} {base : Nat} {e : TypeId} {size m : Nat} {xs : List Value} (h : Apart v u) (ho : w.ownsRow base e size u m xs) (hg : w.grownBy w' v.ownBlock) : w'.ownsRow base e size u m xs :=
  ho.kept hg (by
    cases hu : u.ownBlock with
    | none => exact .inl rfl
    | some g => exact .inr (fun e => h g e.symm hu))
theorem Apart.next {v v' u : Value} {w : World} {base : Nat} {e : TypeId} {size m : Nat} {xs : List Value} (h : Apart v u) (ho : w.ownsRow base e size u m xs) (hv : v'.ownBlock = v.ownBlock ∨ v'.ownBlock = some w.heap.size) : Apart v' u := by
  intro g hg
  rcases hv with hv | hv
  · exact h g (hv ▸ hg)
  · intro hu
    have := (ho.lt g hu).2
    rw [hv] at hg
    injection hg with hg
    omega
theorem Apart.nil : Apart (.slice none 0 0) (.slice none 0 0) := fun g hg => by simp [Value.ownBlock] at hg
theorem Apart.symm {v u : Value} (h : Apart v u) : Apart u v := fun g hg hv => h g hv hg

set_option maxHeartbeats 2000000 in
set_option maxRecDepth 100000 in
theorem split_any (A : Option Addr) (n c B : Nat) (rows : List (List Int × Bool)) (w : World) (hB : B ≤ w.heap.size) (hr : RowsAt w B A rows) (hn : n = rows.length) (hm : n ≤ 1000) (hq : ∀ k, k < rows.length → (sg rows k).length ≤ 6)
    (h64 : ∀ k, k < rows.length → ∀ x ∈ sg rows k, In64 x) (htab : TabOk w) :
    Calls Tryd.prog 19 #[.slice A n c] w fun e w' => ∃ A1 c1 A2 c2, e = .returned (.tuple #[.slice A1 (pickTo true rows n).length c1, .slice A2 (pickTo false rows n).length c2]) ∧
      ListsAt w' w'.heap.size A1 (pickTo true rows n) ∧ ListsAt w' w'.heap.size A2 (pickTo false rows n) ∧ Below w.heap.size w w' := by
  have HN := Lib.hid hn; clear hn
  have HQ := Lib.hid hq; clear hq
  have H64 := Lib.hid h64; clear h64
  have HT := Lib.hid htab; clear htab
  obtain ⟨i9, hi9, hy0, hy1, hy2⟩ := info_parts Tryd.infoInts
  have hmm := fun (n : Int) => run_makeMap_hint (P := Tryd.prog) 48 9 4 .i64 n Tryd.underlying48
  go_enter Tryd.func19, Tryd.ntmps19
  go_wp2
  clear hmm
  go_loopg [2, 3, 6, 7, 13] n (fun gn vy vn _ _ i wr => ∃ (k : Nat) (xs ys : List Value), k ≤ n ∧ gn = n - k ∧ i = .int .i64 k ∧ BMap Tryd.prog 9 4 wr w.heap.size k (seenF rows k) ∧
    wr.ownsRow w.heap.size 34 1 vy (pickTo true rows k).length xs ∧ Slices wr B xs (pickTo true rows k) ∧ wr.ownsRow w.heap.size 34 1 vn (pickTo false rows k).length ys ∧ Slices wr B ys (pickTo false rows k) ∧ Apart vy vn ∧ Below w.heap.size w wr)
  case atStart => exact ⟨0, [], [], Nat.zero_le _, rfl, rfl, BMap_made _ _ _ w, World.ownsRow_nil _ _ _ _, Slices.nil _ _, World.ownsRow_nil _ _ _ _, Slices.nil _ _, Apart.nil, (Below.refl _ _).alloc (Nat.le_refl _) _⟩
  case round =>
    obtain ⟨k, xs, ys, hk, hgk, rfl, hbm, hoy, hsy, hon, hsn, hap, hd⟩ := hrel
    have HG := Lib.hid hgk; clear hgk
    have hz := hd.size
    have hneq := hbm.lt
    by_cases hlt : k < n
    · obtain ⟨b1, o1, Ak, ck, rfl, q1, c1, c2, hs⟩ := (hr.below (hd.mono hB)).at_ (k := k) (by have := HN.out; omega)
      have h6 := HQ.out k (by have := HN.out; omega)
      have H64k := Lib.hid (H64.out k (by have := HN.out; omega))
      have hkl := keyOf_len (sg rows k) H64k.out
      have HF := Lib.hid (show seenF rows (k + 1) = if (seenF rows k (keyOf (sg rows k))).getD false then seenF rows k else fun s => if s = keyOf (sg rows k) then some true else seenF rows k s from rfl)
      have HY := Lib.hid (show pickTo true rows (k + 1) = if (seenF rows k (keyOf (sg rows k))).getD false then pickTo true rows k else if tr rows k == true then pickTo true rows k ++ [sg rows k] else pickTo true rows k from rfl)
      have HNo := Lib.hid (show pickTo false rows (k + 1) = if (seenF rows k (keyOf (sg rows k))).getD false then pickTo false rows k else if tr rows k == false then pickTo false rows k ++ [sg rows k] else pickTo false rows k from rfl)
      have hly := pickTo_len true rows k
      have hln := pickTo_len false rows k
      generalize seenF rows k = fk at *
      generalize pickTo true rows k = yk at *
      generalize pickTo false rows k = nk at *
      generalize sg rows k = l at *
      generalize tr rows k = tk at *
      have hdA := hd.alloc hz (.cells #[.slice Ak l.length ck, .bool tk] 36)
      have hbmA := hbm.alloc (.cells #[.slice Ak l.length ck, .bool tk] 36)
      have hoyA := hoy.alloc (.cells #[.slice Ak l.length ck, .bool tk] 36)
      have honA := hon.alloc (.cells #[.slice Ak l.length ck, .bool tk] 36)
      have hkA : ∀ p : Addr, p.block < B → (wr.alloc (.cells #[.slice Ak l.length ck, .bool tk] 36)).cell? p = wr.cell? p := fun p hp => World.cell?_alloc_lt _ _ _ (by omega)
      have hsA := hs.keep hkA
      have hsyA := hsy.keep hkA
      have hsnA := hsn.keep hkA
      have hBA : B ≤ (wr.alloc (.cells #[.slice Ak l.length ck, .bool tk] 36)).heap.size := by simp; omega
      have HKA := Lib.hid hkA; clear hkA
      go_wp2_with (go_at_call 25; refine (key_any _ _ _ B l _ hBA hsA h6 H64k.out (HT.out.on hdA)).mono ?_; rintro e w2 ⟨rfl, hb2⟩; refine Hid.out ?_)
      refine Lib.hid ?_
      have hbm2 := hbmA.old hb2
      have hd2 : Below w.heap.size w w2 := hdA.trans (hb2.mono (by simp; omega))
      have c5 : w2.cell? ⟨wr.heap.size, 1, none⟩ = some (.bool tk) := (hb2.cell (p := ⟨wr.heap.size, 1, none⟩) (by simp)).trans (by simp [go_sem, World.cell?_alloc_new])
      have c6 : w2.cell? ⟨wr.heap.size, 0, none⟩ = some (.slice Ak l.length ck) := (hb2.cell (p := ⟨wr.heap.size, 0, none⟩) (by simp)).trans (by simp [go_sem, World.cell?_alloc_new])
      have hks : (keyOf l).length ≤ maxLen := by unfold maxLen; omega
      have hz2 := hd2.size
      have hzr : wr.heap.size < w2.heap.size := by have := hb2.size; simp at this; omega
      have hkn : k < maxLen := by unfold maxLen; omega
      have hgn : (wr.alloc (.cells #[.slice Ak l.length ck, .bool tk] 36)).grownBy w2 none := ⟨hb2.os, hb2.tape, hb2.output, hb2.size, fun q hq _ => hb2.block q hq⟩
      have hoy2 : w2.ownsRow w.heap.size 34 1 u2 yk.length xs := hoyA.kept hgn (by cases h : u2.ownBlock <;> simp)
      have hon2 : w2.ownsRow w.heap.size 34 1 u3 nk.length ys := honA.kept hgn (by cases h : u3.ownBlock <;> simp)
      have hsy2 := hsyA.below (hb2.mono hBA)
      have hsn2 := hsnA.below (hb2.mono hBA)
      have hs2 := hsA.below (hb2.mono hBA)
      clear hbmA hsA hdA hb2 hbm hd c1 c2 hBA hs hoyA honA hoy hon hsy hsn hsyA hsnA hgn HKA
      generalize keyOf l = s at *
      cases hfs : (fk s).getD false
      · have HFS := Lib.hid hfs; clear hfs
        go_wp2_with (first | (at_lookup; refine wpList_blookup _ rfl _ _ 48 rfl Tryd.underlying48 Tryd.underlying9 Tryd.underlying4 (Tryd.zeroBool _) w.heap.size k fk rfl hbm2 s hks rfl _ HFS.out ?_) | (at_mapUpdate; refine wpList_bupdate _ rfl _ _ _ 48 rfl Tryd.underlying48 Tryd.underlying9 Tryd.underlying4 w.heap.size k fk rfl hbm2 hkn s hks true rfl rfl ?_; intro w3 hbm3 hg3; refine Hid.out ?_))
        refine Lib.hid ?_
        have e1 : Hid (seenF rows (k + 1) = fun s' => if s' = s then some true else fk s') := by rw [HF.out, HFS.out]; exact if_neg (by simp)
        have hd3 : Below w.heap.size w w3 := hd2.grown hg3 hz2 (fun q hq => by injection hq with hq; omega)
        have hkb : ∀ p : Addr, p.block < B → w3.cell? p = w2.cell? p := fun p hp => (hd3.cell (by omega)).trans (hd2.cell (by omega)).symm
        have hoy3 := hoy2.kept hg3 (.inr (fun e => own_map_ne hbm2 hoy2 e.symm))
        have hon3 := hon2.kept hg3 (.inr (fun e => own_map_ne hbm2 hon2 e.symm))
        have hsy3 := hsy2.keep hkb
        have hsn3 := hsn2.keep hkb
        have hs3 := hs2.keep hkb
        have c5' : w3.cell? ⟨wr.heap.size, 1, none⟩ = some (.bool tk) := hg3.cell c5 (by simp; omega)
        have c6' : w3.cell? ⟨wr.heap.size, 0, none⟩ = some (.slice Ak l.length ck) := hg3.cell c6 (by simp; omega)
        have hz3 := hd3.size
        clear hbm2 hg3 hoy2 hon2 hsy2 hsn2 hs2 c5 c6 hkb hd2
        have hoyA := hoy3.alloc (.cells #[.slice Ak l.length ck] 34)
        have honA := hon3.alloc (.cells #[.slice Ak l.length ck] 34)
        have hbmA := hbm3.alloc (.cells #[.slice Ak l.length ck] 34)
        have h63 : yk.length + 1 ≤ maxLen := by unfold maxLen; omega
        have hby : (yk.length + 1) * 24 ≤ 140737488355328 := by omega
        have h63n : nk.length + 1 ≤ maxLen := by unfold maxLen; omega
        have hbyn : (nk.length + 1) * 24 ≤ 140737488355328 := by omega
        have hbase : w.heap.size ≤ (w3.alloc (.cells #[.slice Ak l.length ck] 34)).heap.size := by simp; omega
        have hdA := hd3.alloc hz3 (.cells #[.slice Ak l.length ck] 34)
        cases tk
        · go_wp2_with (at_builtin; refine wpList_append_any _ rfl (.tmp 32) (.tmp 35) _ rfl w.heap.size 34 i9 _ 1 24 Tryd.underlying40 hi9 hy0 hy1 hy2 rfl (Nat.le_refl _) u3 _ _ rfl honA _ _ 1 1 _ rfl (Reads.one_new w3 (.slice Ak l.length ck) 34) (by intro u hu; simp at hu; subst hu; rfl) h63n hbyn hbase ?_; intro v4 w4 hown4 hg4 hat4)
          go_roundg (n - (k + 1))
          case rel =>
            have e2 : pickTo true rows (k + 1) = yk := by rw [HY.out, HFS.out]; rfl
            have e3 : pickTo false rows (k + 1) = nk ++ [l] := by rw [HNo.out, HFS.out]; rfl
            have hd4 : Below w.heap.size w w4 := hdA.grown hg4 (by simp; omega) (fun q hq => (honA.lt q hq).1)
            have hkb : ∀ p : Addr, p.block < B → w4.cell? p = w3.cell? p := fun p hp => (hd4.cell (by omega)).trans (hd3.cell (by omega)).symm
            refine ⟨k + 1, xs, ys ++ [.slice Ak l.length ck], by omega, rfl, by go_num, ?_, ?_, ?_, ?_, ?_, ?_, hd4⟩
            · rw [e1.out]; exact hbmA.kept hg4 (own_map_ne hbmA honA)
            · rw [e2]; exact hap.symm.kept hoyA hg4
            · rw [e2]; exact hsy3.keep hkb
            · rw [e3]; simpa using hown4
            · rw [e3]; exact (hsn3.keep hkb).snoc (hs3.keep hkb)
            · exact (hap.symm.next hoyA hat4).symm
          case measure => have := HG.out; omega
        · go_wp2_with (at_builtin; refine wpList_append_any _ rfl (.tmp 27) (.tmp 30) _ rfl w.heap.size 34 i9 _ 1 24 Tryd.underlying40 hi9 hy0 hy1 hy2 rfl (Nat.le_refl _) u2 _ _ rfl hoyA _ _ 1 1 _ rfl (Reads.one_new w3 (.slice Ak l.length ck) 34) (by intro u hu; simp at hu; subst hu; rfl) h63 hby hbase ?_; intro v4 w4 hown4 hg4 hat4)
          go_roundg (n - (k + 1))
          case rel =>
            have e2 : pickTo true rows (k + 1) = yk ++ [l] := by rw [HY.out, HFS.out]; rfl
            have e3 : pickTo false rows (k + 1) = nk := by rw [HNo.out, HFS.out]; rfl
            have hd4 : Below w.heap.size w w4 := hdA.grown hg4 (by simp; omega) (fun q hq => (hoyA.lt q hq).1)
            have hkb : ∀ p : Addr, p.block < B → w4.cell? p = w3.cell? p := fun p hp => (hd4.cell (by omega)).trans (hd3.cell (by omega)).symm
            refine ⟨k + 1, xs ++ [.slice Ak l.length ck], ys, by omega, rfl, by go_num, ?_, ?_, ?_, ?_, ?_, ?_, hd4⟩
            · rw [e1.out]; exact hbmA.kept hg4 (own_map_ne hbmA hoyA)
            · rw [e2]; simpa using hown4
            · rw [e2]; exact (hsy3.keep hkb).snoc (hs3.keep hkb)
            · rw [e3]; exact hap.kept honA hg4
            · rw [e3]; exact hsn3.keep hkb
            · exact hap.next honA hat4
          case measure => have := HG.out; omega
      · have HFS := Lib.hid hfs; clear hfs
        go_wp2_with (first | (at_lookup; refine wpList_blookup _ rfl _ _ 48 rfl Tryd.underlying48 Tryd.underlying9 Tryd.underlying4 (Tryd.zeroBool _) w.heap.size k fk rfl hbm2 s hks rfl _ HFS.out ?_))
        go_roundg (n - (k + 1))
        case rel =>
          have e1 : seenF rows (k + 1) = fk := by rw [HF.out, HFS.out]; rfl
          have e3 : pickTo true rows (k + 1) = yk := by rw [HY.out, HFS.out]; rfl
          have e4 : pickTo false rows (k + 1) = nk := by rw [HNo.out, HFS.out]; rfl
          refine ⟨k + 1, xs, ys, by omega, rfl, by go_num, ?_, ?_, ?_, ?_, ?_, hap, hd2⟩
          · rw [e1]; exact hbm2.mono (by omega)
          · rw [e3]; exact hoy2
          · rw [e3]; exact hsy2
          · rw [e4]; exact hon2
          · rw [e4]; exact hsn2
        case measure => have := HG.out; omega
    · obtain rfl : k = n := by omega
      obtain ⟨A1, cap1, hv1⟩ := own_slice hoy
      obtain ⟨A2, cap2, hv2⟩ := own_slice hon
      subst hv1
      subst hv2
      go_wp2
      go_ret2
      exact ⟨A1, cap1, A2, cap2, rfl, ListsAt.of_own hoy hsy (by omega), ListsAt.of_own hon hsn (by omega), hd⟩
end Go.Proofs.YtlfjpfbkkbhhjaaDoor
