/- The reference's split and digits. -/
import Derived.Test.YtnghlhcekghciaaGreatDoorZC
import Derived.Test.YtnghlhcekghciaaGreatDoorZU
namespace Go.Proofs.YtnghlhcekghciaaGreatDoor
open Go.RowKit

/-! ### pieces -/
def splG (c : UInt8) : Bs → Bs → List Bs
  | cur, [] => [cur]
  | cur, b :: r => if b = c then cur :: splG c [] r else splG c (cur ++ [b]) r
def spl (c : UInt8) (l : Bs) : List Bs := splG c [] l
theorem splG_parts {c : UInt8} : ∀ (r cur : Bs), c ∉ cur → splG c cur r = partsS c (cur ++ r)
  | [], cur, h => by rw [List.append_nil, parts_no h]; rfl
  | b :: r, cur, h => by
    rw [splG]
    by_cases hb : b = c
    · subst hb
      rw [if_pos rfl, parts_at r h, splG_parts r [] (by simp)]
      rfl
    · rw [if_neg hb, splG_parts r (cur ++ [b]) (by simp; exact ⟨h, fun e => hb e.symm⟩), List.append_assoc]
      rfl
theorem spl_parts (c : UInt8) (l : Bs) : spl c l = partsS c l := splG_parts l [] (by simp)
theorem mid_snoc {l : Bs} {f i : Nat} (hi : i < l.length) (hf : f ≤ i) : (l.take (i + 1)).drop f = (l.take i).drop f ++ [l.getD i 0] := by
  rw [List.take_succ_eq_append_getElem hi, List.drop_append_of_le_length (by rw [List.length_take]; omega), List.getD_eq_getElem?_getD, List.getElem?_eq_getElem hi]
  rfl
theorem Tryz.str_mid (l : Bs) (f i : Nat) (hf : f ≤ i) (hi : i ≤ l.length) (W : World) : (Instr.slice 9 (.string ⟨l.toArray⟩) (some (.int .i64 (f : Int))) (some (.int .i64 (i : Int))) none).run Tryz.prog W = .ok (.string ⟨((l.take i).drop f).toArray⟩) W := by
  have e : (⟨l.toArray⟩ : ByteArray).extract f i = ⟨((l.take i).drop f).toArray⟩ := by
    apply ByteArray.ext
    rw [ByteArray.data_extract]
    apply Array.ext'
    simp [List.drop_take]
  simp [Instr.slice, run_underlying Tryz.underlying9, go_sem]
  rw [if_pos (by omega), e, if_pos hf]

def SplRes (P : List Bs) (w : World) (e : Ending) (w' : World) : Prop :=
  ∃ A c, e = .returned (.slice A P.length c) ∧ w'.ownsRow w.heap.size 9 1 (.slice A P.length c) P.length (P.map strV) ∧ Below w.heap.size w w'
set_option maxHeartbeats 2000000 in
set_option maxRecDepth 100000 in
theorem RSplit_any (l : Bs) (c : UInt8) (w : World) (hl : l.length ≤ 100000) : Calls Tryz.prog 19 #[.string ⟨l.toArray⟩, .int .u8 (c.toNat : Int)] w (SplRes (spl c l) w) := by
  obtain ⟨i0, hi0, hz0, hz1, hz2⟩ := info_parts Tryz.infoStr
  have HS0 := Lib.hid (show [] ++ splG c ((l.take 0).drop 0) (l.drop 0) = spl c l by simp [spl])
  generalize hP : spl c l = P at *
  clear hP
  go_enter Tryz.func19, Tryz.ntmps19
  go_wp2_with fail
  go_loopg [5, 6, 7] (l.length + 2) (fun gn ov fv iv wr => ∃ (i f : Nat) (ps : List Bs), i ≤ l.length + 1 ∧ gn = l.length + 2 - i ∧ iv = .int .i64 i ∧ fv = .int .i64 f ∧ ps.length ≤ i ∧ wr.ownsRow w.heap.size 9 1 ov ps.length (ps.map strV) ∧ ((i ≤ l.length ∧ f ≤ i ∧ ps ++ splG c ((l.take i).drop f) (l.drop i) = P) ∨ (i = l.length + 1 ∧ ps = P)) ∧ Below w.heap.size w wr)
  case atStart => exact ⟨0, 0, [], by omega, rfl, rfl, rfl, Nat.le_refl _, ⟨rfl, .inl ⟨rfl, rfl⟩⟩, .inl ⟨by omega, Nat.le_refl _, HS0.out⟩, Below.refl _ _⟩
  case round =>
    clear HS0
    obtain ⟨i, f, ps, hi, hgi, rfl, rfl, hpl, hown, hst, hbl⟩ := hrel
    have HG := Lib.hid hgi
    clear hgi
    have hz := hbl.size
    rcases hst with ⟨hin, hfi, hst⟩ | ⟨rfl, rfl⟩
    · have hmid := fun (W : World) => Tryz.str_mid l f i hfi hin W
      have k1 : (i : Int) ≤ (l.length : Int) := by omega
      have k0 : (0 : Int) ≤ (i : Int) := by omega
      have k2 : (f : Int) ≤ (i : Int) := by omega
      have k3 : (0 : Int) ≤ (f : Int) := by omega
      have hown' := hown.alloc (.cells #[.string ⟨((l.take i).drop f).toArray⟩] 9)
      have h63 : ps.length + 1 ≤ maxLen := by unfold maxLen; omega
      have hby : (ps.length + 1) * 16 ≤ 140737488355328 := by omega
      have hbase : w.heap.size ≤ (wr.alloc (.cells #[.string ⟨((l.take i).drop f).toArray⟩] 9)).heap.size := by simp; omega
      have HST := Lib.hid hst
      clear hst
      obtain ⟨Ao, co, rfl⟩ := own_slice hown
      by_cases hlast : i = l.length
      · subst hlast
        have HNX := Lib.hid (show ps ++ [(l.take l.length).drop f] = P by
          have h := HST.out
          rw [show l.drop l.length = [] from List.drop_of_length_le (Nat.le_refl _), splG] at h
          exact h)
        generalize (l.take l.length).drop f = cur at *
        clear HST
        have k4 : ((l.length : Int) == (l.length : Int)) = true := by simp
        go_wp2_with (at_builtin; refine wpList_append_any _ rfl (.tmp 25) (.tmp 30) _ rfl w.heap.size 9 i0 _ 1 16 Tryz.underlying22 hi0 hz0 hz1 hz2 rfl (Nat.le_refl _) _ _ _ rfl hown' _ _ 1 1 _ rfl (Reads.one_new wr (.string ⟨cur.toArray⟩) 9) (by intro u hu; simp at hu; subst hu; rfl) h63 hby hbase ?_; intro v3 w6 hown6 hg6 hat6; refine Hid.out ?_)
        refine Lib.hid ?_
        have hbl6 := (hbl.alloc hz (.cells #[.string ⟨cur.toArray⟩] 9)).grown hg6 hbase (fun k hk => (hown'.lt k hk).1)
        have HO6 := Lib.hid hown6
        clear hown' hg6 hat6 hown hbl hown6 hmid
        go_wp2_with fail
        go_roundg 1
        case rel => exact ⟨l.length + 1, l.length + 1, ps ++ [cur], by omega, by omega, by go_num, by go_num, by simp; omega, by rw [List.length_append, List.length_singleton, List.map_append]; exact HO6.out, .inr ⟨rfl, HNX.out⟩, hbl6⟩
        case measure => have := HG.out; omega
      · have hlt : i < l.length := by omega
        have hix := fun (W : World) => Tryz.str_at l i hlt W
        have HDR := Lib.hid (show l.drop i = l.getD i 0 :: l.drop (i + 1) by
          rw [List.drop_eq_getElem_cons hlt, List.getD_eq_getElem?_getD, List.getElem?_eq_getElem hlt]
          rfl)
        have HSN := Lib.hid (mid_snoc hlt hfi)
        have k4 : ((i : Int) == (l.length : Int)) = false := by simp; omega
        have k5 : (i : Int) < (l.length : Int) := by omega
        by_cases hbc : l.getD i 0 = c
        · have HNX := Lib.hid (show (ps ++ [(l.take i).drop f]) ++ splG c ((l.take (i + 1)).drop (i + 1)) (l.drop (i + 1)) = P by
            have h := HST.out
            rw [HDR.out, splG, if_pos hbc] at h
            rw [show (l.take (i + 1)).drop (i + 1) = [] from List.drop_of_length_le (by rw [List.length_take]; omega), List.append_assoc]
            exact h)
          have k6 : (((l.getD i 0).toNat : Int) == (c.toNat : Int)) = true := by rw [hbc]; simp
          generalize (l.getD i 0).toNat = bn at *
          generalize (l.take i).drop f = cur at *
          generalize c.toNat = cn at *
          clear HST HDR HSN hbc
          have k7 : bn = cn := by have h7 := k6; simp at h7; omega
          subst k7
          go_wp2_with (at_builtin; refine wpList_append_any _ rfl (.tmp 25) (.tmp 30) _ rfl w.heap.size 9 i0 _ 1 16 Tryz.underlying22 hi0 hz0 hz1 hz2 rfl (Nat.le_refl _) _ _ _ rfl hown' _ _ 1 1 _ rfl (Reads.one_new wr (.string ⟨cur.toArray⟩) 9) (by intro u hu; simp at hu; subst hu; rfl) h63 hby hbase ?_; intro v3 w6 hown6 hg6 hat6; refine Hid.out ?_)
          refine Lib.hid ?_
          have hbl6 := (hbl.alloc hz (.cells #[.string ⟨cur.toArray⟩] 9)).grown hg6 hbase (fun k hk => (hown'.lt k hk).1)
          have HO6 := Lib.hid hown6
          clear hown' hg6 hat6 hown hbl hown6 hmid
          go_wp2_with fail
          go_roundg (l.length + 2 - (i + 1))
          case rel => exact ⟨i + 1, i + 1, ps ++ [cur], by omega, rfl, by go_num, by go_num, by simp; omega, by rw [List.length_append, List.length_singleton, List.map_append]; exact HO6.out, .inl ⟨by omega, Nat.le_refl _, HNX.out⟩, hbl6⟩
          case measure => have := HG.out; omega
        · have HNX := Lib.hid (show ps ++ splG c ((l.take (i + 1)).drop f) (l.drop (i + 1)) = P by
            have h := HST.out
            rw [HDR.out, splG, if_neg hbc] at h
            rw [HSN.out]
            exact h)
          have k6 : (((l.getD i 0).toNat : Int) == (c.toNat : Int)) = false := by
            simp only [beq_eq_false_iff_ne, ne_eq]
            intro e
            exact hbc (UInt8.toNat_inj.1 (by omega))
          generalize (l.getD i 0).toNat = bn at *
          generalize c.toNat = cn at *
          clear HST HDR HSN hbc hmid hown'
          go_wp2_with fail
          go_roundg (l.length + 2 - (i + 1))
          case rel => exact ⟨i + 1, f, ps, by omega, rfl, by go_num, rfl, by omega, hown, .inl ⟨by omega, by omega, HNX.out⟩, hbl⟩
          case measure => have := HG.out; omega
    · obtain ⟨Ao, co, rfl⟩ := own_slice hown
      have HO := Lib.hid hown
      have k1 : ¬ (l.length : Int) + 1 ≤ (l.length : Int) := by omega
      have k9 : (((l.length + 1 : Nat)) : Int) = (l.length : Int) + 1 := by omega
      rw [k9]
      clear hown
      go_wp2_with fail
      go_ret
      exact ⟨Ao, co, rfl, HO.out, hbl⟩
end Go.Proofs.YtnghlhcekghciaaGreatDoor

/- The reference's digits. -/
namespace Go.Proofs.YtnghlhcekghciaaGreatDoor
open Go.RowKit

/-- ten times a magnitude, and a carry: the digits below k -/
structure TenSt (zs : List Nat) (cr k va c : Nat) : Prop where
  len : zs.length = k
  dg : Dig zs
  sum : val zs + 4294967296 ^ k * cr = va * 10 + c
  carry : cr ≤ 9
theorem TenSt.step {zs : List Nat} {cr k va c xa : Nat} (h : TenSt zs cr k va c) (hx : xa < 4294967296) :
    TenSt (zs ++ [(xa * 10 + cr) % 4294967296]) ((xa * 10 + cr) / 4294967296) (k + 1) (va + 4294967296 ^ k * xa) c := by
  have hc := h.carry
  refine ⟨by simp [h.len], fun d hd => ?_, ?_, by omega⟩
  · rcases List.mem_append.1 hd with hd | hd
    · exact h.dg d hd
    · rw [List.mem_singleton] at hd; omega
  · have h0 := h.sum
    have hv := val_append zs [(xa * 10 + cr) % 4294967296]
    rw [h.len] at hv
    simp only [val, Nat.mul_zero, Nat.add_zero] at hv
    rw [hv, Nat.pow_succ]
    have e := Nat.mod_add_div (xa * 10 + cr) 4294967296
    generalize (xa * 10 + cr) % 4294967296 = t at *
    generalize (xa * 10 + cr) / 4294967296 = q at *
    generalize 4294967296 ^ k = p at *
    have e2 : p * (t + 4294967296 * q) = p * (xa * 10 + cr) := by rw [e]
    rw [Nat.mul_add, Nat.mul_add, ← Nat.mul_assoc, ← Nat.mul_assoc] at e2
    rw [Nat.add_mul]
    omega
theorem TenSt.done {zs : List Nat} {v c : Nat} (h : TenSt zs 0 (dig v).length v c) : zs = dig (v * 10 + c) := by
  have hs := h.sum
  rw [Nat.mul_zero, Nat.add_zero] at hs
  have h1 := dig_take h.dg
  rw [hs] at h1
  rw [h1]
  refine (List.take_of_length_le ?_).symm
  rw [h.len]
  refine Nat.le_of_not_lt fun hlt => ?_
  have := dig_len_mono hlt
  omega
theorem TenSt.more {zs : List Nat} {cr v c : Nat} (h : TenSt zs cr (dig v).length v c) (h0 : 0 < cr) : zs ++ [cr] = dig (v * 10 + c) := by
  have hs := h.sum
  have hc := h.carry
  have hv := val_append zs [cr]
  rw [h.len] at hv
  simp only [val, Nat.mul_zero, Nat.add_zero] at hv
  rw [hs] at hv
  rw [← hv]
  refine (dig_val (fun d hd => ?_) (fun hne => ?_)).symm
  · rcases List.mem_append.1 hd with hd | hd
    · exact h.dg d hd
    · rw [List.mem_singleton] at hd; omega
  · rw [show (zs ++ [cr]).getLast hne = cr by simp]
    omega
def DigRes (s : Bs) (w : World) (e : Ending) (w' : World) : Prop :=
  ((s.all isd = true ∧ ∃ A c, e = .returned (.tuple #[.slice A (dig (decV s)).length c, .bool (decide (0 < s.length))]) ∧ w'.ownsRow w.heap.size 39 1 (.slice A (dig (decV s)).length c) (dig (decV s)).length (u32s (dig (decV s)))) ∨ (s.all isd = false ∧ e = .returned (.tuple #[.slice none 0 0, .bool false]))) ∧ Below w.heap.size w w'
set_option maxHeartbeats 2000000 in
set_option maxRecDepth 100000 in
theorem RDigits_any (l : Bs) (w : World) (hl : l.length ≤ 100000) : Calls Tryz.prog 41 #[.string ⟨l.toArray⟩] w (DigRes l w) := by
  obtain ⟨i0, hi0, hz0, hz1, hz2⟩ := info_parts Tryz.infoU32
  have HSM := Lib.hid (fun i (hi : i ≤ l.length) (h : (l.take i).all isd = true) => show (dig (decV (l.take i))).length ≤ i from by
    have := dec_small h (p := i) (by rw [List.length_take]; omega)
    rwa [List.take_take, Nat.min_self] at this)
  have HBAD := Lib.hid (fun i (h : i < l.length) => @all_bad l i h)
  have HGO := Lib.hid (fun i (h : i < l.length) => @all_step l i h)
  have HTK := Lib.hid (fun i (h : i < l.length) => @decV_take l i h)
  go_enter Tryz.func41, Tryz.ntmps41
  go_wp2_with fail
  go_loopg [4, 5, 6, 7, 8] l.length (fun gn ov iv _ _ _ wr => ∃ (i : Nat) (Ao : Option Addr) (co : Nat), i ≤ l.length ∧ gn = l.length - i ∧ iv = .int .i64 i ∧ ov = .slice Ao (dig (decV (l.take i))).length co ∧ (l.take i).all isd = true ∧ wr.ownsRow w.heap.size 39 1 (.slice Ao (dig (decV (l.take i))).length co) (dig (decV (l.take i))).length (u32s (dig (decV (l.take i)))) ∧ Below w.heap.size w wr)
  case atStart =>
    refine ⟨0, none, 0, by omega, rfl, rfl, ?_, rfl, ?_, Below.refl _ _⟩
    · rw [List.take_zero, show dig (decV []) = [] from dig_zero]; rfl
    · rw [List.take_zero, show dig (decV []) = [] from dig_zero]; exact ⟨rfl, .inl ⟨rfl, rfl⟩⟩
  case round =>
    obtain ⟨i, Ao, co, hi, hgi, rfl, rfl, hall, hown, hbl⟩ := hrel
    have HG := Lib.hid hgi
    clear hgi
    have hz := hbl.size
    by_cases hlt : i < l.length
    · have hix := fun (W : World) => Tryz.str_at l i hlt W
      have k0 : (0 : Int) ≤ (i : Int) := by omega
      have k1 : (i : Int) < (l.length : Int) := by omega
      have HB1 := Lib.hid (HBAD.out i hlt)
      have HG1 := Lib.hid (HGO.out i hlt hall)
      have HT1 := Lib.hid (HTK.out i hlt)
      have HS1 := Lib.hid (HSM.out i hi hall)
      have HBL := Lib.hid hbl
      have hbn : (l.getD i 0).toNat < 256 := (l.getD i 0).toNat_lt
      have HID := Lib.hid (show isd (l.getD i 0) = decide (48 ≤ (l.getD i 0).toNat ∧ (l.getD i 0).toNat ≤ 57) from rfl)
      clear HBAD HGO HTK HSM hall
      generalize isd (l.getD i 0) = ib at *
      generalize (l.getD i 0).toNat = bn at *
      by_cases hb1 : bn < 48
      · have k2 : (bn : Int) < 48 := by omega
        clear hown
        go_wp2_with fail
        go_ret2
        exact ⟨.inr ⟨HB1.out (by rw [HID.out]; simp; omega), rfl⟩, HBL.out⟩
      · have k2 : ¬ (bn : Int) < 48 := by omega
        by_cases hb2 : 57 < bn
        · have k3 : (57 : Int) < (bn : Int) := by omega
          clear hown
          go_wp2_with fail
          go_ret2
          exact ⟨.inr ⟨HB1.out (by rw [HID.out]; simp; omega), rfl⟩, HBL.out⟩
        · have k3 : ¬ (57 : Int) < (bn : Int) := by omega
          have HG2 := Lib.hid (HG1.out (by rw [HID.out]; simp; omega))
          have HV1 := Lib.hid (val_dig (decV (l.take i)))
          have HDG := Lib.hid (dig_dig (decV (l.take i)))
          have HDN := Lib.hid (fun zs => @TenSt.done zs (decV (l.take i)) (bn - 48))
          have HMO := Lib.hid (fun zs cr => @TenSt.more zs cr (decV (l.take i)) (bn - 48))
          rw [← HT1.out] at HDN HMO
          have hst0 : TenSt [] (bn - 48) 0 (val ((dig (decV (l.take i))).take 0)) (bn - 48) := ⟨rfl, by simp [Dig], by simp [val], by omega⟩
          have HTA := Lib.hid (show val ((dig (decV (l.take i))).take (dig (decV (l.take i))).length) = decV (l.take i) by rw [List.take_length]; exact HV1.out)
          clear HB1 HG1 HT1 HID hbl
          generalize decV (l.take i) = v at *
          generalize hv' : decV (l.take (i + 1)) = v' at *
          have HVV := Lib.hid hv'
          clear hv'
          generalize dig v = a at *
          have hown0 : wr.ownsRow w.heap.size 39 1 (.slice Ao a.length co) a.length (u32s ([] ++ a.drop 0)) := by simpa using hown
          have ha := HS1.out
          clear hown
          go_wp2_with fail
          go_loopg [6, 7, 8, 32] a.length (fun gn cv _ _ kv wx => ∃ (k cr : Nat) (zs : List Nat), k ≤ a.length ∧ gn = a.length - k ∧ kv = .int .i64 k ∧ cv = .int .u64 (cr : Int) ∧ TenSt zs cr k (val (a.take k)) (bn - 48) ∧ wx.ownsRow w.heap.size 39 1 (.slice Ao a.length co) a.length (u32s (zs ++ a.drop k)) ∧ Below w.heap.size w wx)
          case atStart => exact ⟨0, bn - 48, [], by omega, rfl, rfl, by go_num, hst0, hown0, HBL.out⟩
          case round =>
            clear hst0 hown0 HBL hz
            obtain ⟨k, cr, zs, hk, hgk, rfl, rfl, hst, hown, hbl⟩ := hrel
            have HGK := Lib.hid hgk
            clear hgk
            have hz := hbl.size
            have hcr := hst.carry
            by_cases hka : k < a.length
            · obtain ⟨g, cap, hv, hgb, hgl, _⟩ := own_form hown (by omega)
              injection hv with hv1 hv2 hv3
              subst hv1
              subst hv3
              have hxa := dig_at HDG.out k
              have c1 : wr.cell? ⟨g, k, none⟩ = some (.int .u32 ((a.getD k 0 : Nat) : Int)) := by
                have := hown.cells (g := g) rfl k _ (min_at hst.len hka)
                rwa [Addr.add_lit, Nat.zero_add] at this
              have f1 : wr.frozen? ⟨g, k, none⟩ = false := by
                rcases hown.2 with ⟨h1, _⟩ | ⟨g', cap', cur, h1, h2, h3, _⟩
                · cases h1
                · injection h1 with a1
                  injection a1 with a1
                  injection a1 with a1
                  subst a1
                  exact (show Blk wr g 39 cur from h3).frozen k
              have HN := Lib.hid (hst.step hxa)
              rw [← val_take_succ hka] at HN
              have HPUT : Hid (∀ (u : Int), u = ((((a.getD k 0) * 10 + cr) % 4294967296 : Nat) : Int) → (wr.setCell ⟨g, k, none⟩ (.int .u32 u)).ownsRow w.heap.size 39 1 (.slice (some ⟨g, 0, none⟩) a.length co) a.length (u32s ((zs ++ [((a.getD k 0) * 10 + cr) % 4294967296]) ++ a.drop (k + 1)))) := Lib.hid (fun u hu => by
                have := own_put hown k (.int .u32 u)
                rw [← min_set (x := ((a.getD k 0) * 10 + cr) % 4294967296) hst.len hka]
                unfold u32s at this ⊢
                rw [List.map_set, ← hu]
                exact this)
              clear hst hown
              generalize a.getD k 0 = xa at *
              have j1 : (k : Int) < (a.length : Int) := by omega
              have j0 : (0 : Int) ≤ (k : Int) := by omega
              have x0 : (xa : Int) < 4294967296 := by omega
              have x1 : (cr : Int) ≤ 9 := by omega
              go_wp2_with fail
              go_roundg (a.length - (k + 1))
              case rel => exact ⟨k + 1, (xa * 10 + cr) / 4294967296, _, by omega, rfl, by go_num, by go_num, HN.out, HPUT.out _ (by omega), hbl.setCell (p := ⟨g, k, none⟩) hgb _⟩
              case measure => have := HGK.out; omega
            · obtain rfl : k = a.length := by omega
              rw [List.drop_length, List.append_nil] at hown
              rw [HTA.out] at hst
              have hzl := hst.len
              by_cases hc0 : cr = 0
              · subst hc0
                have HZ := Lib.hid (HDN.out zs hst)
                have HO := Lib.hid hown
                rw [HZ.out] at HO hzl
                clear hst hown
                go_wp2_with fail
                go_roundg (l.length - (i + 1))
                case rel => exact ⟨i + 1, Ao, co, by omega, rfl, by go_num, by rw [HVV.out, hzl], HG2.out, by rw [HVV.out, hzl]; exact HO.out, hbl⟩
                case measure => have := HG.out; omega
              · have hc1 : (0 : Int) < (cr : Int) := by omega
                have hc2 : (cr : Int) ≤ 9 := by omega
                have HZ := Lib.hid (HMO.out zs cr hst (by omega))
                have hown' := hown.alloc (.cells #[.int .u32 (cr : Int)] 39)
                have h63 : a.length + 1 ≤ maxLen := by unfold maxLen; omega
                have hby : (a.length + 1) * 4 ≤ 140737488355328 := by omega
                have hbase : w.heap.size ≤ (wr.alloc (.cells #[.int .u32 (cr : Int)] 39)).heap.size := by simp; omega
                have hzz : (zs ++ [cr]).length = a.length + 1 := by simp [hzl]
                clear hst
                go_wp2_with (at_builtin; refine wpList_append_any _ rfl (.tmp 53) (.tmp 56) _ rfl w.heap.size 39 i0 _ 1 4 Tryz.underlying40 hi0 hz0 hz1 hz2 rfl (Nat.le_refl _) _ _ _ rfl hown' _ _ 1 1 _ rfl (Reads.one_new wr (.int .u32 (cr : Int)) 39) (by intro u hu; simp at hu; subst hu; rfl) h63 hby hbase ?_; intro v3 w6 hown6 hg6 hat6; refine Hid.out ?_)
                refine Lib.hid ?_
                have hbl6 := (hbl.alloc hz (.cells #[.int .u32 (cr : Int)] 39)).grown hg6 hbase (fun k hk => (hown'.lt k hk).1)
                have hrow : w6.ownsRow w.heap.size 39 1 v3 (a.length + 1) (u32s (zs ++ [cr])) := by
                  rw [show u32s (zs ++ [cr]) = u32s zs ++ [.int .u32 (cr : Int)] by simp [u32s]]
                  exact hown6
                obtain ⟨A6, c6, rfl⟩ := own_slice hrow
                rw [HZ.out] at hrow hzz
                have HO6 := Lib.hid hrow
                clear hown' hg6 hat6 hown hbl hown6 hrow
                go_wp2_with fail
                go_roundg (l.length - (i + 1))
                case rel => exact ⟨i + 1, A6, c6, by omega, rfl, by go_num, by rw [HVV.out, hzz], HG2.out, by rw [HVV.out, hzz]; exact HO6.out, hbl6⟩
                case measure => have := HG.out; omega
    · obtain rfl : i = l.length := by omega
      rw [List.take_length] at hall hown
      have HO := Lib.hid hown
      have HA := Lib.hid hall
      clear hown hall
      rw [List.take_length]
      generalize hnn : (dig (decV l)).length = n at *
      have HNN := Lib.hid hnn
      clear hnn
      cases hll : decide (0 < l.length) with
      | true =>
        have k2 : (0 : Int) < (l.length : Int) := by simpa using hll
        have HLL := Lib.hid hll
        clear hll
        go_wp2_with fail
        go_ret2
        exact ⟨.inl ⟨HA.out, Ao, co, by rw [HLL.out, HNN.out]; rfl, by rw [HNN.out]; exact HO.out⟩, hbl⟩
      | false =>
        have k3 : (l.length : Int) = 0 := by simp at hll; simp [hll]
        have HLL := Lib.hid hll
        clear hll
        go_wp2_with fail
        go_ret2
        exact ⟨.inl ⟨HA.out, Ao, co, by rw [HLL.out, HNN.out]; rfl, by rw [HNN.out]; exact HO.out⟩, hbl⟩
end Go.Proofs.YtnghlhcekghciaaGreatDoor
