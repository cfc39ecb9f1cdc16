/- The reference's decimal digits of a magnitude. -/
import Derived.Test.YtnghlhcekghciaaGreatDoorZU
import Derived.Test.YtnghlhcekghciaaGreatDoorZX
import Derived.Test.YtnghlhcekghciaaGreatDoorX6
import Derived.Test.YtnghlhcekghciaaGreatDoorXG
import Derived.Test.YtnghlhcekghciaaGreatDoorXF
import Derived.Test.YtnghlhcekghciaaGreatDoorXH
import Derived.Test.YtnghlhcekghciaaGreatDoorXT
import Derived.Test.YtnghlhcekghciaaGreatDoorXO
namespace Go.Proofs.YtnghlhcekghciaaGreatDoor
open Go.RowKit

/-- the digits that are still to be written -/
def fullD (v : Nat) : Bs := if v = 0 then [] else Lib.decDigits v
theorem fullD_step {v : Nat} (h : v ≠ 0) : fullD v = fullD (v / 10) ++ [dch (v % 10)] := by
  unfold fullD
  rw [if_neg h]
  by_cases hs : v < 10
  · rw [if_pos (by omega), decD_small hs, Nat.mod_eq_of_lt hs]; rfl
  · rw [if_neg (by omega), decD_big hs]; rfl
theorem fullD_zero : fullD 0 = [] := if_pos rfl
theorem fullD_pos {v : Nat} (h : v ≠ 0) : fullD v = Lib.decDigits v := if_neg h

/-- a magnitude of which the digits from k on are replaced by those of the quotient -/
def inpl (a zs : List Nat) (k : Nat) : List Nat := a.take k ++ zs.drop k
theorem inpl_full {a zs : List Nat} (h : zs.length = a.length) : inpl a zs a.length = a := by
  unfold inpl
  rw [List.take_length, List.drop_eq_nil_of_le (by omega), List.append_nil]
theorem inpl_zero (a zs : List Nat) : inpl a zs 0 = zs := by simp [inpl]
theorem inpl_at {a zs : List Nat} {k : Nat} (hk : k < a.length) : (inpl a zs (k + 1)).getD k 0 = a.getD k 0 := by
  unfold inpl
  rw [List.getD_eq_getElem?_getD, List.getElem?_append_left (by simp; omega), List.getElem?_take, if_pos (by omega), ← List.getD_eq_getElem?_getD]
theorem inpl_len {a zs : List Nat} (h : zs.length = a.length) {k : Nat} (hk : k ≤ a.length) : (inpl a zs k).length = a.length := by
  simp [inpl]; omega
theorem inpl_set {a zs : List Nat} {k q : Nat} (h : zs.length = a.length) (hk : k < a.length) : (inpl a zs (k + 1)).set k q = inpl a (zs.set k q) k := by
  unfold inpl
  have hl : (a.take k).length = k := by rw [List.length_take]; omega
  rw [List.take_succ_eq_append_getElem hk, List.append_assoc, List.set_append_right _ _ (by omega), hl, Nat.sub_self]
  have e : (zs.set k q).drop k = q :: zs.drop (k + 1) := by
    rw [List.drop_eq_getElem_cons (by simp; omega), List.getElem_set_self, List.drop_set_of_lt (by omega)]
  rw [e]
  rfl

theorem u32s_get {l : List Nat} {k : Nat} (h : k < l.length) : (u32s l)[k]? = some (.int .u32 ((l.getD k 0 : Nat) : Int)) := by
  simp [u32s, List.getElem?_eq_getElem h]
theorem own_mono {w : World} {base base' n size : Nat} {e : TypeId} {v : Value} {xs : List Value} (h : w.ownsRow base e size v n xs) (hb : base' ≤ base) : w.ownsRow base' e size v n xs :=
  ⟨h.1, h.2.imp id fun ⟨g, cap, cur, h1, h2, h3⟩ => ⟨g, cap, cur, h1, Nat.le_trans hb h2, h3⟩⟩
theorem encode_digit {r : Nat} (h : r < 10) : Utf8.encode (48 + (r : Int)) = ⟨#[dch r]⟩ := by
  rcases (by omega : r = 0 ∨ r = 1 ∨ r = 2 ∨ r = 3 ∨ r = 4 ∨ r = 5 ∨ r = 6 ∨ r = 7 ∨ r = 8 ∨ r = 9) with rfl | rfl | rfl | rfl | rfl | rfl | rfl | rfl | rfl | rfl <;> rfl
theorem Tryz.rune_digit (r : Nat) (h : r < 10) (W : World) : (convert 21 9 (.int .i32 (48 + (r : Int)))).run Tryz.prog W = .ok (.string ⟨#[dch r]⟩) W := by
  rw [run_convert_int_string W 21 9 .i32 _ (by kernel_rfl) Tryz.underlying9, encode_digit h]
theorem run_addb {P : Program} (x y : Bs) (h : x.length + y.length ≤ 9223372036854775807) (W : World) : (Op.stringOp .add ⟨x.toArray⟩ ⟨y.toArray⟩).run P W = .ok (.string ⟨(x ++ y).toArray⟩) W := by
  have := run_string_add_sum (P := P) W ⟨x.toArray⟩ ⟨y.toArray⟩ (by simpa [ByteArray.size] using h)
  rwa [ByteArray.mk_append_mk] at this
theorem bytes_ne {s : Bs} (h : s ≠ []) : (⟨s.toArray⟩ : ByteArray).toList.isEmpty = false := by
  rw [ByteArray.toList_eq]
  cases s with
  | nil => exact absurd rfl h
  | cons a l => rfl
theorem bytes_nil : (⟨([] : Bs).toArray⟩ : ByteArray).toList = [] := by
  rw [ByteArray.toList_eq]
theorem quo_fit {r x : Nat} (hr : r < 10) (hx : x < 4294967296) : (r * 4294967296 + x) / 10 < 4294967296 := div_lt hx hr

set_option maxHeartbeats 2000000 in
set_option maxRecDepth 100000 in
theorem RDecimal_any (A : Option Addr) (c B : Nat) (ds : List Nat) (w : World) (hB : B ≤ w.heap.size) (h : NatIn w B A c ds) (hm : ds.length ≤ 1000) :
    Calls Tryz.prog 86 #[.slice A ds.length c] w fun e w' => e = .returned (.string ⟨(Lib.decDigits (val ds)).toArray⟩) ∧ Below w.heap.size w w' := by
  have HDL := Lib.hid (show (Lib.decDigits (val ds)).length ≤ 10001 by
    have h1 := pow_dec ds.length
    rw [Nat.pow_mul, show (2 : Nat) ^ 32 = 4294967296 by decide] at h1
    have h2 := Nat.lt_of_lt_of_le (val_lt h.dg) h1
    have h3 : 10 ^ (10 * ds.length) ≤ 10 ^ (10 * ds.length + 1) := Nat.pow_le_pow_right (by decide) (by omega)
    have := decD_len (Nat.lt_of_lt_of_le h2 h3)
    omega)
  have HVL := Lib.hid (dig_len_le h.dg)
  have HVD : ∀ v, v ≤ val ds → (dig v).length ≤ 1000 := fun v hv => by
    have h1 := dig_len_lt (v := v) (n := ds.length) (Nat.lt_of_le_of_lt hv (val_lt h.dg))
    omega
  have HVD := Lib.hid HVD
  have HRT := Lib.hid (RTrim_own A c B ds w hB h (by omega))
  clear h
  generalize hV : val ds = V at *
  have HV := Lib.hid hV
  clear hV
  go_enter Tryz.func86, Tryz.ntmps86
  go_wp2_with fail
  refine HRT.out.mono ?_
  rintro e w1 ⟨A1, c1, rfl, hown, hbl⟩
  have HS0 : fullD V ++ [] = fullD V := List.append_nil _
  go_wp2_with fail
  go_loopg [3, 4, 5, 6, 7] V (fun gn lv sv _ _ _ wr => ∃ (v : Nat) (A : Option Addr) (c : Nat) (s : Bs), v ≤ V ∧ gn = v ∧ lv = .slice A (dig v).length c ∧ sv = .string ⟨s.toArray⟩ ∧ wr.ownsRow w.heap.size 39 1 (.slice A (dig v).length c) (dig v).length (u32s (dig v)) ∧ fullD v ++ s = fullD V ∧ Below w.heap.size w wr)
  case atStart => exact ⟨V, A1, c1, [], Nat.le_refl _, rfl, rfl, rfl, hown, HS0, hbl⟩
  case round =>
    clear hown hbl HS0
    obtain ⟨v, Av, cv, s, hvV, hgv, rfl, rfl, hown, hfs, hbl⟩ := hrel
    have HG := Lib.hid hgv; have HFS := Lib.hid hfs
    clear hgv hfs
    have hz := hbl.size
    have hsl : s.length ≤ 10001 := by
      have h1 := congrArg List.length HFS.out
      rw [List.length_append] at h1
      have h2 : (fullD V).length ≤ 10001 := by
        unfold fullD
        split
        · simp
        · exact HDL.out
      omega
    rcases Nat.eq_zero_or_pos v with hv0 | hv0
    · subst hv0
      have hl0 : (dig 0).length = 0 := by rw [dig_zero]; rfl
      rw [hl0]
      rw [fullD_zero, List.nil_append] at HFS
      by_cases hV0 : V = 0
      · have hs : s = [] := by rw [HFS.out, hV0]; rfl
        subst hs
        have HE := Lib.hid (show Lib.decDigits V = [48] by rw [hV0, decD_small (by omega)]; rfl)
        clear hl0 hV0
        go_wp2_with fail
        go_ret
        exact ⟨by rw [HE.out]; rfl, hbl⟩
      · have HE := Lib.hid (show Lib.decDigits V = s by rw [HFS.out, fullD_pos hV0])
        have hne := bytes_ne (s := s) (by rw [← HE.out]; exact decD_ne V)
        clear hl0 hV0
        generalize hsv : (⟨s.toArray⟩ : ByteArray) = sv at *
        have HSV := Lib.hid hsv
        clear hsv
        go_wp2_with fail
        go_ret
        exact ⟨by rw [HE.out, HSV.out]; rfl, hbl⟩
    · have hvne : v ≠ 0 := by omega
      have HVD1 := Lib.hid (HVD.out v hvV)
      have hn1 : 0 < (dig v).length := by
        rcases Nat.eq_zero_or_pos (dig v).length with h1 | h1
        · exact absurd (dig_len0.1 h1) hvne
        · exact h1
      have HST := Lib.hid (fullD_step hvne)
      have G1 := Lib.hid (dig_dig v)
      have V1 := Lib.hid (val_dig v)
      have HNE := Lib.hid hvne
      have hl1 := HVD1.out
      clear hv0 hvne
      generalize hda : dig v = a at *
      have HDA := Lib.hid hda
      clear hda
      have hst0 := divSt0 a (d := 10) (by decide)
      have hfu := inpl_full (a := a) (zs := List.replicate a.length 0) (by simp)
      have j0 : (0 : Int) < (a.length : Int) := by omega
      have hown0 : wr.ownsRow w.heap.size 39 1 (.slice Av a.length cv) a.length (u32s (inpl a (List.replicate a.length 0) a.length)) := by rw [hfu]; exact hown
      clear hfu hown
      go_wp2_with fail
      go_loopg [5, 6, 7] a.length (fun gn rv iv _ wx => ∃ (k r : Nat) (zs : List Nat), k ≤ a.length ∧ gn = k ∧ iv = .int .i64 ((k : Int) - 1) ∧ rv = .int .u64 (r : Int) ∧ DivSt zs a 10 r k ∧ wx.ownsRow w.heap.size 39 1 (.slice Av a.length cv) a.length (u32s (inpl a zs k)) ∧ Below w.heap.size w wx)
      case atStart => exact ⟨a.length, 0, _, Nat.le_refl _, rfl, rfl, rfl, hst0, hown0, hbl⟩
      case round =>
        clear hst0 hown0 hbl hz
        obtain ⟨k, r, zs, hk, hgk, rfl, rfl, hst, hown, hbl⟩ := hrel
        have HGK := Lib.hid hgk
        clear hgk
        have hz := hbl.size
        rcases Nat.eq_zero_or_pos k with hk0 | hk0
        · subst hk0
          have hl := hst.last
          rw [V1.out] at hl
          obtain ⟨hl1', hl2⟩ := hl
          have hr10 : r < 10 := hst.rest
          have hzl := hst.len
          rw [inpl_zero] at hown
          have hrd := (NatK.of_own hown).reads
          have hcp := own_cap hown
          have hRT := RTrim_own Av cv wr.heap.size zs wr (Nat.le_refl _) ⟨hrd, hst.dg, by omega⟩ (by omega)
          rw [hl1', hzl] at hRT
          have HRT2 := Lib.hid hRT
          have hvV2 : v / 10 ≤ V := by omega
          have HV2 := Lib.hid hvV2
          have hadd := fun (W : World) => run_addb (P := Tryz.prog) [dch r] s (by simp; omega) W
          have hcv := fun (W : World) => Tryz.rune_digit r hr10 W
          have HR := Lib.hid hl2
          have hr0 : (0 : Int) ≤ (r : Int) := by omega
          have hr1 : (r : Int) < 10 := by omega
          clear hRT hst hown hrd hl1' hl2 hzl hcp
          go_wp2_with fail
          refine HRT2.out.mono ?_
          rintro e w4 ⟨A4, c4, rfl, hown4, hb4⟩
          have hbl4 := hbl.trans (hb4.mono hz)
          have hown4' := own_mono hown4 hz
          have HFN := Lib.hid (show fullD (v / 10) ++ ([dch r] ++ s) = fullD V by rw [← HFS.out, HST.out, HR.out]; simp)
          clear hown4 hb4 hbl hr0 hr1
          go_wp2_with fail
          go_roundg (v / 10)
          case rel => exact ⟨v / 10, A4, c4, _, HV2.out, rfl, rfl, rfl, hown4', HFN.out, hbl4⟩
          case measure => have h1 := HG.out; have h2 := HNE.out; omega
        · obtain ⟨j, rfl⟩ : ∃ j, k = j + 1 := ⟨k - 1, by omega⟩
          obtain ⟨g, cap, hv, hgb, hgl, _⟩ := own_form hown (by omega)
          injection hv with hv1 hv2 hv3
          subst hv1
          subst hv3
          have hxa := dig_at G1.out j
          have hat : (u32s (inpl a zs (j + 1)))[j]? = some (.int .u32 ((a.getD j 0 : Nat) : Int)) := by
            rw [u32s_get (by rw [inpl_len hst.len (by omega)]; omega), inpl_at (by omega)]
          have c1' : wr.cell? ⟨g, j, none⟩ = some (.int .u32 ((a.getD j 0 : Nat) : Int)) := by
            have := hown.cells (g := g) rfl j _ hat
            rwa [Addr.add_lit, Nat.zero_add] at this
          have f1 : wr.frozen? ⟨g, j, none⟩ = false := by
            rcases hown.2 with ⟨h1, _⟩ | ⟨g', cap', cur, h1, h2, h3, _⟩
            · cases h1
            · injection h1 with a1
              injection a1 with a1
              injection a1 with a1
              subst a1
              exact (show Blk wr g 39 cur from h3).frozen j
          have hr10 : r < 10 := hst.rest
          have hq := quo_fit hr10 hxa
          have hs : (r * 4294967296 + a.getD j 0) % 10 < 10 := Nat.mod_lt _ (by decide)
          have he : (r * 4294967296 + a.getD j 0) / 10 * 10 + (r * 4294967296 + a.getD j 0) % 10 = r * 4294967296 + a.getD j 0 := by omega
          have HN := Lib.hid (hst.step (k := j) (by omega) hq hs he)
          have HPUT : Hid (∀ u : Int, u = (((r * 4294967296 + a.getD j 0) / 10 : Nat) : Int) → (wr.setCell ⟨g, j, none⟩ (.int .u32 u)).ownsRow w.heap.size 39 1 (.slice (some ⟨g, 0, none⟩) a.length cv) a.length (u32s (inpl a (zs.set j ((r * 4294967296 + a.getD j 0) / 10)) j))) := Lib.hid (fun u hu => by
            have := own_put hown j (.int .u32 u)
            rw [← inpl_set hst.len (by omega)]
            unfold u32s at this ⊢
            rw [List.map_set, ← hu]
            exact this)
          have hxb : r * 4294967296 + a.getD j 0 < 42949672960 := by omega
          clear hst hown hat hs he
          generalize a.getD j 0 = xa at *
          have ek : ((j + 1 : Nat) : Int) - 1 = (j : Int) := by omega
          rw [ek]
          have HEK := Lib.hid ek
          have i1 : (j : Int) < (a.length : Int) := by omega
          have i0 : (0 : Int) ≤ (j : Int) := by omega
          have r0 : (r : Int) < 10 := by omega
          have x0 : (xa : Int) < 4294967296 := by omega
          clear ek hk0
          go_wp2_with fail
          go_roundg j
          case rel => exact ⟨j, (r * 4294967296 + xa) % 10, _, by omega, rfl, rfl, by rw [show (((r * 4294967296 + xa) % 10 : Nat) : Int) = ((r : Int) * 4294967296 + (xa : Int)) % 10 by omega], HN.out, HPUT.out _ (by omega), hbl.setCell (p := ⟨g, j, none⟩) hgb _⟩
          case measure => have := HGK.out; omega
end Go.Proofs.YtnghlhcekghciaaGreatDoor

/- The reference's texts: plain laws. The reference writes the coefficient first and takes a lone 1 back. -/
namespace Go.Proofs.YtnghlhcekghciaaGreatDoor

/-- what the reference's 'term' holds before name j -/
def rtTo (ns : List Bs) (c : Nat) (m : Mo) : Nat → Bs
  | 0 => Lib.decDigits c
  | j + 1 => if gt m j = 0 then rtTo ns c m j else (if rtTo ns c m j = [49] then [] else rtTo ns c m j ++ [42]) ++ nmAt ns j ++ powS (gt m j)
theorem rtTo_skip {ns : List Bs} {c : Nat} {m : Mo} {j : Nat} (h : gt m j = 0) : rtTo ns c m (j + 1) = rtTo ns c m j := by rw [rtTo, if_pos h]
theorem rtTo_take {ns : List Bs} {c : Nat} {m : Mo} {j : Nat} (h : gt m j ≠ 0) : rtTo ns c m (j + 1) = (if rtTo ns c m j = [49] then [] else rtTo ns c m j ++ [42]) ++ nmAt ns j ++ powS (gt m j) := by rw [rtTo, if_neg h]
theorem nmCh_first {x : Nat} (h : nmCh 0 x = true) : ¬ (48 ≤ x ∧ x ≤ 57) := by
  simp [nmCh] at h
  omega
theorem nm_first {ls : List Bs} (h : NmOk ls) {j : Nat} (hj : j < ls.length) : ∃ x ∈ nmAt ls j, ¬ isDig x := by
  have hn := h _ (nmAt_in hj)
  have hl : 0 < (nmAt ls j).length := by
    simp only [nameB, Bool.and_eq_true, decide_eq_true_eq] at hn
    omega
  refine ⟨(nmAt ls j).getD 0 0, head_getD hl, ?_⟩
  cases hc : nmCh 0 ((nmAt ls j).getD 0 0).toNat with
  | false => rw [nameB_bad hl hc] at hn; cases hn
  | true => exact nmCh_first hc
theorem wrTo_false {ns : List Bs} {c : Nat} {m : Mo} : ∀ j, (wrTo ns c m j).1 = false → (wrTo ns c m j).2 = []
  | 0 => by
    unfold wrTo
    split
    · exact fun _ => rfl
    · intro h; cases h
  | j + 1 => by
    by_cases h : gt m j = 0
    · rw [wrTo_skip h]; exact wrTo_false j
    · rw [wrTo_take h]; intro h; cases h
theorem mo_zero_gt {m : Mo} (h : m = (0, 0, 0, 0)) (j : Nat) : gt m j = 0 := by
  subst h
  unfold gt
  (repeat' split) <;> rfl
theorem dig49 : isDig 49 := by unfold isDig; decide
theorem rtTo_eq {ls : List Bs} (h : NmOk ls) {c : Nat} {m : Mo} (hl : LvOk ls m) (j : Nat) (hj : j ≤ 4) : ((wrTo ls c m j).1 = true → rtTo ls c m j = (wrTo ls c m j).2 ∧ (rtTo ls c m j = [49] → m = (0, 0, 0, 0))) ∧ ((wrTo ls c m j).1 = false → rtTo ls c m j = [49]) := by
  induction j with
  | zero =>
    by_cases h0 : c = 1 ∧ m ≠ (0, 0, 0, 0)
    · have e : wrTo ls c m 0 = (false, []) := by rw [wrTo, if_pos h0]
      rw [e]
      refine ⟨fun h => (by cases h), fun _ => ?_⟩
      show Lib.decDigits c = [49]
      rw [h0.1]
      exact decD_one.2 rfl
    · have e : wrTo ls c m 0 = (true, Lib.decDigits c) := by rw [wrTo, if_neg h0]
      rw [e]
      refine ⟨fun _ => ⟨rfl, fun h1 => ?_⟩, fun h => (by cases h)⟩
      have hc := decD_one.1 h1
      by_cases hm : m = (0, 0, 0, 0)
      · exact hm
      · exact absurd ⟨hc, hm⟩ h0
  | succ j ih =>
    have ih := ih (by omega)
    by_cases hg : gt m j = 0
    · rw [wrTo_skip hg, rtTo_skip hg]; exact ih
    · rw [wrTo_take hg, rtTo_take hg]
      obtain ⟨x, hx, hnd⟩ := nm_first h (hl j (by omega) hg)
      refine ⟨fun _ => ⟨?_, fun h1 => ?_⟩, fun h => (by cases h)⟩
      · cases hf : (wrTo ls c m j).1 with
        | true =>
          obtain ⟨e, hz⟩ := ih.1 hf
          rw [if_neg (fun h1 => hg (mo_zero_gt (hz h1) j)), e]
          rfl
        | false =>
          rw [if_pos (ih.2 hf), wrTo_false j hf]
          rfl
      · exfalso
        have hm : x ∈ (if rtTo ls c m j = [49] then [] else rtTo ls c m j ++ [42]) ++ nmAt ls j ++ powS (gt m j) := List.mem_append_left _ (List.mem_append_right _ hx)
        rw [h1, List.mem_singleton] at hm
        exact hnd (hm ▸ dig49)
theorem rtTo_over {ls : List Bs} {c : Nat} {m : Mo} (hl : LvOk ls m) : ∀ k, ls.length + k ≤ 4 → rtTo ls c m (ls.length + k) = rtTo ls c m ls.length
  | 0, _ => rfl
  | k + 1, h => by
    rw [← Nat.add_assoc, rtTo_skip, rtTo_over hl k (by omega)]
    by_cases h0 : gt m (ls.length + k) = 0
    · exact h0
    · exact absurd (hl _ (by omega) h0) (by omega)
theorem rtTo_term {ls : List Bs} (h : NmOk ls) (h4 : ls.length ≤ 4) {c : Nat} {m : Mo} (hl : LvOk ls m) : rtTo ls c m ls.length = termS ls c m := by
  have e := rtTo_over (c := c) hl (4 - ls.length) (by omega)
  rw [show ls.length + (4 - ls.length) = 4 by omega] at e
  rw [← e]
  have h1 := rtTo_eq h (c := c) hl 4 (Nat.le_refl _)
  cases hf : (wrTo ls c m 4).1 with
  | true => exact (h1.1 hf).1
  | false =>
    have h2 := (wrTo_full h (c := c) hl 4 (Nat.le_refl _)).2 hf
    exact absurd (mo_zero h2.2) h2.1.2
theorem rtTo_len {ns : List Bs} (hns : ∀ n ∈ ns, n.length ≤ 16) {c K : Nat} (hc : (Lib.decDigits c).length ≤ K) {m : Mo} (hm : ∀ j, j < 4 → gt m j ≤ 4398046511104) (j : Nat) (hj : j ≤ 4) : (rtTo ns c m j).length ≤ K + 31 * j := by
  induction j with
  | zero => exact hc
  | succ j ih =>
    have := ih (by omega)
    by_cases h : gt m j = 0
    · rw [rtTo_skip h]; omega
    · rw [rtTo_take h]
      have h1 := powS_len (hm j (by omega))
      have h2 : (nmAt ns j).length ≤ 16 := by
        unfold nmAt
        by_cases hl : j < ns.length
        · rw [List.getD_eq_getElem?_getD, List.getElem?_eq_getElem hl]
          exact hns _ (List.getElem_mem hl)
        · rw [List.getD_eq_getElem?_getD, List.getElem?_eq_none (by omega)]
          simp
      simp only [List.length_append]
      split <;> simp <;> omega

/-! ### levels -/
theorem lvL_fold (l : List Tm) : ∀ a : Int, l.foldl (fun a t => max a (lvM t.2)) a = a ∨ ∃ t ∈ l, l.foldl (fun a t => max a (lvM t.2)) a = lvM t.2 := by
  induction l with
  | nil => intro a; exact .inl rfl
  | cons t l ih =>
    intro a
    rw [List.foldl_cons]
    rcases ih (max a (lvM t.2)) with h | ⟨s, hs, h⟩
    · by_cases hm : lvM t.2 ≤ a
      · exact .inl (by rw [h]; omega)
      · exact .inr ⟨t, by simp, by rw [h]; omega⟩
    · exact .inr ⟨s, List.mem_cons_of_mem _ hs, h⟩
theorem lvL_le {n : Nat} {P : List Tm} (h : ∀ t ∈ P, lvM t.2 ≤ (n : Int)) : lvL P ≤ (n : Int) := by
  rcases lvL_fold P 0 with h1 | ⟨t, ht, h1⟩
  · unfold lvL; rw [h1]; omega
  · unfold lvL; rw [h1]; exact h t ht
theorem lvM_le {n : Nat} {m : Mo} (h : ∀ k, n ≤ k → k < 4 → ¬ 0 < gt m k) : lvM m ≤ (n : Int) := by
  have key : ∀ k, k < 4 → 0 < gt m k → k < n := fun k hk hg => by
    rcases Nat.lt_or_ge k n with h1 | h1
    · exact h1
    · exact absurd hg (h k h1 hk)
  unfold lvM
  split
  · rename_i hg; have := key 3 (by omega) hg; omega
  split
  · rename_i hg; have := key 2 (by omega) hg; omega
  split
  · rename_i hg; have := key 1 (by omega) hg; omega
  split
  · rename_i hg; have := key 0 (by omega) hg; omega
  · omega
theorem lvM_over {n : Nat} {m : Mo} (hv : vld m = true) {k : Nat} (hn : n ≤ k) (hk : k < 4) (hg : 0 < gt m k) : (n : Int) < lvM m := by
  have := lvM_gt hv hk (by omega)
  omega
end Go.Proofs.YtnghlhcekghciaaGreatDoor

/- The reference's text of a term. -/
namespace Go.Proofs.YtnghlhcekghciaaGreatDoor
open Go.RowKit

theorem nat_one {w : World} {g x : Nat} (hx : x < 4294967296) (hb : Blk w g 39 #[.int .u32 (x : Int)]) : NatIn w w.heap.size (some ⟨g, 0, none⟩) 1 [x] where
  rd := ⟨rfl, fun _ => ⟨g, 0, rfl, hb.lt, fun j u hu => by
    match j, hu with
    | 0, hu => simp [u32s] at hu; subst hu; exact (hb.cell 0)
    | j + 1, hu => simp [u32s] at hu⟩⟩
  dg := by intro d hd; simp at hd; omega
  cap := Nat.le_refl _
theorem toList_bs (l : Bs) : (⟨l.toArray⟩ : ByteArray).toList = l := by rw [ByteArray.toList_eq]
/-- a term's own copy: its exponents -/
theorem exp_at {w : World} {g : Nat} {p : PT} (h : Blk w g 47 p.cells.toArray) {k : Nat} (hk : k < 4) : w.cell? ⟨g, 2 + k, none⟩ = some (.int .i64 (gt p.m k)) := by
  rw [h.cell]
  rcases (by omega : k = 0 ∨ k = 1 ∨ k = 2 ∨ k = 3) with rfl | rfl | rfl | rfl <;> rfl

set_option maxHeartbeats 4000000 in
set_option maxRecDepth 100000 in
theorem RTerm_any (B : Nat) (p : PT) (A : Option Addr) (c : Nat) (ls : List Bs) (w : World) (hB : B ≤ w.heap.size) (hp : NatIn w B p.A p.c p.ds) (hpl : p.ds.length ≤ 1000)
    (hl : Reads w B 1 A ls.length (ls.map strV)) (h4 : ls.length ≤ 4) (hok : NmOk ls) (hvl : ∀ j, j < 4 → 0 ≤ gt p.m j ∧ gt p.m j ≤ 4294967295) (hlv : LvOk ls p.m) :
    Calls Tryz.prog 67 #[.agg p.cells.toArray, .slice A ls.length c] w fun e w' => e = .returned (.string ⟨(termS ls (val p.ds) p.m).toArray⟩) ∧ Below w.heap.size w w' := by
  have HEND := Lib.hid (rtTo_term hok h4 (c := val p.ds) hlv)
  have hk0 := Blk.new w 47 p.cells.toArray
  have hb0 := (Below.refl _ w).alloc (Nat.le_refl _) (.cells p.cells.toArray 47)
  have HDD := Lib.hid (fun (W : World) (hW : Below w.heap.size w W) => RDecimal_any p.A p.c B p.ds W (Nat.le_trans hB hW.size) (hp.below (hW.mono hB)) hpl)
  have HNS := Lib.hid (show ∀ n ∈ ls, n.length ≤ 16 from fun n hn => (nameB_len (hok n hn)).2)
  have HDL := Lib.hid (show (Lib.decDigits (val p.ds)).length ≤ 10001 by
    have h1 := pow_dec p.ds.length
    rw [Nat.pow_mul, show (2 : Nat) ^ 32 = 4294967296 by decide] at h1
    have h2 := Nat.lt_of_lt_of_le (val_lt hp.dg) h1
    have h3 : 10 ^ (10 * p.ds.length) ≤ 10 ^ (10 * p.ds.length + 1) := Nat.pow_le_pow_right (by decide) (by omega)
    have := decD_len (Nat.lt_of_lt_of_le h2 h3)
    omega)
  have HSK := Lib.hid (fun k => @rtTo_skip ls (val p.ds) p.m k)
  have HTK := Lib.hid (fun k => @rtTo_take ls (val p.ds) p.m k)
  have HST := Lib.hid (show rtTo ls (val p.ds) p.m 0 = Lib.decDigits (val p.ds) from rfl)
  have HLN := Lib.hid (fun k hk => rtTo_len (ns := ls) HNS.out HDL.out (m := p.m) (fun j hj => by have := (hvl j hj).2; omega) k hk)
  have HVL := Lib.hid hvl; have HR := Lib.hid hl; have HK0 := Lib.hid hk0; have HB0 := Lib.hid hb0
  have HXA := Lib.hid (fun (W : World) (h : Blk W w.heap.size 47 p.cells.toArray) k hk => exp_at h (k := k) hk)
  clear hp hl hok hvl hlv hk0 hb0
  generalize val p.ds = v at *
  simp only [PT.cells] at *
  generalize hmm : p.m = m at *
  generalize p.ng = ng at *
  generalize p.A = Ap at *
  generalize p.ds.length = np at *
  generalize p.c = cp at *
  clear hmm
  generalize rtTo ls v m = RT at *
  generalize hn : ls.length = n at *
  have HN := Lib.hid hn
  clear hn
  go_enter Tryz.func67, Tryz.ntmps67
  go_wp2_with fail
  refine (HDD.out _ HB0.out).mono ?_
  rintro e w1 ⟨rfl, hb1⟩
  rw [← HST.out]
  have hk1 := HK0.out.old hb1
  have hb1' := HB0.out.trans (hb1.mono HB0.out.size)
  clear hb1 HB0 HK0
  go_wp2_with fail
  go_loopg [5, 6, 13] n (fun gn sv _ ix wr => ∃ k : Nat, k ≤ n ∧ gn = n - k ∧ ix = .int .i64 k ∧ sv = .string ⟨(RT k).toArray⟩ ∧ Blk wr w.heap.size 47 #[.bool ng, .slice Ap np cp, .int .i64 m.1, .int .i64 m.2.1, .int .i64 m.2.2.1, .int .i64 m.2.2.2] ∧ Below w.heap.size w wr)
  case atStart => exact ⟨0, by omega, rfl, rfl, rfl, hk1, hb1'⟩
  case round =>
    clear hk1 hb1'
    obtain ⟨k, hk, hgk, rfl, rfl, hkb, hbl⟩ := hrel
    have HG := Lib.hid hgk
    clear hgk
    have hz := hbl.size
    have HKB := Lib.hid hkb
    by_cases hlt : k < n
    · have c0 := HXA.out wr hkb k (by omega)
      have i1 : (k : Int) < (n : Int) := by omega
      have i0 : (0 : Int) ≤ (k : Int) := by omega
      have i4 : (k : Int) < 4 := by omega
      have hx01 := HVL.out k (by omega)
      have HSK1 := Lib.hid (HSK.out k)
      have HTK1 := Lib.hid (HTK.out k)
      have hln := HLN.out k (by omega)
      have HXK := Lib.hid (fun (W : World) hW => HXA.out W hW k (by omega))
      generalize gt m k = x at *
      have hkl := hkb.lt
      generalize hR1 : RT (k + 1) = R1 at *
      have HR1 := Lib.hid hR1
      clear hR1
      by_cases hx : x = 0
      · subst hx
        have HE := Lib.hid (HSK1.out rfl)
        clear hkb
        go_wp2_with fail
        go_roundg (n - (k + 1))
        case rel => exact ⟨k + 1, by omega, rfl, by go_num, by rw [HR1.out, HE.out], HKB.out, hbl⟩
        case measure => have := HG.out; omega
      · have hxb : (x == 0) = false := by simpa using hx
        have HE := Lib.hid (HTK1.out hx)
        obtain ⟨b2, o2, rfl, q2, cn⟩ := strs_at (HR.out.below (hbl.mono hB)) (k := k) (by omega)
        have hnm : (ls.getD k []).length ≤ 16 := HNS.out _ (by have := HN.out; simp [List.getElem?_eq_getElem (show k < ls.length by omega)])
        have l2 : b2 < wr.heap.size := by omega
        unfold nmAt at HE
        generalize ls.getD k [] = nm at *
        generalize RT k = S at *
        have hR1l := congrArg List.length HE.out
        clear hx HTK1 HSK1
        by_cases hS : S = [49]
        · have hs : (⟨S.toArray⟩ : ByteArray).toList = [49] := by rw [toList_bs]; exact hS
          have HE1 := Lib.hid (show R1 = nm ++ powS x by rw [HE.out, if_pos hS, List.nil_append])
          obtain ⟨U, hU⟩ : ∃ U, U = nm := ⟨_, rfl⟩
          have hUl : U.length ≤ 20000 := by rw [hU]; omega
          have HU := Lib.hid hU
          have ha2 : ∀ W, (Op.stringOp .add ⟨#[]⟩ ⟨nm.toArray⟩).run Tryz.prog W = .ok (.string ⟨U.toArray⟩) W := fun W => by rw [HU.out]; exact run_addb [] nm (by simp; omega) W
          clear hS hU HE
          by_cases hx1 : 1 < x
          · have HE2 := Lib.hid (show R1 = U ++ (94 :: Lib.decDigits x.toNat) by rw [HE1.out, HU.out]; unfold powS; rw [if_pos hx1])
            have hdx := decD_len (n := x.toNat) (k := 9) (by omega)
            have hx2 : (0 : Int) ≤ x := hx01.1
            have hx3 : x ≤ 4294967295 := hx01.2
            have hx5 : x < 4294967296 := by omega
            have hxn : ((x.toNat : Nat) : Int) = x := by omega
            have ha3 : ∀ W, (Op.stringOp .add ⟨#[94]⟩ ⟨(Lib.decDigits x.toNat).toArray⟩).run Tryz.prog W = .ok (.string ⟨(94 :: Lib.decDigits x.toNat).toArray⟩) W := fun W => run_addb [94] (Lib.decDigits x.toNat) (by simp; omega) W
            have ha4 : ∀ W, (Op.stringOp .add ⟨U.toArray⟩ ⟨(94 :: Lib.decDigits x.toNat).toArray⟩).run Tryz.prog W = .ok (.string ⟨R1.toArray⟩) W := fun W => by
              rw [HE2.out]
              exact run_addb U (94 :: Lib.decDigits x.toNat) (by rw [List.length_cons]; omega) W
            have hbx := Blk.new wr 39 #[.int .u32 x]
            have hbal := hbl.alloc hz (.cells #[.int .u32 x] 39)
            have HKA := Lib.hid (hkb.alloc (.cells #[.int .u32 x] 39))
            have HRD := Lib.hid (RDecimal_any (some ⟨wr.heap.size, 0, none⟩) 1 _ [x.toNat] _ (Nat.le_refl _) (nat_one (by omega) (by rw [hxn]; exact hbx)) (by simp))
            rw [show val [x.toNat] = x.toNat by simp [val], show ([x.toNat] : List Nat).length = 1 from rfl] at HRD
            generalize Lib.decDigits x.toNat = D at *
            generalize (⟨U.toArray⟩ : ByteArray) = uv at *
            generalize (⟨D.toArray⟩ : ByteArray) = dv at *
            generalize (⟨(94 :: D).toArray⟩ : ByteArray) = ev at *
            generalize (⟨S.toArray⟩ : ByteArray) = sv at *
            generalize (⟨nm.toArray⟩ : ByteArray) = nv at *
            have HBA := Lib.hid hbal
            clear hbx hbal hxn hkb hdx hR1l
            go_wp2_with fail
            refine HRD.out.mono ?_
            rintro e w4 ⟨rfl, hb4⟩
            have hkb4 := HKA.out.old hb4
            have hbl4 := HBA.out.trans (hb4.mono HBA.out.size)
            clear c0 cn hb4 hbl
            go_wp2_with fail
            go_roundg (n - (k + 1))
            case rel => exact ⟨k + 1, by omega, rfl, by go_num, by rw [HR1.out], hkb4, hbl4⟩
            case measure => have := HG.out; omega
          · have HE2 := Lib.hid (show R1 = U by rw [HE1.out, HU.out]; unfold powS; rw [if_neg hx1, List.append_nil])
            generalize hU : (⟨U.toArray⟩ : ByteArray) = uv at *
            have HUV := Lib.hid hU
            generalize (⟨S.toArray⟩ : ByteArray) = sv at *
            generalize (⟨nm.toArray⟩ : ByteArray) = nv at *
            have hx6 : x ≤ 1 := by omega
            clear hkb hR1l hU
            go_wp2_with fail
            go_roundg (n - (k + 1))
            case rel => exact ⟨k + 1, by omega, rfl, by go_num, by rw [HR1.out, HE2.out, HUV.out], HKB.out, hbl⟩
            case measure => have := HG.out; omega
        · have hs : ((⟨S.toArray⟩ : ByteArray).toList == [49]) = false := by rw [toList_bs]; simpa using hS
          have HE1 := Lib.hid (show R1 = (S ++ [42] ++ nm) ++ powS x by rw [HE.out, if_neg hS])
          obtain ⟨T, hT⟩ : ∃ T, T = S ++ [42] := ⟨_, rfl⟩
          obtain ⟨U, hU⟩ : ∃ U, U = S ++ [42] ++ nm := ⟨_, rfl⟩
          have hUl : U.length ≤ 20000 := by rw [hU, List.length_append, List.length_append, List.length_singleton]; omega
          have HU := Lib.hid hU
          have HT := Lib.hid hT
          have ha1 : ∀ W, (Op.stringOp .add ⟨S.toArray⟩ ⟨#[42]⟩).run Tryz.prog W = .ok (.string ⟨T.toArray⟩) W := fun W => by rw [HT.out]; exact run_addb S [42] (by simp; omega) W
          have ha2 : ∀ W, (Op.stringOp .add ⟨T.toArray⟩ ⟨nm.toArray⟩).run Tryz.prog W = .ok (.string ⟨U.toArray⟩) W := fun W => by rw [HU.out, HT.out]; exact run_addb (S ++ [42]) nm (by simp; omega) W
          clear hS hU hT HE
          generalize (⟨T.toArray⟩ : ByteArray) = tv at *
          by_cases hx1 : 1 < x
          · have HE2 := Lib.hid (show R1 = U ++ (94 :: Lib.decDigits x.toNat) by rw [HE1.out, HU.out]; unfold powS; rw [if_pos hx1])
            have hdx := decD_len (n := x.toNat) (k := 9) (by omega)
            have hx2 : (0 : Int) ≤ x := hx01.1
            have hx3 : x ≤ 4294967295 := hx01.2
            have hx5 : x < 4294967296 := by omega
            have hxn : ((x.toNat : Nat) : Int) = x := by omega
            have ha3 : ∀ W, (Op.stringOp .add ⟨#[94]⟩ ⟨(Lib.decDigits x.toNat).toArray⟩).run Tryz.prog W = .ok (.string ⟨(94 :: Lib.decDigits x.toNat).toArray⟩) W := fun W => run_addb [94] (Lib.decDigits x.toNat) (by simp; omega) W
            have ha4 : ∀ W, (Op.stringOp .add ⟨U.toArray⟩ ⟨(94 :: Lib.decDigits x.toNat).toArray⟩).run Tryz.prog W = .ok (.string ⟨R1.toArray⟩) W := fun W => by
              rw [HE2.out]
              exact run_addb U (94 :: Lib.decDigits x.toNat) (by rw [List.length_cons]; omega) W
            have hbx := Blk.new wr 39 #[.int .u32 x]
            have hbal := hbl.alloc hz (.cells #[.int .u32 x] 39)
            have HKA := Lib.hid (hkb.alloc (.cells #[.int .u32 x] 39))
            have HRD := Lib.hid (RDecimal_any (some ⟨wr.heap.size, 0, none⟩) 1 _ [x.toNat] _ (Nat.le_refl _) (nat_one (by omega) (by rw [hxn]; exact hbx)) (by simp))
            rw [show val [x.toNat] = x.toNat by simp [val], show ([x.toNat] : List Nat).length = 1 from rfl] at HRD
            generalize Lib.decDigits x.toNat = D at *
            generalize (⟨U.toArray⟩ : ByteArray) = uv at *
            generalize (⟨D.toArray⟩ : ByteArray) = dv at *
            generalize (⟨(94 :: D).toArray⟩ : ByteArray) = ev at *
            generalize (⟨S.toArray⟩ : ByteArray) = sv at *
            generalize (⟨nm.toArray⟩ : ByteArray) = nv at *
            have HBA := Lib.hid hbal
            clear hbx hbal hxn hkb hdx hR1l
            go_wp2_with fail
            refine HRD.out.mono ?_
            rintro e w4 ⟨rfl, hb4⟩
            have hkb4 := HKA.out.old hb4
            have hbl4 := HBA.out.trans (hb4.mono HBA.out.size)
            clear c0 cn hb4 hbl
            go_wp2_with fail
            go_roundg (n - (k + 1))
            case rel => exact ⟨k + 1, by omega, rfl, by go_num, by rw [HR1.out], hkb4, hbl4⟩
            case measure => have := HG.out; omega
          · have HE2 := Lib.hid (show R1 = U by rw [HE1.out, HU.out]; unfold powS; rw [if_neg hx1, List.append_nil])
            generalize hU : (⟨U.toArray⟩ : ByteArray) = uv at *
            have HUV := Lib.hid hU
            generalize (⟨S.toArray⟩ : ByteArray) = sv at *
            generalize (⟨nm.toArray⟩ : ByteArray) = nv at *
            have hx6 : x ≤ 1 := by omega
            clear hkb hR1l hU
            go_wp2_with fail
            go_roundg (n - (k + 1))
            case rel => exact ⟨k + 1, by omega, rfl, by go_num, by rw [HR1.out, HE2.out, HUV.out], HKB.out, hbl⟩
            case measure => have := HG.out; omega
    · obtain rfl : k = n := by omega
      have HE := Lib.hid HEND.out
      go_wp2_with fail
      go_ret
      exact ⟨by rw [← HE.out]; rfl, hbl⟩
end Go.Proofs.YtnghlhcekghciaaGreatDoor

/- The reference's texts of the terms. -/
namespace Go.Proofs.YtnghlhcekghciaaGreatDoor
open Go.RowKit Go.Sort

theorem vld_nn' {m : Mo} (h : vld m = true) : ∀ j, j < 4 → 0 ≤ gt m j := fun j hj => by
  unfold vld at h
  simp only [Bool.and_eq_true, decide_eq_true_eq] at h
  rcases (by omega : j = 0 ∨ j = 1 ∨ j = 2 ∨ j = 3) with rfl | rfl | rfl | rfl <;> simp only [gt] <;> omega
theorem lvOk_up {ls : List Bs} {m : Mo} (hv : vld m = true) (h : ∀ i, ls.length ≤ i → i < 4 → ¬ 0 < gt m i) : LvOk ls m ∧ lvM m ≤ (ls.length : Int) := by
  refine ⟨fun j hj hne => ?_, lvM_le h⟩
  rcases Nat.lt_or_ge j ls.length with h1 | h1
  · exact h1
  · have := h j h1 hj
    have := vld_nn' hv j hj
    omega
/-- what holds of each term of the canonical form -/
structure QOk (M : Nat) (q : PT) : Prop where
  dl : q.ds.length ≤ 600
  vl : vld q.m = true
  ex : ∀ j, j < 4 → 0 ≤ gt q.m j ∧ gt q.m j ≤ 4294967295
  dc : (Lib.decDigits (val q.ds)).length ≤ 6001
  sg : q.ng = decide (ival q.ng q.ds < 0)
theorem qok {w : World} {B N M : Nat} {E : Int} {A : Option Addr} {ps qs : List PT} (h : PIn w B A ps N E M) (hM : M < Big) (hE : E ≤ 4294967295) (hc : Canon (qs.map PT.tm)) (hf : ∀ m, cf (qs.map PT.tm) m = cf (ps.map PT.tm) m) (hq : ∀ q ∈ qs, Cn q ∧ WfM q.m ∧ q.ds.length ≤ 600) : ∀ q ∈ qs, QOk M q := fun q hm => by
  have ht : q.tm ∈ qs.map PT.tm := List.mem_map.2 ⟨q, hm, rfl⟩
  have hv : vld q.m = true := hc.vl _ ht
  refine ⟨(hq q hm).2.2, hv, fun j hj => ⟨vld_nn' hv j hj, ?_⟩, ?_, ?_⟩
  · obtain ⟨s, hs, hs1, hs2⟩ := hc.src hf ht
    obtain ⟨p, hp, rfl⟩ := List.mem_map.1 hs
    have hs2 : p.m = q.m := hs2
    have hb := h.mb p hp hs1
    rw [hs2] at hb
    unfold MB at hb
    rcases (by omega : j = 0 ∨ j = 1 ∨ j = 2 ∨ j = 3) with rfl | rfl | rfl | rfl <;> simp only [gt] <;> omega
  · have h1 : q.tm.1.natAbs ≤ nrm (qs.map PT.tm) := nrm_mem ht
    have h2 := hc.nrm_le hf
    have h3 := h.nm
    have h4 : q.tm.1.natAbs = val q.ds := ival_abs _ _
    exact decD_pw (by omega)
  · obtain ⟨z, hz⟩ := (hq q hm).1
    have e1 : q.tm = (z, q.m) := by rw [hz]; exact mkP_tm _ _ _ _
    have e2 : ival q.ng q.ds = z := congrArg Prod.fst e1
    rw [e2, hz]
    rfl
set_option maxHeartbeats 4000000 in
set_option maxRecDepth 100000 in
theorem RTerms_any (A A' : Option Addr) (c c' B N : Nat) (E : Int) (M : Nat) (ps : List PT) (ls : List Bs) (w : World) (hB : B ≤ w.heap.size) (h : PIn w B A ps N E M) (hN : N ≤ 10000) (hM : M < Big) (hE : E ≤ 4294967295) (hn : NIn w B A' c' ls) :
    Calls Tryz.prog 42 #[.slice A ps.length c, .slice A' ls.length c'] w (TermsRes21 (cf (ps.map PT.tm)) ls N w) := by
  obtain ⟨i0, hi0, hz0, hz1, hz2⟩ := info_parts Tryz.infoStr
  have HPI := Lib.hid h
  have HNI := Lib.hid hn
  have HNA := Lib.hid (RNames_any A' c' B ls w hn.rd hn.len hn.el)
  have HLN := Lib.hid hn.len
  have HPL := Lib.hid h.len
  clear h hn
  generalize hG : cf (ps.map PT.tm) = G at *
  have HG := Lib.hid hG
  clear hG
  go_enter Tryz.func42, Tryz.ntmps42
  go_wp2_with fail
  refine HNA.out.mono ?_
  rintro e w1 ⟨rfl, hdr⟩
  have hb1 := hdr.below w.heap.size
  have HB1 := Lib.hid hb1
  clear hdr
  cases hnb : namesB ls with
  | false =>
    have HF := Lib.hid hnb
    clear hnb hb1
    go_wp2_with fail
    go_ret2
    exact ⟨.inl ⟨HF.out, rfl⟩, HB1.out⟩
  | true =>
    have HF := Lib.hid hnb
    have hok := namesB_ok hnb
    have h4 := hok.1
    have HOK := Lib.hid (show NmOk ls from hok.2)
    have HNS := Lib.hid (show ∀ n ∈ ls, n.length ≤ 16 from fun n hn => (nameB_len (hok.2 n hn)).2)
    have HRC := Lib.hid (RCanon_any A c B N E M ps w1 (Nat.le_trans hB hb1.size) (HPI.out.below (hb1.mono hB)) hN hM)
    clear hnb hok hb1
    go_wp2_with fail
    refine HRC.out.mono ?_
    rintro e w2 ⟨⟨A1, c1, qs, rfl, hrow, hcan, hcf, hcn, hln⟩, hb2⟩
    have hbl2 := HB1.out.trans (hb2.mono HB1.out.size)
    have HQO := Lib.hid (qok HPI.out hM hE hcan hcf hcn)
    have HCAN := Lib.hid hcan
    rw [HG.out] at hcf
    have HCF := Lib.hid hcf
    have HPO := Lib.hid hrow.polyIn
    have HBL2 := Lib.hid hbl2
    have HQN := Lib.hid (Nat.le_trans hln HPL.out)
    have hq1 : qs.length ≤ 10000 := Nat.le_trans HQN.out hN
    have HRD := Lib.hid ((HNI.out.below (hbl2.mono hB)).rd)
    have hB2 : B ≤ w2.heap.size := Nat.le_trans hB hbl2.size
    have HNIL := Lib.hid (show w2.ownsRow w2.heap.size 9 1 (.slice none 0 0) 0 [] from ⟨rfl, .inl ⟨rfl, rfl⟩⟩)
    clear hrow hcan hcf hcn hln hb2 HRC
    generalize hql : qs.length = n at *
    have HQL := Lib.hid hql
    clear hql
    generalize hll : ls.length = m at *
    have HLL := Lib.hid hll
    clear hll
    go_wp2_with fail
    go_loopg [6, 8, 9, 10, 18] n (fun gn tv _ _ _ ix wr => ∃ k : Nat, k ≤ n ∧ gn = n - k ∧ ix = .int .i64 k ∧ wr.ownsRow w2.heap.size 9 1 tv k ((termsS ls ((qs.take k).map PT.tm)).map strV) ∧ (∀ t ∈ (qs.take k).map PT.tm, lvM t.2 ≤ (m : Int)) ∧ Below w2.heap.size w2 wr)
    case atStart => exact ⟨0, by omega, rfl, rfl, HNIL.out, by simp, Below.refl _ _⟩
    case round =>
      obtain ⟨k, hk, hgk, rfl, hown, hlv, hbl⟩ := hrel
      have HGK := Lib.hid hgk
      have HLV := Lib.hid hlv
      clear hgk hlv
      have hz := hbl.size
      by_cases hlt : k < n
      · obtain ⟨p, hp⟩ : ∃ p, qs[k]? = some p := ⟨_, List.getElem?_eq_getElem (by have := HQL.out; omega)⟩
        have hpm := List.mem_of_getElem? hp
        have hpo := HPO.out.below hbl
        obtain ⟨b1, o1, rfl, q1, c0, c1', c2, c3, c4, c5⟩ := hpo.at_ hp
        have HNT := Lib.hid ((hpo.nt p hpm).more hz)
        have hqo := HQO.out p hpm
        have HQP := Lib.hid hqo
        have i1 : (k : Int) < (n : Int) := by omega
        have i0' : (0 : Int) ≤ (k : Int) := by omega
        have l1 : b1 < wr.heap.size := by omega
        have HTK := Lib.hid (take_snoc_tm hp)
        have HSN := Lib.hid (termsS_snoc ls ((qs.take k).map PT.tm) p.tm)
        have HTX := Lib.hid (show txt1 ls p.tm = (if ival p.ng p.ds < 0 then [45] else []) ++ termS ls (val p.ds) p.m by
          unfold txt1
          rw [show p.tm.1 = ival p.ng p.ds from rfl, ival_abs]
          rfl)
        have HXL := Lib.hid (show (termS ls (val p.ds) p.m).length ≤ 6001 + 124 from termS_len HNS.out hqo.dc (fun j hj => by have := (hqo.ex j hj).2; omega))
        have dj : ∀ j, j < 4 → wr.cell? ⟨b1, o1 + k * 6 + 2 + j, none⟩ = some (.int .i64 (gt p.m j)) := fun j hj => by
          rcases (by omega : j = 0 ∨ j = 1 ∨ j = 2 ∨ j = 3) with rfl | rfl | rfl | rfl
          · exact c2
          · exact c3
          · exact c4
          · exact c5
        have DJ := Lib.hid dj
        have HLU := Lib.hid (fun h => @lvOk_up ls p.m hqo.vl h)
        rw [HLL.out] at HLU
        have HLO := Lib.hid (show ∀ j, m ≤ j → j < 4 → 0 < gt p.m j → (m : Int) < lvL (qs.map PT.tm) from fun j h1 h2 h3 => by
          have := lvM_over hqo.vl h1 h2 h3
          have h5 := lv_of (List.mem_map.2 ⟨p, hpm, rfl⟩ : p.tm ∈ qs.map PT.tm)
          have e : p.tm.2 = p.m := rfl
          rw [e] at h5
          omega)
        have HC0 := Lib.hid c0; have HC1 := Lib.hid c1'; have HC2 := Lib.hid c2; have HC3 := Lib.hid c3; have HC4 := Lib.hid c4; have HC5 := Lib.hid c5
        clear hp hpm hpo hqo dj c0 c1' c2 c3 c4 c5
        go_wp2_with fail
        go_loopg [9] (4 - m) (fun gn jv wx => ∃ j : Nat, m ≤ j ∧ j ≤ 4 ∧ gn = 4 - j ∧ jv = .int .i64 j ∧ (∀ i, m ≤ i → i < j → ¬ 0 < gt p.m i) ∧ wr = wx)
        case atStart => exact ⟨m, Nat.le_refl _, h4, rfl, rfl, fun i h1 h2 => by omega, rfl⟩
        case round =>
          obtain ⟨j, hmj, hj4, hgj, rfl, hnz, rfl⟩ := hrel
          have HGJ := Lib.hid hgj
          have HNZ := Lib.hid hnz
          clear hgj hnz
          by_cases hj : j < 4
          · have cj := DJ.out j hj
            have k1 : (j : Int) < 4 := by omega
            have k0 : (0 : Int) ≤ (j : Int) := by omega
            by_cases hg : 0 < gt p.m j
            · have HR := Lib.hid (HLO.out j hmj hj hg)
              have HBF := Lib.hid (HBL2.out.trans (hbl.mono HBL2.out.size))
              generalize gt p.m j = x at *
              clear hown
              go_wp2_with fail
              go_ret2
              exact ⟨.inr (.inl ⟨HF.out, ⟨_, HCAN.out, HCF.out, by rw [HLL.out]; exact HR.out⟩, rfl⟩), HBF.out⟩
            · have HNZ2 := Lib.hid (show ∀ i, m ≤ i → i < j + 1 → ¬ 0 < gt p.m i from fun i h1 h2 => by
                by_cases e : i = j
                · rw [e]; exact hg
                · exact HNZ.out i h1 (by omega))
              generalize hxg : gt p.m j = x at *
              clear hxg
              go_wp2_with fail
              go_roundg (4 - (j + 1))
              case rel => exact ⟨j + 1, by omega, by omega, rfl, by go_num, HNZ2.out, rfl⟩
              case measure => have := HGJ.out; omega
          · obtain rfl : j = 4 := by omega
            have HUP := Lib.hid (HLU.out (fun i h1 h2 => by have := HNZ.out i h1 h2; omega))
            have HLVN := Lib.hid (show ∀ t ∈ (qs.take (k + 1)).map PT.tm, lvM t.2 ≤ (m : Int) from fun t ht => by
              rw [HTK.out] at ht
              rcases List.mem_append.1 ht with ht | ht
              · exact HLV.out t ht
              · rw [List.mem_singleton] at ht; subst ht; exact HUP.out.2)
            have HRT := Lib.hid (RTerm_any wr.heap.size p A' c' ls wr (Nat.le_refl _) HNT.out (by have := HQP.out.dl; omega) (by rw [HLL.out]; exact ((HRD.out.below (hbl.mono hB2)).more (Nat.le_trans hB2 hz))) (by rw [HLL.out]; exact h4) HOK.out HQP.out.ex HUP.out.1)
            rw [HLL.out] at HRT
            simp only [PT.cells] at HRT
            have c0 := HC0.out; have c1' := HC1.out; have c2 := HC2.out; have c3 := HC3.out; have c4 := HC4.out; have c5 := HC5.out
            generalize hts : termS ls (val p.ds) p.m = ts at *
            have HTS := Lib.hid hts
            clear hts HLU HLO
            go_wp2_with fail
            refine HRT.out.mono ?_
            rintro e w3 ⟨rfl, hb3⟩
            replace c0 := (hb3.cell l1).trans c0
            have l3 := Nat.lt_of_lt_of_le l1 hb3.size
            have hown3 := own_after hown hb3
            have hbl3 := hbl.trans (hb3.mono hz)
            have hz3 := Nat.le_trans hz hb3.size
            clear c1' c2 c3 c4 c5 hown hb3 hbl
            have hxl := HXL.out
            have h63 : k + 1 ≤ maxLen := by unfold maxLen; omega
            have hby : (k + 1) * 16 ≤ 140737488355328 := by omega
            have hzw := Nat.le_trans HBL2.out.size hz3
            have hsg := HQP.out.sg
            obtain ⟨tx, htx⟩ : ∃ tx, tx = txt1 ls p.tm := ⟨_, rfl⟩
            have HTXE := Lib.hid htx
            rw [HTX.out] at htx
            cases hng : p.ng with
            | true =>
              rw [hng] at c0
              rw [hng] at hsg
              rw [if_pos (by rw [hng]; simpa using hsg.symm)] at htx
              have HTE := Lib.hid htx
              have ha : ∀ W, (Op.stringOp .add ⟨#[45]⟩ ⟨ts.toArray⟩).run Tryz.prog W = .ok (.string ⟨tx.toArray⟩) W := fun W => by rw [HTE.out]; exact run_addb [45] ts (by simp; omega) W
              clear htx hsg hng
              have hown' := hown3.alloc (.cells #[.string ⟨tx.toArray⟩] 9)
              have hbase : w2.heap.size ≤ (w3.alloc (.cells #[.string ⟨tx.toArray⟩] 9)).heap.size := by simp; omega
              go_wp2_with (at_builtin; refine wpList_append_any _ rfl (.tmp 49) (.tmp 51) _ rfl w2.heap.size 9 i0 _ 1 16 Tryz.underlying22 hi0 hz0 hz1 hz2 rfl (Nat.le_refl _) _ _ _ rfl hown' _ _ 1 1 _ rfl (Reads.one_new w3 (.string ⟨tx.toArray⟩) 9) (by intro u hu; simp at hu; subst hu; rfl) h63 hby hbase ?_; intro v3 w6 hown6 hg6 hat6; refine Hid.out ?_)
              refine Lib.hid ?_
              have hbl6 : Below w2.heap.size w2 w6 := (hbl3.alloc hz3 _).grown hg6 hbase (fun k hk => (hown'.lt k hk).1)
              clear hown' hg6 hat6 hown3 hbl3
              go_wp2_with fail
              go_roundg (n - (k + 1))
              case rel =>
                refine ⟨k + 1, by omega, rfl, by go_num, ?_, HLVN.out, hbl6⟩
                rw [HTK.out, HSN.out, List.map_append, ← HTXE.out]
                exact hown6
              case measure => have := HGK.out; omega
            | false =>
              rw [hng] at c0
              rw [hng] at hsg
              rw [if_neg (by rw [hng]; simpa using hsg.symm), List.nil_append] at htx
              subst htx
              clear hsg hng
              have hown' := hown3.alloc (.cells #[.string ⟨tx.toArray⟩] 9)
              have hbase : w2.heap.size ≤ (w3.alloc (.cells #[.string ⟨tx.toArray⟩] 9)).heap.size := by simp; omega
              go_wp2_with (at_builtin; refine wpList_append_any _ rfl (.tmp 49) (.tmp 51) _ rfl w2.heap.size 9 i0 _ 1 16 Tryz.underlying22 hi0 hz0 hz1 hz2 rfl (Nat.le_refl _) _ _ _ rfl hown' _ _ 1 1 _ rfl (Reads.one_new w3 (.string ⟨tx.toArray⟩) 9) (by intro u hu; simp at hu; subst hu; rfl) h63 hby hbase ?_; intro v3 w6 hown6 hg6 hat6; refine Hid.out ?_)
              refine Lib.hid ?_
              have hbl6 : Below w2.heap.size w2 w6 := (hbl3.alloc hz3 _).grown hg6 hbase (fun k hk => (hown'.lt k hk).1)
              clear hown' hg6 hat6 hown3 hbl3
              go_wp2_with fail
              go_roundg (n - (k + 1))
              case rel =>
                refine ⟨k + 1, by omega, rfl, by go_num, ?_, HLVN.out, hbl6⟩
                rw [HTK.out, HSN.out, List.map_append, ← HTXE.out]
                exact hown6
              case measure => have := HGK.out; omega
      · obtain rfl : k = n := by omega
        have HTA := Lib.hid (show qs.take k = qs from List.take_of_length_le (by rw [HQL.out]; exact Nat.le_refl _))
        rw [HTA.out] at hown HLV
        obtain ⟨At, ct, rfl⟩ := own_slice hown
        have HOWN := Lib.hid hown
        have HBF := Lib.hid (HBL2.out.trans (hbl.mono HBL2.out.size))
        clear hown hbl
        go_wp2_with fail
        go_ret2
        refine ⟨.inr (.inr ⟨HF.out, qs.map PT.tm, HCAN.out, HCF.out, by rw [HLL.out]; exact lvL_le HLV.out, by rw [List.length_map, HQL.out]; exact HQN.out, fun t ht => ?_, At, ct, by rw [List.length_map, HQL.out]; rfl, by rw [List.length_map, HQL.out]; exact own_mono HOWN.out HBL2.out.size⟩), HBF.out⟩
        obtain ⟨s, hs, rfl⟩ := List.mem_map.1 ht
        obtain ⟨p, hp, rfl⟩ := List.mem_map.1 hs
        have hqo := HQO.out p hp
        have h1 := termS_len (ns := ls) HNS.out hqo.dc (m := p.m) (fun j hj => by have := (hqo.ex j hj).2; omega)
        rw [List.length_append]
        have e1 : p.tm.1.natAbs = val p.ds := ival_abs _ _
        have e2 : p.tm.2 = p.m := rfl
        rw [e1, e2]
        split <;> simp <;> omega
end Go.Proofs.YtnghlhcekghciaaGreatDoor

/- The reference's Format, and PolytextFormats. -/
namespace Go.Proofs.YtnghlhcekghciaaGreatDoor
open Go.RowKit

theorem goTxt {P : List Tm} {k : Nat} {t : Tm} (h : P[k]? = some t) : P.take (k + 1) = P.take k ++ [t] := by
  have hi := (List.getElem?_eq_some_iff.1 h)
  rw [List.take_succ_eq_append_getElem hi.1, hi.2]

theorem fmtGo_head (ls : List Bs) (t : Tm) (l : List Tm) : fmtGo ls true (t :: l) = txt1 ls t ++ fmtGo ls false l := by
  rw [fmtGo, txt1, signS, if_pos rfl]
  by_cases h : t.1 < 0 <;> simp [h]
theorem fmtGo_size {ls : List Bs} {P : List Tm} (h : ∀ t ∈ termsS ls P, t.length ≤ 10000) : ∀ k, k ≤ P.length → (fmtGo ls true (P.take k)).length ≤ k * 10003
  | 0, _ => by simp [fmtGo]
  | k + 1, hk => by
    have ih := fmtGo_size h k (by omega)
    obtain ⟨t, ht⟩ : ∃ t, P[k]? = some t := ⟨_, List.getElem?_eq_getElem (by omega)⟩
    have h1 : (txt1 ls t).length ≤ 10000 := h _ (List.mem_map.2 ⟨t, List.mem_of_getElem? ht, rfl⟩)
    have h2 : (termS ls t.1.natAbs t.2).length ≤ (txt1 ls t).length := by unfold txt1; rw [List.length_append]; omega
    have h3 : ∀ a b, (signS a b).length ≤ 3 := fun a b => by unfold signS; (repeat' split) <;> simp
    rw [goTxt ht, fmtGo_snoc, List.length_append, List.length_append]
    have := h3 (true && (P.take k).isEmpty) (decide (t.1 < 0))
    omega

set_option maxHeartbeats 4000000 in
set_option maxRecDepth 100000 in
theorem RFormat_any (A A' : Option Addr) (c c' B N : Nat) (E : Int) (M : Nat) (ps : List PT) (ls : List Bs) (w : World) (hB : B ≤ w.heap.size) (h : PIn w B A ps N E M) (hN : N ≤ 1000) (hM : M < Big) (hE : E ≤ 4294967295) (hn : NIn w B A' c' ls) :
    Calls Tryz.prog 21 #[.slice A ps.length c, .slice A' ls.length c'] w (FmtRes (cf (ps.map PT.tm)) ls w) := by
  have HTE := Lib.hid (RTerms_any A A' c c' B N E M ps ls w hB h (by omega) hM hE hn)
  clear h hn
  generalize hG : cf (ps.map PT.tm) = G at *
  clear hG
  go_enter Tryz.func21, Tryz.ntmps21
  go_wp2_with fail
  refine HTE.out.mono ?_
  rintro e w1 ⟨hr, hb1⟩
  rcases hr with ⟨hno, rfl⟩ | ⟨hok, ⟨P, hP, hc, hlv⟩, rfl⟩ | ⟨hok, P, hP, hc, hlv, hpl, htl, A2, c2, rfl, hown⟩
  · have HX := Lib.hid hno
    clear hno
    go_wp2_with fail
    go_ret2
    exact ⟨.inl ⟨HX.out, rfl⟩, hb1⟩
  · have HX := Lib.hid hok; have HP := Lib.hid hP; have HC := Lib.hid hc; have HL := Lib.hid hlv
    clear hok hP hc hlv
    go_wp2_with fail
    go_ret2
    exact ⟨.inr ⟨HX.out, P, HP.out, HC.out, fun h => by have := HL.out; omega, by unfold fmtV; rw [if_pos HL.out]; rfl⟩, hb1⟩
  · have HX := Lib.hid hok; have HP := Lib.hid hP; have HC := Lib.hid hc; have HL := Lib.hid hlv; have HTL := Lib.hid htl
    have HPN := Lib.hid hpl
    have hp1 : P.length ≤ 1000 := by omega
    have hrd := Reads.of_own hown
    have HB1 := Lib.hid hb1
    have HNO := Lib.hid (show NmOk ls from (namesB_ok hok).2)
    have HLO := Lib.hid (fun t ht => lvOk_of hP hlv (t := t) ht)
    have HFL := Lib.hid (show ∀ k, k ≤ P.length → (fmtGo ls true (P.take k)).length ≤ k * 10003 from fmtGo_size htl)
    clear hok hP hc hlv htl hown hpl hb1
    go_wp2_with fail
    go_loopg [8, 9, 10, 22] P.length (fun gn sv _ _ ix wr => ∃ k : Nat, k ≤ P.length ∧ gn = P.length - k ∧ ix = .int .i64 k ∧ sv = .string ⟨(fmtGo ls true (P.take k)).toArray⟩ ∧ w1 = wr)
    case atStart => exact ⟨0, by omega, rfl, rfl, rfl, rfl⟩
    case round =>
      obtain ⟨k, hk, hgk, rfl, rfl, rfl⟩ := hrel
      have HG := Lib.hid hgk
      clear hgk
      by_cases hlt : k < P.length
      · obtain ⟨t, ht⟩ : ∃ t, P[k]? = some t := ⟨_, List.getElem?_eq_getElem hlt⟩
        have htm := List.mem_of_getElem? ht
        have HTK := Lib.hid (goTxt ht)
        obtain ⟨b1, o1, rfl, q1, hcell⟩ := hrd.2 (by omega)
        have c1 := hcell k (strV (txt1 ls t)) (by
          unfold termsS
          rw [List.getElem?_map, List.getElem?_map, ht]
          rfl)
        have hne := txt1_ne HNO.out (HLO.out t htm)
        have HTXL := Lib.hid (HTL.out (txt1 ls t) (List.mem_map.2 ⟨t, htm, rfl⟩))
        have j1 : (k : Int) < (P.length : Int) := by omega
        have j0 : (0 : Int) ≤ (k : Int) := by omega
        have hix := fun (W : World) => Tryz.str_at0 (txt1 ls t) hne W
        have HFK := Lib.hid (HFL.out k hk)
        by_cases hk0 : k = 0
        · have hk0c : ¬ (0 : Int) < (k : Int) := by omega
          have HNX := Lib.hid (show fmtGo ls true (P.take (k + 1)) = txt1 ls t by rw [HTK.out, hk0]; exact join_first)
          have HZ := Lib.hid (show fmtGo ls true (P.take k) = [] by rw [hk0]; rfl)
          unfold strV at c1
          generalize txt1 ls t = tx at *
          rw [HZ.out]
          have htx : tx.length ≤ 9223372036854775807 := by have := HTXL.out; omega
          have hadd := fun (W : World) => run_adds (P := Tryz.prog) [] tx (by simpa using htx) W
          rw [List.nil_append] at hadd
          clear hk0 hix
          go_wp2_with fail
          go_roundg (P.length - (k + 1))
          case rel => exact ⟨k + 1, by omega, rfl, by go_num, by rw [HNX.out], rfl⟩
          case measure => have := HG.out; omega
        · have hk0c : (0 : Int) < (k : Int) := by omega
          have HNE := Lib.hid (show P.take k ≠ [] from fun e => hk0 (by have := congrArg List.length e; rwa [List.length_take, Nat.min_eq_left hk] at this))
          have HTXL' := HTXL.out
          unfold strV at c1
          by_cases hneg : t.1 < 0
          · have e1 := txt1_neg (ls := ls) hneg
            have HNX := Lib.hid (show fmtGo ls true (P.take (k + 1)) = fmtGo ls true (P.take k) ++ ([32, 45, 32] ++ termS ls t.1.natAbs t.2) by rw [HTK.out]; exact join_neg HNE.out hneg)
            rw [e1] at c1 hix HTXL'
            generalize termS ls t.1.natAbs t.2 = r at *
            generalize fmtGo ls true (P.take k) = tk at *
            have hrl : r.length ≤ 10000 := by simp at HTXL'; omega
            have hsl := fun (W : World) => Tryz.str_tail 45 r W
            have hadd := fun (W : World) => run_adds (P := Tryz.prog) [32, 45, 32] r (by simp; omega) W
            have hadd2 := fun (W : World) => run_adds (P := Tryz.prog) tk ([32, 45, 32] ++ r) (by have := HFK.out; simp; omega) W
            rw [show (45 :: r).getD 0 0 = (45 : UInt8) from rfl] at hix
            rw [show ((45 : UInt8).toNat : Int) = 45 from rfl] at hix
            generalize hz : ([32, 45, 32] ++ r : Bs) = zz at hadd hadd2 HNX
            clear hz hneg e1 hk0 hne HTXL HTXL'
            go_wp2_with fail
            go_roundg (P.length - (k + 1))
            case rel => exact ⟨k + 1, by omega, rfl, by go_num, by rw [HNX.out], rfl⟩
            case measure => have := HG.out; omega
          · obtain ⟨e1, hno⟩ := txt1_pos HNO.out hneg
            have HNX := Lib.hid (show fmtGo ls true (P.take (k + 1)) = fmtGo ls true (P.take k) ++ ([32, 43, 32] ++ txt1 ls t) by rw [HTK.out, e1]; exact join_pos HNE.out hneg)
            have hh : ((txt1 ls t).getD 0 0) ≠ 45 := fun e => hno (e ▸ head_getD hne)
            have hcb : ((((txt1 ls t).getD 0 0).toNat : Int) == 45) = false := by
              simp only [beq_eq_false_iff_ne, ne_eq]
              intro e
              exact hh (UInt8.toNat_inj.1 (by have : (45 : UInt8).toNat = 45 := rfl; omega))
            clear e1 hno hh
            generalize ((txt1 ls t).getD 0 0).toNat = ch at *
            generalize txt1 ls t = tx at *
            generalize fmtGo ls true (P.take k) = tk at *
            have hadd := fun (W : World) => run_adds (P := Tryz.prog) [32, 43, 32] tx (by simp; omega) W
            have hadd2 := fun (W : World) => run_adds (P := Tryz.prog) tk ([32, 43, 32] ++ tx) (by have := HFK.out; simp; omega) W
            generalize hz : ([32, 43, 32] ++ tx : Bs) = zz at hadd hadd2 HNX
            clear hz hneg hk0 hne HTXL HTXL'
            go_wp2_with fail
            go_roundg (P.length - (k + 1))
            case rel => exact ⟨k + 1, by omega, rfl, by go_num, by rw [HNX.out], rfl⟩
            case measure => have := HG.out; omega
      · obtain rfl : k = P.length := by omega
        have HFL2 := Lib.hid (HFL.out P.length (Nat.le_refl _))
        rw [List.take_length] at HFL2
        rw [List.take_length]
        cases P with
        | nil =>
          have e1 : (⟨(fmtGo ls true []).toArray⟩ : ByteArray).toList.isEmpty = true := by rw [ByteArray.toList_eq]; rfl
          generalize (⟨(fmtGo ls true []).toArray⟩ : ByteArray) = s2 at *
          clear HFL
          go_wp2_with fail
          go_ret2
          refine ⟨.inr ⟨HX.out, [], HP.out, HC.out, fun _ => by simp [fmtS], ?_⟩, HB1.out⟩
          unfold fmtV
          rw [if_neg (by have := HL.out; omega)]
          rfl
        | cons t P =>
          have hne := bytes_ne (s := fmtGo ls true (t :: P)) (by
            rw [fmtGo_head]
            intro e
            have h1 := txt1_ne HNO.out (HLO.out t (by simp))
            have h2 := congrArg List.length e
            rw [List.length_append, List.length_nil] at h2
            omega)
          have HGO := Lib.hid (fmtS_go (ls := ls) (P := t :: P) (by simp))
          generalize hs1 : (⟨(fmtGo ls true (t :: P)).toArray⟩ : ByteArray) = s1 at *
          have HS1 := Lib.hid hs1
          clear hs1 HFL
          have hp2 := hp1
          generalize hnp : (t :: P).length = np at *
          have HNP := Lib.hid hnp
          clear hnp
          go_wp2_with fail
          go_ret2
          refine ⟨.inr ⟨HX.out, _, HP.out, HC.out, fun _ => by rw [HGO.out]; have := HFL2.out; omega, ?_⟩, HB1.out⟩
          unfold fmtV
          rw [if_neg (by have := HL.out; omega), HGO.out, HS1.out]
          rfl

end Go.Proofs.YtnghlhcekghciaaGreatDoor
