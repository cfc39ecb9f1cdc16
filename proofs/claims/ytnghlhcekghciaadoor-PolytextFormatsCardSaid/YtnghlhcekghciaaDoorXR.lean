/- The reference's decimal digits of a magnitude. -/
import Derived.Test.YtnghlhcekghciaaDoorXI
import Derived.Test.YtnghlhcekghciaaDoorZX
import Derived.Test.YtnghlhcekghciaaDoorX6
namespace Go.Proofs.YtnghlhcekghciaaDoor
open Go.RowKit

/-- the digits that are still to be written -/
def fullD (v : Nat) : Bs := if v = 0 then [] else Lib.decDigits v
theorem fullD_step {v : Nat} (h : v ≠ 0) : fullD v = fullD (v / 10) ++ [dch (v % 10)] := by
  unfold fullD
  rw [if_neg h]
  by_cases hs : v < 10
  · rw [if_pos (by omega), decD_small hs, Nat.mod_eq_of_lt hs]; rfl
  · rw [if_neg (by omega), decD_big hs]; rfl
theorem fullD_zero : fullD 0 = [] := if_pos rfl
theorem fullD_pos {v : Nat} (h : v ≠ 0) : fullD v = Lib.decDigits v := if_neg h

/-- a magnitude of which the digits from k on are replaced by those of the quotient -/
def inpl (a zs : List Nat) (k : Nat) : List Nat := a.take k ++ zs.drop k
theorem inpl_full {a zs : List Nat} (h : zs.length = a.length) : inpl a zs a.length = a := by
  unfold inpl
  rw [List.take_length, List.drop_eq_nil_of_le (by omega), List.append_nil]
theorem inpl_zero (a zs : List Nat) : inpl a zs 0 = zs := by simp [inpl]
theorem inpl_at {a zs : List Nat} {k : Nat} (hk : k < a.length) : (inpl a zs (k + 1)).getD k 0 = a.getD k 0 := by
  unfold inpl
  rw [List.getD_eq_getElem?_getD, List.getElem?_append_left (by simp; omega), List.getElem?_take, if_pos (by omega), ← List.getD_eq_getElem?_getD]
theorem inpl_len {a zs : List Nat} (h : zs.length = a.length) {k : Nat} (hk : k ≤ a.length) : (inpl a zs k).length = a.length := by
  simp [inpl]; omega
theorem inpl_set {a zs : List Nat} {k q : Nat} (h : zs.length = a.length) (hk : k < a.length) : (inpl a zs (k + 1)).set k q = inpl a (zs.set k q) k := by
  unfold inpl
  have hl : (a.take k).length = k := by rw [List.length_take]; omega
  rw [List.take_succ_eq_append_getElem hk, List.append_assoc, List.set_append_right _ _ (by omega), hl, Nat.sub_self]
  have e : (zs.set k q).drop k = q :: zs.drop (k + 1) := by
    rw [List.drop_eq_getElem_cons (by simp; omega), List.getElem_set_self, List.drop_set_of_lt (by omega)]
  rw [e]
  rfl

theorem u32s_get {l : List Nat} {k : Nat} (h : k < l.length) : (u32s l)[k]? = some (.int .u32 ((l.getD k 0 : Nat) : Int)) := by
  simp [u32s, List.getElem?_eq_getElem h]
theorem own_mono {w : World} {base base' n size : Nat} {e : TypeId} {v : Value} {xs : List Value} (h : w.ownsRow base e size v n xs) (hb : base' ≤ base) : w.ownsRow base' e size v n xs :=
  ⟨h.1, h.2.imp id fun ⟨g, cap, cur, h1, h2, h3⟩ => ⟨g, cap, cur, h1, Nat.le_trans hb h2, h3⟩⟩
theorem encode_digit {r : Nat} (h : r < 10) : Utf8.encode (48 + (r : Int)) = ⟨#[dch r]⟩ := by
  rcases (by omega : r = 0 ∨ r = 1 ∨ r = 2 ∨ r = 3 ∨ r = 4 ∨ r = 5 ∨ r = 6 ∨ r = 7 ∨ r = 8 ∨ r = 9) with rfl | rfl | rfl | rfl | rfl | rfl | rfl | rfl | rfl | rfl <;> rfl
theorem Tryd.rune_digit (r : Nat) (h : r < 10) (W : World) : (convert 21 9 (.int .i32 (48 + (r : Int)))).run Tryd.prog W = .ok (.string ⟨#[dch r]⟩) W := by
  rw [run_convert_int_string W 21 9 .i32 _ (by kernel_rfl) Tryd.underlying9, encode_digit h]
theorem run_addb {P : Program} (x y : Bs) (h : x.length + y.length ≤ 9223372036854775807) (W : World) : (Op.stringOp .add ⟨x.toArray⟩ ⟨y.toArray⟩).run P W = .ok (.string ⟨(x ++ y).toArray⟩) W := by
  have := run_string_add_sum (P := P) W ⟨x.toArray⟩ ⟨y.toArray⟩ (by simpa [ByteArray.size] using h)
  rwa [ByteArray.mk_append_mk] at this
theorem bytes_ne {s : Bs} (h : s ≠ []) : (⟨s.toArray⟩ : ByteArray).toList.isEmpty = false := by
  rw [ByteArray.toList_eq]
  cases s with
  | nil => exact absurd rfl h
  | cons a l => rfl
theorem bytes_nil : (⟨([] : Bs).toArray⟩ : ByteArray).toList = [] := by
  rw [ByteArray.toList_eq]
theorem quo_fit {r x : Nat} (hr : r < 10) (hx : x < 4294967296) : (r * 4294967296 + x) / 10 < 4294967296 := div_lt hx hr

set_option maxHeartbeats 2000000 in
set_option maxRecDepth 100000 in
theorem RDecimal_any (A : Option Addr) (c B : Nat) (ds : List Nat) (w : World) (hB : B ≤ w.heap.size) (h : NatIn w B A c ds) (hm : ds.length ≤ 1000) :
    Calls Tryd.prog 40 #[.slice A ds.length c] w fun e w' => e = .returned (.string ⟨(Lib.decDigits (val ds)).toArray⟩) ∧ Below w.heap.size w w' := by
  have HDL := Lib.hid (show (Lib.decDigits (val ds)).length ≤ 10001 by
    have h1 := pow_dec ds.length
    rw [Nat.pow_mul, show (2 : Nat) ^ 32 = 4294967296 by decide] at h1
    have h2 := Nat.lt_of_lt_of_le (val_lt h.dg) h1
    have h3 : 10 ^ (10 * ds.length) ≤ 10 ^ (10 * ds.length + 1) := Nat.pow_le_pow_right (by decide) (by omega)
    have := decD_len (Nat.lt_of_lt_of_le h2 h3)
    omega)
  have HVL := Lib.hid (dig_len_le h.dg)
  have HVD : ∀ v, v ≤ val ds → (dig v).length ≤ 1000 := fun v hv => by
    have h1 := dig_len_lt (v := v) (n := ds.length) (Nat.lt_of_le_of_lt hv (val_lt h.dg))
    omega
  have HVD := Lib.hid HVD
  have HRT := Lib.hid (RTrim_own A c B ds w hB h (by omega))
  clear h
  generalize hV : val ds = V at *
  have HV := Lib.hid hV
  clear hV
  go_enter Tryd.func40, Tryd.ntmps40
  go_wp2_with fail
  refine HRT.out.mono ?_
  rintro e w1 ⟨A1, c1, rfl, hown, hbl⟩
  have HS0 : fullD V ++ [] = fullD V := List.append_nil _
  go_wp2_with fail
  go_loopg [3, 4, 5, 6, 7] V (fun gn lv sv _ _ _ wr => ∃ (v : Nat) (A : Option Addr) (c : Nat) (s : Bs), v ≤ V ∧ gn = v ∧ lv = .slice A (dig v).length c ∧ sv = .string ⟨s.toArray⟩ ∧ wr.ownsRow w.heap.size 32 1 (.slice A (dig v).length c) (dig v).length (u32s (dig v)) ∧ fullD v ++ s = fullD V ∧ Below w.heap.size w wr)
  case atStart => exact ⟨V, A1, c1, [], Nat.le_refl _, rfl, rfl, rfl, hown, HS0, hbl⟩
  case round =>
    clear hown hbl HS0
    obtain ⟨v, Av, cv, s, hvV, hgv, rfl, rfl, hown, hfs, hbl⟩ := hrel
    have HG := Lib.hid hgv; have HFS := Lib.hid hfs
    clear hgv hfs
    have hz := hbl.size
    have hsl : s.length ≤ 10001 := by
      have h1 := congrArg List.length HFS.out
      rw [List.length_append] at h1
      have h2 : (fullD V).length ≤ 10001 := by
        unfold fullD
        split
        · simp
        · exact HDL.out
      omega
    rcases Nat.eq_zero_or_pos v with hv0 | hv0
    · subst hv0
      have hl0 : (dig 0).length = 0 := by rw [dig_zero]; rfl
      rw [hl0]
      rw [fullD_zero, List.nil_append] at HFS
      by_cases hV0 : V = 0
      · have hs : s = [] := by rw [HFS.out, hV0]; rfl
        subst hs
        have HE := Lib.hid (show Lib.decDigits V = [48] by rw [hV0, decD_small (by omega)]; rfl)
        clear hl0 hV0
        go_wp2_with fail
        go_ret
        exact ⟨by rw [HE.out]; rfl, hbl⟩
      · have HE := Lib.hid (show Lib.decDigits V = s by rw [HFS.out, fullD_pos hV0])
        have hne := bytes_ne (s := s) (by rw [← HE.out]; exact decD_ne V)
        clear hl0 hV0
        generalize hsv : (⟨s.toArray⟩ : ByteArray) = sv at *
        have HSV := Lib.hid hsv
        clear hsv
        go_wp2_with fail
        go_ret
        exact ⟨by rw [HE.out, HSV.out]; rfl, hbl⟩
    · have hvne : v ≠ 0 := by omega
      have HVD1 := Lib.hid (HVD.out v hvV)
      have hn1 : 0 < (dig v).length := by
        rcases Nat.eq_zero_or_pos (dig v).length with h1 | h1
        · exact absurd (dig_len0.1 h1) hvne
        · exact h1
      have HST := Lib.hid (fullD_step hvne)
      have G1 := Lib.hid (dig_dig v)
      have V1 := Lib.hid (val_dig v)
      have HNE := Lib.hid hvne
      have hl1 := HVD1.out
      clear hv0 hvne
      generalize hda : dig v = a at *
      have HDA := Lib.hid hda
      clear hda
      have hst0 := divSt0 a (d := 10) (by decide)
      have hfu := inpl_full (a := a) (zs := List.replicate a.length 0) (by simp)
      have j0 : (0 : Int) < (a.length : Int) := by omega
      have hown0 : wr.ownsRow w.heap.size 32 1 (.slice Av a.length cv) a.length (u32s (inpl a (List.replicate a.length 0) a.length)) := by rw [hfu]; exact hown
      clear hfu hown
      go_wp2_with fail
      go_loopg [5, 6, 7] a.length (fun gn rv iv _ wx => ∃ (k r : Nat) (zs : List Nat), k ≤ a.length ∧ gn = k ∧ iv = .int .i64 ((k : Int) - 1) ∧ rv = .int .u64 (r : Int) ∧ DivSt zs a 10 r k ∧ wx.ownsRow w.heap.size 32 1 (.slice Av a.length cv) a.length (u32s (inpl a zs k)) ∧ Below w.heap.size w wx)
      case atStart => exact ⟨a.length, 0, _, Nat.le_refl _, rfl, rfl, rfl, hst0, hown0, hbl⟩
      case round =>
        clear hst0 hown0 hbl hz
        obtain ⟨k, r, zs, hk, hgk, rfl, rfl, hst, hown, hbl⟩ := hrel
        have HGK := Lib.hid hgk
        clear hgk
        have hz := hbl.size
        rcases Nat.eq_zero_or_pos k with hk0 | hk0
        · subst hk0
          have hl := hst.last
          rw [V1.out] at hl
          obtain ⟨hl1', hl2⟩ := hl
          have hr10 : r < 10 := hst.rest
          have hzl := hst.len
          rw [inpl_zero] at hown
          have hrd := (NatK.of_own hown).reads
          have hcp := own_cap hown
          have hRT := RTrim_own Av cv wr.heap.size zs wr (Nat.le_refl _) ⟨hrd, hst.dg, by omega⟩ (by omega)
          rw [hl1', hzl] at hRT
          have HRT2 := Lib.hid hRT
          have hvV2 : v / 10 ≤ V := by omega
          have HV2 := Lib.hid hvV2
          have hadd := fun (W : World) => run_addb (P := Tryd.prog) [dch r] s (by simp; omega) W
          have hcv := fun (W : World) => Tryd.rune_digit r hr10 W
          have HR := Lib.hid hl2
          have hr0 : (0 : Int) ≤ (r : Int) := by omega
          have hr1 : (r : Int) < 10 := by omega
          clear hRT hst hown hrd hl1' hl2 hzl hcp
          go_wp2_with fail
          refine HRT2.out.mono ?_
          rintro e w4 ⟨A4, c4, rfl, hown4, hb4⟩
          have hbl4 := hbl.trans (hb4.mono hz)
          have hown4' := own_mono hown4 hz
          have HFN := Lib.hid (show fullD (v / 10) ++ ([dch r] ++ s) = fullD V by rw [← HFS.out, HST.out, HR.out]; simp)
          clear hown4 hb4 hbl hr0 hr1
          go_wp2_with fail
          go_roundg (v / 10)
          case rel => exact ⟨v / 10, A4, c4, _, HV2.out, rfl, rfl, rfl, hown4', HFN.out, hbl4⟩
          case measure => have h1 := HG.out; have h2 := HNE.out; omega
        · obtain ⟨j, rfl⟩ : ∃ j, k = j + 1 := ⟨k - 1, by omega⟩
          obtain ⟨g, cap, hv, hgb, hgl, _⟩ := own_form hown (by omega)
          injection hv with hv1 hv2 hv3
          subst hv1
          subst hv3
          have hxa := dig_at G1.out j
          have hat : (u32s (inpl a zs (j + 1)))[j]? = some (.int .u32 ((a.getD j 0 : Nat) : Int)) := by
            rw [u32s_get (by rw [inpl_len hst.len (by omega)]; omega), inpl_at (by omega)]
          have c1' : wr.cell? ⟨g, j, none⟩ = some (.int .u32 ((a.getD j 0 : Nat) : Int)) := by
            have := hown.cells (g := g) rfl j _ hat
            rwa [Addr.add_lit, Nat.zero_add] at this
          have f1 : wr.frozen? ⟨g, j, none⟩ = false := by
            rcases hown.2 with ⟨h1, _⟩ | ⟨g', cap', cur, h1, h2, h3, _⟩
            · cases h1
            · injection h1 with a1
              injection a1 with a1
              injection a1 with a1
              subst a1
              exact (show Blk wr g 32 cur from h3).frozen j
          have hr10 : r < 10 := hst.rest
          have hq := quo_fit hr10 hxa
          have hs : (r * 4294967296 + a.getD j 0) % 10 < 10 := Nat.mod_lt _ (by decide)
          have he : (r * 4294967296 + a.getD j 0) / 10 * 10 + (r * 4294967296 + a.getD j 0) % 10 = r * 4294967296 + a.getD j 0 := by omega
          have HN := Lib.hid (hst.step (k := j) (by omega) hq hs he)
          have HPUT : Hid (∀ u : Int, u = (((r * 4294967296 + a.getD j 0) / 10 : Nat) : Int) → (wr.setCell ⟨g, j, none⟩ (.int .u32 u)).ownsRow w.heap.size 32 1 (.slice (some ⟨g, 0, none⟩) a.length cv) a.length (u32s (inpl a (zs.set j ((r * 4294967296 + a.getD j 0) / 10)) j))) := Lib.hid (fun u hu => by
            have := own_put hown j (.int .u32 u)
            rw [← inpl_set hst.len (by omega)]
            unfold u32s at this ⊢
            rw [List.map_set, ← hu]
            exact this)
          have hxb : r * 4294967296 + a.getD j 0 < 42949672960 := by omega
          clear hst hown hat hs he
          generalize a.getD j 0 = xa at *
          have ek : ((j + 1 : Nat) : Int) - 1 = (j : Int) := by omega
          rw [ek]
          have HEK := Lib.hid ek
          have i1 : (j : Int) < (a.length : Int) := by omega
          have i0 : (0 : Int) ≤ (j : Int) := by omega
          have r0 : (r : Int) < 10 := by omega
          have x0 : (xa : Int) < 4294967296 := by omega
          clear ek hk0
          go_wp2_with fail
          go_roundg j
          case rel => exact ⟨j, (r * 4294967296 + xa) % 10, _, by omega, rfl, rfl, by rw [show (((r * 4294967296 + xa) % 10 : Nat) : Int) = ((r : Int) * 4294967296 + (xa : Int)) % 10 by omega], HN.out, HPUT.out _ (by omega), hbl.setCell (p := ⟨g, j, none⟩) hgb _⟩
          case measure => have := HGK.out; omega
end Go.Proofs.YtnghlhcekghciaaDoor
