/- Contract of decimal.format at base 10 and of decimal.Format, at an integer that is not negative. -/
import Derived.Laws.IdiomStrings
import Derived.Laws.Concat
import Derived.Test.YtnghlhcekghciaaGreatDoorZX
namespace Go.Proofs.YtnghlhcekghciaaGreatDoor
open Go.RowKit

theorem revD_end {p i : Nat} (h : p / 10 ^ i = 0) (k : i = 0 ∨ p / 10 ^ (i - 1) ≠ 0) : revD p = digs p i := by
  cases i with
  | zero => rw [show p = 0 by simpa using h, revD_zero]; rfl
  | succ i =>
    have hk : p / 10 ^ i ≠ 0 := by rcases k with k | k; · omega
                                   · simpa using k
    have hs : p / 10 ^ i / 10 = 0 := by rw [Nat.div_div_eq_div_mul, ← Nat.pow_succ]; exact h
    rw [revD_digs i hk, revD_pos hk, hs, revD_zero]
    rfl
theorem digs_len (n : Nat) : ∀ k, (digs n k).length = k
  | 0 => rfl
  | k + 1 => by rw [digs, List.length_append, digs_len n k]; rfl
theorem div_ten (p i : Nat) : p / 10 ^ (i + 1) = p / 10 ^ i / 10 := by rw [Nat.pow_succ, Nat.div_div_eq_div_mul]
theorem dch_nat (d : Nat) (h : d < 10) : (dch d).toNat = 48 + d := digit_nat h

/-- digits that lie below a block, or in a block of digits -/
def Src (B : Nat) (w : World) (A : Option Addr) (c : Nat) (ds : List Nat) : Prop := NatIn w B A c ds ∨ (NatB w A ds ∧ Dig ds ∧ ds.length ≤ c)
theorem Src.nat {B c : Nat} {w : World} {A : Option Addr} {ds : List Nat} (h : Src B w A c ds) (hB : B ≤ w.heap.size) : NatIn w w.heap.size A c ds := by
  rcases h with h | ⟨h, hd, hc⟩
  · exact h.more hB
  · exact ⟨h.reads, hd, hc⟩
theorem Src.keep {B c : Nat} {w w' : World} {A : Option Addr} {ds : List Nat} (h : Src B w A c ds) (hb : Below B w w') (hk : ∀ g cs, Blk w g 39 cs → Blk w' g 39 cs) : Src B w' A c ds := by
  rcases h with h | ⟨h, hd, hc⟩
  · exact .inl (h.below hb)
  · exact .inr ⟨h.keep hk, hd, hc⟩
theorem Src.old {B c : Nat} {w w' : World} {A : Option Addr} {ds : List Nat} (h : Src B w A c ds) (hB : B ≤ w.heap.size) (hb : Below w.heap.size w w') : Src B w' A c ds := h.keep (hb.mono hB) fun _ _ k => k.old hb
theorem Src.row {B base n c : Nat} {w w' : World} {A : Option Addr} {ds : List Nat} {v : Value} {xs : List Value} (h : Src B w A c ds) (hB : B ≤ base) (hbs : base ≤ w.heap.size) (ho : w.ownsRow base 5 1 v n xs) (hg : w.grownBy w' v.ownBlock) : Src B w' A c ds :=
  h.keep (((Below.refl base w).grown hg hbs (fun k hk => (ho.lt k hk).1)).mono hB) fun g cs hb => hb.grown hg (own_blk_ne ho hb (by decide))

theorem own_after {base n size : Nat} {e : TypeId} {w w' : World} {v : Value} {xs : List Value} (h : w.ownsRow base e size v n xs) (hb : Below w.heap.size w w') : w'.ownsRow base e size v n xs := by
  refine ⟨h.1, ?_⟩
  rcases h.2 with k | ⟨g, cap, cur, h1, h2, h3, h4⟩
  · exact .inl k
  · exact .inr ⟨g, cap, cur, h1, h2, (show Blk w g e cur from h3).old hb, h4⟩
def symbols : ByteArray := ⟨#[48, 49, 50, 51, 52, 53, 54, 55, 56, 57, 97, 98, 99, 100, 101, 102, 103, 104, 105, 106, 107, 108, 109, 110, 111, 112, 113, 114, 115, 116, 117, 118, 119, 120, 121, 122]⟩
theorem Tryz.sym_at (x : Nat) (W : World) : (Instr.index 9 (.string symbols) (.int .u32 ((x : Int) % 10))).run Tryz.prog W = .ok (.int .u8 ((dch (x % 10)).toNat : Int)) W := by
  have e : (x : Int) % 10 = ((x % 10 : Nat) : Int) := by omega
  rw [e, dch_nat _ (by omega)]
  have h : x % 10 < 10 := by omega
  generalize x % 10 = d at *
  rcases (by omega : d = 0 ∨ d = 1 ∨ d = 2 ∨ d = 3 ∨ d = 4 ∨ d = 5 ∨ d = 6 ∨ d = 7 ∨ d = 8 ∨ d = 9) with rfl | rfl | rfl | rfl | rfl | rfl | rfl | rfl | rfl | rfl <;>
    (simp [Instr.index, run_underlying Tryz.underlying9, asIntOf, go_sem, symbols]; rfl)
theorem Reverse_bytes (base g cap : Nat) (l : Bs) (w : World) (h : w.ownsRow base 5 1 (.slice (some ⟨g, 0, none⟩) l.length cap) l.length (Lib.byteCells l)) (hg : base ≤ g) (hm : l.length ≤ 1000000) :
    Calls Tryz.prog 90 #[.slice (some ⟨g, 0, none⟩) l.length cap] w fun e w' => e = .returned (.tuple #[]) ∧ w'.ownsRow base 5 1 (.slice (some ⟨g, 0, none⟩) l.length cap) l.length (Lib.byteCells l.reverse) ∧ Below base w w' := by
  have e := Lib.byteCells_length l
  have := Reverse_any base g cap (Lib.byteCells l) w (by rw [e]; exact h) hg (by rw [e]; exact hm) (fun u hu => by unfold Lib.byteCells at hu; obtain ⟨b, _, rfl⟩ := List.mem_map.1 hu; exact ⟨_, rfl⟩)
  rw [e] at this
  have e2 : Lib.byteCells l.reverse = (Lib.byteCells l).reverse := by simp [Lib.byteCells]
  rw [e2]
  exact this
theorem DivSmall_e9 (A : Option Addr) (c : Nat) (ds : List Nat) (w : World) (h : NatIn w w.heap.size A c ds) (hm : ds.length ≤ 900000) :
    Calls Tryz.prog 89 #[.slice A ds.length c, .int .u32 1000000000] w (DivRes (val ds) 1000000000 w) :=
  DivSmall_any A c w.heap.size ds 1000000000 w (Nat.le_refl _) h.cap hm (by decide) (by decide) h.rd h.dg

theorem revD_bd {ds : List Nat} (hd : Dig ds) (hm : ds.length ≤ 1000) : (revD (val ds)).length ≤ 10000 := by
  have h1 := pow_dec ds.length
  rw [Nat.pow_mul, show (2 : Nat) ^ 32 = 4294967296 by decide] at h1
  have := revD_len (Nat.lt_of_lt_of_le (val_lt hd) h1)
  omega
theorem sgn_pos {ds : List Nat} (h : val ds ≠ 0) : sgnOf (ival false ds) = 1 := by
  unfold sgnOf ival
  simp
  rw [if_neg (by omega), if_neg h]
theorem sgn_zero {ds : List Nat} (h : val ds = 0) : sgnOf (ival false ds) = 0 := by
  unfold sgnOf ival
  simp [h]
theorem Tryz.infoU8' : (Tryz.prog.info? 5).map (fun i => (i.zero, i.size, i.bytes)) = some (some (.int .u8 0), 1, 1) := by kernel_rfl

set_option maxHeartbeats 4000000 in
set_option maxRecDepth 100000 in
theorem dformat_any (A : Option Addr) (c B : Nat) (ds : List Nat) (w : World) (hB : B ≤ w.heap.size) (h : NatIn w B A c ds) (hm : ds.length ≤ 1000) :
    Calls Tryz.prog 71 #[.agg #[.bool false, .slice A ds.length c], .int .i64 10] w fun e w' => e = .returned (.string ⟨(Lib.decDigits (val ds)).toArray⟩) ∧ Below w.heap.size w w' := by
  obtain ⟨i0, hi0, hz0, hz1, hz2⟩ := info_parts Tryz.infoU8'
  by_cases hv : val ds = 0
  · have hs := sgn_zero hv
    have HSG := Lib.hid (fun (W : World) (hW : Below w.heap.size w W) => by have := Sign_any false A c B ds W (Nat.le_trans hB hW.size) (h.below (hW.mono hB)) (by omega); rwa [hs] at this)
    have HR := Lib.hid (show (⟨(Lib.decDigits (val ds)).toArray⟩ : ByteArray) = ⟨#[48]⟩ by rw [hv, decD_small (by omega)]; rfl)
    clear hs hv h
    go_enter Tryz.func71, Tryz.ntmps71
    go_wp2_with fail
    refine (HSG.out _ ((Below.refl _ w).alloc (Nat.le_refl _) _)).mono ?_
    rintro e w1 ⟨rfl, rfl⟩
    go_wp2_with fail
    go_ret
    exact ⟨by rw [HR.out]; rfl, ((Below.refl _ w).alloc (Nat.le_refl _) _).alloc (by simp) _⟩
  · have hs := sgn_pos hv
    have HSG := Lib.hid (fun (W : World) (hW : Below w.heap.size w W) => by have := Sign_any false A c B ds W (Nat.le_trans hB hW.size) (h.below (hW.mono hB)) (by omega); rwa [hs] at this)
    have HRB := Lib.hid (revD_bd h.dg hm)
    have HRR := Lib.hid (revD_rev (val ds) hv)
    have HV := Lib.hid hv
    have H := Lib.hid h
    clear hs hv h
    have hk0 := Blk.new w 43 #[.bool false, .slice A ds.length c]
    have hb0 := (Below.refl _ w).alloc (Nat.le_refl _) (.cells #[.bool false, .slice A ds.length c] 43)
    have HK0 := Lib.hid hk0; have HB0 := Lib.hid hb0
    clear hk0 hb0
    go_enter Tryz.func71, Tryz.ntmps71
    go_wp2_with fail
    refine (HSG.out _ HB0.out).mono ?_
    rintro e w1 ⟨rfl, hw1⟩
    have hb1 : Below w.heap.size w w1 := by rw [hw1]; exact HB0.out.alloc (by simp) _
    have hk1 : Blk w1 w.heap.size 43 #[.bool false, .slice A ds.length c] := by rw [hw1]; exact HK0.out.alloc _
    clear hw1
    go_wp2_with fail
    refine (chunk_ten _).mono ?_
    rintro e w' ⟨rfl, rfl⟩
    have c0 : w1.cell? ⟨w.heap.size, 0, none⟩ = some (.bool false) := hk1.cell 0
    have c1 : w1.cell? ⟨w.heap.size, 1, none⟩ = some (.slice A ds.length c) := hk1.cell 1
    go_wp2_with fail
    generalize hn : val ds = n at *
    have HN := Lib.hid hn; clear hn
    have hsz1 := hb1.size
    have hsrc0 : Src B w1 A c ds := .inl (H.out.below (hb1.mono hB))
    have hown0 : w1.ownsRow w1.heap.size 5 1 (.slice none 0 0) 0 (Lib.byteCells []) := ⟨rfl, .inl ⟨rfl, rfl⟩⟩
    have hB1 : B ≤ w1.heap.size := Nat.le_trans hB hsz1
    clear c0 c1
    go_loopg [7, 8, 9, 10, 11] n (fun gn out rest _ _ _ wr => ∃ (pre : Bs) (A' : Option Addr) (c' : Nat) (ds' : List Nat), gn = val ds' ∧ rest = .slice A' ds'.length c' ∧ Src B wr A' c' ds' ∧ ds'.length ≤ 1000 ∧ revD n = pre ++ revD (val ds') ∧ wr.ownsRow w1.heap.size 5 1 out pre.length (Lib.byteCells pre) ∧ Below w1.heap.size w1 wr)
    case atStart => exact ⟨[], A, c, ds, HN.out.symm, rfl, hsrc0, hm, by rw [HN.out]; rfl, hown0, Below.refl _ _⟩
    case round =>
      clear hown0 hsrc0
      obtain ⟨pre, A', c', ds', hgn, rfl, hsrc, hml, hrev, hown, hbl⟩ := hrel
      have HG := Lib.hid hgn; have HRV := Lib.hid hrev
      clear hgn hrev
      have hsz := hbl.size
      have hnat := hsrc.nat (Nat.le_trans hB1 hsz)
      have hkb := hk1.old hbl
      have c0 : wr.cell? ⟨w.heap.size, 0, none⟩ = some (.bool false) := hkb.cell 0
      have z0 := hkb.lt
      have HIZ := Lib.hid (IsZero_any A' c' wr.heap.size ds' wr hnat.cap (by omega) hnat.rd hnat.dg)
      by_cases hv : val ds' = 0
      · have hvb : (val ds' == 0) = true := by simpa using hv
        rw [hvb] at HIZ
        have hrv := HRV.out
        rw [hv, revD_zero, List.append_nil] at hrv
        have hrr := HRR.out
        rw [hrv] at hrr
        have hpl : pre.length ≤ 10000 := by have := HRB.out; rwa [hrv] at this
        have hp0 : 0 < pre.length := List.length_pos_iff.2 fun e => by
          rw [e] at hrr
          exact decD_ne n hrr.symm
        obtain ⟨g, cap, rfl, hg, hgl, _⟩ := own_form hown hp0
        have HREV := Lib.hid (Reverse_bytes w1.heap.size g cap pre wr hown hg (by omega))
        have HRR' := Lib.hid hrr
        clear hvb hv hrv hrr hown hsrc hnat
        go_wp2_with fail
        refine HIZ.out.mono ?_
        rintro e w2 ⟨rfl, rfl⟩
        go_wp2_with fail
        refine HREV.out.mono ?_
        rintro e w3 ⟨rfl, hown3, hb3⟩
        have hcv := run_convert_bytes_back (P := Tryz.prog) w3 56 9 5 ⟨g, 0, none⟩ cap pre.reverse Tryz.underlying56 Tryz.underlying5 Tryz.underlying9 (fun j hj => hown3.cells (g := g) rfl j _ (by simp only [Lib.byteCells, List.getElem?_map, List.getElem?_eq_getElem hj]; rfl))
        rw [List.length_reverse] at hcv
        have HB3 := Lib.hid ((hb1.trans (hbl.mono hsz1)).trans (hb3.mono hsz1))
        clear hown3 hb3
        go_wp2_with fail
        go_ret
        exact ⟨by rw [HN.out, ← HRR'.out]; rfl, HB3.out⟩
      · have hvb : (val ds' == 0) = false := by simpa using hv
        rw [hvb] at HIZ
        have HDV := Lib.hid (DivSmall_e9 A' c' ds' wr hnat (by omega))
        have hp := Nat.mod_lt (val ds') (show 0 < 1000000000 by decide)
        have HCH := Lib.hid (fun h => @revD_chunk (val ds') h)
        have HQ := Lib.hid (show val ds' / 1000000000 < val ds' by omega)
        have HM := Lib.hid (Nat.div_add_mod (val ds') 1000000000)
        have hpl : pre.length ≤ 10000 := by
          have := congrArg List.length HRV.out
          rw [List.length_append] at this
          have := HRB.out
          omega
        have hql : (dig (val ds' / 1000000000)).length ≤ 1000 := by
          have h1 := val_lt hnat.dg
          have h2 := dig_len_lt (v := val ds' / 1000000000) (n := ds'.length) (by omega)
          omega
        generalize val ds' = v at *
        generalize hq : v / 1000000000 = q at *
        generalize hp0 : v % 1000000000 = p0 at *
        have HQV := Lib.hid hq; have HPV := Lib.hid hp0
        unfold DivRes at HDV
        rw [HQV.out, HPV.out] at HDV
        clear hvb hq hp0 hnat
        go_wp2_with fail
        refine HIZ.out.mono ?_
        rintro e w2 ⟨rfl, rfl⟩
        go_wp2_with fail
        refine HDV.out.mono ?_
        rintro e w2 ⟨A2, c2, rfl, hc2, hnb2, hb2⟩
        have hown2 := own_after hown hb2
        have hsrc2 : Src B w2 A2 c2 (dig q) := .inr ⟨hnb2, dig_dig q, hc2⟩
        have hkb2 := hkb.old hb2
        have hbl2 := hbl.trans (hb2.mono hsz)
        have hsz2 := hbl2.size
        have hnat2 := hsrc2.nat (Nat.le_trans hB1 hsz2)
        have hval := val_dig q
        have HIZ2 := Lib.hid (IsZero_any A2 c2 w2.heap.size (dig q) w2 hnat2.cap (by omega) hnat2.rd hnat2.dg)
        rw [hval] at HIZ2
        have HVAL := Lib.hid hval
        clear hval hnat2 hown hb2 hsrc hkb c0 z0 hnb2 hbl
        generalize dig q = qs at *
        by_cases hq0 : q = 0
        · have hqb : (q == 0) = true := by simpa using hq0
          rw [hqb] at HIZ2
          have HQ0 := Lib.hid hq0
          clear hqb hq0
          go_wp2_with fail
          refine HIZ2.out.mono ?_
          rintro e w3 ⟨rfl, rfl⟩
          go_wp2_with fail
          go_loopg [7, 9, 11] 9 (fun gn out part ix wr => ∃ i : Nat, i ≤ 9 ∧ gn = 9 - i ∧ ix = .int .i64 i ∧ part = .int .u32 ((p0 / 10 ^ i : Nat) : Int) ∧ (i = 0 ∨ p0 / 10 ^ (i - 1) ≠ 0) ∧ wr.ownsRow w1.heap.size 5 1 out (pre ++ digs p0 i).length (Lib.byteCells (pre ++ digs p0 i)) ∧ Src B wr A2 c2 qs ∧ Below w1.heap.size w1 wr)
          case atStart => exact ⟨0, by omega, rfl, rfl, by rw [Nat.pow_zero, Nat.div_one], .inl rfl, by rw [digs, List.append_nil]; exact hown2, hsrc2, hbl2⟩
          case round =>
            clear hown2 hsrc2 hbl2 hsz2
            obtain ⟨i, hi, hgi, rfl, rfl, hne, hown, hsrc, hbl⟩ := hrel
            have HGI := Lib.hid hgi; have HNE := Lib.hid hne
            clear hgi hne
            have hsz := hbl.size
            have hxp := Nat.div_le_self p0 (10 ^ i)
            have HDT := Lib.hid (div_ten p0 i)
            have HDS := Lib.hid (show digs p0 (i + 1) = digs p0 i ++ [dch (p0 / 10 ^ i % 10)] from rfl)
            have hol : (pre ++ digs p0 i).length = pre.length + i := by rw [List.length_append, digs_len]
            have hX9 := Lib.hid (show i = 9 → p0 / 10 ^ i = 0 from fun e => by rw [e]; exact Nat.div_eq_of_lt hp)
            have HEND := Lib.hid (fun h => @revD_end p0 i h HNE.out)
            generalize hx : p0 / 10 ^ i = x at *
            have HX := Lib.hid hx
            clear hx
            by_cases hx0 : x = 0
            · have hxb : ((x : Int) != 0) = false := by simp [hx0]
              have HE := Lib.hid (HEND.out hx0)
              clear hx0
              by_cases hi9 : (i : Int) < 9
              all_goals
                go_wp2_with fail
                go_roundg q
                case rel =>
                  refine ⟨pre ++ digs p0 i, A2, c2, qs, HVAL.out.symm, rfl, hsrc, hql, ?_, hown, hbl⟩
                  rw [HRV.out, HVAL.out, HQ0.out, revD_zero, List.append_nil, ← HE.out]
                  congr 2
                  have := HM.out
                  have := HQ0.out
                  omega
                case measure => have := HG.out; have := HQ.out; omega
            · have hxb : ((x : Int) != 0) = true := by simpa using hx0
              have hi9 : (i : Int) < 9 := by
                have : i ≠ 9 := fun e => hx0 (hX9.out e)
                omega
              have HX0 := Lib.hid hx0
              clear hx0
              have hix := fun (W : World) => Tryz.sym_at x W
              unfold symbols at hix
              have HCH' := Lib.hid (show Lib.byteCells [dch (x % 10)] = [.int .u8 ((dch (x % 10)).toNat : Int)] from rfl)
              generalize ((dch (x % 10)).toNat : Int) = ch at *
              have hown' := hown.alloc (.cells #[.int .u8 ch] 5)
              have hsrc' := hsrc.old (Nat.le_trans hB1 hsz) ((Below.refl _ wr).alloc (Nat.le_refl _) (.cells #[.int .u8 ch] 5))
              have h63 : (pre ++ digs p0 i).length + 1 ≤ maxLen := by unfold maxLen; omega
              have hby : ((pre ++ digs p0 i).length + 1) * 1 ≤ 140737488355328 := by omega
              have hbase : w1.heap.size ≤ (wr.alloc (.cells #[.int .u8 ch] 5)).heap.size := by simp; omega
              have HOL := Lib.hid hol
              clear hol hown hsrc
              go_wp2_with (at_builtin; refine wpList_append_any _ rfl (.tmp 47) (.tmp 53) _ rfl w1.heap.size 5 i0 _ 1 1 Tryz.underlying56 hi0 hz0 hz1 hz2 rfl (Nat.le_refl _) _ _ _ rfl hown' _ _ 1 1 _ rfl (Reads.one_new wr (.int .u8 ch) 5) (by intro u hu; simp at hu; subst hu; rfl) h63 hby hbase ?_; intro v3 w3 hown3 hg3 hat3; refine Hid.out ?_)
              refine Lib.hid ?_
              have hsrc3 := hsrc'.row hB1 hbase hown' hg3
              have hbl3 : Below w1.heap.size w1 w3 := (hbl.alloc hsz _).grown hg3 hbase (fun k hk => (hown'.lt k hk).1)
              clear hown' hsrc' hg3 hat3 hix
              go_wp2
              go_roundg (9 - (i + 1))
              case rel =>
                have e1 : pre ++ digs p0 (i + 1) = pre ++ digs p0 i ++ [dch (x % 10)] := by rw [HDS.out, List.append_assoc]
                refine ⟨i + 1, by omega, rfl, by go_num, by rw [HDT.out]; go_num, .inr (by rw [Nat.add_sub_cancel, HX.out]; exact HX0.out), by rw [e1, Lib.byteCells_append, HCH'.out, List.length_append]; exact hown3, hsrc3, hbl3⟩
              case measure => have := HGI.out; omega
        · have hqb : (q == 0) = false := by simpa using hq0
          rw [hqb] at HIZ2
          have HQ0 := Lib.hid hq0
          clear hqb hq0
          go_wp2_with fail
          refine HIZ2.out.mono ?_
          rintro e w3 ⟨rfl, rfl⟩
          go_wp2_with fail
          go_loopg [7, 9, 11] 9 (fun gn out part ix wr => ∃ i : Nat, i ≤ 9 ∧ gn = 9 - i ∧ ix = .int .i64 i ∧ part = .int .u32 ((p0 / 10 ^ i : Nat) : Int) ∧ wr.ownsRow w1.heap.size 5 1 out (pre ++ digs p0 i).length (Lib.byteCells (pre ++ digs p0 i)) ∧ Src B wr A2 c2 qs ∧ Below w1.heap.size w1 wr)
          case atStart => exact ⟨0, by omega, rfl, rfl, by rw [Nat.pow_zero, Nat.div_one], by rw [digs, List.append_nil]; exact hown2, hsrc2, hbl2⟩
          case round =>
            clear hown2 hsrc2 hbl2 hsz2
            obtain ⟨i, hi, hgi, rfl, rfl, hown, hsrc, hbl⟩ := hrel
            have HGI := Lib.hid hgi
            clear hgi
            have hsz := hbl.size
            have hxp := Nat.div_le_self p0 (10 ^ i)
            have HDT := Lib.hid (div_ten p0 i)
            have HDS := Lib.hid (show digs p0 (i + 1) = digs p0 i ++ [dch (p0 / 10 ^ i % 10)] from rfl)
            have hol : (pre ++ digs p0 i).length = pre.length + i := by rw [List.length_append, digs_len]
            have hX9 := Lib.hid (show i = 9 → p0 / 10 ^ i = 0 from fun e => by rw [e]; exact Nat.div_eq_of_lt hp)
            generalize hx : p0 / 10 ^ i = x at *
            have HX := Lib.hid hx
            clear hx
            by_cases hi9 : (i : Int) < 9
            · have hix := fun (W : World) => Tryz.sym_at x W
              unfold symbols at hix
              have HCH' := Lib.hid (show Lib.byteCells [dch (x % 10)] = [.int .u8 ((dch (x % 10)).toNat : Int)] from rfl)
              generalize ((dch (x % 10)).toNat : Int) = ch at *
              have hown' := hown.alloc (.cells #[.int .u8 ch] 5)
              have hsrc' := hsrc.old (Nat.le_trans hB1 hsz) ((Below.refl _ wr).alloc (Nat.le_refl _) (.cells #[.int .u8 ch] 5))
              have h63 : (pre ++ digs p0 i).length + 1 ≤ maxLen := by unfold maxLen; omega
              have hby : ((pre ++ digs p0 i).length + 1) * 1 ≤ 140737488355328 := by omega
              have hbase : w1.heap.size ≤ (wr.alloc (.cells #[.int .u8 ch] 5)).heap.size := by simp; omega
              have HOL := Lib.hid hol
              clear hol hown hsrc
              go_wp2_with (at_builtin; refine wpList_append_any _ rfl (.tmp 47) (.tmp 53) _ rfl w1.heap.size 5 i0 _ 1 1 Tryz.underlying56 hi0 hz0 hz1 hz2 rfl (Nat.le_refl _) _ _ _ rfl hown' _ _ 1 1 _ rfl (Reads.one_new wr (.int .u8 ch) 5) (by intro u hu; simp at hu; subst hu; rfl) h63 hby hbase ?_; intro v3 w3 hown3 hg3 hat3; refine Hid.out ?_)
              refine Lib.hid ?_
              have hsrc3 := hsrc'.row hB1 hbase hown' hg3
              have hbl3 : Below w1.heap.size w1 w3 := (hbl.alloc hsz _).grown hg3 hbase (fun k hk => (hown'.lt k hk).1)
              clear hown' hsrc' hg3 hat3 hix
              go_wp2
              go_roundg (9 - (i + 1))
              case rel =>
                have e1 : pre ++ digs p0 (i + 1) = pre ++ digs p0 i ++ [dch (x % 10)] := by rw [HDS.out, List.append_assoc]
                refine ⟨i + 1, by omega, rfl, by go_num, by rw [HDT.out]; go_num, by rw [e1, Lib.byteCells_append, HCH'.out, List.length_append]; exact hown3, hsrc3, hbl3⟩
              case measure => have := HGI.out; omega
            · obtain rfl : i = 9 := by omega
              go_wp2_with fail
              go_roundg q
              case rel =>
                refine ⟨pre ++ digs p0 9, A2, c2, qs, HVAL.out.symm, rfl, hsrc, hql, ?_, hown, hbl⟩
                rw [HRV.out, HVAL.out, HCH.out HQ0.out, List.append_assoc]
              case measure => have := HG.out; have := HQ.out; omega

set_option maxHeartbeats 400000 in
set_option maxRecDepth 100000 in
theorem DFormat_any (A : Option Addr) (c B : Nat) (ds : List Nat) (w : World) (hB : B ≤ w.heap.size) (h : NatIn w B A c ds) (hm : ds.length ≤ 1000) :
    Calls Tryz.prog 46 #[.agg #[.bool false, .slice A ds.length c]] w fun e w' => e = .returned (.string ⟨(Lib.decDigits (val ds)).toArray⟩) ∧ Below w.heap.size w w' := by
  have HF := Lib.hid (fun (W : World) (hW : Below w.heap.size w W) => dformat_any A c B ds W (Nat.le_trans hB hW.size) (h.below (hW.mono hB)) hm)
  clear h
  have hb0 := (Below.refl _ w).alloc (Nat.le_refl _) (.cells #[.bool false, .slice A ds.length c] 43)
  have HB0 := Lib.hid hb0
  clear hb0
  go_enter Tryz.func46, Tryz.ntmps46
  go_wp2_with fail
  refine (HF.out _ HB0.out).mono ?_
  rintro e w2 ⟨rfl, hb2⟩
  go_wp2_with fail
  go_ret
  exact ⟨rfl, HB0.out.trans (hb2.mono HB0.out.size)⟩
end Go.Proofs.YtnghlhcekghciaaGreatDoor
