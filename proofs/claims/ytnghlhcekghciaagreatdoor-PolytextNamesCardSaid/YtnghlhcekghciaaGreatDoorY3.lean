/- Contract of decimal.Parse: exactly the decimal texts of integers are read. -/
import Derived.Test.YtnghlhcekghciaaGreatDoorY1
import Derived.Test.YtnghlhcekghciaaGreatDoorY2
import Derived.Test.YtnghlhcekghciaaGreatDoorX6
import Derived.Test.YtnghlhcekghciaaGreatDoorZX
namespace Go.Proofs.YtnghlhcekghciaaGreatDoor
open Go.RowKit

theorem results_cell_tmp {P : Program} {fn : Func} {p q : Tmp} {ty : TypeId} (h : fn.results = #[.cell p ty, .tmp q]) (tmps : Array Value) (w : World) (g : Nat) (t : TypeId) (cs : Array Value) (fr : Nat × Nat) (d : TypeDesc)
    (hp : tmps.getD p undef = .pointer (some ⟨g, 0, none⟩)) (hg : w.heap[g]? = some (.cells cs t fr))
    (hu : P.underlying ty = some d) (hd : (match d with | .struct _ | .array _ _ => true | _ => false) = true) (hi : (P.info? ty).map (·.size) = some cs.size) :
    (results fn tmps).run P w = .ok (.tuple #[.agg cs, tmps.getD q undef]) w := by
  have hp' : tmps[p]?.getD undef = .pointer (some ⟨g, 0, none⟩) := by simpa using hp
  simp [results, h, hp', asAddr, run_loadVar_row w g t ty cs fr d hg hu hd hi]
theorem ret_blk2 {P : Program} {fn : Func} {Q : Ending → World → Prop} {a : Act} {w : World} {p q : Tmp} {ty : TypeId} {g : Nat} {t : TypeId} {cs : Array Value} {d : TypeDesc} (hr : fn.results = #[.cell p ty, .tmp q]) (hdf : a.defers = []) (hp : a.tmps.getD p undef = .pointer (some ⟨g, 0, none⟩)) (hb : Blk w g t cs)
    (hu : P.underlying ty = some d) (hd : (match d with | .struct _ | .array _ _ => true | _ => false) = true) (hi : (P.info? ty).map (·.size) = some cs.size) (h : Q (.returned (.tuple #[.agg cs, a.tmps.getD q undef])) w) : bodyPost P fn Q Exit.ret a w :=
  bodyPost_ret (results_cell_tmp hr a.tmps w g t cs (0, 0) d hp hb hu hd hi) hdf h

/-- how Parse ends -/
def ParseRes (o : Option Int) (w : World) (e : Ending) (w' : World) : Prop :=
  ((o = none ∧ e = .returned (.tuple #[.agg #[.bool false, .slice none 0 0], .int .i64 6])) ∨
    ∃ z, o = some z ∧ ∃ A c, e = .returned (.tuple #[.agg #[.bool (decide (z < 0)), .slice A (dig z.natAbs).length c], .int .i64 0]) ∧ (dig z.natAbs).length ≤ c ∧ NatB w' A (dig z.natAbs)) ∧ Below w.heap.size w w'
theorem str_drop_ext (l : Bs) (n : Nat) : (⟨l.toArray⟩ : ByteArray).extract n l.length = ⟨(l.drop n).toArray⟩ := by
  apply ByteArray.ext
  rw [ByteArray.data_extract]
  apply Array.ext'
  simp [List.take_of_length_le]
theorem Tryz.str_drop (l : Bs) (n : Nat) (h : n ≤ l.length) (W : World) : (Instr.slice 9 (.string ⟨l.toArray⟩) (some (.int .i64 (n : Int))) none none).run Tryz.prog W = .ok (.string ⟨(l.drop n).toArray⟩) W := by
  simp [Instr.slice, run_underlying Tryz.underlying9, go_sem]
  rw [if_pos (by omega), str_drop_ext]
theorem pow_le_big (p : Nat) : 10 ^ p ≤ 4294967296 ^ p := Nat.pow_le_pow_left (by decide) p

def isd (c : UInt8) : Bool := decide (48 ≤ c.toNat ∧ c.toNat ≤ 57)
theorem all_step {D : Bs} {i : Nat} (hi : i < D.length) (h : (D.take i).all isd = true) (hc : isd (D.getD i 0) = true) : (D.take (i + 1)).all isd = true := by
  rw [List.take_succ_eq_append_getElem hi, List.all_append, h, Bool.true_and, List.all_cons, List.all_nil, Bool.and_true]
  rwa [List.getD_eq_getElem?_getD, List.getElem?_eq_getElem hi] at hc
theorem all_bad {D : Bs} {i : Nat} (hi : i < D.length) (hc : isd (D.getD i 0) = false) : D.all isd = false := by
  rw [List.all_eq_false]
  refine ⟨D.getD i 0, ?_, by rw [hc]; simp⟩
  rw [List.getD_eq_getElem?_getD, List.getElem?_eq_getElem hi]
  exact List.getElem_mem hi
theorem dec_small {D : Bs} (h : D.all isd = true) {p : Nat} (hp : p ≤ D.length) : (dig (decV (D.take p))).length ≤ p := by
  have h1 := decV_lt (l := D.take p) (List.all_eq_true.2 fun x hx => List.all_eq_true.1 h x (List.mem_of_mem_take hx))
  rw [List.length_take, Nat.min_eq_left hp] at h1
  exact dig_len_lt (Nat.lt_of_lt_of_le h1 (pow_le_big p))
theorem isd_at {D : Bs} (h : D.all isd = true) {i : Nat} (hi : i < D.length) : 48 ≤ (D.getD i 0).toNat ∧ (D.getD i 0).toNat ≤ 57 := by
  have := List.all_eq_true.1 h (D.getD i 0) (by rw [List.getD_eq_getElem?_getD, List.getElem?_eq_getElem hi]; exact List.getElem_mem hi)
  simpa [isd] using this
theorem dec_lt_pow {D : Bs} (h : D.all isd = true) {p : Nat} (hp : p ≤ D.length) : decV (D.take p) < 10 ^ p := by
  have h1 := decV_lt (l := D.take p) (List.all_eq_true.2 fun x hx => List.all_eq_true.1 h x (List.mem_of_mem_take hx))
  rwa [List.length_take, Nat.min_eq_left hp] at h1
theorem pow9 {i : Nat} (h : i ≤ 9) : 10 ^ i ≤ 1000000000 := Nat.pow_le_pow_right (n := 10) (by decide) h
theorem dec_part {D : Bs} (h : D.all isd = true) {i : Nat} (hi : i ≤ 8) : 10 ^ i ≤ 100000000 ∧ decV (D.take i) < 100000000 := by
  have h1 : 10 ^ i ≤ 10 ^ 8 := Nat.pow_le_pow_right (n := 10) (by decide) hi
  refine ⟨h1, ?_⟩
  have h2 := decV_lt (l := D.take i) (List.all_eq_true.2 fun x hx => List.all_eq_true.1 h x (List.mem_of_mem_take hx))
  have h3 : 10 ^ (D.take i).length ≤ 10 ^ 8 := Nat.pow_le_pow_right (n := 10) (by decide) (by rw [List.length_take]; omega)
  omega
theorem dec_join (D : Bs) (p n : Nat) (hn : n ≤ (D.drop p).length) : decV (D.take (p + n)) = decV (D.take p) * 10 ^ n + decV ((D.drop p).take n) := by
  have e : D.take (p + n) = D.take p ++ (D.drop p).take n := by rw [List.take_add]
  rw [e, decV_append, List.length_take, Nat.min_eq_left hn]

set_option maxHeartbeats 4000000 in
set_option maxRecDepth 100000 in
theorem parse_any (s : Bs) (w : World) (hm : s.length ≤ 100000) : Calls Tryz.prog 76 #[.string ⟨s.toArray⟩, .int .i64 10] w (ParseRes (decP s) w) := by
  have hbl0 := (Below.refl w.heap.size w).alloc (Nat.le_refl _) (.cells #[.bool false, .slice none 0 0] 43)
  have hblk := Blk.new w 43 #[.bool false, .slice none 0 0]
  have HSP := Lib.hid (fun (W : World) => split_any s W (by omega))
  have hrl : (sgnR s).length ≤ s.length := by unfold sgnR; split <;> simp
  have HPS := Lib.hid (show decP s = if decOk (sgnB s) (sgnR s) then some (if sgnB s then -(decV (sgnR s) : Int) else (decV (sgnR s) : Int)) else none from rfl)
  generalize decP s = o at *
  generalize sgnB s = ng at *
  generalize sgnR s = d at *
  have hm' : d.length ≤ 100000 := by omega
  have HBL := Lib.hid hbl0; have HBK := Lib.hid hblk
  clear hbl0 hblk hrl
  go_enter Tryz.func76, Tryz.ntmps76
  go_wp2_with fail
  refine (HSP.out _).mono ?_
  rintro e w1 ⟨rfl, hdr⟩
  have hk1 := HBK.out.drawn hdr
  have hb1 := HBL.out.trans (hdr.below _)
  clear hdr
  cases d with
  | nil =>
    have HE := Lib.hid (show o = none by rw [HPS.out]; simp [decOk])
    have d0 : w1.cell? ⟨w.heap.size, 0, none⟩ = some (.bool false) := (hk1.cell 0).trans rfl
    have d1 : w1.cell? ⟨w.heap.size, 1, none⟩ = some (.slice none 0 0) := (hk1.cell 1).trans rfl
    have f0 := hk1.frozen 0
    have f1 := hk1.frozen 1
    have z0 := hk1.lt
    go_wp2_with fail
    exact ret_blk2 Tryz.results76 rfl rfl ((hk1.set_ 0 _).set_ 1 _) Tryz.underlying43 rfl Tryz.sizeInt ⟨.inl ⟨HE.out, rfl⟩, (hb1.setCell (Nat.le_refl _) _).setCell (Nat.le_refl _) _⟩
  | cons b r =>
    have hne : (b :: r : Bs).isEmpty = false := rfl
    have hix := fun (W : World) => Tryz.str_first b r W
    have hdl : (b :: r).length = r.length + 1 := rfl
    have HOK := Lib.hid (fun (h : decOk ng (b :: r) = false) => show o = none by rw [HPS.out, h]; rfl)
    have HLD := Lib.hid (show b = 48 → (ng = true ∨ 0 < r.length) → decOk ng (b :: r) = false from fun hb h => by
      subst hb
      rcases h with h | h
      · simp [decOk, h]
      · cases r with
        | nil => simp at h
        | cons x y => simp [decOk])
    have HBD := Lib.hid (show (b :: r).all isd = false → decOk ng (b :: r) = false from fun h => by
      unfold decOk
      rw [show ((b :: r).all fun c => decide (48 ≤ c.toNat ∧ c.toNat ≤ 57)) = false from h, Bool.and_false])
    have HGD := Lib.hid (show (b :: r).all isd = true → ¬ (b = 48 ∧ (ng = true ∨ 0 < r.length)) → decOk ng (b :: r) = true from fun h hn => by
      unfold decOk
      rw [show ((b :: r).all fun c => decide (48 ≤ c.toNat ∧ c.toNat ≤ 57)) = true from h, Bool.and_true]
      by_cases hb : b = 48
      · have h1 : ¬ (ng = true) := fun e => hn ⟨hb, .inl e⟩
        have h2 : ¬ 0 < r.length := fun e => hn ⟨hb, .inr e⟩
        have h3 : r = [] := by
          cases r with
          | nil => rfl
          | cons x y => exact absurd (by simp) h2
        subst h3
        simp [hb, h1]
      · simp [hb])
    generalize hD : b :: r = D at *
    clear hD
    by_cases hb48 : b = 48
    · subst hb48
      rw [show ((48 : UInt8).toNat : Int) = 48 from rfl] at hix
      cases hng : ng with
      | true =>
        subst hng
        clear hdl
        have HE := Lib.hid (HOK.out (HLD.out rfl (.inl rfl)))
        have d0 : w1.cell? ⟨w.heap.size, 0, none⟩ = some (.bool false) := (hk1.cell 0).trans rfl
        have d1 : w1.cell? ⟨w.heap.size, 1, none⟩ = some (.slice none 0 0) := (hk1.cell 1).trans rfl
        have f0 := hk1.frozen 0
        have f1 := hk1.frozen 1
        have z0 := hk1.lt
        go_wp2_with fail
        exact ret_blk2 Tryz.results76 rfl rfl ((hk1.set_ 0 _).set_ 1 _) Tryz.underlying43 rfl Tryz.sizeInt ⟨.inl ⟨HE.out, rfl⟩, (hb1.setCell (Nat.le_refl _) _).setCell (Nat.le_refl _) _⟩
      | false =>
        subst hng
        by_cases hr0 : 0 < r.length
        · have k0 : (1 : Int) < (D.length : Int) := by omega
          clear hdl
          have HE := Lib.hid (HOK.out (HLD.out rfl (.inr hr0)))
          have d0 : w1.cell? ⟨w.heap.size, 0, none⟩ = some (.bool false) := (hk1.cell 0).trans rfl
          have d1 : w1.cell? ⟨w.heap.size, 1, none⟩ = some (.slice none 0 0) := (hk1.cell 1).trans rfl
          have f0 := hk1.frozen 0
          have f1 := hk1.frozen 1
          have z0 := hk1.lt
          go_wp2_with fail
          exact ret_blk2 Tryz.results76 rfl rfl ((hk1.set_ 0 _).set_ 1 _) Tryz.underlying43 rfl Tryz.sizeInt ⟨.inl ⟨HE.out, rfl⟩, (hb1.setCell (Nat.le_refl _) _).setCell (Nat.le_refl _) _⟩
        · have k0 : ¬ (1 : Int) < (D.length : Int) := by omega
          clear hdl
          have HGO := Lib.hid (fun h => HGD.out h (fun h => by rcases h.2 with h | h; cases h; exact hr0 h))
          have HS := Lib.hid (fun i => @all_step D i)
          have HB2 := Lib.hid (fun i => @all_bad D i)
          go_wp2_with fail
          go_loopg [8] D.length (fun gn ix wr => ∃ i : Nat, i ≤ D.length ∧ gn = D.length - i ∧ ix = .int .i64 i ∧ (D.take i).all isd = true ∧ w1 = wr)
          case atStart => exact ⟨0, Nat.zero_le _, rfl, rfl, rfl, rfl⟩
          case round =>
            obtain ⟨i, hi, hgi, rfl, hall, rfl⟩ := hrel
            have HG := Lib.hid hgi; have HAL := Lib.hid hall
            clear hgi hall hix hne
            by_cases hlt : i < D.length
            · have hxi := fun (W : World) => Tryz.str_at D i hlt W
              have HST := Lib.hid (HS.out i hlt)
              have HBI := Lib.hid (HB2.out i hlt)
              have hc := (D.getD i 0).toNat_lt
              have i1 : (i : Int) < (D.length : Int) := by omega
              have i0 : (0 : Int) ≤ (i : Int) := by omega
              unfold isd at HST HBI
              generalize (D.getD i 0).toNat = c at *
              have HDG := Lib.hid (fun (W : World) => digit_any c (by omega) W)
              by_cases hcd : 48 ≤ c ∧ c ≤ 57
              · rw [digV_dig hcd] at HDG
                have k1 : ((c - 48 : Nat) : Int) < 10 := by omega
                have HN := Lib.hid (HST.out HAL.out (by simpa using hcd))
                generalize c - 48 = x at *
                clear hcd
                go_wp2_with fail
                refine (HDG.out _).mono ?_
                rintro e w' ⟨rfl, rfl⟩
                go_wp2_with fail
                go_roundg (D.length - (i + 1))
                case rel => exact ⟨i + 1, by omega, rfl, by go_num, HN.out, rfl⟩
                case measure => have := HG.out; omega
              · have k1 : (10 : Int) ≤ (digV c : Int) := by have := digV_not hcd; omega
                have HE := Lib.hid (HOK.out (HBD.out (HBI.out (by simpa using hcd))))
                have d0 : w1.cell? ⟨w.heap.size, 0, none⟩ = some (.bool false) := (hk1.cell 0).trans rfl
                have d1 : w1.cell? ⟨w.heap.size, 1, none⟩ = some (.slice none 0 0) := (hk1.cell 1).trans rfl
                have f0 := hk1.frozen 0
                have f1 := hk1.frozen 1
                have z0 := hk1.lt
                generalize digV c = x at *
                clear hcd
                go_wp2_with fail
                refine (HDG.out _).mono ?_
                rintro e w' ⟨rfl, rfl⟩
                go_wp2_with fail
                exact ret_blk2 Tryz.results76 rfl rfl ((hk1.set_ 0 _).set_ 1 _) Tryz.underlying43 rfl Tryz.sizeInt ⟨.inl ⟨HE.out, rfl⟩, (hb1.setCell (Nat.le_refl _) _).setCell (Nat.le_refl _) _⟩
            · obtain rfl : i = D.length := by omega
              rw [List.take_length] at HAL
              have HO := Lib.hid (HGO.out HAL.out)
              have HCH := Lib.hid (fun W => chunk_ten W)
              go_wp2_with fail
              refine (HCH.out _).mono ?_
              rintro e w' ⟨rfl, rfl⟩
              go_wp2_with fail
              go_loopg [7, 11, 12, 13, 14, 15] D.length (fun gn dv vv _ _ _ _ wr => ∃ (p : Nat) (A : Option Addr) (c : Nat), p ≤ D.length ∧ gn = D.length - p ∧ dv = .string ⟨(D.drop p).toArray⟩ ∧ vv = .slice A (dig (decV (D.take p))).length c ∧ (dig (decV (D.take p))).length ≤ c ∧ NatB wr A (dig (decV (D.take p))) ∧ Blk wr w.heap.size 43 #[.bool false, .slice none 0 0] ∧ Below w.heap.size w wr)
              case atStart => exact ⟨0, none, 0, Nat.zero_le _, rfl, rfl, by rw [List.take_zero]; simp [decV, dig_zero], by rw [List.take_zero]; simp [decV, dig_zero], .inl (by rw [List.take_zero]; simp [decV, dig_zero]), hk1, hb1⟩
              case round =>
                clear hk1 hb1
                obtain ⟨p, Av, cv, hp, hgp, rfl, rfl, hcv, hnb, hk2, hb2⟩ := hrel
                have HGP := Lib.hid hgp
                clear hgp
                have hz2 := hb2.size
                have HVL := Lib.hid (dec_small HAL.out hp)
                have hvl : (dig (decV (D.take p))).length ≤ 100000 := by have := HVL.out; omega
                by_cases hlt2 : p < D.length
                · have HLL := Lib.hid (show (D.drop p).length = D.length - p from List.length_drop)
                  have HLA := Lib.hid (show (D.drop p).all isd = true from List.all_eq_true.2 fun x hx => List.all_eq_true.1 HAL.out x (List.mem_of_mem_drop hx))
                  have hrd := hnb.reads
                  have HJ := Lib.hid (fun n (hn : n ≤ (D.drop p).length) => dec_join D p n hn)
                  have HMA := Lib.hid (fun m o hm ho => MulAdd_any Av cv wr.heap.size (dig (decV (D.take p))) m o wr (Nat.le_refl _) hcv (by omega) hm ho hrd (dig_dig _))
                  have HDD := Lib.hid (fun n => show (D.drop p).drop n = D.drop (p + n) by rw [List.drop_drop])
                  have HVD := Lib.hid (val_dig (decV (D.take p)))
                  generalize dig (decV (D.take p)) = es at *
                  generalize decV (D.take p) = v at *
                  generalize hL : D.drop p = L at *
                  clear hL hrd hnb
                  obtain ⟨n, hn9, hnL, hn0, hmin⟩ : ∃ n : Nat, n ≤ 9 ∧ n ≤ L.length ∧ 0 < n ∧ (min 9 (L.length : Int)) = (n : Int) := ⟨min 9 L.length, by omega, by omega, by have := HLL.out; omega, by omega⟩
                  have hL0 : (0 : Int) < (L.length : Int) := by have := HLL.out; omega
                  have hL1 : (L.length : Int) ≤ 100000 := by have := HLL.out; omega
                  have HMN := Lib.hid hmin
                  clear hmin
                  go_wp2_with fail
                  rw [HMN.out, show decide (0 < L.length) = true by rw [decide_eq_true_eq]; have := HLL.out; omega]
                  have HP0 := Lib.hid (show ((10 ^ 0 : Nat) : Int) = 1 ∧ ((decV (L.take 0) : Nat) : Int) = 0 by simp [decV])
                  go_loopg [13, 14, 15] n (fun gn fv pv iv wx => ∃ i : Nat, i ≤ n ∧ gn = n - i ∧ iv = .int .i64 i ∧ fv = .int .u32 ((10 ^ i : Nat) : Int) ∧ pv = .int .u32 ((decV (L.take i) : Nat) : Int) ∧ wr = wx)
                  case atStart => exact ⟨0, Nat.zero_le _, rfl, rfl, by rw [HP0.out.1], by rw [HP0.out.2], rfl⟩
                  case round =>
                    obtain ⟨i, hi, hgi, rfl, rfl, rfl, rfl⟩ := hrel
                    have HGI := Lib.hid hgi
                    clear hgi
                    by_cases hlt3 : i < n
                    · have hxi := fun (W : World) => Tryz.str_at L i (by omega) W
                      have hc := (L.getD i 0).toNat_lt
                      have hcd := isd_at HLA.out (show i < L.length by omega)
                      have HDG := Lib.hid (fun (W : World) => digit_any (L.getD i 0).toNat (by omega) W)
                      rw [digV_dig hcd] at HDG
                      have HNX := Lib.hid (decV_take (l := L) (k := i) (by omega))
                      have hsm := dec_part HLA.out (show i ≤ 8 by omega)
                      have HPW := Lib.hid (show (10 ^ (i + 1) : Nat) = 10 ^ i * 10 from Nat.pow_succ 10 i)
                      generalize (L.getD i 0).toNat = ch at *
                      generalize hfi : (10 ^ i : Nat) = f at *
                      generalize decV (L.take i) = q at *
                      generalize hq2e : decV (L.take (i + 1)) = q2 at *
                      generalize hf2e : (10 ^ (i + 1) : Nat) = f2 at *
                      have HQE := Lib.hid hq2e; have HFE := Lib.hid hf2e
                      clear hq2e hf2e
                      obtain ⟨hf1, hf2⟩ := hsm
                      have m1 : (f : Int) * 10 ≤ 1000000000 := by omega
                      have m0 : (0 : Int) ≤ (f : Int) * 10 := by omega
                      have m2 : (q : Int) * 10 ≤ 1000000000 := by omega
                      have m3 : (0 : Int) ≤ (q : Int) * 10 := by omega
                      have m4 : (q : Int) * 10 + ((ch - 48 : Nat) : Int) ≤ 1000000009 := by omega
                      have i1 : (i : Int) < (n : Int) := by omega
                      have i2 : (i : Int) < (L.length : Int) := by omega
                      have i0 : (0 : Int) ≤ (i : Int) := by omega
                      have HQ2 := Lib.hid (show (q2 : Int) = (q : Int) * 10 + ((ch - 48 : Nat) : Int) by have := HNX.out; omega)
                      have HF2 := Lib.hid (show (f2 : Int) = (f : Int) * 10 by have := HPW.out; omega)
                      generalize ch - 48 = dg at *
                      clear hfi hcd
                      go_wp2_with fail
                      refine (HDG.out _).mono ?_
                      rintro e w' ⟨rfl, rfl⟩
                      go_wp2_with fail
                      go_roundg (n - (i + 1))
                      case rel => exact ⟨i + 1, by omega, rfl, by go_num, by rw [HFE.out, HF2.out], by rw [HQE.out, HQ2.out], rfl⟩
                      case measure => have := HGI.out; omega
                    · obtain rfl : i = n := by omega
                      have hp10 := pow9 hn9
                      have hsm2 := dec_lt_pow HLA.out (show i ≤ L.length by omega)
                      have HMC := Lib.hid (HMA.out (10 ^ i) (decV (L.take i)) (by omega) (by omega))
                      rw [HVD.out, ← HJ.out i (by omega)] at HMC
                      have hsd := fun (W : World) => Tryz.str_drop L i (by omega) W
                      rw [HDD.out i] at hsd
                      generalize (10 ^ i : Nat) = f at *
                      generalize decV (L.take i) = q at *
                      have i2 : (i : Int) ≤ (L.length : Int) := by omega
                      have i0 : (0 : Int) ≤ (i : Int) := by omega
                      generalize hV2 : dig (decV (D.take (p + i))) = fs at *
                      unfold NatRes at HMC
                      rw [hV2] at HMC
                      have HV2 := Lib.hid hV2
                      clear hV2
                      go_wp2_with fail
                      refine HMC.out.mono ?_
                      rintro e w5 ⟨A5, c5, rfl, h1, h2, h3⟩
                      have hk5 := hk2.old h3
                      have hb5 := hb2.trans (h3.mono hz2)
                      clear h3
                      generalize hL2 : D.drop (p + i) = L2 at *
                      have HL2 := Lib.hid hL2
                      clear hL2
                      go_wp2_with fail
                      go_roundg (D.length - (p + i))
                      case rel => exact ⟨p + i, A5, c5, by have := HLL.out; omega, rfl, by rw [HL2.out], by rw [HV2.out], by rw [HV2.out]; exact h1, by rw [HV2.out]; exact h2, hk5, hb5⟩
                      case measure => have := HGP.out; have := HLL.out; omega
                · obtain rfl : p = D.length := by omega
                  rw [List.drop_length]
                  rw [List.take_length] at hcv hnb hvl HVL ⊢
                  have HFR := Lib.hid (From_any false Av cv wr.heap.size (dig (decV D)) wr (Nat.le_refl _) hcv (by omega) hnb.reads (dig_dig _))
                  have HZ := Lib.hid (show o = some (ival false (dig (decV D))) by
                    rw [HPS.out, HO.out]
                    unfold ival
                    rw [val_dig]
                    simp)
                  generalize ival false (dig (decV D)) = z at *
                  generalize dig (decV D) = es at *
                  unfold IntRes at HFR
                  clear hnb
                  go_wp2_with fail
                  refine HFR.out.mono ?_
                  rintro e w5 ⟨A5, c5, rfl, h1, h2, h3⟩
                  have hk5 := hk2.old h3
                  have hb5 := hb2.trans (h3.mono hz2)
                  have d0 : w5.cell? ⟨w.heap.size, 0, none⟩ = some (.bool false) := (hk5.cell 0).trans rfl
                  have d1 : w5.cell? ⟨w.heap.size, 1, none⟩ = some (.slice none 0 0) := (hk5.cell 1).trans rfl
                  have f0 := hk5.frozen 0
                  have f1 := hk5.frozen 1
                  have z0 := hk5.lt
                  clear h3 hk2 hb2
                  go_wp2_with fail
                  exact ret_blk2 Tryz.results76 rfl rfl ((hk5.set_ 0 _).set_ 1 _) Tryz.underlying43 rfl Tryz.sizeInt ⟨.inr ⟨z, HZ.out, A5, c5, rfl, h1, h2.store2 hk5 (by decide) _ _⟩, (hb5.setCell (Nat.le_refl _) _).setCell (Nat.le_refl _) _⟩
    · have hbb : ((b.toNat : Int) == 48) = false := by
        simp only [beq_eq_false_iff_ne, ne_eq]
        intro e
        exact hb48 (UInt8.toNat_inj.1 (by have : (48 : UInt8).toNat = 48 := rfl; omega))
      generalize b.toNat = bn at *
      clear hdl
      have HGO := Lib.hid (fun h => HGD.out h (fun h => hb48 h.1))
      have HS := Lib.hid (fun i => @all_step D i)
      have HB2 := Lib.hid (fun i => @all_bad D i)
      go_wp2_with fail
      go_loopg [8] D.length (fun gn ix wr => ∃ i : Nat, i ≤ D.length ∧ gn = D.length - i ∧ ix = .int .i64 i ∧ (D.take i).all isd = true ∧ w1 = wr)
      case atStart => exact ⟨0, Nat.zero_le _, rfl, rfl, rfl, rfl⟩
      case round =>
        obtain ⟨i, hi, hgi, rfl, hall, rfl⟩ := hrel
        have HG := Lib.hid hgi; have HAL := Lib.hid hall
        clear hgi hall hix hne
        by_cases hlt : i < D.length
        · have hxi := fun (W : World) => Tryz.str_at D i hlt W
          have HST := Lib.hid (HS.out i hlt)
          have HBI := Lib.hid (HB2.out i hlt)
          have hc := (D.getD i 0).toNat_lt
          have i1 : (i : Int) < (D.length : Int) := by omega
          have i0 : (0 : Int) ≤ (i : Int) := by omega
          unfold isd at HST HBI
          generalize (D.getD i 0).toNat = c at *
          have HDG := Lib.hid (fun (W : World) => digit_any c (by omega) W)
          by_cases hcd : 48 ≤ c ∧ c ≤ 57
          · rw [digV_dig hcd] at HDG
            have k1 : ((c - 48 : Nat) : Int) < 10 := by omega
            have HN := Lib.hid (HST.out HAL.out (by simpa using hcd))
            generalize c - 48 = x at *
            clear hcd
            go_wp2_with fail
            refine (HDG.out _).mono ?_
            rintro e w' ⟨rfl, rfl⟩
            go_wp2_with fail
            go_roundg (D.length - (i + 1))
            case rel => exact ⟨i + 1, by omega, rfl, by go_num, HN.out, rfl⟩
            case measure => have := HG.out; omega
          · have k1 : (10 : Int) ≤ (digV c : Int) := by have := digV_not hcd; omega
            have HE := Lib.hid (HOK.out (HBD.out (HBI.out (by simpa using hcd))))
            have d0 : w1.cell? ⟨w.heap.size, 0, none⟩ = some (.bool false) := (hk1.cell 0).trans rfl
            have d1 : w1.cell? ⟨w.heap.size, 1, none⟩ = some (.slice none 0 0) := (hk1.cell 1).trans rfl
            have f0 := hk1.frozen 0
            have f1 := hk1.frozen 1
            have z0 := hk1.lt
            generalize digV c = x at *
            clear hcd
            go_wp2_with fail
            refine (HDG.out _).mono ?_
            rintro e w' ⟨rfl, rfl⟩
            go_wp2_with fail
            exact ret_blk2 Tryz.results76 rfl rfl ((hk1.set_ 0 _).set_ 1 _) Tryz.underlying43 rfl Tryz.sizeInt ⟨.inl ⟨HE.out, rfl⟩, (hb1.setCell (Nat.le_refl _) _).setCell (Nat.le_refl _) _⟩
        · obtain rfl : i = D.length := by omega
          rw [List.take_length] at HAL
          have HO := Lib.hid (HGO.out HAL.out)
          have HCH := Lib.hid (fun W => chunk_ten W)
          go_wp2_with fail
          refine (HCH.out _).mono ?_
          rintro e w' ⟨rfl, rfl⟩
          go_wp2_with fail
          go_loopg [7, 11, 12, 13, 14, 15] D.length (fun gn dv vv _ _ _ _ wr => ∃ (p : Nat) (A : Option Addr) (c : Nat), p ≤ D.length ∧ gn = D.length - p ∧ dv = .string ⟨(D.drop p).toArray⟩ ∧ vv = .slice A (dig (decV (D.take p))).length c ∧ (dig (decV (D.take p))).length ≤ c ∧ NatB wr A (dig (decV (D.take p))) ∧ Blk wr w.heap.size 43 #[.bool false, .slice none 0 0] ∧ Below w.heap.size w wr)
          case atStart => exact ⟨0, none, 0, Nat.zero_le _, rfl, rfl, by rw [List.take_zero]; simp [decV, dig_zero], by rw [List.take_zero]; simp [decV, dig_zero], .inl (by rw [List.take_zero]; simp [decV, dig_zero]), hk1, hb1⟩
          case round =>
            clear hk1 hb1
            obtain ⟨p, Av, cv, hp, hgp, rfl, rfl, hcv, hnb, hk2, hb2⟩ := hrel
            have HGP := Lib.hid hgp
            clear hgp
            have hz2 := hb2.size
            have HVL := Lib.hid (dec_small HAL.out hp)
            have hvl : (dig (decV (D.take p))).length ≤ 100000 := by have := HVL.out; omega
            by_cases hlt2 : p < D.length
            · have HLL := Lib.hid (show (D.drop p).length = D.length - p from List.length_drop)
              have HLA := Lib.hid (show (D.drop p).all isd = true from List.all_eq_true.2 fun x hx => List.all_eq_true.1 HAL.out x (List.mem_of_mem_drop hx))
              have hrd := hnb.reads
              have HJ := Lib.hid (fun n (hn : n ≤ (D.drop p).length) => dec_join D p n hn)
              have HMA := Lib.hid (fun m o hm ho => MulAdd_any Av cv wr.heap.size (dig (decV (D.take p))) m o wr (Nat.le_refl _) hcv (by omega) hm ho hrd (dig_dig _))
              have HDD := Lib.hid (fun n => show (D.drop p).drop n = D.drop (p + n) by rw [List.drop_drop])
              have HVD := Lib.hid (val_dig (decV (D.take p)))
              generalize dig (decV (D.take p)) = es at *
              generalize decV (D.take p) = v at *
              generalize hL : D.drop p = L at *
              clear hL hrd hnb
              obtain ⟨n, hn9, hnL, hn0, hmin⟩ : ∃ n : Nat, n ≤ 9 ∧ n ≤ L.length ∧ 0 < n ∧ (min 9 (L.length : Int)) = (n : Int) := ⟨min 9 L.length, by omega, by omega, by have := HLL.out; omega, by omega⟩
              have hL0 : (0 : Int) < (L.length : Int) := by have := HLL.out; omega
              have hL1 : (L.length : Int) ≤ 100000 := by have := HLL.out; omega
              have HMN := Lib.hid hmin
              clear hmin
              go_wp2_with fail
              rw [HMN.out, show decide (0 < L.length) = true by rw [decide_eq_true_eq]; have := HLL.out; omega]
              have HP0 := Lib.hid (show ((10 ^ 0 : Nat) : Int) = 1 ∧ ((decV (L.take 0) : Nat) : Int) = 0 by simp [decV])
              go_loopg [13, 14, 15] n (fun gn fv pv iv wx => ∃ i : Nat, i ≤ n ∧ gn = n - i ∧ iv = .int .i64 i ∧ fv = .int .u32 ((10 ^ i : Nat) : Int) ∧ pv = .int .u32 ((decV (L.take i) : Nat) : Int) ∧ wr = wx)
              case atStart => exact ⟨0, Nat.zero_le _, rfl, rfl, by rw [HP0.out.1], by rw [HP0.out.2], rfl⟩
              case round =>
                obtain ⟨i, hi, hgi, rfl, rfl, rfl, rfl⟩ := hrel
                have HGI := Lib.hid hgi
                clear hgi
                by_cases hlt3 : i < n
                · have hxi := fun (W : World) => Tryz.str_at L i (by omega) W
                  have hc := (L.getD i 0).toNat_lt
                  have hcd := isd_at HLA.out (show i < L.length by omega)
                  have HDG := Lib.hid (fun (W : World) => digit_any (L.getD i 0).toNat (by omega) W)
                  rw [digV_dig hcd] at HDG
                  have HNX := Lib.hid (decV_take (l := L) (k := i) (by omega))
                  have hsm := dec_part HLA.out (show i ≤ 8 by omega)
                  have HPW := Lib.hid (show (10 ^ (i + 1) : Nat) = 10 ^ i * 10 from Nat.pow_succ 10 i)
                  generalize (L.getD i 0).toNat = ch at *
                  generalize hfi : (10 ^ i : Nat) = f at *
                  generalize decV (L.take i) = q at *
                  generalize hq2e : decV (L.take (i + 1)) = q2 at *
                  generalize hf2e : (10 ^ (i + 1) : Nat) = f2 at *
                  have HQE := Lib.hid hq2e; have HFE := Lib.hid hf2e
                  clear hq2e hf2e
                  obtain ⟨hf1, hf2⟩ := hsm
                  have m1 : (f : Int) * 10 ≤ 1000000000 := by omega
                  have m0 : (0 : Int) ≤ (f : Int) * 10 := by omega
                  have m2 : (q : Int) * 10 ≤ 1000000000 := by omega
                  have m3 : (0 : Int) ≤ (q : Int) * 10 := by omega
                  have m4 : (q : Int) * 10 + ((ch - 48 : Nat) : Int) ≤ 1000000009 := by omega
                  have i1 : (i : Int) < (n : Int) := by omega
                  have i2 : (i : Int) < (L.length : Int) := by omega
                  have i0 : (0 : Int) ≤ (i : Int) := by omega
                  have HQ2 := Lib.hid (show (q2 : Int) = (q : Int) * 10 + ((ch - 48 : Nat) : Int) by have := HNX.out; omega)
                  have HF2 := Lib.hid (show (f2 : Int) = (f : Int) * 10 by have := HPW.out; omega)
                  generalize ch - 48 = dg at *
                  clear hfi hcd
                  go_wp2_with fail
                  refine (HDG.out _).mono ?_
                  rintro e w' ⟨rfl, rfl⟩
                  go_wp2_with fail
                  go_roundg (n - (i + 1))
                  case rel => exact ⟨i + 1, by omega, rfl, by go_num, by rw [HFE.out, HF2.out], by rw [HQE.out, HQ2.out], rfl⟩
                  case measure => have := HGI.out; omega
                · obtain rfl : i = n := by omega
                  have hp10 := pow9 hn9
                  have hsm2 := dec_lt_pow HLA.out (show i ≤ L.length by omega)
                  have HMC := Lib.hid (HMA.out (10 ^ i) (decV (L.take i)) (by omega) (by omega))
                  rw [HVD.out, ← HJ.out i (by omega)] at HMC
                  have hsd := fun (W : World) => Tryz.str_drop L i (by omega) W
                  rw [HDD.out i] at hsd
                  generalize (10 ^ i : Nat) = f at *
                  generalize decV (L.take i) = q at *
                  have i2 : (i : Int) ≤ (L.length : Int) := by omega
                  have i0 : (0 : Int) ≤ (i : Int) := by omega
                  generalize hV2 : dig (decV (D.take (p + i))) = fs at *
                  unfold NatRes at HMC
                  rw [hV2] at HMC
                  have HV2 := Lib.hid hV2
                  clear hV2
                  go_wp2_with fail
                  refine HMC.out.mono ?_
                  rintro e w5 ⟨A5, c5, rfl, h1, h2, h3⟩
                  have hk5 := hk2.old h3
                  have hb5 := hb2.trans (h3.mono hz2)
                  clear h3
                  generalize hL2 : D.drop (p + i) = L2 at *
                  have HL2 := Lib.hid hL2
                  clear hL2
                  go_wp2_with fail
                  go_roundg (D.length - (p + i))
                  case rel => exact ⟨p + i, A5, c5, by have := HLL.out; omega, rfl, by rw [HL2.out], by rw [HV2.out], by rw [HV2.out]; exact h1, by rw [HV2.out]; exact h2, hk5, hb5⟩
                  case measure => have := HGP.out; have := HLL.out; omega
            · obtain rfl : p = D.length := by omega
              rw [List.drop_length]
              rw [List.take_length] at hcv hnb hvl HVL ⊢
              have HFR := Lib.hid (From_any ng Av cv wr.heap.size (dig (decV D)) wr (Nat.le_refl _) hcv (by omega) hnb.reads (dig_dig _))
              have HZ := Lib.hid (show o = some (ival ng (dig (decV D))) by
                rw [HPS.out, HO.out]
                unfold ival
                rw [val_dig]
                simp)
              generalize ival ng (dig (decV D)) = z at *
              generalize dig (decV D) = es at *
              unfold IntRes at HFR
              clear hnb
              go_wp2_with fail
              refine HFR.out.mono ?_
              rintro e w5 ⟨A5, c5, rfl, h1, h2, h3⟩
              have hk5 := hk2.old h3
              have hb5 := hb2.trans (h3.mono hz2)
              have d0 : w5.cell? ⟨w.heap.size, 0, none⟩ = some (.bool false) := (hk5.cell 0).trans rfl
              have d1 : w5.cell? ⟨w.heap.size, 1, none⟩ = some (.slice none 0 0) := (hk5.cell 1).trans rfl
              have f0 := hk5.frozen 0
              have f1 := hk5.frozen 1
              have z0 := hk5.lt
              clear h3 hk2 hb2
              go_wp2_with fail
              exact ret_blk2 Tryz.results76 rfl rfl ((hk5.set_ 0 _).set_ 1 _) Tryz.underlying43 rfl Tryz.sizeInt ⟨.inr ⟨z, HZ.out, A5, c5, rfl, h1, h2.store2 hk5 (by decide) _ _⟩, (hb5.setCell (Nat.le_refl _) _).setCell (Nat.le_refl _) _⟩
theorem DParse_any (s : Bs) (w : World) (hm : s.length ≤ 100000) : Calls Tryz.prog 57 #[.string ⟨s.toArray⟩] w (ParseRes (decP s) w) := by
  have hbl0 := (Below.refl w.heap.size w).alloc (Nat.le_refl _) (.cells #[.bool false, .slice none 0 0] 43)
  have hblk := Blk.new w 43 #[.bool false, .slice none 0 0]
  have HP := Lib.hid (parse_any s (w.alloc (.cells #[.bool false, .slice none 0 0] 43)) hm)
  have HBL := Lib.hid hbl0; have HBK := Lib.hid hblk
  clear hbl0 hblk
  generalize decP s = o at *
  go_enter Tryz.func57, Tryz.ntmps57
  go_wp2_with fail
  refine HP.out.mono ?_
  rintro e w1 ⟨hr, hb1⟩
  have hk1 := HBK.out.old hb1
  have hb2 := HBL.out.trans (hb1.mono HBL.out.size)
  have d0 : w1.cell? ⟨w.heap.size, 0, none⟩ = some (.bool false) := (hk1.cell 0).trans rfl
  have d1 : w1.cell? ⟨w.heap.size, 1, none⟩ = some (.slice none 0 0) := (hk1.cell 1).trans rfl
  have f0 := hk1.frozen 0
  have f1 := hk1.frozen 1
  have z0 := hk1.lt
  rcases hr with ⟨ho, rfl⟩ | ⟨z, ho, A1, c1, rfl, h1, h2⟩
  · have HO := Lib.hid ho
    clear ho
    go_wp2_with fail
    exact ret_blk2 Tryz.results57 rfl rfl ((hk1.set_ 0 _).set_ 1 _) Tryz.underlying43 rfl Tryz.sizeInt ⟨.inl ⟨HO.out, rfl⟩, (hb2.setCell (Nat.le_refl _) _).setCell (Nat.le_refl _) _⟩
  · have HO := Lib.hid ho; have H1 := Lib.hid h1
    clear ho h1
    go_wp2_with fail
    exact ret_blk2 Tryz.results57 rfl rfl ((hk1.set_ 0 _).set_ 1 _) Tryz.underlying43 rfl Tryz.sizeInt ⟨.inr ⟨z, HO.out, A1, c1, rfl, H1.out, h2.store2 hk1 (by decide) _ _⟩, (hb2.setCell (Nat.le_refl _) _).setCell (Nat.le_refl _) _⟩
end Go.Proofs.YtnghlhcekghciaaGreatDoor
