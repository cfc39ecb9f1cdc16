/- Contract of sparse.Pow at the exponent 2. -/
import Derived.Test.YtpbapoanjkekmaaH6
namespace Go.Proofs.Ytpbapoanjkekmaa
open Go.RowKit

def oneL : List Tm := [(1, (0, 0, 0, 0))]
theorem addM_zero (b : Mo) : addM (0, 0, 0, 0) b = b := by simp [addM]
theorem mulC_one (p : List Tm) (m : Mo) : mulC oneL p m = cf p m := by
  unfold mulC mulW oneL cf
  simp only [lin, addM_zero]
  rw [if_pos (by rfl)]
  omega
theorem mulC_good {ps qs : List PT} {P Q : List Tm} {W W' : World} {b b' N N' M M' : Nat} {E E' : Int} {v v' : Value} (h : PGood W b v ps (cf P) N E M) (h' : PGood W' b' v' qs (cf Q) N' E' M') (m : Mo) : mulC (ps.map PT.tm) (qs.map PT.tm) m = mulC P Q m := mulC_ext h.cf h'.cf m
theorem pw_one {k : Nat} (h : 0 < k) : 1 < pw k := Nat.one_lt_pow (by omega) (by omega)

set_option maxHeartbeats 4000000 in
set_option maxRecDepth 100000 in
theorem Pow_two (A : Option Addr) (c B N : Nat) (E : Int) (M : Nat) (ps : List PT) (w : World) (hB : B ≤ w.heap.size) (h : PIn w B A ps N E M) (hN : N ≤ 200) (hE0 : 0 ≤ E) (hE : E ≤ 1000) (hM : M < pw 47) (hMM : M * M < Big) :
    Calls Try.prog 40 #[.slice A ps.length c, .int .i64 2] w (PRes (mulC (ps.map PT.tm) (ps.map PT.tm)) (N * N) (E + E) (M * M) w) := by
  have hMB : M < Big := Nat.lt_trans hM (pw_lt (show 47 < 600 by decide))
  have ho := IOf_any 1 (by omega) (by omega) w
  unfold IntRes at ho
  have hone : ival (decide ((1 : Int) < 0)) (dig (Int.natAbs 1)) = 1 := ival_dig 1
  have hcn := fun (W : World) (A3 : Option Addr) (c3 : Nat) (hb : NatB W A3 (dig (Int.natAbs 1))) (hc : (dig (Int.natAbs 1)).length ≤ c3) => Const_any (decide ((1 : Int) < 0)) A3 c3 W.heap.size (dig (Int.natAbs 1)) W (Nat.le_refl _) (natB_nin hb hc) (Nat.le_trans (dig_len_pw (k := 1) (show Int.natAbs 1 < pw 1 by decide)) (by omega))
  rw [hone] at hcn
  have HNM := Lib.hid (fun (W : World) (hW : Below w.heap.size w W) => Normal_poly A c B N E M ps W (Nat.le_trans hB hW.size) (h.below (hW.mono hB)) (by omega) hMB)
  generalize hd : dig (Int.natAbs 1) = d1 at *
  generalize hn : decide ((1 : Int) < 0) = n1 at *
  have HO := Lib.hid ho; have HCN := Lib.hid hcn
  clear ho hcn hd hn hone h
  go_enter Try.func40, Try.ntmps40
  go_wp2_with fail
  refine HO.out.mono ?_
  rintro e w1 ⟨A1, c1, rfl, h1, h2, hb1⟩
  go_wp2_with fail
  refine (HCN.out w1 A1 c1 h2 h1).mono ?_
  rintro e w2 ⟨A2, c2, o2, rfl, hg2, hb2⟩
  have HG2 := Lib.hid hg2
  clear hg2
  have hbw2 := hb1.trans (hb2.mono hb1.size)
  go_wp2_with fail
  refine (HNM.out _ hbw2).mono ?_
  rintro e w3 ⟨A3, c3, p3, rfl, hg3, hb3⟩
  have HG3 := Lib.hid hg3
  have HG2' := Lib.hid (HG2.out.old hb3)
  have hbw3 := hbw2.trans (hb3.mono hbw2.size)
  clear hg3 HNM HCN HO HG2
  go_wp2_with fail
  go_loopg [6] 1 (fun gn hx wr => w3 = wr ∧ ((gn = 1 ∧ hx = .int .i64 1) ∨ (gn = 0 ∧ hx = .int .i64 2)))
  case atStart => exact ⟨rfl, .inl ⟨rfl, rfl⟩⟩
  case round =>
    obtain ⟨rfl, hst⟩ := hrel
    rcases hst with ⟨hg, rfl⟩ | ⟨hg, rfl⟩
    · have HG := Lib.hid hg; clear hg
      go_wp2_with fail
      go_roundg 0
      case rel => exact ⟨rfl, .inr ⟨rfl, rfl⟩⟩
      case measure => have := HG.out; omega
    · clear hg
      go_wp2_with fail
      have hp3 := HG3.out.pin (by omega) hMB
      have HP3 := Lib.hid hp3
      clear hp3
      go_loopg [5, 7] 2 (fun gn rv bt wr => Below w3.heap.size w3 wr ∧ ((gn = 2 ∧ bt = .int .i64 2 ∧ ∃ A' c' rs, rv = .slice A' rs.length c' ∧ PGood wr w.heap.size (.slice A' rs.length c') rs (cf oneL) 1 0 1) ∨
        (gn = 1 ∧ bt = .int .i64 1 ∧ ∃ A' c' rs, rv = .slice A' rs.length c' ∧ PGood wr w.heap.size (.slice A' rs.length c') rs (cf (ps.map PT.tm)) N E M) ∨
        (gn = 0 ∧ bt = .int .i64 0 ∧ ∃ A' c' rs, rv = .slice A' rs.length c' ∧ PGood wr w.heap.size (.slice A' rs.length c') rs (mulC (ps.map PT.tm) (ps.map PT.tm)) (N * N) (E + E) (M * M))))
      case atStart => exact ⟨Below.refl _ _, .inl ⟨rfl, rfl, A2, c2, o2, rfl, { HG2'.out with own := HG2'.out.own.mono hb1.size }⟩⟩
      case round =>
        obtain ⟨hbl, hst⟩ := hrel
        have hwl := Nat.le_trans hbw3.size hbl.size
        rcases hst with ⟨hg, rfl, A', c', rs, rfl, hgd⟩ | ⟨hg, rfl, A', c', rs, rfl, hgd⟩ | ⟨hg, rfl, A', c', rs, rfl, hgd⟩
        · have HG := Lib.hid hg; clear hg
          have hi := hgd.pin (by omega) (pw_one (k := 600) (by decide))
          have HM1 := Lib.hid (SMul_any A' A' c' c' wr.heap.size 1 1 0 0 1 1 rs rs wr (Nat.le_refl _) hi hi (by omega) (by omega) (by omega) (by omega) (by omega) (pw_one (by decide)) (pw_one (by decide)) (pw_one (k := 600) (by decide)))
          have HGD := Lib.hid hgd
          clear hgd hi
          go_wp2_with fail
          refine HM1.out.mono ?_
          rintro e w4 ⟨A4, c4, r4, rfl, hg4, hb4⟩
          have hi4 := hg4.pin (by omega) (pw_one (k := 600) (by decide))
          have hi3 := HP3.out.below (hbl.trans (hb4.mono hbl.size))
          have HM2 := Lib.hid (SMul_any A4 A3 c4 c3 w4.heap.size 1 N 0 E 1 M r4 p3 w4 (Nat.le_refl _) hi4 (hi3.more (Nat.le_trans hbl.size hb4.size)) (by omega) (by omega) (by omega) (by omega) (by omega) (pw_one (by decide)) (Nat.lt_trans hM (pw_lt (by decide))) (by rw [Nat.one_mul]; exact hMB))
          have HF := Lib.hid (fun m => show mulC (r4.map PT.tm) (p3.map PT.tm) m = cf (ps.map PT.tm) m by
            rw [mulC_ext (p' := oneL) (q' := ps.map PT.tm) (fun x => by rw [hg4.cf, mulC_good HGD.out HGD.out, mulC_one]) (fun x => HG3.out.cf x), mulC_one])
          clear hi4 hi3 hg4 HM1
          go_wp2_with fail
          refine HM2.out.mono ?_
          rintro e w5 ⟨A5, c5, r5, rfl, hg5, hb5⟩
          have hg5' : PGood w5 w.heap.size (.slice A5 r5.length c5) r5 (cf (ps.map PT.tm)) N E M := { hg5 with own := hg5.own.mono (Nat.le_trans hwl hb4.size), cf := fun m => (hg5.cf m).trans (HF.out m), len := by have := hg5.len; omega, mb := fun p hp => (hg5.mb p hp).mono (by omega), nm := by have := hg5.nm; omega }
          have hb5' := (hbl.trans (hb4.mono hbl.size)).trans (hb5.mono (Nat.le_trans hbl.size hb4.size))
          clear hg5
          go_wp2_with fail
          go_roundg 1
          case rel => exact ⟨hb5', .inr (.inl ⟨rfl, rfl, A5, c5, r5, rfl, hg5'⟩)⟩
          case measure => have := HG.out; omega
        · have HG := Lib.hid hg; clear hg
          have hi := hgd.pin (by omega) hMB
          have hNN : N * N ≤ 50000 := Nat.le_trans (Nat.mul_le_mul hN hN) (by omega)
          have HM1 := Lib.hid (SMul_any A' A' c' c' wr.heap.size N N E E M M rs rs wr (Nat.le_refl _) hi hi (by omega) (by omega) hNN (by omega) (by omega) hM (Nat.lt_trans hM (pw_lt (by decide))) hMM)
          have HGD := Lib.hid hgd
          clear hgd hi
          go_wp2_with fail
          refine HM1.out.mono ?_
          rintro e w4 ⟨A4, c4, r4, rfl, hg4, hb4⟩
          have hg4' : PGood w4 w.heap.size (.slice A4 r4.length c4) r4 (mulC (ps.map PT.tm) (ps.map PT.tm)) (N * N) (E + E) (M * M) := { hg4 with own := hg4.own.mono hwl, cf := fun m => (hg4.cf m).trans (mulC_good HGD.out HGD.out m) }
          have hb4' := hbl.trans (hb4.mono hbl.size)
          clear hg4
          go_wp2_with fail
          go_roundg 0
          case rel => exact ⟨hb4', .inr (.inr ⟨rfl, rfl, A4, c4, r4, rfl, hg4'⟩)⟩
          case measure => have := HG.out; omega
        · clear hg
          have HGD := Lib.hid hgd
          clear hgd
          go_wp2_with fail
          go_ret
          exact ⟨A', c', rs, rfl, HGD.out, hbw3.trans (hbl.mono hbw3.size)⟩
end Go.Proofs.Ytpbapoanjkekmaa
