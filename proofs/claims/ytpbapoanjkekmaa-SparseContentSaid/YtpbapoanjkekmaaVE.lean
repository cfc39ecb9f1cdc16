/- Contract of division.estimate. -/
import Derived.Test.YtpbapoanjkekmaaZM
import Derived.Test.YtpbapoanjkekmaaZX
import Derived.Test.YtpbapoanjkekmaaVC
namespace Go.Proofs.Ytpbapoanjkekmaa
open Go.RowKit

theorem est_hi {d v2 r u0 : Nat} (h : d * v2 / 4294967296 < r) : d * v2 ≤ r * 4294967296 + u0 := by
  generalize d * v2 = x at *
  omega
theorem est_eq {d v2 r u0 : Nat} (h : d * v2 / 4294967296 = r) (h2 : d * v2 % 4294967296 ≤ u0) : d * v2 ≤ r * 4294967296 + u0 := by
  generalize d * v2 = x at *
  omega
theorem est_no {d v2 r u0 : Nat} (h0 : u0 < 4294967296) (h : r < d * v2 / 4294967296 ∨ d * v2 / 4294967296 = r ∧ u0 < d * v2 % 4294967296) : r * 4294967296 + u0 < d * v2 := by
  generalize d * v2 = x at *
  omega
set_option maxHeartbeats 2000000 in
set_option maxRecDepth 100000 in
theorem estimate_any (u2 u1 u0 v1 v2 : Nat) (w : World) (h1 : u1 < 4294967296) (h0 : u0 < 4294967296) (g1 : v1 < 4294967296) (g2 : v2 < 4294967296) (hle : u2 ≤ v1) (hv : 0 < v1) :
    Calls Try.prog 84 #[.int .u32 (u2 : Int), .int .u32 (u1 : Int), .int .u32 (u0 : Int), .int .u32 (v1 : Int), .int .u32 (v2 : Int)] w fun e w' => ∃ d : Nat, e = .returned (.int .u32 (d : Int)) ∧ Est ((u2 * 4294967296 + u1) * 4294967296 + u0) (v1 * 4294967296 + v2) d ∧ Drawn w w' := by
  have HAD := Lib.hid (fun r (hr : r < 4294967296) (W : World) => add32_any r v1 0 hr g1 (by omega) W)
  have HMU := Lib.hid (fun d (hd : d < 4294967296) (W : World) => mul32_any d v2 hd g2 W)
  have HDO := Lib.hid (fun d r (h : EstSt u2 u1 u0 v1 v2 d r) hc => h.done hc g2)
  go_enter Try.func84, Try.ntmps84
  go_upto_if 18 with (fail)
  go_cut [11, 12, 13] (fun dv rv ov wc => ∃ d r : Nat, dv = .int .u32 (d : Int) ∧ rv = .int .u32 ((r % 4294967296 : Nat) : Int) ∧ ov = .int .u32 ((r / 4294967296 : Nat) : Int) ∧ EstSt u2 u1 u0 v1 v2 d r ∧ r < 8589934592 ∧ Drawn w wc)
  case first =>
    by_cases hlt : u2 < v1
    · have k1 : (u2 : Int) < (v1 : Int) := by omega
      have HDI := Lib.hid (fun (W : World) => div32_any u2 u1 v1 hlt h1 g1 W)
      have HS := Lib.hid (EstSt.start (u2 := u2) (u1 := u1) (u0 := u0) (v1 := v1) (v2 := v2) hlt h0 h1)
      have hr : (u2 * 4294967296 + u1) % v1 < v1 := Nat.mod_lt _ hv
      generalize (u2 * 4294967296 + u1) % v1 = r at *
      generalize (u2 * 4294967296 + u1) / v1 = d at *
      go_wp2_with fail
      refine (HDI.out _).mono ?_
      rintro e w1 ⟨rfl, hdr⟩
      go_wp2_with fail
      go_meet
      case rel => exact ⟨d, r, by go_num, by rw [Nat.mod_eq_of_lt (by omega)], by rw [Nat.div_eq_of_lt (by omega)]; rfl, HS.out, by omega, hdr⟩
    · obtain rfl : u2 = v1 := by omega
      have HS := Lib.hid (EstSt.top (u1 := u1) (u0 := u0) (v1 := u2) (v2 := v2))
      have HA := Lib.hid (fun W => HAD.out u1 h1 W)
      clear HAD HMU HDO hlt
      go_wp2_with fail
      refine (HA.out _).mono ?_
      rintro e w1 ⟨rfl, rfl⟩
      go_wp2_with fail
      go_meet
      case rel => exact ⟨4294967295, u1 + u2, rfl, rfl, rfl, HS.out, by omega, Drawn.refl _⟩
  case rest =>
    obtain ⟨d, r, rfl, rfl, rfl, hst, hr2, hdr⟩ := hcut
    have HST := Lib.hid hst
    clear hst
    go_wp2_with fail
    go_loopg [11, 12, 13, 14, 15] d (fun gn dv rv ov _ _ wr => ∃ d r : Nat, gn = d ∧ dv = .int .u32 (d : Int) ∧ rv = .int .u32 ((r % 4294967296 : Nat) : Int) ∧ ov = .int .u32 ((r / 4294967296 : Nat) : Int) ∧ EstSt u2 u1 u0 v1 v2 d r ∧ r < 8589934592 ∧ Drawn w wr)
    case atStart => exact ⟨d, r, rfl, rfl, rfl, rfl, HST.out, hr2, hdr⟩
    case round =>
      clear HST hr2 hdr
      obtain ⟨d, r, hgd, rfl, rfl, rfl, hst, hr2, hdr⟩ := hrel
      have HG := Lib.hid hgd; have HS := Lib.hid hst
      clear hgd
      have hd := hst.lt
      clear hst
      by_cases hr : r < 4294967296
      · rw [Nat.mod_eq_of_lt hr, Nat.div_eq_of_lt hr]
        have HM := Lib.hid (fun W => HMU.out d hd W)
        have HA := Lib.hid (fun W => HAD.out r hr W)
        have E1 := Lib.hid (@est_hi d v2 r u0); have E2 := Lib.hid (@est_eq d v2 r u0); have E3 := Lib.hid (@est_no d v2 r u0 h0)
        have hm1 : d * v2 % 4294967296 < 4294967296 := Nat.mod_lt _ (by decide)
        have HD1 := Lib.hid (fun hc => HDO.out d r HS.out (.inr hc))
        have HSP := Lib.hid (fun hc => HS.out.step hc)
        clear HDO HMU HAD
        generalize d * v2 % 4294967296 = lo at *
        generalize d * v2 / 4294967296 = hi at *
        by_cases hc1 : hi < r
        · have k1 : (hi : Int) < (r : Int) := by omega
          have HN := Lib.hid (HD1.out (E1.out hc1))
          clear hc1
          go_wp2_with fail
          refine (HM.out _).mono ?_
          rintro e w1 ⟨rfl, rfl⟩
          go_wp2_with fail
          go_ret
          exact ⟨d, rfl, HN.out, hdr⟩
        · have k1 : ¬ (hi : Int) < (r : Int) := by omega
          by_cases hc2 : hi = r
          · subst hc2
            have k2 : ((hi : Int) == (hi : Int)) = true := by simp
            by_cases hc3 : lo ≤ u0
            · have k3 : (lo : Int) ≤ (u0 : Int) := by omega
              have HN := Lib.hid (HD1.out (E2.out rfl hc3))
              go_wp2_with fail
              refine (HM.out _).mono ?_
              rintro e w1 ⟨rfl, rfl⟩
              go_wp2_with fail
              go_ret
              exact ⟨d, rfl, HN.out, hdr⟩
            · have k3 : ¬ (lo : Int) ≤ (u0 : Int) := by omega
              obtain ⟨hd0, hs1⟩ := HSP.out (E3.out (.inr ⟨rfl, by omega⟩))
              have HN := Lib.hid hs1
              clear hs1
              have k4 : (1 : Int) ≤ (d : Int) := by omega
              go_wp2_with fail
              refine (HM.out _).mono ?_
              rintro e w1 ⟨rfl, rfl⟩
              go_wp2_with fail
              refine (HA.out _).mono ?_
              rintro e w1 ⟨rfl, rfl⟩
              go_wp2_with fail
              go_roundg (d - 1)
              case rel => exact ⟨d - 1, hi + v1, rfl, by go_num, rfl, rfl, HN.out, by omega, hdr⟩
              case measure => have := HG.out; omega
          · have k2 : ((hi : Int) == (r : Int)) = false := by simp; omega
            obtain ⟨hd0, hs1⟩ := HSP.out (E3.out (.inl (by omega)))
            have HN := Lib.hid hs1
            clear hs1 hc2
            have k4 : (1 : Int) ≤ (d : Int) := by omega
            go_wp2_with fail
            refine (HM.out _).mono ?_
            rintro e w1 ⟨rfl, rfl⟩
            go_wp2_with fail
            refine (HA.out _).mono ?_
            rintro e w1 ⟨rfl, rfl⟩
            go_wp2_with fail
            go_roundg (d - 1)
            case rel => exact ⟨d - 1, r + v1, rfl, by go_num, rfl, rfl, HN.out, by omega, hdr⟩
            case measure => have := HG.out; omega
      · have HN := Lib.hid (HDO.out d r HS.out (.inl (by omega)))
        have k1 : ((((r / 4294967296 : Nat)) : Int) == 0) = false := by simp; omega
        generalize r / 4294967296 = q at *
        generalize r % 4294967296 = rm at *
        go_wp2_with fail
        go_ret
        exact ⟨d, rfl, HN.out, hdr⟩
end Go.Proofs.Ytpbapoanjkekmaa
