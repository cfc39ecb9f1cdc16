/- Contracts of the reference's permitsFalse and Covers, for at most 1000 rows of at most 6 valid signs and at most 1000 terms. -/
import Derived.Test.YtlfjpfbkkbhhjaaDoorW5
namespace Go.Proofs.YtlfjpfbkkbhhjaaDoor
open Go.RowKit

def anyTo (p : Nat → Bool) (k : Nat) : Bool := (List.range k).any p
theorem anyTo_succ (p : Nat → Bool) (k : Nat) : anyTo p (k + 1) = (anyTo p k || p k) := by simp [anyTo, List.range_succ]
theorem anyTo_true {p : Nat → Bool} {k m : Nat} (h : p k = true) (hk : k < m) : anyTo p m = true := by
  simp only [anyTo, List.any_eq_true]; exact ⟨k, List.mem_range.2 hk, h⟩
theorem anyTo_iff {p : Nat → Bool} {m : Nat} : anyTo p m = true ↔ ∃ k, k < m ∧ p k = true := by simp [anyTo]

def permT (t s : List Int) : Bool := decide (t.length = s.length) && permTo t s t.length
def falseAt (t : List Int) (rows : List (List Int × Bool)) (k : Nat) : Bool := !tr rows k && permT t (sg rows k)
def falseB (t : List Int) (rows : List (List Int × Bool)) : Bool := anyTo (falseAt t rows) rows.length

theorem PermitsT (A A' : Option Addr) (n m c c' B : Nat) (ts ss : List Int) (w : World) (hB : B ≤ w.heap.size) (ht : Reads w B 1 A n (ts.map (Value.int .i64))) (hs : Reads w B 1 A' m (ss.map (Value.int .i64)))
    (hm : n ≤ 1000) (hm' : m ≤ 1000) (hr : ∀ x ∈ ss, -1 ≤ x ∧ x ≤ 1) :
    Calls Tryd.prog 23 #[.slice A n c, .slice A' m c'] w fun e w' => e = .returned (.bool (permT ts ss)) ∧ Below w.heap.size w w' := by
  have h1 := ht.len
  have h2 := hs.len
  subst h1 h2
  exact Permits_any A A' _ _ c c' B ts ss w hB ht hs hm hm' hr

set_option maxHeartbeats 1000000 in
theorem pFalse_any (A0 A : Option Addr) (m n c0 c B : Nat) (t : List Int) (rows : List (List Int × Bool)) (w : World) (hB : B ≤ w.heap.size) (ht : Reads w B 1 A0 m (t.map (Value.int .i64))) (hr : RowsAt w B A rows) (hn : n = rows.length)
    (hm : n ≤ 1000) (hm0 : m ≤ 1000) (hq : ∀ k, k < rows.length → (sg rows k).length ≤ 6) (hv : ∀ k, k < rows.length → ∀ x ∈ sg rows k, -1 ≤ x ∧ x ≤ 1) :
    Calls Tryd.prog 24 #[.slice A0 m c0, .slice A n c] w fun e w' => e = .returned (.bool (falseB t rows)) ∧ Below w.heap.size w w' := by
  have HN := Lib.hid hn; clear hn
  have HQ := Lib.hid hq; clear hq
  have HV := Lib.hid hv; clear hv
  go_enter Tryd.func24, Tryd.ntmps24
  go_wp2
  go_loopw [5, 8] (fun _ i wr => ∃ (k : Nat), k ≤ n ∧ i = .int .i64 k ∧ anyTo (falseAt t rows) k = false ∧ Below w.heap.size w wr) (fun _ i _ => n - (intOf i).toNat)
  case atStart => exact ⟨0, Nat.zero_le _, rfl, rfl, .refl _ _⟩
  case round =>
    obtain ⟨k, hk, rfl, hp, hd⟩ := hrel
    have HP := Lib.hid hp; clear hp
    have hz := hd.size
    by_cases hlt : k < n
    · obtain ⟨b1, o1, Ak, ck, rfl, q1, c1, c2, hs⟩ := (hr.below (hd.mono hB)).at_ (k := k) (by have := HN.out; omega)
      have ht1 := ht.below (hd.mono hB)
      have HS := Lib.hid (anyTo_succ (falseAt t rows) k)
      have HF := Lib.hid (fun h : falseAt t rows k = true => show falseB t rows = true from anyTo_true h (by have := HN.out; omega))
      have HG := Lib.hid (show falseAt t rows k = (!tr rows k && permT t (sg rows k)) from rfl)
      have h6 := HQ.out k (by have := HN.out; omega)
      have HVk := Lib.hid (HV.out k (by have := HN.out; omega))
      have i1 : (k : Int) < n := by omega
      have z1 : b1 < wr.heap.size := by omega
      generalize sg rows k = l at *
      generalize tr rows k = tk at *
      cases tk
      · cases hpt : permT t l
        · have HPT := Lib.hid hpt
          go_wp2_with (go_at_call 23; refine (PermitsT _ _ _ _ _ _ B t l _ (by omega) ht1 hs hm0 (by omega) HVk.out).mono ?_; rintro e w1 ⟨rfl, hb1⟩)
          go_roundw
          case rel => exact ⟨k + 1, by omega, by go_num, by rw [HS.out, HP.out, HG.out, HPT.out]; rfl, hd.trans (hb1.mono hz)⟩
          case measure => simp [intOf]; omega
        · have HPT := Lib.hid hpt
          go_wp2_with (go_at_call 23; refine (PermitsT _ _ _ _ _ _ B t l _ (by omega) ht1 hs hm0 (by omega) HVk.out).mono ?_; rintro e w1 ⟨rfl, hb1⟩)
          go_ret
          exact ⟨ret_bool (HF.out (by rw [HG.out, HPT.out]; rfl)).symm, hd.trans (hb1.mono hz)⟩
      · go_wp2_with fail
        go_roundw
        case rel => exact ⟨k + 1, by omega, by go_num, by rw [HS.out, HP.out, HG.out]; rfl, hd⟩
        case measure => simp [intOf]; omega
    · go_wp2
      go_ret
      refine ⟨ret_bool ?_, hd⟩
      have := HP.out
      rw [show k = n by omega, HN.out] at this
      exact this.symm

def covAt (ts : List (List Int)) (rows : List (List Int × Bool)) (i k : Nat) : Bool := permT (ts.getD k []) (sg rows i)
def covRow (ts : List (List Int)) (rows : List (List Int × Bool)) (i : Nat) : Bool := anyTo (covAt ts rows i) ts.length == tr rows i
def covB (ts : List (List Int)) (rows : List (List Int × Bool)) : Bool := allTo (covRow ts rows) rows.length

set_option maxHeartbeats 1000000 in
theorem Covers_any (A0 A : Option Addr) (m n c0 c B : Nat) (ts : List (List Int)) (rows : List (List Int × Bool)) (w : World) (hB : B ≤ w.heap.size) (ht : ListsAt w B A0 ts) (hr : RowsAt w B A rows) (hm : m = ts.length) (hn : n = rows.length)
    (hm0 : m ≤ 1000) (hn0 : n ≤ 1000) (hqt : ∀ k, k < ts.length → (ts.getD k []).length ≤ 1000) (hq : ∀ k, k < rows.length → (sg rows k).length ≤ 6) (hv : ∀ k, k < rows.length → ∀ x ∈ sg rows k, -1 ≤ x ∧ x ≤ 1) :
    Calls Tryd.prog 13 #[.slice A0 m c0, .slice A n c] w fun e w' => e = .returned (.bool (covB ts rows)) ∧ Below w.heap.size w w' := by
  have HN := Lib.hid hn; clear hn
  have HM := Lib.hid hm; clear hm
  have HQ := Lib.hid hq; clear hq
  have HQT := Lib.hid hqt; clear hqt
  have HV := Lib.hid hv; clear hv
  go_enter Tryd.func13, Tryd.ntmps13
  go_wp2
  go_loopw [5, 6, 7, 10] (fun _ _ _ i wr => ∃ (k : Nat), k ≤ n ∧ i = .int .i64 k ∧ allTo (covRow ts rows) k = true ∧ Below w.heap.size w wr) (fun _ _ _ i _ => n - (intOf i).toNat)
  case atStart => exact ⟨0, Nat.zero_le _, rfl, rfl, .refl _ _⟩
  case round =>
    obtain ⟨i, hi, rfl, hp, hd⟩ := hrel
    have HP := Lib.hid hp; clear hp
    obtain ⟨wo, rfl⟩ : ∃ wo : World, wo = wr := ⟨_, rfl⟩
    by_cases hlt : i < n
    · go_wp2
      go_loopw [6, 7, 15] (fun f _ j wr => ∃ (k : Nat), k ≤ m ∧ j = .int .i64 k ∧ f = .bool (anyTo (covAt ts rows i) k) ∧ Below w.heap.size w wr) (fun _ _ j _ => m - (intOf j).toNat)
      case atStart => exact ⟨0, Nat.zero_le _, rfl, rfl, hd⟩
      case round =>
        clear hd
        obtain ⟨k, hk, rfl, rfl, hd⟩ := hrel
        have hz := hd.size
        obtain ⟨b1, o1, A1, c1', rfl, q1, c1, c2, hs1⟩ := (hr.below (hd.mono hB)).at_ (k := i) (by have := HN.out; omega)
        have i1 : (i : Int) < n := by omega
        by_cases hlt2 : k < m
        · obtain ⟨b2, o2, A2, c2', rfl, q2, c3, hs2⟩ := (ht.below (hd.mono hB)).at_ (k := k) (by have := HM.out; omega)
          have h1 := HQ.out i (by have := HN.out; omega)
          have h2 := HQT.out k (by have := HM.out; omega)
          have HVk := Lib.hid (HV.out i (by have := HN.out; omega))
          have HS2 := Lib.hid (anyTo_succ (covAt ts rows i) k)
          have HG := Lib.hid (show covAt ts rows i k = permT (ts.getD k []) (sg rows i) from rfl)
          have i2 : (k : Int) < m := by omega
          have z1 : b1 < wr.drew.heap.size := by simp; omega
          have z2 : b2 < wr.drew.heap.size := by simp; omega
          have z0 : B ≤ wr.drew.heap.size := by simp; omega
          have h1' : (sg rows i).length ≤ 1000 := by omega
          generalize sg rows i = si at *
          generalize ts.getD k [] = tk at *
          generalize tr rows i = ti at *
          generalize hf : anyTo (covAt ts rows i) k = fk at *
          clear hf
          cases fk
          · go_wp2
            go_region_held3 (fun w' => w'.cell? ⟨b1, o1 + i * 2, none⟩ = some (.slice A1 si.length c1') ∧ w'.cell? ⟨b2, o2 + k, none⟩ = some (.slice A2 tk.length c2')) (first | exact ⟨c1, c3⟩ | exact ⟨(hb1.cell z1).trans c1, (hb1.cell z2).trans c3⟩)
              (first | (go_at_call 23; refine (PermitsT _ _ _ _ _ _ B tk si _ z0 hs2 hs1 h2 h1' HVk.out).mono ?_; rintro e w1 ⟨rfl, hb1⟩))
            go_wp2
            go_roundw
            case rel => exact ⟨k + 1, by omega, by go_num, by rw [HS2.out, HG.out]; rfl, hd.drew.trans (hb1.mono (by simp; omega))⟩
            case measure => simp [intOf]; omega
          · go_wp2
            go_quiet (fail)
            go_wp2
            go_roundw
            case rel => exact ⟨k + 1, by omega, by go_num, by rw [HS2.out]; rfl, hd.trans ((Drawn.drewN _ _).below _)⟩
            case measure => simp [intOf]; omega
        · have HS := Lib.hid (allTo_succ (covRow ts rows) i)
          have HG := Lib.hid (show covRow ts rows i = (anyTo (covAt ts rows i) ts.length == tr rows i) from rfl)
          have HF := Lib.hid (@allTo_false (covRow ts rows) i n)
          have HKM := Lib.hid (show k = ts.length by have := HM.out; omega)
          generalize tr rows i = ti at *
          generalize hf : anyTo (covAt ts rows i) k = fk at *
          have HFK := Lib.hid hf; clear hf
          by_cases hg : (fk == ti) = true
          · go_wp2
            go_roundw
            case rel => exact ⟨i + 1, by omega, by go_num, by rw [HS.out, HP.out, HG.out, ← HKM.out, HFK.out, hg]; rfl, hd⟩
            case measure => simp [intOf]; omega
          · have hg' : (fk == ti) = false := by simpa using hg
            clear hg
            go_wp2
            go_ret
            refine ⟨ret_bool ?_, hd⟩
            have := HF.out (by rw [HG.out, ← HKM.out, HFK.out, hg']) hlt
            rw [HN.out] at this
            exact this.symm
    · go_wp2
      go_ret
      refine ⟨ret_bool ?_, hd⟩
      have := HP.out
      rw [show i = n by omega, HN.out] at this
      exact this.symm
end Go.Proofs.YtlfjpfbkkbhhjaaDoor
