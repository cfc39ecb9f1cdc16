/- The walk of the law SolutionOrder: it returns true at every n, every list of rows and every turn. -/
import Derived.Test.YtlfjpfbkkbhhjaaDoorO1
namespace Go.Proofs.YtlfjpfbkkbhhjaaDoor
open Go.RowKit

set_option maxHeartbeats 1000000 in
set_option maxRecDepth 100000 in
theorem ordIdle (x : Int) (A : Option Addr) (c turn : Nat) (rows : List (List Int × Bool)) (w : World) (hr : RowsArg w A rows) (htab : TabOk w) (h : fewB rows = false ∨ 40 < rows.length ∨ 6 < x) :
    Calls Tryd.prog 7 #[.int .i64 x, .slice A rows.length c, .int .u8 (turn : Int)] w fun e w' => e = .returned (.bool true) ∧ Below w.heap.size w w' := by
  have HT := Lib.hid htab; clear htab
  cases hf : fewB rows
  · have HF := Lib.hid hf; clear hf h
    go_enter Tryd.func7, Tryd.ntmps7
    go_wp2_with fail
    refine (awake_any w HT.out).mono ?_
    rintro e w1 ⟨rfl, hb1⟩
    have hz1 := hb1.size
    go_wp2_with fail
    have hfw := Few_any A rows.length c w.heap.size rows w1 (hr.at_.below hb1) rfl hr.len
    rw [HF.out] at hfw
    refine hfw.mono ?_
    rintro e w2 ⟨rfl, rfl⟩
    clear hfw
    go_wp2_with fail
    refine (awake_any w1 (HT.out.on hb1)).mono ?_
    rintro e w2 ⟨rfl, hb2⟩
    go_wp2_with fail
    go_ret
    exact ⟨rfl, hb1.trans (hb2.mono hz1)⟩
  have HF := Lib.hid hf
  rw [hf] at h
  clear hf
  by_cases h40 : rows.length ≤ 40
  · have hx : 6 < x := by
      rcases h with h | h | h
      · cases h
      · omega
      · exact h
    clear h
    go_enter Tryd.func7, Tryd.ntmps7
    go_wp2_with fail
    refine (awake_any w HT.out).mono ?_
    rintro e w1 ⟨rfl, hb1⟩
    have hz1 := hb1.size
    go_wp2_with fail
    have hfw := Few_any A rows.length c w.heap.size rows w1 (hr.at_.below hb1) rfl hr.len
    rw [HF.out] at hfw
    refine hfw.mono ?_
    rintro e w2 ⟨rfl, rfl⟩
    clear hfw
    go_wp2_with fail
    refine (awake_any w1 (HT.out.on hb1)).mono ?_
    rintro e w2 ⟨rfl, hb2⟩
    go_wp2_with fail
    go_ret
    exact ⟨rfl, hb1.trans (hb2.mono hz1)⟩
  · clear h
    go_enter Tryd.func7, Tryd.ntmps7
    go_wp2_with fail
    refine (awake_any w HT.out).mono ?_
    rintro e w1 ⟨rfl, hb1⟩
    have hz1 := hb1.size
    have hlen := hr.len
    go_wp2_with fail
    have hfw := Few_any A rows.length c w.heap.size rows w1 (hr.at_.below hb1) rfl hr.len
    rw [HF.out] at hfw
    refine hfw.mono ?_
    rintro e w2 ⟨rfl, rfl⟩
    clear hfw
    go_wp2_with fail
    refine (awake_any w1 (HT.out.on hb1)).mono ?_
    rintro e w2 ⟨rfl, hb2⟩
    go_wp2_with fail
    go_ret
    exact ⟨rfl, hb1.trans (hb2.mono hz1)⟩

/-- the other list of rows, made by the call -/
def Oth (w1 wc : World) (rows : List (List Int × Bool)) (v : Value) : Prop :=
  ∃ (other : List (List Int × Bool)) (A1 : Option Addr) (c1 : Nat), v = .slice A1 other.length c1 ∧ RowsIn wc wc.heap.size A1 other ∧ (∀ r ∈ other, r ∈ rows) ∧ (∀ r ∈ rows, r ∈ other) ∧ Below w1.heap.size w1 wc
theorem RowsIn.sub {w w' : World} {B B' : Nat} {A A' : Option Addr} {a b : List (List Int × Bool)} (h : RowsIn w B A b) (hs : ∀ r ∈ a, r ∈ b) (hl : a.length ≤ 90) (ha : RowsAt w' B' A' a) : RowsIn w' B' A' a :=
  ⟨ha, hl, fun k hk => by obtain ⟨j, hj, e, _⟩ := sub_at hs hk; rw [← e]; exact h.six j hj, fun k hk => by obtain ⟨j, hj, e, _⟩ := sub_at hs hk; rw [← e]; exact h.i64 j hj⟩
theorem oth_of {w w0 w1 wc : World} {A : Option Addr} {B n : Nat} {e : TypeId} {v : Value} {rows other : List (List Int × Bool)} {xs : List Value} (hri : RowsIn w0 w.heap.size A rows) (hown : wc.ownsRow w1.heap.size e 2 v n xs) (hn : n = other.length) (hrc : RowCells wc B xs other) (hB : B ≤ wc.heap.size)
    (h90 : other.length ≤ 90) (h1 : ∀ r ∈ other, r ∈ rows) (h2 : ∀ r ∈ rows, r ∈ other) (hb : Below w1.heap.size w1 wc) : Oth w1 wc rows v := by
  subst hn
  obtain ⟨A1, c1, rfl⟩ := own_slice2 hown
  exact ⟨other, A1, c1, rfl, hri.sub h1 h90 (RowsAt.of_own hown hrc hB), h1, h2, hb⟩

set_option maxHeartbeats 2000000 in
set_option maxRecDepth 100000 in
theorem lawOrder (x : Int) (A : Option Addr) (c turn : Nat) (ht : turn ≤ 255) (rows : List (List Int × Bool)) (w : World) (hr : RowsArg w A rows) (htab : TabOk w) :
    Calls Tryd.prog 7 #[.int .i64 x, .slice A rows.length c, .int .u8 (turn : Int)] w fun e w' => e = .returned (.bool true) ∧ Below w.heap.size w w' := by
  by_cases hall : fewB rows = true ∧ rows.length ≤ 40 ∧ x ≤ 6
  case neg =>
    refine ordIdle x A c turn rows w hr htab ?_
    cases hf : fewB rows with
    | false => exact .inl rfl
    | true =>
      rw [hf] at hall
      by_cases h40 : rows.length ≤ 40
      · by_cases hx6 : x ≤ 6
        · exact absurd ⟨rfl, h40, hx6⟩ hall
        · exact .inr (.inr (by omega))
      · exact .inr (.inl (by omega))
  obtain ⟨hf, h40, hx⟩ := hall
  have HT := Lib.hid htab; clear htab
  have HF := Lib.hid hf; clear hf
  obtain ⟨i9, hi9, hy0, hy1, hy2⟩ := info_parts Tryd.infoRow
  go_enter Tryd.func7, Tryd.ntmps7
  go_wp2_with fail
  refine (awake_any w HT.out).mono ?_
  rintro e w1 ⟨rfl, hb1⟩
  have hz1 := hb1.size
  have hri := hr.few HF.out hb1
  go_wp2_with fail
  have hfw := Few_any A rows.length c w.heap.size rows w1 hri.at_ rfl hr.len
  rw [HF.out] at hfw
  refine hfw.mono ?_
  rintro e w2 ⟨rfl, rfl⟩
  clear hfw
  go_wp2_with fail
  go_loopg [7, 8, 32] rows.length (fun gn v _ i wr => ∃ (k : Nat) (xs : List Value), k ≤ rows.length ∧ gn = rows.length - k ∧ i = .int .i64 k ∧ wr.ownsRow w1.heap.size 36 2 v k xs ∧ RowCells wr w.heap.size xs (turnTo rows turn k) ∧ (∀ u ∈ xs, u.oneCell' = true) ∧ Below w1.heap.size w1 wr)
  case atStart => exact ⟨0, [], Nat.zero_le _, rfl, rfl, World.ownsRow_nil _ _ _ _, RowCells.nil _ _, by simp, .refl _ _⟩
  case round =>
    obtain ⟨k, xs, hk, hgk, rfl, hown, hrc, hone, hd⟩ := hrel
    have HG := Lib.hid hgk; clear hgk
    have HONE := Lib.hid hone; clear hone
    have hz := hd.size
    by_cases hlt : k < rows.length
    · have hmod := Nat.mod_lt (k + turn) (show 0 < rows.length by omega)
      obtain ⟨p1, o1, Ak, ck, rfl, q1, c1, c2, hsk⟩ := (hri.at_.below (hd.mono hz1)).at_ (k := (k + turn) % rows.length) hmod
      have HTU := Lib.hid (show turnTo rows turn (k + 1) = turnTo rows turn k ++ [(sg rows ((k + turn) % rows.length), tr rows ((k + turn) % rows.length))] from rfl)
      generalize sg rows ((k + turn) % rows.length) = l at *
      generalize tr rows ((k + turn) % rows.length) = b at *
      have hownA := hown.alloc (.cells #[.slice Ak l.length ck, .bool b] 36)
      have h63 : k + 1 ≤ maxLen := by unfold maxLen; omega
      have hby : (k + 1) * 32 ≤ 140737488355328 := by omega
      have hbase : w1.heap.size ≤ (wr.alloc (.cells #[.slice Ak l.length ck, .bool b] 36)).heap.size := by simp; omega
      have z1 : p1 < wr.heap.size := by omega
      have m0 : 0 ≤ ((k : Int) + (turn : Int)) % (rows.length : Int) := Int.emod_nonneg _ (by omega)
      have m1 : ((k : Int) + (turn : Int)) % (rows.length : Int) < (rows.length : Int) := Int.emod_lt_of_pos _ (by omega)
      go_wp2_with (at_builtin; refine wpList_append_any _ rfl (.tmp 35) (.tmp 46) _ rfl w1.heap.size 36 i9 _ 2 32 Tryd.underlying22 hi9 hy0 hy1 hy2 rfl (by omega) u7 _ _ rfl hownA _ _ 1 1 _ rfl (Reads.two_new wr (.slice Ak l.length ck) (.bool b) 36) (by intro u hu; simp at hu; rcases hu with rfl | rfl <;> rfl) h63 hby hbase ?_; intro v3 w3 hown3 hg3 hat3)
      go_roundg (rows.length - (k + 1))
      case rel =>
        have hdA := (hd.alloc hz (.cells #[.slice Ak l.length ck, .bool b] 36)).grown hg3 (by simp; omega) (fun q hq => (hownA.lt q hq).1)
        refine ⟨k + 1, _, by omega, rfl, by go_num, hown3, ?_, ?_, hdA⟩
        · rw [HTU.out]
          have hbw : Below w1.heap.size wr w3 := ((Below.refl _ wr).alloc hz _).grown hg3 (by simp; omega) (fun q hq => (hownA.lt q hq).1)
          exact (hrc.keep (fun p hp => hbw.cell (show p.block < w1.heap.size by omega))).snoc (hsk.keep (fun p hp => hbw.cell (show p.block < w1.heap.size by omega)))
        · intro u hu
          rcases List.mem_append.1 hu with hu | hu
          · exact HONE.out u hu
          · simp at hu; rcases hu with rfl | rfl <;> rfl
      case measure => have := HG.out; omega
    · obtain rfl : k = rows.length := by omega
      go_upto_if 51 with (fail)
      go_cut [7] (fun v wc => Oth w1 wc rows v)
      case first =>
        by_cases h0 : 0 < rows.length
        · have hmod := Nat.mod_lt turn h0
          obtain ⟨p1, o1, Ak, ck, rfl, q1, c1, c2, hsk⟩ := (hri.at_.below (hd.mono hz1)).at_ (k := turn % rows.length) hmod
          have hmem := row_mem hmod
          have hmem2 : (sg rows (turn % rows.length), tr rows (turn % rows.length)) ∈ rows := hmem
          clear hmem
          generalize sg rows (turn % rows.length) = l at *
          generalize tr rows (turn % rows.length) = b at *
          have HM := Lib.hid hmem2; clear hmem2
          have hownA := hown.alloc (.cells #[.slice Ak l.length ck, .bool b] 36)
          have h63 : rows.length + 1 ≤ maxLen := by unfold maxLen; omega
          have hby : (rows.length + 1) * 32 ≤ 140737488355328 := by omega
          have hbase : w1.heap.size ≤ (wr.alloc (.cells #[.slice Ak l.length ck, .bool b] 36)).heap.size := by simp; omega
          have z1 : p1 < wr.heap.size := by omega
          have m0 : 0 ≤ (turn : Int) % (rows.length : Int) := Int.emod_nonneg _ (by omega)
          have m1 : (turn : Int) % (rows.length : Int) < (rows.length : Int) := Int.emod_lt_of_pos _ (by omega)
          go_wp2_with (at_builtin; refine wpList_append_any _ rfl (.tmp 52) (.tmp 61) _ rfl w1.heap.size 36 i9 _ 2 32 Tryd.underlying22 hi9 hy0 hy1 hy2 rfl (by omega) u7 _ _ rfl hownA _ _ 1 1 _ rfl (Reads.two_new wr (.slice Ak l.length ck) (.bool b) 36) (by intro u hu; simp at hu; rcases hu with rfl | rfl <;> rfl) h63 hby hbase ?_; intro v3 w3 hown3 hg3 hat3)
          go_meet
          case rel =>
            have hdA := (hd.alloc hz (.cells #[.slice Ak l.length ck, .bool b] 36)).grown hg3 (by simp; omega) (fun q hq => (hownA.lt q hq).1)
            have hbw : Below w1.heap.size wr w3 := ((Below.refl _ wr).alloc hz _).grown hg3 (by simp; omega) (fun q hq => (hownA.lt q hq).1)
            refine oth_of (other := turnTo rows turn rows.length ++ [(l, b)]) hri hown3 (by simp [turnTo_len]) ((hrc.keep (fun p hp => hbw.cell (show p.block < w1.heap.size by omega))).snoc (hsk.keep (fun p hp => hbw.cell (show p.block < w1.heap.size by omega)))) (by have := hdA.size; omega) (by simp [turnTo_len]; omega) ?_ ?_ hdA
            · intro r hr
              rcases List.mem_append.1 hr with hr | hr
              · exact turnTo_sub h0 hr
              · rw [List.mem_singleton] at hr; rw [hr]; exact HM.out
            · intro r hr
              exact List.mem_append_left _ (turnTo_all hr)
        · go_wp2
          go_meet
          case rel =>
            have hnil : rows = [] := List.length_eq_zero_iff.1 (by omega)
            exact oth_of hri hown (by rw [turnTo_len]) hrc (by omega) (by rw [turnTo_len]; omega) (fun r hr => by rw [hnil] at hr; cases hr) (fun r hr => by rw [hnil] at hr; cases hr) hd
      case rest =>
        obtain ⟨other, A1, c1, rfl, hro, hs1, hs2, hbc⟩ := hcut
        have hd1 := hb1.trans (hbc.mono hz1)
        have hric := hr.few HF.out hd1
        have hzc := hd1.size
        have HE := Lib.hid (errOf_same (x := x) hs1 hs2)
        have HS1 := Lib.hid hs1; have HS2 := Lib.hid hs2
        clear hs1 hs2 hd hrc hown HONE HG hri hz
        go_wp2_with fail
        refine (Cover_good x hx A c w.heap.size rows wc hzc hric (HT.out.on hd1)).mono ?_
        rintro e w3 ⟨A3, c3, ts, rfl, hl3, hne, hok, hb3⟩
        have HNE := Lib.hid hne; have HOK := Lib.hid hok; clear hne hok
        have hd3 := hd1.trans (hb3.mono hzc)
        have hz3 := hb3.size
        go_wp2_with fail
        refine (Cover_good x hx A1 c1 wc.heap.size other w3 hz3 (hro.below hb3) (HT.out.on hd3)).mono ?_
        rintro e w4 ⟨A4, c4, us, rfl, hl4, hne4, hok4, hb4⟩
        have HNE4 := Lib.hid hne4; have HOK4 := Lib.hid hok4; clear hne4 hok4
        have hd4 := hd3.trans (hb4.mono (hd3.size))
        have hz4 := hb4.size
        have hec := errOf_cases x rows
        rw [HE.out] at HNE4 HOK4 ⊢
        clear HE
        generalize errOf x rows = er at *
        by_cases he : er = 0
        · subst he
          obtain ⟨N, rfl, hv, hc⟩ := HOK.out rfl
          obtain ⟨N', hN', hv', hc'⟩ := HOK4.out rfl
          obtain rfl : N = N' := by omega
          have h90 := hric.few
          have h90' := hro.few
          have hcnt := hc.count
          have hcnt' := hc'.count
          have hN6 : N ≤ 6 := by omega
          have hro4 := (hro.below hb3).at_.more hz3
          have hcov := Covers_any A3 A1 ts.length other.length c3 c1 w4.heap.size ts other w4 (Nat.le_refl _) ((hl3.below hb4).more hz4) ((hro4.below hb4).more hz4) rfl rfl (by omega) (by omega) (fun k hk => by rw [(hc.term _ (mem_getD hk)).1]; omega) hro.six (fun k hk => (hv' k hk).2)
          rw [covers_sub HS1.out hv hc] at hcov
          have hcov2 := fun (w5 : World) (h5 : Below w4.heap.size w4 w5) => Covers_any A4 A us.length rows.length c4 c w5.heap.size us rows w5 (Nat.le_refl _) ((hl4.below h5).more h5.size) ((hr.few HF.out (hd4.trans (h5.mono hd4.size))).at_.more (hd4.trans (h5.mono hd4.size)).size) rfl rfl (by omega) (by omega) (fun k hk => by rw [(hc'.term _ (mem_getD hk)).1]; omega) hric.six (fun k hk => (hv k hk).2)
          rw [covers_sub HS2.out hv' hc'] at hcov2
          have HC := Lib.hid hcov; have HC2 := Lib.hid hcov2
          clear hcov hcov2 hc hv hl3 hric hec hc' hv' hN' hro4 hl4
          go_wp2_with fail
          refine (HC.out).mono ?_
          rintro e w5 ⟨rfl, hb5⟩
          have hz5 := hb5.size
          go_wp2_with fail
          refine (HC2.out w5 hb5).mono ?_
          rintro e w6 ⟨rfl, hb6⟩
          go_wp2_with fail
          go_ret
          exact ⟨rfl, hd4.trans ((hb5.trans (hb6.mono hz5)).mono hd4.size)⟩
        · obtain rfl := HNE.out he
          obtain rfl := HNE4.out he
          have hb0 : (er != 0) = true := by simpa using he
          have hb1' : (er == er) = true := by simp
          have hb2' : (er != er) = false := by simp
          clear hric hl3 hl4 hec he HNE HNE4 HOK HOK4 hro
          go_wp2_with fail
          go_ret
          exact ⟨by simp, hd4⟩
end Go.Proofs.YtlfjpfbkkbhhjaaDoor
