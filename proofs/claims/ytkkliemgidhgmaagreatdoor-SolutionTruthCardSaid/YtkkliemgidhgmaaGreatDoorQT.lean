/- Contract of solution.widen, for at most 1000 rows, the widened one of valid signs. -/
import Derived.StillTailTactics
import Derived.Test.YtkkliemgidhgmaaGreatDoorQS
namespace Go.Proofs.YtkkliemgidhgmaaGreatDoor
open Go.RowKit

/-! ### what 'widen' reckons -/
def addTo (p : Nat → Bool) (d : Int) (cnt : List Int) : Nat → List Int
  | 0 => cnt
  | i + 1 => if p i then (addTo p d cnt i).set i (cAt (addTo p d cnt i) i + d) else addTo p d cnt i
theorem addTo_len (p : Nat → Bool) (d : Int) (cnt : List Int) (i : Nat) : (addTo p d cnt i).length = cnt.length := by
  induction i with
  | zero => rfl
  | succ i ih => unfold addTo; split <;> simp [ih]
theorem addTo_at (p : Nat → Bool) (d : Int) (cnt : List Int) (i j : Nat) (hi : i ≤ cnt.length) : cAt (addTo p d cnt i) j = cAt cnt j + if j < i ∧ p j = true then d else 0 := by
  induction i with
  | zero => simp [addTo]
  | succ i ih =>
    have ih := ih (by omega)
    unfold addTo
    by_cases hp : p i = true
    · rw [if_pos hp, cAt_set _ _ _ _ (by rw [addTo_len]; omega)]
      by_cases hij : i = j
      · subst hij
        rw [if_pos rfl, ih, if_neg (by omega), if_pos ⟨by omega, hp⟩]; omega
      · rw [if_neg hij, ih]
        congr 1
        by_cases h2 : j < i ∧ p j = true
        · rw [if_pos h2, if_pos ⟨by omega, h2.2⟩]
        · rw [if_neg h2, if_neg (fun h3 => h2 ⟨by omega, h3.2⟩)]
    · rw [if_neg hp, ih]
      congr 1
      by_cases h2 : j < i ∧ p j = true
      · rw [if_pos h2, if_pos ⟨by omega, h2.2⟩]
      · rw [if_neg h2, if_neg]
        rintro ⟨h3, h4⟩
        by_cases hij : j = i
        · subst hij; exact hp h4
        · exact h2 ⟨by omega, h4⟩

def tTo (ss : List Int) : Nat → List Int
  | 0 => List.replicate ss.length 0
  | i + 1 => (tTo ss i).set i (bitOf (cAt ss i))
def differs (no : List (List Int)) (i : Nat) (s : Int) (k : Nat) : Bool := cAt (no.getD k []) i != s
def agrees (no : List (List Int)) (i : Nat) (s : Int) (k : Nat) : Bool := cAt (no.getD k []) i == s
def b1To (ss : List Int) (no : List (List Int)) : Nat → List Int
  | 0 => List.replicate no.length 0
  | i + 1 => addTo (differs no i (cAt ss i)) 1 (b1To ss no i) no.length
/-- one sign of one set -/
def step2 (no : List (List Int)) (i : Nat) (s : Int) (x : List Int × List Int) : List Int × List Int :=
  if meet (cAt x.1 i) s || !freeB no x.2 i s then x else (x.1.set i (bits .or .i64 (cAt x.1 i) (bitOf s)), addTo (agrees no i s) (-1) x.2 no.length)
def inTo (no : List (List Int)) (i : Nat) (x : List Int × List Int) : Nat → List Int × List Int
  | 0 => x
  | r + 1 => step2 no i ((r : Int) - 1) (inTo no i x r)
def outTo (ss : List Int) (no : List (List Int)) : Nat → List Int × List Int
  | 0 => (tTo ss ss.length, b1To ss no ss.length)
  | q + 1 => inTo no (ss.length - 1 - q) (outTo ss no q) 3

theorem tTo_len (ss : List Int) (i : Nat) : (tTo ss i).length = ss.length := by
  induction i with
  | zero => simp [tTo]
  | succ i ih => simp [tTo, ih]
theorem b1To_len (ss : List Int) (no : List (List Int)) (i : Nat) : (b1To ss no i).length = no.length := by
  induction i with
  | zero => simp [b1To]
  | succ i ih => simp [b1To, addTo_len, ih]
theorem cAt_replicate (n j : Nat) : cAt (List.replicate n 0) j = 0 := by
  unfold cAt
  rw [List.getD_eq_getElem?_getD, List.getElem?_replicate]
  split <;> rfl
theorem b1To_bd (ss : List Int) (no : List (List Int)) (i j : Nat) : 0 ≤ cAt (b1To ss no i) j ∧ cAt (b1To ss no i) j ≤ i := by
  induction i with
  | zero => simp [b1To, cAt_replicate]
  | succ i ih =>
    simp only [b1To]
    rw [addTo_at _ _ _ _ _ (by rw [b1To_len]; omega)]
    split <;> omega
theorem step2_len (no : List (List Int)) (i : Nat) (s : Int) (x : List Int × List Int) : (step2 no i s x).1.length = x.1.length ∧ (step2 no i s x).2.length = x.2.length := by
  unfold step2
  split <;> simp [addTo_len]
theorem inTo_len (no : List (List Int)) (i : Nat) (x : List Int × List Int) (r : Nat) : (inTo no i x r).1.length = x.1.length ∧ (inTo no i x r).2.length = x.2.length := by
  induction r with
  | zero => exact ⟨rfl, rfl⟩
  | succ r ih => have := step2_len no i ((r : Int) - 1) (inTo no i x r); exact ⟨this.1.trans ih.1, this.2.trans ih.2⟩
theorem outTo_len (ss : List Int) (no : List (List Int)) (q : Nat) : (outTo ss no q).1.length = ss.length ∧ (outTo ss no q).2.length = no.length := by
  induction q with
  | zero => exact ⟨tTo_len .., b1To_len ..⟩
  | succ q ih => have := inTo_len no (ss.length - 1 - q) (outTo ss no q) 3; exact ⟨this.1.trans ih.1, this.2.trans ih.2⟩
theorem step2_bd (no : List (List Int)) (i : Nat) (s : Int) (x : List Int × List Int) (hx : x.2.length = no.length) (j : Nat) : cAt x.2 j - 1 ≤ cAt (step2 no i s x).2 j ∧ cAt (step2 no i s x).2 j ≤ cAt x.2 j := by
  unfold step2
  split
  · omega
  · simp only
    rw [addTo_at _ _ _ _ _ (by omega)]
    split <;> omega
theorem inTo_bd (no : List (List Int)) (i : Nat) (x : List Int × List Int) (hx : x.2.length = no.length) (r j : Nat) : cAt x.2 j - r ≤ cAt (inTo no i x r).2 j ∧ cAt (inTo no i x r).2 j ≤ cAt x.2 j := by
  induction r with
  | zero => simp [inTo]
  | succ r ih =>
    have := step2_bd no i ((r : Int) - 1) (inTo no i x r) ((inTo_len ..).2.trans hx) j
    simp only [inTo]
    omega
theorem outTo_bd (ss : List Int) (no : List (List Int)) (q j : Nat) : -(3 * (q : Int)) ≤ cAt (outTo ss no q).2 j ∧ cAt (outTo ss no q).2 j ≤ ss.length := by
  induction q with
  | zero => have := b1To_bd ss no ss.length j; simp only [outTo]; omega
  | succ q ih =>
    have := inTo_bd no (ss.length - 1 - q) (outTo ss no q) (outTo_len ..).2 3 j
    simp only [outTo]
    omega

/-- the four blocks of 'widen' -/
structure WB (w wr : World) (A : Option Addr) (n c : Nat) (t bl : List Int) : Prop where
  no : Blk wr w.heap.size 77 #[.slice A n c]
  t : Blk wr (w.heap.size + 1) 3 (intArr t)
  bl : Blk wr (w.heap.size + 1 + 1) 3 (intArr bl)
  pb : Blk wr (w.heap.size + 1 + 1 + 1) 49 #[.slice (some ⟨w.heap.size + 1 + 1, 0, none⟩) n n]
  below : Below w.heap.size w wr
theorem WB.drawn {w wr wr' : World} {A : Option Addr} {n c : Nat} {t bl : List Int} (h : WB w wr A n c t bl) (hd : Drawn wr wr') : WB w wr' A n c t bl :=
  ⟨h.no.drawn hd, h.t.drawn hd, h.bl.drawn hd, h.pb.drawn hd, h.below.trans (hd.below _)⟩
theorem WB.setT {w wr : World} {A : Option Addr} {n c : Nat} {t bl : List Int} (h : WB w wr A n c t bl) (i : Nat) (x : Int) : WB w (wr.setCell ⟨w.heap.size + 1, i, none⟩ (.int .i64 x)) A n c (t.set i x) bl :=
  ⟨h.no.far (by show _ ≠ w.heap.size + 1; omega) _, by rw [← intArr_set]; exact h.t.set_ i _, h.bl.far (by show _ ≠ w.heap.size + 1; omega) _, h.pb.far (by show _ ≠ w.heap.size + 1; omega) _, h.below.setCell (by show _ ≤ w.heap.size + 1; omega) _⟩
theorem WB.setB {w wr : World} {A : Option Addr} {n c : Nat} {t bl : List Int} (h : WB w wr A n c t bl) (i : Nat) (x : Int) : WB w (wr.setCell ⟨w.heap.size + 1 + 1, i, none⟩ (.int .i64 x)) A n c t (bl.set i x) :=
  ⟨h.no.far (by show _ ≠ w.heap.size + 1 + 1; omega) _, h.t.far (by show _ ≠ w.heap.size + 1 + 1; omega) _, by rw [← intArr_set]; exact h.bl.set_ i _, h.pb.far (by show _ ≠ w.heap.size + 1 + 1; omega) _, h.below.setCell (by show _ ≤ w.heap.size + 1 + 1; omega) _⟩

theorem bit_same (s : Int) (w : World) (h0 : -1 ≤ s) (h1 : s ≤ 1) :
    Calls Tryz.prog 57 #[.int .i64 s] w fun e w' => e = .returned (.int .i64 (bitOf s)) ∧ w' = w := by
  go_enter Tryz.func57, Tryz.ntmps57
  go_wp2
  go_ret
  refine ⟨?_, rfl⟩
  show Ending.returned (.int .i64 (wrap64 (2 ^ (s + 1).toNat))) = _
  rw [bit_eq s h0 h1]

set_option maxHeartbeats 2000000 in
set_option maxRecDepth 100000 in
theorem widen_any (A0 A : Option Addr) (N n c0 c B : Nat) (ss : List Int) (no : List (List Int)) (w : World) (hB : B ≤ w.heap.size) (hs : Reads w B 1 A0 N (ss.map (Value.int .i64))) (hno : ListsAt w B A no) (hn : n = no.length)
    (hn0 : n ≤ 1000) (hN : N ≤ 1000) (hr : ∀ x ∈ ss, -1 ≤ x ∧ x ≤ 1) (hl : ∀ k, k < no.length → (no.getD k []).length = N) :
    Calls Tryz.prog 37 #[.slice A0 N c0, .slice A n c] w fun e w' => e = .returned (.slice (some ⟨w.heap.size + 1, 0, none⟩) N N) ∧ WB w w' A n c (outTo ss no N).1 (outTo ss no N).2 := by
  have HN := Lib.hid hn; clear hn
  have HR := Lib.hid hr; clear hr
  have HL := Lib.hid hl; clear hl
  have HNS := Lib.hid hs.len
  obtain ⟨i0, hi0, hz0, hz1, hz2⟩ := info_parts Tryz.infoInt
  have hmk1 := fun (W : World) => run_make_ints (P := Tryz.prog) 49 3 i0 Tryz.underlying49 hi0 hz0 hz1 hz2 n (by omega) W
  have hmk2 := fun (W : World) => run_make_ints (P := Tryz.prog) 59 3 i0 Tryz.underlying59 hi0 hz0 hz1 hz2 N (by omega) W
  go_enter Tryz.func37, Tryz.ntmps37
  go_wp2
  clear hmk1 hmk2
  go_loopg [7, 8, 9, 10, 24] N (fun gn _ _ _ _ i wr => ∃ (k : Nat), k ≤ N ∧ gn = N - k ∧ i = .int .i64 k ∧ WB w wr A n c (tTo ss k) (b1To ss no k))
  case atStart =>
    refine ⟨0, Nat.zero_le _, rfl, rfl, ?_, ?_, ?_, ?_, ?_⟩
    · exact (((Blk.new w 77 #[.slice A n c]).alloc _).alloc _).alloc _
    · have h := ((Blk.new (w.alloc (.cells #[.slice A n c] 77)) 3 (intArr (List.replicate N 0))).alloc (.cells (intArr (List.replicate n 0)) 3)).alloc (.cells #[.slice (some ⟨w.heap.size + 1 + 1, 0, none⟩) n n] 49)
      have e : tTo ss 0 = List.replicate N 0 := by rw [← HNS.out]; rfl
      rw [e]
      simpa using h
    · have h := (Blk.new ((w.alloc (.cells #[.slice A n c] 77)).alloc (.cells (intArr (List.replicate N 0)) 3)) 3 (intArr (List.replicate n 0))).alloc (.cells #[.slice (some ⟨w.heap.size + 1 + 1, 0, none⟩) n n] 49)
      have e : b1To ss no 0 = List.replicate n 0 := by rw [HN.out]; rfl
      rw [e]
      simpa using h
    · have h := Blk.new (((w.alloc (.cells #[.slice A n c] 77)).alloc (.cells (intArr (List.replicate N 0)) 3)).alloc (.cells (intArr (List.replicate n 0)) 3)) 49 #[.slice (some ⟨w.heap.size + 1 + 1, 0, none⟩) n n]
      simpa using h
    · exact ((((Below.refl _ _).alloc (Nat.le_refl _) _).alloc (by simp) _).alloc (by simp; omega) _).alloc (by simp; omega) _
  case round =>
    obtain ⟨k, hk, hgk, rfl, hwb⟩ := hrel
    have HG := Lib.hid hgk; clear hgk
    obtain ⟨wo, rfl⟩ : ∃ wo : World, wo = wr := ⟨_, rfl⟩
    by_cases hlt : k < N
    · obtain ⟨b1, o1, rfl, q1, c1⟩ := (hs.below (hwb.below.mono hB)).at_c hlt
      obtain ⟨x1, x2⟩ := HR.out (cAt ss k) (getD_mem (by have := HNS.out; omega))
      have HT := Lib.hid (show tTo ss (k + 1) = (tTo ss k).set k (bitOf (cAt ss k)) from rfl)
      have HBn := Lib.hid (show b1To ss no (k + 1) = addTo (differs no k (cAt ss k)) 1 (b1To ss no k) no.length from rfl)
      have htl := tTo_len ss k
      have hbl := b1To_len ss no k
      have HBD := Lib.hid (b1To_bd ss no k)
      have c2 : wo.cell? ⟨w.heap.size, 0, none⟩ = some (.slice A n c) := hwb.no.cell 0
      have c3 : wo.cell? ⟨w.heap.size + 1, k, none⟩ = some (.int .i64 (cAt (tTo ss k) k)) := (hwb.t.cell k).trans (intArr_at _ _ (by have := HNS.out; omega))
      have f3 := hwb.t.frozen k
      generalize tTo ss k = tk at *
      generalize b1To ss no k = bk at *
      generalize cAt ss k = sk at *
      generalize cAt tk k = t0 at *
      have HBL := Lib.hid hbl; clear hbl htl
      have i1 : (k : Int) < N := by omega
      go_wp2_with (go_at_call 57; refine (bit_any _ _ x1 x2).mono ?_; rintro e w1 ⟨rfl, hd1⟩; refine Hid.out ?_)
      refine Lib.hid ?_
      have hwb1 := hwb.drawn hd1
      have c2' := (hd1.cell _).trans c2
      have c3' := (hd1.cell _).trans c3
      have f3' := hwb1.t.frozen k
      have hwb2 := hwb1.setT k (bitOf sk)
      have c4 : (w1.setCell ⟨w.heap.size + 1, k, none⟩ (.int .i64 (bitOf sk))).cell? ⟨w.heap.size, 0, none⟩ = some (.slice A n c) := hwb2.no.cell 0
      have HW2 := Lib.hid hwb2
      clear c1 c2 c3 f3 hwb hd1 hwb1 hwb2
      go_wp2
      go_loopg [9, 10, 36] n (fun gn _ _ i wr => ∃ (q : Nat), q ≤ n ∧ gn = n - q ∧ i = .int .i64 q ∧ WB w wr A n c (tk.set k (bitOf sk)) (addTo (differs no k sk) 1 bk q))
      case atStart => exact ⟨0, Nat.zero_le _, rfl, rfl, HW2.out⟩
      case round =>
        clear HW2 c4 c2' c3' f3'
        obtain ⟨q, hq, hgq, rfl, hwb⟩ := hrel
        have HGQ := Lib.hid hgq; clear hgq
        by_cases hlt2 : q < n
        · obtain ⟨b2, o2, A2, c2', rfl, q2, c2, hs2⟩ := (hno.below (hwb.below.mono hB)).at_ (k := q) (by have := HN.out; omega)
          have hl2 := HL.out q (by have := HN.out; omega)
          have HD := Lib.hid (show differs no k sk q = (cAt (no.getD q []) k != sk) from rfl)
          have HS := Lib.hid (show addTo (differs no k sk) 1 bk (q + 1) = if differs no k sk q then (addTo (differs no k sk) 1 bk q).set q (cAt (addTo (differs no k sk) 1 bk q) q + 1) else addTo (differs no k sk) 1 bk q from rfl)
          have hal := addTo_len (differs no k sk) 1 bk q
          have haa := addTo_at (differs no k sk) 1 bk q q (by have := HBL.out; have := HN.out; omega)
          rw [if_neg (by omega)] at haa
          have hbd := HBD.out q
          generalize addTo (differs no k sk) 1 bk q = bq at *
          have hqb : q < bq.length := by have := HBL.out; have := HN.out; omega
          have x3 : 0 ≤ cAt bq q := by omega
          have x4 : cAt bq q ≤ 1000 := by omega
          clear haa hbd hal
          generalize no.getD q [] = y at *
          have hky : k < y.length := by omega
          have hy0 : y.length ≤ 1000 := by omega
          clear hl2
          obtain ⟨b3, o3, rfl, q3, c3⟩ := hs2.at_c hky
          have c5 : wr.cell? ⟨w.heap.size + 1 + 1, q, none⟩ = some (.int .i64 (cAt bq q)) := (hwb.bl.cell q).trans (intArr_at _ _ hqb)
          have c6 : wr.cell? ⟨w.heap.size + 1 + 1 + 1, 0, none⟩ = some (.slice (some ⟨w.heap.size + 1 + 1, 0, none⟩) n n) := hwb.pb.cell 0
          have f5 := hwb.bl.frozen q
          generalize cAt y k = yk at *
          generalize cAt bq q = bx at *
          have i2 : (q : Int) < n := by omega
          have i3 : (k : Int) < y.length := by omega
          cases hb : (yk != sk)
          · have HB := Lib.hid hb
            go_wp2
            go_roundg (n - (q + 1))
            case rel => exact ⟨q + 1, by omega, rfl, by go_num, by rw [HS.out, HD.out, HB.out]; exact hwb⟩
            case measure => have := HGQ.out; omega
          · have HB := Lib.hid hb
            go_wp2
            go_roundg (n - (q + 1))
            case rel => exact ⟨q + 1, by omega, rfl, by go_num, by rw [HS.out, HD.out, HB.out, if_pos rfl]; exact hwb.setB q _⟩
            case measure => have := HGQ.out; omega
        · obtain rfl : q = n := by omega
          go_wp2
          go_roundg (N - (k + 1))
          case rel => exact ⟨k + 1, by omega, rfl, by go_num, by rw [HT.out, HBn.out, ← HN.out]; exact hwb⟩
          case measure => have := HG.out; omega
    · obtain rfl : k = N := by omega
      have HO0 := Lib.hid (show outTo ss no 0 = (tTo ss k, b1To ss no k) by rw [← HNS.out]; rfl)
      go_wp2
      go_loopg [12, 13, 14, 15] k (fun gn i _ _ _ wr => ∃ (q : Nat) (x : Int), q ≤ k ∧ gn = k - q ∧ i = .int .i64 x ∧ x = (k : Int) - 1 - (q : Int) ∧ WB w wr A n c (outTo ss no q).1 (outTo ss no q).2)
      case atStart => exact ⟨0, _, Nat.zero_le _, rfl, rfl, by simp, by rw [HO0.out]; exact hwb⟩
      case round =>
        clear hwb
        obtain ⟨q, x, hq, hgq, rfl, hx, hwb⟩ := hrel
        have HGQ := Lib.hid hgq; clear hgq
        obtain ⟨wo, rfl⟩ : ∃ wo : World, wo = wr := ⟨_, rfl⟩
        by_cases hlt : q < k
        · obtain ⟨ii, rfl⟩ : ∃ ii : Nat, x = (ii : Int) := ⟨k - 1 - q, by omega⟩
          have hii : ii < k := by omega
          have HII := Lib.hid (show ii = ss.length - 1 - q by have := HNS.out; omega)
          have HX := Lib.hid hx; clear hx
          have HOS := Lib.hid (show outTo ss no (q + 1) = inTo no ii (outTo ss no q) 3 by rw [HII.out]; rfl)
          have HOL := Lib.hid (outTo_len ss no q)
          have HOB := Lib.hid (outTo_bd ss no q)
          generalize outTo ss no q = x0 at *
          go_wp2
          go_loopg [13, 14, 15] 3 (fun gn i _ _ wr => ∃ (r : Nat) (y : Int), r ≤ 3 ∧ gn = 3 - r ∧ i = .int .i64 y ∧ y = (r : Int) - 1 ∧ WB w wr A n c (inTo no ii x0 r).1 (inTo no ii x0 r).2)
          case atStart => exact ⟨0, _, Nat.zero_le _, rfl, rfl, by simp, hwb⟩
          case round =>
            clear hwb
            obtain ⟨r, y, hr3, hgr, rfl, hy, hwb⟩ := hrel
            have HGR := Lib.hid hgr; clear hgr
            obtain ⟨wo2, rfl⟩ : ∃ wo2 : World, wo2 = wr := ⟨_, rfl⟩
            have y1 : -1 ≤ y := by omega
            have y2 : y ≤ 2 := by omega
            by_cases hlt2 : r < 3
            · have y3 : y ≤ 1 := by omega
              have HIS := Lib.hid (show inTo no ii x0 (r + 1) = step2 no ii y (inTo no ii x0 r) by rw [hy]; rfl)
              have HY := Lib.hid hy; clear hy
              have hil := inTo_len no ii x0 r
              have HIB := Lib.hid (inTo_bd no ii x0 HOL.out.2 r)
              generalize inTo no ii x0 r = xr at *
              obtain ⟨t, bl⟩ := xr
              simp only at hil hwb HIB
              have htl : t.length = k := by have := HOL.out.1; have := HNS.out; omega
              have hbl : bl.length = n := by have := HOL.out.2; have := HN.out; omega
              have HTL := Lib.hid htl; have HBL := Lib.hid hbl; clear hil
              have HST := Lib.hid (show step2 no ii y (t, bl) = if meet (cAt t ii) y || !freeB no bl ii y then (t, bl) else (t.set ii (bits .or .i64 (cAt t ii) (bitOf y)), addTo (agrees no ii y) (-1) bl no.length) from rfl)
              have HM := Lib.hid (show meet (cAt t ii) y = !(bits .and .i64 (cAt t ii) (bitOf y) == 0) from rfl)
              have c1 : wo2.cell? ⟨w.heap.size + 1, ii, none⟩ = some (.int .i64 (cAt t ii)) := (hwb.t.cell ii).trans (intArr_at _ _ (by omega))
              have hfr := fun nq => free_any A n c n B w.heap.size (w.heap.size + 1 + 1 + 1) (w.heap.size + 1 + 1) k ii y no bl (wo2.drewN nq) ((hno.below (hwb.below.mono hB)).drawn (.drewN _ _)) HN.out (hwb.no.cell 0) (hwb.pb.cell 0) (fun j hj => (hwb.bl.cell j).trans (intArr_at _ _ (by omega))) HL.out hii hN hn0
              have HFR := Lib.hid hfr; clear hfr htl hbl
              generalize cAt t ii = ti at *
              have i1 : (ii : Int) < k := by omega
              by_cases hmt : (bits .and .i64 ti (bitOf y) != 0) = true
              · have HE := Lib.hid (show step2 no ii y (t, bl) = (t, bl) by rw [HST.out, HM.out]; simp only [bne] at hmt; rw [hmt]; rfl)
                go_wp2
                go_quiet ((go_at_call 57; exact Drawn.quiet (bit_any _ _ y1 y3)))
                go_wp2
                go_roundg (3 - (r + 1))
                case rel => exact ⟨r + 1, y + 1, by omega, rfl, rfl, by have := HY.out; omega, by rw [HIS.out, HE.out]; exact hwb.drawn (.drewN _ _)⟩
                case measure => have := HGR.out; omega
              · have hmt' : (bits .and .i64 ti (bitOf y) != 0) = false := by simpa using hmt
                clear hmt
                have HM0 := Lib.hid (show meet ti y = false by rw [HM.out]; simp only [bne] at hmt'; rw [hmt'])
                cases hf : freeB no bl ii y
                · have HE := Lib.hid (show step2 no ii y (t, bl) = (t, bl) by rw [HST.out, hf]; simp)
                  rw [hf] at HFR
                  go_wp2
                  go_quiet ((first | (go_at_call 57; exact Drawn.quiet (bit_any _ _ y1 y3)) | (go_at_call 58; exact Drawn.quiet ((HFR.out _).mono fun _ _ ⟨he, hw⟩ => ⟨he, hw ▸ Drawn.refl _⟩))))
                  go_wp2
                  go_roundg (3 - (r + 1))
                  case rel => exact ⟨r + 1, y + 1, by omega, rfl, rfl, by have := HY.out; omega, by rw [HIS.out, HE.out]; exact hwb.drawn (.drewN _ _)⟩
                  case measure => have := HGR.out; omega
                · have HE := Lib.hid (show step2 no ii y (t, bl) = (t.set ii (bits .or .i64 ti (bitOf y)), addTo (agrees no ii y) (-1) bl no.length) by rw [HST.out, hf, HM0.out]; rfl)
                  rw [hf] at HFR
                  go_wp2
                  go_quiet ((first | (go_at_call 57; exact Drawn.quiet (bit_any _ _ y1 y3)) | (go_at_call 58; exact Drawn.quiet ((HFR.out _).mono fun _ _ ⟨he, hw⟩ => ⟨he, hw ▸ Drawn.refl _⟩))))
                  have hwb1 := hwb.drawn (.drewN _ nq)
                  have c1' : (wo2.drewN nq).cell? ⟨w.heap.size + 1, ii, none⟩ = some (.int .i64 ti) := c1
                  have f1' := hwb1.t.frozen ii
                  clear c1 hwb HFR
                  generalize wo2.drewN nq = w3 at *
                  go_wp2
                  refine wp_region_still_tail 8 (by kernel_rfl) (by kernel_rfl) ?_
                  simp only [List.take_succ_cons, List.take_zero, List.drop_succ_cons, List.drop_zero]
                  repeat still_step
                  still_call (bit_same _ _ y1 y3)
                  repeat still_step
                  refine wpStill_nil ?_
                  have hwb2 := hwb1.drawn (.drew _)
                  have c1'' : w3.drew.cell? ⟨w.heap.size + 1, ii, none⟩ = some (.int .i64 ti) := c1'
                  have f1'' : w3.drew.frozen? ⟨w.heap.size + 1, ii, none⟩ = false := f1'
                  clear c1' f1' hwb1
                  change wpList _ _ _ _ _ w3.drew
                  generalize w3.drew = w4 at *
                  have hwb3 := hwb2.setT ii (bits .or .i64 ti (bitOf y))
                  have c2 : (w4.setCell ⟨w.heap.size + 1, ii, none⟩ (.int .i64 (bits .or .i64 ti (bitOf y)))).cell? ⟨w.heap.size, 0, none⟩ = some (.slice A n c) := hwb3.no.cell 0
                  have HW2 := Lib.hid hwb3; clear hwb2 hwb3
                  go_wp2
                  go_loopg [14, 15, 92] n (fun gn _ _ i wr => ∃ (z : Nat), z ≤ n ∧ gn = n - z ∧ i = .int .i64 z ∧ WB w wr A n c (t.set ii (bits .or .i64 ti (bitOf y))) (addTo (agrees no ii y) (-1) bl z))
                  case atStart => exact ⟨0, Nat.zero_le _, rfl, rfl, HW2.out⟩
                  case round =>
                    clear HW2 c2 c1'' f1''
                    obtain ⟨z, hz, hgz, rfl, hwb⟩ := hrel
                    have HGZ := Lib.hid hgz; clear hgz
                    by_cases hlt3 : z < n
                    · obtain ⟨b2, o2, A2, c2', rfl, q2, c2, hs2⟩ := (hno.below (hwb.below.mono hB)).at_ (k := z) (by have := HN.out; omega)
                      have hl2 := HL.out z (by have := HN.out; omega)
                      have HD := Lib.hid (show agrees no ii y z = (cAt (no.getD z []) ii == y) from rfl)
                      have HS := Lib.hid (show addTo (agrees no ii y) (-1) bl (z + 1) = if agrees no ii y z then (addTo (agrees no ii y) (-1) bl z).set z (cAt (addTo (agrees no ii y) (-1) bl z) z + (-1)) else addTo (agrees no ii y) (-1) bl z from rfl)
                      have hal := addTo_len (agrees no ii y) (-1) bl z
                      have haa := addTo_at (agrees no ii y) (-1) bl z z (by have := HBL.out; omega)
                      rw [if_neg (by omega)] at haa
                      have hbd := HIB.out z
                      have hbd2 := HOB.out z
                      have hns := HNS.out
                      generalize addTo (agrees no ii y) (-1) bl z = bq at *
                      have hqb : z < bq.length := by have := HBL.out; omega
                      have x3 : -10000 ≤ cAt bq z := by omega
                      have x4 : cAt bq z ≤ 1000 := by omega
                      clear haa hbd hal hbd2 hns
                      generalize no.getD z [] = yy at *
                      have hky : ii < yy.length := by omega
                      have hy0 : yy.length ≤ 1000 := by omega
                      clear hl2
                      obtain ⟨b3, o3, rfl, q3, c3⟩ := hs2.at_c hky
                      have c5 : wr.cell? ⟨w.heap.size + 1 + 1, z, none⟩ = some (.int .i64 (cAt bq z)) := (hwb.bl.cell z).trans (intArr_at _ _ hqb)
                      have c6 : wr.cell? ⟨w.heap.size + 1 + 1 + 1, 0, none⟩ = some (.slice (some ⟨w.heap.size + 1 + 1, 0, none⟩) n n) := hwb.pb.cell 0
                      have f5 := hwb.bl.frozen z
                      generalize cAt yy ii = yk at *
                      generalize cAt bq z = bx at *
                      have i2 : (z : Int) < n := by omega
                      have i3 : (ii : Int) < yy.length := by omega
                      cases hb : (yk == y)
                      · have HB := Lib.hid hb
                        go_wp2
                        go_roundg (n - (z + 1))
                        case rel => exact ⟨z + 1, by omega, rfl, by go_num, by rw [HS.out, HD.out, HB.out]; exact hwb⟩
                        case measure => have := HGZ.out; omega
                      · have HB := Lib.hid hb
                        go_wp2
                        go_roundg (n - (z + 1))
                        case rel => exact ⟨z + 1, by omega, rfl, by go_num, by rw [HS.out, HD.out, HB.out, if_pos rfl]; exact hwb.setB z _⟩
                        case measure => have := HGZ.out; omega
                    · obtain rfl : z = n := by omega
                      go_wp2
                      go_roundg (3 - (r + 1))
                      case rel => exact ⟨r + 1, y + 1, by omega, rfl, rfl, by have := HY.out; omega, by rw [HIS.out, HE.out, ← HN.out]; exact hwb⟩
                      case measure => have := HGR.out; omega
            · obtain rfl : r = 3 := by omega
              go_wp2
              go_roundg (k - (q + 1))
              case rel => exact ⟨q + 1, (ii : Int) - 1, by omega, rfl, rfl, by have := HX.out; omega, by rw [HOS.out]; exact hwb⟩
              case measure => have := HGQ.out; omega
        · obtain rfl : q = k := by omega
          have hx0 : x < 0 := by omega
          clear hx
          go_wp2
          go_ret
          exact ⟨rfl, hwb⟩
end Go.Proofs.YtkkliemgidhgmaaGreatDoor

/- Contract of solution.split, for at most 1000 rows of at most 6 signs. -/
namespace Go.Proofs.YtkkliemgidhgmaaGreatDoor
open Go.RowKit

theorem Tryz.infoInts : (Tryz.prog.info? 49).map (fun i => (i.zero, i.size, i.bytes)) = some (some (.slice none 0 0), 1, 24) := by kernel_rfl

/-! ### what 'split' reckons -/
def seenF (rows : List (List Int × Bool)) : Nat → List UInt8 → Option Bool
  | 0 => fun _ => none
  | k + 1 => if (seenF rows k (keyOf (sg rows k))).getD false then seenF rows k else fun s => if s = keyOf (sg rows k) then some true else seenF rows k s
def pickTo (b : Bool) (rows : List (List Int × Bool)) : Nat → List (List Int)
  | 0 => []
  | k + 1 => if (seenF rows k (keyOf (sg rows k))).getD false then pickTo b rows k else if tr rows k == b then pickTo b rows k ++ [sg rows k] else pickTo b rows k
theorem pickTo_len (b : Bool) (rows : List (List Int × Bool)) (k : Nat) : (pickTo b rows k).length ≤ k := by
  induction k with
  | zero => simp [pickTo]
  | succ k ih =>
    unfold pickTo
    split
    · omega
    · split
      · simp; omega
      · omega

theorem own_map_ne {P : Program} {ks eb : TypeId} {w : World} {b n : Nat} {f : List UInt8 → Option Bool} (h : BMap P ks eb w b n f) {base : Nat} {e : TypeId} {size m : Nat} {v : Value} {xs : List Value} (ho : w.ownsRow base e size v m xs) : some b ≠ v.ownBlock := by
  obtain ⟨D, ⟨es, clock, hb, _⟩, _⟩ := h
  rcases ho.2 with ⟨rfl, _⟩ | ⟨g', cap, cur, rfl, _, hh, _⟩
  · simp [Value.ownBlock]
  · intro he
    have : g' = b := by simpa [Value.ownBlock] using he.symm
    subst this
    rw [hh] at hb
    cases hb

/-- two rows of the call's own that do not share a block -/
def Apart (v u : Value) : Prop := ∀ g, v.ownBlock = some g → u.ownBlock ≠ some g
theorem Apart.kept {v u : Value} {w w' : World} {base : Nat} {e : TypeId} {size m : Nat} {xs : List Value} (h : Apart v u) (ho : w.ownsRow base e size u m xs) (hg : w.grownBy w' v.ownBlock) : w'.ownsRow base e size u m xs :=
  ho.kept hg (by
    cases hu : u.ownBlock with
    | none => exact .inl rfl
    | some g => exact .inr (fun e => h g e.symm hu))
theorem Apart.next {v v' u : Value} {w : World} {base : Nat} {e : TypeId} {size m : Nat} {xs : List Value} (h : Apart v u) (ho : w.ownsRow base e size u m xs) (hv : v'.ownBlock = v.ownBlock ∨ v'.ownBlock = some w.heap.size) : Apart v' u := by
  intro g hg
  rcases hv with hv | hv
  · exact h g (hv ▸ hg)
  · intro hu
    have := (ho.lt g hu).2
    rw [hv] at hg
    injection hg with hg
    omega
theorem Apart.nil : Apart (.slice none 0 0) (.slice none 0 0) := fun g hg => by simp [Value.ownBlock] at hg
theorem Apart.symm {v u : Value} (h : Apart v u) : Apart u v := fun g hg hv => h g hv hg

set_option maxHeartbeats 2000000 in
set_option maxRecDepth 100000 in
theorem split_any (A : Option Addr) (n c B : Nat) (rows : List (List Int × Bool)) (w : World) (hB : B ≤ w.heap.size) (hr : RowsAt w B A rows) (hn : n = rows.length) (hm : n ≤ 1000) (hq : ∀ k, k < rows.length → (sg rows k).length ≤ 6)
    (h64 : ∀ k, k < rows.length → ∀ x ∈ sg rows k, In64 x) (htab : TabOk w) :
    Calls Tryz.prog 36 #[.slice A n c] w fun e w' => ∃ A1 c1 A2 c2, e = .returned (.tuple #[.slice A1 (pickTo true rows n).length c1, .slice A2 (pickTo false rows n).length c2]) ∧
      ListsAt w' w'.heap.size A1 (pickTo true rows n) ∧ ListsAt w' w'.heap.size A2 (pickTo false rows n) ∧ Below w.heap.size w w' := by
  have HN := Lib.hid hn; clear hn
  have HQ := Lib.hid hq; clear hq
  have H64 := Lib.hid h64; clear h64
  have HT := Lib.hid htab; clear htab
  obtain ⟨i9, hi9, hy0, hy1, hy2⟩ := info_parts Tryz.infoInts
  have hmm := fun (n : Int) => run_makeMap_hint (P := Tryz.prog) 66 9 4 .i64 n Tryz.underlying66
  go_enter Tryz.func36, Tryz.ntmps36
  go_wp2
  clear hmm
  go_loopg [2, 3, 6, 7, 13] n (fun gn vy vn _ _ i wr => ∃ (k : Nat) (xs ys : List Value), k ≤ n ∧ gn = n - k ∧ i = .int .i64 k ∧ BMap Tryz.prog 9 4 wr w.heap.size k (seenF rows k) ∧
    wr.ownsRow w.heap.size 49 1 vy (pickTo true rows k).length xs ∧ Slices wr B xs (pickTo true rows k) ∧ wr.ownsRow w.heap.size 49 1 vn (pickTo false rows k).length ys ∧ Slices wr B ys (pickTo false rows k) ∧ Apart vy vn ∧ Below w.heap.size w wr)
  case atStart => exact ⟨0, [], [], Nat.zero_le _, rfl, rfl, BMap_made _ _ _ w, World.ownsRow_nil _ _ _ _, Slices.nil _ _, World.ownsRow_nil _ _ _ _, Slices.nil _ _, Apart.nil, (Below.refl _ _).alloc (Nat.le_refl _) _⟩
  case round =>
    obtain ⟨k, xs, ys, hk, hgk, rfl, hbm, hoy, hsy, hon, hsn, hap, hd⟩ := hrel
    have HG := Lib.hid hgk; clear hgk
    have hz := hd.size
    have hneq := hbm.lt
    by_cases hlt : k < n
    · obtain ⟨b1, o1, Ak, ck, rfl, q1, c1, c2, hs⟩ := (hr.below (hd.mono hB)).at_ (k := k) (by have := HN.out; omega)
      have h6 := HQ.out k (by have := HN.out; omega)
      have H64k := Lib.hid (H64.out k (by have := HN.out; omega))
      have hkl := keyOf_len (sg rows k) H64k.out
      have HF := Lib.hid (show seenF rows (k + 1) = if (seenF rows k (keyOf (sg rows k))).getD false then seenF rows k else fun s => if s = keyOf (sg rows k) then some true else seenF rows k s from rfl)
      have HY := Lib.hid (show pickTo true rows (k + 1) = if (seenF rows k (keyOf (sg rows k))).getD false then pickTo true rows k else if tr rows k == true then pickTo true rows k ++ [sg rows k] else pickTo true rows k from rfl)
      have HNo := Lib.hid (show pickTo false rows (k + 1) = if (seenF rows k (keyOf (sg rows k))).getD false then pickTo false rows k else if tr rows k == false then pickTo false rows k ++ [sg rows k] else pickTo false rows k from rfl)
      have hly := pickTo_len true rows k
      have hln := pickTo_len false rows k
      generalize seenF rows k = fk at *
      generalize pickTo true rows k = yk at *
      generalize pickTo false rows k = nk at *
      generalize sg rows k = l at *
      generalize tr rows k = tk at *
      have hdA := hd.alloc hz (.cells #[.slice Ak l.length ck, .bool tk] 51)
      have hbmA := hbm.alloc (.cells #[.slice Ak l.length ck, .bool tk] 51)
      have hoyA := hoy.alloc (.cells #[.slice Ak l.length ck, .bool tk] 51)
      have honA := hon.alloc (.cells #[.slice Ak l.length ck, .bool tk] 51)
      have hkA : ∀ p : Addr, p.block < B → (wr.alloc (.cells #[.slice Ak l.length ck, .bool tk] 51)).cell? p = wr.cell? p := fun p hp => World.cell?_alloc_lt _ _ _ (by omega)
      have hsA := hs.keep hkA
      have hsyA := hsy.keep hkA
      have hsnA := hsn.keep hkA
      have hBA : B ≤ (wr.alloc (.cells #[.slice Ak l.length ck, .bool tk] 51)).heap.size := by simp; omega
      have HKA := Lib.hid hkA; clear hkA
      go_wp2_with (go_at_call 27; refine (key_any _ _ _ B l _ hBA hsA h6 H64k.out (HT.out.on hdA)).mono ?_; rintro e w2 ⟨rfl, hb2⟩; refine Hid.out ?_)
      refine Lib.hid ?_
      have hbm2 := hbmA.old hb2
      have hd2 : Below w.heap.size w w2 := hdA.trans (hb2.mono (by simp; omega))
      have c5 : w2.cell? ⟨wr.heap.size, 1, none⟩ = some (.bool tk) := (hb2.cell (p := ⟨wr.heap.size, 1, none⟩) (by simp)).trans (by simp [go_sem, World.cell?_alloc_new])
      have c6 : w2.cell? ⟨wr.heap.size, 0, none⟩ = some (.slice Ak l.length ck) := (hb2.cell (p := ⟨wr.heap.size, 0, none⟩) (by simp)).trans (by simp [go_sem, World.cell?_alloc_new])
      have hks : (keyOf l).length ≤ maxLen := by unfold maxLen; omega
      have hz2 := hd2.size
      have hzr : wr.heap.size < w2.heap.size := by have := hb2.size; simp at this; omega
      have hkn : k < maxLen := by unfold maxLen; omega
      have hgn : (wr.alloc (.cells #[.slice Ak l.length ck, .bool tk] 51)).grownBy w2 none := ⟨hb2.os, hb2.tape, hb2.output, hb2.size, fun q hq _ => hb2.block q hq⟩
      have hoy2 : w2.ownsRow w.heap.size 49 1 u2 yk.length xs := hoyA.kept hgn (by cases h : u2.ownBlock <;> simp)
      have hon2 : w2.ownsRow w.heap.size 49 1 u3 nk.length ys := honA.kept hgn (by cases h : u3.ownBlock <;> simp)
      have hsy2 := hsyA.below (hb2.mono hBA)
      have hsn2 := hsnA.below (hb2.mono hBA)
      have hs2 := hsA.below (hb2.mono hBA)
      clear hbmA hsA hdA hb2 hbm hd c1 c2 hBA hs hoyA honA hoy hon hsy hsn hsyA hsnA hgn HKA
      generalize keyOf l = s at *
      cases hfs : (fk s).getD false
      · have HFS := Lib.hid hfs; clear hfs
        go_wp2_with (first | (at_lookup; refine wpList_blookup _ rfl _ _ 66 rfl Tryz.underlying66 Tryz.underlying9 Tryz.underlying4 (Tryz.zeroBool _) w.heap.size k fk rfl hbm2 s hks rfl _ HFS.out ?_) | (at_mapUpdate; refine wpList_bupdate _ rfl _ _ _ 66 rfl Tryz.underlying66 Tryz.underlying9 Tryz.underlying4 w.heap.size k fk rfl hbm2 hkn s hks true rfl rfl ?_; intro w3 hbm3 hg3; refine Hid.out ?_))
        refine Lib.hid ?_
        have e1 : Hid (seenF rows (k + 1) = fun s' => if s' = s then some true else fk s') := by rw [HF.out, HFS.out]; exact if_neg (by simp)
        have hd3 : Below w.heap.size w w3 := hd2.grown hg3 hz2 (fun q hq => by injection hq with hq; omega)
        have hkb : ∀ p : Addr, p.block < B → w3.cell? p = w2.cell? p := fun p hp => (hd3.cell (by omega)).trans (hd2.cell (by omega)).symm
        have hoy3 := hoy2.kept hg3 (.inr (fun e => own_map_ne hbm2 hoy2 e.symm))
        have hon3 := hon2.kept hg3 (.inr (fun e => own_map_ne hbm2 hon2 e.symm))
        have hsy3 := hsy2.keep hkb
        have hsn3 := hsn2.keep hkb
        have hs3 := hs2.keep hkb
        have c5' : w3.cell? ⟨wr.heap.size, 1, none⟩ = some (.bool tk) := hg3.cell c5 (by simp; omega)
        have c6' : w3.cell? ⟨wr.heap.size, 0, none⟩ = some (.slice Ak l.length ck) := hg3.cell c6 (by simp; omega)
        have hz3 := hd3.size
        clear hbm2 hg3 hoy2 hon2 hsy2 hsn2 hs2 c5 c6 hkb hd2
        have hoyA := hoy3.alloc (.cells #[.slice Ak l.length ck] 49)
        have honA := hon3.alloc (.cells #[.slice Ak l.length ck] 49)
        have hbmA := hbm3.alloc (.cells #[.slice Ak l.length ck] 49)
        have h63 : yk.length + 1 ≤ maxLen := by unfold maxLen; omega
        have hby : (yk.length + 1) * 24 ≤ 140737488355328 := by omega
        have h63n : nk.length + 1 ≤ maxLen := by unfold maxLen; omega
        have hbyn : (nk.length + 1) * 24 ≤ 140737488355328 := by omega
        have hbase : w.heap.size ≤ (w3.alloc (.cells #[.slice Ak l.length ck] 49)).heap.size := by simp; omega
        have hdA := hd3.alloc hz3 (.cells #[.slice Ak l.length ck] 49)
        cases tk
        · go_wp2_with (at_builtin; refine wpList_append_any _ rfl (.tmp 32) (.tmp 35) _ rfl w.heap.size 49 i9 _ 1 24 Tryz.underlying77 hi9 hy0 hy1 hy2 rfl (Nat.le_refl _) u3 _ _ rfl honA _ _ 1 1 _ rfl (Reads.one_new w3 (.slice Ak l.length ck) 49) (by intro u hu; simp at hu; subst hu; rfl) h63n hbyn hbase ?_; intro v4 w4 hown4 hg4 hat4)
          go_roundg (n - (k + 1))
          case rel =>
            have e2 : pickTo true rows (k + 1) = yk := by rw [HY.out, HFS.out]; rfl
            have e3 : pickTo false rows (k + 1) = nk ++ [l] := by rw [HNo.out, HFS.out]; rfl
            have hd4 : Below w.heap.size w w4 := hdA.grown hg4 (by simp; omega) (fun q hq => (honA.lt q hq).1)
            have hkb : ∀ p : Addr, p.block < B → w4.cell? p = w3.cell? p := fun p hp => (hd4.cell (by omega)).trans (hd3.cell (by omega)).symm
            refine ⟨k + 1, xs, ys ++ [.slice Ak l.length ck], by omega, rfl, by go_num, ?_, ?_, ?_, ?_, ?_, ?_, hd4⟩
            · rw [e1.out]; exact hbmA.kept hg4 (own_map_ne hbmA honA)
            · rw [e2]; exact hap.symm.kept hoyA hg4
            · rw [e2]; exact hsy3.keep hkb
            · rw [e3]; simpa using hown4
            · rw [e3]; exact (hsn3.keep hkb).snoc (hs3.keep hkb)
            · exact (hap.symm.next hoyA hat4).symm
          case measure => have := HG.out; omega
        · go_wp2_with (at_builtin; refine wpList_append_any _ rfl (.tmp 27) (.tmp 30) _ rfl w.heap.size 49 i9 _ 1 24 Tryz.underlying77 hi9 hy0 hy1 hy2 rfl (Nat.le_refl _) u2 _ _ rfl hoyA _ _ 1 1 _ rfl (Reads.one_new w3 (.slice Ak l.length ck) 49) (by intro u hu; simp at hu; subst hu; rfl) h63 hby hbase ?_; intro v4 w4 hown4 hg4 hat4)
          go_roundg (n - (k + 1))
          case rel =>
            have e2 : pickTo true rows (k + 1) = yk ++ [l] := by rw [HY.out, HFS.out]; rfl
            have e3 : pickTo false rows (k + 1) = nk := by rw [HNo.out, HFS.out]; rfl
            have hd4 : Below w.heap.size w w4 := hdA.grown hg4 (by simp; omega) (fun q hq => (hoyA.lt q hq).1)
            have hkb : ∀ p : Addr, p.block < B → w4.cell? p = w3.cell? p := fun p hp => (hd4.cell (by omega)).trans (hd3.cell (by omega)).symm
            refine ⟨k + 1, xs ++ [.slice Ak l.length ck], ys, by omega, rfl, by go_num, ?_, ?_, ?_, ?_, ?_, ?_, hd4⟩
            · rw [e1.out]; exact hbmA.kept hg4 (own_map_ne hbmA hoyA)
            · rw [e2]; simpa using hown4
            · rw [e2]; exact (hsy3.keep hkb).snoc (hs3.keep hkb)
            · rw [e3]; exact hap.kept honA hg4
            · rw [e3]; exact hsn3.keep hkb
            · exact hap.next honA hat4
          case measure => have := HG.out; omega
      · have HFS := Lib.hid hfs; clear hfs
        go_wp2_with (first | (at_lookup; refine wpList_blookup _ rfl _ _ 66 rfl Tryz.underlying66 Tryz.underlying9 Tryz.underlying4 (Tryz.zeroBool _) w.heap.size k fk rfl hbm2 s hks rfl _ HFS.out ?_))
        go_roundg (n - (k + 1))
        case rel =>
          have e1 : seenF rows (k + 1) = fk := by rw [HF.out, HFS.out]; rfl
          have e3 : pickTo true rows (k + 1) = yk := by rw [HY.out, HFS.out]; rfl
          have e4 : pickTo false rows (k + 1) = nk := by rw [HNo.out, HFS.out]; rfl
          refine ⟨k + 1, xs, ys, by omega, rfl, by go_num, ?_, ?_, ?_, ?_, ?_, hap, hd2⟩
          · rw [e1]; exact hbm2.mono (by omega)
          · rw [e3]; exact hoy2
          · rw [e3]; exact hsy2
          · rw [e4]; exact hon2
          · rw [e4]; exact hsn2
        case measure => have := HG.out; omega
    · obtain rfl : k = n := by omega
      obtain ⟨A1, cap1, hv1⟩ := own_slice hoy
      obtain ⟨A2, cap2, hv2⟩ := own_slice hon
      subst hv1
      subst hv2
      go_wp2
      go_ret2
      exact ⟨A1, cap1, A2, cap2, rfl, ListsAt.of_own hoy hsy (by omega), ListsAt.of_own hon hsn (by omega), hd⟩
end Go.Proofs.YtkkliemgidhgmaaGreatDoor

/- Contract of solution.Cover, for n at most 6 and at most 90 rows of at most 6 signs. -/
namespace Go.Proofs.YtkkliemgidhgmaaGreatDoor
open Go.RowKit

/-! ### what 'Cover' reckons -/
def bAt (l : List Bool) (i : Nat) : Bool := l.getD i false
def widenT (ss : List Int) (no : List (List Int)) : List Int := (outTo ss no ss.length).1
def covTo (t : List Int) (yes : List (List Int)) (i : Nat) (cov : List Bool) : Nat → List Bool
  | 0 => cov
  | q + 1 => (covTo t yes i cov q).set (i + q) (bAt (covTo t yes i cov q) (i + q) || permY t yes (i + q))
def cvTo (yes no : List (List Int)) : Nat → List (List Int) × List Bool
  | 0 => ([], List.replicate yes.length false)
  | i + 1 => if bAt (cvTo yes no i).2 i then cvTo yes no i else ((cvTo yes no i).1 ++ [widenT (yes.getD i []) no], covTo (widenT (yes.getD i []) no) yes i (cvTo yes no i).2 (yes.length - i))
def termsL (rows : List (List Int × Bool)) : List (List Int) := (cvTo (pickTo true rows rows.length) (pickTo false rows rows.length) (pickTo true rows rows.length).length).1
def coverL (rows : List (List Int × Bool)) : List (List Int) := (stTo (termsL rows) (pickTo true rows rows.length) (termsL rows).length).1

theorem covTo_len (t : List Int) (yes : List (List Int)) (i : Nat) (cov : List Bool) (q : Nat) : (covTo t yes i cov q).length = cov.length := by
  induction q with
  | zero => rfl
  | succ q ih => simp [covTo, ih]
theorem cvTo_len (yes no : List (List Int)) (i : Nat) : (cvTo yes no i).2.length = yes.length ∧ (cvTo yes no i).1.length ≤ i := by
  induction i with
  | zero => simp [cvTo]
  | succ i ih =>
    unfold cvTo
    split
    · exact ⟨ih.1, by omega⟩
    · simp [covTo_len, ih.1]; exact ih.2
theorem widenT_len (ss : List Int) (no : List (List Int)) : (widenT ss no).length = ss.length := (outTo_len ss no ss.length).1
def boolArr (l : List Bool) : Array Value := (l.map Value.bool).toArray
theorem boolArr_at (l : List Bool) (i : Nat) (h : i < l.length) : (boolArr l)[i]? = some (.bool (bAt l i)) := by
  simp [boolArr, bAt, List.getElem?_eq_getElem h]
theorem boolArr_set (l : List Bool) (i : Nat) (x : Bool) : (boolArr l).setIfInBounds i (.bool x) = boolArr (l.set i x) := by
  simp [boolArr, List.map_set]
theorem Tryz.infoBool : (Tryz.prog.info? 4).map (fun i => (i.zero, i.size, i.bytes)) = some (some (.bool false), 1, 1) := by kernel_rfl
theorem run_make_bools {P : Program} (t e : TypeId) (i : TypeInfo) (ht : P.underlying t = some (.slice e)) (hi : P.info? e = some i) (hz : i.zero = some (.bool false)) (hs : i.size = 1) (hb : i.bytes = 1) (n : Nat) (hn : n ≤ 100000) (w : World) :
    (Instr.makeSlice t (.int .i64 (n : Int)) (.int .i64 (n : Int))).run P w = .ok (.slice (some ⟨w.heap.size, 0, none⟩) n n) (w.alloc (.cells (boolArr (List.replicate n false)) e)) := by
  have hr := run_make (P := P) w t e i (.bool false) ht hi hz .i64 .i64 n n (by omega) (by omega) (by rw [hb]; omega) (by omega)
  simp only [Int.toNat_natCast, hs, Nat.mul_one, Value.cells] at hr
  rw [hr]
  have e : madeCells #[Value.bool false] n = boolArr (List.replicate n false) := by
    apply Array.ext'
    rw [toList_madeCells_one]
    simp [boolArr]
  rw [e]

/-- terms in blocks of their own -/
def TermsIn (w : World) (xs : List Value) (ts : List (List Int)) : Prop :=
  xs.length = ts.length ∧ ∀ k, k < ts.length → ∃ g, xs[k]? = some (.slice (some ⟨g, 0, none⟩) (ts.getD k []).length (ts.getD k []).length) ∧ Blk w g 3 (intArr (ts.getD k []))
theorem TermsIn.keep {w w' : World} {xs : List Value} {ts : List (List Int)} (h : TermsIn w xs ts) (hk : ∀ g cs, Blk w g 3 cs → Blk w' g 3 cs) : TermsIn w' xs ts :=
  ⟨h.1, fun k hkk => by obtain ⟨g, h1, h2⟩ := h.2 k hkk; exact ⟨g, h1, hk _ _ h2⟩⟩
theorem TermsIn.nil (w : World) : TermsIn w [] [] := ⟨rfl, fun k hk => absurd hk (by simp)⟩
theorem TermsIn.snoc {w : World} {xs : List Value} {ts : List (List Int)} (h : TermsIn w xs ts) {g : Nat} {t : List Int} (hb : Blk w g 3 (intArr t)) : TermsIn w (xs ++ [.slice (some ⟨g, 0, none⟩) t.length t.length]) (ts ++ [t]) := by
  refine ⟨by simp [h.1], fun k hk => ?_⟩
  by_cases hlt : k < ts.length
  · obtain ⟨g', h1, h2⟩ := h.2 k hlt
    have e : (ts ++ [t]).getD k [] = ts.getD k [] := by simp [List.getElem?_append_left hlt]
    rw [e]
    exact ⟨g', by rw [List.getElem?_append_left (by rw [h.1]; exact hlt)]; exact h1, h2⟩
  · have hke : k = ts.length := by simp at hk; omega
    subst hke
    have e : (ts ++ [t]).getD ts.length [] = t := by simp
    rw [e]
    exact ⟨g, by rw [← h.1]; simp, hb⟩
theorem reads_blk {w : World} {g : Nat} {t : List Int} (hb : Blk w g 3 (intArr t)) : Reads w w.heap.size 1 (some ⟨g, 0, none⟩) t.length (t.map (Value.int .i64)) := by
  refine ⟨by simp, fun _ => ⟨g, 0, rfl, hb.lt, fun j u hu => ?_⟩⟩
  rw [Nat.zero_add, hb.cell]
  simpa [intArr] using hu
theorem TermsIn.slices {w : World} {xs : List Value} {ts : List (List Int)} (h : TermsIn w xs ts) : Slices w w.heap.size xs ts :=
  ⟨h.1, fun k hk => by obtain ⟨g, h1, h2⟩ := h.2 k hk; exact ⟨_, _, h1, reads_blk h2⟩⟩
theorem Blk.ne_ {w : World} {g g' : Nat} {t t' : TypeId} {cs cs' : Array Value} (h : Blk w g t cs) (h' : Blk w g' t' cs') (hne : t ≠ t') : g ≠ g' := by
  rintro rfl
  unfold Blk at h h'
  rw [h] at h'
  injection h' with h'
  injection h' with _ ht
  exact hne ht

/-- how 'Cover' ends -/
def CoverPost (x : Int) (rows : List (List Int × Bool)) (w : World) (e : Ending) (w' : World) : Prop :=
  ((x < 0 ∨ validB x rows = false) ∧ e = .returned (.tuple #[.slice none 0 0, .int .i64 1]) ∨ (0 ≤ x ∧ validB x rows = true ∧ codeSep rows = false) ∧ e = .returned (.tuple #[.slice none 0 0, .int .i64 5]) ∨
    (0 ≤ x ∧ validB x rows = true ∧ codeSep rows = true) ∧ ∃ A1 c1, e = .returned (.tuple #[.slice A1 (coverL rows).length c1, .int .i64 0]) ∧ ListsAt w' w'.heap.size A1 (coverL rows)) ∧ Below w.heap.size w w'

set_option maxHeartbeats 2000000 in
set_option maxRecDepth 100000 in
theorem Cover_any (x : Int) (hx6 : x ≤ 6) (A : Option Addr) (n c B : Nat) (rows : List (List Int × Bool)) (w : World) (hB : B ≤ w.heap.size) (hr : RowsAt w B A rows) (hn : n = rows.length) (hm : n ≤ 90) (hq : ∀ k, k < rows.length → (sg rows k).length ≤ 6)
    (h64 : ∀ k, k < rows.length → ∀ x ∈ sg rows k, In64 x) (htab : TabOk w)
    (hsy : ∀ N : Nat, validB N rows = true → Signs N (pickTo true rows rows.length)) (hsn : ∀ N : Nat, validB N rows = true → ∀ k, k < (pickTo false rows rows.length).length → ((pickTo false rows rows.length).getD k []).length = N) :
    Calls Tryz.prog 19 #[.int .i64 x, .slice A n c] w (CoverPost x rows w) := by
  have HN := Lib.hid hn; clear hn
  have HQ := Lib.hid hq; clear hq
  have H64 := Lib.hid h64; clear h64
  have HT := Lib.hid htab; clear htab
  have HSY := Lib.hid hsy; clear hsy
  have HSN := Lib.hid hsn; clear hsn
  by_cases hx : x < 0
  · go_enter Tryz.func19, Tryz.ntmps19
    go_wp2_with fail
    go_ret2
    exact ⟨.inl ⟨.inl hx, rfl⟩, .refl _ _⟩
  cases hv : validB x rows
  · have HV := Lib.hid hv; clear hv
    go_enter Tryz.func19, Tryz.ntmps19
    have hval := valid_any x A n c B rows w hB hr HN.out hm HQ.out
    rw [HV.out] at hval
    have HVAL := Lib.hid hval; clear hval
    go_wp2_with (go_at_call 35; refine (HVAL.out).mono ?_; rintro e w1 ⟨rfl, hb1⟩)
    go_ret2
    exact ⟨.inl ⟨.inr HV.out, rfl⟩, hb1⟩
  have HV := Lib.hid hv; clear hv
  have hval := valid_any x A n c B rows w hB hr HN.out hm HQ.out
  rw [HV.out] at hval
  have HVAL := Lib.hid hval; clear hval
  obtain ⟨N, rfl⟩ : ∃ N : Nat, x = (N : Int) := ⟨x.toNat, by omega⟩
  cases hcs : codeSep rows
  · have HC := Lib.hid hcs; clear hcs
    go_enter Tryz.func19, Tryz.ntmps19
    go_wp2_with (go_at_call 35; refine (HVAL.out).mono ?_; rintro e w1 ⟨rfl, hb1⟩; refine Hid.out ?_)
    refine Lib.hid ?_
    have hz1 := hb1.size
    have hsep := Sep_any A n c B rows w1 (by omega) (hr.below (hb1.mono hB)) HN.out (by omega) HQ.out H64.out (HT.out.on hb1)
    rw [HC.out] at hsep
    have HSEP := Lib.hid hsep; clear hsep
    go_wp2_with (go_at_call 16; refine (HSEP.out).mono ?_; rintro e w2 ⟨rfl, hb2⟩)
    go_ret2
    exact ⟨.inr (.inl ⟨⟨by omega, HV.out, HC.out⟩, rfl⟩), hb1.trans (hb2.mono hz1)⟩
  have HC := Lib.hid hcs; clear hcs
  have HSYN := Lib.hid (HSY.out N HV.out)
  have HSNN := Lib.hid (HSN.out N HV.out)
  have hN6 : N ≤ 6 := by omega
  obtain ⟨i9, hi9, hy0, hy1, hy2⟩ := info_parts Tryz.infoSolT
  obtain ⟨i8, hi8, hx0, hx1, hx2⟩ := info_parts Tryz.infoBool
  go_enter Tryz.func19, Tryz.ntmps19
  go_wp2_with (go_at_call 35; refine (HVAL.out).mono ?_; rintro e w1 ⟨rfl, hb1⟩; refine Hid.out ?_)
  refine Lib.hid ?_
  have hz1 := hb1.size
  have hsep := Sep_any A n c B rows w1 (by omega) (hr.below (hb1.mono hB)) HN.out (by omega) HQ.out H64.out (HT.out.on hb1)
  rw [HC.out] at hsep
  have HSEP := Lib.hid hsep; clear hsep
  go_wp2_with (go_at_call 16; refine (HSEP.out).mono ?_; rintro e w2 ⟨rfl, hb2⟩; refine Hid.out ?_)
  refine Lib.hid ?_
  have hd2 := hb1.trans (hb2.mono hz1)
  have hz2 := hd2.size
  have hspl := split_any A n c B rows w2 (by omega) (hr.below (hd2.mono hB)) HN.out (by omega) HQ.out H64.out (HT.out.on hd2)
  have hpl := pickTo_len true rows n
  have hpl2 := pickTo_len false rows n
  have HTL := Lib.hid (show termsL rows = (cvTo (pickTo true rows n) (pickTo false rows n) (pickTo true rows n).length).1 by rw [HN.out]; rfl)
  have HCL := Lib.hid (show coverL rows = (stTo (termsL rows) (pickTo true rows n) (termsL rows).length).1 by rw [HN.out]; rfl)
  rw [← HN.out] at HSYN HSNN
  generalize pickTo true rows n = yes at *
  generalize pickTo false rows n = no at *
  have HSPL := Lib.hid hspl; clear hspl
  go_wp2_with (go_at_call 36; refine (HSPL.out).mono ?_; rintro e w3 ⟨A1, c1, A2, c2, rfl, hly, hln, hb3⟩; refine Hid.out ?_)
  refine Lib.hid ?_
  have hd3 := hd2.trans (hb3.mono hz2)
  have hz3 := hd3.size
  clear hb1 hb2 hb3 hd2 HSEP HSPL HVAL hz1 hz2
  have hmk := fun (W : World) => run_make_bools (P := Tryz.prog) 80 4 i8 Tryz.underlying80 hi8 hx0 hx1 hx2 yes.length (by omega) W
  go_wp2_with fail
  clear hmk
  go_loopg [8, 10, 11, 12, 13, 35] yes.length (fun gn v _ _ _ _ i wr => ∃ (k : Nat) (xs : List Value), k ≤ yes.length ∧ gn = yes.length - k ∧ i = .int .i64 k ∧ Blk wr w3.heap.size 4 (boolArr (cvTo yes no k).2) ∧
    wr.ownsRow w3.heap.size 59 1 v (cvTo yes no k).1.length xs ∧ TermsIn wr xs (cvTo yes no k).1 ∧ (∀ q, q < (cvTo yes no k).1.length → ((cvTo yes no k).1.getD q []).length = N) ∧ Below w3.heap.size w3 wr)
  case atStart => exact ⟨0, [], Nat.zero_le _, rfl, rfl, Blk.new _ _ _, World.ownsRow_nil _ _ _ _, TermsIn.nil _, fun q hq => absurd hq (by simp [cvTo]), (Below.refl _ _).alloc (Nat.le_refl _) _⟩
  case round =>
    obtain ⟨k, xs, hk, hgk, rfl, hbc, hown, hti, htl, hd⟩ := hrel
    have HG := Lib.hid hgk; clear hgk
    have HTLn := Lib.hid htl; clear htl
    obtain ⟨wo, rfl⟩ : ∃ wo : World, wo = wr := ⟨_, rfl⟩
    have hz := hd.size
    have hcl := cvTo_len yes no k
    have HCV := Lib.hid (show cvTo yes no (k + 1) = if bAt (cvTo yes no k).2 k then cvTo yes no k else ((cvTo yes no k).1 ++ [widenT (yes.getD k []) no], covTo (widenT (yes.getD k []) no) yes k (cvTo yes no k).2 (yes.length - k)) from rfl)
    have hlyb := hly.below hd
    have hlnb := hln.below hd
    by_cases hlt : k < yes.length
    · obtain ⟨p1, o1, Ak, ck, rfl, q1, d1, hsk⟩ := hlyb.at_ (k := k) hlt
      obtain ⟨hyl, hyr⟩ := HSYN.out k hlt
      have HYR := Lib.hid hyr; clear hyr
      have hwl := widenT_len (yes.getD k []) no
      have HWT := Lib.hid (show widenT (yes.getD k []) no = (outTo (yes.getD k []) no (yes.getD k []).length).1 from rfl)
      generalize widenT (yes.getD k []) no = t at *
      generalize yes.getD k [] = y at *
      generalize hcv : cvTo yes no k = cv at *
      obtain ⟨ts, cov⟩ := cv
      have HCVK := Lib.hid hcv; clear hcv
      simp only at hbc hown hti HTLn hcl HCV
      have hy6 : y.length ≤ 6 := by omega
      have HYL := Lib.hid hyl; clear hyl
      have HWL := Lib.hid hwl; clear hwl
      have i1 : (k : Int) < yes.length := by omega
      have d2 : wo.cell? ⟨w3.heap.size, k, none⟩ = some (.bool (bAt cov k)) := (hbc.cell k).trans (boolArr_at _ _ (by omega))
      have HCL0 := Lib.hid hcl
      have hts0 : ts.length ≤ k := hcl.2
      clear hcl
      cases hcb : bAt cov k
      · have HCB := Lib.hid hcb; rw [hcb] at d2; clear hcb
        have hwd := widen_any Ak A2 y.length no.length ck c2 w3.heap.size y no wo hz hsk hlnb rfl (by omega) (by omega) HYR.out (fun q hq => by rw [HYL.out]; exact HSNN.out q hq)
        rw [← HWT.out] at hwd
        have HWD := Lib.hid hwd; clear hwd
        go_wp2_with (go_at_call 37; refine (HWD.out).mono ?_; rintro e w4 ⟨rfl, hwb⟩; refine Hid.out ?_)
        refine Lib.hid ?_
        have hb4 := hwb.below
        have ht4 := hwb.t
        have hbc4 := hbc.old hb4
        have hown4 : w4.ownsRow w3.heap.size 59 1 u8 ts.length xs := hown.kept (row := none) ⟨hb4.os, hb4.tape, hb4.output, hb4.size, fun q hq _ => hb4.block q hq⟩ (by cases h : u8.ownBlock <;> simp)
        have hti4 := hti.keep (fun g cs h => h.old hb4)
        have hd4 := hd.trans (hb4.mono hz)
        have hz4 := hd4.size
        clear HWD hwb hbc hown hti hd d1 d2 hlyb hlnb hsk
        have hownA := hown4.alloc (.cells #[.slice (some ⟨wo.heap.size + 1, 0, none⟩) y.length y.length] 59)
        have h63 : ts.length + 1 ≤ maxLen := by unfold maxLen; omega
        have hby : (ts.length + 1) * 24 ≤ 140737488355328 := by omega
        have hbase : w3.heap.size ≤ (w4.alloc (.cells #[.slice (some ⟨wo.heap.size + 1, 0, none⟩) y.length y.length] 59)).heap.size := by simp; omega
        go_wp2_with (at_builtin; refine wpList_append_any _ rfl (.tmp 47) (.tmp 49) _ rfl w3.heap.size 59 i9 _ 1 24 Tryz.underlying42 hi9 hy0 hy1 hy2 rfl (Nat.le_refl _) u8 _ _ rfl hownA _ _ 1 1 _ rfl (Reads.one_new w4 (.slice (some ⟨wo.heap.size + 1, 0, none⟩) y.length y.length) 59) (by intro u hu; simp at hu; subst hu; rfl) h63 hby hbase ?_; intro v5 w5 hown5 hg5 hat5; refine Hid.out ?_)
        refine Lib.hid ?_
        have hbcA := hbc4.alloc (.cells #[.slice (some ⟨wo.heap.size + 1, 0, none⟩) y.length y.length] 59)
        have hbc5 := hbcA.grown hg5 (own_blk_ne hownA hbcA (by decide))
        have hkt : ∀ g cs, Blk w4 g 3 cs → Blk w5 g 3 cs := fun g cs h => (h.alloc _).grown hg5 (own_blk_ne hownA (h.alloc _) (by decide))
        have hti5 := (hti4.keep hkt).snoc (hkt _ _ ht4)
        rw [HWL.out] at hti5
        have ht5 := hkt _ _ ht4
        have hd5 : Below w3.heap.size w3 w5 := (hd4.alloc hz4 _).grown hg5 (by simp; omega) (fun q hq => (hownA.lt q hq).1)
        clear hownA hbcA hg5 hat5 hown4 hti4 hbc4 hd4 hb4 ht4 hkt h63 hby hbase
        have HTI := Lib.hid hti5; clear hti5
        have hz5 := hd5.size
        go_wp2
        go_loopg [13] (yes.length - k) (fun gn j wr => ∃ (q : Nat), q ≤ yes.length - k ∧ gn = yes.length - k - q ∧ j = .int .i64 ((k + q : Nat) : Int) ∧ Blk wr w3.heap.size 4 (boolArr (covTo t yes k cov q)) ∧
          wr.ownsRow w3.heap.size 59 1 v5 (ts.length + 1) (xs ++ [.slice (some ⟨wo.heap.size + 1, 0, none⟩) y.length y.length]) ∧ TermsIn wr (xs ++ [.slice (some ⟨wo.heap.size + 1, 0, none⟩) y.length y.length]) (ts ++ [t]) ∧ Blk wr (wo.heap.size + 1) 3 (intArr t) ∧ Below w3.heap.size w3 wr)
        case atStart => exact ⟨0, Nat.zero_le _, rfl, rfl, hbc5, hown5, HTI.out, ht5, hd5⟩
        case round =>
          clear hbc5 hown5 HTI ht5 hd5
          obtain ⟨q, hq, hgq, rfl, hbc, hown, hti, htb, hd⟩ := hrel
          have HGQ := Lib.hid hgq; clear hgq
          have hz6 := hd.size
          by_cases hlt2 : q < yes.length - k
          · obtain ⟨p2, o2, Aq, cq, e2, q2, d3, hsq⟩ := (hly.below hd).at_ (k := k + q) (by omega)
            obtain ⟨rfl, rfl⟩ : p1 = p2 ∧ o1 = o2 := by simpa using e2
            clear e2
            obtain ⟨hyl2, hyr2⟩ := HSYN.out (k + q) (by omega)
            have HYR2 := Lib.hid hyr2; clear hyr2
            have HS := Lib.hid (show covTo t yes k cov (q + 1) = (covTo t yes k cov q).set (k + q) (bAt (covTo t yes k cov q) (k + q) || permY t yes (k + q)) from rfl)
            have HPY := Lib.hid (show permY t yes (k + q) = permTo t (yes.getD (k + q) []) (yes.getD (k + q) []).length from rfl)
            have hcvl := covTo_len t yes k cov q
            have hcl1 := HCL0.out.1
            generalize covTo t yes k cov q = cq' at *
            generalize yes.getD (k + q) [] = yq at *
            have d4 : wr.cell? ⟨w3.heap.size, k + q, none⟩ = some (.bool (bAt cq' (k + q))) := (hbc.cell (k + q)).trans (boolArr_at _ _ (by omega))
            have f4 := hbc.frozen (k + q)
            have hrt := reads_blk htb
            rw [HWL.out] at hrt
            have hle : yq.length ≤ y.length := by have := HYL.out; omega
            have hle2 : y.length ≤ 1000 := by omega
            have z3 : w3.heap.size ≤ wr.heap.size := hz6
            have hsq' := hsq.more z3
            have i2 : ((k + q : Nat) : Int) < yes.length := by omega
            clear hcvl hcl1 hyl2
            generalize hkq : k + q = kq at *
            have HKQ := Lib.hid hkq; clear hkq
            cases hcb2 : bAt cq' kq
            · have HB2 := Lib.hid hcb2; rw [hcb2] at d4
              go_wp2_with (go_at_call 38; refine (permits_any _ _ _ _ _ _ _ t yq _ hrt hsq' hle hle2 HYR2.out).mono ?_; rintro e w7 ⟨rfl, hd7⟩; refine Hid.out ?_)
              refine Lib.hid ?_
              have d4' := (hd7.cell ⟨w3.heap.size, kq, none⟩).trans d4
              have hbc7 := hbc.drawn hd7
              have f4' := hbc7.frozen kq
              have hown7 : w7.ownsRow w3.heap.size 59 1 v5 (ts.length + 1) (xs ++ [.slice (some ⟨wo.heap.size + 1, 0, none⟩) y.length y.length]) := by obtain ⟨r, rfl⟩ := hd7; exact hown
              have hti7 := hti.keep (fun g cs h => h.drawn hd7)
              have htb7 := htb.drawn hd7
              have hd7' := hd.trans (hd7.below _)
              clear d4 f4 hbc hown htb hd hd7 hrt hsq hsq' d3
              have HTI7 := Lib.hid hti7; clear hti7 hti
              go_wp2
              go_roundg (yes.length - k - (q + 1))
              case rel =>
                refine ⟨q + 1, by omega, rfl, by rw [← HKQ.out]; go_num, ?_, ?_, ?_, htb7.far (fun e => htb7.ne_ hbc7 (by decide) e) _, hd7'.setCell (Nat.le_refl _) _⟩
                · rw [HS.out, HB2.out, HPY.out, ← boolArr_set]
                  exact hbc7.set_ kq _
                · exact hown7.kept (row := some w3.heap.size) ⟨rfl, rfl, rfl, by simp [World.setCell], fun r _ hr => Below.heap_setCell _ _ _ _ (fun e => hr (by rw [e]))⟩ (.inr (fun e => own_blk_ne hown7 hbc7 (by decide) e.symm))
                · exact HTI7.out.keep (fun g cs h => h.far (fun e => h.ne_ hbc7 (by decide) e) _)
              case measure => have := HGQ.out; omega
            · have HB2 := Lib.hid hcb2; rw [hcb2] at d4
              clear hsq hsq' d3 hrt
              have HTI7 := Lib.hid hti; clear hti
              go_wp2_with fail
              go_roundg (yes.length - k - (q + 1))
              case rel =>
                refine ⟨q + 1, by omega, rfl, by rw [← HKQ.out]; go_num, ?_, ?_, ?_, htb.far (fun e => htb.ne_ hbc (by decide) e) _, hd.setCell (Nat.le_refl _) _⟩
                · rw [HS.out, HB2.out, ← boolArr_set]
                  exact hbc.set_ kq _
                · exact hown.kept (row := some w3.heap.size) ⟨rfl, rfl, rfl, by simp [World.setCell], fun r _ hr => Below.heap_setCell _ _ _ _ (fun e => hr (by rw [e]))⟩ (.inr (fun e => own_blk_ne hown hbc (by decide) e.symm))
                · exact HTI7.out.keep (fun g cs h => h.far (fun e => h.ne_ hbc (by decide) e) _)
              case measure => have := HGQ.out; omega
          · obtain rfl : q = yes.length - k := by omega
            have e0 : ((k + (yes.length - k) : Nat) : Int) = (yes.length : Int) := by omega
            rw [e0]
            clear e0
            go_wp2
            go_roundg (yes.length - (k + 1))
            case rel =>
              have e : cvTo yes no (k + 1) = (ts ++ [t], covTo t yes k cov (yes.length - k)) := by rw [HCV.out, HCB.out]; rfl
              refine ⟨k + 1, xs ++ [.slice (some ⟨wo.heap.size + 1, 0, none⟩) y.length y.length], by omega, rfl, by go_num, ?_, ?_, ?_, ?_, hd⟩
              · rw [e]; exact hbc
              · rw [e]; simpa using hown
              · rw [e]; exact hti
              · rw [e]
                intro r hr
                by_cases hr2 : r < ts.length
                · have e3 : (ts ++ [t]).getD r [] = ts.getD r [] := by simp [List.getElem?_append_left hr2]
                  rw [e3]; exact HTLn.out r hr2
                · have e4 : r = ts.length := by simp at hr; omega
                  subst e4
                  have e5 : (ts ++ [t]).getD ts.length [] = t := by simp
                  rw [e5]; have := HYL.out; have := HWL.out; omega
            case measure => have := HG.out; omega
      · have HCB := Lib.hid hcb; rw [hcb] at d2; clear hcb
        have HTI := Lib.hid hti; clear hti
        go_wp2_with fail
        go_roundg (yes.length - (k + 1))
        case rel =>
          have e : cvTo yes no (k + 1) = (ts, cov) := by rw [HCV.out, HCB.out]; rfl
          exact ⟨k + 1, xs, by omega, rfl, by go_num, by rw [e]; exact hbc, by rw [e]; exact hown, by rw [e]; exact HTI.out, by rw [e]; exact HTLn.out, hd⟩
        case measure => have := HG.out; omega
    · obtain rfl : k = yes.length := by omega
      obtain ⟨At, ct, hv⟩ := own_slice hown
      subst hv
      have hla := ListsAt.of_own hown hti.slices (Nat.le_refl _)
      have hcl1 := hcl.2
      rw [← HTL.out] at hla hcl1 HTLn hown
      have hne := needed_any At A1 (termsL rows).length yes.length N ct c1 wo.heap.size (termsL rows) yes wo (Nat.le_refl _) hla (hlyb.more hz) rfl rfl (by omega) (by omega) (by omega) HSYN.out HTLn.out
      rw [← HCL.out] at hne
      have HNE := Lib.hid hne; clear hne
      rw [← HTL.out]
      clear hcl hcl1 hla hti hbc hown hlyb hlnb
      go_wp2_with (go_at_call 39; refine (HNE.out).mono ?_; rintro e w9 ⟨A9, c9, rfl, hl9, hb9⟩; refine Hid.out ?_)
      refine Lib.hid ?_
      go_wp2_with fail
      go_ret2
      refine ⟨.inr (.inr ⟨⟨by omega, HV.out, HC.out⟩, A9, c9, rfl, hl9⟩), hd3.trans ((hd.trans (hb9.mono hz)).mono hz3)⟩
end Go.Proofs.YtkkliemgidhgmaaGreatDoor
