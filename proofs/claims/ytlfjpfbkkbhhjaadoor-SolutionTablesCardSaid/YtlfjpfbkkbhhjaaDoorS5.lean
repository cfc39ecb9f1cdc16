/- Contract of solution.widen, for at most 1000 rows, the widened one of valid signs. -/
import Derived.Test.YtlfjpfbkkbhhjaaDoorS4
import Derived.StillTailTactics
namespace Go.Proofs.YtlfjpfbkkbhhjaaDoor
open Go.RowKit

/-! ### what 'widen' reckons -/
def addTo (p : Nat → Bool) (d : Int) (cnt : List Int) : Nat → List Int
  | 0 => cnt
  | i + 1 => if p i then (addTo p d cnt i).set i (cAt (addTo p d cnt i) i + d) else addTo p d cnt i
theorem addTo_len (p : Nat → Bool) (d : Int) (cnt : List Int) (i : Nat) : (addTo p d cnt i).length = cnt.length := by
  induction i with
  | zero => rfl
  | succ i ih => unfold addTo; split <;> simp [ih]
theorem addTo_at (p : Nat → Bool) (d : Int) (cnt : List Int) (i j : Nat) (hi : i ≤ cnt.length) : cAt (addTo p d cnt i) j = cAt cnt j + if j < i ∧ p j = true then d else 0 := by
  induction i with
  | zero => simp [addTo]
  | succ i ih =>
    have ih := ih (by omega)
    unfold addTo
    by_cases hp : p i = true
    · rw [if_pos hp, cAt_set _ _ _ _ (by rw [addTo_len]; omega)]
      by_cases hij : i = j
      · subst hij
        rw [if_pos rfl, ih, if_neg (by omega), if_pos ⟨by omega, hp⟩]; omega
      · rw [if_neg hij, ih]
        congr 1
        by_cases h2 : j < i ∧ p j = true
        · rw [if_pos h2, if_pos ⟨by omega, h2.2⟩]
        · rw [if_neg h2, if_neg (fun h3 => h2 ⟨by omega, h3.2⟩)]
    · rw [if_neg hp, ih]
      congr 1
      by_cases h2 : j < i ∧ p j = true
      · rw [if_pos h2, if_pos ⟨by omega, h2.2⟩]
      · rw [if_neg h2, if_neg]
        rintro ⟨h3, h4⟩
        by_cases hij : j = i
        · subst hij; exact hp h4
        · exact h2 ⟨by omega, h4⟩

def tTo (ss : List Int) : Nat → List Int
  | 0 => List.replicate ss.length 0
  | i + 1 => (tTo ss i).set i (bitOf (cAt ss i))
def differs (no : List (List Int)) (i : Nat) (s : Int) (k : Nat) : Bool := cAt (no.getD k []) i != s
def agrees (no : List (List Int)) (i : Nat) (s : Int) (k : Nat) : Bool := cAt (no.getD k []) i == s
def b1To (ss : List Int) (no : List (List Int)) : Nat → List Int
  | 0 => List.replicate no.length 0
  | i + 1 => addTo (differs no i (cAt ss i)) 1 (b1To ss no i) no.length
/-- one sign of one set -/
def step2 (no : List (List Int)) (i : Nat) (s : Int) (x : List Int × List Int) : List Int × List Int :=
  if meet (cAt x.1 i) s || !freeB no x.2 i s then x else (x.1.set i (bits .or .i64 (cAt x.1 i) (bitOf s)), addTo (agrees no i s) (-1) x.2 no.length)
def inTo (no : List (List Int)) (i : Nat) (x : List Int × List Int) : Nat → List Int × List Int
  | 0 => x
  | r + 1 => step2 no i ((r : Int) - 1) (inTo no i x r)
def outTo (ss : List Int) (no : List (List Int)) : Nat → List Int × List Int
  | 0 => (tTo ss ss.length, b1To ss no ss.length)
  | q + 1 => inTo no (ss.length - 1 - q) (outTo ss no q) 3

theorem tTo_len (ss : List Int) (i : Nat) : (tTo ss i).length = ss.length := by
  induction i with
  | zero => simp [tTo]
  | succ i ih => simp [tTo, ih]
theorem b1To_len (ss : List Int) (no : List (List Int)) (i : Nat) : (b1To ss no i).length = no.length := by
  induction i with
  | zero => simp [b1To]
  | succ i ih => simp [b1To, addTo_len, ih]
theorem cAt_replicate (n j : Nat) : cAt (List.replicate n 0) j = 0 := by
  unfold cAt
  rw [List.getD_eq_getElem?_getD, List.getElem?_replicate]
  split <;> rfl
theorem b1To_bd (ss : List Int) (no : List (List Int)) (i j : Nat) : 0 ≤ cAt (b1To ss no i) j ∧ cAt (b1To ss no i) j ≤ i := by
  induction i with
  | zero => simp [b1To, cAt_replicate]
  | succ i ih =>
    simp only [b1To]
    rw [addTo_at _ _ _ _ _ (by rw [b1To_len]; omega)]
    split <;> omega
theorem step2_len (no : List (List Int)) (i : Nat) (s : Int) (x : List Int × List Int) : (step2 no i s x).1.length = x.1.length ∧ (step2 no i s x).2.length = x.2.length := by
  unfold step2
  split <;> simp [addTo_len]
theorem inTo_len (no : List (List Int)) (i : Nat) (x : List Int × List Int) (r : Nat) : (inTo no i x r).1.length = x.1.length ∧ (inTo no i x r).2.length = x.2.length := by
  induction r with
  | zero => exact ⟨rfl, rfl⟩
  | succ r ih => have := step2_len no i ((r : Int) - 1) (inTo no i x r); exact ⟨this.1.trans ih.1, this.2.trans ih.2⟩
theorem outTo_len (ss : List Int) (no : List (List Int)) (q : Nat) : (outTo ss no q).1.length = ss.length ∧ (outTo ss no q).2.length = no.length := by
  induction q with
  | zero => exact ⟨tTo_len .., b1To_len ..⟩
  | succ q ih => have := inTo_len no (ss.length - 1 - q) (outTo ss no q) 3; exact ⟨this.1.trans ih.1, this.2.trans ih.2⟩
theorem step2_bd (no : List (List Int)) (i : Nat) (s : Int) (x : List Int × List Int) (hx : x.2.length = no.length) (j : Nat) : cAt x.2 j - 1 ≤ cAt (step2 no i s x).2 j ∧ cAt (step2 no i s x).2 j ≤ cAt x.2 j := by
  unfold step2
  split
  · omega
  · simp only
    rw [addTo_at _ _ _ _ _ (by omega)]
    split <;> omega
theorem inTo_bd (no : List (List Int)) (i : Nat) (x : List Int × List Int) (hx : x.2.length = no.length) (r j : Nat) : cAt x.2 j - r ≤ cAt (inTo no i x r).2 j ∧ cAt (inTo no i x r).2 j ≤ cAt x.2 j := by
  induction r with
  | zero => simp [inTo]
  | succ r ih =>
    have := step2_bd no i ((r : Int) - 1) (inTo no i x r) ((inTo_len ..).2.trans hx) j
    simp only [inTo]
    omega
theorem outTo_bd (ss : List Int) (no : List (List Int)) (q j : Nat) : -(3 * (q : Int)) ≤ cAt (outTo ss no q).2 j ∧ cAt (outTo ss no q).2 j ≤ ss.length := by
  induction q with
  | zero => have := b1To_bd ss no ss.length j; simp only [outTo]; omega
  | succ q ih =>
    have := inTo_bd no (ss.length - 1 - q) (outTo ss no q) (outTo_len ..).2 3 j
    simp only [outTo]
    omega

/-- the four blocks of 'widen' -/
structure WB (w wr : World) (A : Option Addr) (n c : Nat) (t bl : List Int) : Prop where
  no : Blk wr w.heap.size 40 #[.slice A n c]
  t : Blk wr (w.heap.size + 1) 3 (intArr t)
  bl : Blk wr (w.heap.size + 1 + 1) 3 (intArr bl)
  pb : Blk wr (w.heap.size + 1 + 1 + 1) 34 #[.slice (some ⟨w.heap.size + 1 + 1, 0, none⟩) n n]
  below : Below w.heap.size w wr
theorem WB.drawn {w wr wr' : World} {A : Option Addr} {n c : Nat} {t bl : List Int} (h : WB w wr A n c t bl) (hd : Drawn wr wr') : WB w wr' A n c t bl :=
  ⟨h.no.drawn hd, h.t.drawn hd, h.bl.drawn hd, h.pb.drawn hd, h.below.trans (hd.below _)⟩
theorem WB.setT {w wr : World} {A : Option Addr} {n c : Nat} {t bl : List Int} (h : WB w wr A n c t bl) (i : Nat) (x : Int) : WB w (wr.setCell ⟨w.heap.size + 1, i, none⟩ (.int .i64 x)) A n c (t.set i x) bl :=
  ⟨h.no.far (by show _ ≠ w.heap.size + 1; omega) _, by rw [← intArr_set]; exact h.t.set_ i _, h.bl.far (by show _ ≠ w.heap.size + 1; omega) _, h.pb.far (by show _ ≠ w.heap.size + 1; omega) _, h.below.setCell (by show _ ≤ w.heap.size + 1; omega) _⟩
theorem WB.setB {w wr : World} {A : Option Addr} {n c : Nat} {t bl : List Int} (h : WB w wr A n c t bl) (i : Nat) (x : Int) : WB w (wr.setCell ⟨w.heap.size + 1 + 1, i, none⟩ (.int .i64 x)) A n c t (bl.set i x) :=
  ⟨h.no.far (by show _ ≠ w.heap.size + 1 + 1; omega) _, h.t.far (by show _ ≠ w.heap.size + 1 + 1; omega) _, by rw [← intArr_set]; exact h.bl.set_ i _, h.pb.far (by show _ ≠ w.heap.size + 1 + 1; omega) _, h.below.setCell (by show _ ≤ w.heap.size + 1 + 1; omega) _⟩

theorem bit_same (s : Int) (w : World) (h0 : -1 ≤ s) (h1 : s ≤ 1) :
    Calls Tryd.prog 27 #[.int .i64 s] w fun e w' => e = .returned (.int .i64 (bitOf s)) ∧ w' = w := by
  go_enter Tryd.func27, Tryd.ntmps27
  go_wp2
  go_ret
  refine ⟨?_, rfl⟩
  show Ending.returned (.int .i64 (wrap64 (2 ^ (s + 1).toNat))) = _
  rw [bit_eq s h0 h1]

set_option maxHeartbeats 2000000 in
set_option maxRecDepth 100000 in
theorem widen_any (A0 A : Option Addr) (N n c0 c B : Nat) (ss : List Int) (no : List (List Int)) (w : World) (hB : B ≤ w.heap.size) (hs : Reads w B 1 A0 N (ss.map (Value.int .i64))) (hno : ListsAt w B A no) (hn : n = no.length)
    (hn0 : n ≤ 1000) (hN : N ≤ 1000) (hr : ∀ x ∈ ss, -1 ≤ x ∧ x ≤ 1) (hl : ∀ k, k < no.length → (no.getD k []).length = N) :
    Calls Tryd.prog 20 #[.slice A0 N c0, .slice A n c] w fun e w' => e = .returned (.slice (some ⟨w.heap.size + 1, 0, none⟩) N N) ∧ WB w w' A n c (outTo ss no N).1 (outTo ss no N).2 := by
  have HN := Lib.hid hn; clear hn
  have HR := Lib.hid hr; clear hr
  have HL := Lib.hid hl; clear hl
  have HNS := Lib.hid hs.len
  obtain ⟨i0, hi0, hz0, hz1, hz2⟩ := info_parts Tryd.infoInt
  have hmk1 := fun (W : World) => run_make_ints (P := Tryd.prog) 34 3 i0 Tryd.underlying34 hi0 hz0 hz1 hz2 n (by omega) W
  have hmk2 := fun (W : World) => run_make_ints (P := Tryd.prog) 37 3 i0 Tryd.underlying37 hi0 hz0 hz1 hz2 N (by omega) W
  go_enter Tryd.func20, Tryd.ntmps20
  go_wp2
  clear hmk1 hmk2
  go_loopg [7, 8, 9, 10, 24] N (fun gn _ _ _ _ i wr => ∃ (k : Nat), k ≤ N ∧ gn = N - k ∧ i = .int .i64 k ∧ WB w wr A n c (tTo ss k) (b1To ss no k))
  case atStart =>
    refine ⟨0, Nat.zero_le _, rfl, rfl, ?_, ?_, ?_, ?_, ?_⟩
    · exact (((Blk.new w 40 #[.slice A n c]).alloc _).alloc _).alloc _
    · have h := ((Blk.new (w.alloc (.cells #[.slice A n c] 40)) 3 (intArr (List.replicate N 0))).alloc (.cells (intArr (List.replicate n 0)) 3)).alloc (.cells #[.slice (some ⟨w.heap.size + 1 + 1, 0, none⟩) n n] 34)
      have e : tTo ss 0 = List.replicate N 0 := by rw [← HNS.out]; rfl
      rw [e]
      simpa using h
    · have h := (Blk.new ((w.alloc (.cells #[.slice A n c] 40)).alloc (.cells (intArr (List.replicate N 0)) 3)) 3 (intArr (List.replicate n 0))).alloc (.cells #[.slice (some ⟨w.heap.size + 1 + 1, 0, none⟩) n n] 34)
      have e : b1To ss no 0 = List.replicate n 0 := by rw [HN.out]; rfl
      rw [e]
      simpa using h
    · have h := Blk.new (((w.alloc (.cells #[.slice A n c] 40)).alloc (.cells (intArr (List.replicate N 0)) 3)).alloc (.cells (intArr (List.replicate n 0)) 3)) 34 #[.slice (some ⟨w.heap.size + 1 + 1, 0, none⟩) n n]
      simpa using h
    · exact ((((Below.refl _ _).alloc (Nat.le_refl _) _).alloc (by simp) _).alloc (by simp; omega) _).alloc (by simp; omega) _
  case round =>
    obtain ⟨k, hk, hgk, rfl, hwb⟩ := hrel
    have HG := Lib.hid hgk; clear hgk
    obtain ⟨wo, rfl⟩ : ∃ wo : World, wo = wr := ⟨_, rfl⟩
    by_cases hlt : k < N
    · obtain ⟨b1, o1, rfl, q1, c1⟩ := (hs.below (hwb.below.mono hB)).at_c hlt
      obtain ⟨x1, x2⟩ := HR.out (cAt ss k) (getD_mem (by have := HNS.out; omega))
      have HT := Lib.hid (show tTo ss (k + 1) = (tTo ss k).set k (bitOf (cAt ss k)) from rfl)
      have HBn := Lib.hid (show b1To ss no (k + 1) = addTo (differs no k (cAt ss k)) 1 (b1To ss no k) no.length from rfl)
      have htl := tTo_len ss k
      have hbl := b1To_len ss no k
      have HBD := Lib.hid (b1To_bd ss no k)
      have c2 : wo.cell? ⟨w.heap.size, 0, none⟩ = some (.slice A n c) := hwb.no.cell 0
      have c3 : wo.cell? ⟨w.heap.size + 1, k, none⟩ = some (.int .i64 (cAt (tTo ss k) k)) := (hwb.t.cell k).trans (intArr_at _ _ (by have := HNS.out; omega))
      have f3 := hwb.t.frozen k
      generalize tTo ss k = tk at *
      generalize b1To ss no k = bk at *
      generalize cAt ss k = sk at *
      generalize cAt tk k = t0 at *
      have HBL := Lib.hid hbl; clear hbl htl
      have i1 : (k : Int) < N := by omega
      go_wp2_with (go_at_call 27; refine (bit_any _ _ x1 x2).mono ?_; rintro e w1 ⟨rfl, hd1⟩; refine Hid.out ?_)
      refine Lib.hid ?_
      have hwb1 := hwb.drawn hd1
      have c2' := (hd1.cell _).trans c2
      have c3' := (hd1.cell _).trans c3
      have f3' := hwb1.t.frozen k
      have hwb2 := hwb1.setT k (bitOf sk)
      have c4 : (w1.setCell ⟨w.heap.size + 1, k, none⟩ (.int .i64 (bitOf sk))).cell? ⟨w.heap.size, 0, none⟩ = some (.slice A n c) := hwb2.no.cell 0
      have HW2 := Lib.hid hwb2
      clear c1 c2 c3 f3 hwb hd1 hwb1 hwb2
      go_wp2
      go_loopg [9, 10, 36] n (fun gn _ _ i wr => ∃ (q : Nat), q ≤ n ∧ gn = n - q ∧ i = .int .i64 q ∧ WB w wr A n c (tk.set k (bitOf sk)) (addTo (differs no k sk) 1 bk q))
      case atStart => exact ⟨0, Nat.zero_le _, rfl, rfl, HW2.out⟩
      case round =>
        clear HW2 c4 c2' c3' f3'
        obtain ⟨q, hq, hgq, rfl, hwb⟩ := hrel
        have HGQ := Lib.hid hgq; clear hgq
        by_cases hlt2 : q < n
        · obtain ⟨b2, o2, A2, c2', rfl, q2, c2, hs2⟩ := (hno.below (hwb.below.mono hB)).at_ (k := q) (by have := HN.out; omega)
          have hl2 := HL.out q (by have := HN.out; omega)
          have HD := Lib.hid (show differs no k sk q = (cAt (no.getD q []) k != sk) from rfl)
          have HS := Lib.hid (show addTo (differs no k sk) 1 bk (q + 1) = if differs no k sk q then (addTo (differs no k sk) 1 bk q).set q (cAt (addTo (differs no k sk) 1 bk q) q + 1) else addTo (differs no k sk) 1 bk q from rfl)
          have hal := addTo_len (differs no k sk) 1 bk q
          have haa := addTo_at (differs no k sk) 1 bk q q (by have := HBL.out; have := HN.out; omega)
          rw [if_neg (by omega)] at haa
          have hbd := HBD.out q
          generalize addTo (differs no k sk) 1 bk q = bq at *
          have hqb : q < bq.length := by have := HBL.out; have := HN.out; omega
          have x3 : 0 ≤ cAt bq q := by omega
          have x4 : cAt bq q ≤ 1000 := by omega
          clear haa hbd hal
          generalize no.getD q [] = y at *
          have hky : k < y.length := by omega
          have hy0 : y.length ≤ 1000 := by omega
          clear hl2
          obtain ⟨b3, o3, rfl, q3, c3⟩ := hs2.at_c hky
          have c5 : wr.cell? ⟨w.heap.size + 1 + 1, q, none⟩ = some (.int .i64 (cAt bq q)) := (hwb.bl.cell q).trans (intArr_at _ _ hqb)
          have c6 : wr.cell? ⟨w.heap.size + 1 + 1 + 1, 0, none⟩ = some (.slice (some ⟨w.heap.size + 1 + 1, 0, none⟩) n n) := hwb.pb.cell 0
          have f5 := hwb.bl.frozen q
          generalize cAt y k = yk at *
          generalize cAt bq q = bx at *
          have i2 : (q : Int) < n := by omega
          have i3 : (k : Int) < y.length := by omega
          cases hb : (yk != sk)
          · have HB := Lib.hid hb
            go_wp2
            go_roundg (n - (q + 1))
            case rel => exact ⟨q + 1, by omega, rfl, by go_num, by rw [HS.out, HD.out, HB.out]; exact hwb⟩
            case measure => have := HGQ.out; omega
          · have HB := Lib.hid hb
            go_wp2
            go_roundg (n - (q + 1))
            case rel => exact ⟨q + 1, by omega, rfl, by go_num, by rw [HS.out, HD.out, HB.out, if_pos rfl]; exact hwb.setB q _⟩
            case measure => have := HGQ.out; omega
        · obtain rfl : q = n := by omega
          go_wp2
          go_roundg (N - (k + 1))
          case rel => exact ⟨k + 1, by omega, rfl, by go_num, by rw [HT.out, HBn.out, ← HN.out]; exact hwb⟩
          case measure => have := HG.out; omega
    · obtain rfl : k = N := by omega
      have HO0 := Lib.hid (show outTo ss no 0 = (tTo ss k, b1To ss no k) by rw [← HNS.out]; rfl)
      go_wp2
      go_loopg [12, 13, 14, 15] k (fun gn i _ _ _ wr => ∃ (q : Nat) (x : Int), q ≤ k ∧ gn = k - q ∧ i = .int .i64 x ∧ x = (k : Int) - 1 - (q : Int) ∧ WB w wr A n c (outTo ss no q).1 (outTo ss no q).2)
      case atStart => exact ⟨0, _, Nat.zero_le _, rfl, rfl, by simp, by rw [HO0.out]; exact hwb⟩
      case round =>
        clear hwb
        obtain ⟨q, x, hq, hgq, rfl, hx, hwb⟩ := hrel
        have HGQ := Lib.hid hgq; clear hgq
        obtain ⟨wo, rfl⟩ : ∃ wo : World, wo = wr := ⟨_, rfl⟩
        by_cases hlt : q < k
        · obtain ⟨ii, rfl⟩ : ∃ ii : Nat, x = (ii : Int) := ⟨k - 1 - q, by omega⟩
          have hii : ii < k := by omega
          have HII := Lib.hid (show ii = ss.length - 1 - q by have := HNS.out; omega)
          have HX := Lib.hid hx; clear hx
          have HOS := Lib.hid (show outTo ss no (q + 1) = inTo no ii (outTo ss no q) 3 by rw [HII.out]; rfl)
          have HOL := Lib.hid (outTo_len ss no q)
          have HOB := Lib.hid (outTo_bd ss no q)
          generalize outTo ss no q = x0 at *
          go_wp2
          go_loopg [13, 14, 15] 3 (fun gn i _ _ wr => ∃ (r : Nat) (y : Int), r ≤ 3 ∧ gn = 3 - r ∧ i = .int .i64 y ∧ y = (r : Int) - 1 ∧ WB w wr A n c (inTo no ii x0 r).1 (inTo no ii x0 r).2)
          case atStart => exact ⟨0, _, Nat.zero_le _, rfl, rfl, by simp, hwb⟩
          case round =>
            clear hwb
            obtain ⟨r, y, hr3, hgr, rfl, hy, hwb⟩ := hrel
            have HGR := Lib.hid hgr; clear hgr
            obtain ⟨wo2, rfl⟩ : ∃ wo2 : World, wo2 = wr := ⟨_, rfl⟩
            have y1 : -1 ≤ y := by omega
            have y2 : y ≤ 2 := by omega
            by_cases hlt2 : r < 3
            · have y3 : y ≤ 1 := by omega
              have HIS := Lib.hid (show inTo no ii x0 (r + 1) = step2 no ii y (inTo no ii x0 r) by rw [hy]; rfl)
              have HY := Lib.hid hy; clear hy
              have hil := inTo_len no ii x0 r
              have HIB := Lib.hid (inTo_bd no ii x0 HOL.out.2 r)
              generalize inTo no ii x0 r = xr at *
              obtain ⟨t, bl⟩ := xr
              simp only at hil hwb HIB
              have htl : t.length = k := by have := HOL.out.1; have := HNS.out; omega
              have hbl : bl.length = n := by have := HOL.out.2; have := HN.out; omega
              have HTL := Lib.hid htl; have HBL := Lib.hid hbl; clear hil
              have HST := Lib.hid (show step2 no ii y (t, bl) = if meet (cAt t ii) y || !freeB no bl ii y then (t, bl) else (t.set ii (bits .or .i64 (cAt t ii) (bitOf y)), addTo (agrees no ii y) (-1) bl no.length) from rfl)
              have HM := Lib.hid (show meet (cAt t ii) y = !(bits .and .i64 (cAt t ii) (bitOf y) == 0) from rfl)
              have c1 : wo2.cell? ⟨w.heap.size + 1, ii, none⟩ = some (.int .i64 (cAt t ii)) := (hwb.t.cell ii).trans (intArr_at _ _ (by omega))
              have hfr := fun nq => free_any A n c n B w.heap.size (w.heap.size + 1 + 1 + 1) (w.heap.size + 1 + 1) k ii y no bl (wo2.drewN nq) ((hno.below (hwb.below.mono hB)).drawn (.drewN _ _)) HN.out (hwb.no.cell 0) (hwb.pb.cell 0) (fun j hj => (hwb.bl.cell j).trans (intArr_at _ _ (by omega))) HL.out hii hN hn0
              have HFR := Lib.hid hfr; clear hfr htl hbl
              generalize cAt t ii = ti at *
              have i1 : (ii : Int) < k := by omega
              by_cases hmt : (bits .and .i64 ti (bitOf y) != 0) = true
              · have HE := Lib.hid (show step2 no ii y (t, bl) = (t, bl) by rw [HST.out, HM.out]; simp only [bne] at hmt; rw [hmt]; rfl)
                go_wp2
                go_quiet ((go_at_call 27; exact Drawn.quiet (bit_any _ _ y1 y3)))
                go_wp2
                go_roundg (3 - (r + 1))
                case rel => exact ⟨r + 1, y + 1, by omega, rfl, rfl, by have := HY.out; omega, by rw [HIS.out, HE.out]; exact hwb.drawn (.drewN _ _)⟩
                case measure => have := HGR.out; omega
              · have hmt' : (bits .and .i64 ti (bitOf y) != 0) = false := by simpa using hmt
                clear hmt
                have HM0 := Lib.hid (show meet ti y = false by rw [HM.out]; simp only [bne] at hmt'; rw [hmt'])
                cases hf : freeB no bl ii y
                · have HE := Lib.hid (show step2 no ii y (t, bl) = (t, bl) by rw [HST.out, hf]; simp)
                  rw [hf] at HFR
                  go_wp2
                  go_quiet ((first | (go_at_call 27; exact Drawn.quiet (bit_any _ _ y1 y3)) | (go_at_call 28; exact Drawn.quiet ((HFR.out _).mono fun _ _ ⟨he, hw⟩ => ⟨he, hw ▸ Drawn.refl _⟩))))
                  go_wp2
                  go_roundg (3 - (r + 1))
                  case rel => exact ⟨r + 1, y + 1, by omega, rfl, rfl, by have := HY.out; omega, by rw [HIS.out, HE.out]; exact hwb.drawn (.drewN _ _)⟩
                  case measure => have := HGR.out; omega
                · have HE := Lib.hid (show step2 no ii y (t, bl) = (t.set ii (bits .or .i64 ti (bitOf y)), addTo (agrees no ii y) (-1) bl no.length) by rw [HST.out, hf, HM0.out]; rfl)
                  rw [hf] at HFR
                  go_wp2
                  go_quiet ((first | (go_at_call 27; exact Drawn.quiet (bit_any _ _ y1 y3)) | (go_at_call 28; exact Drawn.quiet ((HFR.out _).mono fun _ _ ⟨he, hw⟩ => ⟨he, hw ▸ Drawn.refl _⟩))))
                  have hwb1 := hwb.drawn (.drewN _ nq)
                  have c1' : (wo2.drewN nq).cell? ⟨w.heap.size + 1, ii, none⟩ = some (.int .i64 ti) := c1
                  have f1' := hwb1.t.frozen ii
                  clear c1 hwb HFR
                  generalize wo2.drewN nq = w3 at *
                  go_wp2
                  refine wp_region_still_tail 8 (by kernel_rfl) (by kernel_rfl) ?_
                  simp only [List.take_succ_cons, List.take_zero, List.drop_succ_cons, List.drop_zero]
                  repeat still_step
                  still_call (bit_same _ _ y1 y3)
                  repeat still_step
                  refine wpStill_nil ?_
                  have hwb2 := hwb1.drawn (.drew _)
                  have c1'' : w3.drew.cell? ⟨w.heap.size + 1, ii, none⟩ = some (.int .i64 ti) := c1'
                  have f1'' : w3.drew.frozen? ⟨w.heap.size + 1, ii, none⟩ = false := f1'
                  clear c1' f1' hwb1
                  change wpList _ _ _ _ _ w3.drew
                  generalize w3.drew = w4 at *
                  have hwb3 := hwb2.setT ii (bits .or .i64 ti (bitOf y))
                  have c2 : (w4.setCell ⟨w.heap.size + 1, ii, none⟩ (.int .i64 (bits .or .i64 ti (bitOf y)))).cell? ⟨w.heap.size, 0, none⟩ = some (.slice A n c) := hwb3.no.cell 0
                  have HW2 := Lib.hid hwb3; clear hwb2 hwb3
                  go_wp2
                  go_loopg [14, 15, 92] n (fun gn _ _ i wr => ∃ (z : Nat), z ≤ n ∧ gn = n - z ∧ i = .int .i64 z ∧ WB w wr A n c (t.set ii (bits .or .i64 ti (bitOf y))) (addTo (agrees no ii y) (-1) bl z))
                  case atStart => exact ⟨0, Nat.zero_le _, rfl, rfl, HW2.out⟩
                  case round =>
                    clear HW2 c2 c1'' f1''
                    obtain ⟨z, hz, hgz, rfl, hwb⟩ := hrel
                    have HGZ := Lib.hid hgz; clear hgz
                    by_cases hlt3 : z < n
                    · obtain ⟨b2, o2, A2, c2', rfl, q2, c2, hs2⟩ := (hno.below (hwb.below.mono hB)).at_ (k := z) (by have := HN.out; omega)
                      have hl2 := HL.out z (by have := HN.out; omega)
                      have HD := Lib.hid (show agrees no ii y z = (cAt (no.getD z []) ii == y) from rfl)
                      have HS := Lib.hid (show addTo (agrees no ii y) (-1) bl (z + 1) = if agrees no ii y z then (addTo (agrees no ii y) (-1) bl z).set z (cAt (addTo (agrees no ii y) (-1) bl z) z + (-1)) else addTo (agrees no ii y) (-1) bl z from rfl)
                      have hal := addTo_len (agrees no ii y) (-1) bl z
                      have haa := addTo_at (agrees no ii y) (-1) bl z z (by have := HBL.out; omega)
                      rw [if_neg (by omega)] at haa
                      have hbd := HIB.out z
                      have hbd2 := HOB.out z
                      have hns := HNS.out
                      generalize addTo (agrees no ii y) (-1) bl z = bq at *
                      have hqb : z < bq.length := by have := HBL.out; omega
                      have x3 : -10000 ≤ cAt bq z := by omega
                      have x4 : cAt bq z ≤ 1000 := by omega
                      clear haa hbd hal hbd2 hns
                      generalize no.getD z [] = yy at *
                      have hky : ii < yy.length := by omega
                      have hy0 : yy.length ≤ 1000 := by omega
                      clear hl2
                      obtain ⟨b3, o3, rfl, q3, c3⟩ := hs2.at_c hky
                      have c5 : wr.cell? ⟨w.heap.size + 1 + 1, z, none⟩ = some (.int .i64 (cAt bq z)) := (hwb.bl.cell z).trans (intArr_at _ _ hqb)
                      have c6 : wr.cell? ⟨w.heap.size + 1 + 1 + 1, 0, none⟩ = some (.slice (some ⟨w.heap.size + 1 + 1, 0, none⟩) n n) := hwb.pb.cell 0
                      have f5 := hwb.bl.frozen z
                      generalize cAt yy ii = yk at *
                      generalize cAt bq z = bx at *
                      have i2 : (z : Int) < n := by omega
                      have i3 : (ii : Int) < yy.length := by omega
                      cases hb : (yk == y)
                      · have HB := Lib.hid hb
                        go_wp2
                        go_roundg (n - (z + 1))
                        case rel => exact ⟨z + 1, by omega, rfl, by go_num, by rw [HS.out, HD.out, HB.out]; exact hwb⟩
                        case measure => have := HGZ.out; omega
                      · have HB := Lib.hid hb
                        go_wp2
                        go_roundg (n - (z + 1))
                        case rel => exact ⟨z + 1, by omega, rfl, by go_num, by rw [HS.out, HD.out, HB.out, if_pos rfl]; exact hwb.setB z _⟩
                        case measure => have := HGZ.out; omega
                    · obtain rfl : z = n := by omega
                      go_wp2
                      go_roundg (3 - (r + 1))
                      case rel => exact ⟨r + 1, y + 1, by omega, rfl, rfl, by have := HY.out; omega, by rw [HIS.out, HE.out, ← HN.out]; exact hwb⟩
                      case measure => have := HGR.out; omega
            · obtain rfl : r = 3 := by omega
              go_wp2
              go_roundg (k - (q + 1))
              case rel => exact ⟨q + 1, (ii : Int) - 1, by omega, rfl, rfl, by have := HX.out; omega, by rw [HOS.out]; exact hwb⟩
              case measure => have := HGQ.out; omega
        · obtain rfl : q = k := by omega
          have hx0 : x < 0 := by omega
          clear hx
          go_wp2
          go_ret
          exact ⟨rfl, hwb⟩
end Go.Proofs.YtlfjpfbkkbhhjaaDoor
