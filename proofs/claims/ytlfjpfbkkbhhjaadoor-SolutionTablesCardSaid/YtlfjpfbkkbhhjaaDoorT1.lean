/- The walk of the law SolutionTables: it returns true at every table. -/
import Derived.Test.YtlfjpfbkkbhhjaaDoorO2
namespace Go.Proofs.YtlfjpfbkkbhhjaaDoor
open Go.RowKit

/-- rows whose signs lie in blocks of their own -/
def RowsBlk (w : World) (xs : List Value) (rows : List (List Int × Bool)) : Prop :=
  xs.length = rows.length * 2 ∧ ∀ k, k < rows.length → ∃ g, xs[k * 2]? = some (.slice (some ⟨g, 0, none⟩) (sg rows k).length (sg rows k).length) ∧ xs[k * 2 + 1]? = some (.bool (tr rows k)) ∧ Blk w g 3 (intArr (sg rows k))
theorem RowsBlk.nil (w : World) : RowsBlk w [] [] := ⟨rfl, fun k hk => absurd hk (by simp)⟩
theorem RowsBlk.keep {w w' : World} {xs : List Value} {rows : List (List Int × Bool)} (h : RowsBlk w xs rows) (hk : ∀ g cs, Blk w g 3 cs → Blk w' g 3 cs) : RowsBlk w' xs rows :=
  ⟨h.1, fun k hkk => by obtain ⟨g, h1, h2, h3⟩ := h.2 k hkk; exact ⟨g, h1, h2, hk _ _ h3⟩⟩
theorem RowsBlk.cells {w : World} {xs : List Value} {rows : List (List Int × Bool)} (h : RowsBlk w xs rows) : RowCells w w.heap.size xs rows :=
  ⟨h.1, fun k hkk => by obtain ⟨g, h1, h2, h3⟩ := h.2 k hkk; exact ⟨_, _, h1, h2, reads_blk h3⟩⟩
theorem RowsBlk.snoc {w : World} {xs : List Value} {rows : List (List Int × Bool)} (h : RowsBlk w xs rows) {g : Nat} {l : List Int} {b : Bool} (hb : Blk w g 3 (intArr l)) : RowsBlk w (xs ++ [.slice (some ⟨g, 0, none⟩) l.length l.length, .bool b]) (rows ++ [(l, b)]) := by
  have hx := h.1
  refine ⟨by simp [hx]; omega, fun k hk => ?_⟩
  by_cases hlt : k < rows.length
  · obtain ⟨g', h1, h2, h3⟩ := h.2 k hlt
    have e : (rows ++ [(l, b)]).getD k ([], false) = rows.getD k ([], false) := by simp [List.getElem?_append_left hlt]
    have e1 : sg (rows ++ [(l, b)]) k = sg rows k := by unfold sg; rw [e]
    have e2 : tr (rows ++ [(l, b)]) k = tr rows k := by unfold tr; rw [e]
    rw [e1, e2]
    exact ⟨g', by rw [List.getElem?_append_left (by omega)]; exact h1, by rw [List.getElem?_append_left (by omega)]; exact h2, h3⟩
  · have hke : k = rows.length := by simp at hk; omega
    subst hke
    have e : (rows ++ [(l, b)]).getD rows.length ([], false) = (l, b) := by simp
    have e1 : sg (rows ++ [(l, b)]) rows.length = l := by unfold sg; rw [e]
    have e2 : tr (rows ++ [(l, b)]) rows.length = b := by unfold tr; rw [e]
    rw [e1, e2]
    exact ⟨g, by rw [← hx]; simp, by rw [← hx]; simp, hb⟩

/-- the rows of a table -/
def tabSg (k : Nat) : List Int := [(k : Int) % 3 - 1, (k : Int) / 3 % 3 - 1, (k : Int) / 9 - 1]
def tabTo (f : Nat → Bool) : Nat → List (List Int × Bool)
  | 0 => []
  | k + 1 => tabTo f k ++ [(tabSg k, f k)]
def tabBit (tab : Nat) (k : Nat) : Bool := bits BinOp.and IntKind.u32 ((tab : Int) / 2 ^ k) 1 == 1
theorem tabTo_len (f : Nat → Bool) (n : Nat) : (tabTo f n).length = n := by
  induction n with
  | zero => rfl
  | succ n ih => simp [tabTo, ih]
theorem tabTo_at (f : Nat → Bool) {n k : Nat} (hk : k < n) : (tabTo f n).getD k ([], false) = (tabSg k, f k) := by
  induction n with
  | zero => omega
  | succ n ih =>
    unfold tabTo
    by_cases h : k = n
    · subst h
      have := tabTo_len f k
      simp [List.getD_eq_getElem?_getD, this]
    · have hl : k < (tabTo f n).length := by rw [tabTo_len]; omega
      have := ih (by omega)
      rw [List.getD_eq_getElem?_getD, List.getElem?_append_left hl, ← List.getD_eq_getElem?_getD, this]
theorem tab_sg (f : Nat → Bool) {n k : Nat} (hk : k < n) : sg (tabTo f n) k = tabSg k := by unfold sg; rw [tabTo_at f hk]
theorem tab_tr (f : Nat → Bool) {n k : Nat} (hk : k < n) : tr (tabTo f n) k = f k := by unfold tr; rw [tabTo_at f hk]
theorem tabSg_in {k : Nat} (hk : k < 27) : ∀ x ∈ tabSg k, -1 ≤ x ∧ x ≤ 1 := by
  intro x hx
  simp [tabSg] at hx
  omega
theorem tabSg_inj {i j : Nat} (h : tabSg i = tabSg j) : i = j := by
  simp [tabSg] at h
  omega
theorem tab_valid (f : Nat → Bool) : ValidP 3 (tabTo f 27) := fun k hk => by
  rw [tabTo_len] at hk
  rw [tab_sg f hk]
  exact ⟨rfl, tabSg_in hk⟩
theorem tab_sep (f : Nat → Bool) : SepP (tabTo f 27) := fun i j hi hj h => by
  rw [tabTo_len] at hi hj
  rw [tab_sg f hi, tab_sg f hj] at h
  obtain rfl := tabSg_inj h
  rfl
theorem tab_err (f : Nat → Bool) : errOf 3 (tabTo f 27) = 0 := by
  unfold errOf
  have h := (validB_iff (N := 3)).2 (tab_valid f)
  rw [show ((3 : Nat) : Int) = 3 from rfl] at h
  rw [if_neg (by omega), h, sepB_iff.2 (tab_sep f)]
  simp
theorem permTo_le {t s : List Int} {q n : Nat} (h : permTo t s q = false) (hq : q ≤ n) : permTo t s n = false := by
  induction n with
  | zero => rw [show (0 : Nat) = q by omega]; exact h
  | succ n ih =>
    by_cases e : q = n + 1
    · rw [← e]; exact h
    · rw [permTo_succ, ih (by omega)]; rfl
/-- the term k permits the signs of the row i -/
def tabPerm (ts : List (List Int)) (s : List Int) (k : Nat) : Bool := permTo (ts.getD k []) s 3
theorem tab_found {f : Nat → Bool} {ts : List (List Int)} (hc : CoverOk 3 (tabTo f 27) ts) {i : Nat} (hi : i < 27) : anyTo (tabPerm ts (tabSg i)) ts.length = f i := by
  have hi' : i < (tabTo f 27).length := by rw [tabTo_len]; exact hi
  cases hf : f i
  · rw [← Bool.not_eq_true, anyTo_iff]
    rintro ⟨k, hk, hp⟩
    have := hc.no i hi' (by rw [tab_tr f hi, hf]) _ (mem_getD hk)
    rw [tab_sg f hi] at this
    unfold tabPerm at hp
    rw [this] at hp
    cases hp
  · obtain ⟨t, ht, hp⟩ := hc.yes i hi' (by rw [tab_tr f hi, hf])
    rw [tab_sg f hi] at hp
    obtain ⟨k, hk, e⟩ := List.getElem_of_mem ht
    refine anyTo_true (k := k) ?_ hk
    unfold tabPerm
    rw [List.getD_eq_getElem?_getD, List.getElem?_eq_getElem hk, Option.getD_some, e]
    exact hp
theorem tab_rowsIn {w : World} {base c : Nat} {e : TypeId} {A : Option Addr} {xs : List Value} {f : Nat → Bool} (hown : w.ownsRow base e 2 (.slice A 27 c) 27 xs) (hrb : RowsBlk w xs (tabTo f 27)) : RowsIn w w.heap.size A (tabTo f 27) :=
  ⟨RowsAt.of_own hown hrb.cells (Nat.le_refl _), by rw [tabTo_len]; omega, fun k hk => by rw [((tab_valid f) k hk).1]; omega, fun k hk x hx => by
    have := ((tab_valid f) k hk).2 x hx
    unfold In64
    omega⟩

set_option maxHeartbeats 2000000 in
set_option maxRecDepth 100000 in
theorem lawTables (tab : Nat) (_ht : tab ≤ 4294967295) (w : World) (htab : TabOk w) :
    Calls Tryd.prog 6 #[.int .u32 (tab : Int)] w fun e w' => e = .returned (.bool true) ∧ Below w.heap.size w w' := by
  have HT := Lib.hid htab; clear htab
  obtain ⟨i9, hi9, hy0, hy1, hy2⟩ := info_parts Tryd.infoRow
  go_enter Tryd.func6, Tryd.ntmps6
  go_wp2_with fail
  refine (awake_any w HT.out).mono ?_
  rintro e w1 ⟨rfl, hb1⟩
  have hz1 := hb1.size
  go_wp2_with fail
  go_loopg [3, 4, 14] 27 (fun gn v _ i wr => ∃ (k : Nat) (xs : List Value), k ≤ 27 ∧ gn = 27 - k ∧ i = .int .i64 k ∧ wr.ownsRow w1.heap.size 36 2 v k xs ∧ RowsBlk wr xs (tabTo (tabBit tab) k) ∧ Below w1.heap.size w1 wr)
  case atStart => exact ⟨0, [], Nat.zero_le _, rfl, rfl, World.ownsRow_nil _ _ _ _, RowsBlk.nil _, .refl _ _⟩
  case round =>
    obtain ⟨k, xs, hk, hgk, rfl, hown, hrb, hd⟩ := hrel
    have HG := Lib.hid hgk; clear hgk
    have hz := hd.size
    by_cases hlt : k < 27
    · have hownB := (hown.alloc (.cells #[.int .i64 ((k : Int) % 3 - 1), .int .i64 ((k : Int) / 3 % 3 - 1), .int .i64 ((k : Int) / 9 - 1)] 3))
      have hownA := hownB.alloc (.cells #[.slice (some ⟨wr.heap.size, 0, none⟩) 3 3, .bool (bits BinOp.and IntKind.u32 ((tab : Int) / 2 ^ k) 1 == 1)] 36)
      have hrd : Reads ((wr.alloc (.cells #[.int .i64 ((k : Int) % 3 - 1), .int .i64 ((k : Int) / 3 % 3 - 1), .int .i64 ((k : Int) / 9 - 1)] 3)).alloc (.cells #[.slice (some ⟨wr.heap.size, 0, none⟩) 3 3, .bool (bits BinOp.and IntKind.u32 ((tab : Int) / 2 ^ k) 1 == 1)] 36)) (wr.heap.size + 2) 2 (some ⟨wr.heap.size + 1, 0, none⟩) 1 [.slice (some ⟨wr.heap.size, 0, none⟩) 3 3, .bool (bits BinOp.and IntKind.u32 ((tab : Int) / 2 ^ k) 1 == 1)] := by
        have := Reads.two_new (wr.alloc (.cells #[.int .i64 ((k : Int) % 3 - 1), .int .i64 ((k : Int) / 3 % 3 - 1), .int .i64 ((k : Int) / 9 - 1)] 3)) (.slice (some ⟨wr.heap.size, 0, none⟩) 3 3) (.bool (bits BinOp.and IntKind.u32 ((tab : Int) / 2 ^ k) 1 == 1)) 36
        simpa using this
      have h63 : k + 1 ≤ maxLen := by unfold maxLen; omega
      have hby : (k + 1) * 32 ≤ 140737488355328 := by omega
      have hbase : w1.heap.size ≤ ((wr.alloc (.cells #[.int .i64 ((k : Int) % 3 - 1), .int .i64 ((k : Int) / 3 % 3 - 1), .int .i64 ((k : Int) / 9 - 1)] 3)).alloc (.cells #[.slice (some ⟨wr.heap.size, 0, none⟩) 3 3, .bool (bits BinOp.and IntKind.u32 ((tab : Int) / 2 ^ k) 1 == 1)] 36)).heap.size := by simp; omega
      have HRD := Lib.hid hrd; clear hrd
      go_wp2_with (at_builtin; refine wpList_append_any _ rfl (.tmp 17) (.tmp 35) _ rfl w1.heap.size 36 i9 _ 2 32 Tryd.underlying22 hi9 hy0 hy1 hy2 rfl (by omega) u3 _ _ rfl hownA _ _ 1 1 _ rfl HRD.out (by intro u hu; simp at hu; rcases hu with rfl | rfl <;> rfl) h63 hby hbase ?_; intro v3 w3 hown3 hg3 hat3)
      go_roundg (27 - (k + 1))
      case rel =>
        have hdA : Below w1.heap.size w1 w3 := ((hd.alloc hz _).alloc (by simp; omega) _).grown hg3 hbase (fun q hq => (hownA.lt q hq).1)
        refine ⟨k + 1, _, by omega, rfl, by go_num, hown3, ?_, hdA⟩
        have hkt : ∀ g cs, Blk wr g 3 cs → Blk w3 g 3 cs := fun g cs h => ((h.alloc _).alloc _).grown hg3 (own_blk_ne hownA ((h.alloc _).alloc _) (by decide))
        have hnew : Blk w3 wr.heap.size 3 (intArr (tabSg k)) := ((Blk.new wr _ _).alloc _).grown hg3 (own_blk_ne hownA ((Blk.new wr _ _).alloc _) (by decide))
        exact (hrb.keep hkt).snoc (b := tabBit tab k) hnew
      case measure => have := HG.out; omega
    · obtain rfl : k = 27 := by omega
      obtain ⟨A, c, rfl⟩ := own_slice2 hown
      have hri := tab_rowsIn hown hrb
      have hlen := tabTo_len (tabBit tab) 27
      have hd1 := hb1.trans (hd.mono hz1)
      have hzw := hd1.size
      have hcv := Cover_good 3 (by omega) A c wr.heap.size (tabTo (tabBit tab) 27) wr (Nat.le_refl _) hri (HT.out.on hd1)
      unfold CoverGood at hcv
      rw [tab_err, hlen] at hcv
      have HCV := Lib.hid hcv; have HLEN := Lib.hid hlen
      clear hcv hlen hown hrb hd
      go_wp2_with fail
      refine (HCV.out).mono ?_
      rintro e w2 ⟨A1, c1, ts, rfl, hl, _, hok, hb2⟩
      obtain ⟨N, hN, hv, hc⟩ := hok trivial
      obtain rfl : N = 3 := by omega
      have hz2 := hb2.size
      have hra := ((hri.at_.below hb2).more hz2)
      have hcnt := hc.count
      rw [HLEN.out] at hcnt
      have HF := Lib.hid (fun (i : Nat) (hi : i < 27) => tab_found hc hi)
      have HTM := Lib.hid (fun k (hk : k < ts.length) => (hc.term _ (mem_getD hk)).1)
      have HSG := Lib.hid (fun (i : Nat) (hi : i < 27) => tab_sg (tabBit tab) hi)
      have HTR := Lib.hid (fun (i : Nat) (hi : i < 27) => tab_tr (tabBit tab) hi)
      generalize tabTo (tabBit tab) 27 = rows at *
      clear hok hN hv hc hri HCV
      have hd2 := hd1.trans (hb2.mono hzw)
      have hzw2 := hd2.size
      clear hb2 hd1
      go_wp2_with fail
      go_loopg [7, 8, 9, 10, 11, 47] 27 (fun gn _ _ _ _ _ i wr => ∃ (k : Nat), k ≤ 27 ∧ gn = 27 - k ∧ i = .int .i64 k ∧ Below w2.heap.size w2 wr)
      case atStart => exact ⟨0, by omega, rfl, rfl, .refl _ _⟩
      case round =>
        obtain ⟨i, hi, hgi, rfl, hd⟩ := hrel
        have HGI := Lib.hid hgi; clear hgi
        obtain ⟨wo, rfl⟩ : ∃ wo : World, wo = wr := ⟨_, rfl⟩
        by_cases hlt2 : i < 27
        · have ii : (i : Int) < 27 := by omega
          go_wp2_with fail
          go_loopg [8, 9, 10, 11, 52] ts.length (fun gn f _ _ _ j wr => ∃ (k : Nat), k ≤ ts.length ∧ gn = ts.length - k ∧ j = .int .i64 k ∧ f = .bool (anyTo (tabPerm ts (tabSg i)) k) ∧ Below w2.heap.size w2 wr)
          case atStart => exact ⟨0, by omega, rfl, rfl, rfl, hd⟩
          case round =>
            clear hd
            obtain ⟨k, hk, hgk, rfl, rfl, hd⟩ := hrel
            have HGK := Lib.hid hgk; clear hgk
            obtain ⟨wo2, rfl⟩ : ∃ wo2 : World, wo2 = wr := ⟨_, rfl⟩
            have HAS := Lib.hid (anyTo_succ (tabPerm ts (tabSg i)) k)
            by_cases hlt3 : k < ts.length
            · have HTP := Lib.hid (show tabPerm ts (tabSg i) k = permTo (ts.getD k []) (tabSg i) 3 from rfl)
              generalize hfk : anyTo (tabPerm ts (tabSg i)) k = fk at *
              have HFK := Lib.hid hfk; clear hfk
              obtain ⟨b2, o2, A2, c2, rfl, q2, d3, hs2⟩ := hl.at_ (k := k) hlt3
              obtain ⟨b1, o1, A3, c3, rfl, q1, d1, d2, hs1⟩ := hra.at_ (k := i) (by rw [HLEN.out]; exact hlt2)
              have htl := HTM.out k hlt3
              have hsl : (tabSg i).length = 3 := rfl
              have HSI := Lib.hid (tabSg_in hlt2)
              rw [HSG.out i hlt2] at d1 hs1
              generalize tabSg i = s at *
              generalize ts.getD k [] = t at *
              rw [htl] at d3 hs2
              rw [hsl] at d1 hs1
              obtain ⟨b3, o3, rfl, q3, e3⟩ : ∃ b o, A2 = some ⟨b, o, none⟩ ∧ b < w2.heap.size ∧ ∀ j, j < 3 → w2.cell? ⟨b, o + j, none⟩ = some (.int .i64 (t.getD j 0)) := by
                obtain ⟨b, o, e, h1, _⟩ := hs2.int_at (k := 0) (by omega)
                refine ⟨b, o, e, h1, fun j hj => ?_⟩
                obtain ⟨b', o', e', _, h3⟩ := hs2.int_at (k := j) (by omega)
                rw [e] at e'
                injection e' with e'
                injection e' with h4 h5
                rw [h4, h5]
                exact h3
              obtain ⟨b4, o4, rfl, q4, e4⟩ : ∃ b o, A3 = some ⟨b, o, none⟩ ∧ b < w2.heap.size ∧ ∀ j, j < 3 → w2.cell? ⟨b, o + j, none⟩ = some (.int .i64 (s.getD j 0)) := by
                obtain ⟨b, o, e, h1, _⟩ := hs1.int_at (k := 0) (by omega)
                refine ⟨b, o, e, h1, fun j hj => ?_⟩
                obtain ⟨b', o', e', _, h3⟩ := hs1.int_at (k := j) (by omega)
                rw [e] at e'
                injection e' with e'
                injection e' with h4 h5
                rw [h4, h5]
                exact h3
              have HE3 := Lib.hid e3; have HE4 := Lib.hid e4; have HSL := Lib.hid hsl; have HTL := Lib.hid htl
              clear e3 e4 hsl htl hs1 hs2
              have d3' := (hd.cell (p := ⟨b2, o2 + k, none⟩) q2).trans d3
              have i2 : (k : Int) < ts.length := by omega
              go_wp2_with fail
              go_loopg [10, 11] 3 (fun gn p j wr => ∃ (q : Nat), q ≤ 3 ∧ gn = 3 - q ∧ j = .int .i64 q ∧ p = .bool (permTo t s q) ∧ Below w2.heap.size w2 wr)
              case atStart => exact ⟨0, by omega, rfl, rfl, rfl, hd⟩
              case round =>
                clear hd d3'
                obtain ⟨q, hq, hgq, rfl, rfl, hd⟩ := hrel
                have HGQ := Lib.hid hgq; clear hgq
                have hz := hd.size
                have HS := Lib.hid (permTo_succ t s q)
                have HPF := Lib.hid (fun (h : permTo t s q = false) => permTo_le h hq)
                have HP3 := Lib.hid (fun (h : q = 3) => show permTo t s q = permTo t s 3 by rw [h])
                generalize hpq : permTo t s q = pq at *
                have HPQ := Lib.hid hpq; clear hpq
                cases pq
                · cases fk
                  · go_wp2_with fail
                    go_roundg (ts.length - (k + 1))
                    case rel => exact ⟨k + 1, by omega, rfl, by go_num, by rw [HAS.out, HTP.out, HPF.out trivial]; rfl, hd⟩
                    case measure => have := HGK.out; omega
                  · go_wp2_with fail
                    go_roundg (ts.length - (k + 1))
                    case rel => exact ⟨k + 1, by omega, rfl, by go_num, by rw [HAS.out]; rfl, hd⟩
                    case measure => have := HGK.out; omega
                · by_cases hq3 : q < 3
                  · have e3 := (hd.cell (p := ⟨b3, o3 + q, none⟩) q3).trans (HE3.out q hq3)
                    have e4 := (hd.cell (p := ⟨b4, o4 + q, none⟩) q4).trans (HE4.out q hq3)
                    have d3' := (hd.cell (p := ⟨b2, o2 + k, none⟩) q2).trans d3
                    have d1' := (hd.cell (p := ⟨b1, o1 + i * 2, none⟩) q1).trans d1
                    obtain ⟨x1, x2⟩ := HSI.out (s.getD q 0) (getD_mem (by have := HSL.out; omega))
                    have HME := Lib.hid (show meet (t.getD q 0) (s.getD q 0) = !(bits .and .i64 (t.getD q 0) (bitOf (s.getD q 0)) == 0) from rfl)
                    generalize t.getD q 0 = tq at *
                    generalize s.getD q 0 = sq at *
                    have iq : (q : Int) < 3 := by omega
                    have z1 : b1 < wr.heap.size := by omega
                    have z2 : b2 < wr.heap.size := by omega
                    have z3 : b3 < wr.heap.size := by omega
                    have z4 : b4 < wr.heap.size := by omega
                    obtain rfl | rfl | rfl := three x1 x2
                    · go_wp2_with fail
                      go_region
                      go_wp2_with fail
                      go_roundg (3 - (q + 1))
                      case rel => exact ⟨q + 1, by omega, rfl, by go_num, by rw [HS.out, HME.out]; rfl, hd.drew.alloc (by simp; omega) _⟩
                      case measure => have := HGQ.out; omega
                    · go_wp2_with fail
                      go_region
                      go_wp2_with fail
                      go_roundg (3 - (q + 1))
                      case rel => exact ⟨q + 1, by omega, rfl, by go_num, by rw [HS.out, HME.out]; rfl, hd.drew.alloc (by simp; omega) _⟩
                      case measure => have := HGQ.out; omega
                    · go_wp2_with fail
                      go_region
                      go_wp2_with fail
                      go_roundg (3 - (q + 1))
                      case rel => exact ⟨q + 1, by omega, rfl, by go_num, by rw [HS.out, HME.out]; rfl, hd.drew.alloc (by simp; omega) _⟩
                      case measure => have := HGQ.out; omega
                  · obtain rfl : q = 3 := by omega
                    cases fk
                    · go_wp2_with fail
                      go_roundg (ts.length - (k + 1))
                      case rel => exact ⟨k + 1, by omega, rfl, by go_num, by rw [HAS.out, HTP.out, ← HP3.out trivial]; rfl, hd⟩
                      case measure => have := HGK.out; omega
                    · go_wp2_with fail
                      go_roundg (ts.length - (k + 1))
                      case rel => exact ⟨k + 1, by omega, rfl, by go_num, by rw [HAS.out]; rfl, hd⟩
                      case measure => have := HGK.out; omega
            · have HFI := Lib.hid (show anyTo (tabPerm ts (tabSg i)) k = tabBit tab i by rw [show k = ts.length by omega]; exact HF.out i hlt2)
              obtain ⟨b1, o1, A3, c3, rfl, q1, d1, d2, hs1⟩ := hra.at_ (k := i) (by rw [HLEN.out]; exact hlt2)
              have d2' := (hd.cell (p := ⟨b1, o1 + i * 2 + 1, none⟩) q1).trans d2
              rw [HTR.out i hlt2, ← HFI.out] at d2'
              have z1 : b1 < wo2.heap.size := by have := hd.size; omega
              generalize anyTo (tabPerm ts (tabSg i)) k = fk at *
              clear hs1 d1 d2
              have hb0 : (fk == fk) = true := by simp
              have hb1' : (fk != fk) = false := by simp
              cases fk
              · go_wp2_with fail
                go_roundg (27 - (i + 1))
                case rel => exact ⟨i + 1, by omega, rfl, by go_num, hd⟩
                case measure => have := HGI.out; omega
              · go_wp2_with fail
                go_roundg (27 - (i + 1))
                case rel => exact ⟨i + 1, by omega, rfl, by go_num, hd⟩
                case measure => have := HGI.out; omega
        · have hcd : decide ((ts.length : Int) ≤ 27) = true := by simp; omega
          go_wp2_with fail
          go_ret
          exact ⟨by simp, hd2.trans (hd.mono hzw2)⟩
end Go.Proofs.YtlfjpfbkkbhhjaaDoor
