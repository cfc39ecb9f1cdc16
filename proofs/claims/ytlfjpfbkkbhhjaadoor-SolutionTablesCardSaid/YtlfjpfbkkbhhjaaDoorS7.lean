/- Contract of solution.Cover, for n at most 6 and at most 90 rows of at most 6 signs. -/
import Derived.Test.YtlfjpfbkkbhhjaaDoorS6
namespace Go.Proofs.YtlfjpfbkkbhhjaaDoor
open Go.RowKit

/-! ### what 'Cover' reckons -/
def bAt (l : List Bool) (i : Nat) : Bool := l.getD i false
def widenT (ss : List Int) (no : List (List Int)) : List Int := (outTo ss no ss.length).1
def covTo (t : List Int) (yes : List (List Int)) (i : Nat) (cov : List Bool) : Nat → List Bool
  | 0 => cov
  | q + 1 => (covTo t yes i cov q).set (i + q) (bAt (covTo t yes i cov q) (i + q) || permY t yes (i + q))
def cvTo (yes no : List (List Int)) : Nat → List (List Int) × List Bool
  | 0 => ([], List.replicate yes.length false)
  | i + 1 => if bAt (cvTo yes no i).2 i then cvTo yes no i else ((cvTo yes no i).1 ++ [widenT (yes.getD i []) no], covTo (widenT (yes.getD i []) no) yes i (cvTo yes no i).2 (yes.length - i))
def termsL (rows : List (List Int × Bool)) : List (List Int) := (cvTo (pickTo true rows rows.length) (pickTo false rows rows.length) (pickTo true rows rows.length).length).1
def coverL (rows : List (List Int × Bool)) : List (List Int) := (stTo (termsL rows) (pickTo true rows rows.length) (termsL rows).length).1

theorem covTo_len (t : List Int) (yes : List (List Int)) (i : Nat) (cov : List Bool) (q : Nat) : (covTo t yes i cov q).length = cov.length := by
  induction q with
  | zero => rfl
  | succ q ih => simp [covTo, ih]
theorem cvTo_len (yes no : List (List Int)) (i : Nat) : (cvTo yes no i).2.length = yes.length ∧ (cvTo yes no i).1.length ≤ i := by
  induction i with
  | zero => simp [cvTo]
  | succ i ih =>
    unfold cvTo
    split
    · exact ⟨ih.1, by omega⟩
    · simp [covTo_len, ih.1]; exact ih.2
theorem widenT_len (ss : List Int) (no : List (List Int)) : (widenT ss no).length = ss.length := (outTo_len ss no ss.length).1
def boolArr (l : List Bool) : Array Value := (l.map Value.bool).toArray
theorem boolArr_at (l : List Bool) (i : Nat) (h : i < l.length) : (boolArr l)[i]? = some (.bool (bAt l i)) := by
  simp [boolArr, bAt, List.getElem?_eq_getElem h]
theorem boolArr_set (l : List Bool) (i : Nat) (x : Bool) : (boolArr l).setIfInBounds i (.bool x) = boolArr (l.set i x) := by
  simp [boolArr, List.map_set]
theorem Tryd.infoBool : (Tryd.prog.info? 4).map (fun i => (i.zero, i.size, i.bytes)) = some (some (.bool false), 1, 1) := by kernel_rfl
theorem run_make_bools {P : Program} (t e : TypeId) (i : TypeInfo) (ht : P.underlying t = some (.slice e)) (hi : P.info? e = some i) (hz : i.zero = some (.bool false)) (hs : i.size = 1) (hb : i.bytes = 1) (n : Nat) (hn : n ≤ 100000) (w : World) :
    (Instr.makeSlice t (.int .i64 (n : Int)) (.int .i64 (n : Int))).run P w = .ok (.slice (some ⟨w.heap.size, 0, none⟩) n n) (w.alloc (.cells (boolArr (List.replicate n false)) e)) := by
  have hr := run_make (P := P) w t e i (.bool false) ht hi hz .i64 .i64 n n (by omega) (by omega) (by rw [hb]; omega) (by omega)
  simp only [Int.toNat_natCast, hs, Nat.mul_one, Value.cells] at hr
  rw [hr]
  have e : madeCells #[Value.bool false] n = boolArr (List.replicate n false) := by
    apply Array.ext'
    rw [toList_madeCells_one]
    simp [boolArr]
  rw [e]

/-- terms in blocks of their own -/
def TermsIn (w : World) (xs : List Value) (ts : List (List Int)) : Prop :=
  xs.length = ts.length ∧ ∀ k, k < ts.length → ∃ g, xs[k]? = some (.slice (some ⟨g, 0, none⟩) (ts.getD k []).length (ts.getD k []).length) ∧ Blk w g 3 (intArr (ts.getD k []))
theorem TermsIn.keep {w w' : World} {xs : List Value} {ts : List (List Int)} (h : TermsIn w xs ts) (hk : ∀ g cs, Blk w g 3 cs → Blk w' g 3 cs) : TermsIn w' xs ts :=
  ⟨h.1, fun k hkk => by obtain ⟨g, h1, h2⟩ := h.2 k hkk; exact ⟨g, h1, hk _ _ h2⟩⟩
theorem TermsIn.nil (w : World) : TermsIn w [] [] := ⟨rfl, fun k hk => absurd hk (by simp)⟩
theorem TermsIn.snoc {w : World} {xs : List Value} {ts : List (List Int)} (h : TermsIn w xs ts) {g : Nat} {t : List Int} (hb : Blk w g 3 (intArr t)) : TermsIn w (xs ++ [.slice (some ⟨g, 0, none⟩) t.length t.length]) (ts ++ [t]) := by
  refine ⟨by simp [h.1], fun k hk => ?_⟩
  by_cases hlt : k < ts.length
  · obtain ⟨g', h1, h2⟩ := h.2 k hlt
    have e : (ts ++ [t]).getD k [] = ts.getD k [] := by simp [List.getElem?_append_left hlt]
    rw [e]
    exact ⟨g', by rw [List.getElem?_append_left (by rw [h.1]; exact hlt)]; exact h1, h2⟩
  · have hke : k = ts.length := by simp at hk; omega
    subst hke
    have e : (ts ++ [t]).getD ts.length [] = t := by simp
    rw [e]
    exact ⟨g, by rw [← h.1]; simp, hb⟩
theorem reads_blk {w : World} {g : Nat} {t : List Int} (hb : Blk w g 3 (intArr t)) : Reads w w.heap.size 1 (some ⟨g, 0, none⟩) t.length (t.map (Value.int .i64)) := by
  refine ⟨by simp, fun _ => ⟨g, 0, rfl, hb.lt, fun j u hu => ?_⟩⟩
  rw [Nat.zero_add, hb.cell]
  simpa [intArr] using hu
theorem TermsIn.slices {w : World} {xs : List Value} {ts : List (List Int)} (h : TermsIn w xs ts) : Slices w w.heap.size xs ts :=
  ⟨h.1, fun k hk => by obtain ⟨g, h1, h2⟩ := h.2 k hk; exact ⟨_, _, h1, reads_blk h2⟩⟩
theorem Blk.ne_ {w : World} {g g' : Nat} {t t' : TypeId} {cs cs' : Array Value} (h : Blk w g t cs) (h' : Blk w g' t' cs') (hne : t ≠ t') : g ≠ g' := by
  rintro rfl
  unfold Blk at h h'
  rw [h] at h'
  injection h' with h'
  injection h' with _ ht
  exact hne ht

/-- how 'Cover' ends -/
def CoverPost (x : Int) (rows : List (List Int × Bool)) (w : World) (e : Ending) (w' : World) : Prop :=
  ((x < 0 ∨ validB x rows = false) ∧ e = .returned (.tuple #[.slice none 0 0, .int .i64 1]) ∨ (0 ≤ x ∧ validB x rows = true ∧ codeSep rows = false) ∧ e = .returned (.tuple #[.slice none 0 0, .int .i64 5]) ∨
    (0 ≤ x ∧ validB x rows = true ∧ codeSep rows = true) ∧ ∃ A1 c1, e = .returned (.tuple #[.slice A1 (coverL rows).length c1, .int .i64 0]) ∧ ListsAt w' w'.heap.size A1 (coverL rows)) ∧ Below w.heap.size w w'

set_option maxHeartbeats 2000000 in
set_option maxRecDepth 100000 in
theorem Cover_any (x : Int) (hx6 : x ≤ 6) (A : Option Addr) (n c B : Nat) (rows : List (List Int × Bool)) (w : World) (hB : B ≤ w.heap.size) (hr : RowsAt w B A rows) (hn : n = rows.length) (hm : n ≤ 90) (hq : ∀ k, k < rows.length → (sg rows k).length ≤ 6)
    (h64 : ∀ k, k < rows.length → ∀ x ∈ sg rows k, In64 x) (htab : TabOk w)
    (hsy : ∀ N : Nat, validB N rows = true → Signs N (pickTo true rows rows.length)) (hsn : ∀ N : Nat, validB N rows = true → ∀ k, k < (pickTo false rows rows.length).length → ((pickTo false rows rows.length).getD k []).length = N) :
    Calls Tryd.prog 10 #[.int .i64 x, .slice A n c] w (CoverPost x rows w) := by
  have HN := Lib.hid hn; clear hn
  have HQ := Lib.hid hq; clear hq
  have H64 := Lib.hid h64; clear h64
  have HT := Lib.hid htab; clear htab
  have HSY := Lib.hid hsy; clear hsy
  have HSN := Lib.hid hsn; clear hsn
  by_cases hx : x < 0
  · go_enter Tryd.func10, Tryd.ntmps10
    go_wp2_with fail
    go_ret2
    exact ⟨.inl ⟨.inl hx, rfl⟩, .refl _ _⟩
  cases hv : validB x rows
  · have HV := Lib.hid hv; clear hv
    go_enter Tryd.func10, Tryd.ntmps10
    have hval := valid_any x A n c B rows w hB hr HN.out hm HQ.out
    rw [HV.out] at hval
    have HVAL := Lib.hid hval; clear hval
    go_wp2_with (go_at_call 18; refine (HVAL.out).mono ?_; rintro e w1 ⟨rfl, hb1⟩)
    go_ret2
    exact ⟨.inl ⟨.inr HV.out, rfl⟩, hb1⟩
  have HV := Lib.hid hv; clear hv
  have hval := valid_any x A n c B rows w hB hr HN.out hm HQ.out
  rw [HV.out] at hval
  have HVAL := Lib.hid hval; clear hval
  obtain ⟨N, rfl⟩ : ∃ N : Nat, x = (N : Int) := ⟨x.toNat, by omega⟩
  cases hcs : codeSep rows
  · have HC := Lib.hid hcs; clear hcs
    go_enter Tryd.func10, Tryd.ntmps10
    go_wp2_with (go_at_call 18; refine (HVAL.out).mono ?_; rintro e w1 ⟨rfl, hb1⟩; refine Hid.out ?_)
    refine Lib.hid ?_
    have hz1 := hb1.size
    have hsep := Sep_any A n c B rows w1 (by omega) (hr.below (hb1.mono hB)) HN.out (by omega) HQ.out H64.out (HT.out.on hb1)
    rw [HC.out] at hsep
    have HSEP := Lib.hid hsep; clear hsep
    go_wp2_with (go_at_call 16; refine (HSEP.out).mono ?_; rintro e w2 ⟨rfl, hb2⟩)
    go_ret2
    exact ⟨.inr (.inl ⟨⟨by omega, HV.out, HC.out⟩, rfl⟩), hb1.trans (hb2.mono hz1)⟩
  have HC := Lib.hid hcs; clear hcs
  have HSYN := Lib.hid (HSY.out N HV.out)
  have HSNN := Lib.hid (HSN.out N HV.out)
  have hN6 : N ≤ 6 := by omega
  obtain ⟨i9, hi9, hy0, hy1, hy2⟩ := info_parts Tryd.infoTerm
  obtain ⟨i8, hi8, hx0, hx1, hx2⟩ := info_parts Tryd.infoBool
  go_enter Tryd.func10, Tryd.ntmps10
  go_wp2_with (go_at_call 18; refine (HVAL.out).mono ?_; rintro e w1 ⟨rfl, hb1⟩; refine Hid.out ?_)
  refine Lib.hid ?_
  have hz1 := hb1.size
  have hsep := Sep_any A n c B rows w1 (by omega) (hr.below (hb1.mono hB)) HN.out (by omega) HQ.out H64.out (HT.out.on hb1)
  rw [HC.out] at hsep
  have HSEP := Lib.hid hsep; clear hsep
  go_wp2_with (go_at_call 16; refine (HSEP.out).mono ?_; rintro e w2 ⟨rfl, hb2⟩; refine Hid.out ?_)
  refine Lib.hid ?_
  have hd2 := hb1.trans (hb2.mono hz1)
  have hz2 := hd2.size
  have hspl := split_any A n c B rows w2 (by omega) (hr.below (hd2.mono hB)) HN.out (by omega) HQ.out H64.out (HT.out.on hd2)
  have hpl := pickTo_len true rows n
  have hpl2 := pickTo_len false rows n
  have HTL := Lib.hid (show termsL rows = (cvTo (pickTo true rows n) (pickTo false rows n) (pickTo true rows n).length).1 by rw [HN.out]; rfl)
  have HCL := Lib.hid (show coverL rows = (stTo (termsL rows) (pickTo true rows n) (termsL rows).length).1 by rw [HN.out]; rfl)
  rw [← HN.out] at HSYN HSNN
  generalize pickTo true rows n = yes at *
  generalize pickTo false rows n = no at *
  have HSPL := Lib.hid hspl; clear hspl
  go_wp2_with (go_at_call 19; refine (HSPL.out).mono ?_; rintro e w3 ⟨A1, c1, A2, c2, rfl, hly, hln, hb3⟩; refine Hid.out ?_)
  refine Lib.hid ?_
  have hd3 := hd2.trans (hb3.mono hz2)
  have hz3 := hd3.size
  clear hb1 hb2 hb3 hd2 HSEP HSPL HVAL hz1 hz2
  have hmk := fun (W : World) => run_make_bools (P := Tryd.prog) 43 4 i8 Tryd.underlying43 hi8 hx0 hx1 hx2 yes.length (by omega) W
  go_wp2_with fail
  clear hmk
  go_loopg [8, 10, 11, 12, 13, 35] yes.length (fun gn v _ _ _ _ i wr => ∃ (k : Nat) (xs : List Value), k ≤ yes.length ∧ gn = yes.length - k ∧ i = .int .i64 k ∧ Blk wr w3.heap.size 4 (boolArr (cvTo yes no k).2) ∧
    wr.ownsRow w3.heap.size 37 1 v (cvTo yes no k).1.length xs ∧ TermsIn wr xs (cvTo yes no k).1 ∧ (∀ q, q < (cvTo yes no k).1.length → ((cvTo yes no k).1.getD q []).length = N) ∧ Below w3.heap.size w3 wr)
  case atStart => exact ⟨0, [], Nat.zero_le _, rfl, rfl, Blk.new _ _ _, World.ownsRow_nil _ _ _ _, TermsIn.nil _, fun q hq => absurd hq (by simp [cvTo]), (Below.refl _ _).alloc (Nat.le_refl _) _⟩
  case round =>
    obtain ⟨k, xs, hk, hgk, rfl, hbc, hown, hti, htl, hd⟩ := hrel
    have HG := Lib.hid hgk; clear hgk
    have HTLn := Lib.hid htl; clear htl
    obtain ⟨wo, rfl⟩ : ∃ wo : World, wo = wr := ⟨_, rfl⟩
    have hz := hd.size
    have hcl := cvTo_len yes no k
    have HCV := Lib.hid (show cvTo yes no (k + 1) = if bAt (cvTo yes no k).2 k then cvTo yes no k else ((cvTo yes no k).1 ++ [widenT (yes.getD k []) no], covTo (widenT (yes.getD k []) no) yes k (cvTo yes no k).2 (yes.length - k)) from rfl)
    have hlyb := hly.below hd
    have hlnb := hln.below hd
    by_cases hlt : k < yes.length
    · obtain ⟨p1, o1, Ak, ck, rfl, q1, d1, hsk⟩ := hlyb.at_ (k := k) hlt
      obtain ⟨hyl, hyr⟩ := HSYN.out k hlt
      have HYR := Lib.hid hyr; clear hyr
      have hwl := widenT_len (yes.getD k []) no
      have HWT := Lib.hid (show widenT (yes.getD k []) no = (outTo (yes.getD k []) no (yes.getD k []).length).1 from rfl)
      generalize widenT (yes.getD k []) no = t at *
      generalize yes.getD k [] = y at *
      generalize hcv : cvTo yes no k = cv at *
      obtain ⟨ts, cov⟩ := cv
      have HCVK := Lib.hid hcv; clear hcv
      simp only at hbc hown hti HTLn hcl HCV
      have hy6 : y.length ≤ 6 := by omega
      have HYL := Lib.hid hyl; clear hyl
      have HWL := Lib.hid hwl; clear hwl
      have i1 : (k : Int) < yes.length := by omega
      have d2 : wo.cell? ⟨w3.heap.size, k, none⟩ = some (.bool (bAt cov k)) := (hbc.cell k).trans (boolArr_at _ _ (by omega))
      have HCL0 := Lib.hid hcl
      have hts0 : ts.length ≤ k := hcl.2
      clear hcl
      cases hcb : bAt cov k
      · have HCB := Lib.hid hcb; rw [hcb] at d2; clear hcb
        have hwd := widen_any Ak A2 y.length no.length ck c2 w3.heap.size y no wo hz hsk hlnb rfl (by omega) (by omega) HYR.out (fun q hq => by rw [HYL.out]; exact HSNN.out q hq)
        rw [← HWT.out] at hwd
        have HWD := Lib.hid hwd; clear hwd
        go_wp2_with (go_at_call 20; refine (HWD.out).mono ?_; rintro e w4 ⟨rfl, hwb⟩; refine Hid.out ?_)
        refine Lib.hid ?_
        have hb4 := hwb.below
        have ht4 := hwb.t
        have hbc4 := hbc.old hb4
        have hown4 : w4.ownsRow w3.heap.size 37 1 u8 ts.length xs := hown.kept (row := none) ⟨hb4.os, hb4.tape, hb4.output, hb4.size, fun q hq _ => hb4.block q hq⟩ (by cases h : u8.ownBlock <;> simp)
        have hti4 := hti.keep (fun g cs h => h.old hb4)
        have hd4 := hd.trans (hb4.mono hz)
        have hz4 := hd4.size
        clear HWD hwb hbc hown hti hd d1 d2 hlyb hlnb hsk
        have hownA := hown4.alloc (.cells #[.slice (some ⟨wo.heap.size + 1, 0, none⟩) y.length y.length] 37)
        have h63 : ts.length + 1 ≤ maxLen := by unfold maxLen; omega
        have hby : (ts.length + 1) * 24 ≤ 140737488355328 := by omega
        have hbase : w3.heap.size ≤ (w4.alloc (.cells #[.slice (some ⟨wo.heap.size + 1, 0, none⟩) y.length y.length] 37)).heap.size := by simp; omega
        go_wp2_with (at_builtin; refine wpList_append_any _ rfl (.tmp 47) (.tmp 49) _ rfl w3.heap.size 37 i9 _ 1 24 Tryd.underlying25 hi9 hy0 hy1 hy2 rfl (Nat.le_refl _) u8 _ _ rfl hownA _ _ 1 1 _ rfl (Reads.one_new w4 (.slice (some ⟨wo.heap.size + 1, 0, none⟩) y.length y.length) 37) (by intro u hu; simp at hu; subst hu; rfl) h63 hby hbase ?_; intro v5 w5 hown5 hg5 hat5; refine Hid.out ?_)
        refine Lib.hid ?_
        have hbcA := hbc4.alloc (.cells #[.slice (some ⟨wo.heap.size + 1, 0, none⟩) y.length y.length] 37)
        have hbc5 := hbcA.grown hg5 (own_blk_ne hownA hbcA (by decide))
        have hkt : ∀ g cs, Blk w4 g 3 cs → Blk w5 g 3 cs := fun g cs h => (h.alloc _).grown hg5 (own_blk_ne hownA (h.alloc _) (by decide))
        have hti5 := (hti4.keep hkt).snoc (hkt _ _ ht4)
        rw [HWL.out] at hti5
        have ht5 := hkt _ _ ht4
        have hd5 : Below w3.heap.size w3 w5 := (hd4.alloc hz4 _).grown hg5 (by simp; omega) (fun q hq => (hownA.lt q hq).1)
        clear hownA hbcA hg5 hat5 hown4 hti4 hbc4 hd4 hb4 ht4 hkt h63 hby hbase
        have HTI := Lib.hid hti5; clear hti5
        have hz5 := hd5.size
        go_wp2
        go_loopg [13] (yes.length - k) (fun gn j wr => ∃ (q : Nat), q ≤ yes.length - k ∧ gn = yes.length - k - q ∧ j = .int .i64 ((k + q : Nat) : Int) ∧ Blk wr w3.heap.size 4 (boolArr (covTo t yes k cov q)) ∧
          wr.ownsRow w3.heap.size 37 1 v5 (ts.length + 1) (xs ++ [.slice (some ⟨wo.heap.size + 1, 0, none⟩) y.length y.length]) ∧ TermsIn wr (xs ++ [.slice (some ⟨wo.heap.size + 1, 0, none⟩) y.length y.length]) (ts ++ [t]) ∧ Blk wr (wo.heap.size + 1) 3 (intArr t) ∧ Below w3.heap.size w3 wr)
        case atStart => exact ⟨0, Nat.zero_le _, rfl, rfl, hbc5, hown5, HTI.out, ht5, hd5⟩
        case round =>
          clear hbc5 hown5 HTI ht5 hd5
          obtain ⟨q, hq, hgq, rfl, hbc, hown, hti, htb, hd⟩ := hrel
          have HGQ := Lib.hid hgq; clear hgq
          have hz6 := hd.size
          by_cases hlt2 : q < yes.length - k
          · obtain ⟨p2, o2, Aq, cq, e2, q2, d3, hsq⟩ := (hly.below hd).at_ (k := k + q) (by omega)
            obtain ⟨rfl, rfl⟩ : p1 = p2 ∧ o1 = o2 := by simpa using e2
            clear e2
            obtain ⟨hyl2, hyr2⟩ := HSYN.out (k + q) (by omega)
            have HYR2 := Lib.hid hyr2; clear hyr2
            have HS := Lib.hid (show covTo t yes k cov (q + 1) = (covTo t yes k cov q).set (k + q) (bAt (covTo t yes k cov q) (k + q) || permY t yes (k + q)) from rfl)
            have HPY := Lib.hid (show permY t yes (k + q) = permTo t (yes.getD (k + q) []) (yes.getD (k + q) []).length from rfl)
            have hcvl := covTo_len t yes k cov q
            have hcl1 := HCL0.out.1
            generalize covTo t yes k cov q = cq' at *
            generalize yes.getD (k + q) [] = yq at *
            have d4 : wr.cell? ⟨w3.heap.size, k + q, none⟩ = some (.bool (bAt cq' (k + q))) := (hbc.cell (k + q)).trans (boolArr_at _ _ (by omega))
            have f4 := hbc.frozen (k + q)
            have hrt := reads_blk htb
            rw [HWL.out] at hrt
            have hle : yq.length ≤ y.length := by have := HYL.out; omega
            have hle2 : y.length ≤ 1000 := by omega
            have z3 : w3.heap.size ≤ wr.heap.size := hz6
            have hsq' := hsq.more z3
            have i2 : ((k + q : Nat) : Int) < yes.length := by omega
            clear hcvl hcl1 hyl2
            generalize hkq : k + q = kq at *
            have HKQ := Lib.hid hkq; clear hkq
            cases hcb2 : bAt cq' kq
            · have HB2 := Lib.hid hcb2; rw [hcb2] at d4
              go_wp2_with (go_at_call 21; refine (permits_any _ _ _ _ _ _ _ t yq _ hrt hsq' hle hle2 HYR2.out).mono ?_; rintro e w7 ⟨rfl, hd7⟩; refine Hid.out ?_)
              refine Lib.hid ?_
              have d4' := (hd7.cell ⟨w3.heap.size, kq, none⟩).trans d4
              have hbc7 := hbc.drawn hd7
              have f4' := hbc7.frozen kq
              have hown7 : w7.ownsRow w3.heap.size 37 1 v5 (ts.length + 1) (xs ++ [.slice (some ⟨wo.heap.size + 1, 0, none⟩) y.length y.length]) := by obtain ⟨r, rfl⟩ := hd7; exact hown
              have hti7 := hti.keep (fun g cs h => h.drawn hd7)
              have htb7 := htb.drawn hd7
              have hd7' := hd.trans (hd7.below _)
              clear d4 f4 hbc hown htb hd hd7 hrt hsq hsq' d3
              have HTI7 := Lib.hid hti7; clear hti7 hti
              go_wp2
              go_roundg (yes.length - k - (q + 1))
              case rel =>
                refine ⟨q + 1, by omega, rfl, by rw [← HKQ.out]; go_num, ?_, ?_, ?_, htb7.far (fun e => htb7.ne_ hbc7 (by decide) e) _, hd7'.setCell (Nat.le_refl _) _⟩
                · rw [HS.out, HB2.out, HPY.out, ← boolArr_set]
                  exact hbc7.set_ kq _
                · exact hown7.kept (row := some w3.heap.size) ⟨rfl, rfl, rfl, by simp [World.setCell], fun r _ hr => Below.heap_setCell _ _ _ _ (fun e => hr (by rw [e]))⟩ (.inr (fun e => own_blk_ne hown7 hbc7 (by decide) e.symm))
                · exact HTI7.out.keep (fun g cs h => h.far (fun e => h.ne_ hbc7 (by decide) e) _)
              case measure => have := HGQ.out; omega
            · have HB2 := Lib.hid hcb2; rw [hcb2] at d4
              clear hsq hsq' d3 hrt
              have HTI7 := Lib.hid hti; clear hti
              go_wp2_with fail
              go_roundg (yes.length - k - (q + 1))
              case rel =>
                refine ⟨q + 1, by omega, rfl, by rw [← HKQ.out]; go_num, ?_, ?_, ?_, htb.far (fun e => htb.ne_ hbc (by decide) e) _, hd.setCell (Nat.le_refl _) _⟩
                · rw [HS.out, HB2.out, ← boolArr_set]
                  exact hbc.set_ kq _
                · exact hown.kept (row := some w3.heap.size) ⟨rfl, rfl, rfl, by simp [World.setCell], fun r _ hr => Below.heap_setCell _ _ _ _ (fun e => hr (by rw [e]))⟩ (.inr (fun e => own_blk_ne hown hbc (by decide) e.symm))
                · exact HTI7.out.keep (fun g cs h => h.far (fun e => h.ne_ hbc (by decide) e) _)
              case measure => have := HGQ.out; omega
          · obtain rfl : q = yes.length - k := by omega
            have e0 : ((k + (yes.length - k) : Nat) : Int) = (yes.length : Int) := by omega
            rw [e0]
            clear e0
            go_wp2
            go_roundg (yes.length - (k + 1))
            case rel =>
              have e : cvTo yes no (k + 1) = (ts ++ [t], covTo t yes k cov (yes.length - k)) := by rw [HCV.out, HCB.out]; rfl
              refine ⟨k + 1, xs ++ [.slice (some ⟨wo.heap.size + 1, 0, none⟩) y.length y.length], by omega, rfl, by go_num, ?_, ?_, ?_, ?_, hd⟩
              · rw [e]; exact hbc
              · rw [e]; simpa using hown
              · rw [e]; exact hti
              · rw [e]
                intro r hr
                by_cases hr2 : r < ts.length
                · have e3 : (ts ++ [t]).getD r [] = ts.getD r [] := by simp [List.getElem?_append_left hr2]
                  rw [e3]; exact HTLn.out r hr2
                · have e4 : r = ts.length := by simp at hr; omega
                  subst e4
                  have e5 : (ts ++ [t]).getD ts.length [] = t := by simp
                  rw [e5]; have := HYL.out; have := HWL.out; omega
            case measure => have := HG.out; omega
      · have HCB := Lib.hid hcb; rw [hcb] at d2; clear hcb
        have HTI := Lib.hid hti; clear hti
        go_wp2_with fail
        go_roundg (yes.length - (k + 1))
        case rel =>
          have e : cvTo yes no (k + 1) = (ts, cov) := by rw [HCV.out, HCB.out]; rfl
          exact ⟨k + 1, xs, by omega, rfl, by go_num, by rw [e]; exact hbc, by rw [e]; exact hown, by rw [e]; exact HTI.out, by rw [e]; exact HTLn.out, hd⟩
        case measure => have := HG.out; omega
    · obtain rfl : k = yes.length := by omega
      obtain ⟨At, ct, hv⟩ := own_slice hown
      subst hv
      have hla := ListsAt.of_own hown hti.slices (Nat.le_refl _)
      have hcl1 := hcl.2
      rw [← HTL.out] at hla hcl1 HTLn hown
      have hne := needed_any At A1 (termsL rows).length yes.length N ct c1 wo.heap.size (termsL rows) yes wo (Nat.le_refl _) hla (hlyb.more hz) rfl rfl (by omega) (by omega) (by omega) HSYN.out HTLn.out
      rw [← HCL.out] at hne
      have HNE := Lib.hid hne; clear hne
      rw [← HTL.out]
      clear hcl hcl1 hla hti hbc hown hlyb hlnb
      go_wp2_with (go_at_call 22; refine (HNE.out).mono ?_; rintro e w9 ⟨A9, c9, rfl, hl9, hb9⟩; refine Hid.out ?_)
      refine Lib.hid ?_
      go_wp2_with fail
      go_ret2
      refine ⟨.inr (.inr ⟨⟨by omega, HV.out, HC.out⟩, A9, c9, rfl, hl9⟩), hd3.trans ((hd.trans (hb9.mono hz)).mono hz3)⟩
end Go.Proofs.YtlfjpfbkkbhhjaaDoor
