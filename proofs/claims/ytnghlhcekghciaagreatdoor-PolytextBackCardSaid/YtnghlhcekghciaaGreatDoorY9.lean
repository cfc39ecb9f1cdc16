/- Cutting and splitting texts: plain laws; PolytextNames. -/
import Derived.Test.YtnghlhcekghciaaGreatDoorY8
import Derived.Test.YtnghlhcekghciaaGreatDoorXG
import Derived.Test.YtnghlhcekghciaaGreatDoorXT
import Derived.Test.YtnghlhcekghciaaGreatDoorXH
namespace Go.Proofs.YtnghlhcekghciaaGreatDoor
open Go.RowKit

theorem idx_no {c : UInt8} : ∀ {l : Bs}, c ∉ l → Lib.index l [c] = -1
  | [], _ => rfl
  | b :: l, h => by
    have hb : c ≠ b := fun e => h (by rw [e]; simp)
    have ih := idx_no (l := l) (fun hh => h (List.mem_cons_of_mem _ hh))
    rw [Lib.index, ih]
    simp [List.isPrefixOf, hb]
theorem idx_at {c : UInt8} (b : Bs) : ∀ {a : Bs}, c ∉ a → Lib.index (a ++ c :: b) [c] = (a.length : Int)
  | [], _ => by
    rw [List.nil_append, Lib.index]
    simp [List.isPrefixOf]
  | d :: a, h => by
    have hd : c ≠ d := fun e => h (by rw [e]; simp)
    have ih := idx_at b (a := a) (fun hh => h (List.mem_cons_of_mem _ hh))
    rw [List.cons_append, Lib.index, ih]
    simp [List.isPrefixOf, hd]
theorem cut_no {c : UInt8} {l : Bs} (h : c ∉ l) : Lib.cut l [c] = (l, [], false) := by
  unfold Lib.cut
  rw [idx_no h]
  rfl
theorem cut_at {c : UInt8} {a : Bs} (b : Bs) (h : c ∉ a) : Lib.cut (a ++ c :: b) [c] = (a, b, true) := by
  unfold Lib.cut
  rw [idx_at b h, if_pos (by omega)]
  simp
theorem countB_bs (c : UInt8) (l : Bs) : Lib.countB ⟨l.toArray⟩ ⟨#[c]⟩ = l.count c := by
  unfold Lib.countB
  exact Lib.count_one c l
theorem parts_no {c : UInt8} {l : Bs} (h : c ∉ l) : partsS c l = [l] := by
  unfold partsS
  rw [countB_bs, List.count_eq_zero.2 h, Lib.splitB_zero]
  simp
theorem parts_at {c : UInt8} {a : Bs} (b : Bs) (h : c ∉ a) : partsS c (a ++ c :: b) = a :: partsS c b := by
  unfold partsS
  rw [countB_bs, countB_bs, List.count_append, List.count_eq_zero.2 h, List.count_cons_self, Nat.zero_add]
  have hi : Lib.indexB ⟨(a ++ c :: b).toArray⟩ ⟨#[c]⟩ = (a.length : Int) := by
    unfold Lib.indexB
    exact idx_at b h
  rw [Lib.splitB_hit _ _ _ _ _ hi, List.map_cons]
  congr 1
  · rw [ByteArray.data_extract]
    simp
  · congr 2
    apply ByteArray.ext
    rw [ByteArray.data_extract]
    apply Array.ext'
    simp [ByteArray.size]
    exact List.take_of_length_le (by omega)
theorem zero_term (ls : List Bs) : termR ls [48] = some (0, (0, 0, 0, 0)) := by
  unfold termR
  rw [parts_no (by decide)]
  rfl
theorem zero_read (ls : List Bs) : readR ls [48] = some [(0, (0, 0, 0, 0))] := by
  unfold readR
  rw [show Lib.hasPrefix ([48] : Bs) [45] = false by decide, show Lib.trimPrefix ([48] : Bs) [45] = [48] by decide, readGo, cut_no (by decide), zero_term]
  rfl
theorem zero_bd (ls : List Bs) : ∀ ts, readR ls [48] = some ts → Bnd ts := fun ts h => by
  rw [zero_read] at h
  injection h with h
  subst h
  refine ⟨by simp, fun t ht => ?_⟩
  rw [List.mem_singleton] at ht
  subst ht
  exact ⟨Nat.pow_pos (by decide), fun j hj => by rcases (by omega : j = 0 ∨ j = 1 ∨ j = 2 ∨ j = 3) with rfl | rfl | rfl | rfl <;> simp [gt]⟩
theorem zero_good (ls : List Bs) : ¬ PBad ls [48] := fun h => h _ (zero_read ls) [] Canon.nil (fun m => by rw [cf_cons]; simp [cf_nil]) (by simp [lvL]) rfl
theorem nil_in (w : World) (B : Nat) : PIn w B none [] 1 1 1 where
  pin := ⟨Reads.none_, by simp⟩
  dl := by simp
  wf := by simp
  mb := by simp
  len := by simp
  nm := by simp [nrm]
theorem one_big : 1 < Big := pw_one (k := 600) (by decide)
theorem canon_zero {P : List Tm} (h : Canon P) (hc : ∀ m, cf P m = cf ([] : List Tm) m) : P = [] := h.unique Canon.nil hc

set_option maxHeartbeats 4000000 in
set_option maxRecDepth 100000 in
theorem NamesLaw_any (a0 : Option Addr) (cap0 : Nat) (ls0 : List Bs) (W : World) (in0 : NArg W W.heap.size a0 cap0 ls0) (htab : TabT W) (hm : MaxL W) :
    Calls Tryz.prog 5 #[.slice a0 ls0.length cap0] W fun e w' => e = .returned (.bool true) ∧ Below W.heap.size W w' := by
  have HT := Lib.hid htab; have H1 := Lib.hid in0; have HM := Lib.hid hm
  clear htab in0 hm
  have HAW := Lib.hid (fun (w : World) (hW : Below W.heap.size W w) => awake_any w (HT.out.on hW))
  have HNW := Lib.hid (fun (w : World) (hW : Below W.heap.size W w) => names_any a0 cap0 W.heap.size ls0 w (H1.out.rd.below hW) H1.out.len H1.out.el)
  have HNA := Lib.hid (fun (w : World) (hW : Below W.heap.size W w) (hn : Nms ls0) => Names_any a0 cap0 W.heap.size ls0 w (H1.out.rd.below hW) H1.out.cap (by have := hn.1; omega) (fun l hl => by have := hn.2 l hl; omega))
  have HNR := Lib.hid (fun (w : World) (hW : Below W.heap.size W w) (hn : Nms ls0) => RNames_any a0 cap0 W.heap.size ls0 w (H1.out.rd.below hW) (by have := hn.1; omega) (fun l hl => by have := hn.2 l hl; omega))
  have HFM := Lib.hid (fun (w : World) (hW : Below W.heap.size W w) (hn : Nms ls0) => Format_any none a0 0 cap0 W.heap.size 1 1 1 [] ls0 w hW.size (nil_in _ _) (by omega) one_big (by omega) ((H1.out.nin hn).below hW) (HT.out.on hW))
  have HTE := Lib.hid (fun (w : World) (hW : Below W.heap.size W w) (hn : Nms ls0) => Terms21_any none a0 0 cap0 W.heap.size 1 1 1 [] ls0 w hW.size (nil_in _ _) (by omega) one_big (by omega) ((H1.out.nin hn).below hW) (HT.out.on hW))
  have HPA := Lib.hid (fun (w : World) (hW : Below W.heap.size W w) (hn : Nms ls0) => Parse_any [48] a0 cap0 W.heap.size ls0 w (by simp) (zero_bd ls0) hW.size ((H1.out.nin hn).below hW) (HT.out.on hW) (HM.out.old hW))
  go_enter Tryz.func5, Tryz.ntmps5
  go_wp2_with fail
  refine (HAW.out _ (Below.refl _ _)).mono ?_
  rintro e w1 ⟨rfl, hb1⟩
  go_wp2_with fail
  refine (HNW.out _ hb1).mono ?_
  rintro e w1' ⟨b, rfl, hn, rfl⟩
  have HN := Lib.hid hn
  clear hn
  cases b with
  | false =>
    go_wp2_with fail
    refine (HAW.out _ hb1).mono ?_
    rintro e w2 ⟨rfl, hb2⟩
    go_wp2_with fail
    go_ret
    exact ⟨rfl, hb1.trans (hb2.mono hb1.size)⟩
  | true =>
    go_wp2_with fail
    refine (HNA.out _ hb1 (HN.out (by trivial))).mono ?_
    rintro e w1' ⟨rfl, rfl⟩
    go_wp2_with fail
    refine (HFM.out _ hb1 (HN.out (by trivial))).mono ?_
    rintro e w2 ⟨hr, hb2⟩
    have hb2' := hb1.trans (hb2.mono hb1.size)
    have k1 : ∃ sv : ByteArray, e = .returned (.tuple #[.string sv, .int .i64 (if namesB ls0 then 0 else 1)]) := by
      rcases hr with ⟨hno, rfl⟩ | ⟨hok, P, hP, hc, hl, rfl⟩
      · rw [hno]; exact ⟨_, rfl⟩
      · obtain rfl := canon_zero hP hc
        rw [hok]
        unfold fmtV
        rw [if_neg (by simp [lvL])]
        exact ⟨_, rfl⟩
    obtain ⟨sv, rfl⟩ := k1
    have HP2 := Lib.hid (HPA.out _ hb2' (HN.out (by trivial)))
    clear hr hb2
    have HZG := Lib.hid (zero_good ls0)
    have HZR := Lib.hid (zero_read ls0)
    generalize hnb : namesB ls0 = nb at *
    have HNB := Lib.hid hnb
    clear hnb
    cases nb with
    | false =>
      go_wp2_with fail
      refine HP2.out.mono ?_
      rintro e w3 ⟨hr, hb3⟩
      have hb3' := hb2'.trans (hb3.mono hb2'.size)
      have k2 : e = .returned (.tuple #[.slice none 0 0, .int .i64 1]) := by
        rcases hr with ⟨_, he⟩ | ⟨hok, _⟩ | ⟨hok, _⟩
        · exact he
        · rw [HNB.out] at hok; cases hok
        · rw [HNB.out] at hok; cases hok
      subst k2
      clear hr hb3
      go_wp2_with fail
      refine (HTE.out _ hb3' (HN.out (by trivial))).mono ?_
      rintro e w4 ⟨hr, hb4⟩
      have hb4' := hb3'.trans (hb4.mono hb3'.size)
      have k3 : e = .returned (.tuple #[.slice none 0 0, .int .i64 1]) := by
        rcases hr with ⟨_, he⟩ | ⟨hok, _⟩ | ⟨hok, _⟩
        · exact he
        · rw [HNB.out] at hok; cases hok
        · rw [HNB.out] at hok; cases hok
      subst k3
      clear hr hb4
      go_wp2_with fail
      refine (HNR.out _ hb4' (HN.out (by trivial))).mono ?_
      rintro e w5 ⟨rfl, hdr⟩
      have hb5 := hb4'.trans (hdr.below _)
      go_wp2_with fail
      go_ret
      exact ⟨rfl, hb5⟩
    | true =>
      go_wp2_with fail
      refine HP2.out.mono ?_
      rintro e w3 ⟨hr, hb3⟩
      have hb3' := hb2'.trans (hb3.mono hb2'.size)
      have k2 : ∃ v : Value, e = .returned (.tuple #[v, .int .i64 0]) := by
        rcases hr with ⟨hno, _⟩ | ⟨_, hbad, _⟩ | ⟨_, ts, A', c', qs, _, _, _, he, _⟩
        · rw [HNB.out] at hno; cases hno
        · exact absurd hbad HZG.out
        · exact ⟨_, he⟩
      obtain ⟨v2, rfl⟩ := k2
      clear hr hb3
      go_wp2_with fail
      refine (HTE.out _ hb3' (HN.out (by trivial))).mono ?_
      rintro e w4 ⟨hr, hb4⟩
      have hb4' := hb3'.trans (hb4.mono hb3'.size)
      have k3 : ∃ v : Value, e = .returned (.tuple #[v, .int .i64 0]) := by
        rcases hr with ⟨hno, _⟩ | ⟨_, ⟨P, hP, hc, hl⟩, _⟩ | ⟨_, P, hP, hc, hl, _, _, A', c', he, _⟩
        · rw [HNB.out] at hno; cases hno
        · obtain rfl := canon_zero hP hc
          simp [lvL] at hl
          omega
        · exact ⟨_, he⟩
      obtain ⟨v3, rfl⟩ := k3
      clear hr hb4
      go_wp2_with fail
      refine (HNR.out _ hb4' (HN.out (by trivial))).mono ?_
      rintro e w5 ⟨rfl, hdr⟩
      have hb5 := hb4'.trans (hdr.below _)
      go_wp2_with fail
      go_ret
      exact ⟨rfl, hb5⟩
end Go.Proofs.YtnghlhcekghciaaGreatDoor
