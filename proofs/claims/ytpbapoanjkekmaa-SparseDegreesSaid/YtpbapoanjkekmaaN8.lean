/- Contracts of natural.product and Mul, where one of the two numbers has fewer than 48 digits. -/
import Derived.Test.YtpbapoanjkekmaaN7
namespace Go.Proofs.Ytpbapoanjkekmaa
open Go.RowKit

set_option maxHeartbeats 1000000 in
set_option maxRecDepth 100000 in
theorem product_few (A A' : Option Addr) (c c' B : Nat) (a b : List Nat) (w : World) (hB : B ≤ w.heap.size) (hm : a.length + b.length ≤ 900000) (h48 : a.length < 48 ∨ b.length < 48)
    (r1 : Reads w B 1 A a.length (u32s a)) (r2 : Reads w B 1 A' b.length (u32s b)) (g1 : Dig a) (g2 : Dig b) :
    Calls Try.prog 73 #[.slice A a.length c, .slice A' b.length c'] w (ProdRes (a.length + b.length) (val a * val b) w) := by
  by_cases hlt : a.length < b.length
  · have hs := school_any A A' c c' B a b w hB hm r1 r2 g1 g2
    have HS := Lib.hid hs
    have h48' : a.length < 48 := by omega
    clear hs g1 g2 h48
    go_enter Try.func73, Try.ntmps73
    go_wp2_with fail
    refine HS.out.mono ?_
    rintro e w1 ⟨A1, c1, zs, rfl, h1, h2, h3, h4, h5, h6⟩
    have H2 := Lib.hid h2; have H3 := Lib.hid h3; have H4 := Lib.hid h4
    clear h2 h3 h4
    go_wp2_with fail
    go_ret
    exact ⟨A1, c1, zs, rfl, h1, H2.out, H3.out, H4.out, h5, h6⟩
  · have hs := school_any A' A c' c B b a w hB (by omega) r2 r1 g2 g1
    have HS := Lib.hid hs
    have h48' : b.length < 48 := by omega
    clear hs g1 g2 h48
    go_enter Try.func73, Try.ntmps73
    go_wp2_with fail
    refine HS.out.mono ?_
    rintro e w1 ⟨A1, c1, zs, rfl, h1, h2, h3, h4, h5, h6⟩
    rw [Nat.add_comm] at h2
    rw [Nat.mul_comm] at h4
    have H2 := Lib.hid h2; have H3 := Lib.hid h3; have H4 := Lib.hid h4
    clear h2 h3 h4
    go_wp2_with fail
    go_ret
    exact ⟨A1, c1, zs, rfl, h1, H2.out, H3.out, H4.out, h5, h6⟩

set_option maxHeartbeats 1000000 in
set_option maxRecDepth 100000 in
theorem Mul_any (A A' : Option Addr) (c c' B : Nat) (ds es : List Nat) (w : World) (hB : B ≤ w.heap.size) (hc : ds.length ≤ c) (hc' : es.length ≤ c') (hm : ds.length + es.length ≤ 900000) (h48 : ds.length < 48 ∨ es.length < 48)
    (hr : Reads w B 1 A ds.length (u32s ds)) (hr' : Reads w B 1 A' es.length (u32s es)) (hd : Dig ds) (hd' : Dig es) :
    Calls Try.prog 51 #[.slice A ds.length c, .slice A' es.length c'] w (NatRes (val ds * val es) w) := by
  have h1 := trim_any A c B ds w hc (by omega) hr hd
  have h2 := trim_any A' c' B es w hc' (by omega) hr' hd'
  have l1 := dig_len_le hd
  have l2 := dig_len_le hd'
  have h3 := product_few A A' c c' B (dig (val ds)) (dig (val es)) w hB (by omega) (by omega) (reads_dig hr hd) (reads_dig hr' hd') (dig_dig _) (dig_dig _)
  rw [val_dig, val_dig] at h3
  have HN : Hid (dig (val ds) = dig (val ds)) := rfl
  generalize val ds = x at *
  generalize val es = y at *
  generalize dig x = a at *
  generalize dig y = b at *
  have H1 := Lib.hid h1; have H2 := Lib.hid h2; have H3 := Lib.hid h3
  clear h1 h2 h3 hr hr' hd hd' HN
  go_enter Try.func51, Try.ntmps51
  go_wp2_with fail
  refine (H1.out).mono ?_
  rintro e w1 ⟨rfl, rfl⟩
  go_wp2_with fail
  refine (H2.out).mono ?_
  rintro e w1 ⟨rfl, rfl⟩
  go_wp2_with fail
  refine (H3.out).mono ?_
  rintro e w1 ⟨A1, c1, zs, rfl, k1, k2, k3, k4, k5, k6⟩
  have h4 := trim_any A1 c1 _ zs w1 k1 (by omega) k5.reads k3
  have r4 := k5.dig k3
  have l4 := dig_len_le k3
  rw [k4] at h4 r4 l4
  generalize hws : dig (x * y) = ws at *
  have HW := Lib.hid hws; have H4 := Lib.hid h4
  clear hws h4 k2 k3 k4 k5
  go_wp2_with fail
  refine (H4.out).mono ?_
  rintro e w5 ⟨rfl, rfl⟩
  go_wp2_with fail
  go_ret
  exact ⟨A1, c1, by rw [HW.out]; rfl, by rw [HW.out]; omega, by rw [HW.out]; exact r4, k6⟩
end Go.Proofs.Ytpbapoanjkekmaa
