/- The law FnZoneFlow: its walk. -/
import Derived.Test.YtdfgdeccejcpfaaDoorDrZl
import Derived.Test.YtdfgdeccejcpfaaDoorSpL
import Derived.Test.YtdfgdeccejcpfaaDoorZf
import Derived.Test.YtdfgdeccejcpfaaDoorZl
import Derived.Test.YtdfgdeccejcpfaaDoorAlive
namespace Go.Proofs.YtdfgdeccejcpfaaDoor
open Go.RowKit Go.Deep
set_option linter.unusedSimpArgs false
set_option linter.unusedVariables false

set_option maxRecDepth 100000 in
set_option maxHeartbeats 8000000 in
theorem fnZoneFlow_any (A : Option Addr) (n c : Nat) (bs : List Int) (w : World) (hn : bs.length = n) (hb : ∀ x ∈ bs, U8 x) (hc : n ≤ c) (hcm : c ≤ maxLen) (hR : Reads 1 byteC w w.heap.size A bs) :
    Calls Tryd.prog 6 #[.slice A n c] w fun e w' => e = .returned (.bool true) ∧ Below w.heap.size w w' := by
  unfold maxLen at hcm
  subst hn
  have HR := Lib.hid hR; clear hR
  have HB := Lib.hid hb; clear hb
  have HB_w : Hid (Below w.heap.size w w) := Below.refl _ _
  have hbb : ∀ x : Bool, (x != x) = false := fun x => by simp
  have hnn : ∀ x : Int, (x != x) = false := fun x => by simp
  by_cases hl : ¬ bs.length ≤ 1048576
  · have hl' : (1048576 : Int) < bs.length := by omega
    go_enter Tryd.func6, Tryd.ntmps6
    go_wp2_with fail
    go_ret
    exact ⟨rfl, Below.refl _ _⟩
  have hl : bs.length ≤ 1048576 := by omega
  have hl' : ¬ (1048576 : Int) < bs.length := by omega
  go_enter Tryd.func6, Tryd.ntmps6
  go_wp2_with fail
  with_reducible refine (drawZoneFlow_any A c bs w HR.out HB.out hl hc hcm).mono ?_
  rintro e w1 ⟨nb, A1, A2, A3, A4, c1, c2, c3, c4, ls, on, bs2, zs, rfl, hn7, hl1, hl2, hl3, hz5, hd1, hd2, hd3, hd4, hb1⟩
  have HN_wa : Hid (NetAt (w1.alloc (.cells #[.int .i64 (nb : Int), .slice A1 ls.length c1] 25)) w1.heap.size (nb : Int) (.slice A1 ls.length c1)) := Bk.new _ _ _
  have HB_wa : Hid (Below w.heap.size w (w1.alloc (.cells #[.int .i64 (nb : Int), .slice A1 ls.length c1] 25))) := hb1.alloc hb1.size _
  have HD_wa := Lib.hid (hd1.allocZ (.cells #[.int .i64 (nb : Int), .slice A1 ls.length c1] 25))
  have HE_wa := Lib.hid (hd2.allocZ (.cells #[.int .i64 (nb : Int), .slice A1 ls.length c1] 25))
  have HF_wa := Lib.hid (hd3.allocZ (.cells #[.int .i64 (nb : Int), .slice A1 ls.length c1] 25))
  have HG_wa := Lib.hid (hd4.allocZ (.cells #[.int .i64 (nb : Int), .slice A1 ls.length c1] 25))
  clear hd1 hd2 hd3 hd4 hb1 HR HB
  go_upto_region 4 with fail
  generalize w1.alloc (.cells #[.int .i64 (nb : Int), .slice A1 ls.length c1] 25) = wa at HN_wa HB_wa HD_wa HE_wa HF_wa HG_wa ⊢
  generalize w1.heap.size = g3 at HN_wa ⊢
  have hm1 : ls.length ≤ 1048576 := by omega
  have hm2 : on.length ≤ 1048576 := by omega
  have hm3 : bs2.length ≤ 1048576 := by omega
  have hm4 : zs.length ≤ 1048576 := by omega
  have s0 := HN_wa.out.c0
  have s1 := HN_wa.out.c1
  go_wp2_with fail; ((with_reducible refine (implZoneFlow_any (nb : Int) A1 A2 A3 A4 c1 c2 c3 c4 ls on bs2 zs wa HD_wa.out.reads.1 HE_wa.out.reads.1 HF_wa.out.reads.1 HG_wa.out.reads.1 hm1 hm2 hm3 hm4).mono ?_); rintro e w2 ⟨rfl, hb_w2⟩); have HB_w2 : Hid (Below w.heap.size w w2) := HB_wa.out.trans (hb_w2.mono HB_wa.out.size); have HN_w2 := Lib.hid (HN_wa.out.below hb_w2); have HD_w2 := Lib.hid (HD_wa.out.below hb_w2); have HE_w2 := Lib.hid (HE_wa.out.below hb_w2); have HF_w2 := Lib.hid (HF_wa.out.below hb_w2); have HG_w2 := Lib.hid (HG_wa.out.below hb_w2); clear hb_w2
  clear s0 s1
  have s0 := HN_w2.out.c0
  have s1 := HN_w2.out.c1
  go_wp2_with fail; ((with_reducible refine (specZoneFlow_any (nb : Int) A1 A2 A3 A4 c1 c2 c3 c4 ls on bs2 zs w2 HD_w2.out.reads.1 HE_w2.out.reads.1 HF_w2.out.reads.1 HG_w2.out.reads.1 hm1 hm2 hm3 hm4).mono ?_); rintro e w3 ⟨rfl, hb_w3⟩); have HB_w3 : Hid (Below w.heap.size w w3) := HB_w2.out.trans (hb_w3.mono HB_w2.out.size); have HN_w3 := Lib.hid (HN_w2.out.below hb_w3); have HD_w3 := Lib.hid (HD_w2.out.below hb_w3); have HE_w3 := Lib.hid (HE_w2.out.below hb_w3); have HF_w3 := Lib.hid (HF_w2.out.below hb_w3); have HG_w3 := Lib.hid (HG_w2.out.below hb_w3); clear hb_w3
  clear s0 s1
  have s0 := HN_w3.out.c0
  have s1 := HN_w3.out.c1
  go_wp2_with fail; ((with_reducible refine (implZoneLoad_any (nb : Int) A1 A2 A3 A4 c1 c2 c3 c4 ls on bs2 zs w3 HD_w3.out.reads.1 HE_w3.out.reads.1 HF_w3.out.reads.1 HG_w3.out.reads.1 hm1 hm2 hm3 hm4).mono ?_); rintro e w4 ⟨rfl, hb_w4⟩); have HB_w4 : Hid (Below w.heap.size w w4) := HB_w3.out.trans (hb_w4.mono HB_w3.out.size); clear hb_w4
  clear s0 s1
  go_wp2_with fail; ((with_reducible refine (alive_any w4).mono ?_); rintro e w5 ⟨rfl, hb_w5⟩); have HB_w5 : Hid (Below w.heap.size w w5) := HB_w4.out.trans (hb_w5.mono HB_w4.out.size); clear hb_w5
  go_wp2_with fail
  go_ret
  exact ⟨rfl, HB_w5.out⟩
end Go.Proofs.YtdfgdeccejcpfaaDoor
