/- Contracts: the test whether a bucket is dry at a time; halves. -/
import Derived.Test.YtimogbalkhgplaaE
import Derived.Deep.DeepCutAuto
namespace Go.Proofs.Ytimogbalkhgplaa
open Go.RowKit
set_option linter.unusedSimpArgs false
set_option maxHeartbeats 1000000
attribute [local go_sem] alloc_drewN setCell_drewN max2_mx min2_mn max_two min_two
def dry (d : Bkt) (t : Int) : Bool := decide (d.Level + gainedN d (t - d.At) ≤ 0)
theorem dry_c (d : Bkt) (t : Int) (g : Nat) (hd : d.Ok) (hr : right d = true) (h1 : d.At ≤ t) (h2 : t ≤ 18446744073709551615) (w : World) (hg : At w g d.cells) : Calls Try.prog 24 #[.int .u64 t, .pointer (some ⟨g, 0, none⟩)] w fun e w' => e = .returned (.bool (dry d t)) ∧ Grew w w' := by
  have hr := (right_iff d).1 hr
  have hA := hd.hAt
  have hns2 : 0 ≤ t - d.At ∧ t - d.At ≤ 18446744073709551615 := by omega
  have hgr := gained_range d (t - d.At) hd hns2.1
  have hgc : ∀ W, Calls Try.prog 25 #[d.val, .int .u64 (t - d.At)] W fun e w' => e = .returned (.tuple #[.int .i64 (gainedN d (t - d.At)), .int .u64 (gainedR d (t - d.At))]) ∧ Grew W w' := fun W => gained_c d _ hd hns2 W
  have hdr : dry d t = decide (d.Level + gainedN d (t - d.At) ≤ 0) := rfl
  obtain ⟨ns, hnn⟩ : ∃ ns, t - d.At = ns := ⟨_, rfl⟩
  have hns : IntKind.u64.wrap (t - d.At) = ns := by rw [IntKind.wrap_u64]; omega
  rw [hnn] at hgr hgc hdr
  obtain ⟨gn, hgn⟩ : ∃ gn, gainedN d ns = gn := ⟨_, rfl⟩
  rw [hgn] at hgr hgc hdr
  have HDR := Lib.hid hdr
  have HGC := Lib.hid hgc
  have b1 : -9223372036854775808 ≤ d.Level + gn := by omega
  have b2 : d.Level + gn ≤ 9223372036854775807 := by omega
  have b3 : IntKind.i64.wrap (d.Level + gn) = d.Level + gn := by rw [IntKind.wrap_i64]; omega
  have hc := hg.cell
  have hlt := hg.lt
  have HA := Lib.hid hg
  clear hr hA hns2 hgr hgc hdr hnn hgn hd h1 h2 hg
  go_enter Try.func24, Try.ntmps24
  go_wp2_with fail
  refine (HGC.out _).mono ?_
  rintro e w2 ⟨rfl, hb2⟩
  have hA2 := HA.out.grew hb2
  have HB := Lib.hid hb2
  clear hc hlt hb2 HA
  have hc := hA2.cell
  clear hA2
  go_wp2_with fail
  go_ret
  exact ⟨ret_bool (by rw [HDR.out]), HB.out⟩
theorem halves_c (a b : Int) (g : Nat) (w : World) : Calls Try.prog 26 #[.int .u64 a, .int .u64 b, .func (.func 24) #[] #[.pointer (some ⟨g, 0, none⟩)]] w fun e w' => e = .returned (.func (.func 31) #[] #[.pointer (some ⟨w.heap.size, 0, none⟩), .pointer (some ⟨w.heap.size + 1, 0, none⟩), .pointer (some ⟨w.heap.size + 1 + 1, 0, none⟩)]) ∧
    ((w.alloc (.cells #[.int .u64 a] 22)).alloc (.cells #[.int .u64 b] 22)).alloc (.cells #[.func (.func 24) #[] #[.pointer (some ⟨g, 0, none⟩)]] 48) = w' := by
  go_enter Try.func26, Try.ntmps26
  go_wp2_with fail
  go_ret
  exact ⟨rfl, rfl⟩
end Go.Proofs.Ytimogbalkhgplaa
