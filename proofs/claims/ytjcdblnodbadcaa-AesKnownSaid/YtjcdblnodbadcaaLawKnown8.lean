/- The walk of the law AesKnown. -/
import Derived.Test.YtjcdblnodbadcaaNewBad
import Derived.Test.YtjcdblnodbadcaaLawBack
namespace Go.Proofs.Ytjcdblnodbadcaa
open Go.RowKit
def k32 : List UInt8 := (List.range 32).map UInt8.ofNat
def k16 : List UInt8 := (List.range 16).map fun i => UInt8.ofNat (17 * i)
def x16 : List UInt8 := [0x69, 0xc4, 0xe0, 0xd8, 0x6a, 0x7b, 0x04, 0x30, 0xd8, 0xcd, 0xb7, 0x80, 0x70, 0xb4, 0xc5, 0x5a]
def y16 : List UInt8 := [0xdd, 0xa9, 0x7c, 0xa4, 0x86, 0x4c, 0xdf, 0xe0, 0x6e, 0xaf, 0x70, 0xa0, 0xec, 0x0d, 0x71, 0x91]
def z16 : List UInt8 := [0x8e, 0xa2, 0xb7, 0xca, 0x51, 0x67, 0x45, 0xbf, 0xea, 0xfc, 0x49, 0x90, 0x4b, 0x49, 0x60, 0x89]
theorem seal_x : Cip.sealB (Cip.keys (k32.take 16)) 11 k16 = x16 := by decide +kernel
theorem seal_y : Cip.sealB (Cip.keys (k32.take 24)) 13 k16 = y16 := by decide +kernel
theorem seal_z : Cip.sealB (Cip.keys (k32.take 32)) 15 k16 = z16 := by decide +kernel
theorem set_bytes (L : List UInt8) (k : Nat) (x : UInt8) : (bytes L).toArray.setIfInBounds k (.int .u8 (I x)) = (bytes (L.set k x)).toArray := by
  simp [bytes, List.map_set]
theorem getD_ext {L M : List UInt8} (hl : L.length = M.length) (h : ∀ x, x < M.length → L.getD x 0 = M.getD x 0) : L = M := by
  apply List.ext_getElem hl
  intro i h1 h2
  have := h i h2
  simpa [List.getD, List.getElem?_eq_getElem h1, List.getElem?_eq_getElem h2] using this
theorem k32_len : k32.length = 32 := by decide
theorem k16_len : k16.length = 16 := by decide
theorem k32_get : ∀ x, x < 32 → k32.getD x 0 = UInt8.ofNat x := by decide
theorem k16_get : ∀ x, x < 16 → k16.getD x 0 = UInt8.ofNat (17 * x) := by decide
abbrev zeros33 : Array Value := #[.int .u8 0, .int .u8 0, .int .u8 0, .int .u8 0, .int .u8 0, .int .u8 0, .int .u8 0, .int .u8 0, .int .u8 0, .int .u8 0, .int .u8 0, .int .u8 0, .int .u8 0, .int .u8 0, .int .u8 0, .int .u8 0, .int .u8 0, .int .u8 0, .int .u8 0, .int .u8 0, .int .u8 0, .int .u8 0, .int .u8 0, .int .u8 0, .int .u8 0, .int .u8 0, .int .u8 0, .int .u8 0, .int .u8 0, .int .u8 0, .int .u8 0, .int .u8 0]
theorem x16_len : x16.length = 16 := by decide
theorem y16_len : y16.length = 16 := by decide
theorem z16_len : z16.length = 16 := by decide
/-- what stands while the law's last line runs -/
structure K8 (B : World) (p1 k1 c1 p2 k2 c2 p3 k3 c3 gt gx gy gz : Nat) (w : World) : Prop where
  a : Ci w p1 k1 11 c1 (Cip.keys (k32.take 16))
  b : Ci w p2 k2 13 c2 (Cip.keys (k32.take 24))
  c : Ci w p3 k3 15 c3 (Cip.keys (k32.take 32))
  t : w.rangeAt gt 0 (bytes k16)
  x : w.rangeAt gx 0 (bytes x16)
  y : w.rangeAt gy 0 (bytes y16)
  z : w.rangeAt gz 0 (bytes z16)
  e : Below B.heap.size B w
section
variable {B w w' : World} {p1 k1 c1 p2 k2 c2 p3 k3 c3 gt gx gy gz : Nat}
theorem K8.keep (h : K8 B p1 k1 c1 p2 k2 c2 p3 k3 c3 gt gx gy gz w) (hb : Below w.heap.size w w') (h1 : gt < B.heap.size) (h2 : gx < B.heap.size) (h3 : gy < B.heap.size) (h4 : gz < B.heap.size) : K8 B p1 k1 c1 p2 k2 c2 p3 k3 c3 gt gx gy gz w' :=
  have hs := h.e.size
  ⟨h.a.below hb, h.b.below hb, h.c.below hb, range_below h.t hb (by omega), range_below h.x hb (by omega), range_below h.y hb (by omega), range_below h.z hb (by omega), h.e.trans (hb.mono hs)⟩
theorem K8.drew (h : K8 B p1 k1 c1 p2 k2 c2 p3 k3 c3 gt gx gy gz w) : K8 B p1 k1 c1 p2 k2 c2 p3 k3 c3 gt gx gy gz w.drew :=
  ⟨h.a.drew, h.b.drew, h.c.drew, h.t, h.x, h.y, h.z, h.e.drew⟩
theorem K8.cells (h : K8 B p1 k1 c1 p2 k2 c2 p3 k3 c3 gt gx gy gz w) :
    w.cell? ⟨gx, 0, none⟩ = some (.int .u8 105) ∧ w.cell? ⟨gx, 1, none⟩ = some (.int .u8 196) ∧ w.cell? ⟨gx, 15, none⟩ = some (.int .u8 90) ∧
    w.cell? ⟨gy, 0, none⟩ = some (.int .u8 221) ∧ w.cell? ⟨gy, 1, none⟩ = some (.int .u8 169) ∧ w.cell? ⟨gy, 15, none⟩ = some (.int .u8 145) ∧
    w.cell? ⟨gz, 0, none⟩ = some (.int .u8 142) ∧ w.cell? ⟨gz, 1, none⟩ = some (.int .u8 162) ∧ w.cell? ⟨gz, 15, none⟩ = some (.int .u8 137) :=
  ⟨h.x 0 _ rfl, h.x 1 _ rfl, h.x 15 _ rfl, h.y 0 _ rfl, h.y 1 _ rfl, h.y 15 _ rfl, h.z 0 _ rfl, h.z 1 _ rfl, h.z 15 _ rfl⟩
end
set_option maxRecDepth 100000 in
set_option maxHeartbeats 32000000 in
theorem known_any (w : World) : Calls Try.prog 5 #[] w fun e w' => e = .returned (.bool true) ∧ Below w.heap.size w w' := by
  go_enter Try.func5, Try.ntmps5
  go_upto_region 3 with fail
  have hb1 := hide (show Blk ((w.alloc (.cells zeros33 33)).alloc (.cells zeros34 34)) w.heap.size 33 (bytes (List.replicate 32 0)).toArray from Blk.alloc (Blk.new w 33 zeros33) _)
  have hb2 : Hid (Blk ((w.alloc (.cells zeros33 33)).alloc (.cells zeros34 34)) (w.heap.size + 1) 34 (bytes (List.replicate 16 0)).toArray) := by
    have := Blk.new (w.alloc (.cells zeros33 33)) 34 zeros34
    rw [World.size_alloc] at this
    exact hide this
  have hbe : Below w.heap.size w ((w.alloc (.cells zeros33 33)).alloc (.cells zeros34 34)) := ((Below.refl _ w).alloc (Nat.le_refl _) _).alloc (by simp) _
  have hsz : ((w.alloc (.cells zeros33 33)).alloc (.cells zeros34 34)).heap.size = w.heap.size + 2 := by simp
  generalize ((w.alloc (.cells zeros33 33)).alloc (.cells zeros34 34)) = w1 at *
  have hl0 : (List.replicate 32 (0 : UInt8)).length = 32 := List.length_replicate
  have hl1 : (List.replicate 16 (0 : UInt8)).length = 16 := List.length_replicate
  generalize List.replicate 32 (0 : UInt8) = K0 at *
  generalize List.replicate 16 (0 : UInt8) = T0 at *
  go_wp2_with fail
  go_loopw [3] (fun i wr => ∃ (k : Nat) (L : List UInt8), k ≤ 32 ∧ i = .int .i64 k ∧ L.length = 32 ∧ Hid (∀ x, x < k → L.getD x 0 = UInt8.ofNat x) ∧ Hid (Blk wr w.heap.size 33 (bytes L).toArray) ∧ Hid (Blk wr (w.heap.size + 1) 34 (bytes T0).toArray) ∧ Below w.heap.size w wr ∧ w.heap.size + 2 ≤ wr.heap.size) (fun i _ => 32 - (intOf i).toNat)
  case atStart => exact ⟨0, K0, by omega, rfl, hl0, hide (fun x hx => by omega), hb1, hb2, hbe, by omega⟩
  case round =>
    clear hb1 hb2 hbe hl0 hsz
    obtain ⟨k, L, hk, rfl, hL, hV, hb1, hb2, hbe, hsz⟩ := hrel
    by_cases hlt : k < 32
    · have f0 : wr.cell? ⟨w.heap.size, k, none⟩ = some (.int .u8 (I (L.getD k 0))) := (Blk.cell hb1.out k).trans ((List.getElem?_toArray ..).trans (bytes_get (by omega)))
      have z0 : wr.frozen? ⟨w.heap.size, k, none⟩ = false := Blk.frozen hb1.out k
      have hst := Blk.set_ hb1.out k (.int .u8 (I (UInt8.ofNat k)))
      rw [set_bytes, ← I_ofNat (show k < 256 by omega)] at hst
      have HST := hide hst
      clear hst
      go_wp2_with fail
      go_roundw
      case rel =>
        refine ⟨k + 1, L.set k (UInt8.ofNat k), by omega, by go_num, by rw [List.length_set]; exact hL, hide (fun x hx => ?_), HST, hide (Blk.far hb2.out (by simp) _), hbe.setCell (Nat.le_refl _) _, by simpa using hsz⟩
        rw [set_getD (by omega)]
        by_cases e : x = k
        · rw [if_pos e, e]
        · rw [if_neg e]
          exact hV.out x (by omega)
      case measure => simp only [intOf]; omega
    · obtain rfl : k = 32 := by omega
      have hLk : L = k32 := getD_ext (hL.trans k32_len.symm) (fun x hx => by rw [k32_len] at hx; rw [hV.out x hx, k32_get x hx])
      subst hLk
      clear hV hL
      go_wp2_with fail
      go_loopw [4] (fun i wr => ∃ (k : Nat) (L : List UInt8), k ≤ 16 ∧ i = .int .i64 k ∧ L.length = 16 ∧ Hid (∀ x, x < k → L.getD x 0 = UInt8.ofNat (17 * x)) ∧ Hid (Blk wr (w.heap.size + 1) 34 (bytes L).toArray) ∧ Hid (Blk wr w.heap.size 33 (bytes k32).toArray) ∧ Below w.heap.size w wr ∧ w.heap.size + 2 ≤ wr.heap.size) (fun i _ => 16 - (intOf i).toNat)
      case atStart => exact ⟨0, T0, by omega, rfl, hl1, hide (fun x hx => by omega), hb2, hb1, hbe, hsz⟩
      case round =>
        clear hb1 hb2 hbe hl1 hsz
        obtain ⟨k, L, hk, rfl, hL, hV, hb2, hb1, hbe, hsz⟩ := hrel
        by_cases hlt : k < 16
        · have f0 : wr.cell? ⟨w.heap.size + 1, k, none⟩ = some (.int .u8 (I (L.getD k 0))) := (Blk.cell hb2.out k).trans ((List.getElem?_toArray ..).trans (bytes_get (by omega)))
          have z0 : wr.frozen? ⟨w.heap.size + 1, k, none⟩ = false := Blk.frozen hb2.out k
          have hst := Blk.set_ hb2.out k (.int .u8 (I (UInt8.ofNat (17 * k))))
          rw [set_bytes, ← I_ofNat (show 17 * k < 256 by omega)] at hst
          have hcast : ((17 * k : Nat) : Int) = 17 * (k : Int) := by omega
          rw [hcast] at hst
          have HST := hide hst
          clear hst hcast
          go_wp2_with fail
          go_roundw
          case rel =>
            refine ⟨k + 1, L.set k (UInt8.ofNat (17 * k)), by omega, by go_num, by rw [List.length_set]; exact hL, hide (fun x hx => ?_), HST, hide (Blk.far hb1.out (by simp) _), hbe.setCell (by simp) _, by simpa using hsz⟩
            rw [set_getD (by omega)]
            by_cases e : x = k
            · rw [if_pos e, e]
            · rw [if_neg e]
              exact hV.out x (by omega)
          case measure => simp only [intOf]; omega
        · obtain rfl : k = 16 := by omega
          have hLk : L = k16 := getD_ext (hL.trans k16_len.symm) (fun x hx => by rw [k16_len] at hx; rw [hV.out x hx, k16_get x hx])
          subst hLk
          clear hV hL
          have hr2 := hide (blk_range hb2.out rfl)
          have rd := hide (fun (k : Nat) (hk : k ≤ k32.length) => blk_reads hb1.out rfl hk)
          have hg1 := Blk.lt hb1.out
          have sl : ∀ k, k ≤ 32 → Sl wr (some ⟨w.heap.size, 0, none⟩) k 32 (k32.take k) := fun k hk =>
            ⟨by rw [List.length_take, k32_len]; omega, hk, (fun h => by cases h), rd.out k (by rw [k32_len]; exact hk)⟩
          have SL := hide sl
          clear sl rd hb1 hb2
          go_wp2_with fail
          refine (new_any _ 16 32 _ wr (SL.out 16 (by omega)) (.inl rfl)).mono ?_
          rintro e w2 ⟨⟨p1, kb1, kc1, rfl, ci1⟩, b2⟩
          have hb2 : Below w.heap.size w w2 := hbe.trans (b2.mono hbe.size)
          have sl2 := hide (fun k hk => (SL.out k hk).below b2)
          have hr3 := hide (range_below hr2.out b2 (by omega))
          have c1 := hide ci1
          have hz2 := b2.size
          clear SL hr2 hbe b2 ci1
          go_wp2_with fail
          refine (new_any _ 24 32 _ w2 (sl2.out 24 (by omega)) (.inr (.inl rfl))).mono ?_
          rintro e w3 ⟨⟨p2, kb2, kc2, rfl, ci2⟩, b3⟩
          have hb3 : Below w.heap.size w w3 := hb2.trans (b3.mono hb2.size)
          have sl3 := hide (fun k hk => (sl2.out k hk).below b3)
          have hr4 := hide (range_below hr3.out b3 (by omega))
          have c1' := hide (c1.out.below b3)
          have c2 := hide ci2
          have hz3 := b3.size
          clear sl2 hr3 hb2 b3 ci2 c1
          go_wp2_with fail
          refine (new_any _ 32 32 _ w3 (sl3.out 32 (by omega)) (.inr (.inr rfl))).mono ?_
          rintro e w4 ⟨⟨p3, kb3, kc3, rfl, ci3⟩, b4⟩
          have hb4 : Below w.heap.size w w4 := hb3.trans (b4.mono hb3.size)
          have hr5 := hide (range_below hr4.out b4 (by omega))
          have c1'' := hide (c1'.out.below b4)
          have c2'' := hide (c2.out.below b4)
          have c3'' := hide ci3
          have hz4 := b4.size
          clear sl3 hr4 hb3 b4 ci3 c1' c2
          go_wp2_with fail
          refine (newBad_any _ 17 32 w4 (by decide) (by decide) (by decide)).mono ?_
          rintro e w5 ⟨rfl, rfl⟩
          go_wp2_with fail
          refine (known8_any _).mono ?_
          rintro e w5 ⟨rfl, nd, rfl⟩
          -- END
          have sk16 := hide (size34' k16_len)
          have hz5 : w4.heap.size ≤ (w4.drewN nd).heap.size := Nat.le_refl _
          have d1 := hide (c1''.out.drewN nd)
          have d2 := hide (c2''.out.drewN nd)
          have d3 := hide (c3''.out.drewN nd)
          have hr6 : Hid ((w4.drewN nd).rangeAt (w.heap.size + 1) 0 (bytes k16)) := hr5.out
          have hb5 := Below.drewN hb4 nd
          clear hr5 hb4 c1'' c2'' c3''
          generalize w4.drewN nd = v0 at *
          go_upto_region 17 with fail
          go_wp2_with (with_reducible refine wpList_load_mid rfl 34 (.tmp 2) rfl (w.heap.size + 1) 0 rfl (bytes k16) _ hr6.out Try.underlying34 rfl sk16.out ?_)
          refine (seal_any p1 kb1 11 kc1 k16 _ _ k16_len d1.out).mono ?_
          rintro e u1 ⟨rfl, bb⟩
          rw [seal_x]
          have hs0 := hide (stored34 x16_len u1)
          have hlen : (bytes x16).length = 16 := by rw [bytes_length, x16_len]
          have hq0 := bb.size
          have hstored := hs0.out
          go_upto_region 18 with fail
          clear hstored hlen hs0
          have bn0 : Below v0.heap.size v0 (u1.alloc (.cells (bytes x16).toArray 34)) := bb.alloc bb.size _
          have grx := hide (blk_range (Blk.new u1 34 (bytes x16).toArray) rfl)
          have hl0 : u1.heap.size < (u1.alloc (.cells (bytes x16).toArray 34)).heap.size := by simp
          have d1n0 := hide (d1.out.below bn0)
          have d2n0 := hide (d2.out.below bn0)
          have d3n0 := hide (d3.out.below bn0)
          have hrn0 := hide (range_below hr6.out bn0 (by omega))
          have hbb0 := hb5.trans (bn0.mono hb5.size)
          have hszz0 := bn0.size
          clear d1 d2 d3 hr6 bb  hb5 bn0
          generalize u1.alloc (.cells (bytes x16).toArray 34) = v1 at *
          go_wp2_with (with_reducible refine wpList_load_mid rfl 34 (.tmp 2) rfl (w.heap.size + 1) 0 rfl (bytes k16) _ hrn0.out Try.underlying34 rfl sk16.out ?_)
          refine (seal_any p2 kb2 13 kc2 k16 _ _ k16_len d2n0.out).mono ?_
          rintro e u2 ⟨rfl, bb⟩
          rw [seal_y]
          have hs1 := hide (stored34 y16_len u2)
          have hlen : (bytes y16).length = 16 := by rw [bytes_length, y16_len]
          have hq1 := bb.size
          have hstored := hs1.out
          go_upto_region 19 with fail
          clear hstored hlen hs1
          have bn1 : Below v1.heap.size v1 (u2.alloc (.cells (bytes y16).toArray 34)) := bb.alloc bb.size _
          have gry := hide (blk_range (Blk.new u2 34 (bytes y16).toArray) rfl)
          have hl1 : u2.heap.size < (u2.alloc (.cells (bytes y16).toArray 34)).heap.size := by simp
          have d1n0n1 := hide (d1n0.out.below bn1)
          have d2n0n1 := hide (d2n0.out.below bn1)
          have d3n0n1 := hide (d3n0.out.below bn1)
          have hrn1 := hide (range_below hrn0.out bn1 (by omega))
          have grxn1 := hide (range_below grx.out bn1 (by omega))
          have hbb1 := hbb0.trans (bn1.mono hbb0.size)
          have hszz1 := bn1.size
          clear d1n0 d2n0 d3n0 hrn0 bb grx hbb0 bn1
          generalize u2.alloc (.cells (bytes y16).toArray 34) = v2 at *
          go_wp2_with (with_reducible refine wpList_load_mid rfl 34 (.tmp 2) rfl (w.heap.size + 1) 0 rfl (bytes k16) _ hrn1.out Try.underlying34 rfl sk16.out ?_)
          refine (seal_any p3 kb3 15 kc3 k16 _ _ k16_len d3n0n1.out).mono ?_
          rintro e u3 ⟨rfl, bb⟩
          rw [seal_z]
          have hs2 := hide (stored34 z16_len u3)
          have hlen : (bytes z16).length = 16 := by rw [bytes_length, z16_len]
          have hq2 := bb.size
          have hstored := hs2.out
          go_wp2_with fail
          clear hstored hlen hs2
          have bn2 : Below v2.heap.size v2 (u3.alloc (.cells (bytes z16).toArray 34)) := bb.alloc bb.size _
          have grz := hide (blk_range (Blk.new u3 34 (bytes z16).toArray) rfl)
          have hl2 : u3.heap.size < (u3.alloc (.cells (bytes z16).toArray 34)).heap.size := by simp
          have d1n0n1n2 := hide (d1n0n1.out.below bn2)
          have d2n0n1n2 := hide (d2n0n1.out.below bn2)
          have d3n0n1n2 := hide (d3n0n1.out.below bn2)
          have hrn2 := hide (range_below hrn1.out bn2 (by omega))
          have grxn1n2 := hide (range_below grxn1.out bn2 (by omega))
          have gryn2 := hide (range_below gry.out bn2 (by omega))
          have hbb2 := hbb1.trans (bn2.mono hbb1.size)
          have hszz2 := bn2.size
          clear d1n0n1 d2n0n1 d3n0n1 hrn1 bb grxn1 gry hbb1 bn2
          generalize u3.alloc (.cells (bytes z16).toArray 34) = v3 at *
          have sx16 := size34' x16_len
          have sy16 := size34' y16_len
          have sz16 := size34' z16_len
          have sk16' := sk16.out
          have u34 := Try.underlying34
          generalize hgx : u1.heap.size = gx at *
          generalize hgy : u2.heap.size = gy at *
          generalize hgz : u3.heap.size = gz at *
          have l1 : w.heap.size + 1 < v3.heap.size := by omega
          have l2 : gx < v3.heap.size := by omega
          have l3 : gy < v3.heap.size := by omega
          have l4 : gz < v3.heap.size := by omega
          have hK8 : K8 v3 p1 kb1 kc1 p2 kb2 kc2 p3 kb3 kc3 (w.heap.size + 1) gx gy gz v3 := ⟨d1n0n1n2.out, d2n0n1n2.out, d3n0n1n2.out, hrn2.out, grxn1n2.out, gryn2.out, grz.out, Below.refl _ _⟩
          have he1 : ∀ u : World, (Op.equalIn 10000 34 (.agg (bytes (Cip.openB (Cip.keys (k32.take 16)) 11 x16)).toArray) (.agg (bytes k16).toArray)).run Try.prog u = .ok true u := fun u => by
            rw [← seal_x, Cip.open_seal _ _ k16_len, eql34 k16 k16 k16_len k16_len]
            simp
          have he2 : ∀ u : World, (Op.equalIn 10000 34 (.agg (bytes (Cip.openB (Cip.keys (k32.take 24)) 13 y16)).toArray) (.agg (bytes k16).toArray)).run Try.prog u = .ok true u := fun u => by
            rw [← seal_y, Cip.open_seal _ _ k16_len, eql34 k16 k16 k16_len k16_len]
            simp
          have he3 : ∀ u : World, (Op.equalIn 10000 34 (.agg (bytes (Cip.openB (Cip.keys (k32.take 32)) 15 z16)).toArray) (.agg (bytes k16).toArray)).run Try.prog u = .ok true u := fun u => by
            rw [← seal_z, Cip.open_seal _ _ k16_len, eql34 k16 k16 k16_len k16_len]
            simp
          have HBB := hide hbb2
          clear d1n0n1n2 d2n0n1n2 d3n0n1n2 hrn2 grxn1n2 gryn2 grz sk16 hgx hgy hgz hbb2 hsz hz2 hz3 hz4 hz5 hg1 hq0 hq1 hq2 hl0 hl1 hl2 hszz0 hszz1 hszz2
          simp only [List.append_eq, List.cons_append, List.nil_append]
          refine wp_region_noPanic ?_
          refine wp_region_held_drew (S := K8 v3 p1 kb1 kc1 p2 kb2 kc2 p3 kb3 kc3 (w.heap.size + 1) gx gy gz) (by kernel_rfl) hK8.drew (fun hHeld => ?_)
          refine wpAnyH_take (i := 0) (v := ?v0) rfl (by kernel_rfl) (by kernel_rfl) (by kernel_rfl) (fun _ _ _ h => h) (Or.inl ⟨by rfl, fun u hSu => ?y0⟩) hHeld ?r0
          case y0 =>
              first
                | (go_simp; done)
                | (go_simp; with_reducible rfl)
          simp only [Act.put, List.getElem_toArray, List.getElem_cons_zero, List.setIfInBounds_toArray, List.set_cons_zero, List.set_cons_succ]
          refine wpAnyH_take (i := 1) (v := ?v1) rfl (by kernel_rfl) (by kernel_rfl) (by kernel_rfl) (fun _ _ _ h => h) (Or.inl ⟨by rfl, fun u hSu => ?y1⟩) hHeld ?r1
          case y1 =>
              obtain ⟨m0, m1, m2, m3, m4, m5, m6, m7, m8⟩ := hSu.cells
              clear hSu
              first
                | (go_simp; done)
                | (go_simp; with_reducible rfl)
          simp only [Act.put, List.getElem_toArray, List.getElem_cons_succ, List.getElem_cons_zero, List.setIfInBounds_toArray, List.set_cons_zero, List.set_cons_succ]
          refine wpAnyH_take (i := 2) (v := ?v2) rfl (by kernel_rfl) (by kernel_rfl) (by kernel_rfl) (fun _ _ _ h => h) (Or.inl ⟨by rfl, fun u hSu => ?y2⟩) hHeld ?r2
          case y2 =>
              first
                | (go_simp; done)
                | (go_simp; with_reducible rfl)
          simp only [Act.put, List.getElem_toArray, List.getElem_cons_succ, List.getElem_cons_zero, List.setIfInBounds_toArray, List.set_cons_zero, List.set_cons_succ]
          refine wpAnyH_take (i := 3) (v := ?v3) rfl (by kernel_rfl) (by kernel_rfl) (by kernel_rfl) (fun _ _ _ h => h) (Or.inl ⟨by rfl, fun u hSu => ?y3⟩) hHeld ?r3
          case y3 =>
              first
                | (go_simp; done)
                | (go_simp; with_reducible rfl)
          simp only [Act.put, List.getElem_toArray, List.getElem_cons_succ, List.getElem_cons_zero, List.setIfInBounds_toArray, List.set_cons_zero, List.set_cons_succ]
          refine wpAnyH_take (i := 4) (v := ?v4) rfl (by kernel_rfl) (by kernel_rfl) (by kernel_rfl) (fun _ _ _ h => h) (Or.inl ⟨by rfl, fun u hSu => ?y4⟩) hHeld ?r4
          case y4 =>
              first
                | (go_simp; done)
                | (go_simp; with_reducible rfl)
          simp only [Act.put, List.getElem_toArray, List.getElem_cons_succ, List.getElem_cons_zero, List.setIfInBounds_toArray, List.set_cons_zero, List.set_cons_succ]
          refine wpAnyH_take (i := 5) (v := ?v5) rfl (by kernel_rfl) (by kernel_rfl) (by kernel_rfl) (fun _ _ _ h => h) (Or.inl ⟨by rfl, fun u hSu => ?y5⟩) hHeld ?r5
          case y5 =>
              obtain ⟨m0, m1, m2, m3, m4, m5, m6, m7, m8⟩ := hSu.cells
              clear hSu
              first
                | (go_simp; done)
                | (go_simp; with_reducible rfl)
          simp only [Act.put, List.getElem_toArray, List.getElem_cons_succ, List.getElem_cons_zero, List.setIfInBounds_toArray, List.set_cons_zero, List.set_cons_succ]
          refine wpAnyH_take (i := 6) (v := ?v6) rfl (by kernel_rfl) (by kernel_rfl) (by kernel_rfl) (fun _ _ _ h => h) (Or.inl ⟨by rfl, fun u hSu => ?y6⟩) hHeld ?r6
          case y6 =>
              first
                | (go_simp; done)
                | (go_simp; with_reducible rfl)
          simp only [Act.put, List.getElem_toArray, List.getElem_cons_succ, List.getElem_cons_zero, List.setIfInBounds_toArray, List.set_cons_zero, List.set_cons_succ]
          refine wpAnyH_take (i := 7) (v := ?v7) rfl (by kernel_rfl) (by kernel_rfl) (by kernel_rfl) (fun _ _ _ h => h) (Or.inl ⟨by rfl, fun u hSu => ?y7⟩) hHeld ?r7
          case y7 =>
              first
                | (go_simp; done)
                | (go_simp; with_reducible rfl)
          simp only [Act.put, List.getElem_toArray, List.getElem_cons_succ, List.getElem_cons_zero, List.setIfInBounds_toArray, List.set_cons_zero, List.set_cons_succ]
          refine wpAnyH_take (i := 8) (v := ?v8) rfl (by kernel_rfl) (by kernel_rfl) (by kernel_rfl) (fun _ _ _ h => h) (Or.inl ⟨by rfl, fun u hSu => ?y8⟩) hHeld ?r8
          case y8 =>
              first
                | (go_simp; done)
                | (go_simp; with_reducible rfl)
          simp only [Act.put, List.getElem_toArray, List.getElem_cons_succ, List.getElem_cons_zero, List.setIfInBounds_toArray, List.set_cons_zero, List.set_cons_succ]
          refine wpAnyH_take (i := 9) (v := ?v9) rfl (by kernel_rfl) (by kernel_rfl) (by kernel_rfl) (fun _ _ _ h => h) (Or.inl ⟨by rfl, fun u hSu => ?y9⟩) hHeld ?r9
          case y9 =>
              first
                | (go_simp; done)
                | (go_simp; with_reducible rfl)
          simp only [Act.put, List.getElem_toArray, List.getElem_cons_succ, List.getElem_cons_zero, List.setIfInBounds_toArray, List.set_cons_zero, List.set_cons_succ]
          refine wpAnyH_take (i := 10) (v := ?v10) rfl (by kernel_rfl) (by kernel_rfl) (by kernel_rfl) (fun _ _ _ h => h) (Or.inl ⟨by rfl, fun u hSu => ?y10⟩) hHeld ?r10
          case y10 =>
              obtain ⟨m0, m1, m2, m3, m4, m5, m6, m7, m8⟩ := hSu.cells
              clear hSu
              first
                | (go_simp; done)
                | (go_simp; with_reducible rfl)
          simp only [Act.put, List.getElem_toArray, List.getElem_cons_succ, List.getElem_cons_zero, List.setIfInBounds_toArray, List.set_cons_zero, List.set_cons_succ]
          refine wpAnyH_take (i := 11) (v := ?v11) rfl (by kernel_rfl) (by kernel_rfl) (by kernel_rfl) (fun _ _ _ h => h) (Or.inl ⟨by rfl, fun u hSu => ?y11⟩) hHeld ?r11
          case y11 =>
              first
                | (go_simp; done)
                | (go_simp; with_reducible rfl)
          simp only [Act.put, List.getElem_toArray, List.getElem_cons_succ, List.getElem_cons_zero, List.setIfInBounds_toArray, List.set_cons_zero, List.set_cons_succ]
          refine wpAnyH_take (i := 12) (v := ?v12) rfl (by kernel_rfl) (by kernel_rfl) (by kernel_rfl) (fun _ _ _ h => h) (Or.inl ⟨by rfl, fun u hSu => ?y12⟩) hHeld ?r12
          case y12 =>
              first
                | (go_simp; done)
                | (go_simp; with_reducible rfl)
          simp only [Act.put, List.getElem_toArray, List.getElem_cons_succ, List.getElem_cons_zero, List.setIfInBounds_toArray, List.set_cons_zero, List.set_cons_succ]
          refine wpAnyH_take (i := 13) (v := ?v13) rfl (by kernel_rfl) (by kernel_rfl) (by kernel_rfl) (fun _ _ _ h => h) (Or.inl ⟨by rfl, fun u hSu => ?y13⟩) hHeld ?r13
          case y13 =>
              first
                | (go_simp; done)
                | (go_simp; with_reducible rfl)
          simp only [Act.put, List.getElem_toArray, List.getElem_cons_succ, List.getElem_cons_zero, List.setIfInBounds_toArray, List.set_cons_zero, List.set_cons_succ]
          refine wpAnyH_take (i := 14) (v := ?v14) rfl (by kernel_rfl) (by kernel_rfl) (by kernel_rfl) (fun _ _ _ h => h) (Or.inl ⟨by rfl, fun u hSu => ?y14⟩) hHeld ?r14
          case y14 =>
              first
                | (go_simp; done)
                | (go_simp; with_reducible rfl)
          simp only [Act.put, List.getElem_toArray, List.getElem_cons_succ, List.getElem_cons_zero, List.setIfInBounds_toArray, List.set_cons_zero, List.set_cons_succ]
          refine wpAnyH_take (i := 15) (v := ?v15) rfl (by kernel_rfl) (by kernel_rfl) (by kernel_rfl) (fun _ _ _ h => h) (Or.inl ⟨by rfl, fun u hSu => ?y15⟩) hHeld ?r15
          case y15 =>
              obtain ⟨m0, m1, m2, m3, m4, m5, m6, m7, m8⟩ := hSu.cells
              clear hSu
              first
                | (go_simp; done)
                | (go_simp; with_reducible rfl)
          simp only [Act.put, List.getElem_toArray, List.getElem_cons_succ, List.getElem_cons_zero, List.setIfInBounds_toArray, List.set_cons_zero, List.set_cons_succ]
          refine wpAnyH_take (i := 16) (v := ?v16) rfl (by kernel_rfl) (by kernel_rfl) (by kernel_rfl) (fun _ _ _ h => h) (Or.inl ⟨by rfl, fun u hSu => ?y16⟩) hHeld ?r16
          case y16 =>
              first
                | (go_simp; done)
                | (go_simp; with_reducible rfl)
          simp only [Act.put, List.getElem_toArray, List.getElem_cons_succ, List.getElem_cons_zero, List.setIfInBounds_toArray, List.set_cons_zero, List.set_cons_succ]
          refine wpAnyH_take (i := 17) (v := ?v17) rfl (by kernel_rfl) (by kernel_rfl) (by kernel_rfl) (fun _ _ _ h => h) (Or.inl ⟨by rfl, fun u hSu => ?y17⟩) hHeld ?r17
          case y17 =>
              first
                | (go_simp; done)
                | (go_simp; with_reducible rfl)
          simp only [Act.put, List.getElem_toArray, List.getElem_cons_succ, List.getElem_cons_zero, List.setIfInBounds_toArray, List.set_cons_zero, List.set_cons_succ]
          refine wpAnyH_take (i := 18) (v := ?v18) rfl (by kernel_rfl) (by kernel_rfl) (by kernel_rfl) (fun _ _ _ h => h) (Or.inl ⟨by rfl, fun u hSu => ?y18⟩) hHeld ?r18
          case y18 =>
              first
                | (go_simp; done)
                | (go_simp; with_reducible rfl)
          simp only [Act.put, List.getElem_toArray, List.getElem_cons_succ, List.getElem_cons_zero, List.setIfInBounds_toArray, List.set_cons_zero, List.set_cons_succ]
          refine wpAnyH_take (i := 19) (v := ?v19) rfl (by kernel_rfl) (by kernel_rfl) (by kernel_rfl) (fun _ _ _ h => h) (Or.inl ⟨by rfl, fun u hSu => ?y19⟩) hHeld ?r19
          case y19 =>
              first
                | (go_simp; done)
                | (go_simp; with_reducible rfl)
          simp only [Act.put, List.getElem_toArray, List.getElem_cons_succ, List.getElem_cons_zero, List.setIfInBounds_toArray, List.set_cons_zero, List.set_cons_succ]
          refine wpAnyH_take (i := 20) (v := ?v20) rfl (by kernel_rfl) (by kernel_rfl) (by kernel_rfl) (fun _ _ _ h => h) (Or.inl ⟨by rfl, fun u hSu => ?y20⟩) hHeld ?r20
          case y20 =>
              obtain ⟨m0, m1, m2, m3, m4, m5, m6, m7, m8⟩ := hSu.cells
              clear hSu
              first
                | (go_simp; done)
                | (go_simp; with_reducible rfl)
          simp only [Act.put, List.getElem_toArray, List.getElem_cons_succ, List.getElem_cons_zero, List.setIfInBounds_toArray, List.set_cons_zero, List.set_cons_succ]
          refine wpAnyH_take (i := 21) (v := ?v21) rfl (by kernel_rfl) (by kernel_rfl) (by kernel_rfl) (fun _ _ _ h => h) (Or.inl ⟨by rfl, fun u hSu => ?y21⟩) hHeld ?r21
          case y21 =>
              first
                | (go_simp; done)
                | (go_simp; with_reducible rfl)
          simp only [Act.put, List.getElem_toArray, List.getElem_cons_succ, List.getElem_cons_zero, List.setIfInBounds_toArray, List.set_cons_zero, List.set_cons_succ]
          refine wpAnyH_take (i := 22) (v := ?v22) rfl (by kernel_rfl) (by kernel_rfl) (by kernel_rfl) (fun _ _ _ h => h) (Or.inl ⟨by rfl, fun u hSu => ?y22⟩) hHeld ?r22
          case y22 =>
              first
                | (go_simp; done)
                | (go_simp; with_reducible rfl)
          simp only [Act.put, List.getElem_toArray, List.getElem_cons_succ, List.getElem_cons_zero, List.setIfInBounds_toArray, List.set_cons_zero, List.set_cons_succ]
          refine wpAnyH_take (i := 23) (v := ?v23) rfl (by kernel_rfl) (by kernel_rfl) (by kernel_rfl) (fun _ _ _ h => h) (Or.inl ⟨by rfl, fun u hSu => ?y23⟩) hHeld ?r23
          case y23 =>
              first
                | (go_simp; done)
                | (go_simp; with_reducible rfl)
          simp only [Act.put, List.getElem_toArray, List.getElem_cons_succ, List.getElem_cons_zero, List.setIfInBounds_toArray, List.set_cons_zero, List.set_cons_succ]
          refine wpAnyH_take (i := 24) (v := ?v24) rfl (by kernel_rfl) (by kernel_rfl) (by kernel_rfl) (fun _ _ _ h => h) (Or.inl ⟨by rfl, fun u hSu => ?y24⟩) hHeld ?r24
          case y24 =>
              first
                | (go_simp; done)
                | (go_simp; with_reducible rfl)
          simp only [Act.put, List.getElem_toArray, List.getElem_cons_succ, List.getElem_cons_zero, List.setIfInBounds_toArray, List.set_cons_zero, List.set_cons_succ]
          refine wpAnyH_take (i := 25) (v := ?v25) rfl (by kernel_rfl) (by kernel_rfl) (by kernel_rfl) (fun _ _ _ h => h) (Or.inl ⟨by rfl, fun u hSu => ?y25⟩) hHeld ?r25
          case y25 =>
              obtain ⟨m0, m1, m2, m3, m4, m5, m6, m7, m8⟩ := hSu.cells
              clear hSu
              first
                | (go_simp; done)
                | (go_simp; with_reducible rfl)
          simp only [Act.put, List.getElem_toArray, List.getElem_cons_succ, List.getElem_cons_zero, List.setIfInBounds_toArray, List.set_cons_zero, List.set_cons_succ]
          refine wpAnyH_take (i := 26) (v := ?v26) rfl (by kernel_rfl) (by kernel_rfl) (by kernel_rfl) (fun _ _ _ h => h) (Or.inl ⟨by rfl, fun u hSu => ?y26⟩) hHeld ?r26
          case y26 =>
              first
                | (go_simp; done)
                | (go_simp; with_reducible rfl)
          simp only [Act.put, List.getElem_toArray, List.getElem_cons_succ, List.getElem_cons_zero, List.setIfInBounds_toArray, List.set_cons_zero, List.set_cons_succ]
          refine wpAnyH_take (i := 27) (v := ?v27) rfl (by kernel_rfl) (by kernel_rfl) (by kernel_rfl) (fun _ _ _ h => h) (Or.inl ⟨by rfl, fun u hSu => ?y27⟩) hHeld ?r27
          case y27 =>
              first
                | (go_simp; done)
                | (go_simp; with_reducible rfl)
          simp only [Act.put, List.getElem_toArray, List.getElem_cons_succ, List.getElem_cons_zero, List.setIfInBounds_toArray, List.set_cons_zero, List.set_cons_succ]
          refine wpAnyH_take (i := 28) (v := ?v28) rfl (by kernel_rfl) (by kernel_rfl) (by kernel_rfl) (fun _ _ _ h => h) (Or.inl ⟨by rfl, fun u hSu => ?y28⟩) hHeld ?r28
          case y28 =>
              first
                | (go_simp; done)
                | (go_simp; with_reducible rfl)
          simp only [Act.put, List.getElem_toArray, List.getElem_cons_succ, List.getElem_cons_zero, List.setIfInBounds_toArray, List.set_cons_zero, List.set_cons_succ]
          refine wpAnyH_take (i := 29) (v := ?v29) rfl (by kernel_rfl) (by kernel_rfl) (by kernel_rfl) (fun _ _ _ h => h) (Or.inl ⟨by rfl, fun u hSu => ?y29⟩) hHeld ?r29
          case y29 =>
              first
                | (go_simp; done)
                | (go_simp; with_reducible rfl)
          simp only [Act.put, List.getElem_toArray, List.getElem_cons_succ, List.getElem_cons_zero, List.setIfInBounds_toArray, List.set_cons_zero, List.set_cons_succ]
          refine wpAnyH_take (i := 30) (v := ?v30) rfl (by kernel_rfl) (by kernel_rfl) (by kernel_rfl) (fun _ _ _ h => h) (Or.inl ⟨by rfl, fun u hSu => ?y30⟩) hHeld ?r30
          case y30 =>
              obtain ⟨m0, m1, m2, m3, m4, m5, m6, m7, m8⟩ := hSu.cells
              clear hSu
              first
                | (go_simp; done)
                | (go_simp; with_reducible rfl)
          simp only [Act.put, List.getElem_toArray, List.getElem_cons_succ, List.getElem_cons_zero, List.setIfInBounds_toArray, List.set_cons_zero, List.set_cons_succ]
          refine wpAnyH_take (i := 31) (v := ?v31) rfl (by kernel_rfl) (by kernel_rfl) (by kernel_rfl) (fun _ _ _ h => h) (Or.inl ⟨by rfl, fun u hSu => ?y31⟩) hHeld ?r31
          case y31 =>
              first
                | (go_simp; done)
                | (go_simp; with_reducible rfl)
          simp only [Act.put, List.getElem_toArray, List.getElem_cons_succ, List.getElem_cons_zero, List.setIfInBounds_toArray, List.set_cons_zero, List.set_cons_succ]
          refine wpAnyH_take (i := 32) (v := ?v32) rfl (by kernel_rfl) (by kernel_rfl) (by kernel_rfl) (fun _ _ _ h => h) (Or.inl ⟨by rfl, fun u hSu => ?y32⟩) hHeld ?r32
          case y32 =>
              first
                | (go_simp; done)
                | (go_simp; with_reducible rfl)
          simp only [Act.put, List.getElem_toArray, List.getElem_cons_succ, List.getElem_cons_zero, List.setIfInBounds_toArray, List.set_cons_zero, List.set_cons_succ]
          refine wpAnyH_take (i := 33) (v := ?v33) rfl (by kernel_rfl) (by kernel_rfl) (by kernel_rfl) (fun _ _ _ h => h) (Or.inl ⟨by rfl, fun u hSu => ?y33⟩) hHeld ?r33
          case y33 =>
              first
                | (go_simp; done)
                | (go_simp; with_reducible rfl)
          simp only [Act.put, List.getElem_toArray, List.getElem_cons_succ, List.getElem_cons_zero, List.setIfInBounds_toArray, List.set_cons_zero, List.set_cons_succ]
          refine wpAnyH_take (i := 34) (v := ?v34) rfl (by kernel_rfl) (by kernel_rfl) (by kernel_rfl) (fun _ _ _ h => h) (Or.inl ⟨by rfl, fun u hSu => ?y34⟩) hHeld ?r34
          case y34 =>
              first
                | (go_simp; done)
                | (go_simp; with_reducible rfl)
          simp only [Act.put, List.getElem_toArray, List.getElem_cons_succ, List.getElem_cons_zero, List.setIfInBounds_toArray, List.set_cons_zero, List.set_cons_succ]
          refine wpAnyH_take (i := 35) (v := ?v35) rfl (by kernel_rfl) (by kernel_rfl) (by kernel_rfl) (fun _ _ _ h => h) (Or.inl ⟨by rfl, fun u hSu => ?y35⟩) hHeld ?r35
          case y35 =>
              obtain ⟨m0, m1, m2, m3, m4, m5, m6, m7, m8⟩ := hSu.cells
              clear hSu
              first
                | (go_simp; done)
                | (go_simp; with_reducible rfl)
          simp only [Act.put, List.getElem_toArray, List.getElem_cons_succ, List.getElem_cons_zero, List.setIfInBounds_toArray, List.set_cons_zero, List.set_cons_succ]
          refine wpAnyH_take (i := 36) (v := ?v36) rfl (by kernel_rfl) (by kernel_rfl) (by kernel_rfl) (fun _ _ _ h => h) (Or.inl ⟨by rfl, fun u hSu => ?y36⟩) hHeld ?r36
          case y36 =>
              first
                | (go_simp; done)
                | (go_simp; with_reducible rfl)
          simp only [Act.put, List.getElem_toArray, List.getElem_cons_succ, List.getElem_cons_zero, List.setIfInBounds_toArray, List.set_cons_zero, List.set_cons_succ]
          refine wpAnyH_take (i := 37) (v := ?v37) rfl (by kernel_rfl) (by kernel_rfl) (by kernel_rfl) (fun _ _ _ h => h) (Or.inl ⟨by rfl, fun u hSu => ?y37⟩) hHeld ?r37
          case y37 =>
              first
                | (go_simp; done)
                | (go_simp; with_reducible rfl)
          simp only [Act.put, List.getElem_toArray, List.getElem_cons_succ, List.getElem_cons_zero, List.setIfInBounds_toArray, List.set_cons_zero, List.set_cons_succ]
          refine wpAnyH_take (i := 38) (v := ?v38) rfl (by kernel_rfl) (by kernel_rfl) (by kernel_rfl) (fun _ _ _ h => h) (Or.inl ⟨by rfl, fun u hSu => ?y38⟩) hHeld ?r38
          case y38 =>
              first
                | (go_simp; done)
                | (go_simp; with_reducible rfl)
          simp only [Act.put, List.getElem_toArray, List.getElem_cons_succ, List.getElem_cons_zero, List.setIfInBounds_toArray, List.set_cons_zero, List.set_cons_succ]
          refine wpAnyH_take (i := 39) (v := ?v39) rfl (by kernel_rfl) (by kernel_rfl) (by kernel_rfl) (fun _ _ _ h => h) (Or.inl ⟨by rfl, fun u hSu => ?y39⟩) hHeld ?r39
          case y39 =>
              first
                | (go_simp; done)
                | (go_simp; with_reducible rfl)
          simp only [Act.put, List.getElem_toArray, List.getElem_cons_succ, List.getElem_cons_zero, List.setIfInBounds_toArray, List.set_cons_zero, List.set_cons_succ]
          refine wpAnyH_take (i := 40) (v := ?v40) rfl (by kernel_rfl) (by kernel_rfl) (by kernel_rfl) (fun _ _ _ h => h) (Or.inl ⟨by rfl, fun u hSu => ?y40⟩) hHeld ?r40
          case y40 =>
              obtain ⟨m0, m1, m2, m3, m4, m5, m6, m7, m8⟩ := hSu.cells
              clear hSu
              first
                | (go_simp; done)
                | (go_simp; with_reducible rfl)
          simp only [Act.put, List.getElem_toArray, List.getElem_cons_succ, List.getElem_cons_zero, List.setIfInBounds_toArray, List.set_cons_zero, List.set_cons_succ]
          refine wpAnyH_take (i := 41) (v := ?v41) rfl (by kernel_rfl) (by kernel_rfl) (by kernel_rfl) (fun _ _ _ h => h) (Or.inl ⟨by rfl, fun u hSu => ?y41⟩) hHeld ?r41
          case y41 =>
              first
                | (go_simp; done)
                | (go_simp; with_reducible rfl)
          simp only [Act.put, List.getElem_toArray, List.getElem_cons_succ, List.getElem_cons_zero, List.setIfInBounds_toArray, List.set_cons_zero, List.set_cons_succ]
          refine wpAnyH_take (i := 42) (v := ?v42) rfl (by kernel_rfl) (by kernel_rfl) (by kernel_rfl) (fun _ _ _ h => h) (Or.inl ⟨by rfl, fun u hSu => ?y42⟩) hHeld ?r42
          case y42 =>
              first
                | (go_simp; done)
                | (go_simp; with_reducible rfl)
          simp only [Act.put, List.getElem_toArray, List.getElem_cons_succ, List.getElem_cons_zero, List.setIfInBounds_toArray, List.set_cons_zero, List.set_cons_succ]
          refine wpAnyH_take (i := 43) (v := ?v43) rfl (by kernel_rfl) (by kernel_rfl) (by kernel_rfl) (fun _ _ _ h => h) (Or.inl ⟨by rfl, fun u hSu => ?y43⟩) hHeld ?r43
          case y43 =>
              first
                | (go_simp; done)
                | (go_simp; with_reducible rfl)
          simp only [Act.put, List.getElem_toArray, List.getElem_cons_succ, List.getElem_cons_zero, List.setIfInBounds_toArray, List.set_cons_zero, List.set_cons_succ]
          refine wpAnyH_take (i := 44) (v := ?v44) rfl (by kernel_rfl) (by kernel_rfl) (by kernel_rfl) (fun _ _ _ h => h) (Or.inl ⟨by rfl, fun u hSu => ?y44⟩) hHeld ?r44
          case y44 =>
              first
                | (go_simp; done)
                | (go_simp; with_reducible rfl)
          simp only [Act.put, List.getElem_toArray, List.getElem_cons_succ, List.getElem_cons_zero, List.setIfInBounds_toArray, List.set_cons_zero, List.set_cons_succ]
          refine wpAnyH_take (i := 45) (v := .agg (bytes x16).toArray) rfl (by kernel_rfl) (by kernel_rfl) (by kernel_rfl) (fun _ _ _ h => h) (yieldsIf_load_mid (by rfl) 34 (.tmp 13) rfl (gx) 0 rfl (bytes x16) _ (fun u hSu => hSu.x) u34 rfl sx16) hHeld ?_
          simp only [Act.put, List.getElem_toArray, List.getElem_cons_succ, List.getElem_cons_zero, List.setIfInBounds_toArray, List.set_cons_zero, List.set_cons_succ]
          refine wpAnyH_take (i := 47) (v := .agg (bytes k16).toArray) rfl (by kernel_rfl) (by kernel_rfl) (by kernel_rfl) (fun _ _ _ h => h) (yieldsIf_load_mid (by rfl) 34 (.tmp 2) rfl (w.heap.size + 1) 0 rfl (bytes k16) _ (fun u hSu => hSu.t) u34 rfl sk16') hHeld ?_
          simp only [Act.put, List.getElem_toArray, List.getElem_cons_succ, List.getElem_cons_zero, List.setIfInBounds_toArray, List.set_cons_zero, List.set_cons_succ]
          refine wpAnyH_ready (rs := [46]) (by kernel_rfl) (by simp) ?_
          refine AllReadyH.cons rfl (fun K hK => ?_) AllReadyH.nil
          go_simp
          refine (open_any p1 kb1 11 kc1 x16 _ _ x16_len hHeld.a).mono ?_
          rintro e w' ⟨rfl, hbs⟩
          go_wp2_with fail
          refine hK.out _ _ (hHeld.keep hbs l1 l2 l3 l4) (fun hHeld => ?_)
          clear hK K hbs
          refine wpAnyH_take (i := 48) (v := ?v48) rfl (by kernel_rfl) (by kernel_rfl) (by kernel_rfl) (fun _ _ _ h => h) (Or.inl ⟨by rfl, fun u hSu => ?y48⟩) hHeld ?r48
          case y48 =>
              first
                | (go_simp; done)
                | (go_simp; with_reducible rfl)
          simp only [Act.put, List.getElem_toArray, List.getElem_cons_succ, List.getElem_cons_zero, List.setIfInBounds_toArray, List.set_cons_zero, List.set_cons_succ]
          refine wpAnyH_take (i := 49) (v := ?v49) rfl (by kernel_rfl) (by kernel_rfl) (by kernel_rfl) (fun _ _ _ h => h) (Or.inl ⟨by rfl, fun u hSu => ?y49⟩) hHeld ?r49
          case y49 =>
              first
                | (go_simp; done)
                | (go_simp; with_reducible rfl)
          simp only [Act.put, List.getElem_toArray, List.getElem_cons_succ, List.getElem_cons_zero, List.setIfInBounds_toArray, List.set_cons_zero, List.set_cons_succ]
          refine wpAnyH_take (i := 50) (v := ?v50) rfl (by kernel_rfl) (by kernel_rfl) (by kernel_rfl) (fun _ _ _ h => h) (Or.inl ⟨by rfl, fun u hSu => ?y50⟩) hHeld ?r50
          case y50 =>
              first
                | (go_simp; done)
                | (go_simp; with_reducible rfl)
          simp only [Act.put, List.getElem_toArray, List.getElem_cons_succ, List.getElem_cons_zero, List.setIfInBounds_toArray, List.set_cons_zero, List.set_cons_succ]
          refine wpAnyH_take (i := 51) (v := ?v51) rfl (by kernel_rfl) (by kernel_rfl) (by kernel_rfl) (fun _ _ _ h => h) (Or.inl ⟨by rfl, fun u hSu => ?y51⟩) hHeld ?r51
          case y51 =>
              first
                | (go_simp; done)
                | (go_simp; with_reducible rfl)
          simp only [Act.put, List.getElem_toArray, List.getElem_cons_succ, List.getElem_cons_zero, List.setIfInBounds_toArray, List.set_cons_zero, List.set_cons_succ]
          refine wpAnyH_take (i := 52) (v := .agg (bytes y16).toArray) rfl (by kernel_rfl) (by kernel_rfl) (by kernel_rfl) (fun _ _ _ h => h) (yieldsIf_load_mid (by rfl) 34 (.tmp 14) rfl (gy) 0 rfl (bytes y16) _ (fun u hSu => hSu.y) u34 rfl sy16) hHeld ?_
          simp only [Act.put, List.getElem_toArray, List.getElem_cons_succ, List.getElem_cons_zero, List.setIfInBounds_toArray, List.set_cons_zero, List.set_cons_succ]
          refine wpAnyH_take (i := 54) (v := .agg (bytes k16).toArray) rfl (by kernel_rfl) (by kernel_rfl) (by kernel_rfl) (fun _ _ _ h => h) (yieldsIf_load_mid (by rfl) 34 (.tmp 2) rfl (w.heap.size + 1) 0 rfl (bytes k16) _ (fun u hSu => hSu.t) u34 rfl sk16') hHeld ?_
          simp only [Act.put, List.getElem_toArray, List.getElem_cons_succ, List.getElem_cons_zero, List.setIfInBounds_toArray, List.set_cons_zero, List.set_cons_succ]
          refine wpAnyH_ready (rs := [53]) (by kernel_rfl) (by simp) ?_
          refine AllReadyH.cons rfl (fun K hK => ?_) AllReadyH.nil
          go_simp
          refine (open_any p2 kb2 13 kc2 y16 _ _ y16_len hHeld.b).mono ?_
          rintro e w' ⟨rfl, hbs⟩
          go_wp2_with fail
          refine hK.out _ _ (hHeld.keep hbs l1 l2 l3 l4) (fun hHeld => ?_)
          clear hK K hbs
          refine wpAnyH_take (i := 55) (v := ?v55) rfl (by kernel_rfl) (by kernel_rfl) (by kernel_rfl) (fun _ _ _ h => h) (Or.inl ⟨by rfl, fun u hSu => ?y55⟩) hHeld ?r55
          case y55 =>
              first
                | (go_simp; done)
                | (go_simp; with_reducible rfl)
          simp only [Act.put, List.getElem_toArray, List.getElem_cons_succ, List.getElem_cons_zero, List.setIfInBounds_toArray, List.set_cons_zero, List.set_cons_succ]
          refine wpAnyH_take (i := 56) (v := ?v56) rfl (by kernel_rfl) (by kernel_rfl) (by kernel_rfl) (fun _ _ _ h => h) (Or.inl ⟨by rfl, fun u hSu => ?y56⟩) hHeld ?r56
          case y56 =>
              first
                | (go_simp; done)
                | (go_simp; with_reducible rfl)
          simp only [Act.put, List.getElem_toArray, List.getElem_cons_succ, List.getElem_cons_zero, List.setIfInBounds_toArray, List.set_cons_zero, List.set_cons_succ]
          refine wpAnyH_take (i := 57) (v := ?v57) rfl (by kernel_rfl) (by kernel_rfl) (by kernel_rfl) (fun _ _ _ h => h) (Or.inl ⟨by rfl, fun u hSu => ?y57⟩) hHeld ?r57
          case y57 =>
              first
                | (go_simp; done)
                | (go_simp; with_reducible rfl)
          simp only [Act.put, List.getElem_toArray, List.getElem_cons_succ, List.getElem_cons_zero, List.setIfInBounds_toArray, List.set_cons_zero, List.set_cons_succ]
          refine wpAnyH_take (i := 58) (v := ?v58) rfl (by kernel_rfl) (by kernel_rfl) (by kernel_rfl) (fun _ _ _ h => h) (Or.inl ⟨by rfl, fun u hSu => ?y58⟩) hHeld ?r58
          case y58 =>
              first
                | (go_simp; done)
                | (go_simp; with_reducible rfl)
          simp only [Act.put, List.getElem_toArray, List.getElem_cons_succ, List.getElem_cons_zero, List.setIfInBounds_toArray, List.set_cons_zero, List.set_cons_succ]
          refine wpAnyH_take (i := 59) (v := .agg (bytes z16).toArray) rfl (by kernel_rfl) (by kernel_rfl) (by kernel_rfl) (fun _ _ _ h => h) (yieldsIf_load_mid (by rfl) 34 (.tmp 15) rfl (gz) 0 rfl (bytes z16) _ (fun u hSu => hSu.z) u34 rfl sz16) hHeld ?_
          simp only [Act.put, List.getElem_toArray, List.getElem_cons_succ, List.getElem_cons_zero, List.setIfInBounds_toArray, List.set_cons_zero, List.set_cons_succ]
          refine wpAnyH_take (i := 61) (v := .agg (bytes k16).toArray) rfl (by kernel_rfl) (by kernel_rfl) (by kernel_rfl) (fun _ _ _ h => h) (yieldsIf_load_mid (by rfl) 34 (.tmp 2) rfl (w.heap.size + 1) 0 rfl (bytes k16) _ (fun u hSu => hSu.t) u34 rfl sk16') hHeld ?_
          simp only [Act.put, List.getElem_toArray, List.getElem_cons_succ, List.getElem_cons_zero, List.setIfInBounds_toArray, List.set_cons_zero, List.set_cons_succ]
          refine wpAnyH_ready (rs := [60]) (by kernel_rfl) (by simp) ?_
          refine AllReadyH.cons rfl (fun K hK => ?_) AllReadyH.nil
          go_simp
          refine (open_any p3 kb3 15 kc3 z16 _ _ z16_len hHeld.c).mono ?_
          rintro e w' ⟨rfl, hbs⟩
          go_wp2_with fail
          refine hK.out _ _ (hHeld.keep hbs l1 l2 l3 l4) (fun hHeld => ?_)
          clear hK K hbs
          refine wpAnyH_take (i := 62) (v := ?v62) rfl (by kernel_rfl) (by kernel_rfl) (by kernel_rfl) (fun _ _ _ h => h) (Or.inl ⟨by rfl, fun u hSu => ?y62⟩) hHeld ?r62
          case y62 =>
              first
                | (go_simp; done)
                | (go_simp; with_reducible rfl)
          simp only [Act.put, List.getElem_toArray, List.getElem_cons_succ, List.getElem_cons_zero, List.setIfInBounds_toArray, List.set_cons_zero, List.set_cons_succ]
          refine wpAnyH_take (i := 63) (v := ?v63) rfl (by kernel_rfl) (by kernel_rfl) (by kernel_rfl) (fun _ _ _ h => h) (Or.inl ⟨by rfl, fun u hSu => ?y63⟩) hHeld ?r63
          case y63 =>
              first
                | (go_simp; done)
                | (go_simp; with_reducible rfl)
          simp only [Act.put, List.getElem_toArray, List.getElem_cons_succ, List.getElem_cons_zero, List.setIfInBounds_toArray, List.set_cons_zero, List.set_cons_succ]
          refine wpAnyH_take (i := 64) (v := ?v64) rfl (by kernel_rfl) (by kernel_rfl) (by kernel_rfl) (fun _ _ _ h => h) (Or.inl ⟨by rfl, fun u hSu => ?y64⟩) hHeld ?r64
          case y64 =>
              first
                | (go_simp; done)
                | (go_simp; with_reducible rfl)
          simp only [Act.put, List.getElem_toArray, List.getElem_cons_succ, List.getElem_cons_zero, List.setIfInBounds_toArray, List.set_cons_zero]
          refine wpAnyH_done (by kernel_rfl) ?_ _
          refine NoPanic.normal ?_
          go_wp2_with fail
          go_ret
          exact ⟨rfl, HBB.out.trans (hHeld.e.mono HBB.out.size)⟩
end Go.Proofs.Ytjcdblnodbadcaa
