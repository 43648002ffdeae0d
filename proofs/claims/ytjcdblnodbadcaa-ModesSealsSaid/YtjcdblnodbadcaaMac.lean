/- The walk of modes.Mac. -/
import Derived.Test.YtjcdblnodbadcaaMSeal
import Derived.Test.YtjcdblnodbadcaaTwice
namespace Go.Proofs.Ytjcdblnodbadcaa
open Go.RowKit

theorem made16 : madeCells #[Value.int .u8 0] 16 = (bytes (List.replicate 16 0)).toArray := by
  apply Array.toList_inj.1
  rw [toList_madeCells_one]
  simp [bytes, I]
theorem t16_zero : (Cip.t16 fun _ => (0 : UInt8)) = List.replicate 16 0 := by decide
theorem ahead_pos {n : Nat} (h : 16 < n) : Mod.ahead n = Mod.ahead (n - 16) + 1 := by unfold Mod.ahead; omega
theorem ahead_zero {n : Nat} (h : n ≤ 16) : Mod.ahead n = 0 := by unfold Mod.ahead; omega
/-- the text's end in a block of zeros -/
theorem fill_of {Z r : List UInt8} (hZ : Z = List.replicate 16 0) (h : r.length < 16) : (r ++ Z.drop r.length).set r.length 0x80 = Mod.fill r := by
  subst hZ
  have hl : ((r ++ (List.replicate 16 (0 : UInt8)).drop r.length).set r.length 0x80).length = 16 := by simp; omega
  rw [← Cip.t16_self hl]
  refine Cip.t16_congr fun i hi => ?_
  rw [set_getD (by simp; omega)]
  by_cases e : i = r.length
  · rw [if_pos e, if_pos e]
  · rw [if_neg e, if_neg e]
    simp only [List.getD]
    by_cases h1 : i < r.length
    · rw [List.getElem?_append_left h1]
    · rw [List.getElem?_append_right (by omega), List.getElem?_eq_none (show r.length ≤ i by omega), List.drop_replicate, List.getElem?_replicate]
      split <;> rfl
set_option maxRecDepth 100000 in
set_option maxHeartbeats 3200000 in
theorem mac_any (A D : Option Addr) (n c m f : Nat) (l t : List UInt8) (w : World) (h : Sl w A n c l) (h'' : Sl w D m f t) (hl : n = 16 ∨ n = 24 ∨ n = 32) :
    Calls Try.prog 34 #[.slice A n c, .slice D m f] w fun e w' => ∃ g, e = .returned (.tuple #[.slice (some ⟨g, 0, none⟩) 16 16, .int .i64 0]) ∧ Sl w' (some ⟨g, 0, none⟩) 16 16 (Mod.mac (Cip.keys l) (n / 4 + 7) t) ∧ Below w.heap.size w w' := by
  obtain ⟨i0, hi, hz0, hz1, hz2⟩ := info_parts info5
  obtain ⟨Z, hZ⟩ : ∃ Z : List UInt8, Z = List.replicate 16 0 := ⟨_, rfl⟩
  have hzl : Z.length = 16 := by rw [hZ]; exact List.length_replicate
  have hmk : ∀ u : World, (Instr.makeSlice 26 (.int .i64 16) (.int .i64 16)).run Try.prog u =
      .ok (.slice (some ⟨u.heap.size, 0, none⟩) 16 16) (u.alloc (.cells (bytes Z).toArray 5)) := fun u => by
    have h := run_make (P := Try.prog) u 26 5 i0 (.int .u8 0) Try.underlying26 hi hz0 .i64 .i64 16 16 (by omega) (Int.le_refl _) (by rw [hz2]; omega) (by omega)
    rw [hZ, ← made16]
    simpa [hz1, Value.cells] using h
  have hb0 := Blk.new w 5 (bytes Z).toArray
  have hrd := blk_reads (k := 16) hb0 rfl (by omega)
  have hsiv : Sl (w.alloc (.cells (bytes Z).toArray 5)) (some ⟨w.heap.size, 0, none⟩) 16 16 Z :=
    ⟨hzl.symm, Nat.le_refl _, (fun h => by cases h), by rw [List.take_of_length_le (by omega)] at hrd; exact hrd⟩
  have hmt := hide h''.1
  have hmf := hide h''.2.1
  have H1 := hide (h.alloc (.cells (bytes Z).toArray 5))
  have hbe0 : Below w.heap.size w (w.alloc (.cells (bytes Z).toArray 5)) := (Below.refl _ w).alloc (Nat.le_refl _) _
  have H3 := hide (h''.reads.below hbe0)
  have SIV := hide hsiv
  have HL := hide hl
  have HZ := hide hZ
  have HZL := hide hzl
  have hz34 : (bytes Z).toArray = zeros34 := by rw [hZ]; rfl
  have HZ34 := hide hz34
  clear h h'' hl hb0 hrd hsiv hZ hzl hz34
  go_enter Try.func34, Try.ntmps34
  go_wp2_with fail
  refine (cipherOk_any A _ n c 16 l Z _ H1.out SIV.out HL.out).mono ?_
  rintro e w2 ⟨⟨p, kb, kc, rfl, ci⟩, b2⟩
  have hbe2 := hbe0.trans (b2.mono hbe0.size)
  have hlen : (bytes Z).length = 16 := by rw [bytes_length, HZL.out]
  have hstored := stored34 HZL.out w2
  have H3' := hide (H3.out.below (b2.mono hbe0.size))
  have CI := hide ci
  clear H3 H1 SIV ci b2 hbe0 hmk
  go_upto_region 4 with fail
  have hb7 := hide (Blk.new w2 34 (bytes Z).toArray)
  have hwa : w2.heap.size < (w2.alloc (.cells (bytes Z).toArray 34)).heap.size := by simp
  have hal := (Below.refl w2.heap.size w2).alloc (Nat.le_refl _) (.cells (bytes Z).toArray 34)
  have CI3 := hide (CI.out.below hal)
  have H3b := hide (H3'.out.below (hal.mono hbe2.size))
  have hbe3 := hbe2.trans (hal.mono hbe2.size)
  have hwg7 : w.heap.size ≤ w2.heap.size := hbe2.size
  clear hlen hstored H3' CI hal hbe2
  generalize (w2.alloc (.cells (bytes Z).toArray 34)) = w3 at *
  generalize hall : Cip.keys l = all at *
  generalize hnr : n / 4 + 7 = nr at *
  have HALL := hide hall
  have HNR := hide hnr
  have hnr2 : 2 ≤ nr := by omega
  clear hall hnr
  generalize hg7 : w2.heap.size = g7 at *
  have hr7 := hide (blk_whole hb7.out)
  have s16 := hide (size34' HZL.out)
  go_wp2_with (with_reducible refine wpList_load_mid rfl 34 (.tmp 7) rfl g7 0 rfl (bytes Z) _ hr7.out Try.underlying34 rfl s16.out ?_)
  refine (seal_any p kb nr kc Z all w3 HZL.out CI3.out).mono ?_
  rintro e w4 ⟨rfl, b4⟩
  go_wp2_with fail
  refine (twice_any (Cip.sealB all nr Z) w4 (Cip.sealB_length _ _ _)).mono ?_
  rintro e w5 ⟨rfl, b5⟩
  have hk1 : (Mod.twice (Cip.sealB all nr Z)).length = 16 := Cip.t16_length _
  have hlen : (bytes (Mod.twice (Cip.sealB all nr Z))).length = 16 := by rw [bytes_length, hk1]
  have hstored := stored34 hk1 w5
  have hbc : Below w3.heap.size w3 w5 := b4.trans (b5.mono b4.size)
  have hmac : Hid (Mod.mac all nr t = Cip.sealB all nr (Mod.xor (if (t.drop (16 * Mod.ahead t.length)).length < 16 then Mod.xor (Mod.fill (t.drop (16 * Mod.ahead t.length))) (Mod.twice (Mod.twice (Cip.sealB all nr Z))) else Mod.xor (t.drop (16 * Mod.ahead t.length)) (Mod.twice (Cip.sealB all nr Z))) (Mod.cbcLast all nr (Mod.ahead t.length) Z t))) := by
    unfold Hid Mod.mac
    rw [t16_zero, ← HZ.out]
  generalize Mod.twice (Cip.sealB all nr Z) = k1 at *
  go_upto_region 5 with fail
  have hb9 := hide (Blk.new w5 34 (bytes k1).toArray)
  have hal := (Below.refl w5.heap.size w5).alloc (Nat.le_refl _) (.cells (bytes k1).toArray 34)
  have hbd := hbc.trans (hal.mono hbc.size)
  have CI6 := hide (CI3.out.below hbd)
  have H3c := hide (H3b.out.below (hbd.mono hbe3.size))
  have hb7' := hide (Blk.below hb7.out hbd hwa)
  have hbe6 := hide (hbe3.trans (hbd.mono hbe3.size))
  have hg79 : g7 < w5.heap.size := Nat.lt_of_lt_of_le hwa hbc.size
  clear hb7 hlen hstored CI3 H3b hal hbd hbe3 hr7 s16 b4 b5 hbc
  generalize (w5.alloc (.cells (bytes k1).toArray 34)) = w6 at *
  generalize hg9 : w5.heap.size = g9 at *
  clear hg7 hg9 hwa
  go_wp2_with fail
  go_loopw [1] (fun v1 wr => ∃ (n' c' : Nat) (A' : Option Addr) (last rem : List UInt8), v1 = .slice A' n' c' ∧ n' ≤ c' ∧ rem.length = n' ∧ last.length = 16 ∧ Hid (Mod.cbcLast all nr (Mod.ahead t.length) Z t = Mod.cbcLast all nr (Mod.ahead n') last rem) ∧ Hid (t.drop (16 * Mod.ahead t.length) = rem.drop (16 * Mod.ahead n')) ∧ Hid (Reads wr w.heap.size 1 A' n' (bytes rem)) ∧ Hid (Blk wr g7 34 (bytes last).toArray) ∧ Hid (Blk wr g9 34 (bytes k1).toArray) ∧ Hid (Ci wr p kb nr kc all) ∧ Hid (Below w.heap.size w wr)) (fun v _ => sliceLen v)
  case atStart => exact ⟨m, f, D, Z, t, rfl, hmf.out, hmt.out.symm, HZL.out, hide (by rw [← hmt.out]), hide (by rw [← hmt.out]), H3c, hb7', hb9, CI6, hbe6⟩
  case round =>
    clear H3c hb7' hb9 CI6 hbe6 hmf
    obtain ⟨n', c', A', last, rem, rfl, hnc, hrl, hll, hC, hD, HR, hb7, hb9, CI, hbe⟩ := hrel
    by_cases hlr : 16 < n'
    · obtain ⟨ad, rfl, hab, _⟩ := HR.out.2 (by omega)
      have hn16 : 16 ≤ n' := by omega
      have hat : ∀ u : World, (Instr.arrayAt 34 (.slice (some ad) n' c')).run Try.prog u = .ok (.pointer (some ad)) u := fun u => run_arrayAt u 34 5 16 _ n' c' Try.underlying34 hn16
      have hR : Reads wr w.heap.size 1 (some ad) 16 (bytes (rem.take 16)) := ⟨by rw [bytes_length, List.length_take]; omega, fun _ => by
        obtain ⟨ad', e, hb, hc⟩ := HR.out.2 (by omega)
        refine ⟨ad', e, hb, fun j u hj => hc j u ?_⟩
        rw [bytes_take, List.getElem?_take] at hj
        split at hj
        · exact hj
        · cases hj⟩
      have hx : (rem.take 16).length = 16 := by rw [List.length_take]; omega
      have hC2 : Mod.cbcLast all nr (Mod.ahead t.length) Z t = Mod.cbcLast all nr (Mod.ahead (n' - 16)) (Cip.sealB all nr (Mod.xor (rem.take 16) last)) (rem.drop 16) := by
        rw [hC.out, ahead_pos hlr]
        rfl
      have hD2 : t.drop (16 * Mod.ahead t.length) = (rem.drop 16).drop (16 * Mod.ahead (n' - 16)) := by
        rw [hD.out, ahead_pos hlr, List.drop_drop]
        congr 1
        omega
      have hcut0 := hide (HR.out.cut (k := 16) hn16 hnc)
      have HRR := hide hR
      have HC := hide hC2
      have HD := hide hD2
      have HX := hide hx
      have HLL := hide hll
      have HRL := hide hrl
      generalize rem.take 16 = x at *
      have hnp : (16 : Int) < (n' : Int) := by omega
      clear hR hC2 hD2 hC hD hx hll hrl HR hab
      have hww := hbe.out.size
      go_wp2_with fail
      refine wp_region_noPanic ?_
      refine wp_region_held_drew (S := fun u => Reads u w.heap.size 1 (some ad) 16 (bytes x) ∧ w.heap.size ≤ u.heap.size) (by kernel_rfl) (⟨HRR.out.drew, hww⟩) (fun hHeld => ?_)
      refine wpAnyH_take (i := 0) (v := ?v0) rfl (by kernel_rfl) (by kernel_rfl) (by kernel_rfl) (fun _ _ _ h => h) (Or.inl ⟨by rfl, fun u hSu => ?y0⟩) hHeld ?r0
      case y0 =>
          first
            | (go_simp; done)
            | (go_simp; with_reducible rfl)
      simp only [Act.put, List.getElem_toArray, List.getElem_cons_zero, List.setIfInBounds_toArray, List.set_cons_zero, List.set_cons_succ]
      refine wpAnyH_take (i := 1) (v := ?v1) rfl (by kernel_rfl) (by kernel_rfl) (by kernel_rfl) (fun _ _ _ h => h) (Or.inl ⟨by rfl, fun u hSu => ?y1⟩) hHeld ?r1
      case y1 =>
          first
            | (go_simp; done)
            | (go_simp; with_reducible rfl)
      simp only [Act.put, List.getElem_toArray, List.getElem_cons_succ, List.getElem_cons_zero, List.setIfInBounds_toArray, List.set_cons_zero, List.set_cons_succ]
      refine wpAnyH_take (i := 2) (v := ?v2) rfl (by kernel_rfl) (by kernel_rfl) (by kernel_rfl) (fun _ _ _ h => h) (Or.inl ⟨by rfl, fun u hSu => ?y2⟩) hHeld ?r2
      case y2 =>
          first
            | (go_simp; done)
            | (go_simp; with_reducible rfl)
      simp only [Act.put, List.getElem_toArray, List.getElem_cons_succ, List.getElem_cons_zero, List.setIfInBounds_toArray, List.set_cons_zero, List.set_cons_succ]
      refine wpAnyH_take (i := 3) (v := .agg (bytes x).toArray) rfl (by kernel_rfl) (by kernel_rfl) (by kernel_rfl) (fun _ _ _ h => h) (yieldsIf_load_at (by rfl) 34 (.tmp 32) rfl (ad) rfl _ (fun u hSu => load34_at hSu.1 HX.out)) hHeld ?_
      simp only [Act.put, List.getElem_toArray, List.getElem_cons_succ, List.getElem_cons_zero, List.setIfInBounds_toArray, List.set_cons_zero, List.set_cons_succ]
      refine wpAnyH_ready (rs := [4]) (by kernel_rfl) (by simp) ?_
      refine AllReadyH.cons rfl (fun K hK => ?_) AllReadyH.nil
      rw [if_pos (by rfl)]
      refine wp_load_mid 34 (.tmp 7) rfl g7 0 rfl (bytes last) _ (blk_whole (Blk.drew hb7.out)) Try.underlying34 rfl (size34' HLL.out) ?_
      refine hK.out _ _ (hHeld) (fun hHeld => ?_)
      simp only [Act.put, List.getElem_toArray, List.getElem_cons_succ, List.getElem_cons_zero]
      clear hK K
      refine wpAnyH_ready (rs := [5]) (by kernel_rfl) (by simp) ?_
      refine AllReadyH.cons rfl (fun K hK => ?_) AllReadyH.nil
      go_simp
      refine (xor_any x last _ HX.out HLL.out).mono ?_
      rintro e w7 ⟨rfl, hb5⟩
      go_wp2_with fail
      refine hK.out _ _ (⟨hHeld.1.below (hb5.mono hHeld.2), Nat.le_trans hHeld.2 hb5.size⟩) (fun hHeld => ?_)
      clear hK K
      have CI5 := hide ((CI.out.drew).below hb5)
      have hb75 := hide (Blk.below (Blk.drew hb7.out) hb5 (Blk.lt hb7.out))
      have hb95 := hide (Blk.below (Blk.drew hb9.out) hb5 (Blk.lt hb9.out))
      refine wpAnyH_ready (rs := [6]) (by kernel_rfl) (by simp) ?_
      refine AllReadyH.cons rfl (fun K hK => ?_) AllReadyH.nil
      go_simp
      refine (seal_any p kb nr kc (Mod.xor x last) all _ (Mod.xor_length _ _) CI5.out).mono ?_
      rintro e w8 ⟨rfl, hb6⟩
      go_wp2_with fail
      refine hK.out _ _ (⟨hHeld.1.below (hb6.mono hHeld.2), Nat.le_trans hHeld.2 hb6.size⟩) (fun hHeld => ?_)
      clear hK K
      have CI6 := hide (CI5.out.below hb6)
      have hb76 := hide (Blk.below hb75.out hb6 (Blk.lt hb75.out))
      have hb96 := hide (Blk.below hb95.out hb6 (Blk.lt hb95.out))
      generalize hnew : Cip.sealB all nr (Mod.xor x last) = new at HC
      have hnl : new.length = 16 := by rw [← hnew]; exact Cip.sealB_length _ _ _
      refine wpAnyH_ready (rs := [7]) (by kernel_rfl) (by simp) ?_
      refine AllReadyH.cons rfl (fun K hK => ?_) AllReadyH.nil
      rw [if_pos (by rfl)]
      refine wp_store34 (.tmp 7) (.tmp 36) rfl (g7) (bytes last).toArray new rfl rfl (hb76.out) hnl (by rw [List.size_toArray, bytes_length, HLL.out]) ?_
      refine hK.out _ _ (⟨hHeld.1.setRow hwg7 _, by simpa [World.setRow] using hHeld.2⟩) (fun hHeld => ?_)
      simp only [Act.put, List.getElem_toArray, List.getElem_cons_succ, List.getElem_cons_zero]
      clear hK K
      have hne := CI6.out.ne_blk hnr2 hb76.out (by rw [List.size_toArray, bytes_length, HLL.out])
      have CI7 := hide (CI6.out.kept (only_setRow w8 g7 (bytes new).toArray) (fun h => hne.1 (by injection h)) (fun h => hne.2 (by injection h)))
      have hb77 := hide (Blk.setRow hb76.out (bytes new).toArray)
      have hb97 := hide (Blk.setRow_far hb96.out (show g9 ≠ g7 by omega) (bytes new).toArray)
      have hbw := (hbe.out.drew.trans (hb5.mono hww)).trans (hb6.mono (Nat.le_trans hww hb5.size))
      have hbe7 := hide (below_setRow hbw hwg7 (bytes new).toArray)
      have hcut7 := hide (((hcut0.out.drew.below (hb5.mono hww)).below (hb6.mono (Nat.le_trans hww hb5.size))).setRow hwg7 (bytes new).toArray)
      refine wpAnyH_done (by kernel_rfl) ?_ _
      refine NoPanic.normal ?_
      clear hcut0 HRR hb5 hb6 CI5 CI6 hb75 hb76 hb95 hb96 hbe hb7 hb9 CI hat hHeld hnew hne hbw
      generalize w8.setRow g7 (bytes new).toArray = w9 at *
      have hnp2 : 16 ≤ n' := by omega
      by_cases hc16 : c' = 16
      all_goals
        go_wp2_with fail
        go_roundw
        case rel =>
          refine ⟨_, _, _, new, rem.drop 16, rfl, by omega, by have := HRL.out; rw [List.length_drop]; omega, hnl, HC, HD, hide ?_, hb77, hb97, CI7, hbe7⟩
          have hq := hcut7.out
          rw [bytes_drop]
          rw [Nat.mul_one] at hq
          first
            | (rw [if_pos hc16] at hq; exact hq)
            | (rw [if_pos hc16] at hq; subst hc16; exact hq)
            | (rw [if_neg hc16] at hq; exact hq)
        case measure => simp only [sliceLen]; omega
    · have hlr' : n' ≤ 16 := by omega
      rw [ahead_zero hlr', Nat.mul_zero, List.drop_zero] at hD
      rw [ahead_zero hlr'] at hC
      have HC : Hid (Mod.cbcLast all nr (Mod.ahead t.length) Z t = last) := hC
      clear hC
      have hm1 := hmac.out
      rw [HC.out, hD.out] at hm1
      have HM := hide hm1
      clear hm1 hmac hD HC
      go_upto_region 9 with fail
      have hb10 := hide (show Blk (wr.alloc (.cells zeros34 34)) wr.heap.size 34 (bytes Z).toArray by rw [HZ34.out]; exact Blk.new _ _ _)
      have hal := (Below.refl wr.heap.size wr).alloc (Nat.le_refl _) (.cells zeros34 34)
      have hbe9 := hide (hbe.out.trans (hal.mono hbe.out.size))
      have HR9 := hide (HR.out.below (hal.mono hbe.out.size))
      have hb79 := hide (Blk.below hb7.out hal (Blk.lt hb7.out))
      have hb99 := hide (Blk.below hb9.out hal (Blk.lt hb9.out))
      have CI9 := hide (CI.out.below hal)
      have hg7l := Blk.lt hb7.out
      have hg9l := Blk.lt hb9.out
      have hpl := CI.out.lt
      have hkl := CI.out.ltk
      have hwl : w.heap.size ≤ wr.heap.size := hbe.out.size
      have hRL := hide hrl
      have hLL := hide hll
      clear hb7 hb9 CI HR hbe hal hrl hll
      generalize wr.alloc (.cells zeros34 34) = w9 at *
      generalize wr.heap.size = g10 at *
      go_cut [10] (fun v wc => v = .pointer (some ⟨g10, 0, none⟩) ∧ Hid (Blk wc g10 34 (bytes (rem ++ Z.drop n')).toArray) ∧ Hid (Below g10 w9 wc))
      case first =>
        have q1 : (bytes rem).length = Nat.min n' 16 := by rw [bytes_length, hRL.out]; exact (Nat.min_eq_left hlr').symm
        have q2 : 0 < (bytes rem).length → (some (⟨g10, 0, none⟩ : Addr)) = some ⟨g10, 0, none⟩ ∧ ∃ ad, A' = some ad ∧ ∀ j v, (bytes rem)[j]? = some v → w9.cell? (ad.add j) = some v := fun h0 => by
          obtain ⟨ad, e, _, hc⟩ := HR9.out.2 (by rw [bytes_length, hRL.out] at h0; exact h0)
          exact ⟨rfl, ad, e, hc⟩
        have q3 : 0 + (bytes rem).length ≤ (bytes Z).length := by rw [bytes_length, bytes_length, hRL.out, HZL.out]; omega
        have Q1 := hide q1
        have Q2 := hide q2
        have Q3 := hide q3
        clear q1 q2 q3
        go_wp2_with (refine wpList_copy_splice rfl (.tmp 37) (.tmp 38) 26 26 rfl 5 Try.underlying26 size5 (some ⟨g10, 0, none⟩) A' 16 16 n' c' rfl rfl g10 0 (bytes Z) 34 hb10.out (bytes rem) Q1.out Q2.out Q3.out (bytes_one rem) g10 w9 (Below.refl g10 w9) (Nat.le_refl _) ?_; intro w10 HG hbk)
        go_meet
        case rel =>
          refine ⟨rfl, hide ?_, hide hbk⟩
          have e : splice (bytes Z) 0 (bytes rem) = bytes (rem ++ Z.drop n') := by
            unfold splice
            rw [List.take_zero, List.nil_append, Nat.zero_add, bytes_append, bytes_drop, bytes_length, hRL.out]
          rw [← e]
          exact HG.out
      case rest =>
        obtain ⟨rfl, hbE, hbk⟩ := hcut
        have hb7c := hide (Blk.below hb79.out hbk.out hg7l)
        have hb9c := hide (Blk.below hb99.out hbk.out hg9l)
        have CIc := hide (show Ci wc p kb nr kc all from ⟨Blk.below CI9.out.blk hbk.out hpl, by obtain ⟨cur, hk, hc⟩ := CI9.out.keys; exact ⟨cur, Blk.below hk hbk.out hkl, hc⟩, CI9.out.one, CI9.out.few, CI9.out.room⟩)
        have hbec := hide (hbe9.out.trans (hbk.out.mono hwl))
        have hEl : (rem ++ Z.drop n').length = 16 := by rw [List.length_append, List.length_drop, hRL.out, HZL.out]; omega
        have HEL := hide hEl
        clear hb10 hb79 hb99 CI9 hbe9 HR9 hbk hEl
        go_upto_if 42 with fail
        go_cut [9] (fun v wd => v = .pointer (some ⟨g9, 0, none⟩) ∧ Hid (Blk wd g10 34 (bytes (if rem.length < 16 then Mod.fill rem else rem)).toArray) ∧ Hid (Blk wd g9 34 (bytes (if rem.length < 16 then Mod.twice k1 else k1)).toArray) ∧ Hid (Blk wd g7 34 (bytes last).toArray) ∧ Hid (Ci wd p kb nr kc all) ∧ Hid (Below w.heap.size w wd))
        case first =>
          by_cases hlt : n' < 16
          · have hfl : (rem ++ Z.drop n').set n' 0x80 = Mod.fill rem := by
              have := fill_of HZ.out (show rem.length < 16 by rw [hRL.out]; exact hlt)
              rw [hRL.out] at this
              exact this
            have f0 := blk_byte hbE.out (show n' < (rem ++ Z.drop n').length by rw [HEL.out]; exact hlt)
            have z0 : wc.frozen? ⟨g10, n', none⟩ = false := Blk.frozen hbE.out _
            have hput := blk_put hbE.out n' 0x80
            rw [hfl] at hput
            rw [show (I 0x80) = (128 : Int) from rfl] at hput
            generalize (rem ++ Z.drop n').getD n' 0 = x at f0
            have HPUT := hide hput
            clear hput hfl
            go_upto_region 12 with fail
            have hb7d := hide (Blk.far hb7c.out (show g7 ≠ g10 by omega) (p := ⟨g10, n', none⟩) (.int .u8 128))
            have hb9d := hide (Blk.far hb9c.out (show g9 ≠ g10 by omega) (p := ⟨g10, n', none⟩) (.int .u8 128))
            have CId := hide (CIc.out.kept (only_set (World.grownBy.refl wc (some g10)) n' (.int .u8 128)) (fun h => by injection h with h; omega) (fun h => by injection h with h; omega))
            have hbed := hide (hbec.out.setCell hwl (p := ⟨g10, n', none⟩) (.int .u8 128))
            clear hb7c hb9c CIc hbec f0 z0 hbE
            generalize wc.setCell ⟨g10, n', none⟩ (.int .u8 128) = w11 at *
            have hr9 := hide (blk_whole hb9d.out)
            have hk16 := hide (size34' hk1)
            go_wp2_with (with_reducible refine wpList_load_mid rfl 34 (.tmp 9) rfl g9 0 rfl (bytes k1) _ hr9.out Try.underlying34 rfl hk16.out ?_)
            refine (twice_any k1 w11 hk1).mono ?_
            rintro e w12 ⟨rfl, b12⟩
            have htl : (Mod.twice k1).length = 16 := Cip.t16_length _
            have hb9e := hide (Blk.below hb9d.out b12 (Blk.lt hb9d.out))
            have hlen : (bytes (Mod.twice k1)).length = 16 := by rw [bytes_length, htl]
            have hstored := stored34' htl hb9e.out (by rw [List.size_toArray, bytes_length, hk1])
            go_wp2_with fail
            go_meet
            case rel =>
              have hne := (CId.out.below b12).ne_blk hnr2 hb9e.out (by rw [List.size_toArray, bytes_length, hk1])
              have hc : rem.length < 16 := by rw [hRL.out]; exact hlt
              rw [if_pos hc, if_pos hc]
              exact ⟨rfl, hide (Blk.setRow_far (Blk.below HPUT.out b12 (Blk.lt HPUT.out)) (show g10 ≠ g9 by omega) _), hide (Blk.setRow hb9e.out _), hide (Blk.setRow_far (Blk.below hb7d.out b12 (Blk.lt hb7d.out)) (show g7 ≠ g9 by omega) _), hide ((CId.out.below b12).kept (only_setRow _ _ _) (fun h => hne.1 (by injection h)) (fun h => hne.2 (by injection h))), hide (below_setRow (hbed.out.trans (b12.mono hbed.out.size)) (by omega) _)⟩
          · have hn16 : n' = 16 := by omega
            have hc : ¬ rem.length < 16 := by rw [hRL.out]; omega
            have he : rem ++ Z.drop n' = rem := by
              rw [hn16, List.drop_of_length_le (by rw [HZL.out]; omega), List.append_nil]
            rw [he] at hbE
            clear hn16 he
            go_wp2_with fail
            go_meet
            case rel =>
              rw [if_neg hc, if_neg hc]
              exact ⟨rfl, hbE, hb9c, hb7c, CIc, hbec⟩
        case rest =>
          obtain ⟨rfl, hb10, hb9, hb7, CI, hbe⟩ := hcut
          clear hb7c hb9c CIc hbec hbE HEL
          have hm2 : Mod.mac all nr t = Cip.sealB all nr (Mod.xor (Mod.xor (if rem.length < 16 then Mod.fill rem else rem) (if rem.length < 16 then Mod.twice k1 else k1)) last) := by
            rw [HM.out]
            by_cases hc : rem.length < 16
            · rw [if_pos hc, if_pos hc, if_pos hc]
            · rw [if_neg hc, if_neg hc, if_neg hc]
          have hEl : (if rem.length < 16 then Mod.fill rem else rem).length = 16 := by
            by_cases hc : rem.length < 16
            · rw [if_pos hc]; exact Cip.t16_length _
            · rw [if_neg hc]
              have := hRL.out
              omega
          have hKl : (if rem.length < 16 then Mod.twice k1 else k1).length = 16 := by
            by_cases hc : rem.length < 16
            · rw [if_pos hc]; exact Cip.t16_length _
            · rw [if_neg hc]; exact hk1
          have HM2 := hide hm2
          clear hm2 HM
          generalize (if rem.length < 16 then Mod.fill rem else rem) = E at *
          generalize (if rem.length < 16 then Mod.twice k1 else k1) = KK at *
          have sE := size34' hEl
          have sK := size34' hKl
          have hl16 := hLL.out
          have hww := hbe.out.size
          go_upto_region 13 with fail
          go_cut [7] (fun v we => v = .pointer (some ⟨g7, 0, none⟩) ∧ Hid (Blk we g7 34 (bytes (Cip.sealB all nr (Mod.xor (Mod.xor E KK) last))).toArray) ∧ Hid (Below w.heap.size w we))
          case first =>
            refine wp_region_noPanic ?_
            refine wp_region_held_drew (S := fun u => Blk u g10 34 (bytes E).toArray ∧ Blk u g9 34 (bytes KK).toArray ∧ w.heap.size ≤ u.heap.size) (by kernel_rfl) (⟨Blk.drew hb10.out, Blk.drew hb9.out, hww⟩) (fun hHeld => ?_)
            refine wpAnyH_take (i := 0) (v := ?v0b) rfl (by kernel_rfl) (by kernel_rfl) (by kernel_rfl) (fun _ _ _ h => h) (Or.inl ⟨by rfl, fun u hSu => ?y0b⟩) hHeld ?r0b
            case y0b =>
                first
                  | (go_simp; done)
                  | (go_simp; with_reducible rfl)
            simp only [Act.put, List.getElem_toArray, List.getElem_cons_zero, List.setIfInBounds_toArray, List.set_cons_zero, List.set_cons_succ]
            refine wpAnyH_take (i := 1) (v := .agg (bytes E).toArray) rfl (by kernel_rfl) (by kernel_rfl) (by kernel_rfl) (fun _ _ _ h => h) (yieldsIf_load_mid (by rfl) 34 (.tmp 10) rfl g10 0 rfl (bytes E) _ (fun u hSu => blk_whole hSu.1) Try.underlying34 rfl sE) hHeld ?_
            simp only [Act.put, List.getElem_toArray, List.getElem_cons_succ, List.getElem_cons_zero, List.setIfInBounds_toArray, List.set_cons_zero, List.set_cons_succ]
            refine wpAnyH_take (i := 2) (v := .agg (bytes KK).toArray) rfl (by kernel_rfl) (by kernel_rfl) (by kernel_rfl) (fun _ _ _ h => h) (yieldsIf_load_mid (by rfl) 34 (.tmp 9) rfl g9 0 rfl (bytes KK) _ (fun u hSu => blk_whole hSu.2.1) Try.underlying34 rfl sK) hHeld ?_
            simp only [Act.put, List.getElem_toArray, List.getElem_cons_succ, List.getElem_cons_zero, List.setIfInBounds_toArray, List.set_cons_zero, List.set_cons_succ]
            refine wpAnyH_ready (rs := [3, 4]) (by kernel_rfl) (by simp) ?_
            refine AllReadyH.cons rfl (fun K hK => ?_) (AllReadyH.cons rfl (fun K hK => ?_) AllReadyH.nil)
            · go_simp
              refine (xor_any E KK _ hEl hKl).mono ?_
              rintro e w5 ⟨rfl, hb5⟩
              go_wp2_with fail
              refine hK.out _ _ (⟨Blk.below hHeld.1 hb5 (Blk.lt hHeld.1), Blk.below hHeld.2.1 hb5 (Blk.lt hHeld.2.1), Nat.le_trans hHeld.2.2 hb5.size⟩) (fun hHeld => ?_)
              clear hK K
              have ci5 := CI.out.drew.below hb5
              have b75 := Blk.below (Blk.drew hb7.out) hb5 (Blk.lt hb7.out)
              have be5 := hbe.out.drew.trans (hb5.mono hww)
              refine wpAnyH_ready (rs := [4]) (by kernel_rfl) (by simp) ?_
              refine AllReadyH.cons rfl (fun K hK => ?_) AllReadyH.nil
              rw [if_pos (by rfl)]
              refine wp_load_mid 34 (.tmp 7) rfl g7 0 rfl (bytes last) _ (blk_whole (b75)) Try.underlying34 rfl (size34' hl16) ?_
              refine hK.out _ _ (hHeld) (fun hHeld => ?_)
              simp only [Act.put, List.getElem_toArray, List.getElem_cons_succ, List.getElem_cons_zero]
              clear hK K
              refine wpAnyH_ready (rs := [5]) (by kernel_rfl) (by simp) ?_
              refine AllReadyH.cons rfl (fun K hK => ?_) AllReadyH.nil
              go_simp
              refine (xor_any (Mod.xor E KK) last _ (Mod.xor_length _ _) hl16).mono ?_
              rintro e wa ⟨rfl, hba⟩
              go_wp2_with fail
              refine hK.out _ _ (⟨Blk.below hHeld.1 hba (Blk.lt hHeld.1), Blk.below hHeld.2.1 hba (Blk.lt hHeld.2.1), Nat.le_trans hHeld.2.2 hba.size⟩) (fun hHeld => ?_)
              clear hK K
              have cia := hide (ci5.below hba)
              have b7a := hide (Blk.below b75 hba (Blk.lt b75))
              refine wpAnyH_ready (rs := [6]) (by kernel_rfl) (by simp) ?_
              refine AllReadyH.cons rfl (fun K hK => ?_) AllReadyH.nil
              go_simp
              refine (seal_any p kb nr kc (Mod.xor (Mod.xor E KK) last) all _ (Mod.xor_length _ _) cia.out).mono ?_
              rintro e wb ⟨rfl, hbb⟩
              go_wp2_with fail
              refine hK.out _ _ (⟨Blk.below hHeld.1 hbb (Blk.lt hHeld.1), Blk.below hHeld.2.1 hbb (Blk.lt hHeld.2.1), Nat.le_trans hHeld.2.2 hbb.size⟩) (fun hHeld => ?_)
              clear hK K
              have b7b := hide (Blk.below b7a.out hbb (Blk.lt b7a.out))
              have hbw := (be5.trans (hba.mono be5.size)).trans (hbb.mono (Nat.le_trans be5.size hba.size))
              refine wpAnyH_ready (rs := [7]) (by kernel_rfl) (by simp) ?_
              refine AllReadyH.cons rfl (fun K hK => ?_) AllReadyH.nil
              rw [if_pos (by rfl)]
              refine wp_store34 (.tmp 7) (.tmp 54) rfl (g7) (bytes last).toArray (Cip.sealB all nr (Mod.xor (Mod.xor E KK) last)) rfl rfl (b7b.out) (Cip.sealB_length _ _ _) (by rw [List.size_toArray, bytes_length, hl16]) ?_
              refine hK.out _ _ (⟨Blk.setRow_far hHeld.1 (show g10 ≠ g7 by omega) _, Blk.setRow_far hHeld.2.1 (show g9 ≠ g7 by omega) _, by simpa [World.setRow] using hHeld.2.2⟩) (fun hHeld => ?_)
              simp only [Act.put, List.getElem_toArray, List.getElem_cons_succ, List.getElem_cons_zero]
              clear hK K
              refine wpAnyH_done (by kernel_rfl) ?_ _
              refine NoPanic.normal ?_
              go_wp2
              go_meet
              case rel => exact ⟨rfl, hide (Blk.setRow b7b.out _), hide (below_setRow hbw hwg7 _)⟩
            · rw [if_pos (by rfl)]
              refine wp_load_mid 34 (.tmp 7) rfl g7 0 rfl (bytes last) _ (blk_whole (Blk.drew hb7.out)) Try.underlying34 rfl (size34' hl16) ?_
              refine hK.out _ _ hHeld (fun hHeld => ?_)
              simp only [Act.put, List.getElem_toArray, List.getElem_cons_succ, List.getElem_cons_zero]
              clear hK K
              refine wpAnyH_ready (rs := [3]) (by kernel_rfl) (by simp) ?_
              refine AllReadyH.cons rfl (fun K hK => ?_) AllReadyH.nil
              go_simp
              refine (xor_any E KK _ hEl hKl).mono ?_
              rintro e w5 ⟨rfl, hb5⟩
              go_wp2_with fail
              refine hK.out _ _ (⟨Blk.below hHeld.1 hb5 (Blk.lt hHeld.1), Blk.below hHeld.2.1 hb5 (Blk.lt hHeld.2.1), Nat.le_trans hHeld.2.2 hb5.size⟩) (fun hHeld => ?_)
              clear hK K
              have ci5 := CI.out.drew.below hb5
              have b75 := Blk.below (Blk.drew hb7.out) hb5 (Blk.lt hb7.out)
              have be5 := hbe.out.drew.trans (hb5.mono hww)
              refine wpAnyH_ready (rs := [5]) (by kernel_rfl) (by simp) ?_
              refine AllReadyH.cons rfl (fun K hK => ?_) AllReadyH.nil
              go_simp
              refine (xor_any (Mod.xor E KK) last _ (Mod.xor_length _ _) hl16).mono ?_
              rintro e wa ⟨rfl, hba⟩
              go_wp2_with fail
              refine hK.out _ _ (⟨Blk.below hHeld.1 hba (Blk.lt hHeld.1), Blk.below hHeld.2.1 hba (Blk.lt hHeld.2.1), Nat.le_trans hHeld.2.2 hba.size⟩) (fun hHeld => ?_)
              clear hK K
              have cia := hide (ci5.below hba)
              have b7a := hide (Blk.below b75 hba (Blk.lt b75))
              refine wpAnyH_ready (rs := [6]) (by kernel_rfl) (by simp) ?_
              refine AllReadyH.cons rfl (fun K hK => ?_) AllReadyH.nil
              go_simp
              refine (seal_any p kb nr kc (Mod.xor (Mod.xor E KK) last) all _ (Mod.xor_length _ _) cia.out).mono ?_
              rintro e wb ⟨rfl, hbb⟩
              go_wp2_with fail
              refine hK.out _ _ (⟨Blk.below hHeld.1 hbb (Blk.lt hHeld.1), Blk.below hHeld.2.1 hbb (Blk.lt hHeld.2.1), Nat.le_trans hHeld.2.2 hbb.size⟩) (fun hHeld => ?_)
              clear hK K
              have b7b := hide (Blk.below b7a.out hbb (Blk.lt b7a.out))
              have hbw := (be5.trans (hba.mono be5.size)).trans (hbb.mono (Nat.le_trans be5.size hba.size))
              refine wpAnyH_ready (rs := [7]) (by kernel_rfl) (by simp) ?_
              refine AllReadyH.cons rfl (fun K hK => ?_) AllReadyH.nil
              rw [if_pos (by rfl)]
              refine wp_store34 (.tmp 7) (.tmp 54) rfl (g7) (bytes last).toArray (Cip.sealB all nr (Mod.xor (Mod.xor E KK) last)) rfl rfl (b7b.out) (Cip.sealB_length _ _ _) (by rw [List.size_toArray, bytes_length, hl16]) ?_
              refine hK.out _ _ (⟨Blk.setRow_far hHeld.1 (show g10 ≠ g7 by omega) _, Blk.setRow_far hHeld.2.1 (show g9 ≠ g7 by omega) _, by simpa [World.setRow] using hHeld.2.2⟩) (fun hHeld => ?_)
              simp only [Act.put, List.getElem_toArray, List.getElem_cons_succ, List.getElem_cons_zero]
              clear hK K
              refine wpAnyH_done (by kernel_rfl) ?_ _
              refine NoPanic.normal ?_
              go_wp2
              go_meet
              case rel => exact ⟨rfl, hide (Blk.setRow b7b.out _), hide (below_setRow hbw hwg7 _)⟩
          case rest =>
            obtain ⟨rfl, hb7e, hbee⟩ := hcut
            go_wp2_with fail
            go_ret2
            rw [HALL.out, HNR.out, HM2.out]
            refine ⟨g7, rfl, ⟨(Cip.sealB_length _ _ _).symm, Nat.le_refl _, (fun h => by cases h), ?_⟩, hbee.out⟩
            have := blk_reads (k := 16) hb7e.out rfl (Nat.le_of_eq (Cip.sealB_length _ _ _).symm)
            rw [List.take_of_length_le (Nat.le_of_eq (Cip.sealB_length _ _ _))] at this
            exact this
end Go.Proofs.Ytjcdblnodbadcaa
