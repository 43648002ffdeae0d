/- The walk of modes.Seal. -/
import Derived.Test.YtjcdblnodbadcaaCipherOf
import Derived.Test.YtjcdblnodbadcaaPads
import Derived.Test.YtjcdblnodbadcaaLawBack
namespace Go.Proofs.Ytjcdblnodbadcaa
open Go.RowKit

set_option maxRecDepth 100000 in
set_option maxHeartbeats 3200000 in
theorem mseal_any (A B D : Option Addr) (n c d m f : Nat) (l iv t : List UInt8) (w : World) (h : Sl w A n c l) (h' : Sl w B 16 d iv) (h'' : Sl w D m f t) (hl : n = 16 ∨ n = 24 ∨ n = 32) (hm : m ≤ 140737488351232) :
    Calls Try.prog 33 #[.slice A n c, .slice B 16 d, .slice D m f] w fun e w' => ∃ v, e = .returned (.tuple #[v, .int .i64 0]) ∧ w'.ownsRow w.heap.size 5 1 v (Mod.sealT (Cip.keys l) (n / 4 + 7) iv t).length (bytes (Mod.sealT (Cip.keys l) (n / 4 + 7) iv t)) ∧ Below w.heap.size w w' := by
  have hiv := hide h'.1.symm
  have hmt := hide h''.1
  have H3 := hide h''
  have HL := hide hl
  have H1 := hide h
  have H2 := hide h'
  clear h h' h'' hl
  go_enter Try.func33, Try.ntmps33
  go_wp2_with fail
  refine (cipherOk_any A B n c d l iv w H1.out H2.out HL.out).mono ?_
  rintro e w2 ⟨⟨p, kb, kc, rfl, ci⟩, b2⟩
  have hlen : (bytes iv).length = 16 := by rw [bytes_length, hiv.out]
  have hstored := stored34 hiv.out w2
  have H3' := hide (H3.out.below b2)
  have CI := hide ci
  have HW2 := hide b2.size
  clear H3 H1 H2 ci
  go_upto_region 2 with fail
  have hb9 := hide (Blk.new w2 34 (bytes iv).toArray)
  have hwa : w2.heap.size < (w2.alloc (.cells (bytes iv).toArray 34)).heap.size := by simp
  have CI3 := hide (CI.out.below ((Below.refl _ w2).alloc (Nat.le_refl _) (.cells (bytes iv).toArray 34)))
  have H3b := hide (H3'.out.alloc (.cells (bytes iv).toArray 34))
  have hbe3 := b2.alloc b2.size (.cells (bytes iv).toArray 34)
  have hpl := hide CI.out.lt
  have hkl := hide CI.out.ltk
  clear hlen hstored H3' CI b2
  generalize (w2.alloc (.cells (bytes iv).toArray 34)) = w3 at *
  go_wp2_with fail
  refine (pad_any D m f t w3 H3b.out (by omega)).mono ?_
  rintro e w4 ⟨v1, rfl, o1, b4⟩
  have hT : Hid (Mod.sealT (Cip.keys l) (n / 4 + 7) iv t = Mod.cbc (Cip.keys l) (n / 4 + 7) (t.length / 16 + 1) iv (Mod.pad t)) := hide rfl
  generalize hTe : Mod.sealT (Cip.keys l) (n / 4 + 7) iv t = T at hT
  have HTE := hide hTe
  clear hTe
  obtain ⟨N, hN⟩ : ∃ N, N = t.length / 16 + 1 := ⟨_, rfl⟩
  have hplen : (Mod.pad t).length = 16 * N := by rw [Mod.pad_length, hN]; omega
  have hNb : 16 * N ≤ 140737488351248 := by have := hmt.out; omega
  have hN1 : 1 ≤ N := by omega
  rw [← hN] at hT
  generalize Mod.pad t = pt at *
  generalize hall : Cip.keys l = all at *
  have HALL := hide hall
  clear hall
  generalize hnr : n / 4 + 7 = nr at *
  have HNR := hide hnr
  rw [hplen] at o1
  obtain ⟨g, cap, rfl, hgb, hgl⟩ := o1.form (by omega)
  have HR := hide (Rest.of_own o1)
  have CI4 := hide (CI3.out.below b4)
  have hb9' := hide (Blk.below hb9.out b4 hwa)
  have hbe4 := hbe3.trans (b4.mono hbe3.size)
  have hg9 : w2.heap.size ≠ g := by omega
  have hg9l : w2.heap.size < w4.heap.size := by omega
  have hwl : w.heap.size ≤ w4.heap.size := hbe4.size
  have hwg9 : w.heap.size ≤ w2.heap.size := HW2.out
  clear hN hnr H3b o1 CI3 hb9 b4 hbe3 hmt hm hgb
  clear hplen
  have HP : Hid (p < w4.heap.size ∧ kb < w4.heap.size) := hide ⟨CI4.out.lt, CI4.out.ltk⟩
  have hnr2 : 2 ≤ nr := by have := HNR.out; omega
  generalize hg9n : w2.heap.size = g9 at *
  generalize hhN : w4.heap.size = hN at hgl hg9l hwl
  obtain ⟨i0, hi, hz0, hz1, hz2⟩ := info_parts info5
  have hn0 : 16 * N = 16 * N := rfl
  go_wp2_with fail
  go_loopw [11, 12] (fun v11 v12 wr => ∃ (r n' c' : Nat) (A' : Option Addr) (o last rem : List UInt8), v12 = .slice A' n' c' ∧ r ≤ N ∧ n' = 16 * r ∧ o.length = 16 * (N - r) ∧ last.length = 16 ∧ Hid (T = o ++ Mod.cbc all nr r last rem) ∧ Hid (Rest wr g A' n' c' rem) ∧ Hid (wr.ownsRow hN 5 1 v11 o.length (bytes o)) ∧ Hid (Blk wr g9 34 (bytes last).toArray) ∧ Hid (Ci wr p kb nr kc all) ∧ hN ≤ wr.heap.size ∧ Below w.heap.size w wr) (fun _ v _ => sliceLen v)
  case atStart => exact ⟨N, _, cap, _, [], iv, pt, rfl, Nat.le_refl _, rfl, by simp, hiv.out, hT, HR, hide (World.ownsRow_nil _ _ _ _), hb9', CI4, by omega, hbe4⟩
  case round =>
    clear hT HR hb9' CI4 hbe4 hiv
    obtain ⟨r, n', c', A', o, last, rem, rfl, hrN, hn', hol, hll, hT, HR, ho, hb9, CI, hhs, hbe⟩ := hrel
    by_cases hlr : 0 < r
    · obtain ⟨off, rfl, hcells⟩ := HR.out.2.2 (by omega)
      have hn16 : 16 ≤ n' := by omega
      have hreml : 16 ≤ rem.length := by have := HR.out.1; omega
      have hat : ∀ u : World, (Instr.arrayAt 34 (.slice (some ⟨g, off, none⟩) n' c')).run Try.prog u = .ok (.pointer (some ⟨g, off, none⟩)) u := fun u => run_arrayAt u 34 5 16 _ n' c' Try.underlying34 hn16
      have hR : Reads wr hN 1 (some ⟨g, off, none⟩) 16 (bytes (rem.take 16)) := ⟨by rw [bytes_length, List.length_take]; omega, fun _ => ⟨_, rfl, hgl, fun j u hj => by
        rw [bytes_take, List.getElem?_take] at hj
        split at hj
        · rw [bytes_get (by omega)] at hj
          injection hj with hj
          subst hj
          rw [Addr.add_mid]
          exact hcells j (by omega)
        · cases hj⟩⟩
      have hx : (rem.take 16).length = 16 := by rw [List.length_take]; omega
      obtain ⟨q, rfl⟩ : ∃ q, r = q + 1 := ⟨r - 1, by omega⟩
      have hT' : T = o ++ (Cip.sealB all nr (Mod.xor (rem.take 16) last) ++ Mod.cbc all nr q (Cip.sealB all nr (Mod.xor (rem.take 16) last)) (rem.drop 16)) := hT.out
      have hcut := hide (HR.out.cut (k := 16) (by omega))
      have hnc : n' ≤ c' := HR.out.2.1
      have HN := hide hn'
      have HRR := hide hR
      have HT := hide hT'
      have HX := hide hx
      have HL := hide hll
      generalize rem.take 16 = x at *
      have hnp : (0 : Int) < (n' : Int) := by omega
      clear hn' hR hT' hT hcells hx hll hreml
      go_wp2_with fail
      refine wp_region_noPanic ?_
      refine wp_region_held_drew (S := fun u => Reads u hN 1 (some ⟨g, off, none⟩) 16 (bytes x) ∧ hN ≤ u.heap.size) (by kernel_rfl) (⟨HRR.out.drew, hhs⟩) (fun hHeld => ?_)
      refine wpAnyH_take (i := 0) (v := ?v0) rfl (by kernel_rfl) (by kernel_rfl) (by kernel_rfl) (fun _ _ _ h => h) (Or.inl ⟨by rfl, fun u hSu => ?y0⟩) hHeld ?r0
      case y0 =>
          first
            | (go_simp; done)
            | (go_simp; with_reducible rfl)
      simp only [Act.put, List.getElem_toArray, List.getElem_cons_zero, List.setIfInBounds_toArray, List.set_cons_zero, List.set_cons_succ]
      refine wpAnyH_take (i := 1) (v := ?v1) rfl (by kernel_rfl) (by kernel_rfl) (by kernel_rfl) (fun _ _ _ h => h) (Or.inl ⟨by rfl, fun u hSu => ?y1⟩) hHeld ?r1
      case y1 =>
          first
            | (go_simp; done)
            | (go_simp; with_reducible rfl)
      simp only [Act.put, List.getElem_toArray, List.getElem_cons_succ, List.getElem_cons_zero, List.setIfInBounds_toArray, List.set_cons_zero, List.set_cons_succ]
      refine wpAnyH_take (i := 2) (v := ?v2) rfl (by kernel_rfl) (by kernel_rfl) (by kernel_rfl) (fun _ _ _ h => h) (Or.inl ⟨by rfl, fun u hSu => ?y2⟩) hHeld ?r2
      case y2 =>
          first
            | (go_simp; done)
            | (go_simp; with_reducible rfl)
      simp only [Act.put, List.getElem_toArray, List.getElem_cons_succ, List.getElem_cons_zero, List.setIfInBounds_toArray, List.set_cons_zero, List.set_cons_succ]
      refine wpAnyH_take (i := 3) (v := .agg (bytes x).toArray) rfl (by kernel_rfl) (by kernel_rfl) (by kernel_rfl) (fun _ _ _ h => h) (yieldsIf_load_at (by rfl) 34 (.tmp 32) rfl (⟨g, off, none⟩) rfl _ (fun u hSu => load34_at hSu.1 HX.out)) hHeld ?_
      simp only [Act.put, List.getElem_toArray, List.getElem_cons_succ, List.getElem_cons_zero, List.setIfInBounds_toArray, List.set_cons_zero, List.set_cons_succ]
      refine wpAnyH_ready (rs := [4]) (by kernel_rfl) (by simp) ?_
      refine AllReadyH.cons rfl (fun K hK => ?_) AllReadyH.nil
      rw [if_pos (by rfl)]
      refine wp_load_mid 34 (.tmp 9) rfl g9 0 rfl (bytes last) _ (blk_whole (Blk.drew hb9.out)) Try.underlying34 rfl (size34' HL.out) ?_
      refine hK.out _ _ (hHeld) (fun hHeld => ?_)
      simp only [Act.put, List.getElem_toArray, List.getElem_cons_succ, List.getElem_cons_zero]
      clear hK K
      refine wpAnyH_ready (rs := [5]) (by kernel_rfl) (by simp) ?_
      refine AllReadyH.cons rfl (fun K hK => ?_) AllReadyH.nil
      go_simp
      refine (xor_any x last _ HX.out HL.out).mono ?_
      rintro e w5 ⟨rfl, hb5⟩
      go_wp2_with fail
      refine hK.out _ _ (⟨hHeld.1.below (hb5.mono hHeld.2), Nat.le_trans hHeld.2 hb5.size⟩) (fun hHeld => ?_)
      clear hK K
      have CI5 := hide ((CI.out.drew).below hb5)
      have hb95 := hide (Blk.below (Blk.drew hb9.out) hb5 (Blk.lt hb9.out))
      have ho5 := hide ((show World.ownsRow wr.drew hN 5 1 u11 o.length (bytes o) from ho.out).kept (row := none) ⟨hb5.os, hb5.tape, hb5.output, hb5.size, fun k hk _ => hb5.block k hk⟩ (by cases u11.ownBlock <;> simp))
      refine wpAnyH_ready (rs := [6]) (by kernel_rfl) (by simp) ?_
      refine AllReadyH.cons rfl (fun K hK => ?_) AllReadyH.nil
      go_simp
      refine (seal_any p kb nr kc (Mod.xor x last) all _ (Mod.xor_length _ _) CI5.out).mono ?_
      rintro e w6 ⟨rfl, hb6⟩
      go_wp2_with fail
      refine hK.out _ _ (⟨hHeld.1.below (hb6.mono hHeld.2), Nat.le_trans hHeld.2 hb6.size⟩) (fun hHeld => ?_)
      clear hK K
      have CI6 := hide (CI5.out.below hb6)
      have hb96 := hide (Blk.below hb95.out hb6 (Blk.lt hb95.out))
      have ho6 := hide (ho5.out.kept (row := none) ⟨hb6.os, hb6.tape, hb6.output, hb6.size, fun k hk _ => hb6.block k hk⟩ (by cases u11.ownBlock <;> simp))
      generalize hnew : Cip.sealB all nr (Mod.xor x last) = new at HT
      have hnl : new.length = 16 := by rw [← hnew]; exact Cip.sealB_length _ _ _
      refine wpAnyH_ready (rs := [7]) (by kernel_rfl) (by simp) ?_
      refine AllReadyH.cons rfl (fun K hK => ?_) AllReadyH.nil
      rw [if_pos (by rfl)]
      refine wp_store34 (.tmp 9) (.tmp 36) rfl (g9) (bytes last).toArray new rfl rfl (hb96.out) hnl (by rw [List.size_toArray, bytes_length, HL.out]) ?_
      refine hK.out _ _ (⟨reads_setRow_ne hHeld.1 (fun h => hg9 h.symm) _, by simpa [World.setRow] using hHeld.2⟩) (fun hHeld => ?_)
      simp only [Act.put, List.getElem_toArray, List.getElem_cons_succ, List.getElem_cons_zero]
      clear hK K
      have CI7 := hide (CI6.out.kept (only_setRow w6 g9 (bytes new).toArray) (fun h => (CI6.out.ne_blk hnr2 hb96.out (by rw [List.size_toArray, bytes_length, HL.out])).1 (by injection h)) (fun h => (CI6.out.ne_blk hnr2 hb96.out (by rw [List.size_toArray, bytes_length, HL.out])).2 (by injection h)))
      have hb97 := hide (Blk.setRow hb96.out (bytes new).toArray)
      have hou : u11.ownBlock ≠ some g9 := fun e => by
        have := (ho6.out.lt g9 e).1
        omega
      have ho7 := hide (ho6.out.kept (only_setRow w6 g9 (bytes new).toArray) (.inr hou))
      have hbe7 := hide (below_setRow ((hbe.drew.trans (hb5.mono hbe.drew.size)).trans (hb6.mono (Nat.le_trans hbe.drew.size hb5.size))) hwg9 (bytes new).toArray)
      have hgr : ∀ j, j < n' → (w6.setRow g9 (bytes new).toArray).cell? ⟨g, off + j, none⟩ = wr.cell? ⟨g, off + j, none⟩ := fun j _ =>
        World.cell?_of_block (by
          have e1 : (w6.setRow g9 (bytes new).toArray).heap[g]? = w6.heap[g]? := by
            simp only [World.setRow, Array.getElem?_modify]
            rw [if_neg hg9]
          rw [e1, hb6.block g (by have := hb5.size; have : wr.drew.heap.size = wr.heap.size := rfl; omega), hb5.block g (by have : wr.drew.heap.size = wr.heap.size := rfl; omega)]
          rfl)
      have hsz7 : hN ≤ (w6.setRow g9 (bytes new).toArray).heap.size := hHeld.2
      refine wpAnyH_done (by kernel_rfl) ?_ _
      refine NoPanic.normal ?_
      have hcut7 : Hid (Rest (w6.setRow g9 (bytes new).toArray) g (if c' = 16 then some ⟨g, off, none⟩ else some ⟨g, off + 16, none⟩) (n' - 16) (c' - 16) (rem.drop 16)) := by
        have hq := hcut.out
        refine hide ?_
        rw [show (Option.map (fun x => x.add 16) (some (⟨g, off, none⟩ : Addr))) = some ⟨g, off + 16, none⟩ by simp [Addr.add_lit]] at hq
        refine ⟨hq.1, hq.2.1, fun hn => ?_⟩
        obtain ⟨off', e, hc⟩ := hq.2.2 hn
        refine ⟨off', e, fun j hj => ?_⟩
        rw [← hc j hj]
        refine World.cell?_of_block ?_
        have e1 : (w6.setRow g9 (bytes new).toArray).heap[g]? = w6.heap[g]? := by
          simp only [World.setRow, Array.getElem?_modify]
          rw [if_neg hg9]
        rw [e1, hb6.block g (by have := hb5.size; have : wr.drew.heap.size = wr.heap.size := rfl; omega), hb5.block g (by have : wr.drew.heap.size = wr.heap.size := rfl; omega)]
        rfl
      clear hgr hcut HRR hb5 hb6 CI5 CI6 hb95 hb96 ho5 ho6 hbe ho hb9 CI HR hat hHeld hnew
      have hrn := hide (blk_reads (k := 16) hb97.out rfl (by omega))
      rw [List.take_of_length_le (by omega)] at hrn
      have hbb : (o.length + 16) * 1 ≤ 140737488355328 := by omega
      have hml : o.length + 16 ≤ maxLen := by unfold maxLen; omega
      generalize w6.setRow g9 (bytes new).toArray = w7 at *
      have hnq : n' = 16 * (q + 1) := HN.out
      have hnp2 : 16 ≤ n' := by omega
      clear hnq
      by_cases hc16 : c' = 16
      all_goals
        go_wp2_with (at_builtin; refine wpList_append_any _ rfl (.tmp 37) (.tmp 38) _ rfl hN 5 i0 _ 1 1 Try.underlying26 hi hz0 hz1 hz2 rfl (by omega) u11 o.length (bytes o) rfl ho7.out w7.heap.size (some ⟨g9, 0, none⟩) 16 16 (bytes new) rfl hrn.out (bytes_one _) hml hbb hsz7 ?_; intro v8 w8 hown8 hg8 hat8)
        go_roundw
        case rel =>
          have hgo : some g ≠ u11.ownBlock := fun e => by
            have := (ho7.out.lt g e.symm).1
            omega
          have hg9o : some g9 ≠ u11.ownBlock := fun e => hou e.symm
          have hol2 : (o ++ new).length = o.length + 16 := by rw [List.length_append, hnl]
          refine ⟨q, _, _, _, o ++ new, new, rem.drop 16, rfl, by omega, by have := HN.out; omega, by omega, hnl, hide (by rw [List.append_assoc]; exact HT.out), hide ?_, hide ?_, hide (Blk.grown hb97.out hg8 hg9o), hide (CI7.out.kept hg8 (fun e => ?_) (fun e => ?_)), Nat.le_trans hsz7 hg8.size, below_app hbe7.out (Nat.le_trans hwl hsz7) (own_less ho7.out hwl) hg8⟩
          · have hq := hcut7.out
            first
              | (rw [if_pos hc16] at hq; exact hq.keep (hg8.block g (by omega) hgo))
              | (rw [if_pos hc16] at hq; subst hc16; exact hq.keep (hg8.block g (by omega) hgo))
              | (rw [if_neg hc16] at hq; exact hq.keep (hg8.block g (by omega) hgo))
          · rw [bytes_append, hol2]
            exact hown8
          · have := (ho7.out.lt p e.symm).1
            have := HP.out.1
            omega
          · have := (ho7.out.lt kb e.symm).1
            have := HP.out.2
            omega
        case measure => simp only [sliceLen]; omega
    · obtain rfl : r = 0 := by omega
      go_wp2_with fail
      go_ret2
      have hTo : T = o := by
        rw [hT.out]
        exact List.append_nil o
      refine ⟨_, rfl, ?_, hbe⟩
      rw [HALL.out, HNR.out, HTE.out, hTo]
      exact own_less ho.out hwl
end Go.Proofs.Ytjcdblnodbadcaa
