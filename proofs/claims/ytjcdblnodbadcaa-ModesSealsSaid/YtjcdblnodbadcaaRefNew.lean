/- The walk of the reference's New. -/
import Derived.Test.YtjcdblnodbadcaaRefBoxes
namespace Go.Proofs.Ytjcdblnodbadcaa
open Go.RowKit

theorem zero67 : Try.zeroCells67 = ci0 := by kernel_rfl
theorem size5r : (Try.prog.info? 5).map (·.size) = some 1 := by kernel_rfl
theorem size70 : (Try.prog.info? 70).map (·.size) = some 4 := by kernel_rfl
theorem size70' {s : List UInt8} (h : s.length = 4) : (Try.prog.info? 70).map (·.size) = some (bytes s).length := by rw [bytes_length, h]; exact size70
theorem boxes_ex (w : World) : Calls Try.prog 52 #[] w fun e w' => ∃ c1 c2 : Array Value, e = .returned (.tuple #[.agg c1, .agg c2]) ∧ Hid (c1 = (bytes Fld.tab).toArray) ∧ Hid (c2 = (bytes Fld.untab).toArray) ∧ Below w.heap.size w w' :=
  (boxes_any w).mono fun _ _ h => ⟨_, _, h.1, hide rfl, hide rfl, h.2⟩
theorem wpList_store57_at {ops : Array Oper} {rest : List Oper} {op : Oper} {a : Act} {w : World} {Q : Exit → Act → World → Prop} (hgd : op.guard = none) (x y : Operand) (ho : op.op = .store 57 x y)
    (g o : Nat) (cur vs : Array Value) (t : TypeId) (hx : a.eval x = .pointer (some ⟨g, o, none⟩)) (hy : a.eval y = .agg vs)
    (hg : Blk w g t cur) (hs : vs.size = 256) (hfit : o + 256 ≤ cur.size) (h1 : ∀ v ∈ vs.toList, v.oneCell' = true)
    (h : ∀ D : Array Value, Hid (D = (cur.toList.take o ++ vs.toList ++ cur.toList.drop (o + 256)).toArray) → wpList Try.prog ops Q rest (a.put op.dst undef) (w.setRow g D)) : wpList Try.prog ops Q (op :: rest) a w :=
  wpList_plain hgd fun K hK => by
    have hst := run_storeCells_at Try.prog g o t vs.toList 0 cur w hg (by simp [hs]; omega) h1
    have hl : vs.toList.length = 256 := by simp [hs]
    rw [Nat.add_zero, hl] at hst
    have hsv : (storeVar 57 ⟨g, o, none⟩ (.agg vs)).run Try.prog w = .ok () (w.setRow g (cur.toList.take o ++ vs.toList ++ cur.toList.drop (o + 256)).toArray) := by
      cases hq : Try.prog.info? 57 with
      | none => have := size57; simp [hq] at this
      | some i =>
        have hz : vs.size = i.size := by have := size57; simp [hq] at this; omega
        rw [List.append_assoc] at hst ⊢
        simp [storeVar, sizeOf, typeInfo, hq, Value.cells, hz, hst]
    unfold Oper.wp execOp
    simp only [ho, hx, hy, Instr.storeAt, Instr.sureAddr, Sem.run_bind, Sem.run_pure, Result.andThen_ok, hsv]
    exact hK _ _ (h _ (hide rfl))
theorem splice_two (s : Value) (z a b : List Value) (ha : a.length = 256) (hz : z.length = 512) :
    ((s :: z).take 1 ++ a ++ (s :: z).drop 257).take 257 ++ b ++ ((s :: z).take 1 ++ a ++ (s :: z).drop 257).drop 513 = s :: (a ++ b) := by
  have e1 : (s :: z).take 1 = [s] := rfl
  have e2 : ([s] ++ a ++ (s :: z).drop 257).take 257 = [s] ++ a := List.take_left' (by simp [ha])
  have e3 : ([s] ++ a ++ (s :: z).drop 257).drop 513 = [] := List.drop_eq_nil_of_le (by simp [ha, hz])
  rw [e1, e2, e3]
  simp
/-- a cipher with its boxes, ahead of its words -/
def boxed (v : Value) : Array Value := (v :: (bytes Fld.tab ++ bytes Fld.untab)).toArray
theorem two_stores {D1 D2 c1 c2 C : Array Value} (e0 : ci0 = C) (e1 : c1 = (bytes Fld.tab).toArray) (e2 : c2 = (bytes Fld.untab).toArray)
    (h1 : D1 = (C.toList.take 1 ++ c1.toList ++ C.toList.drop (1 + 256)).toArray)
    (h2 : D2 = (D1.toList.take 257 ++ c2.toList ++ D1.toList.drop (257 + 256)).toArray) : D2 = boxed (.slice none 0 0) := by
  subst e0 e1 e2 h1 h2
  exact congrArg List.toArray (splice_two _ _ _ _ (by rw [bytes_length, tab_len]) List.length_replicate)
theorem boxed_box (v : Value) (x : UInt8) : (boxed v)[1 + (I x).toNat]? = some (.int .u8 (I (Fld.sb x))) := by
  have := x.toNat_lt
  show (boxed v)[1 + x.toNat]? = _
  simp only [boxed, List.getElem?_toArray, Nat.add_comm 1 x.toNat, List.getElem?_cons_succ]
  rw [List.getElem?_append_left (by rw [bytes_length, tab_len]; omega)]
  exact bytes_get (by rw [tab_len]; omega)
theorem boxed_set (u v : Value) : (boxed u).setIfInBounds 0 v = boxed v := by
  simp [boxed]
theorem boxed_at (v : Value) : (boxed v)[0]? = some v := by
  simp [boxed]
theorem boxed_ci (wb n wc : Nat) : boxed (.slice (some ⟨wb, 0, none⟩) n wc) = ciCells wb n wc := rfl
theorem wp_store70 {op : Oper} {a : Act} {w : World} {K : Act → World → Prop} {Q : Exit → Act → World → Prop} (x y : Operand) (ho : op.op = .store 70 x y)
    (g : Nat) (old : Array Value) (s : List UInt8) (hx : a.eval x = .pointer (some ⟨g, 0, none⟩)) (hy : a.eval y = .agg (bytes s).toArray)
    (hg : Blk w g 70 old) (hs : s.length = 4) (hold : old.size = 4) (h : K (a.put op.dst undef) (w.setRow g (bytes s).toArray)) : op.wp Try.prog a w K Q := by
  unfold Oper.wp execOp
  simp only [ho, hx, hy, Instr.storeAt, Instr.sureAddr, Sem.run_bind, Sem.run_pure, Result.andThen_ok,
    run_storeVar_row w g 70 70 old (bytes s).toArray hg (by rw [List.size_toArray]; exact size70' hs) (by rw [hold, List.size_toArray, bytes_length, hs]) (by rw [List.all_toArray]; exact List.all_eq_true.2 (bytes_one s))]
  exact h
theorem wpList_store70 {ops : Array Oper} {rest : List Oper} {op : Oper} {a : Act} {w : World} {Q : Exit → Act → World → Prop} (hgd : op.guard = none) (x y : Operand) (ho : op.op = .store 70 x y)
    (g : Nat) (old : Array Value) (s : List UInt8) (hx : a.eval x = .pointer (some ⟨g, 0, none⟩)) (hy : a.eval y = .agg (bytes s).toArray)
    (hg : Blk w g 70 old) (hs : s.length = 4) (hold : old.size = 4) (h : wpList Try.prog ops Q rest (a.put op.dst undef) (w.setRow g (bytes s).toArray)) : wpList Try.prog ops Q (op :: rest) a w :=
  wpList_plain hgd fun _ hK => wp_store70 x y ho g old s hx hy hg hs hold (hK _ _ h)
theorem rtimes_lit2 (a : UInt8) (w : World) : Calls Try.prog 15 #[.int .u8 (I a), .int .u8 2] w fun e w' => e = .returned (.int .u8 (I (Fld.times a 2))) ∧ w = w' := refTimes_any a 2 w
theorem word_stored {w : World} {g : Nat} {b0 b1 b2 b3 : UInt8} (hb : Blk w g 70 (bytes [b0, b1, b2, b3]).toArray) (x0 x1 x2 x3 : UInt8) :
    Blk ((((w.setCell ⟨g, 0, none⟩ (.int .u8 (I x0))).setCell ⟨g, 1, none⟩ (.int .u8 (I x1))).setCell ⟨g, 2, none⟩ (.int .u8 (I x2))).setCell ⟨g, 3, none⟩ (.int .u8 (I x3))).drew g 70 (bytes [x0, x1, x2, x3]).toArray :=
  Blk.drew (blk_put (blk_put (blk_put (blk_put hb 0 x0) 1 x1) 2 x2) 3 x3)
theorem word_only (w : World) (g : Nat) (v0 v1 v2 v3 : Value) :
    w.grownBy ((((w.setCell ⟨g, 0, none⟩ v0).setCell ⟨g, 1, none⟩ v1).setCell ⟨g, 2, none⟩ v2).setCell ⟨g, 3, none⟩ v3).drew (some g) :=
  only_drew (only_set (only_set (only_set (only_set (World.grownBy.refl w (some g)) 0 v0) 1 v1) 2 v2) 3 v3)
theorem info70 : (Try.prog.info? 70).map (fun i => (i.zero, i.size, i.bytes)) = some (some (.agg #[.int .u8 0, .int .u8 0, .int .u8 0, .int .u8 0]), 4, 4) := by kernel_rfl
theorem cells4 {w : World} (b : List UInt8) (hb : b.length = 4) : Reads (w.alloc (.cells (bytes b).toArray 70)) (w.heap.size + 1) 4 (some ⟨w.heap.size, 0, none⟩) 1 (bytes b) :=
  ⟨by rw [bytes_length, hb], fun _ => ⟨_, rfl, by simp, fun j u hj => by
    rw [Addr.add_lit, Nat.zero_add]
    exact (cell_of_row _ _ _ _ _ _ (heap_alloc_new w _)).trans (by simpa using hj)⟩⟩
theorem four_list {W : List UInt8} (h : W.length = 4) : ∃ a b c d, W = [a, b, c, d] := by
  match W, h with
  | [a, b, c, d], _ => exact ⟨a, b, c, d, rfl⟩
theorem rkeys_of_own {w : World} {base kb n kc : Nat} {T : List UInt8} (hl : T.length = 4 * n) (h : w.ownsRow base 70 4 (.slice (some ⟨kb, 0, none⟩) n kc) n (bytes T)) :
    n ≤ kc ∧ ∃ cur, Blk w kb 70 cur ∧ ∀ j, j < 4 * n → cur[j]? = some (.int .u8 (I (T.getD j 0))) := by
  rcases h.2 with ⟨h', _⟩ | ⟨g', cap', cur, h', _, hh, hnc, _, _, htake⟩
  · cases h'
  · simp only [Value.slice.injEq, Option.some.injEq, Addr.mk.injEq, and_true, true_and] at h'
    obtain ⟨rfl, rfl⟩ := h'
    refine ⟨hnc, cur, hh, fun j hj => ?_⟩
    have := congrArg (fun l => l[j]?) htake
    simp only [List.getElem?_take] at this
    rw [if_pos (by omega), bytes_get (by omega)] at this
    simpa using this
theorem own_below {B : Nat} {w w' : World} {base : Nat} {e : TypeId} {size : Nat} {v : Value} {n : Nat} {xs : List Value} (h : w.ownsRow base e size v n xs) (hb : Below B w w') (hv : ∀ k, v.ownBlock = some k → k < B) : w'.ownsRow base e size v n xs := by
  refine ⟨h.1, ?_⟩
  rcases h.2 with hn | ⟨g, cap, cur, rfl, hg, hh, rest⟩
  · exact .inl hn
  · exact .inr ⟨g, cap, cur, rfl, hg, Blk.below (t := e) hh hb (hv g rfl), rest⟩
/-- the keys in the making -/
def Prog (m : Nat) (l T : List UInt8) (k : Nat) (cn : UInt8) (L : List UInt8) : Prop :=
  (k ≤ m ∧ L = l.take (4 * k) ∧ cn = 1) ∨ (m ≤ k ∧ T = Cip.keysGo m (4 * (m + 7) - k) k cn L)
section
variable {m k : Nat} {l T L : List UInt8} {cn : UInt8}
theorem Prog.start : Prog m l T 0 1 [] := .inl ⟨by omega, by rw [Nat.mul_zero, List.take_zero], rfl⟩
theorem Prog.early (h : Prog m l T k cn L) (hk : k < m) : L = l.take (4 * k) ∧ cn = 1 := by
  rcases h with h | h
  · exact h.2
  · omega
theorem Prog.late (h : Prog m l T k cn L) (hT : T = Cip.keysGo m (4 * (m + 7) - m) m 1 l) (hl : l.length = 4 * m) (hk : m ≤ k) : T = Cip.keysGo m (4 * (m + 7) - k) k cn L := by
  rcases h with ⟨h1, h2, h3⟩ | h
  · obtain rfl : k = m := by omega
    rw [hT, h2, h3, ← hl, List.take_length]
  · exact h.2
theorem Prog.next_early (h : Prog m l T k cn L) (hk : k < m) : Prog m l T (k + 1) cn (L ++ (l.drop (4 * k)).take 4) := by
  obtain ⟨e1, e2⟩ := h.early hk
  refine .inl ⟨by omega, ?_, e2⟩
  rw [e1, show 4 * (k + 1) = 4 * k + 4 by omega, List.take_add]
theorem Prog.next_late (h : Prog m l T k cn L) (hT : T = Cip.keysGo m (4 * (m + 7) - m) m 1 l) (hl : l.length = 4 * m) (hk : m ≤ k) (hq : k < 4 * (m + 7)) :
    Prog m l T (k + 1) (if k % m = 0 then Fld.times cn 2 else cn) (L ++ (List.range 4).map (Cip.word m k cn L)) :=
  .inr ⟨by omega, (h.late hT hl hk).trans (keysGo_step m _ k cn L hq)⟩
end
set_option maxRecDepth 100000 in
set_option maxHeartbeats 1600000 in
theorem rnew_any (A : Option Addr) (n c : Nat) (l : List UInt8) (w : World) (h : Sl w A n c l) (hl : n = 16 ∨ n = 24 ∨ n = 32) :
    Calls Try.prog 29 #[.slice A n c] w fun e w' => (∃ p wb wc, e = .returned (.tuple #[.pointer (some ⟨p, 0, none⟩), .bool true]) ∧ RCi w' p wb (n / 4 + 7) wc (Cip.keys l)) ∧ Below w.heap.size w w' := by
  obtain ⟨m, rfl⟩ : ∃ m, n = 4 * m := ⟨n / 4, by omega⟩
  have hm : m = 4 ∨ m = 6 ∨ m = 8 := by omega
  have hq : ((4 * m : Nat) : Int) / (4 : Int) = (m : Int) := by omega
  obtain ⟨ad, rfl⟩ : ∃ ad, A = some ad := by
    obtain ⟨ad, e, _⟩ := h.reads.2 (by omega)
    exact ⟨ad, e⟩
  have hmc := hide h.2.1
  have H := hide h
  have HL := hide hl
  clear h hl
  go_enter Try.func29, Try.ntmps29
  go_upto_region 2 with fail
  go_cut [25] (fun v wc => v = .bool false ∧ w = wc)
  case first =>
    rcases hm with rfl | rfl | rfl
    all_goals
      go_wp2_with fail
      go_meet
      case rel => exact ⟨rfl, rfl⟩
  case rest =>
    obtain ⟨rfl, rfl⟩ := hcut
    have hz := zero67
    go_upto_region 5 with fail
    generalize (Value.agg ci0) = u30
    have hb0 := hide (Blk.new w 67 ci0)
    have hbe0 : Below w.heap.size w (w.alloc (.cells ci0 67)) := (Below.refl _ _).alloc (Nat.le_refl _) _
    have hcs0 : ci0.size = 513 := by kernel_rfl
    have hsz0 : (w.alloc (.cells ci0 67)).heap.size = w.heap.size + 1 := World.size_alloc _ _
    generalize (w.alloc (.cells ci0 67)) = w1 at *
    generalize hcu0 : ci0 = cu0 at *
    have HC0 := hide hcu0
    clear hcu0
    have HS0 := hide hcs0
    clear hcs0
    clear hz
    go_upto_region 6 with (first
      | (go_at_call 52
         refine (boxes_ex _).mono ?_
         rintro e w2 ⟨c1, c2, rfl, hc1, hc2, hbx⟩
         have hb2 := hide (Blk.below hb0.out hbx (by rw [hsz0]; omega))
         have hbe2 := hide (hbe0.trans (hbx.mono (by rw [hsz0]; omega)))
         have hcz1 : Hid (c1.size = 256) := hide (by rw [hc1.out, List.size_toArray, bytes_length, tab_len])
         have hcz2 : Hid (c2.size = 256) := hide (by rw [hc2.out, List.size_toArray, bytes_length, untab_len])
         have hco1 : Hid (∀ v ∈ c1.toList, v.oneCell' = true) := hide (by rw [hc1.out]; exact bytes_one _)
         have hco2 : Hid (∀ v ∈ c2.toList, v.oneCell' = true) := hide (by rw [hc2.out]; exact bytes_one _)
         have hcf : Hid (1 + 256 ≤ cu0.size) := hide (by rw [HS0.out]; omega))
      | (with_reducible refine wpList_store57_at rfl (.tmp 35) (.tmp 32) rfl w.heap.size 1 cu0 c1 67 rfl rfl hb2.out hcz1.out hcf.out hco1.out ?_
         intro D1 hD1
         have hcf1 : Hid (257 + 256 ≤ D1.size) := hide (by rw [hD1.out]; simp [HS0.out, hcz1.out])
         have hb3 := hide (Blk.setRow hb2.out D1))
      | (with_reducible refine wpList_store57_at rfl (.tmp 37) (.tmp 33) rfl w.heap.size 257 D1 c2 67 rfl rfl hb3.out hcz2.out hcf1.out hco2.out ?_
         intro D2 hD2))
    have hD := hide (two_stores HC0.out hc1.out hc2.out hD1.out hD2.out)
    have hblk1 : Hid (Blk ((w2.setRow w.heap.size D1).setRow w.heap.size D2) w.heap.size 67 (boxed (.slice none 0 0))) := by
      rw [← hD.out]
      exact hide (Blk.setRow (Blk.setRow hb2.out D1) D2)
    have hbe1 : Below w.heap.size w ((w2.setRow w.heap.size D1).setRow w.heap.size D2) := below_setRow (below_setRow hbe2.out (Nat.le_refl _) _) (Nat.le_refl _) _
    clear hb0 hbe0 hb2 hbe2 hb3 hcz1 hcz2 hco1 hco2 hcf hcf1 hD hD1 hD2 hc1 hc2 HC0 HS0 hbx hsz0
    generalize ((w2.setRow w.heap.size D1).setRow w.heap.size D2) = w3 at *
    have hT : Hid (Cip.keys l = Cip.keysGo m (4 * (m + 7) - m) m 1 l) := by
      unfold Hid Cip.keys
      rw [← H.out.1, show 4 * m / 4 = m by omega]
    have hll := hide H.out.1
    generalize hTl : Cip.keys l = T at hT
    have HTL := hide hTl
    clear hTl
    go_wp2_with fail
    go_loopw [6, 7] (fun con i wr => ∃ (k : Nat) (L : List UInt8) (cn : UInt8) (v : Value), k ≤ 4 * (m + 7) ∧ i = .int .i64 k ∧ con = .int .u8 (I cn) ∧ Hid (L.length = 4 * k) ∧ Hid (Prog m l T k cn L) ∧ Hid (wr.ownsRow w.heap.size 70 4 v k (bytes L)) ∧ Hid (Blk wr w.heap.size 67 (boxed v)) ∧ Below w.heap.size w wr) (fun _ i _ => 4 * (m + 7) - (intOf i).toNat)
    case atStart => exact ⟨0, [], 1, .slice none 0 0, by omega, rfl, rfl, hide rfl, hide Prog.start, hide (World.ownsRow_nil _ _ _ _), hblk1, hbe1⟩
    case round =>
      clear hblk1 hbe1
      obtain ⟨k, L, cn, v, hk, rfl, rfl, hL, hP, hown, hblk, hbe⟩ := hrel
      by_cases hlt : k < 4 * (m + 7)
      · have hb8 : Hid (Blk (wr.alloc (.cells #[Value.int .u8 0, Value.int .u8 0, Value.int .u8 0, Value.int .u8 0] 70)) wr.heap.size 70 (bytes [0, 0, 0, 0]).toArray) := hide (Blk.new _ _ _)
        have hown4 := hide (hown.out.alloc (.cells #[Value.int .u8 0, Value.int .u8 0, Value.int .u8 0, Value.int .u8 0] 70))
        have hblk4 := hide (Blk.alloc hblk.out (.cells #[Value.int .u8 0, Value.int .u8 0, Value.int .u8 0, Value.int .u8 0] 70))
        have hbe4 := hbe.alloc hbe.size (.cells #[Value.int .u8 0, Value.int .u8 0, Value.int .u8 0, Value.int .u8 0] 70)
        have hvl := hide (hown.out.lt)
        have hvp := hide (own_blk_ne hown.out hblk.out (by decide))
        have hgs := Blk.lt hblk.out
        clear hown hblk hbe
        go_upto_region 11 with fail
        generalize (wr.alloc (.cells #[Value.int .u8 0, Value.int .u8 0, Value.int .u8 0, Value.int .u8 0] 70)) = w4 at *
        generalize wr.heap.size = g8 at *
        go_upto_if 47 with fail
        go_cut [6] (fun con wd => ∃ (c' : UInt8) (W : List UInt8), con = .int .u8 (I c') ∧ Hid (W.length = 4) ∧ Hid (Prog m l T (k + 1) c' (L ++ W)) ∧ Hid (Blk wd g8 70 (bytes W).toArray) ∧ Hid (wd.ownsRow w.heap.size 70 4 v k (bytes L)) ∧ Hid (Blk wd w.heap.size 67 (boxed v)) ∧ Hid (Below w.heap.size w wd))
        case first =>
          by_cases hkm : k < m
          · have hsl := H.out.below hbe4
            have hcl : ((l.drop (4 * k)).take 4).length = 4 := by rw [List.length_take, List.length_drop, ← hll.out]; omega
            have hnc : ¬ c = 4 * k := by have := hmc.out; omega
            have hmc' : 4 * m ≤ c := hmc.out
            have hcut := hsl.reads.cut (k := 4 * k) (by omega) hmc'
            rw [if_neg hnc, Nat.mul_one] at hcut
            have hsrc : ∀ j u, (bytes ((l.drop (4 * k)).take 4))[j]? = some u → w4.cell? ((ad.add (4 * k)).add j) = some u := fun j u hj => by
              obtain ⟨ad', e, _, hc⟩ := hcut.2 (by omega)
              injection e with e
              subst e
              refine hc j u ?_
              rw [bytes_take, List.getElem?_take] at hj
              rw [← bytes_drop]
              split at hj
              · exact hj
              · cases hj
            have hprog := hide (hP.out.next_early hkm)
            generalize (l.drop (4 * k)).take 4 = W at hcl hsrc hprog
            have hcb : (bytes W).length = 4 := by rw [bytes_length, hcl]
            have HSRC := hide hsrc
            have HCB := hide hcb
            have HCL := hide hcl
            clear hsrc hcb hcl hcut hsl
            have hkm8 : m ≤ 8 := by omega
            obtain ⟨q, hqk⟩ : ∃ q, q = 4 * k := ⟨_, rfl⟩
            obtain ⟨e, hek⟩ : ∃ e, e = q + 4 := ⟨_, rfl⟩
            have hw1 : IntKind.i64.wrap (4 * (k : Int)) = (q : Int) := by rw [IntWalk.i64_in _ (by omega)]; omega
            have hw2 : IntKind.i64.wrap ((q : Int) + (4 : Int)) = (e : Int) := by rw [IntWalk.i64_in _ (by omega)]; omega
            have hw3 : max (e : Int) 0 = (e : Int) := by omega
            have z1 : (0 : Int) ≤ (e : Int) := by omega
            have z2 : (e : Int) ≤ (c : Int) := by omega
            have z3 : (0 : Int) ≤ (q : Int) := by omega
            have z4 : (q : Int) ≤ (e : Int) := by omega
            have hsub : e - q = 4 := by omega
            rw [← hqk] at hnc HSRC
            have HE := hide hek
            have HQ := hide hqk
            clear hek hqk
            go_wp2_with fail
            go_region_law (refine step_copy_splice rfl (.tmp 48) (.tmp 55) 26 26 rfl 5 Try.underlying26 size5r (some ⟨g8, 0, none⟩) (some (ad.add q)) 4 4 4 (c - q) (by simp [Act.eval, Act.put]) (by simp [Act.eval, Act.put]) g8 0 (bytes [0, 0, 0, 0]) 70 hb8.out (bytes W) HCB.out (fun _ => ⟨rfl, _, rfl, HSRC.out⟩) (by rw [HCB.out]; simp [bytes_length]) (bytes_one W) g8 w4.drew (Below.refl g8 w4.drew) (Nat.le_refl _) ?_; intro w5 HW5 hbe5)
            all_goals
              go_wp2
              go_meet
              case rel =>
                have e : splice (bytes [0, 0, 0, 0]) 0 (bytes W) = bytes W := by
                  unfold splice
                  rw [List.take_zero, List.nil_append, Nat.zero_add, HCB.out, List.drop_eq_nil_of_le (by simp [bytes_length]), List.append_nil]
                rw [e] at HW5
                exact ⟨cn, W, rfl, HCL, hprog, HW5, hide (own_below (w := w4.drew) hown4.out hbe5 (fun q hq => (hvl.out q hq).2)), hide (Blk.below (Blk.drew hblk4.out) hbe5 hgs), hide (hbe4.drew.trans (hbe5.mono (Nat.le_of_lt hgs)))⟩
          · have hmk : m ≤ k := by omega
            obtain ⟨g, cap, rfl, hgb, hgl⟩ := hown4.out.form (by omega)
            have hgg := (hvl.out g rfl).2
            have f0 : w4.cell? ⟨w.heap.size, 0, none⟩ = some (.slice (some ⟨g, 0, none⟩) k cap) := (Blk.cell hblk4.out 0).trans (boxed_at _)
            have hL' := hL.out
            have hdr := drop4 hL' (show 1 ≤ k by omega)
            have hrg : w4.rangeAt g ((k - 1) * 4) (bytes (L.drop (4 * (k - 1)))) := fun j u hj => by
              rw [Nat.mul_comm (k - 1) 4]
              rw [bytes_drop, List.getElem?_drop] at hj
              have hlt2 := (List.getElem?_eq_some_iff.1 hj).1
              rw [bytes_length, hL'] at hlt2
              exact (hown4.out.cellAt _ (by omega)).trans hj
            rw [hdr] at hrg
            have e1 : ((k : Int) - 1) = ((k - 1 : Nat) : Int) := by omega
            have hmod : (k : Int).tmod (m : Int) = ((k % m : Nat) : Int) := by
              rw [Int.tmod_eq_emod_of_nonneg (by omega)]
              rfl
            have hm0 : (m : Int) ≠ 0 := by omega
            generalize hb0 : L.getD (4 * (k - 1)) 0 = b0 at hrg
            generalize hb1 : L.getD (4 * (k - 1) + 1) 0 = b1 at hrg
            generalize hb2 : L.getD (4 * (k - 1) + 2) 0 = b2 at hrg
            generalize hb3 : L.getD (4 * (k - 1) + 3) 0 = b3 at hrg
            have H0 := hide hb0
            have H1 := hide hb1
            have H2 := hide hb2
            have H3 := hide hb3
            have HRG := hide hrg
            clear hb0 hb1 hb2 hb3 hdr hL' hrg
            have hz8 : Hid ((bytes [0, 0, 0, 0]).toArray.size = 4) := hide rfl
            have hl4 : Hid ([b0, b1, b2, b3].length = 4) := hide rfl
            go_upto_region 14 with (first
              | with_reducible refine wpList_load_mid rfl 70 (.tmp 63) rfl g ((k - 1) * 4) rfl (bytes [b0, b1, b2, b3]) _ HRG.out Try.underlying70 rfl (size70' hl4.out) ?_
              | with_reducible refine wpList_store70 rfl (.tmp 8) (.tmp 64) rfl g8 _ [b0, b1, b2, b3] rfl rfl hb8.out hl4.out hz8.out ?_)
            have hb8' := hide (Blk.setRow hb8.out (bytes [b0, b1, b2, b3]).toArray)
            have hown5 := hide (hown4.out.kept (only_setRow w4 g8 (bytes [b0, b1, b2, b3]).toArray) (.inr (show some g ≠ some g8 from fun h => by injection h with h; omega)))
            have hblk5 := hide (Blk.setRow_far hblk4.out (Nat.ne_of_lt hgs) (bytes [b0, b1, b2, b3]).toArray)
            have hbe5 := below_setRow hbe4 (Nat.le_of_lt hgs) (bytes [b0, b1, b2, b3]).toArray
            clear hb8 hown4 hblk4 hbe4 f0 HRG
            generalize w4.setRow g8 (bytes [b0, b1, b2, b3]).toArray = w5 at *
            go_upto_if 68 with fail
            go_cut [6] (fun con wd => ∃ (c' : UInt8) (W : List UInt8), con = .int .u8 (I c') ∧ Hid (W = [pre m k cn L 0, pre m k cn L 1, pre m k cn L 2, pre m k cn L 3]) ∧ Hid (c' = if k % m = 0 then Fld.times cn 2 else cn) ∧ Hid (Blk wd g8 70 (bytes W).toArray) ∧ Hid (wd.ownsRow w.heap.size 70 4 (.slice (some ⟨g, 0, none⟩) k cap) k (bytes L)) ∧ Hid (Blk wd w.heap.size 67 (boxed (.slice (some ⟨g, 0, none⟩) k cap))) ∧ Hid (Below w.heap.size w wd))
            case first =>
              have f0 : w5.cell? ⟨g8, 0, none⟩ = some (.int .u8 (I b0)) := blk_byte hb8'.out (k := 0) (by rw [hl4.out]; omega)
              have f1 : w5.cell? ⟨g8, 1, none⟩ = some (.int .u8 (I b1)) := blk_byte hb8'.out (k := 1) (by rw [hl4.out]; omega)
              have f2 : w5.cell? ⟨g8, 2, none⟩ = some (.int .u8 (I b2)) := blk_byte hb8'.out (k := 2) (by rw [hl4.out]; omega)
              have f3 : w5.cell? ⟨g8, 3, none⟩ = some (.int .u8 (I b3)) := blk_byte hb8'.out (k := 3) (by rw [hl4.out]; omega)
              have t0 : w5.cell? ⟨w.heap.size, 1 + (I b0).toNat, none⟩ = some (.int .u8 (I (Fld.sb b0))) := (Blk.cell hblk5.out _).trans (boxed_box _ b0)
              have t1 : w5.cell? ⟨w.heap.size, 1 + (I b1).toNat, none⟩ = some (.int .u8 (I (Fld.sb b1))) := (Blk.cell hblk5.out _).trans (boxed_box _ b1)
              have t2 : w5.cell? ⟨w.heap.size, 1 + (I b2).toNat, none⟩ = some (.int .u8 (I (Fld.sb b2))) := (Blk.cell hblk5.out _).trans (boxed_box _ b2)
              have t3 : w5.cell? ⟨w.heap.size, 1 + (I b3).toNat, none⟩ = some (.int .u8 (I (Fld.sb b3))) := (Blk.cell hblk5.out _).trans (boxed_box _ b3)
              have l0 : (0 : Int) ≤ I b0 := (I_bd b0).1
              have u0 : I b0 < (256 : Int) := by have := (I_bd b0).2; omega
              have l1 : (0 : Int) ≤ I b1 := (I_bd b1).1
              have u1 : I b1 < (256 : Int) := by have := (I_bd b1).2; omega
              have l2 : (0 : Int) ≤ I b2 := (I_bd b2).1
              have u2 : I b2 < (256 : Int) := by have := (I_bd b2).2; omega
              have l3 : (0 : Int) ≤ I b3 := (I_bd b3).1
              have u3 : I b3 < (256 : Int) := by have := (I_bd b3).2; omega
              have y0 : w5.frozen? ⟨g8, 0, none⟩ = false := Blk.frozen hb8'.out _
              have y1 : w5.frozen? ⟨g8, 1, none⟩ = false := Blk.frozen hb8'.out _
              have y2 : w5.frozen? ⟨g8, 2, none⟩ = false := Blk.frozen hb8'.out _
              have y3 : w5.frozen? ⟨g8, 3, none⟩ = false := Blk.frozen hb8'.out _
              clear hmod
              by_cases hk0 : k % m = 0
              · have q0 : ((k : Int) % (m : Int) == (0 : Int)) = true := by
                  have : (k : Int) % (m : Int) = 0 := by exact_mod_cast hk0
                  rw [this]
                  rfl
                go_wp2_with fail
                go_still_tail 31, (by kernel_rfl)
                go_wp2_with (go_at_call 15; refine (rtimes_lit2 cn _).mono ?_; rintro e w' ⟨rfl, rfl⟩)
                go_meet
                case rel =>
                  have G := word_only w5 g8 (.int .u8 (I (Fld.sb b1 ^^^ cn))) (.int .u8 (I (Fld.sb b2))) (.int .u8 (I (Fld.sb b3))) (.int .u8 (I (Fld.sb b0)))
                  refine ⟨Fld.times cn 2, [Fld.sb b1 ^^^ cn, Fld.sb b2, Fld.sb b3, Fld.sb b0], rfl, hide ?_, hide (by rw [if_pos hk0]), hide (word_stored hb8'.out _ _ _ _), hide (hown5.out.kept G (.inr (show some g ≠ some g8 from fun h => by injection h with h; omega))), hide (Blk.grown hblk5.out G (show some w.heap.size ≠ some g8 from fun h => by injection h with h; omega)), hide ((((hbe5.setCell (Nat.le_of_lt hgs) (p := ⟨g8, 0, none⟩) _).setCell (Nat.le_of_lt hgs) (p := ⟨g8, 1, none⟩) _).setCell (Nat.le_of_lt hgs) (p := ⟨g8, 2, none⟩) _).setCell (Nat.le_of_lt hgs) (p := ⟨g8, 3, none⟩) _).drew⟩
                  rw [pre_box hk0 H0.out H1.out H2.out H3.out]
              · have q0 : ((k : Int) % (m : Int) == (0 : Int)) = false := by
                  have : (k : Int) % (m : Int) ≠ 0 := by exact_mod_cast hk0
                  simpa using this
                by_cases hm8 : m = 8
                · by_cases hk4 : k % m = 4
                  · have q1 : ((k : Int) % (8 : Int) == (4 : Int)) = true := by
                      have : (k : Int) % (8 : Int) = 4 := by rw [hm8] at hk4; exact_mod_cast hk4
                      rw [this]
                      rfl
                    go_wp2_with fail
                    have hm6 : m > 6 := by omega
                    clear hm8 hm
                    go_still_tail 29, (by kernel_rfl)
                    go_wp2
                    go_meet
                    case rel =>
                      have G := word_only w5 g8 (.int .u8 (I (Fld.sb b0))) (.int .u8 (I (Fld.sb b1))) (.int .u8 (I (Fld.sb b2))) (.int .u8 (I (Fld.sb b3)))
                      refine ⟨cn, [Fld.sb b0, Fld.sb b1, Fld.sb b2, Fld.sb b3], rfl, hide ?_, hide (by rw [if_neg hk0]), hide (word_stored hb8'.out _ _ _ _), hide (hown5.out.kept G (.inr (show some g ≠ some g8 from fun h => by injection h with h; omega))), hide (Blk.grown hblk5.out G (show some w.heap.size ≠ some g8 from fun h => by injection h with h; omega)), hide ((((hbe5.setCell (Nat.le_of_lt hgs) (p := ⟨g8, 0, none⟩) _).setCell (Nat.le_of_lt hgs) (p := ⟨g8, 1, none⟩) _).setCell (Nat.le_of_lt hgs) (p := ⟨g8, 2, none⟩) _).setCell (Nat.le_of_lt hgs) (p := ⟨g8, 3, none⟩) _).drew⟩
                      rw [pre_sub hk0 ⟨hm6, hk4⟩ H0.out H1.out H2.out H3.out]
                  · have q1 : ((k : Int) % (8 : Int) == (4 : Int)) = false := by
                      have : (k : Int) % (8 : Int) ≠ 4 := by rw [hm8] at hk4; exact_mod_cast hk4
                      simpa using this
                    go_wp2_with fail
                    go_meet
                    case rel => exact ⟨cn, [b0, b1, b2, b3], rfl, hide (by rw [pre_none hk0 (fun h => by omega) H0.out H1.out H2.out H3.out]), hide (by rw [if_neg hk0]), hb8', hown5, hblk5, hide hbe5⟩
                · go_wp2_with fail
                  go_meet
                  case rel => exact ⟨cn, [b0, b1, b2, b3], rfl, hide (by rw [pre_none hk0 (fun h => by omega) H0.out H1.out H2.out H3.out]), hide (by rw [if_neg hk0]), hb8', hown5, hblk5, hide hbe5⟩
            case rest =>
              clear hb8' hown5 hblk5 hbe5 H0 H1 H2 H3 hmod
              obtain ⟨c', W, rfl, hW, hc', hb8, hown, hblk, hbe⟩ := hcut
              have hW4 := hW.out
              go_wp2_with fail
              go_loopw [9] (fun i wi => ∃ (j : Nat) (V : List UInt8), j ≤ 4 ∧ i = .int .i64 j ∧ V.length = 4 ∧ Hid (∀ x, x < 4 → V.getD x 0 = if x < j then Cip.word m k cn L x else pre m k cn L x) ∧ Hid (Blk wi g8 70 (bytes V).toArray) ∧ Hid (wi.ownsRow w.heap.size 70 4 (.slice (some ⟨g, 0, none⟩) k cap) k (bytes L)) ∧ Hid (Blk wi w.heap.size 67 (boxed (.slice (some ⟨g, 0, none⟩) k cap))) ∧ Hid (Below w.heap.size w wi)) (fun i _ => 4 - (intOf i).toNat)
              case atStart =>
                refine ⟨0, W, by omega, rfl, by rw [hW.out]; rfl, hide (fun x hx => ?_), hb8, hown, hblk, hbe⟩
                rw [if_neg (by omega), hW.out]
                match x, hx with
                | 0, _ => rfl
                | 1, _ => rfl
                | 2, _ => rfl
                | 3, _ => rfl
              case round =>
                clear hb8 hown hblk hbe hW hW4
                obtain ⟨j, V, hj, rfl, hV4, hV, hb8, hown, hblk, hbe⟩ := hrel
                by_cases hlj : j < 4
                · have f0 := blk_byte hb8.out (show j < V.length by omega)
                  have f1 : wr.cell? ⟨w.heap.size, 0, none⟩ = some (.slice (some ⟨g, 0, none⟩) k cap) := (Blk.cell hblk.out 0).trans (boxed_at _)
                  have f2 : wr.cell? ⟨g, (k - m) * 4 + j, none⟩ = some (.int .u8 (I (L.getD (4 * (k - m) + j) 0))) := by
                    rw [Nat.mul_comm (k - m) 4]
                    exact (hown.out.cellAt _ (by omega)).trans (bytes_get (by rw [hL.out]; omega))
                  have hx := hV.out j hlj
                  rw [if_neg (Nat.lt_irrefl _)] at hx
                  have hword := word_pre m k cn L j
                  rw [← hx] at hword
                  generalize V.getD j 0 = x at f0 hword
                  generalize L.getD (4 * (k - m) + j) 0 = y at f2 hword
                  have HW := hide hword
                  have y0 : wr.frozen? ⟨g8, j, none⟩ = false := Blk.frozen hb8.out _
                  have hidx : IntKind.i64.wrap ((k : Int) - (m : Int)) = ((k - m : Nat) : Int) := by
                    rw [IntWalk.i64_in _ (by omega)]
                    omega
                  have z0 : (0 : Int) ≤ ((k - m : Nat) : Int) := by omega
                  have z1 : ((k - m : Nat) : Int) < (k : Int) := by omega
                  clear hx hword
                  generalize k - m = d at f2 hidx z0 z1
                  go_wp2_with fail
                  go_still_tail 17, (by kernel_rfl)
                  go_wp2
                  go_roundw
                  case rel =>
                    refine ⟨j + 1, V.set j (x ^^^ y), by omega, by go_num, by rw [List.length_set]; exact hV4, hide (fun u hu => ?_), hide (Blk.drew (blk_put hb8.out j (x ^^^ y))), hide (hown.out.kept (only_drew (only_set (World.grownBy.refl _ (some g8)) j _)) (.inr (show some g ≠ some g8 from fun h => by injection h with h; omega))), hide (Blk.drew (Blk.far hblk.out (Nat.ne_of_lt hgs) _)), hide (hbe.out.setCell (Nat.le_of_lt hgs) (p := ⟨g8, j, none⟩) _).drew⟩
                    rw [set_getD (by omega)]
                    by_cases e : u = j
                    · subst e
                      rw [if_pos rfl, if_pos (by omega), HW.out]
                    · rw [if_neg e, hV.out u hu]
                      by_cases e2 : u < j
                      · rw [if_pos e2, if_pos (by omega)]
                      · rw [if_neg e2, if_neg (by omega)]
                  case measure => simp only [intOf]; omega
                · obtain rfl : j = 4 := by omega
                  have hv4 : V = (List.range 4).map (Cip.word m k cn L) := four_of hV4 (fun x hx => by rw [hV.out x hx, if_pos hx])
                  have HV4 := hide hv4
                  clear hv4
                  go_wp2
                  go_meet
                  case rel => exact ⟨c', V, rfl, hide hV4, hide (by rw [hc'.out, HV4.out]; exact hP.out.next_late hT.out hll.out.symm hmk hlt), hb8, hown, hblk, hbe⟩
        case rest =>
          clear hown4 hblk4 hbe4 hb8 hP
          obtain ⟨c', W, rfl, hW4, hP, hb8, hown, hblk, hbe⟩ := hcut
          obtain ⟨x0, x1, x2, x3, rfl⟩ := four_list hW4.out
          have f0 : wc.cell? ⟨g8, 0, none⟩ = some (.int .u8 (I x0)) := blk_byte hb8.out (k := 0) (by rw [hW4.out]; omega)
          have f1 : wc.cell? ⟨g8, 1, none⟩ = some (.int .u8 (I x1)) := blk_byte hb8.out (k := 1) (by rw [hW4.out]; omega)
          have f2 : wc.cell? ⟨g8, 2, none⟩ = some (.int .u8 (I x2)) := blk_byte hb8.out (k := 2) (by rw [hW4.out]; omega)
          have f3 : wc.cell? ⟨g8, 3, none⟩ = some (.int .u8 (I x3)) := blk_byte hb8.out (k := 3) (by rw [hW4.out]; omega)
          have hpw : w.heap.size < wc.heap.size := Blk.lt hblk.out
          have k0 : wc.cell? ⟨w.heap.size, 0, none⟩ = some v := (Blk.cell hblk.out 0).trans (boxed_at v)
          have k0' : (wc.alloc (.cells #[.int .u8 (I x0), .int .u8 (I x1), .int .u8 (I x2), .int .u8 (I x3)] 70)).cell? ⟨w.heap.size, 0, none⟩ = some v := (World.cell?_alloc_lt wc _ _ hpw).trans k0
          have hpg : some w.heap.size ≠ v.ownBlock := fun e => hvp.out e.symm
          have hx1 : k + 1 ≤ maxLen := by unfold maxLen; omega
          have hx2 : (k + 1) * 4 ≤ 140737488355328 := by omega
          have hx3 : w.heap.size ≤ (wc.alloc (.cells (bytes [x0, x1, x2, x3]).toArray 70)).drew.heap.size := by simp [World.drew]; omega
          obtain ⟨i1, hi', hz0', hz1', hz2'⟩ := info_parts info70
          have hbe' := hide (hbe.out.alloc (Nat.le_of_lt hpw) (.cells (bytes [x0, x1, x2, x3]).toArray 70))
          have hown' := hide (hown.out.alloc (.cells (bytes [x0, x1, x2, x3]).toArray 70))
          have HX3 := hide hx3
          have HX1 := hide hx1
          have HX2 := hide hx2
          have HPG := hide hpg
          clear hx3 hx1 hx2 hpg hown hbe
          go_wp2_with fail
          go_region_law (refine step_append_any _ (by rfl) (.tmp 164) (.tmp 166) 65 (by rfl) w.heap.size 70 i1 _ 4 4 Try.underlying65 hi' hz0' hz1' hz2' (by rfl) (by omega) v k _ (by simp [Act.eval]) hown'.out (wc.heap.size + 1) (some ⟨wc.heap.size, 0, none⟩) 1 1 (bytes [x0, x1, x2, x3]) (by simp [Act.eval]) (cells4 [x0, x1, x2, x3] rfl) (bytes_one _) HX1.out HX2.out HX3.out ?_; intro v3 w3 hown3 hg3 hat3; obtain ⟨g3, cap3, rfl, hgb3, hgl3⟩ := hown3.form (by omega); have hg4 : (wc.alloc (Obj.cells (bytes [x0, x1, x2, x3]).toArray 70)).grownBy w3 v.ownBlock := ⟨hg3.os, hg3.tape, hg3.output, hg3.size, hg3.block⟩; have hb3 := hide (Blk.grown (Blk.alloc hblk.out _) hg4 HPG.out); have k1 : w3.cell? ⟨w.heap.size, 0, none⟩ = some v := (Blk.cell hb3.out 0).trans (boxed_at v); have k2 : w3.frozen? ⟨w.heap.size, 0, none⟩ = false := Blk.frozen hb3.out _; have hg5 := hide hg4; have hown4 := hide hown3; clear hg3 hg4 hat3 hown3)
          all_goals
            clear k1 k2 f0 f1 f2 f3 k0 k0'
            go_wp2
            go_roundw
            case rel =>
              refine ⟨k + 1, L ++ [x0, x1, x2, x3], c', .slice (some ⟨g3, 0, none⟩) (k + 1) cap3, by omega, by go_num, rfl, hide (by rw [List.length_append, hL.out]; rfl), hP, hide ?_, hide ?_, (below_app hbe'.out HX3.out hown'.out hg5.out).setCell (Nat.le_refl _) (p := ⟨w.heap.size, 0, none⟩) _⟩
              · have hne := own_blk_ne hown4.out hb3.out (by decide)
                rw [bytes_append]
                exact hown4.out.kept (only_set (World.grownBy.refl _ (some w.heap.size)) 0 _) (.inr hne)
              · have := Blk.set_ hb3.out 0 (.slice (some ⟨g3, 0, none⟩) (k + 1) cap3)
                rw [boxed_set] at this
                exact this
            case measure => simp only [intOf]; omega
      · have hk4 : k = 4 * (m + 7) := by omega
        have hTL : T = L := by
          have := hP.out.late hT.out hll.out.symm (by omega)
          rw [this, hk4, Nat.sub_self]
          rfl
        obtain ⟨g, cap, rfl, hgb, hgl⟩ := hown.out.form (by omega)
        subst hTL
        obtain ⟨q1, q2⟩ := rkeys_of_own hL.out hown.out
        have Q2 := hide q2
        have HK4 := hide hk4
        have hcond : ¬ (k : Int) < 4 * ((m : Int) + 7) := by omega
        clear q2 hk4 hlt hT hP hown
        go_wp2_with fail
        go_ret2
        refine ⟨⟨w.heap.size, rfl, g, cap, ?_⟩, hbe⟩
        try rw [show 4 * m / 4 = m by omega]
        rw [HTL.out]
        have hk4 := HK4.out
        refine ⟨?_, ?_, by omega, by omega, by omega⟩
        · rw [← hk4, ← boxed_ci]
          exact hblk.out
        · obtain ⟨cur, c1, c2⟩ := Q2.out
          exact ⟨cur, c1, fun j hj => c2 j (by omega)⟩
end Go.Proofs.Ytjcdblnodbadcaa
