/- Walk: the law LedgerPairs. -/
import Derived.Test.YtgpkbembdflnmaaGreatDoorPairs
namespace Go.Proofs.YtgpkbembdflnmaaGreatDoor
open Go.RowKit
open Go.Lib (decDigits)

theorem Only.row {L b : Nat} {w w' : World} {base sz n : Nat} {e : TypeId} {v : Value} {xs : List Value} (ho : Only L b w w') (h : w.ownsRow base e sz v n xs) (h1 : v.ownBlock ≠ some L) (h2 : v.ownBlock ≠ some b) : w'.ownsRow base e sz v n xs := by
  refine ⟨h.1, ?_⟩
  rcases h.2 with hn | ⟨g, cap, cur, rfl, hb, hg, rest⟩
  · exact .inl hn
  · refine .inr ⟨g, cap, cur, rfl, hb, ?_, rest⟩
    rw [ho.block g (Array.getElem?_eq_some_iff.1 hg).1 (fun e => h1 (by rw [← e]; rfl)) (fun e => h2 (by rw [← e]; rfl))]
    exact hg

theorem Only.trans {L b : Nat} {w w1 w2 : World} (h : Only L b w w1) (k : Only L b w1 w2) : Only L b w w2 :=
  ⟨k.os.trans h.os, k.tape.trans h.tape, k.output.trans h.output, Nat.le_trans h.size k.size, fun j hj h1 h2 => (k.block j (Nat.lt_of_lt_of_le hj h.size) h1 h2).trans (h.block j hj h1 h2)⟩

theorem Only.box {L b k : Nat} {w w' : World} {o : Obj} (ho : Only L b w w') (h : w.heap[k]? = some o) (h1 : k ≠ L) (h2 : k ≠ b) : w'.heap[k]? = some o := by
  rw [ho.block k (Array.getElem?_eq_some_iff.1 h).1 h1 h2]; exact h

theorem names_cell {w : World} {g : Nat} (h : w.heap[g]? = some (.cells #[str (nm 0), str (nm 1), str (nm 2)] 9 (0, 0))) : ∀ k, k < 3 → w.cell? ⟨g, k, none⟩ = some (str (nm k)) := by
  intro k hk
  match k, hk with
  | 0, _ => exact box_cell h rfl
  | 1, _ => exact box_cell h rfl
  | 2, _ => exact box_cell h rfl

theorem pair_ents {w : World} (a c a' c' : List UInt8) : Ents (w.alloc (.cells #[str a, str c, str a', str c'] 38)) (some ⟨w.heap.size, 0, none⟩) [(a, c), (a', c')] := by
  refine ⟨fun j hj => ⟨w.heap.size, 0, rfl, by simp, ?_, ?_⟩⟩
  · match j, hj with
    | 0, _ => exact box_cell (j := 0) (at_new rfl) rfl
    | 1, _ => exact box_cell (j := 2) (at_new rfl) rfl
  · match j, hj with
    | 0, _ => exact box_cell (j := 1) (at_new rfl) rfl
    | 1, _ => exact box_cell (j := 3) (at_new rfl) rfl

theorem le3 {α : Type} {x y z : α} {ts : List α} (hnd : ts.Nodup) (h : ∀ s ∈ ts, s = x ∨ s = y ∨ s = z) : ts.length ≤ 3 := by
  match ts, hnd, h with
  | [], _, _ => simp
  | [_], _, _ => simp
  | [_, _], _, _ => simp
  | [_, _, _], _, _ => simp
  | a :: b :: c :: d :: r, hnd, h =>
    exfalso
    have ha := h a (by simp)
    have hb := h b (by simp)
    have hc := h c (by simp)
    have hd := h d (by simp)
    simp only [List.nodup_cons, List.mem_cons, not_or] at hnd
    obtain ⟨⟨h1, h2, h3, _⟩, ⟨h4, h5, _⟩, ⟨h6, _⟩, _⟩ := hnd
    rcases ha with rfl | rfl | rfl <;> rcases hb with rfl | rfl | rfl <;> rcases hc with rfl | rfl | rfl <;> rcases hd with rfl | rfl | rfl <;> simp_all

theorem row_block {w : World} {base sz n g c : Nat} {e : TypeId} {xs : List Value} (h : w.ownsRow base e sz (.slice (some ⟨g, 0, none⟩) n c) n xs) : ∃ cs, w.heap[g]? = some (.cells cs e (0, 0)) := by
  rcases h.2 with ⟨h', _⟩ | ⟨g', cap', cur, h', _, hg, _⟩
  · simp at h'
  · simp only [Value.slice.injEq, Option.some.injEq, Addr.mk.injEq, and_true, true_and] at h'
    obtain ⟨rfl, _⟩ := h'
    exact ⟨cur, hg⟩

theorem Led.set {w : World} {L b n posts g k : Nat} {dom : List UInt8 → Bool} {bal : List UInt8 → Int} {B : Nat} (h : Led w L b n posts dom bal B) {cs : Array Value} (hg : w.heap[g]? = some (.cells cs 3 (0, 0))) (hne : L ≠ g) (u : Value) : Led (w.setCell ⟨g, k, none⟩ u) L b n posts dom bal B :=
  ⟨box_far u h.box hne, h.book.set (p := ⟨g, k, none⟩) hg (by decide) u⟩

set_option maxRecDepth 100000 in
set_option maxHeartbeats 8000000 in
theorem law_Pairs (ao : Option Addr) (cp : Nat) (us : List Nat) (w : World) (h : U16s w ao us) (hn : us.length ≤ 9223372036854775807) (htab : Tab w) :
    Calls Tryz.prog 3 #[.slice ao us.length cp] w fun e w' => e = .returned (.bool true) ∧ Below w.heap.size w w' := by
  have HH := Lib.hid h
  have HT := Lib.hid htab
  clear h htab
  by_cases h256 : 256 < us.length
  · go_enter Tryz.func3, Tryz.ntmps3
    go_wp2_with fail
    go_ret
    exact ⟨rfl, Below.refl _ _⟩
  · go_enter Tryz.func3, Tryz.ntmps3
    go_wp2_with fail
    refine (ledger_New w).mono ?_
    rintro e w1 ⟨rfl, hL, hbl⟩
    go_wp2_with fail
    have hsz := hbl.size
    have hLd := Lib.hid hL
    have hw1 : w.heap.size + 2 ≤ w1.heap.size := by have := hL.lt; omega
    go_loopw [6] (fun s6 wr => ∃ (i : Nat) (dom : List UInt8 → Bool) (bal : List UInt8 → Int) (Ws : List Int), s6 = .int .i64 (i : Int) ∧ i ≤ us.length ∧ Hid (Led wr (w.heap.size + 1) w.heap.size (2 * i) i dom bal (165 + i)) ∧ Hid (PairAt dom bal Ws i) ∧
        wr.heap[w1.heap.size]? = some (.cells #[str (nm 0), str (nm 1), str (nm 2)] 9 (0, 0)) ∧ Hid (wr.ownsRow 0 3 1 (.slice (some ⟨w1.heap.size + 1, 0, none⟩) 3 3) 3 (Ws.map (Value.int .i64))) ∧ Below w.heap.size w wr) (fun s6 _ => us.length - (intOf s6).toNat)
    case atStart =>
      refine ⟨0, _, _, [0, 0, 0], rfl, Nat.zero_le _, Lib.hid ?_, PairAt.start, at_old (at_new rfl), Lib.hid ?_, ((hbl.alloc hsz _).alloc (by simp; omega) _)⟩
      · have hL2 := (hLd.out.below ((Below.refl _ _).alloc (Nat.le_refl _) (Obj.cells #[str (nm 0), str (nm 1), str (nm 2)] 9))).below ((Below.refl _ _).alloc (Nat.le_refl _) (Obj.cells #[.int .i64 0, .int .i64 0, .int .i64 0] 3))
        exact ⟨hL2.box, hL2.book.mono (Nat.zero_le _) (Nat.zero_le _)⟩
      · have := World.ownsRow_lit (base := 0) (e := 3) (size := 1) (w1.alloc (Obj.cells #[str (nm 0), str (nm 1), str (nm 2)] 9)) #[Value.int .i64 0, Value.int .i64 0, Value.int .i64 0] 3 (Nat.zero_le _) (by simp [maxLen]) rfl
        have hsA : (w1.alloc (Obj.cells #[str (nm 0), str (nm 1), str (nm 2)] 9)).heap.size = w1.heap.size + 1 := by simp
        rw [hsA] at this
        exact this
    case round =>
      obtain ⟨i, dom, bal, Ws, rfl, hi, HL, HP, hnb, HW, hbel⟩ := hrel
      have hnbl := (Array.getElem?_eq_some_iff.1 hnb).1
      by_cases hlt : i < us.length
      · obtain ⟨g, o, rfl, hg, hc, hu⟩ := HH.out.cells i hlt
        have hcr : wr.cell? ⟨g, o + i, none⟩ = some (.int .u16 (us[i] : Int)) := by rw [(bcell hbel).1 _ _ hg]; exact hc
        obtain ⟨u, hue⟩ : ∃ u, us[i] = u := ⟨_, rfl⟩
        rw [hue] at hcr hu
        clear hc hue
        obtain ⟨f, hfe⟩ : ∃ f, u % 3 = f := ⟨_, rfl⟩
        obtain ⟨t, hte⟩ : ∃ t, u / 3 % 3 = t := ⟨_, rfl⟩
        obtain ⟨n, hne⟩ : ∃ n, u / 9 = n := ⟨_, rfl⟩
        have hf3 : f < 3 := by omega
        have ht3 : t < 3 := by omega
        have hn7 : n ≤ 7281 := by omega
        have hf1 : (u : Int) % 3 = (f : Int) := by omega
        have ht1 : (u : Int) / 3 % 3 = (t : Int) := by omega
        have hn1 : (u : Int) / 9 = (n : Int) := by omega
        clear hfe hte hne
        go_upto_region 12 with fail
        simp only [hf1, ht1]
        clear hf1 ht1 hn1
        go_wp2_with fail
        refine (ref02_Of (n : Int) wr (by omega) (by omega)).mono ?_
        rintro e w3 ⟨xo, xn, xc, rfl, hX, hbl3⟩
        have hdn : decide ((n : Int) < 0) = false := decide_eq_false (by omega)
        rw [hdn]
        clear hdn
        go_upto_region 13 with fail
        have hszr := hbel.size
        have hblx := hbl3.trans ((Below.refl _ _).alloc hbl3.size (Obj.cells #[.bool false, .slice xo xn xc] 31))
        have hb10 := at_new (w := w3) (o := Obj.cells #[.bool false, .slice xo xn xc] 31) rfl
        have hX2 := hX.alloc (Obj.cells #[.bool false, .slice xo xn xc] 31)
        have hnb2 := below_box hblx hnb
        have hL2 := HL.out.below hblx
        have hs3 := hbl3.size
        generalize hW0 : w3.alloc (Obj.cells #[.bool false, .slice xo xn xc] 31) = W0 at *
        have hdr : Below W0.heap.size W0 W0.drew := ⟨rfl, rfl, rfl, Nat.le_refl _, fun _ _ => rfl⟩
        have HX := Lib.hid (RRow.below hX2 hdr)
        have HLD := Lib.hid (hL2.below hdr)
        have hcf := names_cell hnb2 f hf3
        have hct := names_cell hnb2 t ht3
        have hx0 := box_cell (j := 0) hb10 rfl
        have hx1 := box_cell (j := 1) hb10 rfl
        have hnabs : ((n : Int)).natAbs = n := by simp
        rw [hnabs] at HX
        have hnl9 : Limb.nl B9 n ≤ 100000000000 := Nat.le_trans (Limb.nl_le B9two 1 n (by show n < 1000000000 ^ 1; omega)) (by decide)
        obtain ⟨Z, hZ⟩ : ∃ Z, Z = -(n : Int) := ⟨_, rfl⟩
        have hZa : Z.natAbs = n := by rw [hZ]; simp
        have HNEG := Lib.hid (show Calls Tryz.prog 10 #[.agg #[.bool false, .slice xo xn xc]] W0.drew (RetRNum W0.drew Z) from by rw [hZ]; exact ref02_Neg false xo xn xc n W0.drew HX.out)
        have HT1 := Lib.hid fun (W : World) (yo : Option Addr) (yn yc : Nat) (hY : RNt W (.slice yo yn yc) Z.natAbs) => ref02_Text yo yn yc Z W hY (by rw [hZa]; exact hnl9)
        have HT2 := Lib.hid fun (W : World) (hY : RNt W (.slice xo xn xc) n) => (show Calls Tryz.prog 11 #[.agg #[.bool false, .slice xo xn xc]] W fun e w' => e = .returned (str (numText (n : Int))) ∧ Below W.heap.size W w' from by
          have := ref02_Text xo xn xc (n : Int) W (by rw [hnabs]; exact hY) (by rw [hnabs]; exact hnl9)
          rwa [decide_eq_false (show ¬ (n : Int) < 0 by omega)] at this)
        have HPOST := Lib.hid fun (W : World) (ga : Nat) (hE : Ents W (some ⟨ga, 0, none⟩) [(nm f, numText Z), (nm t, numText (n : Int))]) (hLW : Led W (w.heap.size + 1) w.heap.size (2 * i) i dom bal (165 + i)) => (by
          have h1 := ledger_Post (some ⟨ga, 0, none⟩) 2 100 [(nm f, numText Z), (nm t, numText (n : Int))] W hE (by decide) (by
            intro x hx
            simp only [List.mem_cons, List.not_mem_nil, or_false] at hx
            rcases hx with rfl | rfl
            · exact ⟨by simp [nm], text_len _ (by rw [hZa]; omega)⟩
            · exact ⟨by simp [nm], text_len _ (by rw [hnabs]; omega)⟩) (by simp) hLW (by omega) (by omega) (by omega)
          rw [hZ, read_pair f t (n : Int) hf3 ht3] at h1
          exact h1 : Calls Tryz.prog 9 #[.pointer (some ⟨w.heap.size + 1, 0, none⟩), .slice (some ⟨ga, 0, none⟩) 2 2] W fun e w' => e = .returned (.int .i64 0) ∧
            Led w' (w.heap.size + 1) w.heap.size (2 * i + 2) (i + 1) (fun k => dom k || ((false || k == nm f) || k == nm t)) (fun k => bal k + (if k = nm t then (if nm t = nm f then 0 + -(n : Int) else 0) + (n : Int) else if k = nm f then 0 + -(n : Int) else 0)) (max (165 + i) (100 + 64) + 1) ∧ Only (w.heap.size + 1) w.heap.size W w')
        clear hZ hZa hX2 hX hW0
        have hfI : (f : Int) < 3 := by omega
        have htI : (t : Int) < 3 := by omega
        go_cut [11] (fun s11 wx => s11 = .int .i64 0 ∧ Hid (Led wx (w.heap.size + 1) w.heap.size (2 * i + 2) (i + 1) (fun k => dom k || ((false || k == nm f) || k == nm t)) (fun k => bal k + (if k = nm t then (if nm t = nm f then 0 + -(n : Int) else 0) + (n : Int) else if k = nm f then 0 + -(n : Int) else 0)) (max (165 + i) (100 + 64) + 1)) ∧ Only (w.heap.size + 1) w.heap.size W0 wx)
        case first =>
          go_region_held3 (fun w' => w'.cell? ⟨w1.heap.size, f, none⟩ = some (str (nm f)) ∧ w'.cell? ⟨w1.heap.size, t, none⟩ = some (str (nm t)) ∧ w'.cell? ⟨w3.heap.size, 0, none⟩ = some (.bool false) ∧ w'.cell? ⟨w3.heap.size, 1, none⟩ = some (.slice xo xn xc))
            (first
              | (exact ⟨hcf, hct, hx0, hx1⟩)
              | (exact ⟨hcf8, hct8, hx08, hx18⟩)
              | (exact ⟨hcf7, hct7, hx07, hx17⟩)
              | (exact ⟨hcf6, hct6, hx06, hx16⟩)
              | (exact ⟨hcf5, hct5, hx05, hx15⟩)
              | (exact ⟨hcf4, hct4, hx04, hx14⟩))
            (first
              | (go_at_call 10; refine HNEG.out.mono ?_; rintro e w4 ⟨yo, yn, yc, rfl, hY, hbl4⟩; have hb4 := hdr.trans hbl4; have HY := Lib.hid hY; have hcf4 := names_cell (below_box hb4 hnb2) f hf3; have hct4 := names_cell (below_box hb4 hnb2) t ht3; have hx04 := box_cell (j := 0) (below_box hb4 hb10) rfl; have hx14 := box_cell (j := 1) (below_box hb4 hb10) rfl; clear hY)
              | (go_at_call 11; refine (HT1.out _ _ _ _ HY.out).mono ?_; rintro e w5 ⟨rfl, hbl5⟩; have hb5 := hb4.trans (hbl5.mono hb4.size); have HX5 := Lib.hid (RRow.below (RRow.below HX.out hbl4) hbl5); have hcf5 := names_cell (below_box hb5 hnb2) f hf3; have hct5 := names_cell (below_box hb5 hnb2) t ht3; have hx05 := box_cell (j := 0) (below_box hb5 hb10) rfl; have hx15 := box_cell (j := 1) (below_box hb5 hb10) rfl; clear HY HT1)
              | (go_at_call 11; refine (HT2.out _ HX5.out).mono ?_; rintro e w6 ⟨rfl, hbl6⟩; have hb6 := hb5.trans (hbl6.mono hb5.size); have hb7 := hb6.alloc hb6.size (Obj.cells #[str (nm f), str (numText Z), str (nm t), str (numText (n : Int))] 38); have hcf6 := names_cell (below_box hb6 hnb2) f hf3; have hct6 := names_cell (below_box hb6 hnb2) t ht3; have hx06 := box_cell (j := 0) (below_box hb6 hb10) rfl; have hx16 := box_cell (j := 1) (below_box hb6 hb10) rfl; have hcf7 := names_cell (below_box hb7 hnb2) f hf3; have hct7 := names_cell (below_box hb7 hnb2) t ht3; have hx07 := box_cell (j := 0) (below_box hb7 hb10) rfl; have hx17 := box_cell (j := 1) (below_box hb7 hb10) rfl)
              | (go_at_call 9; refine (HPOST.out _ _ (pair_ents _ _ _ _) (HLD.out.below (((hbl4.trans (hbl5.mono hbl4.size)).trans (hbl6.mono (Nat.le_trans hbl4.size hbl5.size))).alloc (Nat.le_trans hbl4.size (Nat.le_trans hbl5.size hbl6.size)) _))).mono ?_; rintro e w9 ⟨rfl, hL9, hO9⟩; have hO10 := ((Only.refl (w.heap.size + 1) w.heap.size W0).below hb7).trans hO9; have HL9 := Lib.hid hL9; have hcf8 := names_cell (hO10.box hnb2 (by omega) (by omega)) f hf3; have hct8 := names_cell (hO10.box hnb2 (by omega) (by omega)) t ht3; have hx08 := box_cell (j := 0) (hO10.box hb10 (by omega) (by omega)) rfl; have hx18 := box_cell (j := 1) (hO10.box hb10 (by omega) (by omega)) rfl; clear hL9))
          go_wp2_with fail
          go_meet
          exact ⟨rfl, HL9, hO10⟩
        case rest =>
          obtain ⟨rfl, HL9, hO10⟩ := hcut
          have hwl : w1.heap.size + 1 < wr.heap.size := by
            have h1 := HW.out.lt (w1.heap.size + 1) rfl; omega
          have hW2 := Only.row hO10 (World.ownsRow.kept HW.out (grown_below hblx) (.inr (by simp [Value.ownBlock]))) (by simp [Value.ownBlock]; omega) (by simp [Value.ownBlock]; omega)
          have hnb5 := hO10.box hnb2 (by omega) (by omega)
          have hbelx := Only.toBelow (hbel.trans (hblx.mono hbel.size)) hO10 (by omega) (by omega)
          have hlenW := HP.out.len
          have HPS := Lib.hid (HP.out.step hf3 ht3 (show (0 : Int) ≤ (n : Int) by omega) (show (n : Int) ≤ 10000 by omega))
          obtain ⟨vf, hvf⟩ : ∃ vf, Ws.getD f 0 = vf := ⟨_, rfl⟩
          have hle1 := HP.out.le f hf3
          have hf2 : Ws[f]? = some vf := by rw [← hvf]; simp [List.getD, show f < Ws.length by omega]
          have hc1 : wc.cell? ⟨w1.heap.size + 1, f, none⟩ = some (.int .i64 vf) := by
            rw [hW2.cellAt f (by omega), List.getElem?_map, hf2]; rfl
          have hz1 := hW2.frozenAt f
          rw [hvf] at hle1
          have hv1 : -6000000 ≤ vf ∧ vf ≤ 6000000 := by omega
          obtain ⟨hv1a, hv1b⟩ := hv1
          obtain ⟨vt, hvt⟩ : ∃ vt, (Ws.set f (vf - n)).getD t 0 = vt := ⟨_, rfl⟩
          have hle2 : -6100000 ≤ vt ∧ vt ≤ 6100000 := by
            have := HP.out.le t ht3
            rw [getD_set _ _ _ _ (by omega)] at hvt
            split at hvt <;> omega
          obtain ⟨hv2a, hv2b⟩ := hle2
          have HW3 := Lib.hid (hW2.stored f (.int .i64 (vf - n))).1
          have hs5 := (hW2.stored f (.int .i64 (vf - n))).2
          rw [hvf, hvt] at HPS
          have HVT := Lib.hid hvt
          clear hvt hvf hf2 hle1 HP HNEG HT1 HT2 HPOST HLD HX
          obtain ⟨csW, hgW⟩ := row_block hW2
          have HL10 := Lib.hid (HL9.out.set (k := f) hgW (by omega) (.int .i64 (vf - n)))
          have hnb6 := box_far (p := ⟨w1.heap.size + 1, f, none⟩) (.int .i64 (vf - n)) hnb5 (by show w1.heap.size ≠ w1.heap.size + 1; omega)
          have hbel6 := hbelx.setCell (p := ⟨w1.heap.size + 1, f, none⟩) (by show w.heap.size ≤ w1.heap.size + 1; omega) (.int .i64 (vf - n))
          go_upto_region 15 with fail
          generalize wc.setCell ⟨w1.heap.size + 1, f, none⟩ (.int .i64 (vf - n)) = W5 at *
          have hWs2 : (Ws.map (Value.int .i64)).set f (.int .i64 (vf - n)) = (Ws.set f (vf - n)).map (Value.int .i64) := by rw [List.map_set]
          rw [hWs2] at HW3
          have hl5 : (Ws.set f (vf - n)).length = 3 := by simp; omega
          have ht2 : (Ws.set f (vf - n))[t]? = some vt := by
            have := HVT.out
            rw [← this]; simp [List.getD, show t < Ws.length by omega]
          have hc2 : W5.cell? ⟨w1.heap.size + 1, t, none⟩ = some (.int .i64 vt) := by
            rw [HW3.out.cellAt t (by omega), List.getElem?_map, ht2]; rfl
          have hz2 := HW3.out.frozenAt t
          have HW6 := Lib.hid (HW3.out.stored t (.int .i64 (vt + n))).1
          rw [List.map_set.symm] at HW6
          obtain ⟨csV, hgV⟩ := row_block HW3.out
          have HL11 := Lib.hid (HL10.out.set (k := t) hgV (by omega) (.int .i64 (vt + n)))
          have hnb7 := box_far (p := ⟨w1.heap.size + 1, t, none⟩) (.int .i64 (vt + n)) hnb6 (by show w1.heap.size ≠ w1.heap.size + 1; omega)
          have hbel7 := hbel6.setCell (p := ⟨w1.heap.size + 1, t, none⟩) (by show w.heap.size ≤ w1.heap.size + 1; omega) (.int .i64 (vt + n))
          have HL12 : Hid (Led (W5.setCell ⟨w1.heap.size + 1, t, none⟩ (.int .i64 (vt + n))) (w.heap.size + 1) w.heap.size (2 * (i + 1)) (i + 1) (fun k => dom k || ((false || k == nm f) || k == nm t)) (fun k => bal k + (if k = nm t then (if nm t = nm f then 0 + -(n : Int) else 0) + (n : Int) else if k = nm f then 0 + -(n : Int) else 0)) (165 + (i + 1))) :=
            ⟨HL11.out.box, HL11.out.book.mono (by omega) (by omega)⟩
          clear hWs2 ht2 hgW hgV HL9 HL10 HL11 hnb5 hnb6 hbelx hbel6 HW3 hW2 hs5 HW hc1 hz1
          go_wp2_with fail
          exact ⟨⟨i + 1, _, _, _, by go_num, by omega, HL12, HPS, hnb7, HW6, hbel7⟩, by simp [intOf]; omega⟩
      · obtain rfl : i = us.length := by omega
        have hwl : w1.heap.size + 1 < wr.heap.size := by
          have h1 := HW.out.lt (w1.heap.size + 1) rfl; omega
        generalize wr = wA at *
        go_wp2_with fail
        go_loopw [12] (fun s12 wr => ∃ j : Nat, s12 = .int .i64 (j : Int) ∧ j ≤ 3 ∧ Below wA.heap.size wA wr) (fun s12 _ => 3 - (intOf s12).toNat)
        case atStart => exact ⟨0, rfl, by omega, Below.refl _ _⟩
        case round =>
          obtain ⟨j, rfl, hj, hb2⟩ := hrel
          by_cases hj3 : j < 3
          · have hjI : (j : Int) < 3 := by omega
            have hs2 := hb2.size
            obtain ⟨v, hv⟩ : ∃ v, Ws.getD j 0 = v := ⟨_, rfl⟩
            have hWr := World.ownsRow.kept HW.out (grown_below hb2) (.inr (by simp [Value.ownBlock]))
            have hjW : Ws[j]? = some v := by have := HP.out.len; rw [← hv]; simp [List.getD, show j < Ws.length by omega]
            have hcw : wr.cell? ⟨w1.heap.size + 1, j, none⟩ = some (.int .i64 v) := by
              rw [hWr.cellAt j (by omega), List.getElem?_map, hjW]; rfl
            have hcn := names_cell (below_box hb2 hnb) j hj3
            have hvb := HP.out.le j hj3
            rw [hv] at hvb
            have hbalv : bal (nm j) = v := by rw [HP.out.eq j hj3, hv]
            have hdr : Below wr.heap.size wr wr.drew := ⟨rfl, rfl, rfl, Nat.le_refl _, fun _ _ => rfl⟩
            have hbW := hb2.trans (hdr.mono hb2.size)
            have hLr := HL.out.below hbW
            have HBAL := Lib.hid (show Calls Tryz.prog 12 #[.pointer (some ⟨w.heap.size + 1, 0, none⟩), str (nm j)] wr.drew fun e w' => e = .returned (str (numText v)) ∧ Below wr.drew.heap.size wr.drew w' from by
              have := ledger_Balance wr.drew hLr (nm j) (by simp [nm, maxLen]) (by omega) (HT.out.below (hbel.trans (hbW.mono hbel.size)))
              rwa [hbalv] at this)
            have HOF := Lib.hid fun W => ref02_Of v W (by omega) (by omega)
            have hnl9 : Limb.nl B9 v.natAbs ≤ 100000000000 := Nat.le_trans (Limb.nl_le B9two 1 _ (by show v.natAbs < 1000000000 ^ 1; omega)) (by decide)
            have HTX := Lib.hid fun (W : World) (yo : Option Addr) (yn yc : Nat) (hY : RNt W (.slice yo yn yc) v.natAbs) => ref02_Text yo yn yc v W hY hnl9
            clear hv hjW hbalv hvb hnl9 hLr hWr
            go_upto_region 21 with fail
            go_cut [96] (fun s96 wx => s96 = .bool false ∧ Below wr.heap.size wr wx)
            case first =>
              go_region_held3 (fun w' => w'.cell? ⟨w1.heap.size, j, none⟩ = some (str (nm j)) ∧ w'.cell? ⟨w1.heap.size + 1, j, none⟩ = some (.int .i64 v))
                (first
                  | (exact ⟨hcn, hcw⟩)
                  | (exact ⟨hcn4, hcw4⟩)
                  | (exact ⟨hcn5, hcw5⟩)
                  | (exact ⟨hcn6, hcw6⟩))
                (first
                  | (go_at_call 12; refine HBAL.out.mono ?_; rintro e w4 ⟨rfl, hbl4⟩; have hb4 := hdr.trans hbl4; have hcn4 := ((bcell hb4).1 w1.heap.size j (by omega)).trans hcn; have hcw4 := ((bcell hb4).1 (w1.heap.size + 1) j (by omega)).trans hcw)
                  | (go_at_call 8; refine (HOF.out _).mono ?_; rintro e w5 ⟨yo, yn, yc, rfl, hY, hbl5⟩; have HY := Lib.hid hY; have hb5 := hb4.trans (hbl5.mono hb4.size); have hcn5 := ((bcell hb5).1 w1.heap.size j (by omega)).trans hcn; have hcw5 := ((bcell hb5).1 (w1.heap.size + 1) j (by omega)).trans hcw; clear hY)
                  | (go_at_call 11; refine (HTX.out _ _ _ _ HY.out).mono ?_; rintro e w6 ⟨rfl, hbl6⟩; have hb6 := hb5.trans (hbl6.mono hb5.size); have hcn6 := ((bcell hb6).1 w1.heap.size j (by omega)).trans hcn; have hcw6 := ((bcell hb6).1 (w1.heap.size + 1) j (by omega)).trans hcw))
              go_wp2_with fail
              go_meet
              exact ⟨rfl, hb6⟩
            case rest =>
              obtain ⟨rfl, hbx⟩ := hcut
              have hbx2 := hb2.trans (hbx.mono hb2.size)
              go_wp2_with fail
              exact ⟨⟨j + 1, by go_num, by omega, hbx2⟩, by simp [intOf]; omega⟩
          · obtain rfl : j = 3 := by omega
            have hLr := HL.out.below hb2
            have hbelr := hbel.trans (hb2.mono hbel.size)
            have HTR := Lib.hid fun W (hb : Below wr.heap.size wr W) => ledger_Trial W (hLr.below hb) (by omega) (by omega) (HT.out.below (hbelr.trans (hb.mono hbelr.size)))
            have HLN := Lib.hid (ledger_Len wr hLr)
            go_wp2_with fail
            refine HLN.out.mono ?_
            rintro e w7 ⟨rfl, rfl⟩
            have hpd := HP.out.dom
            go_wp2_with fail
            refine (HTR.out _ (Below.refl _ _)).mono ?_
            rintro e w8 ⟨v, ts, rfl, hnd, hmem, hsort, hrow, hbl8⟩
            obtain ⟨eo, ec, rfl, _⟩ := hrow.ents
            have hts := le3 hnd (fun s hs => hpd s ((hmem s).1 hs))
            have hlen : (ts.map fun s => (s, numText (bal s))).length = ts.length := by simp
            rw [hlen]
            have hl3 : (ts.length : Int) ≤ 3 := by omega
            have hbel8 := hbelr.trans (hbl8.mono hbelr.size)
            clear hnd hmem hsort hrow hpd hlen
            go_wp2_with fail
            go_ret
            exact ⟨rfl, hbel8⟩
end Go.Proofs.YtgpkbembdflnmaaGreatDoor
