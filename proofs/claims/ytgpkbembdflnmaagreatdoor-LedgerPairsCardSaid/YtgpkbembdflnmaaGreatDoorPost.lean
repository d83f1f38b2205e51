/- Walk: (*Ledger).Post, May. -/
import Derived.Test.YtgpkbembdflnmaaGreatDoorRead
namespace Go.Proofs.YtgpkbembdflnmaaGreatDoor
open Go.RowKit
open Go.Maps (Keyed)

/-- Of what was there only blocks L and b may have turned. -/
structure Only (L b : Nat) (w w' : World) : Prop where
  os : w'.os = w.os
  tape : w'.tape = w.tape
  output : w'.output = w.output
  size : w.heap.size ≤ w'.heap.size
  block : ∀ k, k < w.heap.size → k ≠ L → k ≠ b → w'.heap[k]? = w.heap[k]?

theorem Only.refl (L b : Nat) (w : World) : Only L b w w := ⟨rfl, rfl, rfl, Nat.le_refl _, fun _ _ _ _ => rfl⟩
theorem Only.below {L b : Nat} {w w1 w2 : World} (h : Only L b w w1) (hb : Below w1.heap.size w1 w2) : Only L b w w2 :=
  ⟨hb.os.trans h.os, hb.tape.trans h.tape, hb.output.trans h.output, Nat.le_trans h.size hb.size, fun k hk h1 h2 => (hb.block k (Nat.lt_of_lt_of_le hk h.size)).trans (h.block k hk h1 h2)⟩
theorem Only.grown {L b : Nat} {w w1 w2 : World} {row : Option Nat} (h : Only L b w w1) (hg : w1.grownBy w2 row) (hr : ∀ j, row = some j → j = L ∨ j = b ∨ w.heap.size ≤ j) : Only L b w w2 :=
  ⟨hg.os.trans h.os, hg.tape.trans h.tape, hg.output.trans h.output, Nat.le_trans h.size hg.size, fun k hk h1 h2 => (hg.block k (Nat.lt_of_lt_of_le hk h.size) (fun e => by
    rcases hr k e.symm with h3 | h3 | h3
    · exact h1 h3
    · exact h2 h3
    · omega)).trans (h.block k hk h1 h2)⟩
theorem Only.toBelow {L b : Nat} {w0 w w' : World} (h0 : Below w0.heap.size w0 w) (h : Only L b w w') (hL : w0.heap.size ≤ L) (hb : w0.heap.size ≤ b) : Below w0.heap.size w0 w' :=
  ⟨h.os.trans h0.os, h.tape.trans h0.tape, h.output.trans h0.output, Nat.le_trans h0.size h.size, fun k hk => (h.block k (Nat.lt_of_lt_of_le hk h0.size) (by omega) (by omega)).trans (h0.block k hk)⟩

def RetPost (w : World) (L b n posts : Nat) (dom : List UInt8 → Bool) (bal : List UInt8 → Int) (B M m : Nat) (r : Except Int ((List UInt8 → Bool) × (List UInt8 → Int))) (e : Ending) (w' : World) : Prop :=
  match r with
  | .error c => e = .returned (.int .i64 c) ∧ Below w.heap.size w w'
  | .ok (cd, cb) => e = .returned (.int .i64 0) ∧ Led w' L b (n + m) (posts + 1) (fun k => dom k || cd k) (fun k => bal k + cb k) (max B (M + 64) + 1) ∧ Only L b w w'

theorem readGo_zero : ∀ (es : List Ent) (dom : List UInt8 → Bool) (bal : List UInt8 → Int) (sum : Int) (cd : List UInt8 → Bool) (cb : List UInt8 → Int), (∀ k, dom k = false → bal k = 0) → readGo es dom bal sum = .ok (cd, cb) → ∀ k, cd k = false → cb k = 0
  | [], dom, bal, sum, cd, cb, h, e => by
    unfold readGo at e
    split at e
    · injection e with e; injection e with e1 e2; subst e1 e2; exact h
    · cases e
  | (a, c) :: es, dom, bal, sum, cd, cb, h, e => by
    unfold readGo at e
    split at e
    · cases e
    · split at e
      · cases e
      · rename_i n _
        refine readGo_zero es _ _ _ cd cb (fun k hk => ?_) e
        simp only [Bool.or_eq_false_iff, beq_eq_false_iff_ne] at hk
        simp only [hk.2, if_false]
        exact h k hk.1

theorem readM_zero {es : List Ent} {cd : List UInt8 → Bool} {cb : List UInt8 → Int} (e : readM es = .ok (cd, cb)) : ∀ k, cd k = false → cb k = 0 := by
  unfold readM at e
  split at e
  · cases e
  · split at e
    · cases e
    · exact readGo_zero es _ _ _ cd cb (fun _ _ => rfl) e

theorem readGo_err : ∀ (es : List Ent) (dom : List UInt8 → Bool) (bal : List UInt8 → Int) (sum : Int) (c : Int), readGo es dom bal sum = .error c → 10 ≤ c
  | [], dom, bal, sum, c, e => by
    unfold readGo at e
    split at e
    · cases e
    · injection e with e; omega
  | (a, t) :: es, dom, bal, sum, c, e => by
    unfold readGo at e
    split at e
    · injection e with e; omega
    · split at e
      · injection e with e; omega
      · exact readGo_err es _ _ _ c e

theorem readM_err {es : List Ent} {c : Int} (e : readM es = .error c) : 1 ≤ c := by
  unfold readM at e
  split at e
  · injection e with e; omega
  · split at e
    · injection e with e; omega
    · have := readGo_err es _ _ _ c e; omega

theorem ranges_iter {w : World} {b r n : Nat} {D : DataW Value} {left : Lit → Bool} {cnt : Nat} (h : w.ranges Tryz.prog 9 RNum b r n D left cnt) : ∃ i1 i2 i3 i4, w.heap[r]? = some (.mapIter i1 i2 i3 i4) := by
  obtain ⟨_, _, since, seen, c0, _, _, _, _, hr, _⟩ := h
  exact ⟨_, _, _, _, hr⟩

set_option maxHeartbeats 4000000 in
theorem ledger_Post (ao : Option Addr) (cp M : Nat) (es : List Ent) (w : World) (h : Ents w ao es) (hM : M ≤ 1000000000) (hlen : ∀ x ∈ es, x.1.length ≤ M ∧ x.2.length ≤ M) (hn : es.length ≤ 1000000000000)
    {L b n posts : Nat} {dom : List UInt8 → Bool} {bal : List UInt8 → Int} {B : Nat} (hL : Led w L b n posts dom bal B) (hB : B ≤ 10000000000) (hnn : n ≤ 1000000000000) (hp : posts ≤ 1000000000000) :
    Calls Tryz.prog 9 #[.pointer (some ⟨L, 0, none⟩), .slice ao es.length cp] w (RetPost w L b n posts dom bal B M es.length (readM es)) := by
  have HRD := Lib.hid (ledger_read ao cp M es w h hM hlen hn)
  cases hr : readM es with
  | error c =>
    rw [hr] at HRD
    have hc : ((c == 0) = false) := by have := readM_err hr; simp; omega
    go_enter Tryz.func9, Tryz.ntmps9
    go_wp2_with fail
    refine HRD.out.mono ?_
    rintro e w1 ⟨rfl, hbl⟩
    go_wp2_with fail
    go_ret
    exact ⟨rfl, hbl⟩
  | ok p =>
    obtain ⟨cd, cb⟩ := p
    rw [hr] at HRD
    have hz := readM_zero hr
    go_enter Tryz.func9, Tryz.ntmps9
    go_wp2_with fail
    refine HRD.out.mono ?_
    rintro e w1 ⟨bc, rfl, hbc, hBk, hbl⟩
    obtain ⟨D, hown, hhas, hval⟩ := hBk
    have hL1 := hL.below hbl
    go_wp2_with (first | (at_range; refine wpList_range_own _ rfl _ 56 rfl 9 68 lawStr Tryz.underlying56 RNum bc es.length D rfl hown ?_; intro w0 hrg0 hg0 hs0) | go_in)
    go_frame
    have hsz1 := hbl.size
    go_loopw [7] (fun _ wr => ∃ (left : Lit → Bool) (cnt nn : Nat), Hid (wr.ranges Tryz.prog 9 RNum bc w1.heap.size es.length D left cnt) ∧ wr.heap[L]? = some (.cells #[.map (some b), .int .i64 (posts : Int)] 58 (0, 0)) ∧
        Hid (Book wr b nn (fun k => dom k || (cd k && !left (.string k))) (fun k => if cd k && !left (.string k) then bal k + cb k else bal k) (max B (M + 64) + 1)) ∧ nn + cnt ≤ n + es.length ∧ Hid (∀ k, left (.string k) = true → cd k = true) ∧
        Hid (∀ s, ∃ ao m c, D.atKey (.string s) (.held zeroV) = .held (numV ao m c (cb s)) ∧ Nt wr (.slice ao m c) (cb s).natAbs ∧ Limb.nl B32 (cb s).natAbs ≤ M + 64) ∧ Only L b w wr) (fun _ wr => wr.rangeLeft bc w1.heap.size)
    case atStart =>
      have e1 : (fun k => dom k || (cd k && !Maps.has D (Lit.string k))) = dom := by funext k; rw [hhas]; cases dom k <;> cases cd k <;> rfl
      have e2 : (fun k => if (cd k && !Maps.has D (Lit.string k)) = true then bal k + cb k else bal k) = bal := by funext k; rw [hhas]; cases cd k <;> rfl
      refine ⟨Maps.has D, Maps.size D, n, hrg0, grown_box hg0 hL1.box (by simp), ?_, ?_, fun k hk => by rw [← hhas]; exact hk, fun s => ?_, (((Only.refl L b w).below hbl).grown hg0 (fun j e => by cases e))⟩
      · rw [e1, e2]; exact Lib.hid ((hL1.book.kept hg0 (by simp) (fun _ e => by cases e)).mono (Nat.le_refl _) (by omega))
      · have := hown.size_le; omega
      · obtain ⟨va, vm, vc, hva, hvN, hvn⟩ := hval s
        exact ⟨va, vm, vc, hva, Row.grown' hvN hg0 (fun _ e => by cases e), hvn⟩
    case round =>
      obtain ⟨left, cnt, nn, HR, hbox, HK, hcn, HLC, HV, HO⟩ := hrel
      have hLw : L < w.heap.size := hL.lt
      have hbw : b < w.heap.size := hL.book.lt
      obtain ⟨_, _, hmapw⟩ := hL.book.map
      have hLb : L ≠ b := by rintro rfl; rw [hL.box] at hmapw; cases hmapw
      clear hmapw hrg0 hg0 hs0 hown hval hL1 HRD
      go_wp2_with (first | (at_next; refine wpList_next_ranges _ rfl _ rfl 9 lawStr RNum encStr id (fun key kl hk => by obtain ⟨x, hx, _⟩ := Maps.keyOf_str Tryz.underlying9 hk; exact ⟨x, hx⟩) (fun v y _ => ⟨v, rfl⟩) bc w1.heap.size es.length D left cnt rfl HR.out ?_ ?_) | go_in)
      · intro hc0 hl0
        have e1 : (fun k => dom k || (cd k && !left (Lit.string k))) = (fun k => dom k || cd k) := by funext k; rw [hl0]; simp
        have e2 : (fun k => if (cd k && !left (Lit.string k)) = true then bal k + cb k else bal k) = (fun k => bal k + cb k) := by
          funext k; rw [hl0]
          cases hk : cd k
          · simp [hz k hk]
          · simp
        rw [e1, e2] at HK
        have hc1 := box_cell (j := 1) hbox rfl
        have hf1 := box_free (j := 1) hbox
        clear e1 e2 hl0
        go_wp2_with fail
        go_ret
        have hboxe := box_set (j := 1) (.int .i64 ((posts : Int) + 1)) hbox
        refine ⟨rfl, ⟨?_, (HK.out.set (p := ⟨L, 1, none⟩) hbox (by decide) _).mono (by omega) (Nat.le_refl _)⟩, HO.grown (grown_set (p := ⟨L, 1, none⟩) _) (fun j e => by injection e with e; exact .inl e.symm)⟩
        exact hboxe
      · intro x c kl yd yp w2 cnt2 hkey hlk hv hat hrg2 hlt hg2 hs2 hen
        obtain ⟨x', ex, rfl, hxl⟩ := Maps.keyOf_str Tryz.underlying9 hkey
        obtain rfl : x = x' := encStr_inj ex
        obtain ⟨rfl, rfl⟩ : yd = .held c ∧ yp = [] := by simp [RNum] at hv; exact ⟨hv.1.symm, hv.2⟩
        obtain ⟨va, vm, vc, hva, hvN, hvn⟩ := HV.out x
        obtain rfl : c = numV va vm vc (cb x) := by
          have h3 : DataW.held (id c) = DataW.held (numV va vm vc (cb x)) := (hat (.held zeroV)).symm.trans hva
          exact DataW.held.inj h3
        obtain ⟨i1, i2, i3, i4, hit⟩ := ranges_iter HR.out
        have hrow : ∀ b', some w1.heap.size = some b' → ∀ g cs fr, wr.heap[b']? ≠ some (.cells cs g fr) ∨ g ≠ 95 := fun b' e g cs fr => .inl (by injection e with e; rw [← e, hit]; simp)
        have hbx2 := grown_box hg2 hbox (by simp; omega)
        have hK2 := HK.out.kept hg2 (by simp; omega) hrow
        have HN2 := Lib.hid (Row.grown' hvN hg2 hrow)
        have HV2 : Hid (∀ s, ∃ ao m c, D.atKey (.string s) (.held zeroV) = .held (numV ao m c (cb s)) ∧ Nt w2 (.slice ao m c) (cb s).natAbs ∧ Limb.nl B32 (cb s).natAbs ≤ M + 64) := fun s => by
          obtain ⟨ao, m, c, e1, e2, e3⟩ := HV.out s
          exact ⟨ao, m, c, e1, Row.grown' e2 hg2 hrow, e3⟩
        have HO2 := HO.grown hg2 (fun j e => by injection e with e; omega)
        have HR2 := Lib.hid hrg2
        have hcx := HLC.out x hlk
        have HRL := Lib.hid HR.out.left_eq
        have hbcw : bc ≠ b := by omega
        have hwr2 : w1.heap.size < w2.heap.size := hrg2.lt
        have hbc2 : bc < w2.heap.size := hrg2.owns.lt
        clear HK HR HV HO hrg2 hg2 hrow hit hvN hbox hs2 hat hkey hv
        go_upto_region 7 with fail
        have hbx3 := at_old (o := Obj.cells #[.slice va vm vc, .bool (decide (cb x < 0))] 68) hbx2
        have hb8 := at_new (w := w2) (o := Obj.cells #[.slice va vm vc, .bool (decide (cb x < 0))] 68) rfl
        have HK3 := Lib.hid (hK2.alloc (Obj.cells #[.slice va vm vc, .bool (decide (cb x < 0))] 68))
        have HN3 := Lib.hid (HN2.out.alloc (Obj.cells #[.slice va vm vc, .bool (decide (cb x < 0))] 68))
        have HR3 := Lib.hid (HR2.out.alloc (Obj.cells #[.slice va vm vc, .bool (decide (cb x < 0))] 68))
        have hba : Below w2.heap.size w2 (w2.alloc (Obj.cells #[.slice va vm vc, .bool (decide (cb x < 0))] 68)) := (Below.refl _ _).alloc (Nat.le_refl _) _
        have HO3 := HO2.below hba
        have HV3 : Hid (∀ s, ∃ ao m c, D.atKey (.string s) (.held zeroV) = .held (numV ao m c (cb s)) ∧ Nt (w2.alloc (Obj.cells #[.slice va vm vc, .bool (decide (cb x < 0))] 68)) (.slice ao m c) (cb s).natAbs ∧ Limb.nl B32 (cb s).natAbs ≤ M + 64) := fun s => by
          obtain ⟨ao, m, c, e1, e2, e3⟩ := HV2.out s
          exact ⟨ao, m, c, e1, e2.alloc _, e3⟩
        clear hbx2 hK2 HN2 HV2 HO2 HR2 hba
        have hszW : (w2.alloc (Obj.cells #[.slice va vm vc, .bool (decide (cb x < 0))] 68)).heap.size = w2.heap.size + 1 := by simp
        generalize hWW : w2.alloc (Obj.cells #[.slice va vm vc, .bool (decide (cb x < 0))] 68) = W at *
        have hdr : Below W.heap.size W W.drew := ⟨rfl, rfl, rfl, Nat.le_refl _, fun _ _ => rfl⟩
        have HKd := Lib.hid (HK3.out.below hdr)
        obtain ⟨la, ln, lc, hlook, hNl, hnl2⟩ := HKd.out.look x hxl
        have hlx : left (Lit.string x) = true := hlk
        have hbx : (if (cd x && !left (Lit.string x)) = true then bal x + cb x else bal x) = bal x := by rw [hlx]; simp
        rw [hbx] at hlook hNl hnl2
        have hbn : Limb.nl B32 (bal x).natAbs ≤ B := by
          obtain ⟨_, _, _, _, _, h9⟩ := hL.book.look x hxl
          exact h9
        have hsn : Limb.nl B32 (bal x + cb x).natAbs ≤ max B (M + 64) + 1 := by have := nl_addInt (bal x) (cb x); omega
        have HADD := Lib.hid (num_Add la va ln vm lc vc (bal x) (cb x) W.drew hNl (Row.below HN3.out hdr) (by omega) (by omega))
        have g0 := box_cell (j := 0) hbx3 rfl
        have g80 := box_cell (j := 0) hb8 rfl
        have g81 := box_cell (j := 1) hb8 rfl
        clear hNl hWW hbx
        go_region_held3 (fun w' => w'.cell? ⟨L, 0, none⟩ = some (.map (some b)) ∧ w'.cell? ⟨w2.heap.size, 0, none⟩ = some (.slice va vm vc) ∧ w'.cell? ⟨w2.heap.size, 1, none⟩ = some (.bool (decide (cb x < 0))))
          (first
            | (exact ⟨g0, g80, g81⟩)
            | (exact ⟨g0x, g80x, g81x⟩)
            | (exact ⟨g0y, g80y, g81y⟩))
          (first
            | (go_at_call 29; refine HADD.out.mono ?_; rintro e w3 ⟨ao3, n3, c3, rfl, hN3, hbl3⟩; have g0x := box_cell (j := 0) (below_box (hdr.trans hbl3) hbx3) rfl; have g80x := box_cell (j := 0) (below_box (hdr.trans hbl3) hb8) rfl; have g81x := box_cell (j := 1) (below_box (hdr.trans hbl3) hb8) rfl; have hK4 := HKd.out.below hbl3; obtain ⟨w4, hup, hK5, hg4⟩ := hK4.store x hxl (by unfold maxLen; omega) hN3 hsn; have g0y := box_cell (j := 0) (grown_box hg4 (below_box (hdr.trans hbl3) hbx3) (by simp; omega)) rfl; have g80y := box_cell (j := 0) (grown_box hg4 (below_box (hdr.trans hbl3) hb8) (by simp; omega)) rfl; have g81y := box_cell (j := 1) (grown_box hg4 (below_box (hdr.trans hbl3) hb8) (by simp; omega)) rfl; have hgr := ((grown_below (hdr.trans hbl3)).but (some b)).andThen hg4 (fun j e => .inr e); have HK5 := Lib.hid hK5; have hmap4 := hK4.map; clear hK5 hK4))
        have hsame : ∀ k, (Lit.string k).sameKey (Lit.string x) = (k == x) := fun k => by
          by_cases hk : k = x
          · rw [hk, WideAt.sameKey_self (a := Lit.string x) trivial]; simp
          · rw [Maps.sameKey_ne (by simpa using hk)]; simp [hk]
        have e1 : (fun k => (dom k || (cd k && !left (Lit.string k))) || k == x) = (fun k => dom k || (cd k && !(left (Lit.string k) && !(Lit.string k).sameKey (Lit.string x)))) := by
          funext k
          rw [hsame]
          by_cases hk : k = x
          · rw [hk, hlx, hcx]; simp
          · have : (k == x) = false := by simpa using hk
            rw [this]; simp
        have e2 : (fun k => if k = x then bal x + cb x else if (cd k && !left (Lit.string k)) = true then bal k + cb k else bal k) = (fun k => if (cd k && !(left (Lit.string k) && !(Lit.string k).sameKey (Lit.string x))) = true then bal k + cb k else bal k) := by
          funext k
          rw [hsame]
          by_cases hk : k = x
          · rw [hk, hcx]; simp
          · have : (k == x) = false := by simpa using hk
            rw [this]; simp [hk]
        rw [e1, e2] at HK5
        obtain ⟨m1, m2, hm3⟩ := HK3.out.map
        have hR5 := HR3.out.kept hgr (by simp; omega) (by simp; omega)
        have HR5 := Lib.hid hR5
        have hMS : w4.rangeLeft bc w1.heap.size < wr.rangeLeft bc w1.heap.size := by rw [HRL.out, hR5.left_eq]; exact hlt
        have HV5 : Hid (∀ s, ∃ ao m c, D.atKey (.string s) (.held zeroV) = .held (numV ao m c (cb s)) ∧ Nt w4 (.slice ao m c) (cb s).natAbs ∧ Limb.nl B32 (cb s).natAbs ≤ M + 64) := fun s => by
          obtain ⟨ao, m, c, e1, e2, e3⟩ := HV3.out s
          exact ⟨ao, m, c, e1, Row.grownMap e2 hgr hm3, e3⟩
        have hbx5 := grown_box hgr hbx3 (by simp; omega)
        have HO5 := HO3.grown hgr (fun j e => by injection e with e; exact .inr (.inl e.symm))
        have HLC5 : Hid (∀ k, (fun z : Lit => left z && !z.sameKey (Lit.string x)) (.string k) = true → cd k = true) := fun k hk => HLC.out k (by simp only [Bool.and_eq_true] at hk; exact hk.1)
        clear e1 e2 hsame HK3 HKd HN3 HR3 HV3 HO3 hbx3 hb8 HADD hlook hup g0 g80 g81 g0x g80x g81x g0y g80y g81y hgr hg4 hmap4 hm3 hR5 hlx hcx hlk
        go_simp
        refine ⟨?_, ?measure⟩
        (repeat apply Exists.intro)
        refine ⟨?rel, rfl⟩
        case rel => exact ⟨_, cnt2, nn + 1, HR5, hbx5, HK5, by omega, HLC5, HV5, HO5⟩
        case measure => exact hMS
end Go.Proofs.YtgpkbembdflnmaaGreatDoor
