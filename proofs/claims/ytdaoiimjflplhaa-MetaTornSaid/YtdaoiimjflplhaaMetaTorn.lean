/- MetaTorn: if a store is torn in any byte, the one ahead is loaded, or this one, and no other. -/
import Derived.Test.YtdaoiimjflplhaaMetaA
import Derived.Test.YtdaoiimjflplhaaMetaQ
namespace Go.Proofs.Ytdaoiimjflplhaa
open Go.RowKit Go.Shelf
set_option linter.unusedVariables false
attribute [local go_sem ↓] Go.wp_at_zero Go.wp_at_succ

/-- What stands ahead of a round: what the two sectors hold, the last one. -/
structure TornI (D : Dk) (k t : Nat) (q : M4) : Prop where
  s : D.S.length = 8
  u : D.U.length ≤ k
  o : D.N ≤ k
  sec : ∀ j, j < 2 → Sec (D.rd (4 * j)) j t
  last : q = (0, 0, 0, 0) ∨ q.1 + 1 = t ∧ 0 < q.1 ∧ D.hm ((t + 1) % 2) = q
theorem TornI.no {D : Dk} {k t : Nat} {q : M4} (h : TornI D k t q) : TornI D (k + 1) t q := ⟨h.s, by have := h.u; omega, by have := h.o; omega, h.sec, h.last⟩
theorem TornI.yes {D : Dk} {k t r h f : Nat} {q : M4} (hI : TornI D k t q) (h0 : 0 < t) (ht : t < 18446744073709551616) (hr : r < 4294967296) (hh : h < 4294967296) (hf : f < 4294967296) (hR : mRightB t r h f = true) : TornI (D.ms t r h f) (k + 1) (t + 1) (t, r, h, f) := by
  refine ⟨hI.s, by rw [ms_U]; have := hI.u; omega, by rw [ms_N]; have := hI.o; omega, fun j hj => ?_, .inr ⟨rfl, h0, ?_⟩⟩
  · rw [rd_ms]
    by_cases hjt : j = t % 2
    · rw [if_pos hjt]
      exact .inr ⟨t, r, h, f, by omega, hjt.symm, ht, hr, hh, hf, hR, rfl⟩
    · rw [if_neg hjt]
      exact (hI.sec j hj).mono (by omega)
  · rw [show (t + 1 + 1) % 2 = t % 2 by omega, hm_ms D t r h f (t % 2) ht hr hh hf hR, if_pos rfl]
theorem TornI.synced {D : Dk} {k t : Nat} {q : M4} (hI : TornI D k t q) (hD : DkOk D) : D.synced.S.length = 8 ∧ D.synced.U = [] ∧ D.synced.N ≤ k + 1 ∧ (∀ j, j < 2 → Sec (D.synced.rd (4 * j)) j t) ∧ (q = (0, 0, 0, 0) ∨ q.1 + 1 = t ∧ 0 < q.1 ∧ D.synced.hm ((t + 1) % 2) = q) := by
  have hs := hI.s
  have e : ∀ j, j < 2 → D.synced.rd (4 * j) = D.rd (4 * j) := fun j hj => rd_synced hD _ (by omega)
  refine ⟨(puts_length _ _ _).trans hs, rfl, by have := hI.o; show D.N + 1 ≤ k + 1; omega, fun j hj => by rw [e j hj]; exact hI.sec j hj, ?_⟩
  rcases hI.last with h | ⟨h1, h2, h3⟩
  · exact .inl h
  · refine .inr ⟨h1, h2, ?_⟩
    rw [← h3]
    unfold Dk.hm
    rw [e _ (by omega)]

set_option maxRecDepth 100000 in
set_option maxHeartbeats 8000000 in
theorem metaTorn_walk (so : Option Addr) (n cap : Nat) (xs : List MetaA) (at_ ar ah af tx : Nat) (keep : Int) (w : World) (hx1 : xs.length = n) (hx2 : n ≤ maxLen) (hxs : MetasAt w so xs) (hat : at_ < 18446744073709551616) (har : ar < 4294967296) (hah : ah < 4294967296) (haf : af < 4294967296) (htx : tx < 18446744073709551616) (hkeep : -9223372036854775808 ≤ keep ∧ keep ≤ 9223372036854775807) :
    Calls Try.prog 9 #[.slice so n cap, metaV at_ ar ah af, .int .u64 (tx : Int), .int .i64 keep] w fun e w' => e = .returned (.bool true) ∧ Below w.heap.size w w' := by
  have hn1 : (n : Int) ≤ 9223372036854775807 := by unfold maxLen at hx2; omega
  have H0 := Lib.hid (fun w => shown4_any w)
  have h1 := fun W (hW : w.heap.size + 1 ≤ W.heap.size) => new_yes (From (w.heap.size + 1) []) 8 W (by omega) (by omega) (fun k hk => ⟨by omega, by simp⟩)
  have hB := Blk.new w 25 #[.int .u64 (at_ : Int), .int .u32 (ar : Int), .int .u32 (ah : Int), .int .u32 (af : Int)]
  have HB := Lib.hid hB
  have HX := Lib.hid (And.intro hx1 hxs)
  rw [show ((8 : Nat) : Int) = 8 from rfl] at h1
  have H1 := Lib.hid h1
  have HA := Lib.hid (And.intro hat (And.intro har (And.intro hah haf)))
  unfold metaV
  clear hx1 hx2 hxs h1 hB hat har hah haf
  by_cases h0 : tx = 0
  · have e0 : ((tx : Int) == 0) = true := by simp [h0]
    clear h0 htx
    go_enter Try.func9, Try.ntmps9
    go_wp2_with fail
    refine (H0.out _).mono ?_
    rintro e w1 ⟨rfl, hb1⟩
    have b1 := HB.out.below hb1 (by simp)
    have hlt := b1.lt
    have G1 := Lib.hid (And.intro b1 ((bl_al (bl_re w) _).trans (hb1.mono (by simp))))
    clear hb1 b1
    go_wp2_with fail
    refine (H1.out w1 hlt).mono ?_
    rintro e w2 ⟨g, rfl, hg, hh2, hb2⟩
    have G2 := Lib.hid (And.intro hh2 (And.intro (G1.out.1.below hb2 hlt) (bl_tr G1.out.2 hb2)))
    have hlt2 := G2.out.2.1.lt
    clear hh2 hb2 hg
    go_wp2
    go_ret
    exact ⟨rfl, bl_al G2.out.2.2 _⟩
  · have e0 : ((tx : Int) == 0) = false := by simp [h0]
    by_cases h6 : 1152921504606846976 < tx
    · have e1 : decide (1152921504606846976 < (tx : Int)) = true := decide_eq_true (by omega)
      clear h0 htx h6
      go_enter Try.func9, Try.ntmps9
      go_wp2_with fail
      refine (H0.out _).mono ?_
      rintro e w1 ⟨rfl, hb1⟩
      have b1 := HB.out.below hb1 (by simp)
      have hlt := b1.lt
      have G1 := Lib.hid (And.intro b1 ((bl_al (bl_re w) _).trans (hb1.mono (by simp))))
      clear hb1 b1
      go_wp2_with fail
      refine (H1.out w1 hlt).mono ?_
      rintro e w2 ⟨g, rfl, hg, hh2, hb2⟩
      have G2 := Lib.hid (And.intro hh2 (And.intro (G1.out.1.below hb2 hlt) (bl_tr G1.out.2 hb2)))
      have hlt2 := G2.out.2.1.lt
      clear hh2 hb2 hg
      go_wp2
      go_ret
      exact ⟨rfl, bl_al G2.out.2.2 _⟩
    · have e1 : decide (1152921504606846976 < (tx : Int)) = false := decide_eq_false (by omega)
      have HT := Lib.hid (And.intro h0 h6)
      clear h0 htx h6
      go_enter Try.func9, Try.ntmps9
      go_wp2_with fail
      refine (H0.out _).mono ?_
      rintro e w1 ⟨rfl, hb1⟩
      have b1 := HB.out.below hb1 (by simp)
      have hlt := b1.lt
      have G1 := Lib.hid (And.intro b1 ((bl_al (bl_re w) _).trans (hb1.mono (by simp))))
      clear hb1 b1
      go_wp2_with fail
      refine (H1.out w1 hlt).mono ?_
      rintro e w2 ⟨g, rfl, hg, hh2, hb2⟩
      have G2 := Lib.hid (And.intro hh2 (And.intro (G1.out.1.below hb2 hlt) (bl_tr G1.out.2 hb2)))
      have hlt2 := G2.out.2.1.lt
      clear hh2 hb2 hg
      go_wp2_with fail
      obtain ⟨L, hL⟩ : ∃ L, w2.heap.size = L := ⟨_, rfl⟩
      obtain ⟨w3, hw3⟩ : ∃ w3, w2.alloc (.cells #[.int .u64 0, .int .u32 0, .int .u32 0, .int .u32 0] 25) = w3 := ⟨_, rfl⟩
      have hst : Blk w3 L 25 #[.int .u64 0, .int .u32 0, .int .u32 0, .int .u32 0] ∧ Blk w3 w.heap.size 25 #[.int .u64 (at_ : Int), .int .u32 (ar : Int), .int .u32 (ah : Int), .int .u32 (af : Int)] ∧ Held (From (w.heap.size + 1) [L]) w3 g (Dk.new 8) ∧ Below w.heap.size w w3 := by
        rw [← hw3, ← hL]
        exact ⟨Blk.new _ _ _, G2.out.2.1.alloc _, (From.sub G2.out.1 _ (Nat.le_refl _)).alloc _, bl_al G2.out.2.2 _⟩
      have hwL : w.heap.size < L := by rw [← hL]; exact hlt2
      have hL3 : L < w3.heap.size := hst.1.lt
      rw [hw3, hL]
      have HST3 := Lib.hid hst
      clear hst hw3 hL G2 hlt2
      go_loopw [2, 13] (fun v i wr => ∃ (k t : Nat) (D : Dk) (q : M4), k ≤ n ∧ k ≤ 5 ∧ i = .int .i64 k ∧ v = .int .u64 (t : Int) ∧ 0 < t ∧ t ≤ tx + k ∧ Blk wr L 25 (m4cs q) ∧ Blk wr w.heap.size 25 #[.int .u64 (at_ : Int), .int .u32 (ar : Int), .int .u32 (ah : Int), .int .u32 (af : Int)] ∧ Held (From (w.heap.size + 1) [L]) wr g D ∧ TornI D k t q ∧ Below w.heap.size w wr) (fun _ i _ => 5 - (intOf i).toNat)
      case atStart =>
        refine ⟨0, tx, Dk.new 8, (0, 0, 0, 0), by omega, by omega, rfl, rfl, by have := HT.out.1; omega, by omega, HST3.out.1, HST3.out.2.1, HST3.out.2.2.1, ⟨by simp [Dk.new], by simp [Dk.new], by simp [Dk.new], fun j hj => .inl (rd_new 8 (4 * j) (by omega)), .inl rfl⟩, HST3.out.2.2.2⟩
      case round =>
        obtain ⟨k, t, D, q, hk1, hk2, rfl, rfl, hrest⟩ := hrel
        have HR := Lib.hid hrest
        clear hrest e0 e1
        by_cases hlt : k < n ∧ k < 5
        · obtain ⟨hl1, hl2⟩ := hlt
          obtain ⟨x, hx⟩ : ∃ x, xs[k]? = some x := ⟨_, List.getElem?_eq_getElem (by rw [HX.out.1]; exact hl1)⟩
          obtain ⟨hok, b, o, rfl, hb, c0, c1, c2, c3⟩ := HX.out.2 k x hx
          clear hx
          have hbel := HR.out.2.2.2.2.2.2
          have q0 : wr.cell? ⟨b, o + k * 4, none⟩ = some (.int .u64 x.t) := (hbel.cell hb).trans c0
          have q1 : wr.cell? ⟨b, o + k * 4 + 1, none⟩ = some (.int .u32 x.r) := (hbel.cell hb).trans c1
          have q2 : wr.cell? ⟨b, o + k * 4 + 2, none⟩ = some (.int .u32 x.h) := (hbel.cell hb).trans c2
          have q3 : wr.cell? ⟨b, o + k * 4 + 3, none⟩ = some (.int .u32 x.f) := (hbel.cell hb).trans c3
          have htb : t < 18446744073709551615 := by have := HR.out.2.1; have := HT.out.2; omega
          have hst := fun l W (hd : Held (From (w.heap.size + 1) [l, L]) W g D) (hW : w.heap.size + 1 ≤ W.heap.size) (hlW : l < W.heap.size ∧ L < W.heap.size) => mstore_any (From (w.heap.size + 1) [l, L]) g D t x.r x.h x.f W hd (by omega) hok.2.1 hok.2.2.1 hok.2.2.2 (by have := HR.out.2.2.2.2.2.1.u; omega) (by have := HR.out.2.2.2.2.2.1.o; omega) (fun i hi => ⟨by omega, by simp; omega⟩)
          have haf := fun W => after_any x.t x.r x.h x.f t W
          obtain ⟨xt, hxt⟩ : ∃ a, x.t = a := ⟨_, rfl⟩
          obtain ⟨xr, hxr⟩ : ∃ a, x.r = a := ⟨_, rfl⟩
          obtain ⟨xh, hxh⟩ : ∃ a, x.h = a := ⟨_, rfl⟩
          obtain ⟨xf, hxf⟩ : ∃ a, x.f = a := ⟨_, rfl⟩
          unfold metaV at hst
          unfold MetaA.ok at hok
          rw [hxt, hxr, hxh, hxf] at hok
          rw [hxr, hxh, hxf] at hst
          rw [hxt, hxr, hxh, hxf] at haf
          rw [hxt] at q0
          rw [hxr] at q1
          rw [hxh] at q2
          rw [hxf] at q3
          have HAF := Lib.hid haf
          have i0 : (0 : Int) ≤ (k : Int) := Int.natCast_nonneg _
          have i1 : (k : Int) < (n : Int) := by omega
          cases hR : mRightB t xr xh xf with
          | false =>
            rw [mstore_no _ _ _ _ _ hR] at hst
            have HST := Lib.hid hst
            clear hst haf hok c0 c1 c2 c3 hb hbel htb hxt hxr hxh hxf hR
            go_wp2_with fail
            refine (HAF.out wr).mono ?_
            rintro e w3 ⟨rfl, hb3⟩
            have hb4 : Below w.heap.size w (w3.alloc (.cells #[.int .u64 (t : Int), .int .u32 (xr : Int), .int .u32 (xh : Int), .int .u32 (xf : Int)] 25)) := bl_al (bl_tr HR.out.2.2.2.2.2.2 hb3) _
            have hd4 : Held (From (w.heap.size + 1) [w3.heap.size, L]) (w3.alloc (.cells #[.int .u64 (t : Int), .int .u32 (xr : Int), .int .u32 (xh : Int), .int .u32 (xf : Int)] 25)) g D := (From.sub (HR.out.2.2.2.2.1.below hb3) _ (Nat.le_refl _)).alloc _
            have hLr := HR.out.2.2.1.below hb3 HR.out.2.2.1.lt
            have hAr := HR.out.2.2.2.1.below hb3 HR.out.2.2.2.1.lt
            have B4 := Blk.new w3 25 #[.int .u64 (t : Int), .int .u32 (xr : Int), .int .u32 (xh : Int), .int .u32 (xf : Int)]
            have G4 := Lib.hid (And.intro hd4 (And.intro hb4 (And.intro B4 (And.intro (hAr.alloc (.cells #[.int .u64 (t : Int), .int .u32 (xr : Int), .int .u32 (xh : Int), .int .u32 (xf : Int)] 25)) (hLr.alloc (.cells #[.int .u64 (t : Int), .int .u32 (xr : Int), .int .u32 (xh : Int), .int .u32 (xf : Int)] 25))))))
            have hl4 := B4.lt
            have hl5 : L < w3.heap.size := hLr.lt
            have hl6 : L < (w3.alloc (.cells #[.int .u64 (t : Int), .int .u32 (xr : Int), .int .u32 (xh : Int), .int .u32 (xf : Int)] 25)).heap.size := by rw [World.size_alloc]; omega
            have hl7 : w.heap.size + 1 ≤ (w3.alloc (.cells #[.int .u64 (t : Int), .int .u32 (xr : Int), .int .u32 (xh : Int), .int .u32 (xf : Int)] 25)).heap.size := by rw [World.size_alloc]; omega
            clear hb3 hd4 hb4 B4 hLr hAr q0 q1 q2 q3
            go_wp2_with fail
            refine (HST.out _ _ G4.out.1 hl7 ⟨hl4, hl6⟩).mono ?_
            rintro e w5 ⟨rfl, hd5, hc5⟩
            have G5 := Lib.hid (And.intro (hd5.sub (S' := From (w.heap.size + 1) [L]) fun i _ hi => ⟨hi.1, fun hx => hi.2 (by simp at hx; simp [hx])⟩) (And.intro (G4.out.2.1.trans (hc5.below (fun i hi => by have := hi.1; omega) (by omega))) (And.intro (G4.out.2.2.1.chg hc5 (fun x => x.2 (by simp))) (And.intro (G4.out.2.2.2.1.chg hc5 (fun x => by have := x.1; omega)) (G4.out.2.2.2.2.chg hc5 (fun x => x.2 (by simp)))))))
            clear hd5 hc5
            go_wp2
            exact ⟨⟨k + 1, t, D, q, by omega, by omega, by go_num, rfl, HR.out.1, by have := HR.out.2.1; omega, G5.out.2.2.2.2, G5.out.2.2.2.1, G5.out.1, HR.out.2.2.2.2.2.1.no, G5.out.2.1⟩, by simp [intOf]; omega⟩
          | true =>
            rw [mstore_ok D t xr xh xf hR (by have := HR.out.2.2.2.2.2.1.s; omega)] at hst
            have HST := Lib.hid hst
            have HIY := Lib.hid (HR.out.2.2.2.2.2.1.yes HR.out.1 (by omega) hok.2.1 hok.2.2.1 hok.2.2.2 hR)
            have e7 : IntKind.u64.wrap ((t : Int) + 1) = (t : Int) + 1 := IntWalk.u64_in _ (by omega)
            clear hst haf hok c0 c1 c2 c3 hb hbel htb hxt hxr hxh hxf hR
            go_wp2_with fail
            refine (HAF.out wr).mono ?_
            rintro e w3 ⟨rfl, hb3⟩
            have hb4 : Below w.heap.size w (w3.alloc (.cells #[.int .u64 (t : Int), .int .u32 (xr : Int), .int .u32 (xh : Int), .int .u32 (xf : Int)] 25)) := bl_al (bl_tr HR.out.2.2.2.2.2.2 hb3) _
            have hd4 : Held (From (w.heap.size + 1) [w3.heap.size, L]) (w3.alloc (.cells #[.int .u64 (t : Int), .int .u32 (xr : Int), .int .u32 (xh : Int), .int .u32 (xf : Int)] 25)) g D := (From.sub (HR.out.2.2.2.2.1.below hb3) _ (Nat.le_refl _)).alloc _
            have hLr := HR.out.2.2.1.below hb3 HR.out.2.2.1.lt
            have hAr := HR.out.2.2.2.1.below hb3 HR.out.2.2.2.1.lt
            have B4 := Blk.new w3 25 #[.int .u64 (t : Int), .int .u32 (xr : Int), .int .u32 (xh : Int), .int .u32 (xf : Int)]
            have G4 := Lib.hid (And.intro hd4 (And.intro hb4 (And.intro B4 (And.intro (hAr.alloc (.cells #[.int .u64 (t : Int), .int .u32 (xr : Int), .int .u32 (xh : Int), .int .u32 (xf : Int)] 25)) (hLr.alloc (.cells #[.int .u64 (t : Int), .int .u32 (xr : Int), .int .u32 (xh : Int), .int .u32 (xf : Int)] 25))))))
            have hl4 := B4.lt
            have hl5 : L < w3.heap.size := hLr.lt
            have hl6 : L < (w3.alloc (.cells #[.int .u64 (t : Int), .int .u32 (xr : Int), .int .u32 (xh : Int), .int .u32 (xf : Int)] 25)).heap.size := by rw [World.size_alloc]; omega
            have hl7 : w.heap.size + 1 ≤ (w3.alloc (.cells #[.int .u64 (t : Int), .int .u32 (xr : Int), .int .u32 (xh : Int), .int .u32 (xf : Int)] 25)).heap.size := by rw [World.size_alloc]; omega
            clear hb3 hd4 hb4 B4 hLr hAr q0 q1 q2 q3
            go_wp2_with fail
            refine (HST.out _ _ G4.out.1 hl7 ⟨hl4, hl6⟩).mono ?_
            rintro e w5 ⟨rfl, hd5, hc5⟩
            have G5 := Lib.hid (And.intro (hd5.sub (S' := From (w.heap.size + 1) [L]) fun i _ hi => ⟨hi.1, fun hx => hi.2 (by simp at hx; simp [hx])⟩) (And.intro (G4.out.2.1.trans (hc5.below (fun i hi => by have := hi.1; omega) (by omega))) (And.intro (G4.out.2.2.1.chg hc5 (fun x => x.2 (by simp))) (And.intro (G4.out.2.2.2.1.chg hc5 (fun x => by have := x.1; omega)) (G4.out.2.2.2.2.chg hc5 (fun x => x.2 (by simp)))))))
            clear hd5 hc5
            have p0 : w5.cell? ⟨w3.heap.size, 0, none⟩ = some (.int .u64 (t : Int)) := G5.out.2.2.1.cell 0
            have p1 : w5.cell? ⟨w3.heap.size, 1, none⟩ = some (.int .u32 (xr : Int)) := G5.out.2.2.1.cell 1
            have p2 : w5.cell? ⟨w3.heap.size, 2, none⟩ = some (.int .u32 (xh : Int)) := G5.out.2.2.1.cell 2
            have p3 : w5.cell? ⟨w3.heap.size, 3, none⟩ = some (.int .u32 (xf : Int)) := G5.out.2.2.1.cell 3
            have r0 : w5.cell? ⟨L, 0, none⟩ = some (.int .u64 (q.1 : Int)) := G5.out.2.2.2.2.cell 0
            have r1 : w5.cell? ⟨L, 1, none⟩ = some (.int .u32 (q.2.1 : Int)) := G5.out.2.2.2.2.cell 1
            have r2 : w5.cell? ⟨L, 2, none⟩ = some (.int .u32 (q.2.2.1 : Int)) := G5.out.2.2.2.2.cell 2
            have r3 : w5.cell? ⟨L, 3, none⟩ = some (.int .u32 (q.2.2.2 : Int)) := G5.out.2.2.2.2.cell 3
            have f0 := G5.out.2.2.2.2.frozen 0
            have f1 := G5.out.2.2.2.2.frozen 1
            have f2 := G5.out.2.2.2.2.frozen 2
            have f3 := G5.out.2.2.2.2.frozen 3
            go_wp2
            have nS : ¬ From (w.heap.size + 1) [L] L := fun x => x.2 (by simp)
            have e5 : (((w5.setCell ⟨L, 0, none⟩ (.int .u64 (t : Int))).setCell ⟨L, 1, none⟩ (.int .u32 (xr : Int))).setCell ⟨L, 2, none⟩ (.int .u32 (xh : Int))).setCell ⟨L, 3, none⟩ (.int .u32 (xf : Int)) = mset4 w5 L (.int .u64 (t : Int)) (.int .u32 (xr : Int)) (.int .u32 (xh : Int)) (.int .u32 (xf : Int)) := rfl
            rw [e5]
            have hLB := Blk.mset4 (w := w5) (g := L) (t := 25) G5.out.2.2.2.2 (.int .u64 (t : Int)) (.int .u32 (xr : Int)) (.int .u32 (xh : Int)) (.int .u32 (xf : Int))
            refine ⟨⟨k + 1, t + 1, _, (t, xr, xh, xf), by omega, by omega, by go_num, by go_num, by omega, by have := HR.out.2.1; omega, hLB, ?_, ?_, HIY.out, below_mset4 G5.out.2.1 (by omega) _ _ _ _⟩, by simp [intOf]; omega⟩
            · exact (((G5.out.2.2.2.1.far (by simp; omega) _).far (by simp; omega) _).far (by simp; omega) _).far (by simp; omega) _
            · exact (((G5.out.1.far nS _).far nS _).far nS _).far nS _
        · have hex : ¬ (k : Int) < (n : Int) ∨ (k : Int) < (n : Int) ∧ ¬ (k : Int) < 5 := by omega
          obtain ⟨qa, qb, qc, qd⟩ := q
          have hT := HR.out.2.2.2.2.2.1
          have hsy := hT.synced HR.out.2.2.2.2.1.ok
          have htb : t < 18446744073709551615 := by have := HR.out.2.1; have := HT.out.2; omega
          have HSY := Lib.hid (And.intro hsy htb)
          have hsn := sync_any (From (w.heap.size + 1) [L]) g D wr HR.out.2.2.2.2.1 (by have := hT.o; omega)
          have HSN := Lib.hid hsn
          have HAF := Lib.hid (fun W => after_any at_ ar ah af t W)
          clear hT hsy hsn htb hlt HST3
          rcases hex with e1 | ⟨e1, e2⟩
          all_goals
            go_wp2_with fail
            refine HSN.out.mono ?_
            rintro e w4 ⟨rfl, hd4, hc4⟩
            change Held (From (w.heap.size + 1) [L]) w4 g D.synced at hd4
            have hA4 := HR.out.2.2.2.1.chg hc4 (fun x => by have := x.1; omega)
            have hL4 := HR.out.2.2.1.chg hc4 (fun x => x.2 (by simp))
            have hb4 : Below w.heap.size w w4 := HR.out.2.2.2.2.2.2.trans (hc4.below (fun i hi => by have := hi.1; omega) HR.out.2.2.2.2.2.2.size)
            have a0 : w4.cell? ⟨w.heap.size, 0, none⟩ = some (.int .u64 (at_ : Int)) := hA4.cell 0
            have a1 : w4.cell? ⟨w.heap.size, 1, none⟩ = some (.int .u32 (ar : Int)) := hA4.cell 1
            have a2 : w4.cell? ⟨w.heap.size, 2, none⟩ = some (.int .u32 (ah : Int)) := hA4.cell 2
            have a3 : w4.cell? ⟨w.heap.size, 3, none⟩ = some (.int .u32 (af : Int)) := hA4.cell 3
            have K4 := Lib.hid (And.intro hd4 (And.intro hL4 hb4))
            clear hd4 hc4 hA4 hL4 hb4
            go_wp2_with fail
            refine (HAF.out w4).mono ?_
            rintro e w5 ⟨rfl, hb5⟩
            have hL5 := K4.out.2.1.below hb5 K4.out.2.1.lt
            have hl5 := hL5.lt
            have hwl : w.heap.size < L := hwL
            have c0 : w5.cell? ⟨L, 0, none⟩ = some (.int .u64 (qa : Int)) := hL5.cell 0
            have K5 := Lib.hid (And.intro (K4.out.1.below hb5) (And.intro hL5 (bl_tr K4.out.2.2 hb5)))
            clear hb5 hL5 a0 a1 a2 a3
            by_cases hq0 : qa = 0
            · have d0 : ((qa : Int) == 0) = true := by simp [hq0]
              clear hq0
              go_wp2
              go_ret
              exact ⟨rfl, bl_al K5.out.2.2 _⟩
            · have d0 : ((qa : Int) == 0) = false := by simp [hq0]
              have hla : qa + 1 = t ∧ D.synced.hm ((t + 1) % 2) = (qa, qb, qc, qd) := by
                rcases HSY.out.1.2.2.2.2 with h | ⟨h1, _, h3⟩
                · exact absurd (congrArg Prod.fst h) hq0
                · exact ⟨h1, h3⟩
              have HLA := Lib.hid (And.intro hla hq0)
              clear hla hq0
              have hd6 : Held (From (w.heap.size + 1) [w5.heap.size, L]) (w5.alloc (.cells #[.int .u64 (t : Int), .int .u32 (ar : Int), .int .u32 (ah : Int), .int .u32 (af : Int)] 25)) g D.synced := (From.sub K5.out.1 _ (Nat.le_refl _)).alloc _
              have hb6 : Below w.heap.size w (w5.alloc (.cells #[.int .u64 (t : Int), .int .u32 (ar : Int), .int .u32 (ah : Int), .int .u32 (af : Int)] 25)) := bl_al K5.out.2.2 _
              have B6 := Blk.new w5 25 #[.int .u64 (t : Int), .int .u32 (ar : Int), .int .u32 (ah : Int), .int .u32 (af : Int)]
              have hsz6 : (w5.alloc (.cells #[.int .u64 (t : Int), .int .u32 (ar : Int), .int .u32 (ah : Int), .int .u32 (af : Int)] 25)).heap.size = w5.heap.size + 1 := World.size_alloc _ _
              have hst := mstore_any (From (w.heap.size + 1) [w5.heap.size, L]) g D.synced t ar ah af (w5.alloc (.cells #[.int .u64 (t : Int), .int .u32 (ar : Int), .int .u32 (ah : Int), .int .u32 (af : Int)] 25)) hd6 (by have := HSY.out.2; omega) HA.out.2.1 HA.out.2.2.1 HA.out.2.2.2 (by rw [HSY.out.1.2.1]; simp) (by have := HSY.out.1.2.2.1; omega) (fun i hi => ⟨by omega, by simp; omega⟩)
              unfold metaV at hst
              have K6 := Lib.hid (And.intro hb6 (And.intro B6 (K5.out.2.1.alloc (.cells #[.int .u64 (t : Int), .int .u32 (ar : Int), .int .u32 (ah : Int), .int .u32 (af : Int)] 25))))
              clear hd6 hb6 B6
              cases hR : mRightB t ar ah af with
              | false =>
                rw [mstore_no _ _ _ _ _ hR] at hst
                have HST := Lib.hid hst
                clear hst hR
                go_wp2_with fail
                refine HST.out.mono ?_
                rintro e w7 ⟨rfl, hd7, hc7⟩
                have K7 := Lib.hid (K6.out.1.trans (hc7.below (fun i hi => by have := hi.1; omega) K6.out.1.size))
                clear hd7 hc7
                go_wp2
                go_ret
                exact ⟨rfl, K7.out⟩
              | true =>
                rw [mstore_ok D.synced t ar ah af hR (by rw [HSY.out.1.1]; omega)] at hst
                have HST := Lib.hid hst
                have HRR := Lib.hid hR
                clear hst hR
                go_wp2_with fail
                refine HST.out.mono ?_
                rintro e w7 ⟨rfl, hd7, hc7⟩
                have K7 := Lib.hid (And.intro hd7 (And.intro (K6.out.1.trans (hc7.below (fun i hi => by have := hi.1; omega) K6.out.1.size)) (And.intro (K6.out.2.1.chg hc7 (fun x => x.2 (by simp))) (K6.out.2.2.chg hc7 (fun x => x.2 (by simp))))))
                clear hd7 hc7 c0
                go_wp2_with fail
                have hd8 : Held (From (w.heap.size + 1) [w7.heap.size, w5.heap.size, L]) (w7.alloc (.cells #[.int .i64 keep] 3)) g (D.synced.ms t ar ah af) := (From.sub K7.out.1 _ (Nat.le_refl _)).alloc _
                have hb8 : Below w.heap.size w (w7.alloc (.cells #[.int .i64 keep] 3)) := bl_al K7.out.2.1 _
                have hcr := crash_any (From (w.heap.size + 1) [w7.heap.size, w5.heap.size, L]) g (D.synced.ms t ar ah af) (some ⟨w7.heap.size, 0, none⟩) 1 1 [keep] (w7.alloc (.cells #[.int .i64 keep] 3)) hd8 rfl (by simp [maxLen]) (by intro x hx; obtain rfl := List.mem_singleton.1 hx; exact hkeep) (fun k x hk => by
                  cases k with
                  | succ k => simp at hk
                  | zero => simp at hk; subst hk; exact ⟨⟨w7.heap.size, 0, none⟩, rfl, by simp, (Blk.new w7 3 #[.int .i64 keep]).cell 0⟩) (by rintro a ha _ ⟨_, h2⟩; obtain rfl := Option.some.inj ha; simp at h2)
                rw [crash_ms D.synced t ar ah af keep HSY.out.1.2.1] at hcr
                have K8 := Lib.hid (And.intro hb8 (And.intro (K7.out.2.2.1.alloc (.cells #[.int .i64 keep] 3)) (K7.out.2.2.2.alloc (.cells #[.int .i64 keep] 3))))
                clear hd8 hb8
                by_cases hkp : 0 ≤ keep ∧ keep ≤ 64
                · rw [if_pos hkp] at hcr
                  have HCR := Lib.hid hcr
                  have hk0 : keep.toNat ≤ 64 := by omega
                  have hhl := hl_tears D.synced t ar ah af keep.toNat (by rw [HSY.out.1.1]; omega) HSY.out.1.2.1 (by have := HSY.out.2; omega) HA.out.2.1 HA.out.2.2.1 HA.out.2.2.2 HRR.out hk0 (by have := HLA.out; omega) (HSY.out.1.2.2.2.1 _ (by omega)) (qa, qb, qc, qd) HLA.out.1.2 HLA.out.1.1
                  have htS : 4 < (D.synced.tears t ar ah af keep.toNat).S.length := by
                    show 4 < (List.set _ _ _).length
                    rw [List.length_set, HSY.out.1.1]
                    omega
                  have hld := fun W (hd : Held (From (w.heap.size + 1) [w7.heap.size, w5.heap.size, L]) W g (D.synced.tears t ar ah af keep.toNat)) => mload_ok _ g _ W hd htS
                  have dta : ((t : Int) == (qa : Int)) = false := by
                    rw [beq_eq_false_iff_ne]
                    have := HLA.out.1.1
                    omega
                  clear hcr hk0 htS
                  rcases hhl with ⟨hh1, hh2⟩ | ⟨hh1, hh2⟩
                  · have hlo : mloadV (D.synced.tears t ar ah af keep.toNat) = .tuple #[.agg #[.int .u64 (t : Int), .int .u32 (ar : Int), .int .u32 (ah : Int), .int .u32 (af : Int)], .int .i64 0] := by
                      unfold mloadV
                      rw [hh1, if_neg (by have := HR.out.1; dsimp only; omega)]
                      rfl
                    rw [hlo] at hld
                    have HLD := Lib.hid hld
                    have d3 : decide (0 < keep) = true := decide_eq_true (by omega)
                    clear hld hlo hh1 hh2
                    rcases Bool.eq_false_or_eq_true (decide (keep < 64)) with d4 | d4
                    all_goals
                      refine HCR.out.mono ?_
                      rintro e w9 ⟨rfl, hd9, hc9⟩
                      have K9 := Lib.hid (And.intro hd9 (And.intro (K8.out.1.trans (hc9.below (fun i hi => by have := hi.1; omega) K8.out.1.size)) (And.intro (K8.out.2.1.chg hc9 (fun x => x.2 (by simp))) (K8.out.2.2.chg hc9 (fun x => x.2 (by simp))))))
                      clear hd9 hc9
                      go_wp2_with fail
                      refine (HLD.out _ K9.out.1).mono ?_
                      rintro e w10 ⟨rfl, hb10⟩
                      have B10 := K9.out.2.2.1.below hb10 K9.out.2.2.1.lt
                      have L10 := K9.out.2.2.2.below hb10 K9.out.2.2.2.lt
                      have m0 : w10.cell? ⟨w5.heap.size, 0, none⟩ = some (.int .u64 (t : Int)) := B10.cell 0
                      have m1 : w10.cell? ⟨w5.heap.size, 1, none⟩ = some (.int .u32 (ar : Int)) := B10.cell 1
                      have m2 : w10.cell? ⟨w5.heap.size, 2, none⟩ = some (.int .u32 (ah : Int)) := B10.cell 2
                      have m3 : w10.cell? ⟨w5.heap.size, 3, none⟩ = some (.int .u32 (af : Int)) := B10.cell 3
                      have n0 : w10.cell? ⟨L, 0, none⟩ = some (.int .u64 (qa : Int)) := L10.cell 0
                      have n1 : w10.cell? ⟨L, 1, none⟩ = some (.int .u32 (qb : Int)) := L10.cell 1
                      have n2 : w10.cell? ⟨L, 2, none⟩ = some (.int .u32 (qc : Int)) := L10.cell 2
                      have n3 : w10.cell? ⟨L, 3, none⟩ = some (.int .u32 (qd : Int)) := L10.cell 3
                      have y1 := B10.lt
                      have y2 := L10.lt
                      have K10 := Lib.hid (bl_tr K9.out.2.1 hb10)
                      clear B10 L10 hb10
                      go_wp2
                      go_ret
                      exact ⟨rfl, bl_al K10.out _⟩
                  · have hlo : mloadV (D.synced.tears t ar ah af keep.toNat) = .tuple #[.agg #[.int .u64 (qa : Int), .int .u32 (qb : Int), .int .u32 (qc : Int), .int .u32 (qd : Int)], .int .i64 0] := by
                      unfold mloadV
                      rw [hh1, if_neg (by have := HLA.out.2; exact this)]
                      rfl
                    rw [hlo] at hld
                    have HLD := Lib.hid hld
                    have d3 : decide (keep < 64) = true := decide_eq_true (by omega)
                    clear hld hlo hh1 hh2
                    rcases Bool.eq_false_or_eq_true (decide (0 < keep)) with d4 | d4
                    all_goals
                      refine HCR.out.mono ?_
                      rintro e w9 ⟨rfl, hd9, hc9⟩
                      have K9 := Lib.hid (And.intro hd9 (And.intro (K8.out.1.trans (hc9.below (fun i hi => by have := hi.1; omega) K8.out.1.size)) (And.intro (K8.out.2.1.chg hc9 (fun x => x.2 (by simp))) (K8.out.2.2.chg hc9 (fun x => x.2 (by simp))))))
                      clear hd9 hc9
                      go_wp2_with fail
                      refine (HLD.out _ K9.out.1).mono ?_
                      rintro e w10 ⟨rfl, hb10⟩
                      have B10 := K9.out.2.2.1.below hb10 K9.out.2.2.1.lt
                      have L10 := K9.out.2.2.2.below hb10 K9.out.2.2.2.lt
                      have m0 : w10.cell? ⟨w5.heap.size, 0, none⟩ = some (.int .u64 (t : Int)) := B10.cell 0
                      have m1 : w10.cell? ⟨w5.heap.size, 1, none⟩ = some (.int .u32 (ar : Int)) := B10.cell 1
                      have m2 : w10.cell? ⟨w5.heap.size, 2, none⟩ = some (.int .u32 (ah : Int)) := B10.cell 2
                      have m3 : w10.cell? ⟨w5.heap.size, 3, none⟩ = some (.int .u32 (af : Int)) := B10.cell 3
                      have n0 : w10.cell? ⟨L, 0, none⟩ = some (.int .u64 (qa : Int)) := L10.cell 0
                      have n1 : w10.cell? ⟨L, 1, none⟩ = some (.int .u32 (qb : Int)) := L10.cell 1
                      have n2 : w10.cell? ⟨L, 2, none⟩ = some (.int .u32 (qc : Int)) := L10.cell 2
                      have n3 : w10.cell? ⟨L, 3, none⟩ = some (.int .u32 (qd : Int)) := L10.cell 3
                      have y1 := B10.lt
                      have y2 := L10.lt
                      have K10 := Lib.hid (bl_tr K9.out.2.1 hb10)
                      clear B10 L10 hb10
                      go_wp2
                      go_ret
                      exact ⟨rfl, bl_al K10.out _⟩
                · rw [if_neg hkp] at hcr
                  have HCR := Lib.hid hcr
                  have hex2 : keep < 0 ∨ ¬ keep < 0 ∧ 64 < keep := by omega
                  clear hcr hkp
                  rcases hex2 with h1 | ⟨h1, h2⟩
                  · have d1 : decide (keep < 0) = true := decide_eq_true h1
                    clear h1
                    refine HCR.out.mono ?_
                    rintro e w9 ⟨rfl, hd9, hc9⟩
                    have K9 := Lib.hid (K8.out.1.trans (hc9.below (fun i hi => by have := hi.1; omega) K8.out.1.size))
                    clear hd9 hc9
                    go_wp2
                    go_ret
                    exact ⟨rfl, K9.out⟩
                  · have d1 : decide (keep < 0) = false := decide_eq_false h1
                    have d2 : decide (64 < keep) = true := decide_eq_true h2
                    clear h1 h2
                    refine HCR.out.mono ?_
                    rintro e w9 ⟨rfl, hd9, hc9⟩
                    have K9 := Lib.hid (K8.out.1.trans (hc9.below (fun i hi => by have := hi.1; omega) K8.out.1.size))
                    clear hd9 hc9
                    go_wp2
                    go_ret
                    exact ⟨rfl, K9.out⟩
end Go.Proofs.Ytdaoiimjflplhaa
