/- MetaTurns: what is stored behind others, with the next Tx, is loaded. -/
import Derived.Test.YtdaoiimjflplhaaMetaA
namespace Go.Proofs.Ytdaoiimjflplhaa
open Go.RowKit Go.Shelf
set_option linter.unusedVariables false
attribute [local go_sem ↓] Go.wp_at_zero Go.wp_at_succ

/-- What stands ahead of a round: the metas that are held are older than t. -/
structure TurnI (D : Dk) (n k t : Nat) : Prop where
  s : D.S.length = n
  u : D.U.length ≤ k
  o : D.N ≤ k
  lt : ∀ j, j < 2 → (D.hm j).1 < t
theorem TurnI.no {D : Dk} {n k t : Nat} (h : TurnI D n k t) : TurnI D n (k + 1) t := ⟨h.s, by have := h.u; omega, by have := h.o; omega, h.lt⟩
theorem TurnI.yes {D : Dk} {n k t r h f : Nat} (hI : TurnI D n k t) (ht : t < 18446744073709551616) (hr : r < 4294967296) (hh : h < 4294967296) (hf : f < 4294967296) (hR : mRightB t r h f = true) : TurnI (D.ms t r h f) n (k + 1) (t + 1) := by
  refine ⟨hI.s, by rw [ms_U]; have := hI.u; omega, by rw [ms_N]; have := hI.o; omega, fun j hj => ?_⟩
  rw [hm_ms D t r h f j ht hr hh hf hR]
  split
  · dsimp only; omega
  · have := hI.lt j hj; omega

set_option maxRecDepth 100000 in
set_option maxHeartbeats 8000000 in
theorem metaTurns_walk (so : Option Addr) (n cap : Nat) (xs : List MetaA) (tx : Nat) (w : World) (hx1 : xs.length = n) (hx2 : n ≤ maxLen) (hxs : MetasAt w so xs) (htx : tx < 18446744073709551616) :
    Calls Try.prog 7 #[.slice so n cap, .int .u64 (tx : Int)] w fun e w' => e = .returned (.bool true) ∧ Below w.heap.size w w' := by
  have hn1 : (n : Int) ≤ 9223372036854775807 := by unfold maxLen at hx2; omega
  obtain ⟨S, hS⟩ : ∃ S, From w.heap.size [] = S := ⟨_, rfl⟩
  have hS1 : ∀ k, w.heap.size ≤ k → S k := fun k hk => by rw [← hS]; exact ⟨hk, by simp⟩
  have hS2 : ∀ k, S k → w.heap.size ≤ k := fun k hk => by rw [← hS] at hk; exact hk.1
  have H0 := Lib.hid (shown4_any w)
  have h1 := fun W (hW : w.heap.size ≤ W.heap.size) => new_yes S 5 W (by omega) (by omega) (fun k hk => hS1 k (by omega))
  rw [show ((5 : Nat) : Int) = 5 from rfl] at h1
  have H1 := Lib.hid h1
  have HS := Lib.hid hS2
  have HS1 := Lib.hid hS1
  have HSE := Lib.hid hS
  have HX := Lib.hid (And.intro hx1 hxs)
  clear hx1 hx2 hxs h1 hS hS1 hS2
  by_cases h0 : tx = 0
  · have e0 : ((tx : Int) == 0) = true := by simp [h0]
    clear h0 htx
    go_enter Try.func7, Try.ntmps7
    go_wp2_with fail
    refine H0.out.mono ?_
    rintro e w1 ⟨rfl, hb1⟩
    go_wp2_with fail
    refine (H1.out w1 hb1.size).mono ?_
    rintro e w2 ⟨g, rfl, hg, hh2, hb2⟩
    have G2 := Lib.hid (bl_tr hb1 hb2)
    clear hh2 hb2 hb1 hg
    go_wp2
    go_ret
    exact ⟨rfl, G2.out⟩
  · have e0 : ((tx : Int) == 0) = false := by simp [h0]
    by_cases h6 : 1152921504606846976 < tx
    · have e1 : decide (1152921504606846976 < (tx : Int)) = true := decide_eq_true (by omega)
      clear h0 htx h6
      go_enter Try.func7, Try.ntmps7
      go_wp2_with fail
      refine H0.out.mono ?_
      rintro e w1 ⟨rfl, hb1⟩
      go_wp2_with fail
      refine (H1.out w1 hb1.size).mono ?_
      rintro e w2 ⟨g, rfl, hg, hh2, hb2⟩
      have G2 := Lib.hid (bl_tr hb1 hb2)
      clear hh2 hb2 hb1 hg
      go_wp2
      go_ret
      exact ⟨rfl, G2.out⟩
    · have e1 : decide (1152921504606846976 < (tx : Int)) = false := decide_eq_false (by omega)
      have HT := Lib.hid (And.intro h0 h6)
      clear h0 htx h6
      go_enter Try.func7, Try.ntmps7
      go_wp2_with fail
      refine H0.out.mono ?_
      rintro e w1 ⟨rfl, hb1⟩
      have G1 := Lib.hid hb1
      clear hb1
      go_wp2_with fail
      refine (H1.out w1 G1.out.size).mono ?_
      rintro e w2 ⟨g, rfl, hg, hh2, hb2⟩
      have G2 := Lib.hid (And.intro hh2 (bl_tr G1.out hb2))
      clear hh2 hb2 hg
      go_wp2_with fail
      go_loopw [1, 8] (fun v i wr => ∃ (k t : Nat) (D : Dk), k ≤ n ∧ k ≤ 20 ∧ i = .int .i64 k ∧ v = .int .u64 (t : Int) ∧ 0 < t ∧ t ≤ tx + k ∧ Held S wr g D ∧ TurnI D 5 k t ∧ Below w.heap.size w wr) (fun _ i _ => 20 - (intOf i).toNat)
      case atStart =>
        refine ⟨0, tx, Dk.new 5, by omega, by omega, rfl, rfl, by have := HT.out.1; omega, by omega, G2.out.1, ⟨by simp [Dk.new], by simp [Dk.new], by simp [Dk.new], fun j hj => ?_⟩, G2.out.2⟩
        rw [hm_new 5 j (by omega)]
        have := HT.out.1
        dsimp only
        omega
      case round =>
        obtain ⟨k, t, D, hk1, hk2, rfl, rfl, hrest⟩ := hrel
        have HR := Lib.hid hrest
        clear hrest e0 e1
        by_cases hlt : k < n ∧ k < 20
        · obtain ⟨hl1, hl2⟩ := hlt
          obtain ⟨x, hx⟩ : ∃ x, xs[k]? = some x := ⟨_, List.getElem?_eq_getElem (by rw [HX.out.1]; exact hl1)⟩
          obtain ⟨hok, b, o, rfl, hb, c0, c1, c2, c3⟩ := HX.out.2 k x hx
          clear hx
          have hbel := HR.out.2.2.2.2
          have q0 : wr.cell? ⟨b, o + k * 4, none⟩ = some (.int .u64 x.t) := (hbel.cell hb).trans c0
          have q1 : wr.cell? ⟨b, o + k * 4 + 1, none⟩ = some (.int .u32 x.r) := (hbel.cell hb).trans c1
          have q2 : wr.cell? ⟨b, o + k * 4 + 2, none⟩ = some (.int .u32 x.h) := (hbel.cell hb).trans c2
          have q3 : wr.cell? ⟨b, o + k * 4 + 3, none⟩ = some (.int .u32 x.f) := (hbel.cell hb).trans c3
          have htb : t < 18446744073709551615 := by have := HR.out.2.1; have := HT.out.2; omega
          have hst := fun l W (hd : Held (From w.heap.size [l]) W g D) (hW : w.heap.size ≤ W.heap.size) (hlW : l < W.heap.size) => mstore_any (From w.heap.size [l]) g D t x.r x.h x.f W hd (by omega) hok.2.1 hok.2.2.1 hok.2.2.2 (by have := HR.out.2.2.2.1.u; omega) (by have := HR.out.2.2.2.1.o; omega) (fun i hi => ⟨by omega, by simp; omega⟩)
          have haf := fun W => after_any x.t x.r x.h x.f t W
          obtain ⟨xt, hxt⟩ : ∃ a, x.t = a := ⟨_, rfl⟩
          obtain ⟨xr, hxr⟩ : ∃ a, x.r = a := ⟨_, rfl⟩
          obtain ⟨xh, hxh⟩ : ∃ a, x.h = a := ⟨_, rfl⟩
          obtain ⟨xf, hxf⟩ : ∃ a, x.f = a := ⟨_, rfl⟩
          unfold metaV at hst
          unfold MetaA.ok at hok
          rw [hxt, hxr, hxh, hxf] at hok
          rw [hxr, hxh, hxf] at hst
          rw [hxt, hxr, hxh, hxf] at haf
          rw [hxt] at q0
          rw [hxr] at q1
          rw [hxh] at q2
          rw [hxf] at q3
          have HO := Lib.hid (And.intro hok htb)
          have HAF := Lib.hid haf
          have i0 : (0 : Int) ≤ (k : Int) := Int.natCast_nonneg _
          have i1 : (k : Int) < (n : Int) := by omega
          cases hR : mRightB t xr xh xf with
          | false =>
            rw [mstore_no _ _ _ _ _ hR] at hst
            have HST := Lib.hid hst
            clear hst haf hok c0 c1 c2 c3 hb hbel htb hxt hxr hxh hxf hR
            go_wp2_with fail
            refine (HAF.out wr).mono ?_
            rintro e w3 ⟨rfl, hb3⟩
            have hb4 : Below w.heap.size w (w3.alloc (.cells #[.int .u64 (t : Int), .int .u32 (xr : Int), .int .u32 (xh : Int), .int .u32 (xf : Int)] 25)) := bl_al (bl_tr HR.out.2.2.2.2 hb3) _
            have hd4 : Held (From w.heap.size [w3.heap.size]) (w3.alloc (.cells #[.int .u64 (t : Int), .int .u32 (xr : Int), .int .u32 (xh : Int), .int .u32 (xf : Int)] 25)) g D := by
              have h := HR.out.2.2.1.below hb3
              rw [← HSE.out] at h
              exact (From.sub h _ (Nat.le_refl _)).alloc _
            have B4 := Blk.new w3 25 #[.int .u64 (t : Int), .int .u32 (xr : Int), .int .u32 (xh : Int), .int .u32 (xf : Int)]
            have G4 := Lib.hid (And.intro hd4 (And.intro hb4 B4))
            have hl4 := B4.lt
            clear hb3 hd4 hb4 B4 q0 q1 q2 q3
            go_wp2_with fail
            refine (HST.out _ _ G4.out.1 G4.out.2.1.size hl4).mono ?_
            rintro e w5 ⟨rfl, hd5, hc5⟩
            have G5 := Lib.hid (And.intro (hd5.sub (S' := S) fun i _ hi => HS1.out i hi.1) (And.intro (G4.out.2.1.trans (hc5.below (fun i hi => hi.1) G4.out.2.1.size)) (G4.out.2.2.chg hc5 (fun x => x.2 (by simp)))))
            clear hd5 hc5
            go_wp2
            exact ⟨⟨k + 1, t, D, by omega, by omega, by go_num, rfl, HR.out.1, by have := HR.out.2.1; omega, G5.out.1, HR.out.2.2.2.1.no, G5.out.2.1⟩, by simp [intOf]; omega⟩
          | true =>
            have hok2 := mstore_ok D t xr xh xf hR (by have := HR.out.2.2.2.1.s; omega)
            rw [hok2] at hst
            have HST := Lib.hid hst
            have hlo : mloadV (D.ms t xr xh xf) = .tuple #[.agg #[.int .u64 (t : Int), .int .u32 (xr : Int), .int .u32 (xh : Int), .int .u32 (xf : Int)], .int .i64 0] := by
              unfold mloadV
              rw [hl_ms D t xr xh xf (by omega) hok.2.1 hok.2.2.1 hok.2.2.2 hR fun j hj _ => HR.out.2.2.2.1.lt j hj]
              rw [if_neg (by have := HR.out.1; dsimp only; omega)]
              rfl
            have hld := fun W (hd : Held S W g (D.ms t xr xh xf)) => mload_ok S g (D.ms t xr xh xf) W hd (by rw [ms_S]; have := HR.out.2.2.2.1.s; omega)
            rw [hlo] at hld
            have HLD := Lib.hid hld
            have HIY := Lib.hid (HR.out.2.2.2.1.yes (by omega) hok.2.1 hok.2.2.1 hok.2.2.2 hR)
            have e7 : IntKind.u64.wrap ((t : Int) + 1) = (t : Int) + 1 := IntWalk.u64_in _ (by omega)
            clear hst haf hok c0 c1 c2 c3 hb hbel htb hxt hxr hxh hxf hR hok2 hlo hld
            go_wp2_with fail
            refine (HAF.out wr).mono ?_
            rintro e w3 ⟨rfl, hb3⟩
            have hb4 : Below w.heap.size w (w3.alloc (.cells #[.int .u64 (t : Int), .int .u32 (xr : Int), .int .u32 (xh : Int), .int .u32 (xf : Int)] 25)) := bl_al (bl_tr HR.out.2.2.2.2 hb3) _
            have hd4 : Held (From w.heap.size [w3.heap.size]) (w3.alloc (.cells #[.int .u64 (t : Int), .int .u32 (xr : Int), .int .u32 (xh : Int), .int .u32 (xf : Int)] 25)) g D := by
              have h := HR.out.2.2.1.below hb3
              rw [← HSE.out] at h
              exact (From.sub h _ (Nat.le_refl _)).alloc _
            have B4 := Blk.new w3 25 #[.int .u64 (t : Int), .int .u32 (xr : Int), .int .u32 (xh : Int), .int .u32 (xf : Int)]
            have G4 := Lib.hid (And.intro hd4 (And.intro hb4 B4))
            have hl4 := B4.lt
            clear hb3 hd4 hb4 B4 q0 q1 q2 q3
            go_wp2_with fail
            refine (HST.out _ _ G4.out.1 G4.out.2.1.size hl4).mono ?_
            rintro e w5 ⟨rfl, hd5, hc5⟩
            have G5 := Lib.hid (And.intro (hd5.sub (S' := S) fun i _ hi => HS1.out i hi.1) (And.intro (G4.out.2.1.trans (hc5.below (fun i hi => hi.1) G4.out.2.1.size)) (G4.out.2.2.chg hc5 (fun x => x.2 (by simp)))))
            clear hd5 hc5
            go_wp2_with fail
            refine (HLD.out _ G5.out.1).mono ?_
            rintro e w6 ⟨rfl, hb6⟩
            have b6 := G5.out.2.2.below hb6 G5.out.2.2.lt
            have p0 : w6.cell? ⟨w3.heap.size, 0, none⟩ = some (.int .u64 (t : Int)) := b6.cell 0
            have p1 : w6.cell? ⟨w3.heap.size, 1, none⟩ = some (.int .u32 (xr : Int)) := b6.cell 1
            have p2 : w6.cell? ⟨w3.heap.size, 2, none⟩ = some (.int .u32 (xh : Int)) := b6.cell 2
            have p3 : w6.cell? ⟨w3.heap.size, 3, none⟩ = some (.int .u32 (xf : Int)) := b6.cell 3
            have l6 := b6.lt
            have G6 := Lib.hid (And.intro (G5.out.1.below hb6) (bl_tr G5.out.2.1 hb6))
            clear b6 hb6
            go_wp2
            refine ⟨⟨k + 1, t + 1, _, by omega, by omega, by go_num, by go_num, by omega, by have := HR.out.2.1; omega, G6.out.1.alloc _, HIY.out, bl_al G6.out.2 _⟩, by simp [intOf]; omega⟩
        · have hex : ¬ (k : Int) < (n : Int) ∨ (k : Int) < (n : Int) ∧ ¬ (k : Int) < 20 := by omega
          rcases hex with e1 | ⟨e1, e2⟩
          all_goals
            go_wp2
            go_ret
            exact ⟨rfl, HR.out.2.2.2.2⟩
end Go.Proofs.Ytdaoiimjflplhaa
