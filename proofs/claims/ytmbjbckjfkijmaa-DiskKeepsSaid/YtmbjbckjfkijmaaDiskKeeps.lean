/- DiskKeeps: what was synced is read behind any crash, but where something else was written then. -/
import Derived.Test.YtmbjbckjfkijmaaArgs
namespace Go.Proofs.Ytmbjbckjfkijmaa
open Go.RowKit Go.Shelf
set_option linter.unusedVariables false
attribute [local go_sem ↓] Go.wp_at_zero Go.wp_at_succ

theorem write_props {D : Dk} {a : Int} {s : List UInt8} : (D.write a s).2.S = D.S ∧ (D.write a s).2.U.length ≤ D.U.length + 1 ∧ (D.write a s).2.N ≤ D.N + 1 := by
  unfold Dk.write
  split
  · exact ⟨rfl, by simp, by simp⟩
  · split
    · exact ⟨rfl, by simp, by simp⟩
    · exact ⟨rfl, by simp, by simp⟩

set_option maxRecDepth 100000 in
set_option maxHeartbeats 4000000 in
theorem diskKeeps_walk (so1 : Option Addr) (n1 cap1 : Nat) (xs : List ActV) (hx1 : xs.length = n1) (hx2 : n1 ≤ maxLen) (hx3 : ∀ w : World, True) (so2 : Option Addr) (n2 cap2 : Nat) (l2 : List Int) (so3 : Option Addr) (n3 cap3 : Nat) (l3 : List Int) (w : World)
    (hxs : ActsAt w so1 xs)
    (h2 : l2.length = n2 ∧ (n2 ≤ cap2 ∧ cap2 ≤ maxLen ∧ (so2 = none → cap2 = 0)) ∧ (∀ x ∈ l2, -9223372036854775808 ≤ x ∧ x ≤ 9223372036854775807) ∧ IntsAt w so2 l2)
    (h3 : l3.length = n3 ∧ (n3 ≤ cap3 ∧ cap3 ≤ maxLen ∧ (so3 = none → cap3 = 0)) ∧ (∀ x ∈ l3, -9223372036854775808 ≤ x ∧ x ≤ 9223372036854775807) ∧ IntsAt w so3 l3) :
    Calls Try.prog 3 #[.slice so1 n1 cap1, .slice so2 n2 cap2, .slice so3 n3 cap3] w fun e w' => e = .returned (.bool true) ∧ Below w.heap.size w w' := by
  have hn1 : (n1 : Int) ≤ 9223372036854775807 := by unfold maxLen at hx2; omega
  have hn2 : (n2 : Int) ≤ 9223372036854775807 := by have := h2.2.1; unfold maxLen at this; omega
  have H0 := Lib.hid (shown_any w)
  have H1 := Lib.hid (fun w1 (hb : w.heap.size ≤ w1.heap.size) => new_yes (From w.heap.size []) 8 w1 (by omega) (by omega) (fun k hk => ⟨by omega, by simp⟩))
  have HX := Lib.hid (And.intro hx1 hxs)
  have H2 := Lib.hid h2
  have H3 := Lib.hid h3
  clear h2 h3 hxs hx1 hx2 hx3
  go_enter Try.func3, Try.ntmps3
  go_wp2_with fail
  refine H0.out.mono ?_
  rintro e w1 ⟨rfl, hb1⟩
  have G1 := Lib.hid hb1
  have y1 := hb1.size
  clear hb1
  go_wp2_with fail
  refine (H1.out w1 y1).mono ?_
  rintro e w2 ⟨g, rfl, hg, hh2, hb2⟩
  have G2 := Lib.hid (And.intro hh2 (bl_tr G1.out hb2))
  have y2 := hb2.size
  clear hh2 hb2
  go_wp2_with fail
  go_loopw [10] (fun i wr => ∃ (k : Nat) (D : Dk), k ≤ n1 ∧ k ≤ 80 ∧ i = .int .i64 k ∧ Held (From w.heap.size []) wr g D ∧ D.S.length = 8 ∧ D.U.length ≤ k ∧ D.N ≤ k ∧ Below w.heap.size w wr) (fun i _ => 80 - (intOf i).toNat)
  case atStart => exact ⟨0, Dk.new 8, by omega, by omega, rfl, G2.out.1, by simp [Dk.new], by simp [Dk.new], by simp [Dk.new], G2.out.2⟩
  case round =>
    obtain ⟨k, D, hk1, hk2, rfl, hrest⟩ := hrel
    have HR := Lib.hid hrest
    clear hrest
    by_cases hlt : k < n1 ∧ k < 80
    · obtain ⟨hl1, hl2⟩ := hlt
      obtain ⟨x, hx⟩ : ∃ x, xs[k]? = some x := ⟨_, List.getElem?_eq_getElem (by rw [HX.out.1]; exact hl1)⟩
      obtain ⟨hok, b, o, rfl, hb, c0, c1, c2, c3⟩ := HX.out.2 k x hx
      clear hx
      have q0 : wr.cell? ⟨b, o + k * 4, none⟩ = some (.int .i64 x.d) := (HR.out.2.2.2.2.cell hb).trans c0
      have q1 : wr.cell? ⟨b, o + k * 4 + 1, none⟩ = some (.int .i64 x.c) := (HR.out.2.2.2.2.cell hb).trans c1
      have q2 : wr.cell? ⟨b, o + k * 4 + 2, none⟩ = some (.string x.s) := (HR.out.2.2.2.2.cell hb).trans c2
      have HO := Lib.hid (And.intro hok hb)
      clear hok c0 c1 c2 c3 hb
      have i0 : (0 : Int) ≤ (k : Int) := Int.natCast_nonneg _
      have i1 : (k : Int) < (n1 : Int) := by omega
      have hbw : b < wr.heap.size := Nat.lt_of_lt_of_le HO.out.2 HR.out.2.2.2.2.size
      have nS : ¬ From w.heap.size [] b := fun x => by have := x.1; have := HO.out.2; omega
      go_wp2_with fail
      case roundEnd => exact ⟨⟨k + 1, D, by omega, by omega, by go_num, HR.out.1, HR.out.2.1, by have := HR.out.2.2.1; omega, by have := HR.out.2.2.2.1; omega, HR.out.2.2.2.2⟩, by simp [intOf]; omega⟩
      clear q0
      go_region_held3 (fun w' => w'.cell? ⟨b, o + k * 4 + 1, none⟩ = some (.int .i64 x.c) ∧ w'.cell? ⟨b, o + k * 4 + 2, none⟩ = some (.string x.s))
        (first
          | go_keep
          | exact ⟨(World.cell?_of_block (a := ⟨b, o + k * 4 + 1, none⟩) (hc6.block b (Nat.lt_of_lt_of_le hbw hb5.out.size) nS)).trans ((hb5.out.cell (p := ⟨b, o + k * 4 + 1, none⟩) hbw).trans q1), (World.cell?_of_block (a := ⟨b, o + k * 4 + 2, none⟩) (hc6.block b (Nat.lt_of_lt_of_le hbw hb5.out.size) nS)).trans ((hb5.out.cell (p := ⟨b, o + k * 4 + 2, none⟩) hbw).trans q2)⟩
          | exact ⟨(hb5.cell (p := ⟨b, o + k * 4 + 1, none⟩) hbw).trans q1, (hb5.cell (p := ⟨b, o + k * 4 + 2, none⟩) hbw).trans q2⟩)
        (first
          | (go_at_call 18; refine (text_any x.s _ HO.out.1.2.2.1).mono ?_; rintro e w5 ⟨rfl, hb5⟩)
          | (go_at_call 17; refine (write_any (From w.heap.size []) g D x.c (text70 x.s) _ (HR.out.1.drew.below hb5) HO.out.1.2.1 (by have := text70_size x.s; unfold maxLen; omega) (by have := HR.out.2.2.1; omega) (by have := HR.out.2.2.2.1; omega) (fun i hi => ⟨by have := HR.out.2.2.2.2.size; have := hb5.size; have : wr.drew.heap.size = wr.heap.size := rfl; omega, by simp⟩)).mono ?_; have hb5' := Lib.hid hb5; clear hb5; rename Hid _ => hb5; rintro e w6 ⟨rfl, hh6, hc6⟩))
      all_goals
        have HB := Lib.hid (And.intro hh6 (And.intro hc6 hb5.out))
        clear hh6 hc6 hb5 q1 q2
        go_wp2
        obtain ⟨hh6, hc6, hb5⟩ := HB.out
        have hp := write_props (D := D) (a := x.c) (s := (text70 x.s).data.toList)
        have hsz := HR.out.2.2.2.2.size
        have hsz5 := hb5.size
        refine ⟨⟨k + 1, _, by omega, by omega, by go_num, hh6, by rw [hp.1]; exact HR.out.2.1, by have := HR.out.2.2.1; omega, by have := HR.out.2.2.2.1; omega, ?_⟩, by simp [intOf]; omega⟩
        have c1 : Below w.heap.size wr w5 := (bl_dr (bl_re wr)).mono hsz |>.trans (hb5.mono (by exact hsz))
        exact (HR.out.2.2.2.2.trans c1).trans (hc6.below (fun i hi => hi.1) (by have : wr.drew.heap.size = wr.heap.size := rfl; omega))
    · have hex : ¬ (k : Int) < (n1 : Int) ∨ (k : Int) < (n1 : Int) ∧ ¬ (k : Int) < 80 := by omega
      obtain ⟨hh, hS8, hUk, hNk, hbw⟩ := HR.out
      have hU80 : D.U.length ≤ 80 := by omega
      have hN80 : D.N ≤ 80 := by omega
      have HC := Lib.hid (sync_any (From w.heap.size []) g D wr hh (by omega))
      obtain ⟨D2, hD2⟩ : ∃ D2 : Dk, { S := Dk.puts D.S D.U (List.replicate D.U.length 64), U := [], N := D.N + 1 } = D2 := ⟨_, rfl⟩
      rw [hD2] at HC
      have hS2 : D2.S.length = 8 := by rw [← hD2]; dsimp only; rw [puts_length]; exact hS8
      have hU2 : D2.U = [] := by rw [← hD2]
      have hN2 : D2.N ≤ 81 := by rw [← hD2]; dsimp only; omega
      have HD := Lib.hid (And.intro hS2 (And.intro hU2 (And.intro hN2 hbw)))
      have y3 := hbw.size
      clear hh hS8 hUk hNk hbw hU80 hN80 hD2 hS2 hU2 hN2 HR hlt
      rcases hex with e1 | ⟨e1, e2⟩
      all_goals
        go_wp2_with fail
        refine HC.out.mono ?_
        rintro e w3 ⟨rfl, hh3, hc3⟩
        have G3 := Lib.hid (And.intro hh3 (HD.out.2.2.2.trans (hc3.below (fun i hi => hi.1) y3)))
        have y4 := hc3.size
        clear hh3 hc3
        go_wp2_with fail
        obtain ⟨v0, hv0⟩ : ∃ v0, w3.alloc (.cells #[.string ⟨#[]⟩, .string ⟨#[]⟩, .string ⟨#[]⟩, .string ⟨#[]⟩, .string ⟨#[]⟩, .string ⟨#[]⟩, .string ⟨#[]⟩, .string ⟨#[]⟩] 35) = v0 := ⟨_, rfl⟩
        rw [hv0]
        have hs0 : Held (From w.heap.size [w3.heap.size]) v0 g D2 ∧ Below w.heap.size w v0 ∧ ∃ cs, Blk v0 w3.heap.size 35 cs ∧ cs.size = 8 := by
          rw [← hv0]
          exact ⟨(From.sub G3.out.1 _ (Nat.le_refl _)).alloc _, bl_al G3.out.2 _, _, Blk.new _ _ _, rfl⟩
        clear hv0
        generalize hbw : w3.heap.size = bw at *
        go_loopw [13] (fun i wr => ∃ (k : Nat) (cs : Array Value), k ≤ 8 ∧ i = .int .i64 k ∧ Blk wr bw 35 cs ∧ cs.size = 8 ∧ (∀ j, j < k → cs[j]? = some (.string (mk (D2.S[j]?.getD [])))) ∧ Held (From w.heap.size [bw]) wr g D2 ∧ Below w.heap.size w wr) (fun i _ => 8 - (intOf i).toNat)
        case atStart =>
          obtain ⟨q1, q2, cs, q3, q4⟩ := hs0
          exact ⟨0, cs, by omega, rfl, q3, q4, by omega, q1, q2⟩
        case round =>
          obtain ⟨k, cs, hk, rfl, hrest⟩ := hrel
          have HR := Lib.hid hrest
          clear hrest hs0
          by_cases hlt : k < 8
          · have hrd : D2.rd k = D2.S[k]?.getD [] := by unfold Dk.rd; rw [HD.out.2.1]; rfl
            have hr := read_ok (From w.heap.size [bw]) g D2 k wr HR.out.2.2.2.1 (by rw [HD.out.1]; exact hlt)
            rw [hrd] at hr
            have HQ := Lib.hid hr
            clear hr hrd
            go_wp2_with fail
            refine HQ.out.mono ?_
            rintro e w4 ⟨rfl, hb4⟩
            have b4 := HR.out.1.below hb4 HR.out.1.lt
            obtain ⟨cv, hcv⟩ : ∃ cv, cs[k]? = some cv := ⟨_, Array.getElem?_eq_getElem (by rw [HR.out.2.1]; exact hlt)⟩
            have q1 : w4.cell? ⟨bw, k, none⟩ = some cv := (b4.cell k).trans hcv
            have q2 := b4.frozen k
            have i0 : (0 : Int) ≤ (k : Int) := Int.natCast_nonneg _
            have i1 : (k : Int) < 8 := by omega
            have H4 := Lib.hid (And.intro b4 hb4)
            clear b4 hb4 hcv
            go_wp2
            obtain ⟨b4, hb4⟩ := H4.out
            obtain ⟨r1, r2, r3, r4, r5⟩ := HR.out
            refine ⟨⟨k + 1, cs.setIfInBounds k (.string (mk (D2.S[k]?.getD []))), by omega, by go_num, b4.set_ k _, by simp [r2], ?_, (r4.below hb4).far (by rintro ⟨_, h⟩; simp at h) _, (bl_tr r5 hb4).setCell (by have := y4; have := y3; dsimp only; omega) _⟩, by simp [intOf]; omega⟩
            intro j hj
            rw [Array.getElem?_setIfInBounds]
            by_cases hjk : k = j
            · subst hjk
              rw [if_pos rfl, if_pos (by rw [r2]; exact hlt)]
            · rw [if_neg hjk]
              exact r3 j (by omega)
          · obtain rfl : k = 8 := by omega
            have i1 : ¬ ((8 : Nat) : Int) < 8 := by omega
            go_wp2_with fail
            obtain ⟨r1, r2, r3, r4, r5⟩ := HR.out
            have y5 := r5.size
            have hbwlt := r1.lt
            obtain ⟨v1, hv1⟩ : ∃ v1, wr.alloc (.cells #[.bool false, .bool false, .bool false, .bool false, .bool false, .bool false, .bool false, .bool false] 38) = v1 := ⟨_, rfl⟩
            rw [hv1]
            have hs1 : Held (From w.heap.size [wr.heap.size, bw]) v1 g D2 ∧ Below w.heap.size w v1 ∧ Blk v1 bw 35 cs ∧ Blk v1 wr.heap.size 38 #[.bool false, .bool false, .bool false, .bool false, .bool false, .bool false, .bool false, .bool false] := by
              rw [← hv1]
              exact ⟨(From.sub r4 _ (Nat.le_refl _)).alloc _, bl_al r5 _, r1.alloc _, Blk.new _ _ _⟩
            have HS := Lib.hid (And.intro hs1 (And.intro r2 r3))
            clear hv1 hs1 r1 r2 r3 r4 r5 HR i1
            obtain ⟨bm, hbm⟩ : ∃ bm, wr.heap.size = bm := ⟨_, rfl⟩
            rw [hbm] at HS hbwlt y5 ⊢
            clear hbm
            go_loopw [17] (fun i wr => ∃ (k : Nat) (D : Dk) (ms : Array Value), k ≤ n2 ∧ k ≤ 20 ∧ i = .int .i64 k ∧ Held (From w.heap.size [bm, bw]) wr g D ∧ D.S = D2.S ∧ D.U.length ≤ k ∧ D.N ≤ 81 + k ∧ Below w.heap.size w wr ∧ Blk wr bw 35 cs ∧
                Blk wr bm 38 ms ∧ ms.size = 8 ∧ (∀ p ∈ D.U, ms[p.1]? = some (.bool true)) ∧ (∀ j, j < 8 → ∃ b : Bool, ms[j]? = some (.bool b))) (fun i _ => 20 - (intOf i).toNat)
            case atStart =>
              obtain ⟨⟨q1, q2, q3, q4⟩, _⟩ := HS.out
              refine ⟨0, D2, _, by omega, by omega, rfl, q1, rfl, by rw [HD.out.2.1]; simp, by have := HD.out.2.2.1; omega, q2, q3, q4, rfl, by rw [HD.out.2.1]; simp, ?_⟩
              intro j hj
              refine ⟨false, ?_⟩
              match j, hj with
              | 0, _ => rfl
              | 1, _ => rfl
              | 2, _ => rfl
              | 3, _ => rfl
              | 4, _ => rfl
              | 5, _ => rfl
              | 6, _ => rfl
              | 7, _ => rfl
            case round =>
              obtain ⟨k, D, ms, hk1, hk2, rfl, hrest⟩ := hrel
              have HR := Lib.hid hrest
              clear hrest
              by_cases hlt : k < n2 ∧ k < 20
              · obtain ⟨hl1, hl2⟩ := hlt
                obtain ⟨z, hz⟩ : ∃ z, l2[k]? = some z := ⟨_, List.getElem?_eq_getElem (by rw [H2.out.1]; exact hl1)⟩
                obtain ⟨ad, had, hab, hac⟩ := H2.out.2.2.2 k z hz
                have hzb := H2.out.2.2.1 z (List.mem_of_getElem? hz)
                obtain ⟨t1, t2, t3, t4, t5, t6, t7, t8, t9, t10⟩ := HR.out
                have q0 : wr.cell? (ad.add k) = some (.int .i64 z) := (t5.cell (by rw [ad_block]; exact hab)).trans hac
                obtain ⟨m, hm, hm8⟩ : ∃ m : Nat, (IntKind.u64.wrap z).tmod 8 = (m : Int) ∧ m < 8 := by
                  rw [IntKind.wrap_u64, Int.tmod_eq_emod_of_nonneg (by omega)]
                  exact ⟨(z % 18446744073709551616 % 8).toNat, by omega, by omega⟩
                obtain ⟨bv, hbv⟩ := t10 m hm8
                have q1 : wr.cell? ⟨bm, m, none⟩ = some (.bool bv) := (t7.cell m).trans hbv
                have q2 := t7.frozen m
                subst had
                clear t1 t2 t3 t4 t5 t6 t7 t8 t9 t10 hab hac hbv hz
                have i0 : (0 : Int) ≤ (k : Int) := Int.natCast_nonneg _
                have i1 : (k : Int) < (n2 : Int) := by omega
                have i2 : (0 : Int) ≤ (m : Int) := Int.natCast_nonneg _
                have i3 : (m : Int) < 8 := by omega
                go_wp2_with fail
                have nbm : ¬ From w.heap.size [bm, bw] bm := by rintro ⟨_, h⟩; simp at h
                have nbw : ¬ From w.heap.size [bm, bw] bw := by rintro ⟨_, h⟩; simp at h
                have hDl : D.S.length = 8 := by rw [HR.out.2.1]; exact HD.out.1
                have HW := Lib.hid (write_ok (From w.heap.size [bm, bw]) g D m ⟨#[110, 101, 119]⟩ (wr.setCell ⟨bm, m, none⟩ (.bool true)) (HR.out.1.far nbm _) (by omega) (by decide) (by have := HR.out.2.2.1; omega) (by have := HR.out.2.2.2.1; omega)
                  (fun i hi => by
                    have h1 := HR.out.2.2.2.2.1.size
                    have h2 := HR.out.2.2.2.2.2.1.lt
                    have h3 := HR.out.2.2.2.2.2.2.1.lt
                    simp at hi
                    exact ⟨by omega, by simp; omega⟩))
                clear q0 q1 q2
                refine HW.out.mono ?_
                rintro e w5 ⟨rfl, hh5, hc5⟩
                have HB := Lib.hid (And.intro hh5 hc5)
                clear hh5 hc5
                go_wp2
                obtain ⟨hh5, hc5⟩ := HB.out
                obtain ⟨t1, t2, t3, t4, t5, t6, t7, t8, t9, t10⟩ := HR.out
                have hs5 := hc5.size
                have ht5 := t5.size
                have hc0 : Below w.heap.size wr (wr.setCell ⟨bm, m, none⟩ (.bool true)) := (bl_re wr).mono ht5 |>.setCell (by dsimp only; omega) _
                refine ⟨⟨k + 1, _, ms.setIfInBounds m (.bool true), by omega, by omega, by go_num, hh5, t2, by simp; omega, by dsimp only; omega, (t5.trans hc0).trans (hc5.below (fun i hi => hi.1) (by simpa using ht5)), (t6.far (by dsimp only; omega) _).chg hc5 nbw,
                  (t7.set_ m _).chg hc5 nbm, by simp [t8], ?_, ?_⟩, by simp [intOf]; omega⟩
                · intro p hp
                  rw [Array.getElem?_setIfInBounds]
                  by_cases hpm : m = p.1
                  · rw [if_pos hpm, if_pos (by omega)]
                  · rw [if_neg hpm]
                    rcases List.mem_append.1 hp with hp | hp
                    · exact t9 p hp
                    · rw [List.mem_singleton.1 hp] at hpm
                      exact absurd rfl hpm
                · intro j hj
                  rw [Array.getElem?_setIfInBounds]
                  by_cases hpm : m = j
                  · rw [if_pos hpm, if_pos (by omega)]
                    exact ⟨true, rfl⟩
                  · rw [if_neg hpm]
                    exact t10 j hj
              · have hex : ¬ (k : Int) < (n2 : Int) ∨ (k : Int) < (n2 : Int) ∧ ¬ (k : Int) < 20 := by omega
                have HE := Lib.hid (And.intro hk1 hk2)
                rcases hex with e1 | ⟨e1, e2⟩
                all_goals
                  go_wp2_with fail
                  refine (cut_any so3 n3 cap3 wr H3.out.2.1.1 H3.out.2.1.2.1 H3.out.2.1.2.2).mono ?_
                  rintro e w6 ⟨rfl, hb6⟩
                  have G6 := Lib.hid hb6
                  clear hb6
                  go_wp2_with fail
                  have hI6 : IntsAt w6 so3 (l3.take 80) := (H3.out.2.2.2.below (HR.out.2.2.2.2.1.trans (G6.out.mono HR.out.2.2.2.2.1.size))).take 80
                  refine (crash_any (From w.heap.size [bm, bw]) g D so3 cap3 (min n3 80) (l3.take 80) w6 (HR.out.1.below G6.out) (by rw [List.length_take, H3.out.1]; omega) (by rw [List.length_take]; unfold maxLen; omega)
                    (fun x hx => H3.out.2.2.1 x (List.mem_of_mem_take hx)) hI6 (fun a ha hl0 x => by
                      obtain ⟨y, hy⟩ : ∃ y, l3[0]? = some y := ⟨_, List.getElem?_eq_getElem (by simp at hl0; omega)⟩
                      obtain ⟨a', h1, h2, _⟩ := H3.out.2.2.2 0 y hy
                      rw [ha] at h1
                      obtain rfl := Option.some.inj h1
                      have := x.1
                      omega)).mono ?_
                  rintro e w7 ⟨rfl, hh7, hc7⟩
                  have nbm : ¬ From w.heap.size [bm, bw] bm := by rintro ⟨_, h⟩; simp at h
                  have nbw : ¬ From w.heap.size [bm, bw] bw := by rintro ⟨_, h⟩; simp at h
                  have hb7 : Below w.heap.size w w7 := (HR.out.2.2.2.2.1.trans (G6.out.mono HR.out.2.2.2.2.1.size)).trans (hc7.below (fun i hi => hi.1) (Nat.le_trans HR.out.2.2.2.2.1.size G6.out.size))
                  have bw7 : Blk w7 bw 35 cs := (HR.out.2.2.2.2.2.1.below G6.out HR.out.2.2.2.2.2.1.lt).chg hc7 nbw
                  have bm7 : Blk w7 bm 38 ms := (HR.out.2.2.2.2.2.2.1.below G6.out HR.out.2.2.2.2.2.2.1.lt).chg hc7 nbm
                  obtain ⟨D4, hD4⟩ : ∃ D4, (D.crash (l3.take 80)).2 = D4 := ⟨_, rfl⟩
                  have hrd4 : ∀ j, (∀ p ∈ D.U, p.1 ≠ j) → D4.rd j = D2.S[j]?.getD [] := fun j hj => by rw [← hD4, crash_rd _ _ _ hj, HR.out.2.1]
                  have hS4 : D4.S.length = 8 := by rw [← hD4, crash_S, HR.out.2.1]; exact HD.out.1
                  rw [hD4] at hh7
                  obtain ⟨er, her⟩ : ∃ er, (D.crash (l3.take 80)).1 = er := ⟨_, rfl⟩
                  rw [her]
                  have HF := Lib.hid (And.intro hh7 (And.intro hb7 (And.intro bw7 (And.intro bm7 (And.intro hrd4 hS4)))))
                  clear hh7 hb7 bw7 bm7 hc7 hrd4 hS4 hD4 her hI6 nbm nbw
                  go_wp2_with fail
                  go_loopw [19] (fun i wr => ∃ k : Nat, k ≤ 8 ∧ i = .int .i64 k ∧ Held (From w.heap.size [bm, bw]) wr g D4 ∧ Below w.heap.size w wr ∧ Blk wr bw 35 cs ∧ Blk wr bm 38 ms) (fun i _ => 8 - (intOf i).toNat)
                  case atStart => exact ⟨0, by omega, rfl, HF.out.1, HF.out.2.1, HF.out.2.2.1, HF.out.2.2.2.1⟩
                  case round =>
                    obtain ⟨j, hj, rfl, hrest⟩ := hrel
                    have HG := Lib.hid hrest
                    clear hrest
                    by_cases hlt : j < 8
                    · obtain ⟨bv, hbv⟩ := HR.out.2.2.2.2.2.2.2.2.2 j hlt
                      have q1 := (HG.out.2.2.2.cell j).trans hbv
                      have q2 := (HG.out.2.2.1.cell j).trans (HS.out.2.2 j hlt)
                      have hr := read_ok (From w.heap.size [bm, bw]) g D4 j wr HG.out.1 (by rw [HF.out.2.2.2.2.2]; exact hlt)
                      cases bv with
                      | true =>
                        have HQ := Lib.hid hr
                        clear hr
                        go_wp2_with fail
                        refine HQ.out.mono ?_
                        rintro e w8 ⟨rfl, hb8⟩
                        have q3 : w8.cell? ⟨bm, j, none⟩ = some (.bool true) := (hb8.cell (p := ⟨bm, j, none⟩) HG.out.2.2.2.lt).trans q1
                        have q4 : w8.cell? ⟨bw, j, none⟩ = some (.string (mk (D2.S[j]?.getD []))) := (hb8.cell (p := ⟨bw, j, none⟩) HG.out.2.2.1.lt).trans q2
                        have H8 := Lib.hid hb8
                        clear hb8 q1 q2 hbv
                        have i0 : (0 : Int) ≤ (j : Int) := Int.natCast_nonneg _
                        have i1 : (j : Int) < 8 := by omega
                        go_wp2
                        exact ⟨⟨j + 1, by omega, by go_num, HG.out.1.below H8.out, bl_tr HG.out.2.1 H8.out, HG.out.2.2.1.below H8.out HG.out.2.2.1.lt, HG.out.2.2.2.below H8.out HG.out.2.2.2.lt⟩, by simp [intOf]; omega⟩
                      | false =>
                        rw [HF.out.2.2.2.2.1 j (fun p hp e => by
                          have := HR.out.2.2.2.2.2.2.2.2.1 p hp
                          rw [e, hbv] at this
                          cases this)] at hr
                        have HQ := Lib.hid hr
                        clear hr
                        go_wp2_with fail
                        refine HQ.out.mono ?_
                        rintro e w8 ⟨rfl, hb8⟩
                        have q3 : w8.cell? ⟨bm, j, none⟩ = some (.bool false) := (hb8.cell (p := ⟨bm, j, none⟩) HG.out.2.2.2.lt).trans q1
                        have q4 : w8.cell? ⟨bw, j, none⟩ = some (.string (mk (D2.S[j]?.getD []))) := (hb8.cell (p := ⟨bw, j, none⟩) HG.out.2.2.1.lt).trans q2
                        have H8 := Lib.hid hb8
                        clear hb8 q1 q2 hbv
                        have i0 : (0 : Int) ≤ (j : Int) := Int.natCast_nonneg _
                        have i1 : (j : Int) < 8 := by omega
                        go_wp2
                        exact ⟨⟨j + 1, by omega, by go_num, HG.out.1.below H8.out, bl_tr HG.out.2.1 H8.out, HG.out.2.2.1.below H8.out HG.out.2.2.1.lt, HG.out.2.2.2.below H8.out HG.out.2.2.2.lt⟩, by simp [intOf]; omega⟩
                    · obtain rfl : j = 8 := by omega
                      have i1 : ¬ ((8 : Nat) : Int) < 8 := by omega
                      go_wp2
                      go_ret
                      exact ⟨rfl, HG.out.2.1⟩
end Go.Proofs.Ytmbjbckjfkijmaa
