/- MetaLoads: what is stored and loaded of a disk, by the program and by the reference. -/
import Derived.Test.YtdaoiimjflplhaaMetaFl
import Derived.Test.YtdaoiimjflplhaaLawM
import Derived.Test.YtdaoiimjflplhaaArgsM
import Derived.Test.YtdaoiimjflplhaaArgsS
import Derived.Test.YtdaoiimjflplhaaRun
namespace Go.Proofs.Ytdaoiimjflplhaa
open Go.RowKit Go.Shelf
set_option linter.unusedVariables false
attribute [local go_sem] Oper.semAt_some
attribute [local go_sem ↓] Go.wp_at_zero Go.wp_at_succ

theorem loadV_form (D : Dk) : ∃ (a b c d : Nat) (x : Int), loadV D = .tuple #[.agg #[.int .u64 (a : Int), .int .u32 (b : Int), .int .u32 (c : Int), .int .u32 (d : Int)], .int .i64 x] := by
  unfold loadV mloadV
  split
  · split
    · exact ⟨0, 0, 0, 0, 40, rfl⟩
    · obtain ⟨⟨a, b, c, d⟩, hq⟩ : ∃ q, D.hl 2 = q := ⟨_, rfl⟩
      rw [hq]
      exact ⟨a, b, c, d, 0, rfl⟩
  · exact ⟨0, 0, 0, 0, 10, rfl⟩

set_option maxRecDepth 100000 in
set_option maxHeartbeats 1000000 in
theorem loads_out (s : Int) (so1 so2 : Option Addr) (n1 cap1 n2 cap2 : Nat) (w : World) (hs : s < 1 ∨ 20 < s) :
    Calls Try.prog 5 #[.int .i64 s, .slice so1 n1 cap1, .slice so2 n2 cap2] w fun e w' => e = .returned (.bool true) ∧ Below w.heap.size w w' := by
  have H1 := Lib.hid (fun w => shown4_any w)
  have hex : s < 1 ∨ ¬ s < 1 ∧ 20 < s := by omega
  clear hs
  rcases hex with e1 | ⟨e1, e2⟩
  all_goals
    go_enter Try.func5, Try.ntmps5
    go_wp2_with fail
    refine (H1.out _).mono ?_
    rintro e w1 ⟨rfl, hb1⟩
    have HB := Lib.hid hb1
    clear hb1
    go_wp2
    go_ret
    exact ⟨rfl, HB.out⟩

set_option maxRecDepth 100000 in
set_option maxHeartbeats 8000000 in
theorem loads_in (n : Nat) (so1 so2 : Option Addr) (n1 cap1 n2 cap2 : Nat) (xs : List MetaA) (ys : List ByteArray) (w : World) (hs : 1 ≤ n ∧ n ≤ 20) (hx1 : xs.length = n1) (hx2 : n1 ≤ maxLen) (hx3 : MetasAt w so1 xs) (hy1 : ys.length = n2) (hy2 : n2 ≤ maxLen) (hy3 : StrsAt w so2 ys) :
    Calls Try.prog 5 #[.int .i64 n, .slice so1 n1 cap1, .slice so2 n2 cap2] w fun e w' => e = .returned (.bool true) ∧ Below w.heap.size w w' := by
  unfold maxLen at hx2 hy2
  have H1 := Lib.hid (shown4_any w)
  have H2 := Lib.hid (fun w1 : World => new_yes (fun k => w1.heap.size ≤ k) n w1 hs.1 (by omega) (fun k hk => hk))
  have H3 := Lib.hid (fun w1 : World => rnew_yes (fun k => w1.heap.size ≤ k) n w1 hs.1 (by omega) (fun k hk => hk))
  have HX := Lib.hid (And.intro hx1 hx3)
  have HY := Lib.hid (And.intro hy1 hy3)
  obtain ⟨hs1, hs2⟩ := hs
  have e1 : ¬ (n : Int) < 1 := by omega
  have e2 : ¬ 20 < (n : Int) := by omega
  clear hx1 hx3 hy1 hy3
  go_enter Try.func5, Try.ntmps5
  go_wp2_with fail
  refine H1.out.mono ?_
  rintro e w1 ⟨rfl, hb1⟩
  go_wp2_with fail
  refine (H2.out w1).mono ?_
  rintro e w2 ⟨g, rfl, hg, hh2, hb2⟩
  go_wp2_with fail
  refine (H3.out w2).mono ?_
  rintro e w3 ⟨h, rfl, hh, hh3, hb3⟩
  have T0 := Lib.hid (And.intro ((Two.make hb2 hb3 hh2 hh3).less (F := fun k => k < w.heap.size) (fun k hk => Nat.lt_of_lt_of_le hk hb1.size)) (bl_tr (bl_tr hb1 hb2) hb3))
  clear hb1 hb2 hb3 hh2 hh3 hg hh H1 H2 H3
  go_wp2_with fail
  go_loopw [12, 13, 14, 15, 16, 17] (fun i _ _ _ _ _ wr => ∃ (k : Nat) (D : Dk), k ≤ 20 ∧ i = .int .i64 k ∧ Two (fun k => k < w.heap.size) wr g D h D ∧ D.U.length ≤ 2 * k ∧ D.N ≤ 2 * k ∧ Below w.heap.size w wr) (fun i _ _ _ _ _ _ => 20 - (intOf i).toNat)
  case atStart => exact ⟨0, Dk.new n, by omega, rfl, T0.out.1, by simp [Dk.new], by simp [Dk.new], T0.out.2⟩
  case round =>
    obtain ⟨k, D, hk, rfl, hrest⟩ := hrel
    have HR := Lib.hid hrest
    clear hrest T0 e1 e2
    have i0 : (0 : Int) ≤ (k : Int) := Int.natCast_nonneg _
    by_cases hlt : k < 20
    · have hB20 : 2 * k < 1000000 := by omega
      -- the store
      by_cases hl : k < n1
      case' pos =>
        obtain ⟨x, hx⟩ : ∃ x, xs[k]? = some x := ⟨_, List.getElem?_eq_getElem (by rw [HX.out.1]; exact hl)⟩
        obtain ⟨hok, b, o, rfl, hb, c0, c1, c2, c3⟩ := HX.out.2 k x hx
        obtain ⟨xt, xr, xh, xf⟩ := x
        clear hx
        have hbel := HR.out.2.2.2
        have q0 : wr.cell? ⟨b, o + k * 4, none⟩ = some (.int .u64 (xt : Int)) := (hbel.cell hb).trans c0
        have q1 : wr.cell? ⟨b, o + k * 4 + 1, none⟩ = some (.int .u32 (xr : Int)) := (hbel.cell hb).trans c1
        have q2 : wr.cell? ⟨b, o + k * 4 + 2, none⟩ = some (.int .u32 (xh : Int)) := (hbel.cell hb).trans c2
        have q3 : wr.cell? ⟨b, o + k * 4 + 3, none⟩ = some (.int .u32 (xf : Int)) := (hbel.cell hb).trans c3
        have Q := Lib.hid (And.intro q0 (And.intro q1 (And.intro q2 (And.intro q3 (And.intro hb (Nat.lt_of_lt_of_le hb hbel.size))))))
        have hst1 := fun S W (hh : Held S W g D) (hS : ∀ k, W.heap.size ≤ k → S k) => mstore_any S g D xt xr xh xf W hh hok.1 hok.2.1 hok.2.2.1 hok.2.2.2 (by have := HR.out.2.1; omega) (by have := HR.out.2.2.1; omega) hS
        have hst2 := fun S W (hh : RHeld S W h D) (hS : ∀ k, W.heap.size ≤ k → S k) => rmstore_any S h D xt xr xh xf W hh hok.1 hok.2.1 hok.2.2.1 hok.2.2.2 (by have := HR.out.2.1; omega) (by have := HR.out.2.2.1; omega) hS
        have hn := near_store D xt xr xh xf
        obtain ⟨⟨se, D1⟩, hse⟩ : ∃ r, D.mstore xt xr xh xf = r := ⟨_, rfl⟩
        rw [hse] at hst1 hst2 hn
        unfold metaV at hst1 hst2
        have HS1 := Lib.hid hst1
        have HS2 := Lib.hid hst2
        have HN := Lib.hid hn
        have T1 : Hid (Run (fun k => k < w.heap.size) wr wr.drew g D h D) := Lib.hid ⟨HR.out.1.below (bl_dr (bl_re wr)), Chg.ofNew (bl_dr (bl_re wr))⟩
        have i1 : (k : Int) < (n1 : Int) := by omega
        clear hok c0 c1 c2 c3 hb hbel hst1 hst2 hse hn
        go_wp2_with fail
        go_region_held3 (fun w' => w'.cell? ⟨b, o + k * 4, none⟩ = some (.int .u64 (xt : Int)) ∧ w'.cell? ⟨b, o + k * 4 + 1, none⟩ = some (.int .u32 (xr : Int)) ∧ w'.cell? ⟨b, o + k * 4 + 2, none⟩ = some (.int .u32 (xh : Int)) ∧ w'.cell? ⟨b, o + k * 4 + 3, none⟩ = some (.int .u32 (xf : Int)))
          (first | go_keep | exact ⟨T3.out.cell Q.out.2.2.2.2.1 Q.out.2.2.2.2.2 _ _ Q.out.1, T3.out.cell Q.out.2.2.2.2.1 Q.out.2.2.2.2.2 _ _ Q.out.2.1, T3.out.cell Q.out.2.2.2.2.1 Q.out.2.2.2.2.2 _ _ Q.out.2.2.1, T3.out.cell Q.out.2.2.2.2.1 Q.out.2.2.2.2.2 _ _ Q.out.2.2.2.1⟩ | exact ⟨T2.out.cell Q.out.2.2.2.2.1 Q.out.2.2.2.2.2 _ _ Q.out.1, T2.out.cell Q.out.2.2.2.2.1 Q.out.2.2.2.2.2 _ _ Q.out.2.1, T2.out.cell Q.out.2.2.2.2.1 Q.out.2.2.2.2.2 _ _ Q.out.2.2.1, T2.out.cell Q.out.2.2.2.2.1 Q.out.2.2.2.2.2 _ _ Q.out.2.2.2.1⟩)
          (first
            | (go_at_call 19; obtain ⟨S, hSa, hSb, hh, hback⟩ := T1.out.left; refine (HS1.out S _ hh hSa).mono ?_; rintro e w4 ⟨rfl, hh4, hc4⟩; have T2 := Lib.hid (hback _ _ hh4 hc4); clear hSa hSb hh hback hh4 hc4)
            | (go_at_call 20; obtain ⟨S, hSa, hSb, hh, hback⟩ := T2.out.right; refine (HS2.out S _ hh hSa).mono ?_; rintro e w5 ⟨rfl, hh5, hc5⟩; have T3 := Lib.hid (hback _ _ hh5 hc5); clear hSa hSb hh hback hh5 hc5))
        all_goals
          have HA : Hid (Two (fun k => k < w.heap.size) w5 g D1 h D1 ∧ D1.U.length ≤ 2 * k + 1 ∧ D1.N ≤ 2 * k + 1 ∧ Below w.heap.size w w5) := Lib.hid ⟨T3.out.1, by have := HN.out.2.1; have := HR.out.2.1; omega, by have := HN.out.2.2; have := HR.out.2.2.1; omega, HR.out.2.2.2.trans (T3.out.2.below (fun k hk => by simpa using hk) HR.out.2.2.2.size)⟩
          clear q0 q1 q2 q3 Q HS1 HS2 HN T1 T2 T3 i1
      case' neg =>
        obtain ⟨D1, hD1⟩ : ∃ D1, D = D1 := ⟨_, rfl⟩
        rw [hD1] at HR
        have i1 : ¬ (k : Int) < (n1 : Int) := by omega
        clear hD1
        go_wp2_with fail
        go_quiet (fail)
        obtain ⟨w5, hw5⟩ : ∃ w5, wr.drewN nq = w5 := ⟨_, rfl⟩
        have HA : Hid (Two (fun k => k < w.heap.size) w5 g D1 h D1 ∧ D1.U.length ≤ 2 * k + 1 ∧ D1.N ≤ 2 * k + 1 ∧ Below w.heap.size w w5) := Lib.hid (by rw [← hw5]; exact ⟨HR.out.1.below (bl_dN (bl_re wr) _), by have := HR.out.2.1; omega, by have := HR.out.2.2.1; omega, bl_dN HR.out.2.2.2 _⟩)
        rw [hw5]
        clear hw5 i1
      all_goals
        clear HR hl
        by_cases hl2 : k < n2
        · obtain ⟨y, hy⟩ : ∃ y, ys[k]? = some y := ⟨_, List.getElem?_eq_getElem (by rw [HY.out.1]; exact hl2)⟩
          obtain ⟨hys, b2, o2, rfl, hbb, c5⟩ := HY.out.2 k y hy
          clear hy
          have q5 : w5.cell? ⟨b2, o2 + k, none⟩ = some (.string y) := (HA.out.2.2.2.cell hbb).trans c5
          have i1 : (k : Int) < (n2 : Int) := by omega
          unfold maxLen at hys
          clear c5 hbb
          go_wp2_with fail
          · obtain ⟨z, hz⟩ : ∃ z, y.extract 0 (min (y.size : Int) 64).toNat = z := ⟨_, rfl⟩
            have hzs : z.size ≤ 64 := by rw [← hz, ByteArray.size_extract]; omega
            go_region
            all_goals
              clear hz
              have T5 : Hid (Run (fun k => k < w.heap.size) w5 w5.drew g D1 h D1) := Lib.hid ⟨HA.out.1.below (bl_dr (bl_re w5)), Chg.ofNew (bl_dr (bl_re w5))⟩
              clear q5
              go_wp2_with fail
              obtain ⟨S, hSa, hSb, hh, hback⟩ := T5.out.left
              refine (write_any S g D1 _ z _ hh (by omega) (by unfold maxLen; omega) (by have := HA.out.2.1; omega) (by have := HA.out.2.2.1; omega) hSa).mono ?_
              rintro e w6 ⟨rfl, hh6, hc6⟩
              have T6 := Lib.hid (hback _ _ hh6 hc6)
              clear hSa hSb hh hback hh6 hc6
              go_wp2_with fail
              obtain ⟨S, hSa, hSb, hh, hback⟩ := T6.out.right
              refine (rwrite_any S h D1 _ z _ hh (by omega) (by unfold maxLen; omega) (by have := HA.out.2.1; omega) (by have := HA.out.2.2.1; omega) hSa).mono ?_
              rintro e w7 ⟨rfl, hh7, hc7⟩
              have T7 := hback _ _ hh7 hc7
              have hn := near_write D1 (4 * ((k : Int) % 2)) z.data.toList
              clear hSa hSb hh hback hh7 hc7
              generalize (D1.write (4 * ((k : Int) % 2)) z.data.toList).2 = D2 at *
              have HB : Hid (Two (fun k => k < w.heap.size) w7 g D2 h D2 ∧ D2.U.length ≤ 2 * k + 2 ∧ D2.N ≤ 2 * k + 2 ∧ Below w.heap.size w w7) := Lib.hid ⟨T7.1, by have := hn.2.1; have := HA.out.2.1; omega, by have := hn.2.2; have := HA.out.2.2.1; omega, HA.out.2.2.2.trans (T7.2.below (fun k hk => by simpa using hk) HA.out.2.2.2.size)⟩
              clear T5 T6 T7 hn HA
              go_wp2_with fail
              obtain ⟨la, lb, lc, ld, le, hle⟩ := loadV_form D2
              have HL := Lib.hid hle
              obtain ⟨S, _, _, hh, _⟩ := HB.out.1.left
              refine (mload_any S g D2 _ hh).mono ?_
              rw [HL.out]
              clear hh hle
              rintro e w8 ⟨rfl, hb8⟩
              have T8 := Lib.hid (And.intro (HB.out.1.below hb8) (bl_tr HB.out.2.2.2 hb8))
              clear hb8
              go_wp2_with fail
              obtain ⟨S, _, _, hh, _⟩ := T8.out.1.right
              refine (rmload_any S h D2 _ (hh.below (bl_al (bl_re w8) _))).mono ?_
              rw [HL.out]
              clear hh
              rintro e w9 ⟨rfl, hb9⟩
              have b9 := (Blk.new w8 25 #[.int .u64 (la : Int), .int .u32 (lb : Int), .int .u32 (lc : Int), .int .u32 (ld : Int)]).below hb9 (by simp)
              have c0 : w9.cell? ⟨w8.heap.size, 0, none⟩ = some (.int .u64 (la : Int)) := b9.cell 0
              have c1 : w9.cell? ⟨w8.heap.size, 1, none⟩ = some (.int .u32 (lb : Int)) := b9.cell 1
              have c2 : w9.cell? ⟨w8.heap.size, 2, none⟩ = some (.int .u32 (lc : Int)) := b9.cell 2
              have c3 : w9.cell? ⟨w8.heap.size, 3, none⟩ = some (.int .u32 (ld : Int)) := b9.cell 3
              have hlt9 := b9.lt
              have T9 := Lib.hid (And.intro (T8.out.1.below (bl_tr (bl_al (bl_re w8) _) hb9)) (bl_tr T8.out.2 (bl_tr (bl_al (bl_re w8) _) hb9)))
              clear b9 hb9
              go_wp2
              exact ⟨⟨k + 1, D2, by omega, by go_num, T9.out.1.below (bl_al (bl_re w9) _), by have := HB.out.2.1; omega, by have := HB.out.2.2.1; omega, bl_al T9.out.2 _⟩, by simp [intOf]; omega⟩
          · clear q5
            obtain ⟨la, lb, lc, ld, le, hle⟩ := loadV_form D1
            have HL := Lib.hid hle
            obtain ⟨S, _, _, hh, _⟩ := HA.out.1.left
            refine (mload_any S g D1 _ hh).mono ?_
            rw [HL.out]
            clear hh hle
            rintro e w8 ⟨rfl, hb8⟩
            have T8 := Lib.hid (And.intro (HA.out.1.below hb8) (bl_tr HA.out.2.2.2 hb8))
            clear hb8
            go_wp2_with fail
            obtain ⟨S, _, _, hh, _⟩ := T8.out.1.right
            refine (rmload_any S h D1 _ (hh.below (bl_al (bl_re w8) _))).mono ?_
            rw [HL.out]
            clear hh
            rintro e w9 ⟨rfl, hb9⟩
            have b9 := (Blk.new w8 25 #[.int .u64 (la : Int), .int .u32 (lb : Int), .int .u32 (lc : Int), .int .u32 (ld : Int)]).below hb9 (by simp)
            have c0 : w9.cell? ⟨w8.heap.size, 0, none⟩ = some (.int .u64 (la : Int)) := b9.cell 0
            have c1 : w9.cell? ⟨w8.heap.size, 1, none⟩ = some (.int .u32 (lb : Int)) := b9.cell 1
            have c2 : w9.cell? ⟨w8.heap.size, 2, none⟩ = some (.int .u32 (lc : Int)) := b9.cell 2
            have c3 : w9.cell? ⟨w8.heap.size, 3, none⟩ = some (.int .u32 (ld : Int)) := b9.cell 3
            have hlt9 := b9.lt
            have T9 := Lib.hid (And.intro (T8.out.1.below (bl_tr (bl_al (bl_re w8) _) hb9)) (bl_tr T8.out.2 (bl_tr (bl_al (bl_re w8) _) hb9)))
            clear b9 hb9
            go_wp2
            exact ⟨⟨k + 1, D1, by omega, by go_num, T9.out.1.below (bl_al (bl_re w9) _), by have := HA.out.2.1; omega, by have := HA.out.2.2.1; omega, bl_al T9.out.2 _⟩, by simp [intOf]; omega⟩
        · have i1 : ¬ (k : Int) < (n2 : Int) := by omega
          go_wp2_with fail
          obtain ⟨la, lb, lc, ld, le, hle⟩ := loadV_form D1
          have HL := Lib.hid hle
          obtain ⟨S, _, _, hh, _⟩ := HA.out.1.left
          refine (mload_any S g D1 _ hh).mono ?_
          rw [HL.out]
          clear hh hle
          rintro e w8 ⟨rfl, hb8⟩
          have T8 := Lib.hid (And.intro (HA.out.1.below hb8) (bl_tr HA.out.2.2.2 hb8))
          clear hb8
          go_wp2_with fail
          obtain ⟨S, _, _, hh, _⟩ := T8.out.1.right
          refine (rmload_any S h D1 _ (hh.below (bl_al (bl_re w8) _))).mono ?_
          rw [HL.out]
          clear hh
          rintro e w9 ⟨rfl, hb9⟩
          have b9 := (Blk.new w8 25 #[.int .u64 (la : Int), .int .u32 (lb : Int), .int .u32 (lc : Int), .int .u32 (ld : Int)]).below hb9 (by simp)
          have c0 : w9.cell? ⟨w8.heap.size, 0, none⟩ = some (.int .u64 (la : Int)) := b9.cell 0
          have c1 : w9.cell? ⟨w8.heap.size, 1, none⟩ = some (.int .u32 (lb : Int)) := b9.cell 1
          have c2 : w9.cell? ⟨w8.heap.size, 2, none⟩ = some (.int .u32 (lc : Int)) := b9.cell 2
          have c3 : w9.cell? ⟨w8.heap.size, 3, none⟩ = some (.int .u32 (ld : Int)) := b9.cell 3
          have hlt9 := b9.lt
          have T9 := Lib.hid (And.intro (T8.out.1.below (bl_tr (bl_al (bl_re w8) _) hb9)) (bl_tr T8.out.2 (bl_tr (bl_al (bl_re w8) _) hb9)))
          clear b9 hb9
          go_wp2
          exact ⟨⟨k + 1, D1, by omega, by go_num, T9.out.1.below (bl_al (bl_re w9) _), by have := HA.out.2.1; omega, by have := HA.out.2.2.1; omega, bl_al T9.out.2 _⟩, by simp [intOf]; omega⟩
    · obtain rfl : k = 20 := by omega
      go_wp2
      go_ret
      exact ⟨rfl, HR.out.2.2.2⟩

theorem metaLoads_any (s : Int) (so1 so2 : Option Addr) (n1 cap1 n2 cap2 : Nat) (xs : List MetaA) (ys : List ByteArray) (w : World) (hx1 : xs.length = n1) (hx2 : n1 ≤ maxLen) (hx3 : MetasAt w so1 xs) (hy1 : ys.length = n2) (hy2 : n2 ≤ maxLen) (hy3 : StrsAt w so2 ys) :
    Calls Try.prog 5 #[.int .i64 s, .slice so1 n1 cap1, .slice so2 n2 cap2] w fun e w' => e = .returned (.bool true) ∧ Below w.heap.size w w' := by
  by_cases h : s < 1 ∨ 20 < s
  · exact loads_out s so1 so2 n1 cap1 n2 cap2 w h
  · obtain ⟨n, rfl⟩ : ∃ n : Nat, s = n := ⟨s.toNat, by omega⟩
    exact loads_in n so1 so2 n1 cap1 n2 cap2 xs ys w (by omega) hx1 hx2 hx3 hy1 hy2 hy3
end Go.Proofs.Ytdaoiimjflplhaa
