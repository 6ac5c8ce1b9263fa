/- package bazaarref04: Store, Load. -/
import Derived.Test.YtdaoiimjflplhaaRefMetaD
import Derived.Test.YtdaoiimjflplhaaRDskC
import Derived.Test.YtdaoiimjflplhaaMetaR
namespace Go.Proofs.Ytdaoiimjflplhaa
open Go.RowKit Go.Shelf
set_option linter.unusedVariables false
attribute [local go_sem] Oper.semAt_some
attribute [local go_sem ↓] Go.wp_at_zero Go.wp_at_succ

/-- What Load tells. -/
def loadV (D : Dk) : Value := if 4 < D.S.length then mloadV D else .tuple #[metaZ, .int .i64 10]

set_option maxRecDepth 100000 in
set_option maxHeartbeats 2000000 in
theorem rmstore_any (S : Nat → Prop) (g : Nat) (D : Dk) (t r h f : Nat) (w : World) (hD : RHeld S w g D) (ht : t < 18446744073709551616) (hr : r < 4294967296) (hh : h < 4294967296) (hf : f < 4294967296) (hU : D.U.length < 1000000) (hN : D.N < 1000000) (hS : ∀ k, w.heap.size ≤ k → S k) :
    Calls Try.prog 20 #[.pointer (some ⟨g, 0, none⟩), metaV t r h f] w fun e w' => e = .returned (.int .i64 (D.mstore t r h f).1) ∧ RHeld S w' g (D.mstore t r h f).2 ∧ Chg S w w' := by
  have HE := Lib.hid (fun W => rmencode_any t r h f W ht hr hh hf)
  have hB := Blk.new w 25 #[.int .u64 (t : Int), .int .u32 (r : Int), .int .u32 (h : Int), .int .u32 (f : Int)]
  have HB := Lib.hid hB
  have HD := Lib.hid hD
  have HS := Lib.hid hS
  unfold mencV metaV at HE
  unfold metaV
  cases hR : mRightB t r h f with
  | false =>
    have e : D.mstore t r h f = (40, D) := by unfold Dk.mstore; rw [if_neg (by rw [hR]; simp)]
    rw [e]
    rw [if_neg (by rw [hR]; simp)] at HE
    clear hB hD hS ht hr hh hf hU hN hR e
    go_enter Try.func20, Try.ntmps20
    go_wp2_with fail
    refine (HE.out _).mono ?_
    rintro e w1 ⟨rfl, hb1⟩
    go_wp2
    go_ret
    have hb := bl_tr (bl_al (bl_re w) _) hb1
    exact ⟨rfl, HD.out.below hb, Chg.ofNew hb⟩
  | true =>
    have e : D.mstore t r h f = D.write (4 * ((t : Int) % 2)) (mEnc t r h f) := by unfold Dk.mstore; rw [if_pos hR]
    rw [e]
    rw [if_pos hR] at HE
    have hl := mEnc_length t r h f
    obtain ⟨z, hz⟩ : ∃ z, mk (mEnc t r h f) = z := ⟨_, rfl⟩
    have hzl : z.data.toList = mEnc t r h f := by rw [← hz, mk_toList]
    have hzs : z.size = 64 := by rw [← ba_length, hzl, hl]
    rw [hz] at HE
    rw [← hzl]
    have HZ := Lib.hid hzs
    have HUN := Lib.hid (And.intro hU hN)
    have e1 : IntKind.i64.wrap ((t % 2 : Nat) : Int) = (t % 2 : Nat) := IntWalk.i64_in _ (by omega)
    have e2 : IntKind.i64.wrap (4 * ((t % 2 : Nat) : Int)) = 4 * ((t % 2 : Nat) : Int) := IntWalk.i64_in _ (by omega)
    clear hB hD hS ht hr hh hf hU hN hR e hz hzl hzs hl
    go_enter Try.func20, Try.ntmps20
    go_wp2_with fail
    refine (HE.out _).mono ?_
    rintro e w1 ⟨rfl, hb1⟩
    have hb := Lib.hid (bl_tr (bl_al (bl_re w) _) hb1)
    have b1 := HB.out.below hb1 (by simp)
    have c0 : w1.cell? ⟨w.heap.size, 0, none⟩ = some (.int .u64 (t : Int)) := b1.cell 0
    clear b1 hb1
    go_wp2_with fail
    refine (rwrite_any S g D (4 * ((t : Int) % 2)) z w1 (HD.out.below hb.out) (by omega) (by rw [HZ.out]; unfold maxLen; omega) HUN.out.1 HUN.out.2 (fun k hk => HS.out k (Nat.le_trans hb.out.size hk))).mono ?_
    rintro e w2 ⟨rfl, hd2, hc2⟩
    go_wp2
    go_ret
    exact ⟨rfl, hd2, (Chg.ofNew hb.out).trans hc2⟩

/-- What stands while the reference reads the two sectors. -/
structure RdI (w : World) (g : Nat) (D : Dk) (S' : Nat → Prop) (q : M4) (W : World) : Prop where
  br : Blk W w.heap.size 25 #[.int .u64 0, .int .u32 0, .int .u32 0, .int .u32 0]
  bl : Blk W (w.heap.size + 1) 25 #[.int .u64 (q.1 : Int), .int .u32 (q.2.1 : Int), .int .u32 (q.2.2.1 : Int), .int .u32 (q.2.2.2 : Int)]
  hd : RHeld S' W g D
  bel : Below w.heap.size w W
section
variable {w W W' : World} {g : Nat} {D : Dk} {S' : Nat → Prop} {q : M4}
theorem RdI.below (h : RdI w g D S' q W) (hb : Below W.heap.size W W') : RdI w g D S' q W' :=
  ⟨h.br.below hb h.br.lt, h.bl.below hb h.bl.lt, h.hd.below hb, bl_tr h.bel hb⟩
theorem RdI.last (h : RdI w g D S' q W) (hS : ∀ k, S' k → k < w.heap.size) (p : M4) : RdI w g D S' p (mset4 W (w.heap.size + 1) (.int .u64 (p.1 : Int)) (.int .u32 (p.2.1 : Int)) (.int .u32 (p.2.2.1 : Int)) (.int .u32 (p.2.2.2 : Int))) :=
  ⟨(mset4_block _ _ _ _ _ _ _ (by omega)).trans h.br, h.bl.mset4 _ _ _ _, h.hd.keep (fun k hk hs => mset4_block _ _ _ _ _ _ _ (by have := hS k hs; omega)), below_mset4 h.bel (by omega) _ _ _ _⟩
end

theorem rd_len (D : Dk) (h : DkOk D) (k : Nat) (hk : k < D.S.length) : (D.rd k).length = 64 := by
  unfold Dk.rd
  refine over_length k D.U _ ?_ fun p hp => (h.uns p hp).1
  rw [List.getElem?_eq_getElem hk]
  exact h.sec _ (List.getElem_mem _)

set_option maxRecDepth 100000 in
set_option maxHeartbeats 8000000 in
theorem rmload_any (S : Nat → Prop) (g : Nat) (D : Dk) (w : World) (h : RHeld S w g D) :
    Calls Try.prog 24 #[.pointer (some ⟨g, 0, none⟩)] w fun e w' => e = .returned (loadV D) ∧ Below w.heap.size w w' := by
  obtain ⟨S', hS'⟩ : ∃ S' : Nat → Prop, S' = fun k => S k ∧ k < w.heap.size := ⟨_, rfl⟩
  have hSb : ∀ k, S' k → k < w.heap.size := fun k hk => by rw [hS'] at hk; exact hk.2
  have hH' : RHeld S' w g D := h.sub fun k hk hs => by rw [hS']; exact ⟨hs, hk⟩
  have hok := hH'.ok
  have h0 : RdI w g D S' (0, 0, 0, 0) ((w.alloc (.cells #[.int .u64 0, .int .u32 0, .int .u32 0, .int .u32 0] 25)).alloc (.cells #[.int .u64 0, .int .u32 0, .int .u32 0, .int .u32 0] 25)) := by
    have e1 := Blk.new w 25 #[.int .u64 0, .int .u32 0, .int .u32 0, .int .u32 0]
    have e2 := Blk.new (w.alloc (.cells #[.int .u64 0, .int .u32 0, .int .u32 0, .int .u32 0] 25)) 25 #[.int .u64 0, .int .u32 0, .int .u32 0, .int .u32 0]
    rw [World.size_alloc] at e2
    exact ⟨e1.alloc _, e2, hH'.below (bl_al (bl_al (bl_re w) _) _), bl_al (bl_al (bl_re w) _) _⟩
  have H0 := Lib.hid h0
  have HSB := Lib.hid hSb
  have HOK := Lib.hid hok
  obtain ⟨R0, hR0⟩ : ∃ R0, loadV D = R0 := ⟨_, rfl⟩
  rw [hR0]
  have HR0 := Lib.hid hR0
  clear h hS' hSb hH' hok h0 hR0
  go_enter Try.func24, Try.ntmps24
  go_wp2_with fail
  go_loopw [5, 6, 7, 8, 9] (fun i _ _ _ _ wr => ∃ k : Nat, k ≤ 2 ∧ i = .int .u64 k ∧ (k = 2 → 4 < D.S.length) ∧ RdI w g D S' (D.hl k) wr) (fun i _ _ _ _ _ => 2 - (intOf i).toNat)
  case atStart => exact ⟨0, by omega, rfl, by omega, H0.out⟩
  case round =>
    obtain ⟨k, hk, rfl, hk2, hI⟩ := hrel
    obtain ⟨⟨a0, b0, c0, d0⟩, hl0⟩ : ∃ q, D.hl k = q := ⟨_, rfl⟩
    by_cases hlt : k < 2
    · by_cases hin : 4 * k < D.S.length
      · have hrd := rread_ok S' g D (4 * k) wr hI.hd hin
        have hln := rd_len D HOK.out (4 * k) hin
        have hdec := fun W => rmdecode_any (mk (D.rd (4 * k))) W (by rw [mk_size, hln]; unfold maxLen; omega)
        rw [mk_toList] at hdec
        have hhl : D.hl (k + 1) = if (D.hl k).1 < (D.hm k).1 then D.hm k else D.hl k := rfl
        have hhm : D.hm k = if (mdec4 (D.rd (4 * k))).1 % 2 = k then mdec4 (D.rd (4 * k)) else (0, 0, 0, 0) := rfl
        rw [hl0] at hhl hI
        obtain ⟨L, hL⟩ : ∃ L, D.rd (4 * k) = L := ⟨_, rfl⟩
        rw [hL] at hrd hdec hhm
        obtain ⟨z, hz⟩ : ∃ z, mk L = z := ⟨_, rfl⟩
        rw [hz] at hrd hdec
        rw [show ((4 * k : Nat) : Int) = 4 * (k : Int) by omega] at hrd
        have i1 : IntKind.i64.wrap (k : Int) = k := IntWalk.i64_in _ (by omega)
        have i2 : IntKind.i64.wrap (4 * (k : Int)) = 4 * (k : Int) := IntWalk.i64_in _ (by omega)
        have i3 : (k : Int) < 2 := by omega
        have hk3 : k + 1 = 2 → 4 < D.S.length := fun e => by omega
        have HK3 := Lib.hid hk3
        have HRD := Lib.hid hrd
        have HI := Lib.hid hI
        clear hrd hI hl0 hL hz hln hk2 hk3
        unfold mdecV metaV metaZ at hdec
        unfold mdec4 at hhm
        by_cases hd : mDecB L = true
        · rw [if_pos hd] at hhm
          simp only [if_pos hd] at hdec
          obtain ⟨t, ht⟩ : ∃ t, mTx L = t := ⟨_, rfl⟩
          obtain ⟨r, hr⟩ : ∃ r, mRoot L = r := ⟨_, rfl⟩
          obtain ⟨hh, hhe⟩ : ∃ r, mHigh L = r := ⟨_, rfl⟩
          obtain ⟨f, hf⟩ : ∃ r, mFree L = r := ⟨_, rfl⟩
          rw [ht, hr, hhe, hf] at hhm hdec
          have HDE := Lib.hid hdec
          clear hdec hd ht hr hhe hf
          by_cases htk : t % 2 = k
          · rw [if_pos htk] at hhm
            rw [hhm] at hhl
            by_cases hgt : a0 < t
            · rw [if_pos hgt] at hhl
              have HHL := Lib.hid hhl
              have d1 : ((t : Int) % 2 == (k : Int)) = true := by simp; omega
              have d2 : (a0 : Int) < (t : Int) := by omega
              clear hhm hhl htk
              go_wp2_with fail
              refine HRD.out.mono ?_
              rintro e w1 ⟨rfl, hb1⟩
              have I1 := Lib.hid (HI.out.below hb1)
              clear hb1
              go_wp2_with fail
              refine (HDE.out _).mono ?_
              rintro e w2 ⟨rfl, hb2⟩
              have hI2 := I1.out.below hb2
              clear hb2
              have r0 : w2.cell? ⟨w.heap.size + 1, 0, none⟩ = some (.int .u64 (a0 : Int)) := hI2.bl.cell 0
              have r1 : w2.cell? ⟨w.heap.size + 1, 1, none⟩ = some (.int .u32 (b0 : Int)) := hI2.bl.cell 1
              have r2 : w2.cell? ⟨w.heap.size + 1, 2, none⟩ = some (.int .u32 (c0 : Int)) := hI2.bl.cell 2
              have r3 : w2.cell? ⟨w.heap.size + 1, 3, none⟩ = some (.int .u32 (d0 : Int)) := hI2.bl.cell 3
              have f0 := hI2.bl.frozen 0
              have f1 := hI2.bl.frozen 1
              have f2 := hI2.bl.frozen 2
              have f3 := hI2.bl.frozen 3
              have l1 : w.heap.size + 1 < w2.heap.size := hI2.bl.lt
              have I2 := Lib.hid hI2
              clear hI2
              go_wp2_with fail
              refine ⟨⟨k + 1, by omega, by go_num, HK3.out, ?_⟩, by simp [intOf]; omega⟩
              rw [HHL.out]
              exact (I2.out.last HSB.out (t, r, hh, f)).below (bl_al (bl_re _) _)
            · rw [if_neg hgt] at hhl
              have HHL := Lib.hid hhl
              have d1 : ((t : Int) % 2 == (k : Int)) = true := by simp; omega
              have d2 : ¬ (a0 : Int) < (t : Int) := by omega
              clear hhm hhl htk
              go_wp2_with fail
              refine HRD.out.mono ?_
              rintro e w1 ⟨rfl, hb1⟩
              have I1 := Lib.hid (HI.out.below hb1)
              clear hb1
              go_wp2_with fail
              refine (HDE.out _).mono ?_
              rintro e w2 ⟨rfl, hb2⟩
              have hI2 := I1.out.below hb2
              clear hb2
              have r0 : w2.cell? ⟨w.heap.size + 1, 0, none⟩ = some (.int .u64 (a0 : Int)) := hI2.bl.cell 0
              have l1 : w.heap.size + 1 < w2.heap.size := hI2.bl.lt
              have I2 := Lib.hid hI2
              clear hI2
              go_wp2_with fail
              refine ⟨⟨k + 1, by omega, by go_num, HK3.out, ?_⟩, by simp [intOf]; omega⟩
              rw [HHL.out]
              exact I2.out.below (bl_al (bl_re w2) _)
          · rw [if_neg htk] at hhm
            rw [hhm, if_neg (by simp)] at hhl
            have HHL := Lib.hid hhl
            have d1 : ((t : Int) % 2 == (k : Int)) = false := by simp; omega
            clear hhm hhl htk
            go_wp2_with fail
            refine HRD.out.mono ?_
            rintro e w1 ⟨rfl, hb1⟩
            have I1 := Lib.hid (HI.out.below hb1)
            clear hb1
            go_wp2_with fail
            refine (HDE.out _).mono ?_
            rintro e w2 ⟨rfl, hb2⟩
            have I2 := Lib.hid (I1.out.below hb2)
            clear hb2
            go_wp2_with fail
            refine ⟨⟨k + 1, by omega, by go_num, HK3.out, ?_⟩, by simp [intOf]; omega⟩
            rw [HHL.out]
            exact I2.out.below (bl_al (bl_re w2) _)
        · rw [if_neg hd] at hhm
          simp only [if_neg hd] at hdec
          have hm0 : D.hm k = (0, 0, 0, 0) := by rw [hhm]; split <;> rfl
          rw [hm0, if_neg (by simp)] at hhl
          have HHL := Lib.hid hhl
          have HDE := Lib.hid hdec
          clear hhm hhl hdec hd hm0
          go_wp2_with fail
          refine HRD.out.mono ?_
          rintro e w1 ⟨rfl, hb1⟩
          have I1 := Lib.hid (HI.out.below hb1)
          clear hb1
          go_wp2_with fail
          refine (HDE.out _).mono ?_
          rintro e w2 ⟨rfl, hb2⟩
          have I2 := Lib.hid (I1.out.below hb2)
          clear hb2
          go_wp2_with fail
          refine ⟨⟨k + 1, by omega, by go_num, HK3.out, ?_⟩, by simp [intOf]; omega⟩
          rw [HHL.out]
          exact I2.out.below (bl_al (bl_re w2) _)
      · have hk1 : k = 1 := by have := HOK.out.one; omega
        subst hk1
        have hrd := rread_far S' g D 4 wr hI.hd (.inr (by omega))
        have HRD := Lib.hid hrd
        have HI := Lib.hid hI
        have HIN := Lib.hid hin
        have i1 : IntKind.i64.wrap (1 : Int) = 1 := IntWalk.i64_in _ (by omega)
        clear hrd hI hin hk2 hl0
        go_wp2_with fail
        refine HRD.out.mono ?_
        rintro e w1 ⟨rfl, hb1⟩
        have hI1 := HI.out.below hb1
        clear hb1
        have c0 : w1.cell? ⟨w.heap.size, 0, none⟩ = some (.int .u64 0) := hI1.br.cell 0
        have c1 : w1.cell? ⟨w.heap.size, 1, none⟩ = some (.int .u32 0) := hI1.br.cell 1
        have c2 : w1.cell? ⟨w.heap.size, 2, none⟩ = some (.int .u32 0) := hI1.br.cell 2
        have c3 : w1.cell? ⟨w.heap.size, 3, none⟩ = some (.int .u32 0) := hI1.br.cell 3
        have f0 := hI1.br.frozen 0
        have f1 := hI1.br.frozen 1
        have f2 := hI1.br.frozen 2
        have f3 := hI1.br.frozen 3
        have I1 := Lib.hid hI1
        clear hI1
        go_wp2
        exact post_meta (v0 := .int .u64 0) (v1 := .int .u32 0) (v2 := .int .u32 0) (v3 := .int .u32 0) rfl I1.out.br rfl rfl rfl ⟨by rw [← HR0.out]; unfold loadV; rw [if_neg (by have := HIN.out; omega)]; rfl, below_mset4 I1.out.bel (Nat.le_refl _) _ _ _ _⟩
    · obtain rfl : k = 2 := by omega
      have i3 : ¬ ((2 : Nat) : Int) < 2 := by omega
      have hz2 := hl_zero D 2
      have hR : (if a0 = 0 then Value.tuple #[metaZ, .int .i64 40] else .tuple #[metaV a0 b0 c0 d0, .int .i64 0]) = R0 := by
        rw [← HR0.out]; unfold loadV; rw [if_pos (hk2 rfl)]; unfold mloadV; rw [hl0]; rfl
      rw [hl0] at hI hz2
      have HR := Lib.hid hR
      have c0' : wr.cell? ⟨w.heap.size, 0, none⟩ = some (.int .u64 0) := hI.br.cell 0
      have c1 : wr.cell? ⟨w.heap.size, 1, none⟩ = some (.int .u32 0) := hI.br.cell 1
      have c2 : wr.cell? ⟨w.heap.size, 2, none⟩ = some (.int .u32 0) := hI.br.cell 2
      have c3 : wr.cell? ⟨w.heap.size, 3, none⟩ = some (.int .u32 0) := hI.br.cell 3
      have f0 := hI.br.frozen 0
      have f1 := hI.br.frozen 1
      have f2 := hI.br.frozen 2
      have f3 := hI.br.frozen 3
      have r0 : wr.cell? ⟨w.heap.size + 1, 0, none⟩ = some (.int .u64 (a0 : Int)) := hI.bl.cell 0
      have r1 : wr.cell? ⟨w.heap.size + 1, 1, none⟩ = some (.int .u32 (b0 : Int)) := hI.bl.cell 1
      have r2 : wr.cell? ⟨w.heap.size + 1, 2, none⟩ = some (.int .u32 (c0 : Int)) := hI.bl.cell 2
      have r3 : wr.cell? ⟨w.heap.size + 1, 3, none⟩ = some (.int .u32 (d0 : Int)) := hI.bl.cell 3
      have HI := Lib.hid hI
      clear hI hk2 hl0 hR
      by_cases ha : a0 = 0
      · have hq := hz2 ha
        simp only [Prod.mk.injEq] at hq
        obtain ⟨rfl, rfl, rfl, rfl⟩ := hq
        rw [if_pos rfl] at HR
        clear hz2 ha
        go_wp2
        exact post_meta (v0 := .int .u64 0) (v1 := .int .u32 0) (v2 := .int .u32 0) (v3 := .int .u32 0) rfl HI.out.br rfl rfl rfl ⟨by rw [← HR.out]; rfl, below_mset4 HI.out.bel (Nat.le_refl _) _ _ _ _⟩
      · rw [if_neg ha] at HR
        have d1 : ((a0 : Int) == 0) = false := by simp [ha]
        have d2 : ¬ (a0 : Int) = 0 := by omega
        clear hz2
        go_wp2
        exact post_meta (v0 := .int .u64 (a0 : Int)) (v1 := .int .u32 (b0 : Int)) (v2 := .int .u32 (c0 : Int)) (v3 := .int .u32 (d0 : Int)) rfl HI.out.br rfl rfl rfl ⟨by rw [← HR.out]; rfl, below_mset4 HI.out.bel (Nat.le_refl _) _ _ _ _⟩
end Go.Proofs.Ytdaoiimjflplhaa
