/- package bazaarref01: Sync, Crash. -/
import Derived.Test.YtmbjbckjfkijmaaRDskC
namespace Go.Proofs.Ytmbjbckjfkijmaa
open Go.RowKit Go.Shelf
attribute [local go_sem] Oper.semAt_some
attribute [local go_sem ↓] Go.wp_at_zero Go.wp_at_succ

theorem put_all (S : List (List UInt8)) (p : Nat × List UInt8) (hp : p.2.length = 64) (hS : ∀ s ∈ S, s.length = 64) (hlt : p.1 < S.length) : Dk.put S p 64 = S.set p.1 p.2 := by
  unfold Dk.put
  rw [List.getElem?_eq_getElem hlt, Option.getD_some, List.take_of_length_le (by omega), List.drop_eq_nil_of_le (by rw [hS _ (List.getElem_mem hlt)]; exact Nat.le_refl _), List.append_nil]
theorem put_sec (S : List (List UInt8)) (p : Nat × List UInt8) (n : Nat) (hp : p.2.length = 64) (hn : n ≤ 64) (hS : ∀ s ∈ S, s.length = 64) (hlt : p.1 < S.length) : ∀ s ∈ Dk.put S p n, s.length = 64 := by
  intro s hs
  unfold Dk.put at hs
  rcases List.mem_or_eq_of_mem_set hs with hs | rfl
  · exact hS s hs
  · rw [List.getElem?_eq_getElem hlt, Option.getD_some, List.length_append, List.length_take, List.length_drop, hS _ (List.getElem_mem hlt), hp]
    omega
theorem puts_sec : ∀ (U : List (Nat × List UInt8)) (ks : List Nat) (S : List (List UInt8)), (∀ p ∈ U, p.2.length = 64 ∧ p.1 < S.length) → (∀ k ∈ ks, k ≤ 64) → (∀ s ∈ S, s.length = 64) → ∀ s ∈ Dk.puts S U ks, s.length = 64
  | [], _, S, _, _, h => h
  | _ :: _, [], S, _, _, h => h
  | p :: U, n :: ks, S, hU, hk, h => by
    simp only [Dk.puts]
    have hp := hU p (List.mem_cons_self ..)
    have hpl : (Dk.put S p n).length = S.length := by simp [Dk.put]
    exact puts_sec U ks _ (fun q hq => by rw [hpl]; exact hU q (List.mem_cons_of_mem _ hq)) (fun k h => hk k (List.mem_cons_of_mem _ h)) (put_sec S p n hp.1 (hk n (List.mem_cons_self ..)) h hp.2)
theorem upto_sec (D : Dk) (h : DkOk D) (ks : List Nat) (hk : ∀ k ∈ ks, k ≤ 64) (k : Nat) : ∀ s ∈ D.upto ks k, s.length = 64 :=
  puts_sec _ _ _ (fun p hp => h.uns p (List.mem_of_mem_take hp)) (fun n hn => hk n (List.mem_of_mem_take hn)) h.sec

set_option maxRecDepth 100000 in
set_option maxHeartbeats 2000000 in
theorem rsync_any (S : Nat → Prop) (g : Nat) (D : Dk) (w : World) (h : RHeld S w g D) (hN : D.N < 1000000) :
    Calls Try.prog 47 #[.pointer (some ⟨g, 0, none⟩)] w fun e w' => e = .returned (.tuple #[]) ∧
      RHeld S w' g { S := Dk.puts D.S D.U (List.replicate D.U.length 64), U := [], N := D.N + 1 } ∧ Chg S w w' := by
  obtain ⟨hok, v1, v2, v3, h⟩ := h
  have hmost := hok.most
  have hfew := hok.few
  obtain ⟨so1, c1, rfl⟩ := own_slice h.o1
  have o2 := h.o2
  have o3 := h.o3
  rw [List.length_map] at o2 o3
  obtain ⟨so2, c2, rfl⟩ := own_slice o2
  obtain ⟨so3, c3, rfl⟩ := own_slice o3
  obtain ⟨b1, rfl, x1, x2⟩ := own_cell h.o1 0 _ (by rw [strs_get, List.getElem?_eq_getElem (show 0 < D.S.length from hok.one)]; rfl)
  have HH := Lib.hid (And.intro hok h)
  clear h o2 o3
  obtain ⟨ks, hks⟩ : ∃ ks, List.replicate D.U.length 64 = ks := ⟨_, rfl⟩
  have hkl : ks.length = D.U.length := by rw [← hks, List.length_replicate]
  have HK := Lib.hid (And.intro hks hkl)
  obtain ⟨nU, hnU⟩ : ∃ nU, D.U.length = nU := ⟨_, rfl⟩
  obtain ⟨nS, hnS⟩ : ∃ nS, D.S.length = nS := ⟨_, rfl⟩
  have HL := Lib.hid (And.intro hnU hnS)
  rw [hnU] at hfew HH
  rw [hnS] at hmost HH
  clear hks hkl x1 x2 hok hnU hnS
  go_enter Try.func47, Try.ntmps47
  go_wp2
  go_loopw [2] (fun i wr => ∃ k : Nat, k ≤ nU ∧ i = .int .i64 k ∧ RAt S wr g (.slice (some ⟨b1, 0, none⟩) nS c1) (.slice so2 nU c2) (.slice so3 nU c3) (D.upto ks k) (D.U.map (·.1)) (D.U.map (·.2)) D.N ∧ Chg S w wr) (fun i _ => nU - (intOf i).toNat)
  case atStart =>
    refine ⟨0, by omega, rfl, ?_, Chg.refl _ _⟩
    exact HH.out.2
  case round =>
    obtain ⟨k, hk, rfl, hrest⟩ := hrel
    have HR := Lib.hid hrest
    clear hrest
    have q0 : wr.cell? ⟨g, 0, none⟩ = some (.slice (some ⟨b1, 0, none⟩) nS c1) := HR.out.1.blk.cell 0
    have q1 : wr.cell? ⟨g, 1, none⟩ = some (.slice so2 nU c2) := HR.out.1.blk.cell 1
    have q2 : wr.cell? ⟨g, 2, none⟩ = some (.slice so3 nU c3) := HR.out.1.blk.cell 2
    by_cases hlt : k < nU
    · have hkU : k < D.U.length := by rw [HL.out.1]; exact hlt
      obtain ⟨p, hp⟩ : ∃ p, D.U[k] = p := ⟨_, rfl⟩
      have hm : D.U[k]? = some p := by rw [List.getElem?_eq_getElem hkU, hp]
      obtain ⟨hp64, hp1⟩ := HH.out.1.uns p (List.mem_of_getElem? hm)
      rw [HL.out.2] at hp1
      have hul := upto_length D ks k
      rw [HL.out.2] at hul
      obtain ⟨b2, rfl, s1, _⟩ := own_cell (by have := HR.out.1.o2; rw [List.length_map, HL.out.1] at this; exact this) k (.int .i64 (p.1 : Int)) (by rw [nats_get, List.getElem?_map, hm]; rfl)
      obtain ⟨b3, rfl, s2, _⟩ := own_cell (by have := HR.out.1.o3; rw [List.length_map, HL.out.1] at this; exact this) k (tx p.2) (by rw [strs_get, List.getElem?_map, hm]; rfl)
      obtain ⟨old, hold⟩ : ∃ old, (D.upto ks k)[p.1]? = some old := ⟨_, List.getElem?_eq_getElem (by rw [hul]; exact hp1)⟩
      obtain ⟨_, hb, s3, s4⟩ := own_cell (by have := HR.out.1.o1; rw [hul] at this; exact this) p.1 (tx old) (by rw [strs_get, hold]; rfl)
      obtain rfl : b1 = _ := by injection (Option.some.inj hb)
      have hnext : D.upto ks (k + 1) = (D.upto ks k).set p.1 p.2 := by
        rw [upto_snoc D ks k hkU (by rw [HK.out.2]; exact hkU), hp]
        have h64 : ks[k]'(by rw [HK.out.2]; exact hkU) = 64 := by
          have := HK.out.1
          subst this
          rw [List.getElem_replicate]
        rw [h64]
        exact put_all _ p hp64 (upto_sec D HH.out.1 ks (fun n hn => by rw [← HK.out.1] at hn; rw [List.eq_of_mem_replicate hn]; exact Nat.le_refl _) k) (by rw [hul]; exact hp1)
      have HP := Lib.hid (And.intro hnext hul)
      clear hnext hold hb hm hp hp64 hul hkU
      have i1 : (0 : Int) ≤ (k : Int) := Int.natCast_nonneg _
      have i2 : (k : Int) < (nU : Int) := by omega
      have i3 : (0 : Int) ≤ (p.1 : Int) := Int.natCast_nonneg _
      have i4 : (p.1 : Int) < (nS : Int) := by omega
      obtain ⟨pn, hpn⟩ : ∃ pn, p.1 = pn := ⟨_, rfl⟩
      have HPP := Lib.hid hpn
      rw [hpn] at s1 s3 s4 i3 i4
      clear hpn hp1
      go_wp2_with fail
      go_region
      all_goals
        go_wp2
        have hr := (HR.out.1.sector (by rw [HP.out.2]) pn p.2).drew
        refine ⟨⟨k + 1, by omega, by go_num, ?_, ?_⟩, by simp [intOf]; omega⟩
        · rw [HP.out.1, HPP.out]
          exact hr
        · exact (HR.out.2.trans (Chg.ofSetCell _ _ _ (HR.out.1.s1 b1 rfl))).trans (Chg.ofNew (bl_dr (bl_re _)))
    · obtain rfl : k = nU := by omega
      have q3 : wr.cell? ⟨g, 3, none⟩ = some (.int .i64 (D.N : Int)) := HR.out.1.blk.cell 3
      have f1 := HR.out.1.blk.frozen 1
      have f2 := HR.out.1.blk.frozen 2
      have f3 := HR.out.1.blk.frozen 3
      go_wp2
      go_end0
      have hr := ((HR.out.1.clear2).clear3).count (D.N + 1)
      have hup : D.upto ks k = Dk.puts D.S D.U (List.replicate D.U.length 64) := by
        have := upto_all D ks (by rw [HK.out.2]; exact Nat.le_refl _)
        rw [HL.out.1] at this
        rw [this, HK.out.1]
      rw [hup] at hr
      have hok := HH.out.1
      refine ⟨rfl, ⟨⟨?_, ?_, ?_, by simp, by simp, by show D.N + 1 ≤ 1000000; omega⟩, _, _, _, hr⟩, HR.out.2.trans (((Chg.ofSetCell _ _ _ HR.out.1.sg).trans (Chg.ofSetCell _ _ _ HR.out.1.sg)).trans (Chg.ofSetCell _ _ _ HR.out.1.sg))⟩
      · show 1 ≤ (Dk.puts _ _ _).length
        rw [puts_length]; exact hok.one
      · show (Dk.puts _ _ _).length ≤ _
        rw [puts_length]; exact hok.most
      · exact puts_sec _ _ _ hok.uns (fun n hn => by rw [List.eq_of_mem_replicate hn]; exact Nat.le_refl _) hok.sec
end Go.Proofs.Ytmbjbckjfkijmaa
