/- package bazaarref01: Write. -/
import Derived.Test.YtdaoiimjflplhaaRDskA
namespace Go.Proofs.Ytdaoiimjflplhaa
open Go.RowKit Go.Shelf
attribute [local go_sem] Oper.semAt_some
attribute [local go_sem ↓] Go.wp_at_zero Go.wp_at_succ

theorem zeros_at (x : Int) (n : Nat) (w : World) (hx : x = n) (hn : n ≤ 64) : Calls Try.prog 35 #[.int .i64 x] w fun e w' => e = .returned (.string (mk (List.replicate n 0))) ∧ Below w.heap.size w w' := by
  subst hx
  exact zeros_any n w hn

theorem pad_text (s : ByteArray) : s ++ mk (List.replicate (64 - s.size) 0) = mk (pad s.data.toList) := by
  refine ba_ext ?_
  rw [ba_append, mk_toList, mk_toList]
  unfold pad
  rw [ba_length]

section
variable {S : Nat → Prop} {g : Nat} {v1 v2 v3 : Value} {Ss : List (List UInt8)} {Ws : List Nat} {Bs : List (List UInt8)} {N : Nat}
set_option maxRecDepth 100000 in
set_option maxHeartbeats 1000000 in
theorem rwrite_far (at_ : Int) (s : ByteArray) (w : World) (h : RAt S w g v1 v2 v3 Ss Ws Bs N) (hno : at_ < 0 ∨ (Ss.length : Int) ≤ at_) :
    Calls Try.prog 22 #[.pointer (some ⟨g, 0, none⟩), .int .i64 at_, .string s] w fun e w' => e = .returned (.int .i64 10) ∧ Below w.heap.size w w' := by
  obtain ⟨so, cap, rfl⟩ := own_slice h.o1
  have q0 : w.cell? ⟨g, 0, none⟩ = some (.slice so Ss.length cap) := h.blk.cell 0
  clear h
  by_cases h0 : at_ < 0
  · have h1 : decide (at_ < 0) = true := decide_eq_true h0
    go_enter Try.func22, Try.ntmps22
    go_wp2
    go_ret
    exact ⟨rfl, bl_re _⟩
  · have h1 : decide (at_ < 0) = false := decide_eq_false h0
    have h2 : (Ss.length : Int) ≤ at_ := hno.resolve_left h0
    have h3 : decide (at_ ≥ (Ss.length : Int)) = true := decide_eq_true h2
    go_enter Try.func22, Try.ntmps22
    go_wp2
    go_ret
    exact ⟨rfl, bl_re _⟩

set_option maxRecDepth 100000 in
set_option maxHeartbeats 1000000 in
theorem rwrite_long (i : Nat) (s : ByteArray) (w : World) (h : RAt S w g v1 v2 v3 Ss Ws Bs N) (hi : i < Ss.length) (hs : 64 < s.size) (hm : s.size ≤ maxLen) :
    Calls Try.prog 22 #[.pointer (some ⟨g, 0, none⟩), .int .i64 i, .string s] w fun e w' => e = .returned (.int .i64 2) ∧ Below w.heap.size w w' := by
  unfold maxLen at hm
  obtain ⟨so, cap, rfl⟩ := own_slice h.o1
  have q0 : w.cell? ⟨g, 0, none⟩ = some (.slice so Ss.length cap) := h.blk.cell 0
  clear h
  have h1 : decide ((i : Int) < 0) = false := decide_eq_false (by omega)
  have h3 : decide ((i : Int) ≥ (Ss.length : Int)) = false := decide_eq_false (by omega)
  have h4 : ¬ (Ss.length : Int) ≤ (i : Int) := by omega
  go_enter Try.func22, Try.ntmps22
  go_wp2
  go_ret
  exact ⟨rfl, bl_re _⟩

set_option maxRecDepth 100000 in
set_option maxHeartbeats 2000000 in
theorem rwrite_ok (i : Nat) (s : ByteArray) (w : World) (h : RAt S w g v1 v2 v3 Ss Ws Bs N) (hi : i < Ss.length) (hs : s.size ≤ 64) (hlen : Ss.length ≤ 65536) (hW : Ws.length < 1000000) (hB : Bs.length < 1000000) (hN : N < 1000000) (hS : ∀ k, w.heap.size ≤ k → S k) :
    Calls Try.prog 22 #[.pointer (some ⟨g, 0, none⟩), .int .i64 i, .string s] w fun e w' => e = .returned (.int .i64 0) ∧ (∃ v2' v3', RAt S w' g v1 v2' v3' Ss (Ws ++ [i]) (Bs ++ [pad s.data.toList]) (N + 1)) ∧ Chg S w w' := by
  obtain ⟨so1, c1, rfl⟩ := own_slice h.o1
  obtain ⟨so2, c2, rfl⟩ := own_slice h.o2
  obtain ⟨so3, c3, rfl⟩ := own_slice h.o3
  have q0 : w.cell? ⟨g, 0, none⟩ = some (.slice so1 Ss.length c1) := h.blk.cell 0
  have q1 : w.cell? ⟨g, 1, none⟩ = some (.slice so2 Ws.length c2) := h.blk.cell 1
  have h1 : decide ((i : Int) < 0) = false := decide_eq_false (by omega)
  have h3 : decide ((i : Int) ≥ (Ss.length : Int)) = false := decide_eq_false (by omega)
  have h4 : ¬ (Ss.length : Int) ≤ (i : Int) := by omega
  obtain ⟨j0, hi0, hz0, hz1, hz2⟩ := info_parts rinfo_int
  obtain ⟨i0, ki0, kz0, kz1, kz2⟩ := info_parts rinfo_str
  have HI := Lib.hid (And.intro hz1 (And.intro hz2 (And.intro kz1 kz2)))
  have HH := Lib.hid h
  have HS := Lib.hid hS
  obtain ⟨zs, hzs⟩ : ∃ zs, mk (List.replicate (64 - s.size) 0) = zs := ⟨_, rfl⟩
  have hwr : IntKind.i64.wrap (64 - (s.size : Int)) = 64 - (s.size : Int) := IntWalk.i64_in _ (by omega)
  have hzl : s.size + zs.size = 64 := by rw [← hzs, mk_size, List.length_replicate]; omega
  have HP := Lib.hid (And.intro (pad_text s) hzs)
  clear hz1 hz2 kz1 kz2 h hS hi hlen
  generalize hnW : Ws.length = nW at *
  generalize hnB : Bs.length = nB at *
  generalize hnS : Ss.length = nS at *
  go_enter Try.func22, Try.ntmps22
  go_wp2_with (at_builtin
               refine wpList_append_lies _ rfl (.tmp 25) (.tmp 27) 51 rfl 0 3 j0 (.int .i64 0) 1 8 Try.underlying51 hi0 hz0 HI.out.1 HI.out.2.1 rfl (by omega) (.slice so2 nW c2) nW (nats Ws) rfl (by have := HH.out.o2.alloc (.cells #[.int .i64 (i : Int)] 3); rw [hnW] at this; exact this) ⟨w.heap.size, 0, none⟩ 1 1 [.int .i64 (i : Int)] rfl rfl
                 (World.news_of_block (cs := #[.int .i64 (i : Int)]) (t := 3) (fr := (0, 0)) (heap_alloc_new _ _)) (by simp [Value.oneCell']) (by omega) (by unfold maxLen; omega) (by omega) (Nat.zero_le _) (w.heap.size + 1) (by simp) ?_
               intro a c w7 hown hgrow hat hlt7
               have KB := Lib.hid (And.intro hown (And.intro hgrow hat))
               have bb := (HH.out.blk.alloc (.cells #[.int .i64 (i : Int)] 3)).grown hgrow (fun e => HH.out.n2 e.symm)
               have p1 : w7.cell? ⟨g, 1, none⟩ = some (.slice so2 nW c2) := bb.cell 1
               have p2 := bb.frozen 1
               clear hown hgrow hat bb)
  obtain ⟨hown, hgrow, hat⟩ := KB.out
  have hr := (HH.out.alloc (.cells #[.int .i64 (i : Int)] 3)).push2 (n := nW + 1) i (by omega) hown hgrow hat (by simp) (fun j hj => HS.out j (by simp at hj; omega))
  have hcA : Chg S w (w7.setCell ⟨g, 1, none⟩ (.slice (some ⟨a, 0, none⟩) (nW + 1) c)) := (Chg.ofNew (bl_al (bl_re w) _)).trans (chg_push hgrow HH.out.s2 HH.out.sg _)
  obtain ⟨wA, hwA⟩ : ∃ wA, w7.setCell ⟨g, 1, none⟩ (.slice (some ⟨a, 0, none⟩) (nW + 1) c) = wA := ⟨_, rfl⟩
  rw [hwA] at hr hcA
  rw [hwA]
  have e0 : wA.cell? ⟨g, 2, none⟩ = some (.slice so3 nB c3) := hr.blk.cell 2
  have hgA := hr.lt
  have HA := Lib.hid (And.intro hr hcA)
  clear hown hgrow hat KB hwA p1 p2 q0 q1 hr hcA hlt7
  go_region_law (first
    | (refine step_append_lies _ (by rfl) _ _ _ (by rfl) 0 9 i0 (.string ⟨#[]⟩) 1 16 Try.underlying35 ki0 kz0 HI.out.2.2.1 HI.out.2.2.2 (by rfl) (by omega) (.slice so3 nB c3) nB (strs Bs) (by rfl)
        (by have := ((HA.out.1.drew).below hb2).o3.alloc (.cells #[.string (s ++ zs)] 9); rw [hnB] at this; exact this) ⟨w2.heap.size, 0, none⟩ 1 1 [.string (s ++ zs)] (by rfl) (by rfl) (World.news_of_block (cs := #[.string (s ++ zs)]) (heap_alloc_new w2 _)) (by simp [Value.oneCell']) (by omega) (by unfold maxLen; omega) (by omega) (Nat.zero_le _) (w2.heap.size + 1) (by simp) ?_
       intro gg cap' w3 hown hgrow hat hlt3
       have bb := ((HA.out.1.drew.below hb2).blk.alloc (.cells #[.string (s ++ zs)] 9)).grown hgrow (fun e => HA.out.1.n3 e.symm)
       have p1 : w3.cell? ⟨g, 2, none⟩ = some (.slice so3 nB c3) := bb.cell 2
       have p2 := bb.frozen 2
       have p3 : w3.cell? ⟨g, 3, none⟩ = some (.int .i64 (N : Int)) := bb.cell 3
       have p4 := bb.frozen 3
       have HE := Lib.hid (And.intro hown (And.intro hgrow (And.intro hat hb2)))
       clear hown hgrow hat hlt3 bb)
    | (go_simp; go_at_call 35; refine (zeros_at _ (64 - s.size) _ (by omega) (by omega)).mono ?_; rw [hzs]; rintro e w2 ⟨rfl, hb2⟩; have d2 := (hb2.cell (p := ⟨g, 2, none⟩) hgA).trans e0; have d3 := (World.cell?_alloc_lt w2 (.cells #[.string (s ++ zs)] 9) _ (World.block_lt_of_cell? _ _ d2)).trans d2))
  all_goals
    clear d2 d3 e0
    go_wp2
    go_ret
    obtain ⟨hr, hcA⟩ := HA.out
    obtain ⟨hown, hgrow, hat, hb2⟩ := HE.out
    have hsA := hcA.size
    have hs2 := hb2.size
    have hs2' : wA.heap.size ≤ w2.heap.size := hs2
    have e5 := ((hr.drew.below hb2).alloc (.cells #[.string (s ++ zs)] 9)).push3 (n := nB + 1) (pad s.data.toList) (by omega) (by rw [← HP.out.2, HP.out.1] at hown; exact hown) hgrow hat (by simp) (fun j hj => HS.out j (by simp at hj; omega))
    refine ⟨rfl, ⟨_, _, e5.count (N + 1)⟩, ?_⟩
    exact (hcA.trans (Chg.ofNew (bl_dr (bl_re wA)))).trans (((Chg.ofNew hb2).trans (Chg.ofNew (bl_al (bl_re w2) _))).trans ((chg_push hgrow hr.s3 hr.sg _).trans (Chg.ofSetCell _ _ _ hr.sg)))
end

/-- Write of the reference. -/
theorem rwrite_any (S : Nat → Prop) (g : Nat) (D : Dk) (at_ : Int) (s : ByteArray) (w : World) (h : RHeld S w g D) (hat : -9223372036854775808 ≤ at_ ∧ at_ ≤ 9223372036854775807) (hm : s.size ≤ maxLen) (hU : D.U.length < 1000000) (hN : D.N < 1000000) (hS : ∀ k, w.heap.size ≤ k → S k) :
    Calls Try.prog 22 #[.pointer (some ⟨g, 0, none⟩), .int .i64 at_, .string s] w fun e w' => e = .returned (.int .i64 (D.write at_ s.data.toList).1) ∧ RHeld S w' g (D.write at_ s.data.toList).2 ∧ Chg S w w' := by
  have hl := ba_length s
  obtain ⟨hok, v1, v2, v3, hr⟩ := h
  have hmost := hok.most
  rcases D.chk_or at_ with hc | ⟨hc, h0, h1⟩
  · have e : D.write at_ s.data.toList = (10, D) := by unfold Dk.write; rw [if_pos (by rw [hc]; decide)]
    rw [e]
    have hno : at_ < 0 ∨ (D.S.length : Int) ≤ at_ := by
      unfold Dk.chk at hc
      by_cases x : 0 ≤ at_ ∧ at_ < D.S.length
      · rw [if_pos x] at hc; cases hc
      · omega
    refine (rwrite_far at_ s w hr hno).mono ?_
    rintro e w' ⟨rfl, hb⟩
    exact ⟨rfl, ⟨hok, v1, v2, v3, hr.below hb⟩, Chg.ofNew hb⟩
  · obtain ⟨i, rfl⟩ : ∃ i : Nat, at_ = i := ⟨at_.toNat, by omega⟩
    by_cases hs : 64 < s.size
    · have e : D.write i s.data.toList = (2, D) := by unfold Dk.write; rw [if_neg (by rw [hc]; decide), if_pos (by omega)]
      rw [e]
      refine (rwrite_long i s w hr (by omega) hs hm).mono ?_
      rintro e w' ⟨rfl, hb⟩
      exact ⟨rfl, ⟨hok, v1, v2, v3, hr.below hb⟩, Chg.ofNew hb⟩
    · have e : D.write i s.data.toList = (0, { D with U := D.U ++ [(i, pad s.data.toList)], N := D.N + 1 }) := by unfold Dk.write; rw [if_neg (by rw [hc]; decide), if_neg (by omega)]; rfl
      rw [e]
      refine (rwrite_ok i s w hr (by omega) (by omega) hmost (by simpa using hU) (by simpa using hU) hN hS).mono ?_
      rintro e w' ⟨rfl, ⟨v2', v3', hr'⟩, hcg⟩
      refine ⟨rfl, ⟨⟨hok.one, hok.most, hok.sec, ?_, ?_, ?_⟩, v1, v2', v3', by simpa using hr'⟩, hcg⟩
      · intro p hp
        rcases List.mem_append.1 hp with hp | hp
        · exact hok.uns p hp
        · obtain rfl := List.mem_singleton.1 hp
          exact ⟨pad_length _ (by omega), by show i < D.S.length; omega⟩
      · show (D.U ++ _).length ≤ 1000000
        rw [List.length_append]; simp; omega
      · show D.N + 1 ≤ 1000000
        omega
end Go.Proofs.Ytdaoiimjflplhaa
