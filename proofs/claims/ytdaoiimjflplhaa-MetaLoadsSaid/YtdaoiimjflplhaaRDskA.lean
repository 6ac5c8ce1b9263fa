/- package bazaarref01: zeros, New, Write. -/
import Derived.Test.YtdaoiimjflplhaaRDsk
import Derived.Test.YtdaoiimjflplhaaMade
import Derived.Test.YtdaoiimjflplhaaDiskG
namespace Go.Proofs.Ytdaoiimjflplhaa
open Go.RowKit Go.Shelf
attribute [local go_sem] Oper.semAt_some

theorem rinfo_int : (Try.prog.info? 3).map (fun i => (i.zero, i.size, i.bytes)) = some (some (.int .i64 0), 1, 8) := by kernel_rfl
theorem rinfo_str : (Try.prog.info? 9).map (fun i => (i.zero, i.size, i.bytes)) = some (some (.string ⟨#[]⟩), 1, 16) := by kernel_rfl
/-- What owns something, or nothing, is a slice. -/
theorem own_slice {w : World} {base : Nat} {e : TypeId} {size : Nat} {v : Value} {n : Nat} {xs : List Value} (h : w.ownsRow base e size v n xs) : ∃ so cap, v = .slice so n cap := by
  rcases h.2 with ⟨rfl, rfl⟩ | ⟨g, cap, cur, rfl, _⟩
  · exact ⟨none, 0, rfl⟩
  · exact ⟨some ⟨g, 0, none⟩, cap, rfl⟩

set_option maxHeartbeats 400000 in
theorem zeros_any (n : Nat) (w : World) (hn : n ≤ 64) : Calls Try.prog 35 #[.int .i64 n] w fun e w' => e = .returned (.string (mk (List.replicate n 0))) ∧ Below w.heap.size w w' := by
  obtain ⟨C, hm, hc⟩ := made_u8 n (by omega)
  have HM := Lib.hid hm
  have hc1 := hc w
  clear hm hc
  go_enter Try.func35, Try.ntmps35
  go_wp2_with ((with_reducible refine pl_makeI 59 5 n n C (HM.out _) ?_ ?_ ?_); rfl; rfl)
  go_ret
  exact ⟨rfl, bl_al (bl_re w) _⟩

set_option maxHeartbeats 1000000 in
theorem rnew_no (n : Int) (w : World) (hn : n < 1 ∨ 65536 < n) :
    Calls Try.prog 18 #[.int .i64 n] w fun e w' => e = .returned (.tuple #[.pointer none, .int .i64 2]) ∧ Below w.heap.size w w' := by
  rcases hn with hn | hn
  · have h1 : decide (n < 1) = true := decide_eq_true hn
    go_enter Try.func18, Try.ntmps18
    go_wp2
    go_ret2
    exact ⟨rfl, bl_re w⟩
  · have h1 : decide (n < 1) = false := decide_eq_false (by omega)
    have h2 : decide (65536 < n) = true := decide_eq_true hn
    go_enter Try.func18, Try.ntmps18
    go_wp2
    go_ret2
    exact ⟨rfl, bl_re w⟩

def sec0 : List UInt8 := List.replicate 64 0

set_option maxRecDepth 100000 in
set_option maxHeartbeats 2000000 in
theorem rnew_yes (S : Nat → Prop) (n : Nat) (w : World) (h1 : 1 ≤ n) (h2 : n ≤ 65536) (hS : ∀ k, w.heap.size ≤ k → S k) :
    Calls Try.prog 18 #[.int .i64 n] w fun e w' => ∃ g, e = .returned (.tuple #[.pointer (some ⟨g, 0, none⟩), .int .i64 0]) ∧ w.heap.size ≤ g ∧ RHeld S w' g (Dk.new n) ∧ Below w.heap.size w w' := by
  have d1 : decide ((n : Int) < 1) = false := decide_eq_false (by omega)
  have d2 : decide (65536 < (n : Int)) = false := decide_eq_false (by omega)
  have hz := zeros_any 64 (w.alloc (.cells #[.slice none 0 0, .slice none 0 0, .slice none 0 0, .int .i64 0] 69)) (by omega)
  have HZ := Lib.hid hz
  obtain ⟨j0, hi0, hz0, hz1, hz2⟩ := info_parts rinfo_str
  have HI := Lib.hid (And.intro hz1 hz2)
  clear hz hz1 hz2
  obtain ⟨zs, hzs⟩ : ∃ zs, mk (List.replicate 64 0) = zs := ⟨_, rfl⟩
  go_enter Try.func18, Try.ntmps18
  go_wp2_with (go_at_call 35; refine HZ.out.mono ?_; rintro e w1 ⟨rfl, hb1⟩; rw [hzs])
  have r0 : RAt (fun k => w.heap.size ≤ k) w1 w.heap.size (.slice none 0 0) (.slice none 0 0) (.slice none 0 0) (List.replicate 0 sec0) [] [] 0 := by
    refine RAt.below ⟨Blk.new w _ _, World.ownsRow_nil _ _ _ _, World.ownsRow_nil _ _ _ _, World.ownsRow_nil _ _ _ _, by simp [Value.ownBlock], by simp [Value.ownBlock], by simp [Value.ownBlock], by simp [Value.ownBlock], by simp [Value.ownBlock], by simp [Value.ownBlock], Nat.le_refl _, by simp [Value.ownBlock], by simp [Value.ownBlock], by simp [Value.ownBlock]⟩ hb1
  have b0 : Below w.heap.size w w1 := (bl_al (bl_re w) _).trans (hb1.mono (by simp))
  have H0 := Lib.hid (And.intro r0 b0)
  clear r0 b0 hb1
  go_loopw [6] (fun i wr => ∃ (k : Nat) (v : Value), k ≤ n ∧ i = .int .i64 k ∧ RAt (fun k => w.heap.size ≤ k) wr w.heap.size v (.slice none 0 0) (.slice none 0 0) (List.replicate k sec0) [] [] 0 ∧ Below w.heap.size w wr) (fun i _ => n - (intOf i).toNat)
  case atStart => exact ⟨0, _, by omega, rfl, H0.out.1, H0.out.2⟩
  case round =>
    obtain ⟨k, v, hk, rfl, hrest⟩ := hrel
    have HR := Lib.hid hrest
    clear hrest
    by_cases hlt : k < n
    · have o1 := HR.out.1.o1
      rw [List.length_replicate] at o1
      obtain ⟨so, cap, rfl⟩ := own_slice o1
      have q0 : wr.cell? ⟨w.heap.size, 0, none⟩ = some (.slice so k cap) := HR.out.1.blk.cell 0
      have HO := Lib.hid o1
      clear o1
      go_wp2_with (at_builtin
                   refine wpList_append_lies _ rfl (.tmp 25) (.tmp 27) 35 rfl 0 9 j0 (.string ⟨#[]⟩) 1 16 Try.underlying35 hi0 hz0 HI.out.1 HI.out.2 rfl (by omega) (.slice so k cap) k (strs (List.replicate k sec0)) rfl (HO.out.alloc _) ⟨wr.heap.size, 0, none⟩ 1 1 [.string zs] rfl rfl
                     (World.news_of_block (cs := #[.string zs]) (t := 9) (fr := (0, 0)) (heap_alloc_new _ _)) (by simp [Value.oneCell']) (by omega) (by unfold maxLen; omega) (by omega) (Nat.zero_le _) (wr.heap.size + 1) (by simp) ?_
                   intro a c w7 hown hgrow hat hlt7
                   have KB := Lib.hid (And.intro hown (And.intro hgrow hat))
                   have bb := (HR.out.1.blk.alloc (.cells #[.string zs] 9)).grown hgrow (fun e => HR.out.1.n1 e.symm)
                   have q1 : w7.cell? ⟨w.heap.size, 0, none⟩ = some (.slice so k cap) := bb.cell 0
                   have q2 := bb.frozen 0
                   clear hown hgrow hat bb)
      obtain ⟨hown, hgrow, hat⟩ := KB.out
      have hsz := HR.out.2.size
      have hr := (HR.out.1.alloc (.cells #[.string zs] 9)).push1 (n := k + 1) sec0 (by simp) (by rw [← hzs] at hown; exact hown) hgrow hat (by simp) (fun j hj => by simp at hj; omega)
      refine ⟨⟨k + 1, (.slice (some ⟨a, 0, none⟩) (k + 1) c), by omega, by go_num, ?_, ?_⟩, by simp [intOf]; omega⟩
      · rw [List.replicate_succ']
        exact hr
      · have hc := chg_push (S := fun k => w.heap.size ≤ k) (g := w.heap.size) (i := 0) hgrow HR.out.1.s1 (Nat.le_refl _) (.slice (some ⟨a, 0, none⟩) (k + 1) c)
        exact ((HR.out.2.alloc hsz _)).trans (hc.below (fun _ h => h) (by simp; omega))
    · obtain rfl : k = n := by omega
      go_wp2
      go_ret2
      obtain ⟨hr, hb⟩ := HR.out
      refine ⟨w.heap.size, rfl, Nat.le_refl _, ⟨⟨by simpa [Dk.new] using h1, by simpa [Dk.new] using h2, ?_, by simp [Dk.new], by simp [Dk.new], by simp [Dk.new]⟩, _, _, _, hr.sub fun k _ h => hS k h⟩, hb⟩
      intro s hs
      rw [List.eq_of_mem_replicate hs, List.length_replicate]
end Go.Proofs.Ytdaoiimjflplhaa
