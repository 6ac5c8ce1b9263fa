/- The functions More, Sum, Join, Seal, Open, Turn of package sum: what each call returns, and that it leaves whatever lay as it lay. No condition but that a text's length is a length. -/
import Derived.Test.YtmbjbckjfkijmaaSumW
namespace Go.Proofs.Ytmbjbckjfkijmaa
open Go.RowKit Go.Shelf
attribute [local go_sem] Oper.semAt_some

set_option maxHeartbeats 400000 in
theorem more_no (n : Nat) (s : ByteArray) (w : World) (hn : n < 4294967296) (hok : Sm.okS n = false) :
    Calls Try.prog 68 #[.int .u32 n, .string s] w fun e w' => e = .returned (.tuple #[.int .u32 0, .int .i64 2]) ∧ Below w.heap.size w w' := by
  have hp := parted_any n w hn
  rw [hok] at hp
  have HP := Lib.hid hp
  clear hp hok
  go_enter Try.func68, Try.ntmps68
  go_wp2_with (go_at_call 75; refine HP.out.mono ?_; rintro e w1 ⟨rfl, hb1⟩)
  go_ret2
  exact ⟨rfl, hb1.alloc hb1.size _⟩

set_option maxRecDepth 100000 in
set_option maxHeartbeats 2000000 in
theorem more_yes (n : Nat) (s : ByteArray) (w : World) (hn : n < 4294967296) (hs : s.size ≤ maxLen) (hok : Sm.okS n = true) :
    Calls Try.prog 68 #[.int .u32 n, .string s] w fun e w' => e = .returned (.tuple #[.int .u32 (Sm.pack (Sm.adl (n % 65536, n / 65536) s.data.toList) : Nat), .int .i64 0]) ∧ Below w.heap.size w w' := by
  have hp := parted_any n w hn
  rw [hok] at hp
  obtain ⟨h1, h2⟩ := (Sm.okS_iff n).1 hok
  clear hok
  obtain ⟨a, ha⟩ : ∃ a, n % 65536 = a := ⟨_, rfl⟩
  obtain ⟨b, hb⟩ : ∃ b, n / 65536 = b := ⟨_, rfl⟩
  rw [ha] at hp h1 ⊢
  rw [hb] at hp h2 ⊢
  have HP := Lib.hid hp
  clear hp ha hb
  have HF : ∀ {e : Ending} {W : World}, e = .returned (.tuple #[.int .u32 (Sm.pack (Sm.adl (a, b) s.data.toList) : Nat), .int .i64 0]) ∧ Below w.heap.size w W → e = .returned (.tuple #[.int .u32 (Sm.pack (Sm.adl (a, b) s.data.toList) : Nat), .int .i64 0]) ∧ Below w.heap.size w W := fun h => h
  refine (callsIn_wide (n := 9)).1 (callsIn_of_wp_marks Try.func68 rfl trivial ?_ rfl)
  simp only [Try.ntmps68, List.size_toArray, List.length_cons, List.length_nil, Nat.reduceAdd, Nat.reduceSub, Array.replicate_succ, Array.replicate_zero, List.push_toArray, List.append_toArray, List.nil_append, List.cons_append]
  gi_wp2_with (first
    | (refine ⟨trivial, ?_⟩; gi_at_call 75; refine (callsIn_wide.2 HP.out).mono ?_; rintro e w1 ⟨rfl, hb1⟩)
    | (refine ⟨trivial, ?_⟩; gi_at_call 76; refine (callsIn_wide.2 (steps_any _ _ _ _)).mono ?_; rintro e w2 ⟨rfl, rfl⟩))
  have hB0 : Below w.heap.size w (((w1.alloc (.cells #[.int .u64 a, .int .u64 b] 129)).alloc (.cells #[.int .u64 a, .int .u64 b] 129)).alloc (.cells #[.string s] 9)) :=
    ((hb1.alloc hb1.size _).alloc (by simp; have := hb1.size; omega) _).alloc (by simp; have := hb1.size; omega) _
  have k0 : Blk (((w1.alloc (.cells #[.int .u64 a, .int .u64 b] 129)).alloc (.cells #[.int .u64 a, .int .u64 b] 129)).alloc (.cells #[.string s] 9)) w1.heap.size 129 (prs (a, b)) :=
    ((Blk.new w1 _ _).alloc _).alloc _
  have k1 : Blk (((w1.alloc (.cells #[.int .u64 a, .int .u64 b] 129)).alloc (.cells #[.int .u64 a, .int .u64 b] 129)).alloc (.cells #[.string s] 9)) (w1.heap.size + 1) 129 (prs (a, b)) := by
    have := (Blk.new (w1.alloc (.cells #[.int .u64 a, .int .u64 b] 129)) 129 (prs (a, b))).alloc (.cells #[.string s] 9)
    rw [World.size_alloc] at this
    exact this
  have k2 : Blk (((w1.alloc (.cells #[.int .u64 a, .int .u64 b] 129)).alloc (.cells #[.int .u64 a, .int .u64 b] 129)).alloc (.cells #[.string s] 9)) (w1.heap.size + 1 + 1) 9 #[.string s] := by
    have := Blk.new ((w1.alloc (.cells #[.int .u64 a, .int .u64 b] 129)).alloc (.cells #[.int .u64 a, .int .u64 b] 129)) 9 #[.string s]
    rw [World.size_alloc, World.size_alloc] at this
    exact this
  have ksz : (((w1.alloc (.cells #[.int .u64 a, .int .u64 b] 129)).alloc (.cells #[.int .u64 a, .int .u64 b] 129)).alloc (.cells #[.string s] 9)).heap.size = w1.heap.size + 3 := by simp
  have hsz := hb1.size
  generalize (((w1.alloc (.cells #[.int .u64 a, .int .u64 b] 129)).alloc (.cells #[.int .u64 a, .int .u64 b] 129)).alloc (.cells #[.string s] 9)) = W0 at *
  clear HP hb1
  generalize w1.heap.size = M at *
  clear w1
  refine wpIn_rf rfl (fun h => by cases h) (gf := 81) (lb := #[.pointer (some ⟨M + 1 + 1, 0, none⟩), .pointer (some ⟨M + 1, 0, none⟩)]) rfl trivial (enters_of Try.func81 (by kernel_rfl) rfl) ?_
  intro fn rec _ hrec
  refine (steps1_in (9 - 1) (W0.heap.size + 1) (M + 1) (M + 1 + 1) a b s hs h1 h2 (by omega)
    (fun k W => Blk W M 129 (prs (Sm.adl (a, b) (s.data.toList.take k))) ∧ W.heap[W0.heap.size + 1]? = some (rec .ready none) ∧ W.heap[W0.heap.size]? = some (.deferred (some [])) ∧ Below w.heap.size w W)
    ?hJs ?hJd ?hY _ ?h0 ?hBp ?hBs).mono ?fin
  case hJs =>
    rintro k W i v ⟨j1, j2, j3, j4⟩
    exact ⟨j1.far (by simp) _, (Below.heap_setCell _ _ _ _ (by simp; omega)).trans j2, (Below.heap_setCell _ _ _ _ (by simp; omega)).trans j3, j4.setCell (by simp; omega) _⟩
  case hJd =>
    rintro k W ⟨j1, j2, j3, j4⟩
    exact ⟨j1.drew, j2, j3, j4.drew⟩
  case h0 =>
    exact ⟨(k0.alloc _).alloc _, by rw [← World.size_alloc W0 (.deferred (some []))]; exact World.alloc_heap_new _ _, (Below.heap_alloc _ _ _ (by simp)).trans (World.alloc_heap_new _ _), (hB0.alloc (by omega) _).alloc (by simp; omega) _⟩
  case hBp => exact (k1.alloc _).alloc _
  case hBs => exact (k2.alloc _).alloc _
  case hY =>
    rintro k W hlt ⟨j1, j2, j3, j4⟩ hP hS
    have hdl := (Array.getElem?_eq_some_iff.1 j2).1
    refine yieldAt_of hrec trivial j2 rfl ?_
    have HR := Lib.hid hrec
    clear hrec
    obtain ⟨⟨x, y⟩, hq⟩ : ∃ q, Sm.adl (a, b) (s.data.toList.take (k + 1)) = q := ⟨_, rfl⟩
    rw [hq] at hP ⊢
    have HQ := Lib.hid hq
    clear hq
    have HL := Lib.hid hlt
    clear hlt
    rw [ksz] at j2 j3 hdl ⊢
    rw [show prs (x, y) = #[.int .u64 (x : Int), .int .u64 (y : Int)] from rfl]
    gi_wp2
    obtain ⟨W1, hW1⟩ : ∃ W1, (W.alloc (.cells #[.int .u64 (x : Int), .int .u64 (y : Int)] 129)).putObj (M + 3 + 1) (rec .busy none) = W1 := ⟨_, rfl⟩
    have f1 : Blk W1 W.heap.size 129 #[.int .u64 (x : Int), .int .u64 (y : Int)] := by rw [← hW1]; exact (Blk.new W _ _).putObj (by omega) _
    have f2 : Blk W1 M 129 (prs (Sm.adl (a, b) (s.data.toList.take k))) := by rw [← hW1]; exact (j1.alloc _).putObj (by omega) _
    have f3 : W1.heap[M + 3 + 1]? = some (rec .busy none) := by rw [← hW1]; exact World.putObj_heap_same (by simp; omega)
    have f4 : W1.heap[M + 3]? = some (.deferred (some [])) := by rw [← hW1]; exact (World.putObj_heap_other (by omega)).trans ((Below.heap_alloc _ _ _ (by omega)).trans j3)
    have f5 : Below w.heap.size w W1 := by rw [← hW1]; exact below_putObj (j4.alloc j4.size _) (by omega) _
    have f6 : Blk W1 (M + 1) 129 (prs (x, y)) := by rw [← hW1]; exact (hP.alloc _).putObj (by omega) _
    have f7 : Blk W1 (M + 1 + 1) 9 #[.string s] := by rw [← hW1]; exact (hS.alloc _).putObj (by omega) _
    rw [hW1]
    refine ⟨(Below.heap_alloc _ _ _ hdl).trans j2, ?_⟩
    have g1 : W1.cell? ⟨W.heap.size, 0, none⟩ = some (.int .u64 (x : Int)) := f1.cell 0
    have g2 : W1.cell? ⟨W.heap.size, 1, none⟩ = some (.int .u64 (y : Int)) := f1.cell 1
    have g3 : W1.cell? ⟨M, 0, none⟩ = some (.int .u64 ((Sm.adl (a, b) (s.data.toList.take k)).1 : Int)) := f2.cell 0
    have g4 : W1.cell? ⟨M, 1, none⟩ = some (.int .u64 ((Sm.adl (a, b) (s.data.toList.take k)).2 : Int)) := f2.cell 1
    have g5 := f2.frozen 0
    have g6 := f2.frozen 1
    have F := Lib.hid (And.intro f2 (And.intro f3 (And.intro f4 (And.intro f5 (And.intro f6 f7)))))
    clear f1 f2 f3 f4 f5 f6 f7 hW1 j1 j2 j3 j4 hP hS hdl
    gi_wp2
    obtain ⟨f2, f3, f4, f5, f6, f7⟩ := F.out
    have e3 : ((W1.setCell ⟨M, 0, none⟩ (.int .u64 (x : Int))).setCell ⟨M, 1, none⟩ (.int .u64 (y : Int))).heap[M + 3 + 1]? = some (rec .busy none) :=
      (Below.heap_setCell _ _ _ _ (by dsimp only; omega)).trans ((Below.heap_setCell _ _ _ _ (by dsimp only; omega)).trans f3)
    refine ⟨e3, rfl, ⟨((f2.set_ 0 _).set_ 1 _).putObj (by omega) _, World.putObj_heap_same (Array.getElem?_eq_some_iff.1 e3).1, ?_, below_putObj ((f5.setCell hsz _).setCell hsz _) (by omega) _⟩,
      ((f6.far (by simp) _).far (by simp) _).putObj (by omega) _, ((f7.far (by dsimp only; omega) _).far (by dsimp only; omega) _).putObj (by omega) _⟩
    exact (World.putObj_heap_other (by omega)).trans ((Below.heap_setCell _ _ _ _ (by dsimp only; omega)).trans ((Below.heap_setCell _ _ _ _ (by dsimp only; omega)).trans f4))
  case fin =>
    rintro e W ⟨he, j1, j2, j3, j4⟩
    refine ⟨he, .ready, none, by simp, j2, ?_⟩
    rw [ksz] at j2 j3 ⊢
    have hdl := (Array.getElem?_eq_some_iff.1 j2).1
    obtain ⟨W1, hW1⟩ : ∃ W1, W.putObj (M + 3 + 1) (rec .exhausted none) = W1 := ⟨_, rfl⟩
    have f2 : Blk W1 M 129 (prs (Sm.adl (a, b) (s.data.toList.take s.size))) := by rw [← hW1]; exact j1.putObj (by omega) _
    have f4 : W1.heap[M + 3]? = some (.deferred (some [])) := by rw [← hW1]; exact (World.putObj_heap_other (by omega)).trans j3
    have f5 : Below w.heap.size w W1 := by rw [← hW1]; exact below_putObj j4 (by omega) _
    dsimp only
    rw [hW1]
    rw [List.take_of_length_le (by simp)] at f2
    have g3 : W1.cell? ⟨M, 0, none⟩ = some (.int .u64 ((Sm.adl (a, b) s.data.toList).1 : Int)) := f2.cell 0
    have g4 : W1.cell? ⟨M, 1, none⟩ = some (.int .u64 ((Sm.adl (a, b) s.data.toList).2 : Int)) := f2.cell 1
    clear f2 hW1 j1 j2 j3 j4 hdl
    have hlt := Sm.adl_lt (a, b) s.data.toList h1 h2
    have HK := Lib.hid (And.intro f4 f5)
    clear f4 f5 hrec
    gi_wp2_with (refine ⟨trivial, ?_⟩; gi_at_call 77; refine (callsIn_wide.2 (joined_any _ _ _ (by omega) (by omega))).mono ?_; rintro e w2 ⟨rfl, hb2⟩)
    obtain ⟨f4, f5⟩ := HK.out
    have hK : w2.heap[M + 3]? = some (.deferred (some [])) := (hb2.block _ (Array.getElem?_eq_some_iff.1 f4).1).trans f4
    refine ⟨by simp, .inl ⟨_, _, rfl, run_takeDeferred hK, ?_⟩⟩
    refine ⟨_, results_tmp2 rfl _ _ _, ?_, below_putObj (f5.trans (hb2.mono f5.size)) (by omega) _⟩
    show Ending.returned (.tuple #[.int .u32 _, .int .i64 0]) = _
    rw [Nat.mod_eq_of_lt hlt.1, Nat.mod_eq_of_lt hlt.2]
end Go.Proofs.Ytmbjbckjfkijmaa
