/- strings.Builder inside a writer (package node): WriteByte, WriteString, String. Whatever lay lies as it lay, but the writer and rows of bytes of its own. Condition: at most 2^47 bytes. -/
import Derived.Test.YtejempihaknplaaNdM
import Derived.Test.YtejempihaknplaaConv
import Derived.Lib.Builder
import Derived.Lib.OthersKept
import Derived.Lib.OwnKind
import Derived.Lib.AppendStr
import Derived.Shelf.Strings.Builder1
import Derived.StillTailTactics
namespace Go.Proofs.Ytejempihaknplaa.G
open Go.RowKit Go.Shelf
set_option linter.unusedVariables false

/-- A writer that lies in block b (made from B on) and holds these bytes. -/
def Wr (B b : Nat) (l : List UInt8) (w : World) : Prop := Lib.IsBuilder 58 5 B b (Lib.byteCells l) w
theorem info_b : (Try.prog.info? 56).map (·.size) = some 2 := by kernel_rfl
theorem info_u8 : (Try.prog.info? 5).map (fun i => (i.zero, i.size, i.bytes)) = some (some (.int .u8 0), 1, 1) := by kernel_rfl
theorem cells_u8 : Try.prog.cellsOf 5 = 1 := by kernel_rfl
theorem lies_b : liesAt Try.prog Try.prog.depth 58 (2 / Try.prog.cellsOf 58) 0 56 1 = true := by kernel_rfl
theorem bcells_snoc (l : List UInt8) (c : UInt8) : Lib.byteCells (l ++ [c]) = Lib.byteCells l ++ [.int .u8 (c.toNat : Int)] := by simp [Lib.byteCells]
theorem bcells_app (l m : List UInt8) : Lib.byteCells (l ++ m) = Lib.byteCells l ++ Lib.byteCells m := by simp [Lib.byteCells]
theorem bcells_str (s : ByteArray) : Lib.strCells s = Lib.byteCells s.data.toList := by simp [Lib.byteCells, Lib.strCells]

set_option maxRecDepth 100000 in
set_option maxHeartbeats 1000000 in
theorem check_used (b : Nat) (w : World) (h0 : w.cell? ⟨b, 0, none⟩ = some (.pointer (some ⟨b, 0, none⟩))) :
    Calls Try.prog 59 #[.pointer (some ⟨b, 0, none⟩)] w fun e w' => e = .returned (.tuple #[]) ∧ w' = w := by
  obtain ⟨j, hj, _⟩ := Option.map_eq_some_iff.1 info_b
  go_enter Try.func59, Try.ntmps59
  go_wp2
  rw [Lib.run_neq_ptr_same w _ Try.underlying53 hj]
  go_wp2
  go_end0
  exact ⟨rfl, rfl⟩
set_option maxRecDepth 100000 in
set_option maxHeartbeats 1000000 in
theorem check_fresh (b : Nat) (w : World) (h0 : w.cell? ⟨b, 0, none⟩ = some (.pointer none)) (hsh : w.shape? b = some (58, 2)) (hfz : w.frozen? ⟨b, 0, none⟩ = false) :
    Calls Try.prog 59 #[.pointer (some ⟨b, 0, none⟩)] w fun e w' => e = .returned (.tuple #[]) ∧ w' = w.setCell ⟨b, 0, none⟩ (.pointer (some ⟨b, 0, none⟩)) := by
  obtain ⟨j, hj, hjs⟩ := Option.map_eq_some_iff.1 info_b
  go_enter Try.func59, Try.ntmps59
  go_wp2
  rw [Lib.run_to_unsafe w ⟨b, 0, none⟩ Try.underlying53 Try.underlying118 hj (by rw [hjs]; decide) hsh (Nat.zero_lt_succ 1)]
  simp only [Result.andThen]
  rw [Oper.upon_value]
  go_wp2
  rw [run_callFunc_extern Try.func76 (by kernel_rfl) (by kernel_rfl) (by kernel_rfl) (e := Extern.AbiNoEscape.same) (by kernel_rfl)]
  rw [Lib.run_noEscape]
  simp only [Result.andThen]
  rw [Oper.upon_value]
  go_wp2
  rw [Lib.run_from_unsafe w ⟨b, 0, none⟩ Try.underlying118 Try.underlying53 hj hsh lies_b]
  simp only [Result.andThen]
  rw [Oper.upon_value]
  go_wp2
  go_end0
  exact ⟨rfl, rfl⟩
theorem check_any (B b : Nat) (bs : List Value) (w : World) (h : Lib.IsBuilder 58 5 B b bs w) :
    Calls Try.prog 59 #[.pointer (some ⟨b, 0, none⟩)] w fun e w' => e = .returned (.tuple #[]) ∧ Lib.BuilderAt 58 5 B b (.pointer (some ⟨b, 0, none⟩)) bs w' ∧ Below B w w' ∧ Lib.OthersKept 5 (some b) w w' := by
  rcases h with h | h
  · refine (check_fresh b w h.cell0 h.shape h.frozen0).mono ?_
    rintro e w' ⟨rfl, rfl⟩
    exact ⟨rfl, h.used _, (Below.refl B w).setCell (p := ⟨b, 0, none⟩) h.1 _, (Lib.OthersKept.refl _ _ w).setCell ⟨b, 0, none⟩ rfl _⟩
  · refine (check_used b w h.cell0).mono ?_
    rintro e w' ⟨rfl, rfl⟩
    exact ⟨rfl, h, Below.refl B _, Lib.OthersKept.refl _ _ _⟩

theorem own_kind {w : World} {B : Nat} {e : TypeId} {v : Value} {n : Nat} {xs : List Value} (hown : w.ownsRow B e 1 v n xs) (g : Nat) (hg : v.ownBlock = some g) : ∃ c fz, w.heap[g]? = some (.cells c e fz) := by
  rcases hown.2 with ⟨rfl, _⟩ | ⟨g', cap, cur, rfl, _, hh, _⟩
  · simp [Value.ownBlock] at hg
  · simp only [Value.ownBlock, Option.some.injEq] at hg
    subst hg
    exact ⟨cur, _, hh⟩

set_option maxHeartbeats 2000000 in
theorem wbyte_any (B b : Nat) (l : List UInt8) (c : UInt8) (w : World) (h : Wr B b l w) (hlen : l.length + 1 ≤ 140737488355328) (hBw : B ≤ w.heap.size) :
    Calls Try.prog 32 #[.pointer (some ⟨b, 0, none⟩), .int .u8 (c.toNat : Int)] w fun e w' => e = .returned .nilIface ∧ Wr B b (l ++ [c]) w' ∧ Below B w w' ∧ Lib.OthersKept 5 (some b) w w' := by
  obtain ⟨i0, hi, hz0, hz1, hz2⟩ := info_parts info_u8
  unfold Wr
  rw [bcells_snoc]
  obtain ⟨c, hc⟩ : ∃ c' : Int, (c.toNat : Int) = c' := ⟨_, rfl⟩
  rw [hc]
  have hlen' : (Lib.byteCells l).length + 1 ≤ 140737488355328 := by rw [Lib.byteCells_length]; exact hlen
  have HC := Lib.hid (check_any B b _ w h)
  generalize Lib.byteCells l = bs at *
  clear hc hlen h
  go_enter Try.func32, Try.ntmps32
  go_wp2_with fail
  refine HC.out.mono ?_
  rintro e w1 ⟨rfl, h1, hb1, hk1⟩
  obtain ⟨hB, v, hbk, hown, hne⟩ := h1
  have c0 : w1.cell? ⟨b, 0, none⟩ = some (.pointer (some ⟨b, 0, none⟩)) := by rw [Lib.cell_of_heap hbk]; rfl
  have c1 : w1.cell? ⟨b, 1, none⟩ = some v := by rw [Lib.cell_of_heap hbk]; rfl
  go_wp2_with (at_builtin; refine wpList_append_own _ rfl _ _ 54 rfl B 5 i0 (.int .u8 0) 1 1 Try.underlying54 hi hz0 hz1 hz2 rfl (by decide) _ _ _ rfl (hown.alloc _) ⟨w1.heap.size, 0, none⟩ 1 1 [.int .u8 c] rfl rfl ?c1 ?c2 ?c3 ?c4 ?c5 ?_)
  case c1 =>
    intro j u hj
    match j, hj with
    | 0, hj => simp at hj; subst hj; simp [Addr.add]
  case c2 => intro u hu; simp at hu; subst hu; rfl
  case c3 => unfold maxLen; omega
  case c4 => omega
  case c5 => have := hb1.size; simp; omega
  intro v' w2 hown' hgrow _
  have hlt : b < w1.heap.size := by
    rcases Nat.lt_or_ge b w1.heap.size with h' | h'
    · exact h'
    · simp [Array.getElem?_eq_none h'] at hbk
  have hb2 : w2.heap[b]? = some (.cells #[.pointer (some ⟨b, 0, none⟩), v] 58 (0, 0)) := by
    rw [hgrow.block b (by simp; omega) (fun e => hne e.symm), Lib.alloc_old w1 _ b hlt]
    exact hbk
  have d0 : w2.cell? ⟨b, 0, none⟩ = some (.pointer (some ⟨b, 0, none⟩)) := by rw [Lib.cell_of_heap hb2]; rfl
  have d1 : w2.cell? ⟨b, 1, none⟩ = some v := by rw [Lib.cell_of_heap hb2]; rfl
  have f1 : w2.frozen? ⟨b, 1, none⟩ = false := Lib.frozen_of_heap hb2 1
  obtain ⟨g, cap, rfl⟩ : ∃ g cap, v' = .slice (some ⟨g, 0, none⟩) (bs.length + 1) cap := by
    rcases hown'.2 with ⟨_, h0⟩ | ⟨g, cap, cur, hv, _⟩
    · omega
    · exact ⟨g, cap, hv⟩
  go_wp2
  go_ret
  refine ⟨rfl, .inr ?_, ?_, ((hk1.alloc _).grown hgrow (own_kind (hown.alloc _))).setCell ⟨b, 1, none⟩ rfl _⟩
  · exact Lib.BuilderAt.put (T := 58) (e := 5) hB hb2 (bs' := bs ++ [.int .u8 c]) (by simpa using hown') (by decide)
  · exact ((hb1.alloc (by have := hb1.size; omega) _).grown hgrow (by have := hb1.size; simp; omega) (fun k hk => (hown.lt k hk).1)).setCell (p := ⟨b, 1, none⟩) hB _

set_option maxHeartbeats 2000000 in
theorem wstr_any (B b : Nat) (l : List UInt8) (s : ByteArray) (w : World) (h : Wr B b l w) (hlen : l.length + s.size ≤ 140737488355328) (hBw : B ≤ w.heap.size) :
    Calls Try.prog 61 #[.pointer (some ⟨b, 0, none⟩), .string s] w fun e w' => e = .returned (.tuple #[.int .i64 s.size, .nilIface]) ∧ Wr B b (l ++ s.data.toList) w' ∧ Below B w w' ∧ Lib.OthersKept 5 (some b) w w' := by
  obtain ⟨i0, hi, hz0, hz1, hz2⟩ := info_parts info_u8
  unfold Wr
  rw [bcells_app, ← bcells_str]
  have hlen' : (Lib.byteCells l).length + s.size ≤ 140737488355328 := by rw [Lib.byteCells_length]; exact hlen
  have HC := Lib.hid (check_any B b _ w h)
  generalize Lib.byteCells l = bs at *
  clear hlen h
  go_enter Try.func61, Try.ntmps61
  go_wp2_with fail
  refine HC.out.mono ?_
  rintro e w1 ⟨rfl, h1, hb1, hk1⟩
  obtain ⟨hB, v, hbk, hown, hne⟩ := h1
  have c0 : w1.cell? ⟨b, 0, none⟩ = some (.pointer (some ⟨b, 0, none⟩)) := by rw [Lib.cell_of_heap hbk]; rfl
  have c1 : w1.cell? ⟨b, 1, none⟩ = some v := by rw [Lib.cell_of_heap hbk]; rfl
  go_wp2_with (at_builtin; refine Lib.wpList_append_own_string _ rfl _ _ 54 9 rfl B 5 i0 Try.underlying54 Try.underlying9 hi hz0 hz1 hz2 _ _ _ rfl hown s rfl ?c3 ?c4 ?c5 ?_)
  case c3 => unfold maxLen; omega
  case c4 => omega
  case c5 => have := hb1.size; omega
  intro v' w2 hown' hgrow _
  have hlt : b < w1.heap.size := by
    rcases Nat.lt_or_ge b w1.heap.size with h' | h'
    · exact h'
    · simp [Array.getElem?_eq_none h'] at hbk
  have hb2 : w2.heap[b]? = some (.cells #[.pointer (some ⟨b, 0, none⟩), v] 58 (0, 0)) := by
    rw [hgrow.block b hlt (fun e => hne e.symm)]
    exact hbk
  have d0 : w2.cell? ⟨b, 0, none⟩ = some (.pointer (some ⟨b, 0, none⟩)) := by rw [Lib.cell_of_heap hb2]; rfl
  have d1 : w2.cell? ⟨b, 1, none⟩ = some v := by rw [Lib.cell_of_heap hb2]; rfl
  have f1 : w2.frozen? ⟨b, 1, none⟩ = false := Lib.frozen_of_heap hb2 1
  obtain ⟨ao, n', cap, rfl⟩ : ∃ ao n' cap, v' = .slice ao n' cap := by
    rcases hown'.2 with ⟨hv, _⟩ | ⟨g, cap, cur, hv, _⟩
    · exact ⟨_, _, _, hv⟩
    · exact ⟨_, _, _, hv⟩
  go_wp2
  go_ret2
  refine ⟨rfl, .inr ?_, ?_, (hk1.grown hgrow (own_kind hown)).setCell ⟨b, 1, none⟩ rfl _⟩
  · exact Lib.BuilderAt.put (T := 58) (e := 5) hB hb2 (bs' := bs ++ Lib.strCells s) (by simpa [Lib.strCells_length] using hown') (by decide)
  · exact (hb1.grown hgrow (by have := hb1.size; omega) (fun k hk => (hown.lt k hk).1)).setCell (p := ⟨b, 1, none⟩) hB _

set_option maxHeartbeats 1000000 in
theorem wtext_any (B b : Nat) (l : List UInt8) (w : World) (h : Wr B b l w) (h0 : l ≠ []) :
    Calls Try.prog 36 #[.pointer (some ⟨b, 0, none⟩)] w fun e w' => e = .returned (.string ⟨l.toArray⟩) ∧ Below B w w' ∧ Lib.OthersKept 5 (some b) w w' := by
  obtain ⟨p, hB, v, hbk, hown, hne⟩ : ∃ p, Lib.BuilderAt 58 5 B b p (Lib.byteCells l) w := by
    rcases h with h | h
    · exact ⟨_, h⟩
    · exact ⟨_, h⟩
  have hl0 : l.length ≠ 0 := by simpa using h0
  rw [Lib.byteCells_length] at hown
  obtain ⟨g, cap, cur, rfl, hbg, hg, hnc, hcm, hcs, htake⟩ : ∃ g cap cur, v = .slice (some ⟨g, 0, none⟩) l.length cap ∧ B ≤ g ∧ w.heap[g]? = some (.cells cur 5 (0, 0)) ∧ l.length ≤ cap ∧ cap ≤ maxLen ∧ cur.size = cap * 1 ∧ cur.toList.take (l.length * 1) = Lib.byteCells l := by
    rcases hown.2 with ⟨_, hz⟩ | ⟨g, cap, cur, hv, r⟩
    · exact absurd hz hl0
    · exact ⟨g, cap, cur, hv, r⟩
  have c1 : w.drew.cell? ⟨b, 1, none⟩ = some (.slice (some ⟨g, 0, none⟩) l.length cap) := by
    have : w.drew.heap[b]? = some (.cells #[p, .slice (some ⟨g, 0, none⟩) l.length cap] 58 (0, 0)) := hbk
    rw [Lib.cell_of_heap this]; rfl
  have hSD : (Builtin.unsafeSliceData_ #[54] 99 #[.slice (some ⟨g, 0, none⟩) l.length cap]).run Try.prog w.drew = .ok (.pointer (some ⟨g, 0, none⟩)) w.drew :=
    Lib.run_unsafeSliceData_row _ _ _ _ _ _ (by omega)
  have hUS : (Builtin.unsafeString_ #[99, 3] 9 #[.pointer (some ⟨g, 0, none⟩), .int .i64 l.length]).run Try.prog w.drew = .ok (.string ⟨l.toArray⟩) (w.drew.freeze ⟨g, 0, none⟩ l.length) := by
    refine Lib.run_unsafeString_row w.drew 99 3 9 5 Try.underlying99 cells_u8 g cur.size (by have hg' : w.drew.heap[g]? = some (.cells cur 5 (0, 0)) := hg; simp [World.shape?, hg']) l h0 (by omega) (by unfold maxLen at hcm; omega) ?_
    intro j x hx
    have := hown.cells (g := g) rfl j (.int .u8 x.toNat) (by simp [Lib.byteCells, hx])
    exact this
  go_enter Try.func36, Try.ntmps36
  go_wp2
  go_region
  all_goals (go_wp2; go_ret; exact ⟨rfl, Lib.below_freeze (Below.drew (Below.refl B w)) (p := ⟨g, 0, none⟩) hbg _, ((Lib.OthersKept.refl _ _ w).drew).freeze ⟨g, 0, none⟩ _ ⟨cur, _, hg⟩⟩)

theorem byteOf_int (n : Nat) (h : n ≤ 255) : ((byteOf n).toNat : Int) = (n : Int) := by
  unfold byteOf
  rw [UInt8.toNat_ofNat']
  omega

/-! ### text -/
def textsB (ss : List ByteArray) : List UInt8 := ss.flatMap textB
theorem textsB_snoc (ss : List ByteArray) (k : Nat) (h : k < ss.length) : textsB (ss.take (k + 1)) = textsB (ss.take k) ++ (byteOf ss[k].size :: ss[k].data.toList) := by
  unfold textsB
  rw [List.take_succ_eq_append_getElem h, List.flatMap_append]
  simp [textB]
theorem textsB_le (ss : List ByteArray) (h : ∀ s ∈ ss, s.size ≤ 255) : (textsB ss).length ≤ 256 * ss.length := by
  induction ss with
  | nil => simp [textsB]
  | cons s r ih =>
    have h1 := h s (List.mem_cons_self)
    have h2 := ih (fun x hx => h x (List.mem_cons_of_mem _ hx))
    unfold textsB at h2 ⊢
    have h3 : s.data.toList.length = s.size := ba_length s
    simp only [List.flatMap_cons, List.length_append, textB, List.length_cons, h3]
    omega
set_option maxRecDepth 100000 in
set_option maxHeartbeats 2000000 in
theorem wtexts_any (B b g c : Nat) (l : List UInt8) (ss : List ByteArray) (w : World) (h : Wr B b l w) (hlen : l.length + 256 * ss.length ≤ 100000000) (hBw : B ≤ w.heap.size) (hs : ∀ s ∈ ss, s.size ≤ 255) (hgb : g ≠ b)
    (hg : Blk w g 9 (ss.map Value.string).toArray) :
    Calls Try.prog 34 #[.pointer (some ⟨b, 0, none⟩), .slice (some ⟨g, 0, none⟩) ss.length c] w fun e w' => e = .returned (.tuple #[]) ∧ Wr B b (l ++ textsB ss) w' ∧ Below B w w' ∧ Lib.OthersKept 5 (some b) w w' := by
  have HI := Lib.hid (And.intro h hg)
  have HL := Lib.hid (And.intro hs (And.intro hBw hgb))
  have hn : ss.length ≤ 1000000 := by omega
  have HN := Lib.hid hlen
  clear h hg hlen hs hBw hgb
  go_enter Try.func34, Try.ntmps34
  go_wp2
  go_loopw [8] (fun i wr => ∃ k : Nat, k ≤ ss.length ∧ i = .int .i64 k ∧ Hid (Wr B b (l ++ textsB (ss.take k)) wr ∧ Blk wr g 9 (ss.map Value.string).toArray ∧ Below B w wr ∧ Lib.OthersKept 5 (some b) w wr)) (fun i _ => ss.length - (intOf i).toNat)
  case atStart => exact ⟨0, Nat.zero_le _, rfl, Lib.hid ⟨by simpa [textsB] using HI.out.1, HI.out.2, Below.refl _ _, Lib.OthersKept.refl _ _ _⟩⟩
  case round =>
    obtain ⟨k, hk, rfl, HK⟩ := hrel
    by_cases hlt : k < ss.length
    · have hcell : wr.cell? ⟨g, k, none⟩ = some (.string ss[k]) := by
        rw [HK.out.2.1.cell k]
        simp [List.getElem?_eq_getElem hlt]
      have hsn := textsB_snoc ss k hlt
      have hsz := HL.out.1 ss[k] (List.getElem_mem hlt)
      have hle := textsB_le (ss.take k) (fun s hx => HL.out.1 s (List.mem_of_mem_take hx))
      have hle2 : (ss.take k).length ≤ k := List.length_take_le _ _
      obtain ⟨s, hss⟩ : ∃ s, ss[k] = s := ⟨_, rfl⟩
      rw [hss] at hcell hsn hsz
      have hby := byteOf_int s.size hsz
      have hcv : IntKind.u8.wrap (s.size : Int) = ((byteOf s.size).toNat : Int) := by rw [hby, IntWalk.u8_in _ (by omega)]
      have HW1 := Lib.hid (wbyte_any B b (l ++ textsB (ss.take k)) (byteOf s.size) wr HK.out.1 (by rw [List.length_append]; have := HN.out; omega) (Nat.le_trans HL.out.2.1 (by have := HK.out.2.2.1.size; exact this)))
      have HW2 := Lib.hid (fun w1 => fun h1 : Wr B b (l ++ textsB (ss.take k) ++ [byteOf s.size]) w1 => fun hb : B ≤ w1.heap.size => wstr_any B b (l ++ textsB (ss.take k) ++ [byteOf s.size]) s w1 h1 (by rw [List.length_append, List.length_append]; have := HN.out; simp only [List.length_cons, List.length_nil]; omega) hb)
      have HS := Lib.hid hsn
      rw [← hcv, IntWalk.u8_in _ (by omega)] at HW1
      have b1 : (s.size : Int) ≤ 255 := by omega
      have b2 : s.size ≤ 255 := hsz
      clear hsn hle hle2 hss hby hcv hsz
      go_wp2_with fail
      refine HW1.out.mono ?_
      rintro e w1 ⟨rfl, h1, hb1, hk1⟩
      have HX := Lib.hid (And.intro h1 (And.intro hb1 hk1))
      clear h1 hb1 hk1
      go_wp2_with fail
      refine (HW2.out w1 HX.out.1 (Nat.le_trans HL.out.2.1 (Nat.le_trans HK.out.2.2.1.size HX.out.2.1.size))).mono ?_
      rintro e w2 ⟨rfl, h2, hb2, hk2⟩
      have HY := Lib.hid (And.intro h2 (And.intro hb2 hk2))
      clear h2 hb2 hk2
      go_wp2
      go_roundw
      case rel =>
        refine ⟨k + 1, by omega, by go_num, Lib.hid ⟨?_, ?_, (HK.out.2.2.1.trans HX.out.2.1).trans HY.out.2.1, (HK.out.2.2.2.trans HX.out.2.2).trans HY.out.2.2⟩⟩
        · have := HY.out.1
          rw [HS.out]
          simpa [List.append_assoc] using this
        · have k1 := HX.out.2.2 g _ HK.out.2.1 (by simpa using HL.out.2.2) (by intro c fz e; cases e)
          exact HY.out.2.2 g _ k1 (by simpa using HL.out.2.2) (by intro c fz e; cases e)
      case measure => simp [intOf]; omega
    · obtain rfl : k = ss.length := by omega
      go_wp2
      go_end0
      refine ⟨rfl, ?_, HK.out.2.2⟩
      have := HK.out.1
      rwa [List.take_length] at this

/-! ### kid -/
theorem be4_byte (n k : Nat) (hk : k < 4) : ∃ c : UInt8, (be4 (n : Int)).take (k + 1) = (be4 (n : Int)).take k ++ [c] ∧ IntKind.u8.wrap ((n : Int) / 2 ^ (24 - 8 * k)) = (c.toNat : Int) := by
  have hw : ∀ m : Nat, IntKind.u8.wrap (m : Int) = ((byteOf (m % 256)).toNat : Int) := by
    intro m
    rw [byteOf_int _ (by omega)]
    show (m : Int) % 256 = _
    omega
  match k, hk with
  | 0, _ => exact ⟨byteOf (n / 16777216 % 256), by simp [be4], by rw [← hw]; simp⟩
  | 1, _ => exact ⟨byteOf (n / 65536 % 256), by simp [be4], by rw [← hw]; simp⟩
  | 2, _ => exact ⟨byteOf (n / 256 % 256), by simp [be4], by rw [← hw]; simp⟩
  | 3, _ => exact ⟨byteOf (n % 256), by simp [be4], by rw [← hw]; simp⟩
set_option maxRecDepth 100000 in
set_option maxHeartbeats 2000000 in
theorem wkid_any (B b : Nat) (l : List UInt8) (d : Int) (w : World) (h : Wr B b l w) (hlen : l.length + 4 ≤ 100000000) (hBw : B ≤ w.heap.size) (h0 : 0 ≤ d) (h1 : d < 4294967296) :
    Calls Try.prog 35 #[.pointer (some ⟨b, 0, none⟩), .int .u32 d] w fun e w' => e = .returned (.tuple #[]) ∧ Wr B b (l ++ be4 d) w' ∧ Below B w w' ∧ Lib.OthersKept 5 (some b) w w' := by
  have HI := Lib.hid h
  have HL := Lib.hid (And.intro hlen hBw)
  clear h hlen hBw
  go_enter Try.func35, Try.ntmps35
  go_wp2
  go_loopw [5] (fun i wr => ∃ k : Nat, k ≤ 4 ∧ i = .int .i64 k ∧ Hid (Wr B b (l ++ (be4 d).take k) wr ∧ Below B w wr ∧ Lib.OthersKept 5 (some b) w wr)) (fun i _ => 4 - (intOf i).toNat)
  case atStart => exact ⟨0, Nat.zero_le _, rfl, Lib.hid ⟨by simpa using HI.out, Below.refl _ _, Lib.OthersKept.refl _ _ _⟩⟩
  case round =>
    obtain ⟨k, hk, rfl, HK⟩ := hrel
    by_cases hlt : k < 4
    · obtain ⟨n, rfl⟩ : ∃ n : Nat, d = n := ⟨d.toNat, by omega⟩
      obtain ⟨c, hc1, hc2⟩ := be4_byte n k hlt
      have i1 : (k : Int) < 4 := by omega
      have e1 : IntKind.i64.wrap (8 * (k : Int)) = 8 * (k : Int) := IntWalk.i64_in _ (by omega)
      have e2 : IntKind.i64.wrap (24 - 8 * (k : Int)) = 24 - 8 * (k : Int) := IntWalk.i64_in _ (by omega)
      have e3 : (24 - 8 * (k : Int)).toNat = 24 - 8 * k := by omega
      have i2 : 0 ≤ 24 - 8 * (k : Int) := by omega
      have i3 : 24 - 8 * (k : Int) ≤ 32 := by omega
      have hl4 : ((be4 (n : Int)).take k).length ≤ k := List.length_take_le _ _
      have HW := Lib.hid (wbyte_any B b (l ++ (be4 (n : Int)).take k) c wr.drew HK.out.1 (by rw [List.length_append]; have := HL.out.1; omega) (Nat.le_trans HL.out.2 (by have := HK.out.2.1.size; exact this)))
      have HC3 : Hid ((n : Int) / 2 ^ (24 - 8 * k) % 256 = (c.toNat : Int)) := Lib.hid hc2
      have HC := Lib.hid (And.intro hc1 hc2)
      clear hc1 hc2 hl4
      go_wp2
      go_still_tail 9, (by kernel_rfl)
      change wpList _ _ _ _ _ wr.drew
      obtain ⟨w5, hw5⟩ : ∃ w5, wr.drew = w5 := ⟨_, rfl⟩
      rw [hw5] at HW ⊢
      have HW5 := Lib.hid hw5
      clear hw5 e1 e2 e3 i2 i3
      go_wp2_with fail
      rw [HC.out.2, HC3.out]
      refine HW.out.mono ?_
      rintro e w1 ⟨rfl, h1, hb1, hk1⟩
      have HX := Lib.hid (And.intro h1 (And.intro hb1 hk1))
      clear h1 hb1 hk1
      go_wp2
      go_roundw
      case rel =>
        have hd : Below B w w5 := by rw [← HW5.out]; exact HK.out.2.1.drew
        have ho : Lib.OthersKept 5 (some b) w w5 := by rw [← HW5.out]; exact HK.out.2.2.drew
        refine ⟨k + 1, by omega, by go_num, Lib.hid ⟨?_, hd.trans HX.out.2.1, ho.trans HX.out.2.2⟩⟩
        have := HX.out.1
        rw [HC.out.1]
        simpa [List.append_assoc] using this
      case measure => simp [intOf]; omega
    · obtain rfl : k = 4 := by omega
      go_wp2
      go_end0
      refine ⟨rfl, ?_, HK.out.2⟩
      have := HK.out.1
      rwa [List.take_of_length_le (by simp [be4])] at this
end Go.Proofs.Ytejempihaknplaa.G
