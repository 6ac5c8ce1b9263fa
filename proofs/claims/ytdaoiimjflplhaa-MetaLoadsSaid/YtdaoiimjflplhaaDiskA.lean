/- The inner functions of package disk: filled, within, check, keeps, pending. -/
import Derived.Test.YtdaoiimjflplhaaDiskH
import Derived.Lib.LazyBuf
namespace Go.Proofs.Ytdaoiimjflplhaa
open Go.RowKit Go.Shelf
attribute [local go_sem] Oper.semAt_some

theorem rowT_sector : RowT Try.prog 73 64 := ⟨_, Try.underlying73, rfl, by kernel_rfl⟩
theorem rowT_write : RowT Try.prog 76 65 := ⟨_, Try.underlying76, rfl, by kernel_rfl⟩
theorem rowT_of {T : TypeId} {n m : Nat} (h : RowT Try.prog T n) (e : m = n) : RowT Try.prog T m := e ▸ h
theorem info_sector : (Try.prog.info? 73).map (fun i => (i.zero, i.size, i.bytes)) = some (some (.agg (Array.replicate 64 (.int .u8 0))), 64, 64) := by kernel_rfl
theorem info_write : (Try.prog.info? 76).map (fun i => (i.zero, i.size, i.bytes)) = some (some (.agg (#[.int .i64 0] ++ Array.replicate 64 (.int .u8 0))), 65, 72) := by kernel_rfl
theorem zeroT_of {P : Program} {T : TypeId} {z : Value} {n b : Nat} (h : (P.info? T).map (fun i => (i.zero, i.size, i.bytes)) = some (some z, n, b)) : ZeroT P T z.cells := by
  obtain ⟨i, hi, hz, _, _⟩ := info_parts h
  exact ⟨i, z, hi, hz, rfl⟩
theorem zero_sector : ∃ Z : Array Value, ZeroT Try.prog 73 Z ∧ Z = (u8s (List.replicate 64 0)).toArray := ⟨_, zeroT_of info_sector, by simp [Value.cells, u8s]; rfl⟩
theorem zero_write : ∃ Z : Array Value, ZeroT Try.prog 76 Z ∧ Z.size = 65 := ⟨_, zeroT_of info_write, by simp [Value.cells]⟩

/-- 64 bytes: the text, and bytes 0 behind it. -/
def pad (l : List UInt8) : List UInt8 := l ++ List.replicate (64 - l.length) 0
theorem pad_length (l : List UInt8) (h : l.length ≤ 64) : (pad l).length = 64 := by simp [pad]; omega

section
variable {P : Program} {ops : Array Oper} {rest : List Oper} {a : Act} {w : World} {Q : Exit → Act → World → Prop} {ty : TypeId} {pos : String} {after : Array Edge} {dst : Option Tmp}
theorem pl_copy_str (dT sT elem : TypeId) {d x : Operand} (hu : P.underlying dT = some (.slice elem)) (hs : (P.info? elem).map (·.size) = some 1)
    (b o dLen dCap : Nat) (t : ByteArray) (hd : a.eval d = .slice (some ⟨b, o, none⟩) dLen dCap) (hx : a.eval x = .string t) (hle : t.size ≤ dLen) (ht : w.there b o t.size)
    (h : wpList P ops Q rest (a.put dst (goInt t.size)) (w.setCells b o (u8s t.data.toList))) :
    wpList P ops Q (⟨dst, .call { callee := .builtin .copy, args := #[d, x], argTypes := #[dT, sT] }, ty, pos, after, none⟩ :: rest) a w := by
  refine pl_run (.inl rfl) ?_ h
  have hz : ∀ w, (Go.sizeOf elem).run P w = .ok 1 w := by
    intro w
    cases hq : P.info? elem with
    | none => simp [hq] at hs
    | some i => simp [sizeOf, typeInfo, hq]; simpa [hq] using hs
  have := run_copy_string (P := P) w dT sT ty elem b o dLen dCap t hu hz hle (fun j hj => (ht j hj).1) (fun j hj => (ht j hj).2)
  simp [execOp, resolve, invoke, builtin, hd, hx, this]
  rfl
theorem pl_copy_cells (dT sT elem : TypeId) {d x : Operand} (hu : P.underlying dT = some (.slice elem)) (hs : (P.info? elem).map (·.size) = some 1)
    (b o dLen dCap sb so sLen sCap : Nat) (cs : List Value) (hd : a.eval d = .slice (some ⟨b, o, none⟩) dLen dCap) (hx : a.eval x = .slice (some ⟨sb, so, none⟩) sLen sCap) (hn : cs.length = Nat.min sLen dLen)
    (hc : w.rangeAt sb so cs) (ht : w.there b o cs.length) (h1 : ∀ v ∈ cs, v.oneCell' = true)
    (h : wpList P ops Q rest (a.put dst (goInt cs.length)) (w.setCells b o cs)) :
    wpList P ops Q (⟨dst, .call { callee := .builtin .copy, args := #[d, x], argTypes := #[dT, sT] }, ty, pos, after, none⟩ :: rest) a w := by
  refine pl_run (.inl rfl) ?_ h
  have := run_copy_cells (P := P) w dT sT ty elem b o dLen dCap ⟨sb, so, none⟩ sLen sCap cs hu hs hn (fun j v hv => by rw [Addr.add_mid]; exact hc j v hv) (fun j hj => (ht j hj).1) (fun j hj => (ht j hj).2) h1
  simp [execOp, resolve, invoke, builtin, hd, hx, this]
theorem step_copy_cells {K : Act → World → Prop} {E : Prop} {o : Oper} (hgd : o.guard = none) (dT sT elem : TypeId) {d x : Operand} (ho : o.op = .call { callee := .builtin .copy, args := #[d, x], argTypes := #[dT, sT] }) (hu : P.underlying dT = some (.slice elem)) (hs : (P.info? elem).map (·.size) = some 1)
    (b o1 dLen dCap sb so sLen sCap : Nat) (cs : List Value) (hd : a.eval d = .slice (some ⟨b, o1, none⟩) dLen dCap) (hx : a.eval x = .slice (some ⟨sb, so, none⟩) sLen sCap) (hn : cs.length = Nat.min sLen dLen)
    (hc : w.rangeAt sb so cs) (ht : w.there b o1 cs.length) (h1 : ∀ v ∈ cs, v.oneCell' = true)
    (h : K (a.put o.dst (goInt cs.length)) (w.setCells b o1 cs)) :
    if Region.wanted o (yielded ops a.tmps) = true then Oper.wp P o a w K Q else E := by
  have hw : Region.wanted o (yielded ops a.tmps) = true := by simp [Region.wanted, hgd]
  rw [if_pos hw]
  have := run_copy_cells (P := P) w dT sT o.type elem b o1 dLen dCap ⟨sb, so, none⟩ sLen sCap cs hu hs hn (fun j v hv => by rw [Addr.add_mid]; exact hc j v hv) (fun j hj => (ht j hj).1) (fun j hj => (ht j hj).2) h1
  unfold Oper.wp
  simp [execOp, ho, resolve, invoke, builtin, hd, hx, this]
  exact h
end
theorem size_u8 : (Try.prog.info? 5).map (·.size) = some 1 := by kernel_rfl

theorem range_copied {W : World} {g : Nat} {T : TypeId} {l0 l : List UInt8} {C : Array Value} (h : Blk W g T C) (hC : C = (u8s l0).toArray) (hl : l.length ≤ l0.length) : (W.setCells g 0 (u8s l)).rangeAt g 0 (u8s (l ++ l0.drop l.length)) := by
  subst hC
  rw [setCells_row g T (u8s l) 0 W _ h (by simpa using hl)]
  refine rangeAt_row (setRow_heap W g _ _ T _ h) _ ?_
  intro j v hv
  rw [← hv]
  simp [u8s]
theorem blk_there {W : World} {g : Nat} {T : TypeId} {C : Array Value} (h : Blk W g T C) (n : Nat) (hn : n ≤ C.size) : W.there g 0 n := fun j hj => by
  constructor
  · rw [cell_of_row _ _ _ _ _ _ h]; simp; omega
  · exact h.frozen _
theorem results_cell_range {fn : Func} {p : Tmp} {T : TypeId} (h : fn.results = #[.cell p T]) (tmps : Array Value) (w : World) (g : Nat) (cs : List Value) (hT : RowT Try.prog T cs.length)
    (hp : tmps.getD p undef = .pointer (some ⟨g, 0, none⟩)) (hc : w.rangeAt g 0 cs) : (results fn tmps).run Try.prog w = .ok (.agg cs.toArray) w := by
  obtain ⟨d, hu, hd, hi⟩ := hT
  have hp' : tmps[p]?.getD undef = .pointer (some ⟨g, 0, none⟩) := by simpa using hp
  simp [results, h, hp', asAddr, run_loadVar_mid w g 0 T cs d hc hu hd hi]

set_option maxRecDepth 100000 in
set_option maxHeartbeats 1000000 in
theorem filled_any (s : ByteArray) (w : World) (hs : s.size ≤ 64) :
    Calls Try.prog 37 #[.string s] w fun e w' => e = .returned (.agg (u8s (pad s.data.toList)).toArray) ∧ Below w.heap.size w w' := by
  obtain ⟨Z, hZ, hZe⟩ := zero_sector
  have hsl : s.data.toList.length = s.size := ba_length s
  have hpl := pad_length s.data.toList (by omega)
  have b1 : Blk ((w.alloc (.cells Z 73)).alloc (.cells Z 73)) (w.heap.size + 1) 73 Z := by
    have := Blk.new (w.alloc (.cells Z 73)) 73 Z
    rw [World.size_alloc] at this
    exact this
  have b2 : Blk ((w.alloc (.cells Z 73)).alloc (.cells Z 73)) w.heap.size 73 Z := (Blk.new w _ _).alloc _
  have hZs : Z.size = 64 := by rw [hZe]; simp
  have r1 : (((w.alloc (.cells Z 73)).alloc (.cells Z 73)).setCells (w.heap.size + 1) 0 (u8s s.data.toList)).rangeAt (w.heap.size + 1) 0 (u8s (pad s.data.toList)) := by
    have := range_copied (l := s.data.toList) b1 hZe (by rw [List.length_replicate]; omega)
    rw [List.drop_replicate] at this
    exact this
  have t1 := blk_there b1 s.size (by omega)
  have t2 : (((w.alloc (.cells Z 73)).alloc (.cells Z 73)).setCells (w.heap.size + 1) 0 (u8s s.data.toList)).there w.heap.size 0 64 := World.there_setCells (blk_there b2 64 (by omega)) _ _ _
  have hb : Below w.heap.size w ((((w.alloc (.cells Z 73)).alloc (.cells Z 73)).setCells (w.heap.size + 1) 0 (u8s s.data.toList)).setCells w.heap.size 0 (u8s (pad s.data.toList))) := by
    refine Chg.below (S := fun k => w.heap.size ≤ k) ?_ (fun k hk => hk) (Nat.le_refl _)
    refine (Chg.ofNew ?_).trans ((Chg.ofSetCells _ (by simp) _ _ _).trans (Chg.ofSetCells _ (by simp) _ _ _))
    exact ((Below.refl _ _).alloc (Nat.le_refl _) _).alloc (by simp) _
  have HZ := Lib.hid hZe
  clear hZe
  go_enter Try.func37, Try.ntmps37
  go_wp2_with (first
    | (with_reducible refine pl_alloc 73 hZ ?_)
    | ((with_reducible refine pl_copy_str 59 9 5 Try.underlying59 size_u8 (w.heap.size + 1) 0 64 64 s ?_ ?_ (by omega) t1 ?_); rfl; rfl)
    | ((with_reducible refine pl_load 73 (w.heap.size + 1) 0 (rowT_of rowT_sector (by simp [hpl])) ?_ r1 ?_); rfl)
    | ((with_reducible refine pl_store_mid 73 w.heap.size 0 (rowT_of rowT_sector (by rw [u8s_length, hpl])) (by rw [u8s_length, hpl]; exact t2) (u8s_one _) ?_ ?_ ?_); rfl; rfl))
  try simp only [Exit.inBlock, Exit.then]
  refine bodyPost_ret (v := .agg (u8s (pad s.data.toList)).toArray) (results_cell_range rfl _ _ w.heap.size (u8s (pad s.data.toList)) (rowT_of rowT_sector (by simp [hpl])) rfl (World.rangeAt_setCells_same _ _ _ _ (by simpa [hpl] using t2))) rfl ⟨rfl, hb⟩

/-- A slice value that holds these ints (nil or not). -/
def IntsAt (w : World) (so : Option Addr) (l : List Int) : Prop := ∀ k x, l[k]? = some x → ∃ a, so = some a ∧ a.block < w.heap.size ∧ w.cell? (a.add k) = some (.int .i64 x)

set_option maxRecDepth 100000 in
set_option maxHeartbeats 1000000 in
theorem within_any (most : Nat) (so : Option Addr) (cap : Nat) (l : List Int) (w : World) (hl : l.length ≤ maxLen) (hin : ∀ x ∈ l, -9223372036854775808 ≤ x ∧ x ≤ 9223372036854775807) (hc : IntsAt w so l) :
    Calls Try.prog 42 #[.int .i64 most, .slice so l.length cap] w fun e w' => e = .returned (.bool (l.all fun x => decide (0 ≤ x) && decide (x ≤ (most : Int)))) ∧ w' = w := by
  unfold maxLen at hl
  have HC := Lib.hid hc
  clear hc
  have HI := Lib.hid hin
  clear hin
  go_enter Try.func42, Try.ntmps42
  go_wp2
  go_loop [9] (fun i => ∃ k : Nat, k ≤ l.length ∧ i = .int .i64 k ∧ (l.take k).all (fun x => decide (0 ≤ x) && decide (x ≤ (most : Int))) = true) (fun i => l.length - (intOf i).toNat)
  case atStart => exact ⟨0, Nat.zero_le _, rfl, rfl⟩
  case round =>
    obtain ⟨k, hk, rfl, hall⟩ := hrel
    by_cases hlt : k < l.length
    · obtain ⟨a, rfl, hb, hcell⟩ := HC.out k l[k] (List.getElem?_eq_getElem hlt)
      have hx := HI.out l[k] (List.getElem_mem hlt)
      have hpre : (l.take (k + 1)).all (fun x => decide (0 ≤ x) && decide (x ≤ (most : Int))) = (decide (0 ≤ l[k]) && decide (l[k] ≤ (most : Int))) := by
        rw [List.take_succ_eq_append_getElem hlt, List.all_append, hall]
        simp
      have hwh : l.all (fun x => decide (0 ≤ x) && decide (x ≤ (most : Int))) = true → (decide (0 ≤ l[k]) && decide (l[k] ≤ (most : Int))) = true := fun h => List.all_eq_true.1 h _ (List.getElem_mem hlt)
      have HP := Lib.hid (And.intro hpre hwh)
      clear hpre hwh hall
      generalize l[k] = x at *
      go_wp2
      case roundEnd =>
        refine ⟨⟨k + 1, by omega, by go_num, ?_⟩, by simp [intOf]; omega⟩
        rw [HP.out.1]
        simp
        omega
      all_goals
        go_ret
        refine ⟨?_, rfl⟩
        have hf : l.all (fun x => decide (0 ≤ x) && decide (x ≤ (most : Int))) = false := Bool.eq_false_iff.2 fun h => by
          have := HP.out.2 h
          simp at this
          omega
        rw [hf]
        rfl
    · obtain rfl : k = l.length := by omega
      rw [List.take_length] at hall
      have HA := Lib.hid hall
      clear hall
      go_wp2
      go_ret
      exact ⟨by rw [HA.out]; rfl, rfl⟩

/-- Is there a sector: no error, or ErrSector. -/
def Dk.chk (D : Dk) (at_ : Int) : Int := if 0 ≤ at_ ∧ at_ < D.S.length then 0 else 10

set_option maxRecDepth 100000 in
set_option maxHeartbeats 1000000 in
theorem check_any (S : Nat → Prop) (g : Nat) (D : Dk) (at_ : Int) (w : World) (h : Held S w g D) (hat : -9223372036854775808 ≤ at_ ∧ at_ ≤ 9223372036854775807) :
    Calls Try.prog 36 #[.pointer (some ⟨g, 0, none⟩), .int .i64 at_] w fun e w' => e = .returned (.int .i64 (D.chk at_)) ∧ Below w.heap.size w w' := by
  obtain ⟨kb, so, cap, hok, h1, h2, h3, h4, h5, h6, h7, h8, h9, h10, h11⟩ := h
  have hone := hok.one
  have hmost := hok.most
  clear h2 h3 h4 h6 h7 h8 h9 h10 h11 hok
  have c0 : w.cell? ⟨g, 0, none⟩ = some (.slice (some ⟨kb, 0, none⟩) D.S.length D.S.length) := h1.cell 0
  have hlt := h1.lt
  have hw : ∀ (W : World), W = w.alloc (.cells #[.int .i64 at_] 3) → Calls Try.prog 42 #[.int .i64 ((D.S.length : Int) - 1), .slice (some ⟨w.heap.size, 0, none⟩) 1 1] W
      fun e w' => e = .returned (.bool (decide (0 ≤ at_) && decide (at_ ≤ (D.S.length : Int) - 1))) ∧ w' = W := by
    rintro W rfl
    have := within_any (D.S.length - 1) (some ⟨w.heap.size, 0, none⟩) 1 [at_] (w.alloc (.cells #[.int .i64 at_] 3)) (by simp [maxLen]) (by simpa using hat) (by
      intro k x hk
      cases k with
      | succ k => simp at hk
      | zero =>
        simp at hk
        subst hk
        exact ⟨⟨w.heap.size, 0, none⟩, rfl, by simp, (Blk.new w 3 #[.int .i64 at_]).cell 0⟩)
    simp only [List.length_cons, List.length_nil, List.all_cons, List.all_nil, Bool.and_true, Int.ofNat_sub hone] at this
    exact this
  have hq : D.chk at_ = if (decide (0 ≤ at_) && decide (at_ ≤ (D.S.length : Int) - 1)) = true then 0 else 10 := by
    unfold Dk.chk
    by_cases h : 0 ≤ at_ ∧ at_ < D.S.length
    · rw [if_pos h, if_pos (by simp; omega)]
    · rw [if_neg h, if_neg (by simp; omega)]
  rw [hq]
  clear hq
  generalize (decide (0 ≤ at_) && decide (at_ ≤ (D.S.length : Int) - 1)) = q at *
  have HW := Lib.hid hw
  clear hw h1
  cases q <;> simp only [if_true, if_false, Bool.false_eq_true] <;>
  · go_enter Try.func36, Try.ntmps36
    go_wp2_with (go_at_call 42; refine (HW.out _ rfl).mono ?_; rintro e w1 ⟨rfl, rfl⟩)
    go_ret
    exact ⟨rfl, bl_al (bl_re w) _⟩

set_option maxHeartbeats 1000000 in
theorem check_nil (at_ : Int) (w : World) :
    Calls Try.prog 36 #[.pointer none, .int .i64 at_] w fun e w' => e = .returned (.int .i64 1) ∧ Below w.heap.size w w' := by
  go_enter Try.func36, Try.ntmps36
  go_wp2
  go_ret
  exact ⟨rfl, bl_re w⟩

set_option maxHeartbeats 1000000 in
theorem pending_any (g : Nat) (w : World) :
    Calls Try.prog 40 #[.pointer (some ⟨g, 0, none⟩)] w fun e w' => e = .returned (.func (.func 51) #[] #[.pointer (some ⟨w.heap.size, 0, none⟩)]) ∧
      w' = w.alloc (.cells #[.pointer (some ⟨g, 0, none⟩)] 102) := by
  go_enter Try.func40, Try.ntmps40
  go_wp2
  go_ret
  exact ⟨rfl, rfl⟩

set_option maxRecDepth 100000 in
set_option maxHeartbeats 1000000 in
theorem keeps_step (g kb at_ m n : Nat) (s : List UInt8) (w : World) (hn : n ≤ 64) (hat : at_ < m) (hs : s.length = 64)
    (c0 : w.cell? ⟨g, 0, none⟩ = some (.slice (some ⟨kb, 0, none⟩) m m)) (ht : w.there kb (at_ * 64) 64) (hkb : kb < w.heap.size) (hg : g ≠ kb) :
    Calls Try.prog 41 #[.pointer (some ⟨g, 0, none⟩), .agg (ucell (at_, s)).toArray, .int .i64 n] w fun e w' => e = .returned (.tuple #[]) ∧
      ∃ W, Below w.heap.size w W ∧ w' = W.setCells kb (at_ * 64) (u8s (s.take n)) := by
  have hlt := World.block_lt_of_cell? w _ c0
  have hb : Blk (w.alloc (.cells (ucell (at_, s)).toArray 76)) w.heap.size 76 (ucell (at_, s)).toArray := Blk.new _ _ _
  have hB : Below w.heap.size w (w.alloc (.cells (ucell (at_, s)).toArray 76)) := bl_al (bl_re w) _
  have c1 : (w.alloc (.cells (ucell (at_, s)).toArray 76)).cell? ⟨w.heap.size, 0, none⟩ = some (.int .i64 (at_ : Int)) := (hb.cell 0).trans (by simp [ucell])
  have c2 : (w.alloc (.cells (ucell (at_, s)).toArray 76)).cell? ⟨g, 0, none⟩ = some (.slice (some ⟨kb, 0, none⟩) m m) := by
    rw [World.cell?_alloc_lt _ _ _ hlt]; exact c0
  have t1 : (w.alloc (.cells (ucell (at_, s)).toArray 76)).there kb (at_ * 64) n := fun j hj => (World.there_alloc ht _) j (by omega)
  have r1 : (w.alloc (.cells (ucell (at_, s)).toArray 76)).rangeAt w.heap.size 1 (u8s (s.take n)) := by
    refine rangeAt_row hb _ ?_
    intro j v hv
    rw [← hv]
    have hj : j < n := by have := (List.getElem?_eq_some_iff.1 hv).1; simp at this; omega
    simp [ucell, Nat.add_comm 1 j, u8s, hj]
  have hl : (u8s (s.take n)).length = Nat.min n n := by simp; omega
  have i1 : (0 : Int) ≤ (at_ : Int) := Int.natCast_nonneg _
  have i2 : (at_ : Int) < (m : Int) := by omega
  have i3 : (0 : Int) ≤ (n : Int) := Int.natCast_nonneg _
  have i4 : (n : Int) ≤ 64 := by omega
  have h1 := u8s_one (s.take n)
  have k1 : ∀ cs, ((w.alloc (.cells (ucell (at_, s)).toArray 76)).drew.setCells kb (at_ * 64) cs).cell? ⟨g, 0, none⟩ = some (.slice (some ⟨kb, 0, none⟩) m m) := fun cs => by
    rw [World.cell?_setCells_out _ _ _ _ _ (fun e _ => absurd e hg)]; exact c2
  have k2 : ∀ cs, ((w.alloc (.cells (ucell (at_, s)).toArray 76)).drew.setCells kb (at_ * 64) cs).cell? ⟨w.heap.size, 0, none⟩ = some (.int .i64 (at_ : Int)) := fun cs => by
    rw [World.cell?_setCells_out _ _ _ _ _ (fun e _ => absurd e (by dsimp only; omega))]; exact c1
  have HL := Lib.hid hl
  have HT := Lib.hid (And.intro t1 (And.intro r1 (And.intro hB (And.intro h1 (And.intro k1 k2)))))
  clear hl t1 r1 hB ht hs hb c0 hn hat h1 k1 k2
  generalize u8s (s.take n) = cs at *
  generalize (ucell (at_, s)).toArray = C at *
  go_enter Try.func41, Try.ntmps41
  go_wp2_with fail
  generalize w.alloc (.cells C 76) = W at *
  go_region_held3 (fun w' => w'.cell? ⟨g, 0, none⟩ = some (.slice (some ⟨kb, 0, none⟩) m m) ∧ w'.cell? ⟨w.heap.size, 0, none⟩ = some (.int .i64 (at_ : Int))) (first | go_keep | exact ⟨HT.out.2.2.2.2.1 _, HT.out.2.2.2.2.2 _⟩)
    ((refine step_copy_cells rfl 59 59 5 (by rfl) Try.underlying59 size_u8 kb (at_ * 64) n 64 w.heap.size 1 n 64 cs (by rfl) (by rfl) HL.out (World.rangeAt_drew _ _ _ _ |>.2 HT.out.2.1) (World.there_drew _ _ _ _ |>.2 (by rw [HL.out]; simpa using HT.out.1)) HT.out.2.2.2.1 ?_))
  go_end0
  exact ⟨rfl, _, bl_dr HT.out.2.2.1, rfl⟩
theorem keeps_held (S : Nat → Prop) (g kb : Nat) (so : Option Addr) (cap : Nat) (D : Dk) (p : Nat × List UInt8) (s : List UInt8) (n : Nat) (w : World) (hn : n ≤ 64) (hp : p.2.length = 64) (hs : D.S[p.1]? = some s) (h : HeldAt S w g kb so cap D) :
    Calls Try.prog 41 #[.pointer (some ⟨g, 0, none⟩), .agg (ucell p).toArray, .int .i64 n] w fun e w' => e = .returned (.tuple #[]) ∧
      HeldAt S w' g kb so cap { D with S := D.S.set p.1 (p.2.take n ++ s.drop n) } ∧ Chg S w w' := by
  obtain ⟨i, l⟩ := p
  have hlt := (List.getElem?_eq_some_iff.1 hs).1
  obtain ⟨hok, h1, h2, h3, h4, h5, h6, h7, h8, h9, h10, h11⟩ := h
  refine (keeps_step g kb i D.S.length n l w hn hlt hp (h1.cell 0) (fun j hj => ?_) h10 h5).mono ?_
  · have := h3 (i * 64 + j) (by dsimp only at hlt; omega)
    simpa using this
  · rintro e w' ⟨rfl, W, hb, rfl⟩
    have h : HeldAt S w g kb so cap D := ⟨hok, h1, h2, h3, h4, h5, h6, h7, h8, h9, h10, h11⟩
    have hw := (h.below hb).wrote i s (l.take n) hs (by simp; omega)
    have e : (l.take n).length = n := by simp at hp ⊢; omega
    rw [e] at hw
    exact ⟨rfl, hw, (Chg.ofNew hb).trans (Chg.ofSetCells _ h8 _ _ _)⟩

set_option maxRecDepth 100000 in
set_option maxHeartbeats 2000000 in
theorem pending1_in (m l Bm g : Nat) (so : Option Addr) (cap : Nat) (U : List (Nat × List UInt8)) (hU : ∀ p ∈ U, p.2.length = 64) (hlen : U.length ≤ 1000000) (J : Nat → World → Prop)
    (hJ : ∀ k W, J k W → W.ownsRow 0 76 65 (.slice so U.length cap) U.length (ucs U)) (hJa : ∀ k W o, J k W → J k (W.alloc o))
    (hY : ∀ k W p, U[k]? = some p → J k W → YieldAt Fence.wide (m - 1) Try.prog l #[.int .i64 k, .agg (ucell p).toArray] W fun e W' => e = .returned (.bool true) ∧ J (k + 1) W')
    (W : World) (h0 : J 0 W) (hB : W.cell? ⟨Bm, 0, none⟩ = some (.pointer (some ⟨g, 0, none⟩))) (h1 : W.cell? ⟨g, 1, none⟩ = some (.slice so U.length cap)) :
    CallsIn Fence.wide m Try.prog 51 #[.func (.yield l) #[] #[], .pointer (some ⟨Bm, 0, none⟩)] W fun e W' => (∃ v, e = .returned v) ∧ J U.length W' := by
  obtain ⟨Z, hZ, hZs⟩ := zero_write
  have HY := Lib.hid hY
  have HJ := Lib.hid (And.intro hJ hJa)
  have HU := Lib.hid hU
  have HZ := Lib.hid hZs
  clear hY hJ hJa hU hZs
  refine callsIn_of_wp Try.func51 rfl trivial ?_ rfl
  simp only [Try.ntmps51, List.size_toArray, List.length_cons, List.length_nil, Nat.reduceAdd, Nat.reduceSub, Array.replicate_succ, Array.replicate_zero, List.push_toArray, List.append_toArray, List.nil_append, List.cons_append]
  gi_wp2
  gi_loopw [10] (fun i wr => ∃ k : Nat, k ≤ U.length ∧ i = .int .i64 k ∧ J k wr)
    (fun i _ => U.length - (intOf i).toNat)
  case atStart => exact ⟨0, Nat.zero_le _, rfl, h0⟩
  case round =>
    obtain ⟨k, hk, rfl, hJk⟩ := hrel
    clear hB h1 h0
    by_cases hlt : k < U.length
    · have hp : U[k]? = some U[k] := List.getElem?_eq_getElem hlt
      have hpl := HU.out _ (List.getElem_mem hlt)
      have hr := HJ.out.1 _ _ hJk
      obtain ⟨ub, rfl⟩ := ownsRow_nil_iff hr (by omega)
      have r1 := uns_at hr HU.out k _ hp
      have hcl := ucell_length _ hpl
      have hc1 := ucell_one U[k]
      have hyy := HY.out k ((wr.alloc (.cells (ucell U[k]).toArray 76))) _ hp (HJ.out.2 _ _ _ hJk)
      have r2 : (wr.alloc (.cells (ucell U[k]).toArray 76)).rangeAt wr.heap.size 0 (ucell U[k]) := rangeAt_row (heap_alloc_new wr _) _ (fun j v hv => by simpa using hv)
      have HP := Lib.hid (And.intro r1 (And.intro r2 (And.intro hcl hc1)))
      have HYY := Lib.hid hyy
      clear hr r1 r2 hcl hc1 hyy hp hpl
      generalize ucell U[k] = C at *
      gi_wp2_with (first
        | ((with_reducible refine in_load 76 ub (k * 65) (rowT_of rowT_write HP.out.2.2.1) ?_ HP.out.1 ?_); rfl)
        | (with_reducible refine in_alloc 76 hZ ?_)
        | ((with_reducible refine in_store_new 76 (rowT_of rowT_write HP.out.2.2.1) (HZ.out.trans HP.out.2.2.1.symm) HP.out.2.2.2 ?_ ?_ ?_); rfl; rfl)
        | ((with_reducible refine in_load 76 wr.heap.size 0 (rowT_of rowT_write HP.out.2.2.1) ?_ HP.out.2.1 ?_); rfl))
      obtain ⟨fn, tmps, assign, body, hy, hR⟩ := HYY.out
      clear HYY
      rw [hy, Oper.uponIn_round]
      refine ⟨fun h => (by cases h), hR.mono ?_⟩
      clear hy
      rintro e W3 ⟨rfl, hJ3⟩
      gi_wp2
      go_roundw
      case rel => exact ⟨k + 1, by omega, by go_num, hJ3⟩
      case measure => simp [intOf]; omega
    · obtain rfl : k = U.length := by omega
      gi_wp2
      go_end0
      exact ⟨⟨_, rfl⟩, hJk⟩
end Go.Proofs.Ytdaoiimjflplhaa
