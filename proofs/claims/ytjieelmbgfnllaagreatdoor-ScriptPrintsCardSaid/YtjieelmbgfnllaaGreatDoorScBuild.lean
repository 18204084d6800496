/- strings.Builder's writing methods at a builder of the call's own. Conditions: the text stays under 2^40 bytes. -/
import Derived.Test.YtjieelmbgfnllaaGreatDoorScSeen
import Derived.Test.YtjieelmbgfnllaaGreatDoorScShelf
import Derived.Shelf.Strings.Builder1
namespace Go.Proofs.YtjieelmbgfnllaaGreatDoor
open Go.RowKit Scr

theorem bld_size : (Tryz.prog.info? 128).map (·.size) = some 2 := by kernel_rfl
theorem bld_lies : liesAt Tryz.prog Tryz.prog.depth 128 (2 / Tryz.prog.cellsOf 128) 0 128 1 = true := by kernel_rfl

set_option maxRecDepth 100000 in
set_option maxHeartbeats 4000000 in
theorem copy_used (b : Nat) (w : World) (h0 : w.cell? ⟨b, 0, none⟩ = some (.pointer (some ⟨b, 0, none⟩))) :
    Calls Tryz.prog 149 #[.pointer (some ⟨b, 0, none⟩)] w fun e w' => e = .returned (.tuple #[]) ∧ w' = w := by
  obtain ⟨j, hj, _⟩ := Option.map_eq_some_iff.1 bld_size
  go_enter Tryz.func149, Tryz.ntmps149
  go_wp2
  rw [Lib.run_neq_ptr_same w _ Tryz.underlying126 hj]
  go_wp2
  go_end0
  exact ⟨rfl, rfl⟩

set_option maxRecDepth 100000 in
set_option maxHeartbeats 4000000 in
theorem copy_fresh (b : Nat) (w : World) (h0 : w.cell? ⟨b, 0, none⟩ = some (.pointer none)) (hsh : w.shape? b = some (128, 2)) (hfz : w.frozen? ⟨b, 0, none⟩ = false) :
    Calls Tryz.prog 149 #[.pointer (some ⟨b, 0, none⟩)] w fun e w' => e = .returned (.tuple #[]) ∧ w' = w.setCell ⟨b, 0, none⟩ (.pointer (some ⟨b, 0, none⟩)) := by
  obtain ⟨j, hj, hjs⟩ := Option.map_eq_some_iff.1 bld_size
  go_enter Tryz.func149, Tryz.ntmps149
  go_wp2
  rw [Lib.run_to_unsafe w ⟨b, 0, none⟩ Tryz.underlying126 Tryz.underlying180 hj (by rw [hjs]; decide) hsh (Nat.zero_lt_succ 1)]
  simp only [Result.andThen]
  rw [Oper.upon_value]
  go_wp2
  rw [run_callFunc_extern Tryz.func218 (by kernel_rfl) (by kernel_rfl) (by kernel_rfl) (e := Extern.AbiNoEscape.same) (by kernel_rfl)]
  rw [Lib.run_noEscape]
  simp only [Result.andThen]
  rw [Oper.upon_value]
  go_wp2
  rw [Lib.run_from_unsafe w ⟨b, 0, none⟩ Tryz.underlying180 Tryz.underlying126 hj hsh bld_lies]
  simp only [Result.andThen]
  rw [Oper.upon_value]
  go_wp2
  go_end0
  exact ⟨rfl, rfl⟩

/-- The builder b, whose blocks lie from B on, holds these bytes. -/
abbrev Bld (B b : Nat) (l : Bs) (w : World) : Prop := Lib.IsBuilder 128 5 B b (Lib.byteCells l) w
theorem bldAt_new {B b : Nat} {p : Value} {bs : List Value} {w w' : World} (h : Lib.BuilderAt 128 5 B b p bs w) (hm : Mod [] w w') : Lib.BuilderAt 128 5 B b p bs w' := by
  have hl := h.lt
  obtain ⟨hB, v, hb, hown, hne⟩ := h
  exact ⟨hB, v, (hm.block b hl (by simp)).trans hb, owns_mod hown hm (by simp), hne⟩
theorem Bld.new {B b : Nat} {l : Bs} {w w' : World} (h : Bld B b l w) (hm : Mod [] w w') : Bld B b l w' := h.elim (fun x => .inl (bldAt_new x hm)) (fun x => .inr (bldAt_new x hm))
theorem copy_walk (B b : Nat) (l : Bs) (w : World) (h : Bld B b l w) :
    Calls Tryz.prog 149 #[.pointer (some ⟨b, 0, none⟩)] w fun e w' => e = .returned (.tuple #[]) ∧ Lib.BuilderAt 128 5 B b (.pointer (some ⟨b, 0, none⟩)) (Lib.byteCells l) w' ∧ Below B w w' := by
  rcases h with h | h
  · refine (copy_fresh b w h.cell0 h.shape h.frozen0).mono ?_
    rintro e w' ⟨rfl, rfl⟩
    exact ⟨rfl, h.used _, (Below.refl B w).setCell (p := ⟨b, 0, none⟩) h.1 _⟩
  · refine (copy_used b w h.cell0).mono ?_
    rintro e w' ⟨rfl, rfl⟩
    exact ⟨rfl, h, Below.refl B _⟩

set_option maxRecDepth 100000 in
set_option maxHeartbeats 4000000 in
theorem wbyte_walk (B b : Nat) (l : Bs) (c : UInt8) (w : World) (h : Bld B b l w) (hl : l.length ≤ 1099511627776) (hBw : B ≤ w.heap.size) :
    Calls Tryz.prog 84 #[.pointer (some ⟨b, 0, none⟩), .int .u8 c.toNat] w fun e w' => e = .returned .nilIface ∧ Bld B b (l ++ [c]) w' ∧ Below B w w' := by
  obtain ⟨i0, hi, hz0, hz1, hz2⟩ := info_parts info_u8
  have hbl : (Lib.byteCells l).length = l.length := by simp [Lib.byteCells]
  have HI := Lib.hid (And.intro hi (And.intro hz0 (And.intro hz1 hz2)))
  clear hi hz0 hz1 hz2
  have HC := Lib.hid (copy_walk B b l w h)
  clear h
  go_enter Tryz.func84, Tryz.ntmps84
  go_wp2_with fail
  refine HC.out.mono ?_
  rintro e w1 ⟨rfl, h1, hb1⟩
  have hlt := h1.lt
  obtain ⟨hB, v, hbk, hown, hne⟩ := h1
  have hbB : Blk w1 b 128 #[.pointer (some ⟨b, 0, none⟩), v] := hbk
  have c0 := hbB.cell 0
  have c1 := hbB.cell 1
  simp at c0 c1
  have HW := Lib.hid (And.intro hB (And.intro hbB (And.intro hown (And.intro hne hb1))))
  clear hB hbk hown hne hb1 hbB
  go_wp2_with (at_builtin; refine wpList_append_own _ rfl _ _ 78 rfl B 5 i0 (.int .u8 0) 1 1 Tryz.underlying78 HI.out.1 HI.out.2.1 HI.out.2.2.1 HI.out.2.2.2 rfl (by decide) _ _ _ rfl (HW.out.2.2.1.alloc _) ⟨w1.heap.size, 0, none⟩ 1 1 [.int .u8 c.toNat] rfl rfl ?c1 ?c2 ?c3 ?c4 ?c5 ?_)
  case c1 => exact cell_one_new _ _ _
  case c2 => intro u hu; simp at hu; subst hu; rfl
  case c3 => rw [hbl]; unfold maxLen; omega
  case c4 => rw [hbl]; omega
  case c5 => have := HW.out.2.2.2.2.size; simp; omega
  intro v' w2 hown' hgrow _
  have hb2 : Blk w2 b 128 #[.pointer (some ⟨b, 0, none⟩), v] := (hgrow.block b (by simp; omega) (fun e => HW.out.2.2.2.1 e.symm)).trans (HW.out.2.1.alloc _)
  have d0 := hb2.cell 0
  have d1 := hb2.cell 1
  have f1 := hb2.frozen 1
  simp at d0 d1
  obtain ⟨g, cap, rfl⟩ : ∃ g cap, v' = .slice (some ⟨g, 0, none⟩) (l.length + 1) cap := by
    rcases hown'.2 with ⟨_, h0⟩ | ⟨g, cap, cur, hv, _⟩
    · omega
    · exact ⟨g, cap, hv⟩
  have HX := Lib.hid (And.intro hb2 (And.intro hown' hgrow))
  clear hb2 hown' hgrow c0 c1
  go_wp2
  go_ret
  refine ⟨rfl, .inr ?_, ?_⟩
  · have := Lib.BuilderAt.put (T := 128) (e := 5) HW.out.1 HX.out.1 (bs' := Lib.byteCells l ++ [.int .u8 c.toNat]) (by rw [List.length_append, hbl]; exact HX.out.2.1) (by decide)
    rw [Lib.byteCells_append]
    exact this
  · have hs := HW.out.2.2.2.2.size
    exact ((HW.out.2.2.2.2.alloc (by omega) _).grown HX.out.2.2 (by simp; omega) (fun k hk => (HW.out.2.2.1.lt k hk).1)).setCell (p := ⟨b, 1, none⟩) HW.out.1 _

set_option maxRecDepth 100000 in
set_option maxHeartbeats 4000000 in
theorem wstr_walk (B b : Nat) (l : Bs) (s : ByteArray) (w : World) (h : Bld B b l w) (hl : l.length ≤ 1099511627776) (hs : s.size ≤ 1099511627776) (hBw : B ≤ w.heap.size) :
    Calls Tryz.prog 83 #[.pointer (some ⟨b, 0, none⟩), .string s] w fun e w' => e = .returned (.tuple #[.int .i64 s.size, .nilIface]) ∧ Bld B b (l ++ s.data.toList) w' ∧ Below B w w' := by
  obtain ⟨i0, hi, hz0, hz1, hz2⟩ := info_parts info_u8
  have hbl : (Lib.byteCells l).length = l.length := by simp [Lib.byteCells]
  have HI := Lib.hid (And.intro hi (And.intro hz0 (And.intro hz1 hz2)))
  clear hi hz0 hz1 hz2
  have HC := Lib.hid (copy_walk B b l w h)
  clear h
  go_enter Tryz.func83, Tryz.ntmps83
  go_wp2_with fail
  refine HC.out.mono ?_
  rintro e w1 ⟨rfl, h1, hb1⟩
  have hlt := h1.lt
  obtain ⟨hB, v, hbk, hown, hne⟩ := h1
  have hbB : Blk w1 b 128 #[.pointer (some ⟨b, 0, none⟩), v] := hbk
  have c0 := hbB.cell 0
  have c1 := hbB.cell 1
  simp at c0 c1
  have HW := Lib.hid (And.intro hB (And.intro hbB (And.intro hown (And.intro hne hb1))))
  clear hB hbk hown hne hb1 hbB
  go_wp2_with (at_builtin; refine Lib.wpList_append_own_string _ rfl _ _ 78 9 rfl B 5 i0 Tryz.underlying78 Tryz.underlying9 HI.out.1 HI.out.2.1 HI.out.2.2.1 HI.out.2.2.2 _ _ _ rfl HW.out.2.2.1 s rfl ?c3 ?c4 ?c5 ?_)
  case c3 => rw [hbl]; unfold maxLen; omega
  case c4 => rw [hbl]; omega
  case c5 => have := HW.out.2.2.2.2.size; omega
  intro v' w2 hown' hgrow _
  have hb2 : Blk w2 b 128 #[.pointer (some ⟨b, 0, none⟩), v] := (hgrow.block b hlt (fun e => HW.out.2.2.2.1 e.symm)).trans HW.out.2.1
  have d0 := hb2.cell 0
  have d1 := hb2.cell 1
  have f1 := hb2.frozen 1
  simp at d0 d1
  obtain ⟨A, k, cap, rfl⟩ := own_slice hown'
  have HX := Lib.hid (And.intro hb2 (And.intro hown' hgrow))
  clear hb2 hown' hgrow c0 c1
  go_wp2
  refine ret_tmps Tryz.results83 rfl ?_
  refine ⟨rfl, .inr ?_, ?_⟩
  · have hsc : Lib.strCells s = Lib.byteCells s.data.toList := by simp [Lib.strCells, Lib.byteCells]
    have := Lib.BuilderAt.put (T := 128) (e := 5) HW.out.1 HX.out.1 (bs' := Lib.byteCells l ++ Lib.strCells s) (by rw [List.length_append, Lib.strCells_length, hbl]; exact HX.out.2.1) (by decide)
    rw [Lib.byteCells_append, ← hsc]
    exact this
  · have hs := HW.out.2.2.2.2.size
    exact (HW.out.2.2.2.2.grown HX.out.2.2 (by omega) (fun k hk => (HW.out.2.2.1.lt k hk).1)).setCell (p := ⟨b, 1, none⟩) HW.out.1 _
end Go.Proofs.YtjieelmbgfnllaaGreatDoor
