/- operated: a submission's line, but for a batch and a scan. Conditions: the table of powers is laid; the operation is within bounds. -/
import Derived.Test.YtjieelmbgfnllaaGreatDoorScItoa
namespace Go.Proofs.YtjieelmbgfnllaaGreatDoor
open Go.RowKit Scr

def opV (o : OpS) (wv : Value) : Array Value := #[.int .i64 o.kind, wv, .bool o.sync, .string ⟨o.key.toArray⟩, .string ⟨o.til.toArray⟩, .int .i64 o.n, .int .i64 o.snap]
/-- The bounds of an operation. -/
def OpNice (o : OpS) : Prop := o.key.length ≤ 70000 ∧ o.til.length ≤ 70000 ∧ o.writes.length ≤ 70000 ∧ (∀ x ∈ o.writes, x.key.length ≤ 70000 ∧ x.val.length ≤ 70000) ∧ I64 o.n ∧ I64 o.snap
def Line (w : World) (l : Bs) (e : Ending) (w' : World) : Prop := e = .returned (.string ⟨l.toArray⟩) ∧ Mod [] w w'
theorem str_is {D : ByteArray} {l : Bs} (h : D.data.toList = l) : D = ⟨l.toArray⟩ := by
  apply ByteArray.ext; apply Array.toList_inj.1; rw [h]
theorem Line.of {w w' : World} {l : Bs} {e : Ending} (D : ByteArray) (he : e = .returned (.string D)) (hD : D.data.toList = l) (hm : Mod [] w w') : Line w l e w' := ⟨by rw [he, str_is hD], hm⟩
/-- A list of bytes as a string of so many bytes at most. -/
theorem as_str (l : Bs) (n : Nat) (h : l.length ≤ n) : ∃ D : ByteArray, D.data.toList = l ∧ D.size ≤ n := ⟨⟨l.toArray⟩, rfl, by rw [Lib.size_eq]; exact h⟩
theorem itoa_str (D : ByteArray) (n : Int) (hD : D.data.toList = Lib.itoa n) (hn : I64 n) (w : World) (ht : tabIs w) : Calls Tryz.prog 147 #[.int .i64 n] w fun e w' => e = .returned (.string D) ∧ Mod [] w w' := by
  refine (itoa_walk n hn w ht).mono ?_
  rintro e w' ⟨rfl, hm⟩
  exact ⟨by rw [str_is hD], hm⟩
theorem quoting_str (D : ByteArray) (l : Bs) (hD : D.data.toList = quotingL l) (hl : l.length ≤ 70000) (w : World) : Calls Tryz.prog 217 #[.string ⟨l.toArray⟩] w fun e w' => e = .returned (.string D) ∧ Mod [] w w' := by
  refine (quoting_walk w ⟨l.toArray⟩ (by rw [Lib.size_eq]; simp; omega)).mono ?_
  rintro e w' ⟨rfl, hm⟩
  exact ⟨by rw [str_is hD], hm⟩
theorem snapS_le (n : Int) (hn : I64 n) : (snapS n).length ≤ 30 := by
  have := itoa_le n hn
  unfold snapS; split <;> simp; omega
theorem quoting_le2 (l : Bs) (h : l.length ≤ 70000) : (quotingL l).length ≤ 280002 := by have := quoting_le l; omega
theorem app_str (a b : ByteArray) : (a ++ b).data.toList = a.data.toList ++ b.data.toList := by simp

section
variable (w : World) (o : OpS) (wv : Value) (client : ByteArray)
set_option maxRecDepth 100000 in
set_option maxHeartbeats 4000000 in
theorem operated_plain (K : Int) (word : Bs) (hK : (K = 2 ∧ word = wSync) ∨ (K = 5 ∧ word = wSnap)) (hn : OpNice o) (hk : o.kind = K) (hc : client.size ≤ 100) (ht : tabIs w) :
    Calls Tryz.prog 148 #[.agg (opV o wv), .string client] w (Line w (operatedL o client.data.toList)) := by
  have HL := Lib.hid (show operatedL o client.data.toList = word ++ client.data.toList by unfold operatedL; rw [hk]; rcases hK with ⟨rfl, rfl⟩ | ⟨rfl, rfl⟩ <;> rfl)
  have HT := Lib.hid ht
  have HN := Lib.hid hn
  obtain ⟨I, hI, hIs⟩ := as_str (Lib.itoa o.snap) 20 (itoa_le _ hn.2.2.2.2.2)
  unfold opV
  rw [hk]
  clear ht hn hk
  by_cases hs : o.snap = 0
  · have hs0 : (o.snap != 0) = false := by simp [hs]
    clear hs
    rcases hK with ⟨rfl, rfl⟩ | ⟨rfl, rfl⟩
    all_goals
      go_enter Tryz.func148, Tryz.ntmps148
      go_wp2
      go_ret
      exact Line.of _ rfl (by rw [HL.out, app_str]; rfl) ((Mod.refl [] w).alloc _)
  · have hs0 : (o.snap != 0) = true := by simp [hs]
    clear hs
    rcases hK with ⟨rfl, rfl⟩ | ⟨rfl, rfl⟩
    all_goals
      go_enter Tryz.func148, Tryz.ntmps148
      go_wp2_with fail
      refine (itoa_str I _ hI HN.out.2.2.2.2.2 _ (tab_new HT.out ((Mod.refl [] w).alloc _))).mono ?_
      rintro e w2 ⟨rfl, hm2⟩
      have hB2 := hm2.blk (Blk.new w _ _) (by simp)
      have hq0 := hB2.cell 0
      have hq1 := hB2.cell 1
      have hq2 := hB2.cell 2
      have hq3 := hB2.cell 3
      have hq4 := hB2.cell 4
      have hq5 := hB2.cell 5
      have hq6 := hB2.cell 6
      have hqf0 := hB2.frozen 0
      have hqf1 := hB2.frozen 1
      have hqf2 := hB2.frozen 2
      have hqf3 := hB2.frozen 3
      have hqf4 := hB2.frozen 4
      have hqf5 := hB2.frozen 5
      have hqf6 := hB2.frozen 6
      simp at hq0 hq1 hq2 hq3 hq4 hq5 hq6
      have H2 := Lib.hid (((Mod.refl [] w).alloc _).trans hm2)
      clear hm2 hB2
      go_wp2
      go_ret
      exact Line.of _ rfl (by rw [HL.out, app_str]; rfl) H2.out

set_option maxRecDepth 100000 in
set_option maxHeartbeats 4000000 in
theorem operated_get (hn : OpNice o) (hk : o.kind = 3) (hc : client.size ≤ 100) (ht : tabIs w) :
    Calls Tryz.prog 148 #[.agg (opV o wv), .string client] w (Line w (operatedL o client.data.toList)) := by
  have HL := Lib.hid (show operatedL o client.data.toList = wGet ++ client.data.toList ++ [32] ++ quotingL o.key ++ snapS o.snap by unfold operatedL; rw [hk]; rfl)
  have HT := Lib.hid ht
  have HN := Lib.hid hn
  obtain ⟨I, hI, hIs⟩ := as_str (Lib.itoa o.snap) 20 (itoa_le _ hn.2.2.2.2.2)
  obtain ⟨U, hU, hUs⟩ := as_str (quotingL o.key) 280002 (quoting_le2 _ hn.1)
  unfold opV
  rw [hk]
  clear ht hn hk
  by_cases hs : o.snap = 0
  · have hs0 : (o.snap != 0) = false := by simp [hs]
    have HS := Lib.hid (show snapS o.snap = [] by unfold snapS; rw [if_pos hs])
    clear hs
    go_enter Tryz.func148, Tryz.ntmps148
    go_wp2_with fail
    refine (quoting_str U _ hU HN.out.1 _).mono ?_
    rintro e w3 ⟨rfl, hm3⟩
    have H3 := Lib.hid (((Mod.refl [] w).alloc _).trans hm3)
    clear hm3
    go_wp2
    go_ret
    exact Line.of _ rfl (by rw [HL.out, HS.out, app_str, app_str, app_str, app_str, hU]; rfl) H3.out
  · have hs0 : (o.snap != 0) = true := by simp [hs]
    have HS := Lib.hid (show snapS o.snap = [32, 115, 110, 97, 112, 32] ++ Lib.itoa o.snap by unfold snapS; rw [if_neg hs])
    clear hs
    go_enter Tryz.func148, Tryz.ntmps148
    go_wp2_with fail
    refine (itoa_str I _ hI HN.out.2.2.2.2.2 _ (tab_new HT.out ((Mod.refl [] w).alloc _))).mono ?_
    rintro e w2 ⟨rfl, hm2⟩
    have hB2 := hm2.blk (Blk.new w _ _) (by simp)
    have hq0 := hB2.cell 0
    have hq1 := hB2.cell 1
    have hq2 := hB2.cell 2
    have hq3 := hB2.cell 3
    have hq4 := hB2.cell 4
    have hq5 := hB2.cell 5
    have hq6 := hB2.cell 6
    have hqf0 := hB2.frozen 0
    have hqf1 := hB2.frozen 1
    have hqf2 := hB2.frozen 2
    have hqf3 := hB2.frozen 3
    have hqf4 := hB2.frozen 4
    have hqf5 := hB2.frozen 5
    have hqf6 := hB2.frozen 6
    simp at hq0 hq1 hq2 hq3 hq4 hq5 hq6
    have H2 := Lib.hid (((Mod.refl [] w).alloc _).trans hm2)
    clear hm2 hB2
    go_wp2_with fail
    refine (quoting_str U _ hU HN.out.1 _).mono ?_
    rintro e w3 ⟨rfl, hm3⟩
    have H3 := Lib.hid (H2.out.trans hm3)
    clear hm3
    go_wp2
    go_ret
    exact Line.of _ rfl (by rw [HL.out, HS.out, app_str, app_str, app_str, app_str, app_str, hU, hI]; rfl) H3.out

set_option maxRecDepth 100000 in
set_option maxHeartbeats 4000000 in
theorem operated_release (hn : OpNice o) (hk : o.kind = 6) (hc : client.size ≤ 100) (ht : tabIs w) :
    Calls Tryz.prog 148 #[.agg (opV o wv), .string client] w (Line w (operatedL o client.data.toList)) := by
  have HL := Lib.hid (show operatedL o client.data.toList = wRelease ++ client.data.toList ++ [32] ++ Lib.itoa o.snap by unfold operatedL; rw [hk]; rfl)
  have HT := Lib.hid ht
  have HN := Lib.hid hn
  obtain ⟨I, hI, hIs⟩ := as_str (Lib.itoa o.snap) 20 (itoa_le _ hn.2.2.2.2.2)
  unfold opV
  rw [hk]
  clear ht hn hk
  by_cases hs : o.snap = 0
  · have hs0 : (o.snap != 0) = false := by simp [hs]
    clear hs
    go_enter Tryz.func148, Tryz.ntmps148
    go_wp2_with fail
    refine (itoa_str I _ hI HN.out.2.2.2.2.2 _ (tab_new HT.out ((Mod.refl [] w).alloc _))).mono ?_
    rintro e w3 ⟨rfl, hm3⟩
    have H3 := Lib.hid (((Mod.refl [] w).alloc _).trans hm3)
    clear hm3
    go_wp2
    go_ret
    exact Line.of _ rfl (by rw [HL.out, app_str, app_str, app_str, hI]; rfl) H3.out
  · have hs0 : (o.snap != 0) = true := by simp [hs]
    clear hs
    go_enter Tryz.func148, Tryz.ntmps148
    go_wp2_with fail
    refine (itoa_str I _ hI HN.out.2.2.2.2.2 _ (tab_new HT.out ((Mod.refl [] w).alloc _))).mono ?_
    rintro e w2 ⟨rfl, hm2⟩
    have hB2 := hm2.blk (Blk.new w _ _) (by simp)
    have hq0 := hB2.cell 0
    have hq1 := hB2.cell 1
    have hq2 := hB2.cell 2
    have hq3 := hB2.cell 3
    have hq4 := hB2.cell 4
    have hq5 := hB2.cell 5
    have hq6 := hB2.cell 6
    have hqf0 := hB2.frozen 0
    have hqf1 := hB2.frozen 1
    have hqf2 := hB2.frozen 2
    have hqf3 := hB2.frozen 3
    have hqf4 := hB2.frozen 4
    have hqf5 := hB2.frozen 5
    have hqf6 := hB2.frozen 6
    simp at hq0 hq1 hq2 hq3 hq4 hq5 hq6
    have H2 := Lib.hid (((Mod.refl [] w).alloc _).trans hm2)
    clear hm2 hB2
    go_wp2_with fail
    refine (itoa_str I _ hI HN.out.2.2.2.2.2 _ (tab_new HT.out H2.out)).mono ?_
    rintro e w3 ⟨rfl, hm3⟩
    have H3 := Lib.hid (H2.out.trans hm3)
    clear hm3
    go_wp2
    go_ret
    exact Line.of _ rfl (by rw [HL.out, app_str, app_str, app_str, hI]; rfl) H3.out

set_option maxRecDepth 100000 in
set_option maxHeartbeats 4000000 in
theorem operated_none (hn : OpNice o) (h1 : o.kind ≠ 1) (h2 : o.kind ≠ 2) (h3 : o.kind ≠ 3) (h4 : o.kind ≠ 4) (h5 : o.kind ≠ 5) (h6 : o.kind ≠ 6) (ht : tabIs w) :
    Calls Tryz.prog 148 #[.agg (opV o wv), .string client] w (Line w (operatedL o client.data.toList)) := by
  have HL := Lib.hid (show operatedL o client.data.toList = [] by unfold operatedL; rw [if_neg h1, if_neg h2, if_neg h3, if_neg h4, if_neg h5, if_neg h6])
  have HT := Lib.hid ht
  have HN := Lib.hid hn
  obtain ⟨I, hI, hIs⟩ := as_str (Lib.itoa o.snap) 20 (itoa_le _ hn.2.2.2.2.2)
  unfold opV
  have k1 : (o.kind == 1) = false := by simpa using h1
  have k2 : (o.kind == 2) = false := by simpa using h2
  have k3 : (o.kind == 3) = false := by simpa using h3
  have k4 : (o.kind == 4) = false := by simpa using h4
  have k5 : (o.kind == 5) = false := by simpa using h5
  have k6 : (o.kind == 6) = false := by simpa using h6
  clear ht hn h1 h2 h3 h4 h5 h6
  by_cases hs : o.snap = 0
  · have hs0 : (o.snap != 0) = false := by simp [hs]
    clear hs
    go_enter Tryz.func148, Tryz.ntmps148
    go_wp2
    go_ret
    exact Line.of _ rfl (by rw [HL.out]) ((Mod.refl [] w).alloc _)
  · have hs0 : (o.snap != 0) = true := by simp [hs]
    clear hs
    go_enter Tryz.func148, Tryz.ntmps148
    go_wp2_with fail
    refine (itoa_str I _ hI HN.out.2.2.2.2.2 _ (tab_new HT.out ((Mod.refl [] w).alloc _))).mono ?_
    rintro e w2 ⟨rfl, hm2⟩
    have hB2 := hm2.blk (Blk.new w _ _) (by simp)
    have hq0 := hB2.cell 0
    have hq1 := hB2.cell 1
    have hq2 := hB2.cell 2
    have hq3 := hB2.cell 3
    have hq4 := hB2.cell 4
    have hq5 := hB2.cell 5
    have hq6 := hB2.cell 6
    have hqf0 := hB2.frozen 0
    have hqf1 := hB2.frozen 1
    have hqf2 := hB2.frozen 2
    have hqf3 := hB2.frozen 3
    have hqf4 := hB2.frozen 4
    have hqf5 := hB2.frozen 5
    have hqf6 := hB2.frozen 6
    simp at hq0 hq1 hq2 hq3 hq4 hq5 hq6
    have H2 := Lib.hid (((Mod.refl [] w).alloc _).trans hm2)
    clear hm2 hB2
    go_wp2
    go_ret
    exact Line.of _ rfl (by rw [HL.out]) H2.out
end
end Go.Proofs.YtjieelmbgfnllaaGreatDoor
