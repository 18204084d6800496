/- What the reader's wanted, number, text, end and snapped hand back. Conditions: a line of at most 2^40 bytes. -/
import Derived.Test.YtjieelmbgfnllaaGreatDoorScQuote2
import Derived.Test.YtjieelmbgfnllaaGreatDoorScNum
namespace Go.Proofs.YtjieelmbgfnllaaGreatDoor
open Go.RowKit Scr

theorem next_any (w : World) (r n : Nat) (ts : List Tok) (h : RdT w r n ts) (hn : n ≤ 1099511627776) :
    Calls Tryz.prog 103 #[.pointer (some ⟨r, 0, none⟩)] w (NextPost w r n ts) := by
  obtain ⟨line, a, hb, ha, rfl, rfl⟩ := h
  exact next_walk quote_walk w r line a hb ha hn

theorem next_nil (w : World) (r n : Nat) (h : RdT w r n []) (hn : n ≤ 1099511627776) :
    Calls Tryz.prog 103 #[.pointer (some ⟨r, 0, none⟩)] w fun e w' => e = .returned (.tuple #[.agg #[.int .i64 0, .int .i64 0, .string ⟨#[]⟩], .bool false]) ∧ RdT w' r n [] ∧ Mod [r] w w' :=
  next_any w r n [] h hn
theorem next_cons (w : World) (r n : Nat) (t : Tok) (ts : List Tok) (D : ByteArray) (hD : D = ⟨t.text.toArray⟩) (h : RdT w r n (t :: ts)) (hn : n ≤ 1099511627776) :
    Calls Tryz.prog 103 #[.pointer (some ⟨r, 0, none⟩)] w fun e w' => e = .returned (.tuple #[.agg #[.int .i64 t.kind, .int .i64 t.pos, .string D], .bool true]) ∧ RdT w' r n (if t.kind = 2 then t :: ts else ts) ∧ Mod [r] w w' := by
  subst hD; exact next_any w r n (t :: ts) h hn
theorem next_tok (w : World) (r n : Nat) (t : Tok) (ts : List Tok) (D : ByteArray) (hD : D = ⟨t.text.toArray⟩) (hk : t.kind ≠ 2) (h : RdT w r n (t :: ts)) (hn : n ≤ 1099511627776) :
    Calls Tryz.prog 103 #[.pointer (some ⟨r, 0, none⟩)] w fun e w' => e = .returned (.tuple #[.agg #[.int .i64 t.kind, .int .i64 t.pos, .string D], .bool true]) ∧ RdT w' r n ts ∧ Mod [r] w w' := by
  have := next_cons w r n t ts D hD h hn
  rw [if_neg hk] at this
  exact this

/-- A fault that the call made. -/
def FaultIs (w w' : World) (f : Flt) (v : Value) : Prop :=
  ∃ b, v = .iface 167 (.pointer (some ⟨b, 0, none⟩)) ∧ w.heap.size ≤ b ∧ Blk w' b 169 #[.int .i64 f.1, .int .i64 f.2]

theorem RdT.frame {w w' : World} {S : List Nat} {r n : Nat} {ts : List Tok} (h : RdT w r n ts) (hm : Mod S w w') (hr : r ∉ S) : RdT w' r n ts := by
  obtain ⟨line, a, hb, h2⟩ := h
  exact ⟨line, a, hm.blk hb hr, h2⟩
theorem RdT.lt {w : World} {r n : Nat} {ts : List Tok} (h : RdT w r n ts) : r < w.heap.size := by
  obtain ⟨line, a, hb, _⟩ := h
  exact hb.lt

def WantPost (w : World) (r n : Nat) : List Tok → Ending → World → Prop
  | [], e, w' => ∃ v, e = .returned (.tuple #[encTok none, v]) ∧ FaultIs w w' (n, 204) v ∧ Mod [r] w w'
  | t :: ts, e, w' => if t.kind = 2 then ∃ v, e = .returned (.tuple #[encTok (some t), v]) ∧ FaultIs w w' (t.pos, 200) v ∧ Mod [r] w w'
    else e = .returned (.tuple #[encTok (some t), .nilIface]) ∧ RdT w' r n ts ∧ Mod [r] w w'

theorem want_bad {w w' : World} {r n : Nat} {t : Tok} {ts : List Tok} {e : Ending} (hk : t.kind = 2) (h : ∃ v, e = .returned (.tuple #[encTok (some t), v]) ∧ FaultIs w w' (t.pos, 200) v ∧ Mod [r] w w') : WantPost w r n (t :: ts) e w' := by
  show if t.kind = 2 then _ else _
  rw [if_pos hk]; exact h
theorem want_tok {w w' : World} {r n : Nat} {t : Tok} {ts : List Tok} {e : Ending} (hk : t.kind ≠ 2) (h : e = .returned (.tuple #[encTok (some t), .nilIface]) ∧ RdT w' r n ts ∧ Mod [r] w w') : WantPost w r n (t :: ts) e w' := by
  show if t.kind = 2 then _ else _
  rw [if_neg hk]; exact h

set_option maxRecDepth 100000 in
set_option maxHeartbeats 4000000 in
theorem wanted_walk (w : World) (r n : Nat) (ts : List Tok) (h : RdT w r n ts) (hn : n ≤ 1099511627776) :
    Calls Tryz.prog 163 #[.pointer (some ⟨r, 0, none⟩)] w (WantPost w r n ts) := by
  have hlt := h.lt
  have HR : RdT (w.alloc (.cells #[.int .i64 0, .int .i64 0, .string ⟨#[]⟩] 145)) r n ts := h.frame ((Mod.refl [] w).alloc _) (by simp)
  have HC := Lib.hid (next_any _ r n ts HR hn)
  have H := Lib.hid h
  clear h HR
  go_enter Tryz.func163, Tryz.ntmps163
  go_wp2_with fail
  refine HC.out.mono ?_
  intro e w1 hp
  rcases ts with _ | ⟨t, ts⟩
  · obtain ⟨rfl, hr1, hm1⟩ := hp
    obtain ⟨line, a, hb, _, hl, _⟩ := hr1
    have hres := hm1.blk (Blk.new w 145 #[.int .i64 0, .int .i64 0, .string ⟨#[]⟩]) (by simp; omega)
    simp only [encTok]
    have hc0 := hb.cell 0
    have hcf0 := hb.frozen 0
    simp at hc0
    have hr0 := hres.cell 0
    have hr1 := hres.cell 1
    have hr2 := hres.cell 2
    have hrf0 := hres.frozen 0
    have hrf1 := hres.frozen 1
    have hrf2 := hres.frozen 2
    simp at hr0 hr1 hr2
    have hs1 := hres.lt
    have hs2 := hb.lt
    have HX := Lib.hid (And.intro hres (And.intro hb (And.intro hm1 hl)))
    clear hres hb hm1 hl
    go_wp2
    go_region
    go_wp2
    obtain ⟨hres, hb, hm1, hl⟩ := HX.out
    subst hl
    have hm2 : Mod [r] w w1 := ((Mod.refl [r] w).alloc _).trans hm1
    refine ret_cell_tmp Tryz.results163 rfl ((((((hres.set_ 0 _).set_ 1 _).set_ 2 _).alloc _).alloc _).drew) Tryz.underlying145 rfl (by kernel_rfl) rfl ?_
    have hs3 := hm2.size
    exact ⟨_, rfl, ⟨w1.heap.size + 1, rfl, by omega, (Blk.newAt _ _ _ (by simp)).drew⟩, by (repeat (first | assumption | refine Mod.alloc ?_ _ | refine Mod.drew ?_ | refine Mod.drewN ?_ _ | refine Mod.setCell ?_ (by first | (simp; done) | (simp; omega)) _))⟩
  · obtain ⟨rfl, hrt, hm1⟩ := hp
    have hres := hm1.blk (Blk.new w 145 #[.int .i64 0, .int .i64 0, .string ⟨#[]⟩]) (by simp; omega)
    simp only [encTok]
    have hr0 := hres.cell 0
    have hr1 := hres.cell 1
    have hr2 := hres.cell 2
    have hrf0 := hres.frozen 0
    have hrf1 := hres.frozen 1
    have hrf2 := hres.frozen 2
    simp at hr0 hr1 hr2
    have hs1 := hres.lt
    have HX := Lib.hid (And.intro hres (And.intro hrt hm1))
    clear hres hrt hm1
    by_cases hk : t.kind = 2
    · have hk2 : ((t.kind : Int) == 2) = true := by rw [beq_iff_eq]; omega
      have HK := Lib.hid hk
      clear hk
      go_wp2
      go_region
      go_wp2
      obtain ⟨hres, _, hm1⟩ := HX.out
      have hm2 : Mod [r] w w1 := ((Mod.refl [r] w).alloc _).trans hm1
      refine ret_cell_tmp Tryz.results163 rfl ((((((hres.set_ 0 _).set_ 1 _).set_ 2 _).alloc _).alloc _).drew) Tryz.underlying145 rfl (by kernel_rfl) rfl ?_
      have hs3 := hm2.size
      exact want_bad HK.out ⟨_, rfl, ⟨w1.heap.size + 1, rfl, by omega, (Blk.newAt _ _ _ (by simp)).drew⟩, by (repeat (first | assumption | refine Mod.alloc ?_ _ | refine Mod.drew ?_ | refine Mod.drewN ?_ _ | refine Mod.setCell ?_ (by first | (simp; done) | (simp; omega)) _))⟩
    · have hk2 : ((t.kind : Int) == 2) = false := by rw [beq_eq_false_iff_ne]; omega
      have HK := Lib.hid hk
      clear hk
      go_wp2
      obtain ⟨hres, hrt, hm1⟩ := HX.out
      have hm2 : Mod [r] w w1 := ((Mod.refl [r] w).alloc _).trans hm1
      refine ret_cell_tmp Tryz.results163 rfl ((((hres.set_ 0 _).set_ 1 _).set_ 2 _).alloc _) Tryz.underlying145 rfl (by kernel_rfl) rfl ?_
      rw [if_neg HK.out] at hrt
      refine want_tok HK.out ⟨rfl, hrt.frame (S := [w.heap.size]) ?_ (by simp; omega), by (repeat (first | assumption | refine Mod.alloc ?_ _ | refine Mod.drew ?_ | refine Mod.drewN ?_ _ | refine Mod.setCell ?_ (by first | (simp; done) | (simp; omega)) _))⟩
      exact ((((Mod.refl _ _).setCell (by simp) _).setCell (by simp) _).setCell (by simp) _).alloc _
end Go.Proofs.YtjieelmbgfnllaaGreatDoor
