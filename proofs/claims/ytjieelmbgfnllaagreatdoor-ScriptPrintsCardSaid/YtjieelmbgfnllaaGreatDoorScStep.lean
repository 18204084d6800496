/- Words for a step under way in memory, and what snapped hands back. Conditions: a line of at most 2^40 bytes. -/
import Derived.Test.YtjieelmbgfnllaaGreatDoorScRead2
import Derived.Deep.RegionLaw
namespace Go.Proofs.YtjieelmbgfnllaaGreatDoor
open Go.RowKit Scr

/-- append onto a row of the call's own, as one step of a region that draws. -/
theorem step_append_own {P : Program} {ops : Array Oper} {o : Oper} {a : Act} {w : World} {K : Act → World → Prop} {Q : Exit → Act → World → Prop} {E : Prop} (hgd : o.guard = none) (s x : Operand) (t : TypeId)
    (ho : o.op = .call { callee := .builtin .append, args := #[s, x], argTypes := #[t, t] })
    (base : Nat) (e : TypeId) (i : TypeInfo) (z : Value) (size bytes : Nat) (ht : P.underlying t = some (.slice e)) (hi : P.info? e = some i) (hz : i.zero = some z)
    (hsize : i.size = size) (hby : i.bytes = bytes) (hzs : z.cells.size = size) (hsz : 0 < size)
    (v : Value) (n : Nat) (xs : List Value) (hs : a.eval s = v) (hown : w.ownsRow base e size v n xs)
    (ad : Addr) (m c : Nat) (news : List Value) (hx : a.eval x = .slice (some ad) m c) (hl : news.length = m * size) (hnews : ∀ j u, news[j]? = some u → w.cell? (ad.add j) = some u) (h1 : ∀ u ∈ news, u.oneCell' = true)
    (h63 : n + m ≤ maxLen) (hbytes : (n + m) * bytes ≤ 140737488355328) (hbase : base ≤ w.heap.size)
    (h : ∀ A k c w', w'.ownsRow base e size (.slice A k c) (n + m) (xs ++ news) → w.grownBy w' v.ownBlock → K (a.put o.dst (.slice A k c)) w') :
    if Region.wanted o (yielded ops a.tmps) = true then Oper.wp P o a w K Q else E := by
  rw [if_pos (by simp [Region.wanted, hgd])]
  refine wp_append_own w s x t ho base e i z size bytes ht hi hz hsize hby hzs hsz v n xs hs hown ad m c news hx hl hnews h1 h63 hbytes hbase (fun v' w' a b _ => ?_)
  obtain ⟨A, k, c2, rfl⟩ : ∃ A k c, v' = .slice A k c := by
    rcases a.2 with ⟨rfl, _⟩ | ⟨g, cap, cur, rfl, _⟩
    · exact ⟨_, _, _, rfl⟩
    · exact ⟨_, _, _, rfl⟩
  exact h A k c2 w' a b
theorem cell_three_new (w : World) (a b c : Value) (e : TypeId) : ∀ (j : Nat) (u : Value), [a, b, c][j]? = some u → ((w.alloc (.cells #[a, b, c] e)).cell? ((⟨w.heap.size, 0, none⟩ : Addr).add j)) = some u := by
  intro j u hu
  rcases j with _ | _ | _ | j
  · simp at hu; subst hu
    exact (Blk.newAt w e #[a, b, c] rfl).cell 0
  · simp at hu; subst hu
    exact (Blk.newAt w e #[a, b, c] rfl).cell 1
  · simp at hu; subst hu
    exact (Blk.newAt w e #[a, b, c] rfl).cell 2
  · simp at hu

def encWr (x : Wr) : List Value := [.string ⟨x.key.toArray⟩, .bool x.del, .string ⟨x.val.toArray⟩]
/-- A slice value that owns a batch. -/
def WritesAt (w : World) (lo : Nat) (v : Value) (ws : List Wr) : Prop := w.ownsRow lo 71 3 v ws.length (ws.flatMap encWr)
/-- A slice value that owns numbers. -/
def IntsAt (w : World) (lo : Nat) (v : Value) (ns : List Int) : Prop := w.ownsRow lo 3 1 v ns.length (ns.map (Value.int .i64))

theorem owns_mod {S : List Nat} {w w' : World} {lo : Nat} {e : TypeId} {size : Nat} {v : Value} {n : Nat} {xs : List Value} (h : w.ownsRow lo e size v n xs) (hm : Mod S w w') (hS : ∀ g, v.ownBlock = some g → g ∉ S) : w'.ownsRow lo e size v n xs := by
  refine ⟨h.1, ?_⟩
  rcases h.2 with h0 | ⟨g, cap, cur, rfl, hb, hh, r⟩
  · exact .inl h0
  · have hlt : g < w.heap.size := (Array.getElem?_eq_some_iff.1 hh).1
    exact .inr ⟨g, cap, cur, rfl, hb, (hm.block g hlt (hS g rfl)).trans hh, r⟩
theorem own_lt {w : World} {lo : Nat} {e : TypeId} {size : Nat} {v : Value} {n : Nat} {xs : List Value} (h : w.ownsRow lo e size v n xs) {g : Nat} (hg : v.ownBlock = some g) : g < w.heap.size := by
  rcases h.2 with ⟨rfl, _⟩ | ⟨g', cap, cur, rfl, _, hh, _⟩
  · cases hg
  · have : g' = g := by simpa [Value.ownBlock] using hg
    subst this; exact (Array.getElem?_eq_some_iff.1 hh).1
theorem owns_mono {w : World} {lo lo' : Nat} {e : TypeId} {size : Nat} {v : Value} {n : Nat} {xs : List Value} (h : w.ownsRow lo e size v n xs) (hl : lo' ≤ lo) : w.ownsRow lo' e size v n xs := by
  refine ⟨h.1, ?_⟩
  rcases h.2 with h0 | ⟨g, cap, cur, rfl, hb, r⟩
  · exact .inl h0
  · exact .inr ⟨g, cap, cur, rfl, by omega, r⟩
/-- An owned row is kept where blocks of other element types have turned. -/
theorem owns_far {g : Nat} {t : TypeId} {cs : Array Value} {w : World} {lo : Nat} {e : TypeId} {size : Nat} {v : Value} {n : Nat} {xs : List Value} (h : w.ownsRow lo e size v n xs) (hb : Blk w g t cs) (hne : e ≠ t) {k : Nat} (hk : v.ownBlock = some k) : k ≠ g := by
  intro e2
  subst e2
  exact own_blk_ne h hb hne hk

theorem info_write : (Tryz.prog.info? 71).map (fun i => (i.zero, i.size, i.bytes)) = some (some (.agg #[.string ⟨#[]⟩, .bool false, .string ⟨#[]⟩]), 3, 40) := by kernel_rfl
theorem info_int : (Tryz.prog.info? 3).map (fun i => (i.zero, i.size, i.bytes)) = some (some (.int .i64 0), 1, 8) := by kernel_rfl

/-- The cells of a step are there, whatever they hold; one cell each, if those were that it began with. -/
def SomeStep (w : World) (b : Nat) (cs0 : Array Value) : Prop := ∃ cs, cs.size = 12 ∧ Blk w b 69 cs ∧ (cs0.all (·.oneCell') = true → cs.all (·.oneCell') = true)
theorem all_set {cs : Array Value} {i : Nat} {u : Value} (h : cs.all (·.oneCell') = true) (hu : u.oneCell' = true) : (cs.setIfInBounds i u).all (·.oneCell') = true := by
  rw [Array.all_eq_true_iff_forall_mem] at h ⊢
  intro x hx
  rcases Array.mem_or_eq_of_mem_setIfInBounds hx with h1 | rfl
  · exact h x h1
  · exact hu
theorem some_of {w : World} {b : Nat} {cs : Array Value} (h : Blk w b 69 cs) (hs : cs.size = 12) : SomeStep w b cs := ⟨cs, hs, h, id⟩
theorem some_from {w : World} {b : Nat} {cs cs0 : Array Value} (h : Blk w b 69 cs) (hs : cs.size = 12) (hi : cs0.all (·.oneCell') = true → cs.all (·.oneCell') = true) : SomeStep w b cs0 := ⟨cs, hs, h, hi⟩
theorem SomeStep.from_ {w : World} {b : Nat} {cs cs0 : Array Value} (h : SomeStep w b cs) (hi : cs0.all (·.oneCell') = true → cs.all (·.oneCell') = true) : SomeStep w b cs0 := by
  obtain ⟨x, h1, h2, h3⟩ := h
  exact ⟨x, h1, h2, fun h => h3 (hi h)⟩
theorem own_one {w : World} {lo : Nat} {e : TypeId} {size : Nat} {v : Value} {n : Nat} {xs : List Value} (h : w.ownsRow lo e size v n xs) : v.oneCell' = true := by
  rcases h.2 with ⟨rfl, _⟩ | ⟨g, cap, cur, rfl, _⟩ <;> rfl

def SnapPost (w : World) (r b n : Nat) (cs : Value → Array Value) (ts : List Tok) (e : Ending) (w' : World) : Prop :=
  match snapP n ts with
  | .error f => ∃ v, e = .returned v ∧ FaultIs w w' f v ∧ SomeStep w' b (cs (.int .i64 0)) ∧ Mod [r, b] w w'
  | .ok x => e = .returned .nilIface ∧ RdT w' r n x.2 ∧ Blk w' b 69 (cs (.int .i64 x.1)) ∧ Mod [r, b] w w'
theorem snap_bad {w w' : World} {r b n : Nat} {cs : Value → Array Value} {ts : List Tok} {f : Flt} {e : Ending} (h : snapP n ts = .error f) (h2 : ∃ v, e = .returned v ∧ FaultIs w w' f v ∧ SomeStep w' b (cs (.int .i64 0)) ∧ Mod [r, b] w w') : SnapPost w r b n cs ts e w' := by
  unfold SnapPost; rw [h]; exact h2
theorem snap_good {w w' : World} {r b n : Nat} {cs : Value → Array Value} {ts ts' : List Tok} {x : Int} {e : Ending} (h : snapP n ts = .ok (x, ts')) (h2 : e = .returned .nilIface ∧ RdT w' r n ts' ∧ Blk w' b 69 (cs (.int .i64 x)) ∧ Mod [r, b] w w') : SnapPost w r b n cs ts e w' := by
  unfold SnapPost; rw [h]; exact h2

theorem RdT.ne_step {w : World} {r n b : Nat} {ts : List Tok} {cs : Array Value} (h : RdT w r n ts) (hb : Blk w b 69 cs) : r ≠ b := by
  obtain ⟨line, a, hr, _⟩ := h
  exact hr.ne_ hb (by decide)

set_option maxRecDepth 100000 in
set_option maxHeartbeats 4000000 in
theorem snapped_walk (w : World) (r b n : Nat) (v0 v1 v2 v3 v4 v5 v6 v7 v8 v9 v11 : Value) (ts : List Tok) (h : RdT w r n ts) (hn : n ≤ 1099511627776)
    (hb : Blk w b 69 #[v0, v1, v2, v3, v4, v5, v6, v7, v8, v9, .int .i64 0, v11]) :
    Calls Tryz.prog 231 #[.pointer (some ⟨r, 0, none⟩), .pointer (some ⟨b, 4, none⟩)] w (SnapPost w r b n (fun x => #[v0, v1, v2, v3, v4, v5, v6, v7, v8, v9, x, v11]) ts) := by
  have hrb := h.ne_step hb
  have HB := Lib.hid hb
  clear hb
  rcases ts with _ | ⟨t, ts⟩
  · have HC := Lib.hid (next_nil w r n h hn)
    have HE := Lib.hid (show snapP n [] = .ok (0, []) from rfl)
    clear h
    go_enter Tryz.func231, Tryz.ntmps231
    go_wp2_with fail
    refine HC.out.mono ?_
    rintro e w1 ⟨rfl, hrt, hm⟩
    have H := Lib.hid (And.intro hrt hm)
    clear hrt hm
    go_wp2
    go_ret
    obtain ⟨hrt, hm⟩ := H.out
    refine snap_good HE.out ⟨rfl, hrt.frame ((Mod.refl [] w1).alloc _) (by simp), (hm.blk HB.out (by simp; omega)).alloc _, (hm.mono (by simp)).alloc _⟩
  · obtain ⟨D, hD⟩ : ∃ D : ByteArray, D = ⟨t.text.toArray⟩ := ⟨_, rfl⟩
    have hDl : D.data.toList = t.text := by rw [hD]
    by_cases hs : t.kind = 0 ∧ t.text = wSnap
    · have hk : ((t.kind : Int) != 0) = false := by rw [hs.1]; rfl
      have hx : (D.toList == [115, 110, 97, 112]) = true := by rw [Lib.toList_data, hDl, hs.2]; rfl
      have hEE : snapP n (t :: ts) = numAny n ts := by simp [snapP, hs]
      have HC := Lib.hid (next_tok w r n t ts D hD (by omega) h hn)
      clear hs hD hDl h
      rcases hnum : numAny n ts with f | ⟨x, ts'⟩
      · rw [hnum] at hEE
        have HE := Lib.hid hEE
        have HNm := Lib.hid hnum
        clear hEE hnum
        go_enter Tryz.func231, Tryz.ntmps231
        go_wp2_with fail
        refine HC.out.mono ?_
        rintro e w1 ⟨rfl, hrt, hm⟩
        have H := Lib.hid (And.intro hrt hm)
        clear hrt hm
        go_wp2_with fail
        refine (rnumber_bad _ r n _ _ ts f HNm.out (H.out.1.frame ((Mod.refl [] w1).alloc _) (by simp)) hn).mono ?_
        rintro e w2 ⟨v, rfl, ⟨fb, rfl, hfb, hfk⟩, hm2⟩
        have hb2 := hm2.blk ((H.out.2.blk HB.out (by simp; omega)).alloc (.cells #[.int .i64 t.kind, .int .i64 t.pos, .string D] 145)) (by simp; omega)
        have hc10 := hb2.cell 10
        have hf10 := hb2.frozen 10
        simp at hc10
        have H2 := Lib.hid (And.intro hb2 (And.intro hfb (And.intro hfk hm2)))
        clear hb2 hfb hfk hm2
        go_wp2
        go_ret
        obtain ⟨hb2, hfb, hfk, hm2⟩ := H2.out
        obtain ⟨hrt, hm⟩ := H.out
        have hms := hm.size
        have hne : fb ≠ b := by have := HB.out.lt; simp at hfb; omega
        refine snap_bad HE.out ⟨_, rfl, ⟨fb, rfl, by simp at hfb; omega, hfk.far (p := ⟨b, 10, none⟩) hne _⟩, some_from (hb2.set_ 10 _) rfl (fun h => all_set h rfl), ?_⟩
        exact (((hm.mono (by simp)).alloc _).trans (hm2.mono (by simp))).setCell (by simp) _
      · rw [hnum] at hEE
        have HE := Lib.hid hEE
        have HNm := Lib.hid hnum
        clear hEE hnum
        go_enter Tryz.func231, Tryz.ntmps231
        go_wp2_with fail
        refine HC.out.mono ?_
        rintro e w1 ⟨rfl, hrt, hm⟩
        have H := Lib.hid (And.intro hrt hm)
        clear hrt hm
        go_wp2_with fail
        refine (rnumber_good _ r n _ _ x ts ts' HNm.out (H.out.1.frame ((Mod.refl [] w1).alloc _) (by simp)) hn).mono ?_
        rintro e w2 ⟨rfl, hrt2, hm2⟩
        have hb2 := hm2.blk ((H.out.2.blk HB.out (by simp; omega)).alloc (.cells #[.int .i64 t.kind, .int .i64 t.pos, .string D] 145)) (by simp; omega)
        have hc10 := hb2.cell 10
        have hf10 := hb2.frozen 10
        simp at hc10
        have H2 := Lib.hid (And.intro hb2 (And.intro hrt2 hm2))
        clear hb2 hrt2 hm2
        go_wp2
        go_ret
        obtain ⟨hb2, hrt2, hm2⟩ := H2.out
        obtain ⟨hrt, hm⟩ := H.out
        refine snap_good HE.out ⟨rfl, hrt2.frame (S := [b]) ((Mod.refl _ w2).setCell (by simp) _) (by simp; omega), hb2.set_ 10 _, ?_⟩
        exact (((hm.mono (by simp)).alloc _).trans (hm2.mono (by simp))).setCell (by simp) _
    · have HE := Lib.hid (show snapP n (t :: ts) = .error (t.pos, 200) from by simp [snapP, hs])
      have hno : ((t.kind : Int) != 0) = true ∨ (((t.kind : Int) != 0) = false ∧ (D.toList == [115, 110, 97, 112]) = false) := by
        by_cases h0 : t.kind = 0
        · right
          refine ⟨by rw [h0]; rfl, ?_⟩
          rw [Lib.toList_data, hDl, beq_eq_false_iff_ne]
          exact fun h2 => hs ⟨h0, h2⟩
        · left; rw [bne_iff_ne]; omega
      have HC := Lib.hid (next_cons w r n t ts D hD h hn)
      clear hs hD hDl h
      rcases hno with hk | ⟨hk, hx⟩
      all_goals
        go_enter Tryz.func231, Tryz.ntmps231
        go_wp2_with fail
        refine HC.out.mono ?_
        rintro e w1 ⟨rfl, hrt, hm⟩
        have H := Lib.hid (And.intro hrt hm)
        clear hrt hm
        go_wp2
        go_ret
        obtain ⟨hrt, hm⟩ := H.out
        have hms := hm.size
        have hb2 := hm.blk HB.out (by simp; omega)
        exact snap_bad HE.out ⟨_, rfl, ⟨w1.heap.size + 1, rfl, by omega, Blk.newAt _ _ _ (by simp)⟩, some_of ((hb2.alloc _).alloc _) rfl, ((hm.mono (by simp)).alloc _).alloc _⟩
end Go.Proofs.YtjieelmbgfnllaaGreatDoor
