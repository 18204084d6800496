/- What ends does: a repeat's body is unfolded. Conditions: a line of at most 2^40 bytes. -/
import Derived.Test.YtjieelmbgfnllaaGreatDoorScPar
namespace Go.Proofs.YtjieelmbgfnllaaGreatDoor
open Go.RowKit Scr

/-- While the body is unfolded: done are the steps that stand behind the first ones. -/
def Unf (w0 : World) (lo p r n g : Nat) (ts : List Tok) (rs : List RStep) (bg ot : Int) (done : List StepS) (v : Value) (wx : World) : Prop :=
  ∃ more : List RStep, more.map (·.1) = done ∧ Rich wx lo v (rs ++ more) ∧ Lens (rs ++ more) ∧ Blk wx p 99 #[v, .int .i64 bg, .int .i64 ot] ∧ RdT wx r n ts ∧ Low lo [p] w0 wx ∧ lo ≤ wx.heap.size ∧
    wx.rangeAt g 0 (rs.flatMap rowOf) ∧ g < wx.heap.size

/-- A copy of a step joins them. -/
theorem unf_step {w0 wr W w7 : World} {lo p r n g : Nat} {ts : List Tok} {rs more : List RStep} {bg ot : Int} {done : List StepS} {v wv kv : Value} {x : RStep} {V : World} {A : Option Addr} {kk cc : Nat}
    (hmore : more.map (·.1) = done) (hrich : Rich wr lo v (rs ++ more)) (hlens : Lens (rs ++ more)) (hrt : RdT wr r n ts) (hlow : Low lo [p] w0 wr) (hls : lo ≤ wr.heap.size)
    (hrange : wr.rangeAt g 0 (rs.flatMap rowOf)) (hgl : g < wr.heap.size) (hx : x ∈ rs) (hrp : r ≠ p) (hgp : g ≠ p)
    (hmW : Mod [] wr W) (hwv : WritesAt W wr.heap.size wv x.1.op.writes) (hkv : IntsAt W wr.heap.size kv x.1.keep)
    (hM2 : Mod [] W V) (hg7 : V.grownBy w7 v.ownBlock)
    (hown7 : w7.ownsRow lo 69 12 (.slice A kk cc) ((rs ++ more).length + 1) ((rs ++ more).flatMap rowOf ++ rowOf (x.1, wv, kv)))
    (hkeep : ∀ g, v.ownBlock = some g → ∀ j u, ((rs ++ more).flatMap rowOf)[j]? = some u → w7.cell? ⟨g, j, none⟩ = some u)
    (hb7 : Blk w7 p 99 #[v, .int .i64 bg, .int .i64 ot]) :
    Unf w0 lo p r n g ts rs bg ot (done ++ [x.1]) (.slice A kk cc) (w7.setCell ⟨p, 0, none⟩ (.slice A kk cc)) := by
  have hWsz := hmW.size
  have hrW := hrich.new hmW
  have hM2' : Mod [] wr V := hmW.trans hM2
  have hr2 := hrich.new hM2'
  have hpush : Rich w7 lo (.slice A kk cc) ((rs ++ more) ++ [(x.1, wv, kv)]) := Rich.push (x := (x.1, wv, kv)) hrich hr2 hg7 hown7 (owns_mod hwv hM2 (by simp)) (owns_mod hkv hM2 (by simp)) hls
  have hMp : Mod [p] w7 (w7.setCell ⟨p, 0, none⟩ (.slice A kk cc)) := (Mod.refl _ _).setCell (by simp) _
  have hs7 := hg7.size
  have hvr : v.ownBlock ≠ some r := fun e => hrt.far hrich.1 (by decide) e rfl
  refine ⟨more ++ [(x.1, wv, kv)], by simp [hmore], ?_, ?_, hb7.set_ 0 _, ?_, ?_, ?_, ?_, ?_⟩
  · rw [← List.append_assoc]
    refine hpush.typed hMp (fun g hg => ?_)
    simp at hg; subst hg
    exact ⟨_, _, hb7, by decide, by decide, by decide⟩
  · intro y hy
    rw [← List.append_assoc] at hy
    rcases List.mem_append.1 hy with hy | hy
    · exact hlens y hy
    · simp at hy; subst hy
      exact hlens x (List.mem_append_left _ hx)
  · have h2 : RdT V r n ts := hrt.frame hM2' (by simp)
    have hrl := h2.lt
    have h3 : RdT w7 r n ts := by
      obtain ⟨line, a, hb, h4⟩ := h2
      exact ⟨line, a, (hg7.block r hrl (fun e => hvr e.symm)).trans hb, h4⟩
    exact h3.frame hMp (by simpa using hrp)
  · have h1 : Low lo [p] w0 V := hlow.trans (hM2'.low hls (by simp))
    have h2 := h1.grown hg7 (fun k hk => own_ge hrich.1 hk) (by have := hM2'.size; omega)
    exact h2.setCell (by simp) _
  · have := hM2'.size; simp; omega
  · intro j u hu
    have h2 : V.cell? ⟨g, 0 + j, none⟩ = some u := hM2'.cell (hrange j u hu) (by simp)
    have h3 : w7.cell? ⟨g, 0 + j, none⟩ = some u := by
      by_cases hgv : v.ownBlock = some g
      · have := hkeep g hgv j u (by rw [List.flatMap_append, List.getElem?_append_left (List.getElem?_eq_some_iff.1 hu).1]; exact hu)
        simpa using this
      · rw [← h2]
        exact World.cell?_of_block (hg7.block g (by have := hM2'.size; omega) (fun e => hgv e.symm))
    rw [World.cell?_setCell_other]
    · exact h3
    · intro e
      injection e with e1 e2
      exact hgp e1.symm
  · have := hM2'.size; simp; omega

theorem Unf.mod {w0 w1 w2 : World} {lo p r n g : Nat} {ts : List Tok} {rs : List RStep} {bg ot : Int} {done : List StepS} {v : Value} (h : Unf w0 lo p r n g ts rs bg ot done v w1) (hm : Mod [] w1 w2) : Unf w0 lo p r n g ts rs bg ot done v w2 := by
  obtain ⟨more, h1, h2, h3, h4, h5, h6, h7, h8, h9⟩ := h
  have := hm.size
  exact ⟨more, h1, h2.new hm, h3, hm.blk h4 (by simp), h5.frame hm (by simp), h6.trans (hm.low h7 (by simp)), by omega, fun j u hu => hm.cell (h8 j u hu) (by simp), by omega⟩
theorem cells_new (w : World) (l : List Value) (e : TypeId) : ∀ (j : Nat) (u : Value), l[j]? = some u → ((w.alloc (.cells l.toArray e)).cell? ((⟨w.heap.size, 0, none⟩ : Addr).add j)) = some u := by
  intro j u hu
  rw [Addr.add_mid, Nat.zero_add]
  have := (Blk.newAt w e l.toArray rfl).cell j
  rw [this]; simpa using hu
theorem encs_one (l : List Wr) : ∀ u ∈ l.flatMap encWr, u.oneCell' = true := by
  intro u hu
  obtain ⟨x, _, hx⟩ := List.mem_flatMap.1 hu
  simp only [encWr, List.mem_cons, List.not_mem_nil, or_false] at hx
  rcases hx with rfl | rfl | rfl <;> rfl
theorem ints_one (l : List Int) : ∀ u ∈ l.map (Value.int .i64), u.oneCell' = true := by
  intro u hu
  obtain ⟨x, _, rfl⟩ := List.mem_map.1 hu
  rfl
theorem ints_after {w w3 : World} {lo : Nat} {v u : Value} {l : List Int} (h : IntsAt w lo v l) (hm : Mod [] w w3) : IntsAt (w3.setCell ⟨w.heap.size, 5, none⟩ u) lo v l :=
  owns_mod (owns_mod h hm (by simp)) ((Mod.refl [w.heap.size] w3).setCell (by simp) _) (fun g hg => by have := own_lt h hg; simp; omega)
theorem wpList_store_step {ops : Array Oper} {rest : List Oper} {o : Oper} {a : Act} {w : World} {Q : Exit → Act → World → Prop} (hgd : o.guard = none) (x y : Operand) (ho : o.op = .store 69 x y)
    (g : Nat) (cells : Array Value) (hx : a.eval x = .pointer (some ⟨g, 0, none⟩)) (hy : a.eval y = .agg cells)
    (old : Array Value) (hg : Blk w g 69 old) (hc : cells.size = 12) (hold : old.size = cells.size) (h1 : cells.all (·.oneCell') = true)
    (h : ∀ w', w'.heap.size = w.heap.size → Blk w' g 69 cells → Mod [g] w w' → wpList Tryz.prog ops Q rest (a.put o.dst undef) w') : wpList Tryz.prog ops Q (o :: rest) a w :=
  wpList_store_row hgd 69 x y ho g cells hx hy 69 old hg (size_step _ hc) hold h1 (h _ (by simp) hg.setRow ((Mod.refl _ _).setRow (.inl (by simp)) _))

theorem rich_shape {w : World} {lo p r n : Nat} {cs : Array Value} {v : Value} {rs : List RStep} {ts : List Tok} (h : Rich w lo v rs) (hp : Blk w p 99 cs) (hr : RdT w r n ts) (hrp : r ≠ p) :
    ∃ A cap g, v = .slice A rs.length cap ∧ rs.length ≤ cap ∧ g < w.heap.size ∧ g ≠ p ∧ w.rangeAt g 0 (rs.flatMap rowOf) ∧ (0 < rs.length → A = some ⟨g, 0, none⟩) := by
  rcases h.1.2 with ⟨hv, h0⟩ | ⟨g, cap, cur, hv, _, hh, hnc, _⟩
  · have hrs : rs = [] := List.eq_nil_of_length_eq_zero h0
    subst hrs
    exact ⟨none, 0, r, hv, Nat.le_refl _, hr.lt, hrp, by intro j u hu; simp at hu, by simp⟩
  · refine ⟨_, cap, g, hv, hnc, (Array.getElem?_eq_some_iff.1 hh).1, ?_, ?_, fun _ => rfl⟩
    · exact owns_far h.1 hp (by decide) (by rw [hv]; rfl)
    · intro j u hu
      have := h.1.cells (g := g) (by rw [hv]; rfl) j u hu
      rwa [Addr.add_mid] at this

set_option maxRecDepth 100000 in
set_option maxHeartbeats 4000000 in
theorem ends_fine (w : World) (lo p r n b k : Nat) (tk : Int) (tp : Int) (tt : ByteArray) (ts : List Tok) (rs : List RStep) (hp : Par w lo p rs (some (b, k))) (hfew : b + (rs.length - b) * k ≤ 20000)
    (h : RdT w r n ts) (hn : n ≤ 1099511627776) (hrp : r ≠ p) :
    Calls Tryz.prog 106 #[.pointer (some ⟨p, 0, none⟩), .pointer (some ⟨r, 0, none⟩), .agg #[.int .i64 tk, .int .i64 tp, .string tt]] w (fun e w' => (∀ f, fin ts = .error f → ∃ v, e = .returned v ∧ FaultIs w w' f v) ∧ (fin ts = .ok () → e = .returned .nilIface ∧ ∃ rs' : List RStep, rs'.map (·.1) = (rs.map (·.1)).take b ++ times k ((rs.map (·.1)).drop b) ∧ Par w' lo p rs' none) ∧ Low lo [p, r] w w') := by
  obtain ⟨v, bg, ot, hb, ⟨rfl, rfl, hbl, hk1, hk2⟩, hrich, hlens, hlen, hls⟩ := hp
  obtain ⟨A, cap, g, rfl, hcap, hg, hgp, hrange, hA⟩ := rich_shape hrich hb h hrp
  obtain ⟨iw, hi, hz0, hz1, hz2⟩ := info_parts info_write
  have HI := Lib.hid (And.intro hi (And.intro hz0 (And.intro hz1 hz2)))
  clear hi hz0 hz1 hz2
  obtain ⟨ii, hi, hz0, hz1, hz2⟩ := info_parts info_int
  have HJ := Lib.hid (And.intro hi (And.intro hz0 (And.intro hz1 hz2)))
  clear hi hz0 hz1 hz2
  obtain ⟨is, hi, hz0, hz1, hz2⟩ := info_parts info_step
  have HS := Lib.hid (And.intro hi (And.intro hz0 (And.intro hz1 hz2)))
  clear hi hz0 hz1 hz2
  have hpl := hb.lt
  have hc0 := hb.cell 0
  have hc1 := hb.cell 1
  have hc2 := hb.cell 2
  have hcf0 := hb.frozen 0
  have hcf1 := hb.frozen 1
  have hcf2 := hb.frozen 2
  simp at hc0 hc1 hc2
  have hm0 : Mod [] w (w.alloc (Obj.cells #[Value.int IntKind.i64 tk, Value.int IntKind.i64 tp, Value.string tt] 145)) := (Mod.refl _ _).alloc _
  have H := Lib.hid (And.intro hb (And.intro hrich (And.intro hlens (And.intro h (And.intro hrange (And.intro hA (And.intro hm0 hfew)))))))
  clear hb hrich h hlens hrange hA hm0 hfew
  go_enter Tryz.func106, Tryz.ntmps106
  go_wp2
  clear hc0 hc1 hc2 hcf0 hcf1 hcf2
  generalize hW : w.alloc (Obj.cells #[Value.int IntKind.i64 tk, Value.int IntKind.i64 tp, Value.string tt] 145) = W0
  obtain ⟨hb, hrich, hlens, h, hrange, hA, hm0, hfew⟩ := H.out
  rw [hW] at hm0
  clear H hW
  have hb0 := hm0.blk hb (by simp)
  have hrich0 := hrich.new hm0
  have h0 := h.frame hm0 (by simp)
  have hrange0 : W0.rangeAt g 0 (rs.flatMap rowOf) := fun j u hu => hm0.cell (hrange j u hu) (by simp)
  have hs0 := hm0.size
  have hpl0 := hb0.lt
  have hc0 := hb0.cell 0
  have hc1 := hb0.cell 1
  have hc2 := hb0.cell 2
  have hcf0 := hb0.frozen 0
  have hcf1 := hb0.frozen 1
  have hcf2 := hb0.frozen 2
  simp at hc0 hc1 hc2
  have hbi : (b : Int) ≤ (rs.length : Int) := by omega
  obtain ⟨m, hm⟩ : ∃ m, m = rs.length - b := ⟨_, rfl⟩
  have H := Lib.hid (And.intro hb0 (And.intro hrich0 (And.intro hlens (And.intro h0 (And.intro hrange0 (And.intro hA (And.intro hm0 (And.intro hfew hm))))))))
  clear hb hrich hlens h hrange hA hm0 hfew hb0 hrich0 h0 hrange0 hm
  go_region
  obtain ⟨B, hBd⟩ : ∃ B, B = (if cap = b then A else Option.map (fun x => x.add (b * 12)) A) := ⟨_, rfl⟩
  obtain ⟨c2, hc2d⟩ : ∃ c2, c2 = cap - b := ⟨_, rfl⟩
  obtain ⟨hb, hrich, hlens, h, hrange, hA, hm0, hfew, hm⟩ := H.out
  rw [← hBd, ← hm, ← hc2d]
  have hB : 0 < m → B = some ⟨g, b * 12, none⟩ := fun h0 => by
    rw [hBd, if_neg (by omega), hA (by omega)]
    simp [Addr.add]
    exact fun e => e.symm
  obtain ⟨M, hM⟩ : ∃ M : Int, M = (m : Int) * (k : Int) := ⟨_, rfl⟩
  have hM2 : 0 ≤ M ∧ (b : Int) + M ≤ 20000 := by
    rw [← hm] at hfew
    refine ⟨by rw [hM]; exact Int.mul_nonneg (by omega) (by omega), ?_⟩
    rw [hM]; exact_mod_cast hfew
  have hM' := hM.symm
  clear H hM hBd hc2d
  have H := Lib.hid (And.intro hb (And.intro hrich (And.intro hlens (And.intro h (And.intro hrange (And.intro hB (And.intro hm0 (And.intro hfew hm))))))))
  clear hb hrich hlens h hrange hA hm0 hfew hB hm
  go_wp2
  go_region
  clear hc0 hc1 hcf0 hcf1 hM'
  go_wp2
  obtain ⟨body, hbody⟩ : ∃ body : List StepS, body = (rs.map (·.1)).drop b := ⟨_, rfl⟩
  obtain ⟨hb, hrich, hlens, h, hrange, hB, hm0, hfew, hm⟩ := H.out
  have hU : Unf w lo p r n g ts rs b k (times 0 body) (.slice A rs.length cap) W0 := ⟨[], rfl, by simpa using hrich, by simpa using hlens, hb, h, hm0.low hls (by simp), by omega, hrange, by omega⟩
  have hbm : body.length = m := by rw [hbody, hm]; simp
  clear H hc2 hcf2
  have H := Lib.hid (And.intro hU (And.intro hB (And.intro hbody hbm)))
  have HF := Lib.hid (show b + m * k ≤ 20000 from by rw [hm]; exact hfew)
  clear hb hrich hlens h hrange hm0 hfew hB hm hU hbody hbm
  go_loopg [52] (k - 1) (fun g2 s52 wx => ∃ i : Nat, s52 = .int .i64 i ∧ i + g2 = k - 1 ∧ ∃ v, Unf w lo p r n g ts rs b k (times i body) v wx)
  case atStart => exact ⟨0, rfl, by omega, _, H.out.1.mod (((Mod.refl [] W0).drew).drew)⟩
  case round =>
    obtain ⟨i, rfl, hik, v, hU⟩ := hrel
    have HU := Lib.hid hU
    clear hU
    by_cases hend : i = k - 1
    · have hlt : decide ((i : Int) < (k : Int) - 1) = false := by rw [decide_eq_false_iff_not]; omega
      obtain ⟨more, hmore, hrich, hlens, hb, hrt, hlow, hls2, hrange, hgl⟩ := HU.out
      have hbl2 := hb.lt
      have hd0 := hb.cell 0
      have hd1 := hb.cell 1
      have hd2 := hb.cell 2
      have hdf0 := hb.frozen 0
      have hdf1 := hb.frozen 1
      have hdf2 := hb.frozen 2
      simp at hd0 hd1 hd2
      clear hb hrich hlens hrt hlow hrange
      obtain ⟨more, hmore, hrich, hlens, hb, hrt, hlow, hls2, hrange, hgl⟩ := HU.out
      have hm1 : Mod [p] wr (wr.setCell ⟨p, 1, none⟩ (.int .i64 (-1))) := (Mod.refl _ _).setCell (by simp) _
      have hrt1 := hrt.frame hm1 (by simpa using hrp)
      have hfin : ∀ more : List RStep, more.map (·.1) = times i body → rs.map (·.1) ++ more.map (·.1) = (rs.map (·.1)).take b ++ times k body := by
        intro more hmore
        rw [hmore, hend, H.out.2.2.1, show times k ((rs.map (·.1)).drop b) = (rs.map (·.1)).drop b ++ times (k - 1) ((rs.map (·.1)).drop b) from by
          unfold times
          rw [← List.flatten_cons, ← List.replicate_succ, Nat.sub_add_cancel hk1]]
        rw [← List.append_assoc, List.take_append_drop]
      have hbl2 := hb.lt
      have HE := Lib.hid hfin
      have HR := Lib.hid hrt1
      have hd0 := hb.cell 0
      have hd1 := hb.cell 1
      have hd2 := hb.cell 2
      have hdf0 := hb.frozen 0
      have hdf1 := hb.frozen 1
      have hdf2 := hb.frozen 2
      simp at hd0 hd1 hd2
      clear hm1 hrt1 hfin hmore hrich hlens hb hrt hlow hls2 hrange hgl
      rcases hq : fin ts with f | u
      all_goals
        have HQ := Lib.hid hq
        clear hq
      · go_wp2_with fail
        refine (rend_bad _ r n ts f HQ.out HR.out hn).mono ?_
        rintro e w2 ⟨v2, rfl, hfk, hm2⟩
        have H9 := Lib.hid (And.intro hfk hm2)
        clear hfk hm2
        go_wp2
        go_ret
        obtain ⟨⟨fb, hv, hfb, hfk⟩, hm2⟩ := H9.out
        obtain ⟨more, hmore, hrich, hlens, hb, hrt, hlow, hls2, hrange, hgl⟩ := HU.out
        refine ⟨fun f' hf' => ?_, fun hf' => (by rw [HQ.out] at hf'; cases hf'), ?_⟩
        · have : f = f' := by have := HQ.out.symm.trans hf'; injection this
          subst this
          exact ⟨_, rfl, fb, hv, by have := hlow.size; simp at hfb; omega, hfk⟩
        · exact ((hlow.mono (S' := [p, r]) (by simp)).setCell (by simp) _).trans (hm2.low (by simpa using hls2) (by simp))
      · go_wp2_with fail
        refine (rend_good _ r n ts HQ.out HR.out hn).mono ?_
        rintro e w2 ⟨rfl, hm2⟩
        have H9 := Lib.hid hm2
        clear hm2
        go_wp2
        go_ret
        have hm2 := H9.out
        obtain ⟨more, hmore, hrich, hlens, hb, hrt, hlow, hls2, hrange, hgl⟩ := HU.out
        refine ⟨fun f' hf' => (by rw [HQ.out] at hf'; cases hf'), fun _ => ⟨rfl, rs ++ more, by rw [List.map_append, HE.out more hmore, H.out.2.2.1], ?_⟩, ((hlow.mono (S' := [p, r]) (by simp)).setCell (by simp) _).trans (hm2.low (by simpa using hls2) (by simp))⟩
        have hm1 : Mod [p] wr (wr.setCell ⟨p, 1, none⟩ (.int .i64 (-1))) := (Mod.refl _ _).setCell (by simp) _
        obtain ⟨line, al, hbr, _⟩ := HR.out
        refine ⟨v, -1, k, hm2.blk (hb.set_ 1 _) (by simpa using Ne.symm hrp), rfl, ?_, hlens, ?_, ?_⟩
        · refine (hrich.typed hm1 (fun q hq => ?_)).typed hm2 (fun q hq => ?_)
          · simp at hq; subst hq; exact ⟨_, _, hb, by decide, by decide, by decide⟩
          · simp at hq; subst hq; exact ⟨_, _, hbr, by decide, by decide, by decide⟩
        · have h1 : (rs ++ more).length = (rs.map (·.1) ++ more.map (·.1)).length := by simp
          rw [h1, HE.out more hmore]
          have := H.out.2.2.2
          have h2 := HF.out
          unfold times
          simp [this]
          rw [Nat.mul_comm k m]; omega
        · have := hm2.size; simp at this; omega
    · have hlt : decide ((i : Int) < (k : Int) - 1) = true := by rw [decide_eq_true_iff]; omega
      go_wp2
      obtain ⟨wo, hwo⟩ : ∃ wo, wo = wr := ⟨_, rfl⟩
      subst hwo
      go_loopg [56] m (fun g3 s56 wx => ∃ j : Nat, s56 = .int .i64 j ∧ j + g3 = m ∧ ∃ v, Unf w lo p r n g ts rs b k (times i body ++ body.take j) v wx)
      case atStart => exact ⟨0, rfl, by omega, v, by simpa using HU.out⟩
      case round =>
        obtain ⟨j, rfl, hjm, v2, hU2⟩ := hrel
        have HU2 := Lib.hid hU2
        clear hU2
        by_cases hend2 : j = m
        · have hlt2 : decide ((j : Int) < (m : Int)) = false := by rw [decide_eq_false_iff_not]; omega
          go_wp2
          go_roundg (k - 1 - (i + 1))
          case measure => omega
          case rel =>
            refine ⟨i + 1, by push_cast; rfl, by omega, v2, ?_⟩
            have := HU2.out
            rw [List.take_of_length_le (by rw [H.out.2.2.2]; omega)] at this
            unfold times at this ⊢
            rw [List.replicate_succ', List.flatten_append]
            simpa using this
        · have hlt2 : decide ((j : Int) < (m : Int)) = true := by rw [decide_eq_true_iff]; omega
          have hB := H.out.2.1 (by omega)
          subst hB
          obtain ⟨more, hmore, hrich, hlens, hb, hrt, hlow, hls2, hrange, hgl⟩ := HU2.out
          have hjl : b + j < rs.length := by have := H.out.2.2.2; rw [H.out.2.2.1] at this; simp at this; omega
          obtain ⟨x, hx⟩ : ∃ x, rs[b + j]? = some x := ⟨_, List.getElem?_eq_getElem hjl⟩
          have hxm : x ∈ rs := List.mem_of_getElem? hx
          obtain ⟨hwx, hkx⟩ := hrich.2.1 x (List.mem_append_left _ hxm)
          obtain ⟨hlw, hlk⟩ := hlens x (List.mem_append_left _ hxm)
          have hone := all_oneCell_toArray (rows_one hwx hkx)
          have hrx : wr.rangeAt g (b * 12 + j * 12) (rowOf x) := fun q u hu => by
            have hq : q < 12 := by have := (List.getElem?_eq_some_iff.1 hu).1; rwa [rowOf_len] at this
            have := hrange ((b + j) * 12 + q) u (by rw [rows_get rs (b + j) q x hx hq]; exact hu)
            rw [show b * 12 + j * 12 + q = 0 + ((b + j) * 12 + q) from by omega]; exact this
          have HX := Lib.hid (And.intro hrx (And.intro hone (And.intro hwx (And.intro hkx (And.intro hlw (And.intro hlk hxm))))))
          have HXB := Lib.hid (show body.take (j + 1) = body.take j ++ [x.1] from by
            rw [List.take_add_one, H.out.2.2.1, List.getElem?_drop, List.getElem?_map, hx]; rfl)
          have HU2p := Lib.hid hb
          clear hmore hrich hlens hb hrt hlow hrange hx hxm hwx hkx hlw hlk hone hrx
          go_wp2_with (first | (refine wpList_load_mid rfl 69 _ rfl g (b * 12 + j * 12) rfl (rowOf x) _ HX.out.1 Tryz.underlying69 rfl (size_step (rowOf x).toArray rfl) ?_) | (refine wpList_store_step rfl _ _ rfl wr.heap.size (rowOf x).toArray rfl rfl zeroStep (Blk.new _ _ _) rfl rfl HX.out.2.1 ?_; intro W2 hs2 hB2 hM2; replace hM2 := Mod.then ((Mod.refl [] wr).alloc _) hM2 (by simp); simp at hs2; have hq5 : W2.cell? ⟨wr.heap.size, 5, none⟩ = some x.2.1 := hB2.cell 5; have hq11 : W2.cell? ⟨wr.heap.size, 11, none⟩ = some x.2.2 := hB2.cell 11; have hf5 := hB2.frozen 5; have hf11 := hB2.frozen 11; have H2 := Lib.hid (And.intro hB2 hM2); clear hB2 hM2) | (refine wpList_append_copy rfl _ 65 rfl 71 iw (.agg #[.string ⟨#[]⟩, .bool false, .string ⟨#[]⟩]) 3 40 Tryz.underlying65 HI.out.1 HI.out.2.1 HI.out.2.2.1 HI.out.2.2.2 rfl (by decide) lo x.2.1 x.1.op.writes.length (x.1.op.writes.flatMap encWr) rfl (owns_mod HX.out.2.2.1 H2.out.2 (by simp)) (encs_one _) (by have := HX.out.2.2.2.2.1; unfold lenMax at this; unfold maxLen; omega) (by have := HX.out.2.2.2.2.1; unfold lenMax at this; omega) ?_; intro A3 k3 c3 w3 hown3 hM3; have hB3 := hM3.blk H2.out.1 (by simp); have hs3 := hM3.size; have hr11 : w3.cell? ⟨wr.heap.size, 11, none⟩ = some x.2.2 := hB3.cell 11; have hr5 : w3.cell? ⟨wr.heap.size, 5, none⟩ = some x.2.1 := hB3.cell 5; have hg5 := hB3.frozen 5; have hg11 := hB3.frozen 11; have H3 := Lib.hid (And.intro hB3 (And.intro hown3 (H2.out.2.trans hM3))); clear hB3 hown3 hM3 hq5 hq11 hf5 hf11) | (refine wpList_append_copy rfl _ 36 rfl 3 ii (.int .i64 0) 1 8 Tryz.underlying36 HJ.out.1 HJ.out.2.1 HJ.out.2.2.1 HJ.out.2.2.2 rfl (by decide) lo x.2.2 x.1.keep.length (x.1.keep.map (.int .i64)) rfl (ints_after HX.out.2.2.2.1 H3.out.2.2) (ints_one _) (by have := HX.out.2.2.2.2.2.1; unfold lenMax at this; unfold maxLen; omega) (by have := HX.out.2.2.2.2.2.1; unfold lenMax at this; omega) ?_; intro A5 k5 c5 w5 hown5 hM5; have hB5 := hM5.blk (H3.out.1.set_ 5 (.slice A3 k3 c3)) (by simp); have hs5 := hM5.size; have ht11 : w5.cell? ⟨wr.heap.size, 11, none⟩ = some x.2.2 := hB5.cell 11; have hi11 := hB5.frozen 11; have H5 := Lib.hid (And.intro hB5 (And.intro hown5 hM5)); clear hB5 hown5 hM5 hr5 hr11 hg5 hg11))
          clear ht11 hi11
          obtain ⟨more, hmore, hrich, hlens, hb, hrt, hlow, hls2, hrange, hgl⟩ := HU2.out
          obtain ⟨A4, n4, c4, rfl⟩ := own_slice hrich.1
          generalize hW : w5.setCell ⟨wr.heap.size, 11, none⟩ (.slice A5 k5 c5) = W
          have hBW : Blk W wr.heap.size 69 #[.int .i64 x.1.kind, .int .i64 x.1.a, .int .i64 x.1.b, .int .i64 x.1.c, .int .i64 x.1.op.kind, .slice A3 k3 c3, .bool x.1.op.sync, .string ⟨x.1.op.key.toArray⟩, .string ⟨x.1.op.til.toArray⟩, .int .i64 x.1.op.n, .int .i64 x.1.op.snap, .slice A5 k5 c5] := by
            rw [← hW]; exact H5.out.1.set_ 11 _
          have hM35 : Mod [wr.heap.size] w3 W := by rw [← hW]; exact (((Mod.refl [wr.heap.size] w3).setCell (by simp) _).trans (H5.out.2.2.mono (by simp))).setCell (by simp) _
          have hMW : Mod [] wr W := H3.out.2.2.then hM35 (by simp)
          have hwv : WritesAt W wr.heap.size (.slice A3 k3 c3) x.1.op.writes := owns_mono (owns_mod H3.out.2.1 hM35 (fun g hg => by have := own_ge H3.out.2.1 hg; simp; omega)) (by omega)
          have hkv : IntsAt W wr.heap.size (.slice A5 k5 c5) x.1.keep := by
            have h1 : Mod [wr.heap.size] w5 W := by rw [← hW]; exact (Mod.refl _ _).setCell (by simp) _
            refine owns_mono (owns_mod H5.out.2.1 h1 (fun g hg => by have := own_ge H5.out.2.1 hg; simp at this; simp; omega)) (by simp; omega)
          have hbW := hMW.blk hb (by simp)
          have hlm : more.length ≤ 20000000 + 20000 := by
            have h1 : more.length = (more.map (·.1)).length := by simp
            have h2 : i * m ≤ 1000 * 20000 := Nat.mul_le_mul (by omega) (by have := H.out.2.2.2; rw [H.out.2.2.1] at this; simp at this; omega)
            rw [h1, hmore]
            have := H.out.2.2.2
            unfold times
            simp [this]
            omega
          clear hW
          have hc0 := hBW.cell 0
          have hc1 := hBW.cell 1
          have hc2 := hBW.cell 2
          have hc3 := hBW.cell 3
          have hc4 := hBW.cell 4
          have hc5 := hBW.cell 5
          have hc6 := hBW.cell 6
          have hc7 := hBW.cell 7
          have hc8 := hBW.cell 8
          have hc9 := hBW.cell 9
          have hc10 := hBW.cell 10
          have hc11 := hBW.cell 11
          have hcf0 := hBW.frozen 0
          have hcf1 := hBW.frozen 1
          have hcf2 := hBW.frozen 2
          have hcf3 := hBW.frozen 3
          have hcf4 := hBW.frozen 4
          have hcf5 := hBW.frozen 5
          have hcf6 := hBW.frozen 6
          have hcf7 := hBW.frozen 7
          have hcf8 := hBW.frozen 8
          have hcf9 := hBW.frozen 9
          have hcf10 := hBW.frozen 10
          have hcf11 := hBW.frozen 11
          simp at hc0 hc1 hc2 hc3 hc4 hc5 hc6 hc7 hc8 hc9 hc10 hc11
          have hd0 := hbW.cell 0
          have hdf0 := hbW.frozen 0
          simp at hd0
          have hWs := hMW.size
          have hBl := hBW.lt
          have hpW := hbW.lt
          have hplm := hlm
          have H6 := Lib.hid (And.intro hBW (And.intro hMW (And.intro hwv (And.intro hkv (And.intro hbW (And.intro hmore (And.intro hrich (And.intro hlens (And.intro hrt (And.intro hlow (And.intro hls2 (And.intro hrange (And.intro hgl hlm)))))))))))))
          clear hBW hMW hM35 hwv hkv hbW hmore hrich hlens hb hrt hlow hrange hlm
          go_region_law (refine step_append_keep rfl _ _ 22 rfl lo 69 is (.agg zeroStep) 12 144 Tryz.underlying22 HS.out.1 HS.out.2.1 HS.out.2.2.1 HS.out.2.2.2 rfl (by decide) _ (rs ++ more).length ((rs ++ more).flatMap rowOf) rfl ((((H6.out.2.2.2.2.2.2.1.new H6.out.2.1).1).alloc _).drew) ⟨W.heap.size, 0, none⟩ 1 1 (rowOf (x.1, .slice A3 k3 c3, .slice A5 k5 c5)) rfl rfl (cells_new _ _ _) (by intro u hu; simp [rowOf] at hu; rcases hu with rfl | rfl | rfl | rfl | rfl | rfl | rfl | rfl | rfl | rfl | rfl | rfl <;> rfl) (by unfold maxLen; simp; omega) (by simp; omega) (by simp; omega) ?_; intro A7 k7 c7 w7 hown7 hg7 hkeep7; have hb7 := (show Blk w7 p 99 _ from (hg7.block p (by simp; omega) (fun e => own_blk_ne H6.out.2.2.2.2.2.2.1.1 (HU2p.out) (by decide) e.symm)).trans (H6.out.2.2.2.2.1.alloc _).drew); have h75 := hb7.cell 0; have h75f := hb7.frozen 0; simp at h75; have H7 := Lib.hid (And.intro hown7 (And.intro hg7 (And.intro hkeep7 hb7))); clear hown7 hg7 hkeep7 hb7)
          all_goals
            go_wp2
            go_roundg (m - (j + 1))
            case measure => omega
            case rel =>
              obtain ⟨hown7, hg7, hkeep7, hb7⟩ := H7.out
              obtain ⟨hBW, hMW, hwv, hkv, hbW, hmore, hrich, hlens, hrt, hlow, hls2, hrange, hgl, hlm⟩ := H6.out
              refine ⟨j + 1, by push_cast; rfl, by omega, .slice A7 k7 c7, ?_⟩
              rw [HXB.out, ← List.append_assoc]
              exact unf_step hmore hrich hlens hrt hlow hls2 hrange hgl HX.out.2.2.2.2.2.2 hrp hgp hMW hwv hkv (((Mod.refl [] W).alloc _).drew) hg7 hown7 hkeep7 hb7
end Go.Proofs.YtjieelmbgfnllaaGreatDoor
