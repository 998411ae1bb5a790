/- path.all, path.All: all paths of a tree. -/
import Derived.Test.YtiodjhcjfbnocaaPaE
namespace Go.Proofs.Ytiodjhcjfbnocaa
open Go.RowKit
set_option linter.unusedVariables false
set_option linter.unusedSimpArgs false

def AllSaid (d : Nat) : Prop := ∀ t : T, t.wt ≤ d → ∀ (w0 w : World) (B : Nat) (c : Array Value) (L : Nat → Prop) (vo vp : Value) (f : List (List Int)) (xs : List Int), RdT w0 t c → Below w0.heap.size w0 w → w0.heap.size ≤ B → B ≤ w.heap.size →
  OwnR w B L vo f → OwnI w B vp xs → (∀ k, vo.ownBlock = some k → vp.ownBlock ≠ some k) → (∀ k, L k → vp.ownBlock ≠ some k) → (∀ k, w.heap.size ≤ k → L k) → f.length + t.wt ≤ 1000000 → xs.length + t.wt ≤ 1000000 →
  Calls Try.prog 35 #[vo, .agg c, vp] w fun e w' => ∃ v', e = .returned v' ∧ OwnR w' B L v' (f ++ allT t xs) ∧ OwnI w' B vp xs ∧ Chg (fun k => vo.ownBlock = some k ∨ vp.ownBlock = some k) w w' ∧ (∀ k, v'.ownBlock = some k → vo.ownBlock = some k ∨ w.heap.size ≤ k)

/-- What stands at the head of each round. -/
def AllRel (w0 w : World) (B : Nat) (L : Nat → Prop) (vo vp : Value) (kids : F) (c : Array Value) (g : List (List Int)) (xs : List Int) (M : Nat) (o i : Value) (wr : World) : Prop :=
  ∃ (u : Value) (j : Nat) (f : List (List Int)), u = o ∧ i = .int .i64 j ∧ j ≤ kids.len ∧ Hid (g = f ++ allF (kids.drop j) j xs) ∧ OwnR wr B L u f ∧ OwnI wr B vp xs ∧ BoxV wr w.heap.size c ∧ Chg (fun k => vo.ownBlock = some k ∨ vp.ownBlock = some k) w wr ∧ (∀ k, u.ownBlock = some k → vo.ownBlock = some k ∨ w.heap.size < k) ∧ w.heap.size < wr.heap.size ∧ f.length + (kids.drop j).wt ≤ M

theorem allF_step (kids : F) (j : Nat) (n : ByteArray) (t : T) (xs : List Int) (h : kids.get? j = some (n, t)) : allF (kids.drop j) j xs = allT t (xs ++ [(j : Int)]) ++ allF (kids.drop (j + 1)) (j + 1) xs := by
  rw [F.drop_get kids j n t h]; rfl

mutual
theorem allT_wt : ∀ (t : T) (p : List Int), (allT t p).length ≤ t.wt
  | .mk k b h l tx m s y f, p => by
    have := allF_wt f 0 p
    simp only [allT, List.length_cons, T.wt]; omega
theorem allF_wt : ∀ (f : F) (i : Nat) (p : List Int), (allF f i p).length ≤ f.wt
  | .nil, i, p => by simp [allF]
  | .cons n t r, i, p => by
    have h1 := allT_wt t (p ++ [(i : Int)])
    have h2 := allF_wt r (i + 1) p
    simp only [allF, List.length_append, F.wt]; omega
end

theorem all_rec {d : Nat} (hof : AllSaid d) {t : T} (hd : t.wt ≤ d) {w0 W2 w5 : World} {B : Nat} {c : Array Value} {L : Nat → Prop} {u vp v5 : Value} {f : List (List Int)} {ys : List Int} (h : RdT w0 t c) (hb : Below w0.heap.size w0 W2) (hwB : w0.heap.size ≤ B) (hB2 : B ≤ W2.heap.size)
    (ho : OwnR W2 B (fun k => L k ∧ k < W2.heap.size) u f) (hi : OwnI w5 B v5 ys) (ha : AppF W2 w5 vp v5) (hu : ∀ k, u.ownBlock = some k → k < W2.heap.size ∧ vp.ownBlock ≠ some k) (hL : ∀ k, L k → vp.ownBlock ≠ some k) (hLn : ∀ k, W2.heap.size ≤ k → L k) (hvp : ∀ k, vp.ownBlock = some k → B ≤ k) (hf : f.length + t.wt ≤ 1000000) (hx : ys.length + t.wt ≤ 1000000) :
    Calls Try.prog 35 #[u, .agg c, v5] w5 fun e w' => ∃ v', e = .returned v' ∧ OwnR w' B (fun k => L k ∧ v5.ownBlock ≠ some k) v' (f ++ allT t ys) ∧ OwnI w' B v5 ys ∧ Chg (fun k => u.ownBlock = some k ∨ v5.ownBlock = some k) w5 w' ∧ (∀ k, v'.ownBlock = some k → u.ownBlock = some k ∨ w5.heap.size ≤ k) := by
  have hs := ha.size
  have hne : ∀ k, k < W2.heap.size → vp.ownBlock ≠ some k → v5.ownBlock ≠ some k := fun k hk h => ha.far h hk
  refine hof t hd w0 w5 B c _ u v5 f ys h ?_ hwB (by omega) ?_ hi (fun k hk => hne k (hu k hk).1 (hu k hk).2) (fun k hk => hk.2) (fun k hk => ⟨hLn k (by omega), fun e => by have := (owns_lt hi k e).2; omega⟩) hf hx
  · exact ha.below hb (by omega) (fun k hk => by have := hvp k hk; omega)
  · exact (ho.chg ha.chg (fun k hk e => (hu k hk).2 e) (fun k hk e => hL k hk.1 e)).imp (fun k _ h => ⟨h.1, hne k h.2 (hL k h.1)⟩)

set_option maxRecDepth 100000 in
set_option maxHeartbeats 8000000 in
theorem all_step (d : Nat) (hof : AllSaid d) : AllSaid (d + 1) := by
  intro t hd w0 w B c L vo vp f xs h hw0 hwB hBw hor hoi hvv hLp hLn hfl hxl
  obtain ⟨k, bits, hi, lo, text, more, sub, bs, kids⟩ := t
  have hwt : T.wt (.mk k bits hi lo text more sub bs kids) = 2 + text.size + more.size + bs.length + kids.wt := by simp only [T.wt]
  rw [hwt] at hd hfl hxl
  have hlk := F.len_wt kids
  obtain ⟨ab, nb, cb, ak, nk, ck, rfl, -, -, hkl, hnk, hks⟩ := h
  obtain ⟨G, hG⟩ : ∃ G, G = f ++ allT (.mk k bits hi lo text more sub bs kids) xs := ⟨_, rfl⟩
  rw [← hG]
  have HGS : Hid (G = (f ++ [xs]) ++ allF (kids.drop 0) 0 xs) := by show _ = _; rw [hG]; simp [allT, F.drop]
  have HOF := Lib.hid hof
  have HKS := Lib.hid hks
  have HKL := Lib.hid hkl
  have HW0 := Lib.hid hw0
  have HOR := Lib.hid hor
  have HOI := Lib.hid hoi
  have HVV := Lib.hid hvv
  have HLP := Lib.hid hLp
  have HLN := Lib.hid hLn
  have hsw0 := hw0.size
  have hnk9 := hnk.1
  obtain ⟨ap, cp, rfl, hrp, hcp, -, hxm⟩ := hoi.rd
  obtain ⟨xs0, ao, co, -, rfl, -, -, -⟩ := hor.reads
  clear hof hks hkl hw0 hor hoi hvv hLp hLn hwt hnk hG
  have CC := fun W hW => Lib.hid (cloneI_calls ap xs.length cp xs W _ rfl (RdPS.keep (KeepS.below hW) hrp) hcp (by omega))
  go_enter Try.func35, Try.ntmps35
  go_wp2_with fail
  refine (CC _ ((Below.refl _ _).alloc (Nat.le_refl _) _)).out.mono ?_
  rintro e w1 ⟨v1, rfl, ho1, hb1⟩
  have hBX1 : BoxV w1 w.heap.size (valCells k bits hi lo text more sub ab nb cb ak nk ck) := (BoxV.new w _ _).keep hb1
  have hB1 : Below w.heap.size w w1 := ((Below.refl _ _).alloc (Nat.le_refl _) _).trans (hb1.mono (by simp))
  have hz1 : w.heap.size + 1 ≤ w1.heap.size := by have := hb1.size; simpa using this
  have hf1 : ∀ k, v1.ownBlock = some k → w.heap.size + 1 ≤ k := fun k hk => by have := (owns_lt ho1 k hk).1; simpa using this
  obtain ⟨a1, c1, rfl, hr1, hc1, hle1, hm1⟩ := ho1.rd
  have HSR := Lib.hid (SrcR.one (S := fun k => (Value.slice a1 xs.length c1).ownBlock = some k) (w := w1) rfl hr1 hc1 hle1 hm1 38)
  have HOR1 : Hid (OwnR (w1.alloc (.cells #[.slice a1 xs.length c1] 38)) B L (.slice ao f.length co) f) := HOR.out.keep (hB1.alloc (by omega) _)
  have hfo : ∀ k, (Value.slice ao f.length co).ownBlock = some k → B ≤ k ∧ k < w.heap.size := by
    obtain ⟨ys, S0, h1, _⟩ := HOR.out
    exact owns_lt h1
  have HFO := Lib.hid hfo
  have HF1 := Lib.hid hf1
  have HBX1 := Lib.hid hBX1
  have HB1 := Lib.hid hB1
  have HSL : Hid (∀ k, (Value.slice a1 xs.length c1).ownBlock = some k → L k ∧ (Value.slice ao f.length co).ownBlock ≠ some k) := by
    show ∀ k, _
    intro k hk
    have h1 := hf1 k hk
    exact ⟨HLN.out k (by omega), fun e => by have := (hfo k e).2; omega⟩
  have hlf : f.length ≤ 1000000 := by omega
  clear ho1 hb1 hr1 hBX1 hB1 hf1 hfo CC
  go_wp2_with (at_builtin; refine wpList_appR (v := .slice ao f.length co) (f := f) (g := [xs]) (B := B) (L := L) (S1 := fun k => (Value.slice a1 xs.length c1).ownBlock = some k) (sv := .slice (some ⟨w1.heap.size, 0, none⟩) 1 1) (by rfl) _ _ (by rfl) (by rfl) HOR1.out (by rfl) HSR.out HSL.out ?o3 ?o4 ?_)
  case o3 => simp; omega
  case o4 => first | omega | (simp; omega)
  intro u4 w4 ho4 ha4
  obtain ⟨-, a4, c4, -, hu4, -⟩ := ho4.reads
  subst hu4
  obtain ⟨n4, hn4⟩ : ∃ n, n = (f ++ [xs]).length := ⟨_, rfl⟩
  rw [← hn4] at ho4 ha4 ⊢
  have hch : Chg (fun k => (Value.slice ao f.length co).ownBlock = some k) w w4 := (Chg.of_below (HB1.out.alloc (by omega) _)).trans ha4.chg (fun _ _ h => h)
  have hbx4 : BoxV w4 w.heap.size (valCells k bits hi lo text more sub ab nb cb ak nk ck) := (HBX1.out.keep ((Below.refl _ _).alloc (Nat.le_refl _) _)).chg ha4.chg (fun e => by have := (HFO.out _ e).2; omega)
  have hoi4 : OwnI w4 B (.slice ap xs.length cp) xs := owns_chg HOI.out hch (fun k hk e => HVV.out k e hk)
  have hz4 : w.heap.size < w4.heap.size := hbx4.1
  have hu4 : ∀ k, (Value.slice a4 n4 c4).ownBlock = some k → (Value.slice ao f.length co).ownBlock = some k ∨ w.heap.size < k := by
    intro k hk
    rcases ha4.2 with e | e
    · exact .inl (e ▸ hk)
    · rw [e] at hk
      simp at hk
      right; omega
  have c8 : w4.cell? ⟨w.heap.size, 8, none⟩ = some (.slice ak nk ck) := (hbx4.2 8 (by omega)).1
  have HCH := Lib.hid (hch.weaken (S' := fun k => (Value.slice ao f.length co).ownBlock = some k ∨ (Value.slice ap xs.length cp).ownBlock = some k) fun _ _ h => .inl h)
  have HO4 := Lib.hid ho4
  have HI4 := Lib.hid hoi4
  have HX4 := Lib.hid hbx4
  have HU4 := Lib.hid hu4
  clear ho4 ha4 hch hbx4 hoi4 hu4 hn4
  go_wp2_with fail
  go_loopw [0, 17] (fun o i wr => AllRel w0 w B L (.slice ao f.length co) (.slice ap xs.length cp) kids (valCells k bits hi lo text more sub ab nb cb ak nk ck) G xs (f.length + 1 + kids.wt) o i wr) (fun _ i _ => nk - (intOf i).toNat)
  case atStart => exact ⟨_, 0, f ++ [xs], rfl, rfl, Nat.zero_le _, HGS, HO4.out, HI4.out, HX4.out, HCH.out, HU4.out, hz4, by simp [F.drop]⟩
  case round =>
    obtain ⟨u, j, f2, rfl, rfl, hj, hg, ho, hi2, hbx, hch, hu, hz, hM⟩ := hrel
    rw [HKL.out] at hj
    have HGG := hg
    have HO := Lib.hid ho
    have HI := Lib.hid hi2
    have HBX := Lib.hid hbx
    have HC := Lib.hid hch
    have HU := Lib.hid hu
    obtain ⟨-, a5, c5, -, rfl, hl5, -⟩ := ho.reads
    clear hg ho hi2 hbx hch hu
    by_cases hlt : j < nk
    · obtain ⟨⟨n, tt⟩, hx⟩ := F.get_some kids j (by rw [HKL.out]; exact hlt)
      have hwg := F.wt_get kids j n tt hx
      have hst := allF_step kids j n tt xs hx
      obtain ⟨b, o, k', bits', hi', lo', text', more', sub', bs', kids', ab', nb', cb', ak', nk', ck', rfl, rfl, e1, e2, e3, g0, g1, g2, g3, g4, g5, g6, g7, g8, g9⟩ := (HKS.out.at hx).cells
      have hfp : ∀ k, (Value.slice ap xs.length cp).ownBlock = some k → B ≤ k ∧ k < w.heap.size := fun k hk => owns_lt HOI.out k hk
      have HFP := Lib.hid hfp
      have hB0r : Below w0.heap.size w0 wr := HW0.out.trans (HC.out.below hsw0 (fun i h => by
        rcases h with h | h
        · have := (HFO.out i h).1; omega
        · have := (hfp i h).1; omega))
      have HB0 := Lib.hid hB0r
      have E3 := Lib.hid e3
      have hj0 : (0 : Int) ≤ (j : Int) := by omega
      have hj1 : (j : Int) < (nk : Int) := by omega
      have c8r : wr.cell? ⟨w.heap.size, 8, none⟩ = some (.slice (some ⟨b, o, none⟩) nk ck) := (HBX.out.2 8 (by omega)).1
      have y0 : wr.cell? ⟨b, o + j * 10, none⟩ = some (.string n) := cell_below hB0r g0
      have y1 : wr.cell? ⟨b, o + j * 10 + 1, none⟩ = some (.int .i64 k') := cell_below hB0r g1
      have y2 : wr.cell? ⟨b, o + j * 10 + 2, none⟩ = some (.int .u64 (bits' : Nat)) := cell_below hB0r g2
      have y3 : wr.cell? ⟨b, o + j * 10 + 3, none⟩ = some (.int .u64 (hi' : Nat)) := cell_below hB0r g3
      have y4 : wr.cell? ⟨b, o + j * 10 + 4, none⟩ = some (.int .u64 (lo' : Nat)) := cell_below hB0r g4
      have y5 : wr.cell? ⟨b, o + j * 10 + 5, none⟩ = some (.string text') := cell_below hB0r g5
      have y6 : wr.cell? ⟨b, o + j * 10 + 6, none⟩ = some (.string more') := cell_below hB0r g6
      have y7 : wr.cell? ⟨b, o + j * 10 + 7, none⟩ = some (.int .i64 sub') := cell_below hB0r g7
      have y8 : wr.cell? ⟨b, o + j * 10 + 8, none⟩ = some (.slice ab' nb' cb') := cell_below hB0r g8
      have y9 : wr.cell? ⟨b, o + j * 10 + 9, none⟩ = some (.slice ak' nk' ck') := cell_below hB0r g9
      have HST : Hid (G = (f2 ++ allT (T.mk k' bits' hi' lo' text' more' sub' bs' kids') (xs ++ [(j : Int)])) ++ allF (kids.drop (j + 1)) (j + 1) xs) := by
        show _ = _
        rw [HGG.out, hst, List.append_assoc]
      have hw1 : (T.mk k' bits' hi' lo' text' more' sub' bs' kids').wt ≤ d := by omega
      have hal := allT_wt (T.mk k' bits' hi' lo' text' more' sub' bs' kids') (xs ++ [(j : Int)])
      have hf2l : f2.length ≤ 1000000 ∧ f2.length + (T.mk k' bits' hi' lo' text' more' sub' bs' kids').wt ≤ 1000000 := by
        omega
      have HF2 := Lib.hid hf2l
      clear hx hst e3 g0 g1 g2 g3 g4 g5 g6 g7 g8 g9 hB0r hfp
      obtain ⟨n5, hn5⟩ : ∃ n, n = f2.length := ⟨_, rfl⟩
      rw [← hn5] at HO HU ⊢
      have HN5 := Lib.hid hn5
      clear hn5
      go_wp2_with fail
      obtain ⟨wf, hwf⟩ : ∃ W, W = wr.alloc (.cells #[.string n, .int .i64 k', .int .u64 (bits' : Nat), .int .u64 (hi' : Nat), .int .u64 (lo' : Nat), .string text', .string more', .int .i64 sub', .slice ab' nb' cb', .slice ak' nk' ck'] 28) := ⟨_, rfl⟩
      have hwfb : Below wr.heap.size wr wf := by rw [hwf]; exact (Below.refl _ _).alloc (Nat.le_refl _) _
      have hgf : wr.heap.size < wf.heap.size := by rw [hwf]; simp
      have x1 : wf.cell? ⟨wr.heap.size, 1, none⟩ = some (.int .i64 k') := by rw [hwf]; simp [go_sem]
      have x2 : wf.cell? ⟨wr.heap.size, 2, none⟩ = some (.int .u64 (bits' : Nat)) := by rw [hwf]; simp [go_sem]
      have x3 : wf.cell? ⟨wr.heap.size, 3, none⟩ = some (.int .u64 (hi' : Nat)) := by rw [hwf]; simp [go_sem]
      have x4 : wf.cell? ⟨wr.heap.size, 4, none⟩ = some (.int .u64 (lo' : Nat)) := by rw [hwf]; simp [go_sem]
      have x5 : wf.cell? ⟨wr.heap.size, 5, none⟩ = some (.string text') := by rw [hwf]; simp [go_sem]
      have x6 : wf.cell? ⟨wr.heap.size, 6, none⟩ = some (.string more') := by rw [hwf]; simp [go_sem]
      have x7 : wf.cell? ⟨wr.heap.size, 7, none⟩ = some (.int .i64 sub') := by rw [hwf]; simp [go_sem]
      have x8 : wf.cell? ⟨wr.heap.size, 8, none⟩ = some (.slice ab' nb' cb') := by rw [hwf]; simp [go_sem]
      have x9 : wf.cell? ⟨wr.heap.size, 9, none⟩ = some (.slice ak' nk' ck') := by rw [hwf]; simp [go_sem]
      rw [← hwf]
      clear hwf y0 y1 y2 y3 y4 y5 y6 y7 y8 y9
      obtain ⟨g8, hg8⟩ : ∃ g, g = wr.heap.size := ⟨_, rfl⟩
      rw [← hg8] at hgf x1 x2 x3 x4 x5 x6 x7 x8 x9 ⊢
      have HG8 := Lib.hid hg8
      have hzg : w.heap.size < g8 := by rw [hg8]; exact hz
      clear hg8
      have HBF := Lib.hid hwfb
      have HIf : Hid (OwnI ((wf.alloc (.cells #[.int .i64 (j : Nat)] 3)).drew) B (.slice ap xs.length cp) xs) := owns_keep HI.out (hwfb.trans ((((Below.refl wf.heap.size wf).alloc (Nat.le_refl _) _).drew).mono (by rw [← HG8.out]; omega)))
      have HOf : Hid (OwnR ((wf.alloc (.cells #[.int .i64 (j : Nat)] 3)).drew) B L (.slice a5 n5 c5) f2) := HO.out.keep (hwfb.trans ((((Below.refl wf.heap.size wf).alloc (Nat.le_refl _) _).drew).mono (by rw [← HG8.out]; omega)))
      clear hwfb
      have hW2s : ((wf.alloc (.cells #[.int .i64 (j : Nat)] 3)).drew).heap.size = wf.heap.size + 1 := by simp
      have HB2 : Hid (Below wr.heap.size wr ((wf.alloc (.cells #[.int .i64 (j : Nat)] 3)).drew)) := HBF.out.trans ((((Below.refl wf.heap.size wf).alloc (Nat.le_refl _) _).drew).mono (by rw [← HG8.out]; omega))
      have HBX2 := Lib.hid (HBX.out.keep HB2.out)
      have HC2 : Hid (Chg (fun k => (Value.slice ao f.length co).ownBlock = some k ∨ (Value.slice ap xs.length cp).ownBlock = some k) w ((wf.alloc (.cells #[.int .i64 (j : Nat)] 3)).drew)) := HC.out.trans (Chg.of_below (S := fun _ => False) HB2.out) (fun _ _ h => h.elim)
      have HB02 : Hid (Below w0.heap.size w0 ((wf.alloc (.cells #[.int .i64 (j : Nat)] 3)).drew)) := HB0.out.trans (HB2.out.mono HB0.out.size)
      have HOf2 : Hid (OwnR ((wf.alloc (.cells #[.int .i64 (j : Nat)] 3)).drew) B (fun k => L k ∧ k < ((wf.alloc (.cells #[.int .i64 (j : Nat)] 3)).drew).heap.size) (.slice a5 n5 c5) f2) := HOf.out.imp (fun k hk h => ⟨h, hk⟩)
      have HUl : Hid (∀ k, (Value.slice a5 n5 c5).ownBlock = some k → k < wf.heap.size ∧ (Value.slice ap xs.length cp).ownBlock ≠ some k) := by
        show ∀ k, _
        intro k hk
        refine ⟨?_, fun e => ?_⟩
        · obtain ⟨ys, S0, h1, _⟩ := HO.out
          have h2 := (owns_lt h1 k hk).2
          have := HG8.out; omega
        · rcases HU.out k hk with h | h
          · exact HVV.out k h e
          · have := (HFP.out k e).2; omega
      have HW2 := Lib.hid hW2s
      clear hW2s
      have HB0w : Hid (B ≤ ((wf.alloc (.cells #[.int .i64 (j : Nat)] 3)).drew).heap.size) := by show _ ≤ _; rw [HW2.out]; omega
      have HUl2 : Hid (∀ k, (Value.slice a5 n5 c5).ownBlock = some k → k < ((wf.alloc (.cells #[.int .i64 (j : Nat)] 3)).drew).heap.size ∧ (Value.slice ap xs.length cp).ownBlock ≠ some k) := by
        show ∀ k, _
        intro k hk
        exact ⟨by rw [HW2.out]; have := (HUl.out k hk).1; omega, (HUl.out k hk).2⟩
      have HLN2 : Hid (∀ k, ((wf.alloc (.cells #[.int .i64 (j : Nat)] 3)).drew).heap.size ≤ k → L k) := by
        show ∀ k, _
        intro k hk
        rw [HW2.out] at hk
        exact HLN.out k (by omega)
      go_region_law ((first
        | (refine step_appI2 (v := .slice ap xs.length cp) (xs := xs) (sv := .slice (some ⟨wf.heap.size, 0, none⟩) 1 1) (l := [(j : Int)]) (B := B) (by rfl) _ _ (by rfl) (by rfl) HIf.out (by rfl) (src_int _ _ _) (by simp; omega) (by first | omega | (simp; omega)) ?_; intro v5 w5 ho5 ha5 hoi5; obtain ⟨aP, cP, hv5, -⟩ := ho5.rd; subst hv5; obtain ⟨N5, hN5⟩ : ∃ N, N = (xs ++ [(j : Int)]).length := ⟨_, rfl⟩; rw [← hN5] at ho5 ha5 ⊢; have HO5 := Lib.hid ho5; have HA5 := Lib.hid ha5; have HI5 := Lib.hid hoi5; have x1 := (ha5.chg.cell (fun e => by have := (HFP.out g8 e).2; omega) (cell_below (((Below.refl wf.heap.size wf).alloc (Nat.le_refl _) (.cells #[.int .i64 (j : Nat)] 3)).drew) x1)); have x2 := (ha5.chg.cell (fun e => by have := (HFP.out g8 e).2; omega) (cell_below (((Below.refl wf.heap.size wf).alloc (Nat.le_refl _) (.cells #[.int .i64 (j : Nat)] 3)).drew) x2)); have x3 := (ha5.chg.cell (fun e => by have := (HFP.out g8 e).2; omega) (cell_below (((Below.refl wf.heap.size wf).alloc (Nat.le_refl _) (.cells #[.int .i64 (j : Nat)] 3)).drew) x3)); have x4 := (ha5.chg.cell (fun e => by have := (HFP.out g8 e).2; omega) (cell_below (((Below.refl wf.heap.size wf).alloc (Nat.le_refl _) (.cells #[.int .i64 (j : Nat)] 3)).drew) x4)); have x5 := (ha5.chg.cell (fun e => by have := (HFP.out g8 e).2; omega) (cell_below (((Below.refl wf.heap.size wf).alloc (Nat.le_refl _) (.cells #[.int .i64 (j : Nat)] 3)).drew) x5)); have x6 := (ha5.chg.cell (fun e => by have := (HFP.out g8 e).2; omega) (cell_below (((Below.refl wf.heap.size wf).alloc (Nat.le_refl _) (.cells #[.int .i64 (j : Nat)] 3)).drew) x6)); have x7 := (ha5.chg.cell (fun e => by have := (HFP.out g8 e).2; omega) (cell_below (((Below.refl wf.heap.size wf).alloc (Nat.le_refl _) (.cells #[.int .i64 (j : Nat)] 3)).drew) x7)); have x8 := (ha5.chg.cell (fun e => by have := (HFP.out g8 e).2; omega) (cell_below (((Below.refl wf.heap.size wf).alloc (Nat.le_refl _) (.cells #[.int .i64 (j : Nat)] 3)).drew) x8)); have x9 := (ha5.chg.cell (fun e => by have := (HFP.out g8 e).2; omega) (cell_below (((Below.refl wf.heap.size wf).alloc (Nat.le_refl _) (.cells #[.int .i64 (j : Nat)] 3)).drew) x9)); clear ho5 ha5 hoi5 hN5)
        | (go_simp; go_at_call 35; (with_reducible refine (all_rec HOF.out hw1 E3.out HB02.out hwB HB0w.out HOf2.out HO5.out HA5.out HUl2.out HLP.out HLN2.out (fun k hk => (HFP.out k hk).1) HF2.out.2 (by simp; omega)).mono ?_); rintro e w6 ⟨v6, rfl, ho6, hoi6, hch6, hu6⟩; obtain ⟨-, a6, c6, -, hv6, -⟩ := ho6.reads; subst hv6; obtain ⟨N6, hN6⟩ : ∃ N, N = (f2 ++ allT (T.mk k' bits' hi' lo' text' more' sub' bs' kids') (xs ++ [(j : Int)])).length := ⟨_, rfl⟩; rw [← hN6] at ho6 hu6 ⊢; have HO6 := Lib.hid ho6; have HI6 := Lib.hid hoi6; have HC6 := Lib.hid hch6; have HU6 := Lib.hid hu6; clear ho6 hoi6 hch6 hu6 hN6)))
      all_goals
        have h56 : w5.heap.size ≤ w6.heap.size := HC6.out.size
        have h25 : ((wf.alloc (.cells #[.int .i64 (j : Nat)] 3)).drew).heap.size ≤ w5.heap.size := HA5.out.size
        have hIx : OwnI w6 B (.slice ap xs.length cp) xs := by
          refine OwnI.shorter HI5.out HO5.out HI6.out (fun hne k hk => ?_)
          have h1 := (owns_lt HI5.out k hk).2
          refine HC6.out.block k h1 (fun e => ?_)
          rcases e with e | e
          · exact (HUl.out k e).2 hk
          · exact hne (by rw [hk, e])
        have hc56 : Chg (fun k => (Value.slice ao f.length co).ownBlock = some k ∨ (Value.slice ap xs.length cp).ownBlock = some k) w w6 := by
          refine (HC2.out.trans HA5.out.chg (fun i hi e => .inr e)).trans HC6.out (fun i hi e => ?_)
          rcases e with e | e
          · rcases HU.out i e with h | h
            · exact .inl h
            · omega
          · rcases HA5.out.2 with h | h
            · exact .inr (h ▸ e)
            · rw [h] at e
              simp only [Option.some.injEq] at e
              rw [HW2.out] at e; omega
        have hbx6 : BoxV w6 w.heap.size (valCells k bits hi lo text more sub ab nb cb (some ⟨b, o, none⟩) nk ck) := by
          refine (HBX2.out.chg HA5.out.chg (fun e => by have := (HFP.out _ e).2; omega)).chg HC6.out (fun e => ?_)
          rcases e with e | e
          · rcases HU.out _ e with h | h
            · have := (HFO.out _ h).2; omega
            · omega
          · rcases HA5.out.2 with h | h
            · rw [h] at e; have := (HFP.out _ e).2; omega
            · rw [h] at e
              simp only [Option.some.injEq] at e
              rw [HW2.out] at e; omega
        have HIX := Lib.hid hIx
        have HC56 := Lib.hid hc56
        have HBX6 := Lib.hid hbx6
        clear hIx hc56 hbx6
        go_wp2_with fail
        go_roundw
        case rel =>
          refine ⟨_, j + 1, f2 ++ allT (T.mk k' bits' hi' lo' text' more' sub' bs' kids') (xs ++ [(j : Int)]), rfl, by simp, by rw [HKL.out]; omega, HST, HO6.out.imp (fun k _ h => h.1), HIX.out, HBX6.out, HC56.out, fun k hk => ?_, by rw [HW2.out] at h25; omega, ?_⟩
          · rcases HU6.out k hk with h | h
            · exact HU.out k h
            · right; rw [HW2.out] at h25; omega
          · rw [List.length_append]; omega
        case measure => simp [intOf]; omega
    · have hend : G = f2 := by
        have h1 := HGG.out
        rw [F.drop_len kids j (by rw [HKL.out]; omega)] at h1
        simpa [allF] using h1
      have HE := Lib.hid hend
      clear hend
      go_wp2_with fail
      go_ret
      refine ⟨_, rfl, by rw [HE.out]; exact HO.out, HI.out, HC.out, fun k hk => ?_⟩
      rcases HU.out k hk with h | h
      · exact .inl h
      · exact .inr (by omega)

end Go.Proofs.Ytiodjhcjfbnocaa
