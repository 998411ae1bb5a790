/- Rows of the call's own for paths: numbers, rows of numbers, texts; slices.Clone. -/
import Derived.Test.YtiodjhcjfbnocaaTreeS
import Derived.Test.YtiodjhcjfbnocaaAppI
import Derived.Test.YtiodjhcjfbnocaaPathP
import Derived.Lib.Hide
import Derived.PlainAid
namespace Go.Proofs.Ytiodjhcjfbnocaa
open Go.RowKit
set_option linter.unusedVariables false
set_option linter.unusedSimpArgs false

/-! ### append, and the row as it was before -/

theorem app_run2 {P : Program} (w : World) {t : TypeId} (ty : TypeId) {e : TypeId} {z : Value} {size bytes : Nat} (ht : P.underlying t = some (.slice e))
    (hinfo : (P.info? e).map (fun i => (i.zero, i.size, i.bytes)) = some (some z, size, bytes)) (hzs : z.cells.size = size) (hsz : 0 < size)
    {B : Nat} {v : Value} {n : Nat} {xs : List Value} (hown : w.ownsRow B e size v n xs) {sv : Value} {m : Nat} {news : List Value} (hsrc : Src w sv m size news)
    (h63 : n + m ≤ maxLen) (hbytes : (n + m) * bytes ≤ 140737488355328) (hbase : B ≤ w.heap.size) :
    ∃ v' w', (Builtin.append_ #[t, t] ty #[v, sv]).run P w = .ok v' w' ∧ w'.ownsRow B e size v' (n + m) (xs ++ news) ∧ AppF w w' v v' ∧ w'.ownsRow B e size v n xs := by
  obtain ⟨v', w', hr, h2, h3⟩ := app_run (P := P) w ty ht hinfo hzs hsz hown hsrc h63 hbytes hbase
  refine ⟨v', w', hr, h2, h3, ?_⟩
  obtain ⟨i0, hi, hz0, hz1, hz2⟩ := info_parts hinfo
  subst hz1
  have hsmall : n + m ≤ 9223372036854775807 := by simp only [maxLen] at h63; omega
  rcases hown.2 with ⟨rfl, rfl⟩ | ⟨g, cap, cur, rfl, hbg, hg, hnc, hcm, hcs, htake⟩
  · have hx : xs = [] := List.eq_nil_of_length_eq_zero (by simpa using hown.1)
    subst hx
    exact World.ownsRow_nil _ _ _ _
  rcases hsrc with ⟨rfl, rfl, rfl⟩ | ⟨ad, c, rfl, hl, hn, h1⟩
  · have hr2 := run_append_owned_none (P := P) (w := w) B t ty e i0 i0.size ht hi _ n xs hown
    rw [hr2] at hr
    simp only [Result.ok.injEq] at hr
    rw [← hr.2]
    exact hown
  by_cases hroom : n + m ≤ cap
  · have hfit : n * i0.size + news.length ≤ cur.size := by rw [hl, hcs, ← Nat.add_mul]; exact Nat.mul_le_mul_right _ hroom
    have hr2 := run_append_room (P := P) w t ty e i0 ht hi g n cap cur hg ad m c news hl hn h1 hroom hfit
    rw [hr2] at hr
    simp only [Result.ok.injEq] at hr
    rw [← hr.2]
    refine ⟨hown.1, .inr ⟨g, cap, _, rfl, hbg, setRow_heap w g cur _ e _ hg, hnc, hcm, ?_, ?_⟩⟩
    · simp only [List.size_toArray, List.length_append, List.length_take, List.length_drop, Array.length_toList]
      omega
    · have hxl : (cur.toList.take (n * i0.size)).length = n * i0.size := by rw [htake]; exact hown.1
      rw [htake] at hxl
      rw [htake, List.append_assoc]
      rw [show n * i0.size = xs.length from hxl.symm]
      exact List.take_left
  · have holds : ∀ j u, xs[j]? = some u → w.cell? ((⟨g, 0, none⟩ : Addr).add j) = some u := hown.cells (g := g) rfl
    have hr2 := run_append_grow (P := P) w t ty e i0 _ ht hi hz0 ⟨g, 0, none⟩ n cap xs hown.1 holds ad m c news hl hn (by omega) (by omega) (growslice_fits (by omega) (by rw [hz2]; exact hbytes))
    rw [hr2] at hr
    simp only [Result.ok.injEq] at hr
    rw [← hr.2]
    refine ⟨hown.1, .inr ⟨g, cap, cur, rfl, hbg, ?_, hnc, hcm, hcs, htake⟩⟩
    exact (heap_alloc_old w.drew _ (by have := (owns_lt hown g rfl).2; simpa using this)).trans hg

theorem wp_app2 {P : Program} {w : World} {t e : TypeId} {z : Value} {size bytes : Nat} (ht : P.underlying t = some (.slice e))
    (hinfo : (P.info? e).map (fun i => (i.zero, i.size, i.bytes)) = some (some z, size, bytes)) (hzs : z.cells.size = size) (hsz : 0 < size)
    {o : Oper} {a : Act} {K : Act → World → Prop} {Q : Exit → Act → World → Prop} (s x : Operand)
    (ho : o.op = .call { callee := .builtin .append, args := #[s, x], argTypes := #[t, t] })
    {B : Nat} {v : Value} {n : Nat} {xs : List Value} (hs : a.eval s = v) (hown : w.ownsRow B e size v n xs) {sv : Value} {m : Nat} {news : List Value} (hx : a.eval x = sv) (hsrc : Src w sv m size news)
    (h63 : n + m ≤ maxLen) (hbytes : (n + m) * bytes ≤ 140737488355328) (hbase : B ≤ w.heap.size)
    (h : ∀ v' w', w'.ownsRow B e size v' (n + m) (xs ++ news) → AppF w w' v v' → w'.ownsRow B e size v n xs → K (a.put o.dst v') w') : o.wp P a w K Q := by
  obtain ⟨v', w', hr, h2, h3, h4⟩ := app_run2 (P := P) w o.type ht hinfo hzs hsz hown hsrc h63 hbytes hbase
  unfold Oper.wp execOp
  simp only [ho, resolve, invoke, builtin, Sem.run_bind, Sem.run_pure, Result.andThen_ok, List.map_toArray, List.map_cons, List.map_nil, hs, hx, hr]
  exact h v' w' h2 h3 h4

/-- append onto a row of numbers, in a region: the row as it was stays, too. -/
theorem step_appI2 {w : World} {ops : Array Oper} {o : Oper} {a : Act} {K : Act → World → Prop} {Q : Exit → Act → World → Prop} {E : Prop} (hgd : o.guard = none) (s x : Operand)
    (ho : o.op = .call { callee := .builtin .append, args := #[s, x], argTypes := #[38, 38] })
    {B : Nat} {v : Value} {xs : List Int} (hs : a.eval s = v) (hown : OwnI w B v xs) {sv : Value} {l : List Int} (hx : a.eval x = sv) (hsrc : Src w sv l.length 1 (intCells l))
    (hb : xs.length + l.length ≤ 10000000000) (hbase : B ≤ w.heap.size)
    (h : ∀ v' w', OwnI w' B v' (xs ++ l) → AppF w w' v v' → OwnI w' B v xs → K (a.put o.dst v') w') : if Region.wanted o (yielded ops a.tmps) = true then Oper.wp Try.prog o a w K Q else E := by
  have hw : Region.wanted o (yielded ops a.tmps) = true := by simp [Region.wanted, hgd]
  rw [if_pos hw]
  exact wp_app2 Try.underlying38 infoInt rfl (by omega) s x ho hs hown hx hsrc (by unfold maxLen; omega) (by omega) hbase
    fun v' w' h1 h2 h3 => h v' w' (by unfold OwnI; rw [intCells_append, List.length_append]; exact h1) h2 h3

/-- Two headers on one row, the shorter one the head of the longer one: what keeps the longer one keeps the shorter one. -/
theorem OwnI.shorter {w w' : World} {B : Nat} {v v' : Value} {xs ys : List Int} (h1 : OwnI w B v xs) (h2 : OwnI w B v' (xs ++ ys)) (h3 : OwnI w' B v' (xs ++ ys)) (hk : v.ownBlock ≠ v'.ownBlock → ∀ k, v.ownBlock = some k → w'.heap[k]? = w.heap[k]?) : OwnI w' B v xs := by
  refine ⟨h1.1, ?_⟩
  rcases h1.2 with ⟨rfl, h0⟩ | ⟨g, cap, cur, rfl, hbg, hg, hnc, hcm, hcs, htake⟩
  · exact .inl ⟨rfl, h0⟩
  by_cases hv : v'.ownBlock = some g
  · rcases h2.2 with ⟨rfl, _⟩ | ⟨g2, cap2, cur2, rfl, _, hg2, hnc2, _, hcs2, _⟩
    · simp [Value.ownBlock] at hv
    obtain rfl : g2 = g := by simpa [Value.ownBlock] using hv
    rcases h3.2 with ⟨e3, _⟩ | ⟨g3, cap3, cur3, e3, _, hg3, hnc3, _, hcs3, ht3⟩
    · simp at e3
    simp only [Value.slice.injEq, Option.some.injEq, Addr.mk.injEq, and_true, true_and] at e3
    obtain ⟨rfl, rfl⟩ := e3
    rw [hg2] at hg
    simp only [Option.some.injEq, Obj.cells.injEq, and_true] at hg
    subst hg
    have hcc : cap2 = cap := by omega
    subst hcc
    refine .inr ⟨g2, cap2, cur3, rfl, hbg, hg3, hnc, hcm, hcs3, ?_⟩
    have e1 : cur3.toList.take (xs.length * 1) = (cur3.toList.take ((xs ++ ys).length * 1)).take (xs.length * 1) := by
      rw [List.take_take]
      congr 1
      simp only [List.length_append]
      omega
    rw [e1, ht3, intCells_append, Nat.mul_one, ← intCells_length xs]
    exact List.take_left
  · refine .inr ⟨g, cap, cur, rfl, hbg, ?_, hnc, hcm, hcs, htake⟩
    rw [hk (by simpa [Value.ownBlock] using fun e => hv e.symm) g rfl]
    exact hg

/-! ### Slices of numbers -/

/-- The i-th number. -/
def iat (l : List Int) (i : Nat) : Int := l.getD i 0

/-- A slice of numbers that lies in some blocks. -/
def RdPS (S : Nat → Prop) (w : World) (a : Option Addr) (l : List Int) : Prop :=
  RdF w a l.length (fun i => .int .i64 (iat l i)) ∧ (0 < l.length → ∀ p, a = some p → S p.block)

theorem RdPS.keep {S : Nat → Prop} {w w' : World} (hk : KeepS S w w') {a l} (h : RdPS S w a l) : RdPS S w' a l := by
  refine ⟨fun i hi => ?_, h.2⟩
  obtain ⟨b, o, ha, hc⟩ := h.1 i hi
  exact ⟨b, o, ha, hk ⟨b, o + i, none⟩ _ (h.2 (by omega) ⟨b, o, none⟩ ha) hc⟩

theorem RdPS.imp {S S' : Nat → Prop} {w : World} (hS : ∀ k, k < w.heap.size → S k → S' k) {a l} (h : RdPS S w a l) : RdPS S' w a l := by
  refine ⟨h.1, fun hn p hp => ?_⟩
  obtain ⟨b, o, ha, hc⟩ := h.1 0 hn
  refine hS _ ?_ (h.2 hn p hp)
  rw [hp] at ha
  obtain rfl := Option.some.inj ha
  have := cell_block hc
  simpa using this

theorem RdPS.news {S : Nat → Prop} {w : World} {ad : Addr} {l : List Int} (h : RdPS S w (some ad) l) : ∀ j u, (intCells l)[j]? = some u → w.cell? (ad.add j) = some u := by
  intro j u hj
  have hlt : j < l.length := by
    have := (List.getElem?_eq_some_iff.1 hj).1
    rwa [intCells_length] at this
  obtain ⟨b, o, ha, hc⟩ := h.1 j hlt
  simp only [Option.some.injEq] at ha
  subst ha
  have := intCells_at l j hlt
  rw [List.getD_eq_getElem?_getD, hj] at this
  rw [add_at, hc]
  exact congrArg some this.symm

theorem intCells_one (l : List Int) : ∀ u ∈ intCells l, u.oneCell' = true := by
  intro u hu
  simp only [intCells, List.mem_map] at hu
  obtain ⟨x, _, rfl⟩ := hu
  rfl

theorem RdPS.src {S : Nat → Prop} {w : World} {a : Option Addr} {l : List Int} {c : Nat} (h : RdPS S w a l) (hc : a = none → c = 0) : Src w (.slice a l.length c) l.length 1 (intCells l) := by
  cases a with
  | none =>
    have := hc rfl
    subst this
    have hl : l.length = 0 := by
      rcases Nat.eq_zero_or_pos l.length with h0 | h0
      · exact h0
      · obtain ⟨b, o, ha, _⟩ := h.1 0 h0; simp at ha
    have hn : l = [] := List.eq_nil_of_length_eq_zero hl
    subst hn
    exact .inl ⟨rfl, rfl, rfl⟩
  | some ad => exact .inr ⟨ad, c, rfl, by rw [intCells_length, Nat.mul_one], h.news, intCells_one l⟩

theorem OwnI.rd {w : World} {B : Nat} {v : Value} {l : List Int} (h : OwnI w B v l) : ∃ a c, v = .slice a l.length c ∧ RdPS (fun k => v.ownBlock = some k) w a l ∧ (a = none → c = 0) ∧ l.length ≤ c ∧ l.length ≤ 9223372036854775807 := by
  obtain ⟨a, c, rfl, hm, hg⟩ := h.reads
  refine ⟨a, c, rfl, ⟨fun i hi => hg i hi, fun _ p hp => by rw [hp]; rfl⟩, ?_, ?_, hm⟩
  · rintro rfl
    rcases h.2 with ⟨e, _⟩ | ⟨g, cp, cur, e, _⟩
    · simp only [Value.slice.injEq] at e; exact e.2.2
    · simp at e
  · rcases h.2 with ⟨e, h0⟩ | ⟨g, cp, cur, e, _, _, hnc, _⟩
    · omega
    · simp only [Value.slice.injEq] at e; omega

/-- A new row of numbers, answered. -/
def IntsPost (w : World) (l : List Int) (e : Ending) (w' : World) : Prop :=
  ∃ v, e = .returned v ∧ OwnI w' w.heap.size v l ∧ Below w.heap.size w w'

/-- A new row of bytes, answered. -/
def BytesPost (w : World) (bs : List UInt8) (e : Ending) (w' : World) : Prop :=
  ∃ v, e = .returned v ∧ OwnB w' w.heap.size v bs ∧ Below w.heap.size w w'

theorem cloneI_nil (w : World) : Calls Try.prog 46 #[.slice none 0 0] w fun e w' => e = .returned (.slice none 0 0) ∧ w = w' := by
  have hn := Lib.run_eql_slice_nil (P := Try.prog)
  go_enter Try.func46, Try.ntmps46
  go_wp2
  go_ret
  exact ⟨rfl, rfl⟩

theorem cloneB_nil (w : World) : Calls Try.prog 48 #[.slice none 0 0] w fun e w' => e = .returned (.slice none 0 0) ∧ w = w' := by
  have hn := Lib.run_eql_slice_nil (P := Try.prog)
  go_enter Try.func48, Try.ntmps48
  go_wp2
  go_ret
  exact ⟨rfl, rfl⟩

set_option maxRecDepth 100000 in
set_option maxHeartbeats 1000000 in
theorem cloneI_some (ad : Addr) (len cap : Nat) (l : List Int) (w : World) (S : Nat → Prop) (hlen : l.length = len) (h : RdPS S w (some ad) l) (hb : len ≤ 1000000000) :
    Calls Try.prog 46 #[.slice (some ad) len cap] w (IntsPost w l) := by
  have H := Lib.hid h
  have HL := Lib.hid hlen
  clear h hlen
  have hn := Lib.run_eql_slice_nil (P := Try.prog)
  go_enter Try.func46, Try.ntmps46
  go_wp2_with (at_builtin; refine wpList_appI (v := .slice (some ⟨w.heap.size, 0, none⟩) 0 0) (xs := []) (sv := .slice (some ad) len cap) (l := l) (B := w.heap.size) (by rfl) _ _ (by rfl) (by rfl) ?own (by rfl) ?src ?c3 ?c4 ?_)
  case own => exact World.ownsRow_lit w #[] 0 (Nat.le_refl _) (by unfold maxLen; omega) rfl
  case src =>
    have := (H.out.keep (KeepS.below ((Below.refl _ _).alloc (Nat.le_refl _) _))).src (c := cap) (w := w.alloc (.cells #[] 3)) (by simp)
    rw [HL.out] at this
    rw [HL.out]
    exact this
  case c3 => simp only [List.length_nil, HL.out]; omega
  case c4 => simp
  intro v' w1 hown' hgrow
  have HO' := Lib.hid hown'
  have HG := Lib.hid hgrow
  clear hown' hgrow
  go_wp2_with fail
  go_ret
  exact ⟨v', rfl, by simpa using HO'.out, HG.out.below ((Below.refl w.heap.size w).alloc (Nat.le_refl _) _) (by simp) fun k hk => by simp [Value.ownBlock] at hk; omega⟩

set_option maxRecDepth 100000 in
set_option maxHeartbeats 1000000 in
theorem cloneB_some (ad : Addr) (len cap : Nat) (l : List UInt8) (w : World) (h : RdB w (some ad) len l) (hb : len ≤ 1000000000) :
    Calls Try.prog 48 #[.slice (some ad) len cap] w (BytesPost w l) := by
  have H := Lib.hid h
  have HL := Lib.hid h.1
  clear h
  have hn := Lib.run_eql_slice_nil (P := Try.prog)
  go_enter Try.func48, Try.ntmps48
  go_wp2_with (at_builtin; refine wpList_appB (v := .slice (some ⟨w.heap.size, 0, none⟩) 0 0) (bs := []) (sv := .slice (some ad) len cap) (l := l) (B := w.heap.size) (by rfl) _ _ (by rfl) (by rfl) ?own (by rfl) ?src ?c3 ?c4 ?_)
  case own => exact World.ownsRow_lit w #[] 0 (Nat.le_refl _) (by unfold maxLen; omega) rfl
  case src => exact ⟨_, _, _, rfl, H.out.keep ((Below.refl _ _).alloc (Nat.le_refl _) _), by simp⟩
  case c3 => simp only [List.length_nil, HL.out]; omega
  case c4 => simp
  intro v' w1 hown' hgrow
  have HO' := Lib.hid hown'
  have HG := Lib.hid hgrow
  clear hown' hgrow
  go_wp2_with fail
  go_ret
  exact ⟨v', rfl, by simpa using HO'.out, HG.out.below ((Below.refl w.heap.size w).alloc (Nat.le_refl _) _) (by simp) fun k hk => by simp [Value.ownBlock] at hk; omega⟩

theorem cloneI_calls (a : Option Addr) (len cap : Nat) (l : List Int) (w : World) (S : Nat → Prop) (hlen : l.length = len) (h : RdPS S w a l) (hc : a = none → cap = 0) (hb : len ≤ 1000000000) :
    Calls Try.prog 46 #[.slice a len cap] w (IntsPost w l) := by
  cases a with
  | some ad => exact cloneI_some ad len cap l w S hlen h hb
  | none =>
    have h0 : len = 0 := by
      rcases Nat.eq_zero_or_pos len with h0 | h0
      · exact h0
      · obtain ⟨b, o, ha, _⟩ := h.1 0 (by omega)
        cases ha
    subst h0
    obtain rfl := hc rfl
    have hl : l = [] := List.eq_nil_of_length_eq_zero hlen
    subst hl
    refine (cloneI_nil w).mono ?_
    rintro e w' ⟨rfl, rfl⟩
    exact ⟨_, rfl, World.ownsRow_nil _ _ _ _, Below.refl _ _⟩

theorem cloneB_calls (a : Option Addr) (len cap : Nat) (l : List UInt8) (w : World) (h : RdB w a len l) (hc : a = none → cap = 0) (hb : len ≤ 1000000000) :
    Calls Try.prog 48 #[.slice a len cap] w (BytesPost w l) := by
  cases a with
  | some ad => exact cloneB_some ad len cap l w h hb
  | none =>
    have h0 : len = 0 := by
      rcases Nat.eq_zero_or_pos len with h0 | h0
      · exact h0
      · obtain ⟨b, o, ha, _⟩ := h.at 0 h0
        cases ha
    subst h0
    obtain rfl := hc rfl
    have hl : l = [] := List.eq_nil_of_length_eq_zero h.1
    subst hl
    refine (cloneB_nil w).mono ?_
    rintro e w' ⟨rfl, rfl⟩
    exact ⟨_, rfl, World.ownsRow_nil _ _ _ _, Below.refl _ _⟩

/-- A new row of bytes reads as bytes in new blocks. -/
theorem OwnB.rdS {w : World} {B : Nat} {v : Value} {bs : List UInt8} (h : OwnB w B v bs) : ∃ a c, v = .slice a bs.length c ∧ RdBS (fun k => B ≤ k ∧ k < w.heap.size) w a bs.length bs ∧ Roomy a bs.length c := by
  obtain ⟨a, c, rfl, hr⟩ := h.reads
  refine ⟨a, c, rfl, ⟨hr, fun _ p hp => owns_lt h p.block (by rw [hp]; rfl)⟩, ?_, ?_⟩
  · rintro rfl
    rcases h.2 with ⟨e, _⟩ | ⟨g, cp, cur, e, _⟩
    · simp only [Value.slice.injEq] at e; exact e.2.2
    · simp at e
  · rcases h.2 with ⟨e, h0⟩ | ⟨g, cp, cur, e, _, _, hnc, _⟩
    · omega
    · simp only [Value.slice.injEq] at e; omega

/-! ### Rows of texts -/

def strCells (l : List ByteArray) : List Value := l.map .string
def OwnS (w : World) (B : Nat) (v : Value) (l : List ByteArray) : Prop := w.ownsRow B 9 1 v l.length (strCells l)
theorem infoStr : (Try.prog.info? 9).map (fun i => (i.zero, i.size, i.bytes)) = some (some (.string ByteArray.empty), 1, 16) := by kernel_rfl

theorem wpList_appS {w : World} {ops : Array Oper} {rest : List Oper} {o : Oper} {a : Act} {Q : Exit → Act → World → Prop} (hgd : o.guard = none) (s x : Operand)
    (ho : o.op = .call { callee := .builtin .append, args := #[s, x], argTypes := #[39, 39] })
    {B : Nat} {v : Value} {xs : List ByteArray} (hs : a.eval s = v) (hown : OwnS w B v xs) {sv : Value} {l : List ByteArray} (hx : a.eval x = sv) (hsrc : Src w sv l.length 1 (strCells l))
    (hb : xs.length + l.length ≤ 1000000000) (hbase : B ≤ w.heap.size)
    (h : ∀ v' w', OwnS w' B v' (xs ++ l) → AppF w w' v v' → wpList Try.prog ops Q rest (a.put o.dst v') w') : wpList Try.prog ops Q (o :: rest) a w :=
  wpList_app Try.underlying39 infoStr rfl (by omega) hgd s x ho hs hown hx hsrc (by unfold maxLen; omega) (by omega) hbase
    fun v' w' h1 h2 => h v' w' (by unfold OwnS strCells; rw [List.map_append, List.length_append]; exact h1) h2

theorem src_str (w : World) (x : ByteArray) (t : TypeId) : Src (w.alloc (.cells #[.string x] t)) (.slice (some ⟨w.heap.size, 0, none⟩) 1 1) 1 1 (strCells [x]) :=
  .inr ⟨_, 1, rfl, rfl, cell_one_new w _ t, by simp [strCells, Value.oneCell']⟩

def strAt (l : List ByteArray) (i : Nat) : ByteArray := l.getD i ByteArray.empty
theorem OwnS.rd {w : World} {B : Nat} {v : Value} {l : List ByteArray} (h : OwnS w B v l) : ∃ a c, v = .slice a l.length c ∧ l.length ≤ 9223372036854775807 ∧ RdF w a l.length fun i => .string (strAt l i) := by
  obtain ⟨a, cap, rfl, hm, hg⟩ := owns_reads h
  refine ⟨a, cap, rfl, hm, fun i hi => ?_⟩
  obtain ⟨b, o, ha, hc⟩ := hg i hi
  refine ⟨b, o, ha, ?_⟩
  have := hc 0 (by omega)
  rw [Nat.mul_one, Nat.add_zero] at this
  rw [this]
  show some ((strCells l).getD (i * 1 + 0) undef) = _
  rw [Nat.mul_one, Nat.add_zero]
  simp [strCells, strAt, List.getD_eq_getElem?_getD, List.getElem?_map, List.getElem?_eq_getElem hi]

/-! ### Rows of paths -/

/-- Cells, one behind the other, are those of paths. -/
def PsC (S : Nat → Prop) (w : World) : List (List Int) → List Value → Prop
  | [], xs => xs = []
  | p :: r, xs => ∃ a c ys, xs = .slice a p.length c :: ys ∧ p.length ≤ 9223372036854775807 ∧ RdPS S w a p ∧ (a = none → c = 0) ∧ p.length ≤ c ∧ PsC S w r ys

theorem PsC.length {S : Nat → Prop} {w : World} : ∀ {f : List (List Int)} {xs : List Value}, PsC S w f xs → xs.length = f.length
  | [], xs, h => by have : xs = [] := h; subst this; rfl
  | p :: r, xs, h => by
    obtain ⟨a, c, ys, rfl, _, _, _, _, h2⟩ := h
    simp [PsC.length h2]

theorem PsC.keep {S : Nat → Prop} {w w' : World} (hk : KeepS S w w') : ∀ {f : List (List Int)} {xs : List Value}, PsC S w f xs → PsC S w' f xs
  | [], xs, h => h
  | p :: r, xs, h => by
    obtain ⟨a, c, ys, rfl, h1, h2, h3, h4, h5⟩ := h
    exact ⟨a, c, ys, rfl, h1, h2.keep hk, h3, h4, PsC.keep hk h5⟩

theorem PsC.imp {S S' : Nat → Prop} {w : World} (hS : ∀ k, k < w.heap.size → S k → S' k) : ∀ {f : List (List Int)} {xs : List Value}, PsC S w f xs → PsC S' w f xs
  | [], xs, h => h
  | p :: r, xs, h => by
    obtain ⟨a, c, ys, rfl, h1, h2, h3, h4, h5⟩ := h
    exact ⟨a, c, ys, rfl, h1, h2.imp hS, h3, h4, PsC.imp hS h5⟩

theorem PsC.append {S : Nat → Prop} {w : World} : ∀ {f g : List (List Int)} {xs ys : List Value}, PsC S w f xs → PsC S w g ys → PsC S w (f ++ g) (xs ++ ys)
  | [], g, xs, ys, h, k => by have : xs = [] := h; subst this; exact k
  | p :: r, g, xs, ys, h, k => by
    obtain ⟨a, c, zs, rfl, h1, h2, h3, h4, h5⟩ := h
    exact ⟨a, c, zs ++ ys, by simp, h1, h2, h3, h4, PsC.append h5 k⟩

theorem PsC.one_cell {S : Nat → Prop} {w : World} : ∀ {f : List (List Int)} {xs : List Value}, PsC S w f xs → ∀ u ∈ xs, u.oneCell' = true
  | [], xs, h, u, hu => by have : xs = [] := h; subst this; simp at hu
  | p :: r, xs, h, u, hu => by
    obtain ⟨a, c, ys, rfl, h1, h2, h3, h4, h5⟩ := h
    rcases List.mem_cons.1 hu with rfl | hu
    · rfl
    · exact PsC.one_cell h5 u hu

def pAt (l : List (List Int)) (i : Nat) : List Int := l.getD i []

theorem PsC.at {S : Nat → Prop} {w : World} : ∀ {f : List (List Int)} {xs : List Value} (i : Nat), PsC S w f xs → i < f.length → ∃ a c, xs[i]? = some (.slice a (pAt f i).length c) ∧ (pAt f i).length ≤ 9223372036854775807 ∧ RdPS S w a (pAt f i) ∧ (a = none → c = 0) ∧ (pAt f i).length ≤ c
  | [], xs, i, h, hi => by simp at hi
  | p :: r, xs, 0, h, hi => by
    obtain ⟨a, c, ys, rfl, h1, h2, h3, h4, h5⟩ := h
    exact ⟨a, c, rfl, h1, h2, h3, h4⟩
  | p :: r, xs, i + 1, h, hi => by
    obtain ⟨a, c, ys, rfl, h1, h2, h3, h4, h5⟩ := h
    have := PsC.at i h5 (by simpa using hi)
    simpa [pAt] using this

/-- A row of paths of the call's own; the paths lie in blocks of L, not in the row's own block. -/
def OwnR (w : World) (B : Nat) (L : Nat → Prop) (v : Value) (f : List (List Int)) : Prop :=
  ∃ xs S, w.ownsRow B 38 1 v f.length xs ∧ PsC S w f xs ∧ ∀ k, S k → L k ∧ v.ownBlock ≠ some k

theorem infoPath : (Try.prog.info? 38).map (fun i => (i.zero, i.size, i.bytes)) = some (some (.slice none 0 0), 1, 24) := by kernel_rfl

theorem OwnR.nil (w : World) (B : Nat) (L : Nat → Prop) : OwnR w B L (.slice none 0 0) [] := ⟨[], fun _ => False, World.ownsRow_nil _ _ _ _, rfl, fun _ h => h.elim⟩

/-- Where paths to be appended come from. -/
def SrcR (S : Nat → Prop) (w : World) (sv : Value) (f : List (List Int)) : Prop := ∃ xs, PsC S w f xs ∧ Src w sv f.length 1 xs

theorem OwnR.app {w w' : World} {B : Nat} {L : Nat → Prop} {v v' : Value} {f g : List (List Int)} {xs ys : List Value} {S S1 : Nat → Prop} (hk : PsC S w f xs) (hS : ∀ k, S k → L k ∧ v.ownBlock ≠ some k) (hg : PsC S1 w g ys) (hS1 : ∀ k, S1 k → L k ∧ v.ownBlock ≠ some k)
    (ho : w'.ownsRow B 38 1 v' (f.length + g.length) (xs ++ ys)) (ha : AppF w w' v v') : OwnR w' B L v' (f ++ g) := by
  have h1 := (hk.imp (S' := fun k => (S k ∨ S1 k) ∧ k < w.heap.size) (fun k hl h => ⟨.inl h, hl⟩)).append (hg.imp (S' := fun k => (S k ∨ S1 k) ∧ k < w.heap.size) (fun k hl h => ⟨.inr h, hl⟩))
  have hno : ∀ k, ((S k ∨ S1 k) ∧ k < w.heap.size) → L k ∧ v.ownBlock ≠ some k := fun k h => by rcases h.1 with h | h; exact hS k h; exact hS1 k h
  refine ⟨_, _, by rw [List.length_append]; exact ho, h1.keep (KeepS.app ha fun k h => (hno k h).2), fun k h => ⟨(hno k h).1, ?_⟩⟩
  exact AppF.far ha (hno k h).2 h.2

theorem wpList_appR {w : World} {ops : Array Oper} {rest : List Oper} {o : Oper} {a : Act} {Q : Exit → Act → World → Prop} (hgd : o.guard = none) (s x : Operand)
    (ho : o.op = .call { callee := .builtin .append, args := #[s, x], argTypes := #[33, 33] })
    {B : Nat} {L : Nat → Prop} {v : Value} {f : List (List Int)} (hs : a.eval s = v) (hown : OwnR w B L v f) {sv : Value} {g : List (List Int)} {S1 : Nat → Prop} (hx : a.eval x = sv) (hsrc : SrcR S1 w sv g) (hS1 : ∀ k, S1 k → L k ∧ v.ownBlock ≠ some k)
    (hb : f.length + g.length ≤ 1000000000) (hbase : B ≤ w.heap.size)
    (h : ∀ v' w', OwnR w' B L v' (f ++ g) → AppF w w' v v' → wpList Try.prog ops Q rest (a.put o.dst v') w') : wpList Try.prog ops Q (o :: rest) a w := by
  obtain ⟨xs, S, ho', hk, hS⟩ := hown
  obtain ⟨ys, hg, hsr⟩ := hsrc
  exact wpList_app Try.underlying33 infoPath rfl (by omega) hgd s x ho hs ho' hx hsr (by unfold maxLen; omega) (by omega) hbase
    fun v' w' h1 h2 => h v' w' (OwnR.app hk hS hg hS1 h1 h2) h2

theorem OwnR.keep {w w' : World} {B : Nat} {L : Nat → Prop} {v : Value} {f : List (List Int)} (h : OwnR w B L v f) (hb : Below w.heap.size w w') : OwnR w' B L v f := by
  obtain ⟨xs, S, h1, h2, h3⟩ := h
  exact ⟨xs, S, owns_keep h1 hb, h2.keep (KeepS.below hb), h3⟩

theorem owns_chg {X : Nat → Prop} {w w' : World} {B e size n : Nat} {v : Value} {xs : List Value} (h : w.ownsRow B e size v n xs) (hc : Chg X w w') (hv : ∀ k, v.ownBlock = some k → ¬ X k) : w'.ownsRow B e size v n xs := by
  refine ⟨h.1, ?_⟩
  rcases h.2 with h0 | ⟨g, cap, cur, rfl, hbg, hg, rest⟩
  · exact .inl h0
  · refine .inr ⟨g, cap, cur, rfl, hbg, ?_, rest⟩
    rw [hc.block g (by have := (owns_lt h g rfl).2; omega) (hv g rfl)]
    exact hg

theorem OwnR.chg {X : Nat → Prop} {w w' : World} {B : Nat} {L : Nat → Prop} {v : Value} {f : List (List Int)} (h : OwnR w B L v f) (hc : Chg X w w') (hv : ∀ k, v.ownBlock = some k → ¬ X k) (hL : ∀ k, L k → ¬ X k) : OwnR w' B L v f := by
  obtain ⟨xs, S, h1, h2, h3⟩ := h
  exact ⟨xs, S, owns_chg h1 hc hv, h2.keep (KeepS.chg hc fun k hk => hL k (h3 k hk).1), h3⟩

theorem OwnR.imp {w : World} {B : Nat} {L L' : Nat → Prop} {v : Value} {f : List (List Int)} (h : OwnR w B L v f) (hL : ∀ k, k < w.heap.size → L k → L' k) : OwnR w B L' v f := by
  obtain ⟨xs, S, h1, h2, h3⟩ := h
  exact ⟨xs, fun k => S k ∧ k < w.heap.size, h1, h2.imp fun k hl hk => ⟨hk, hl⟩, fun k hk => ⟨hL k hk.2 (h3 k hk.1).1, (h3 k hk.1).2⟩⟩

/-- One path, laid in a block of its own. -/
theorem SrcR.one {S : Nat → Prop} {w : World} {a : Option Addr} {c n : Nat} {p : List Int} (hn : p.length = n) (h : RdPS S w a p) (hc : a = none → c = 0) (hpc : n ≤ c) (hm : n ≤ 9223372036854775807) (t : TypeId) :
    SrcR S (w.alloc (.cells #[.slice a n c] t)) (.slice (some ⟨w.heap.size, 0, none⟩) 1 1) [p] := by
  subst hn
  refine ⟨[.slice a p.length c], ⟨a, c, [], rfl, hm, h.keep (KeepS.below ((Below.refl _ _).alloc (Nat.le_refl _) _)), hc, hpc, rfl⟩, .inr ⟨_, 1, rfl, rfl, cell_one_new w _ t, by simp [Value.oneCell']⟩⟩

theorem OwnR.reads {w : World} {B : Nat} {L : Nat → Prop} {v : Value} {f : List (List Int)} (h : OwnR w B L v f) : ∃ xs a c, PsC L w f xs ∧ v = .slice a f.length c ∧ f.length ≤ 9223372036854775807 ∧ (a = none → c = 0) ∧ RdF w a f.length fun i => xs.getD i undef := by
  obtain ⟨xs, S, h1, h2, h3⟩ := h
  obtain ⟨a, cap, rfl, hm, hg⟩ := owns_reads h1
  refine ⟨xs, a, cap, h2.imp fun k _ hk => (h3 k hk).1, rfl, hm, ?_, fun i hi => ?_⟩
  · rintro rfl
    rcases h1.2 with ⟨e, _⟩ | ⟨g, cp, cur, e, _⟩
    · simp only [Value.slice.injEq] at e; exact e.2.2
    · simp at e
  · obtain ⟨b, o, ha, hc⟩ := hg i hi
    refine ⟨b, o, ha, ?_⟩
    have := hc 0 (by omega)
    simp only [Nat.mul_one, Nat.add_zero] at this
    exact this

end Go.Proofs.Ytiodjhcjfbnocaa
