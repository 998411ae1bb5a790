/- Rows of numbers of the call's own (out of the texts of layer 18). A path and one number more (out of the texts of layer 18). -/
import Derived.Test.YtkcfkdmffbhljaaMA
import Derived.Test.YtkcfkdmffbhljaaMB
import Derived.Test.YtkcfkdmffbhljaaMT
import Derived.PlainAid
namespace Go.Proofs.Ytkcfkdmffbhljaa
open Go.RowKit
set_option linter.unusedVariables false
set_option linter.unusedSimpArgs false

theorem app_run2 {P : Program} (w : World) {t : TypeId} (ty : TypeId) {e : TypeId} {z : Value} {size bytes : Nat} (ht : P.underlying t = some (.slice e))
    (hinfo : (P.info? e).map (fun i => (i.zero, i.size, i.bytes)) = some (some z, size, bytes)) (hzs : z.cells.size = size) (hsz : 0 < size)
    {B : Nat} {v : Value} {n : Nat} {xs : List Value} (hown : w.ownsRow B e size v n xs) {sv : Value} {m : Nat} {news : List Value} (hsrc : Src w sv m size news)
    (h63 : n + m ≤ maxLen) (hbytes : (n + m) * bytes ≤ 140737488355328) (hbase : B ≤ w.heap.size) :
    ∃ v' w', (Builtin.append_ #[t, t] ty #[v, sv]).run P w = .ok v' w' ∧ w'.ownsRow B e size v' (n + m) (xs ++ news) ∧ AppF w w' v v' ∧ w'.ownsRow B e size v n xs := by
  obtain ⟨v', w', hr, h2, h3⟩ := app_run (P := P) w ty ht hinfo hzs hsz hown hsrc h63 hbytes hbase
  refine ⟨v', w', hr, h2, h3, ?_⟩
  obtain ⟨i0, hi, hz0, hz1, hz2⟩ := info_parts hinfo
  subst hz1
  have hsmall : n + m ≤ 9223372036854775807 := by simp only [maxLen] at h63; omega
  rcases hown.2 with ⟨rfl, rfl⟩ | ⟨g, cap, cur, rfl, hbg, hg, hnc, hcm, hcs, htake⟩
  · have hx : xs = [] := List.eq_nil_of_length_eq_zero (by simpa using hown.1)
    subst hx
    exact World.ownsRow_nil _ _ _ _
  rcases hsrc with ⟨rfl, rfl, rfl⟩ | ⟨ad, c, rfl, hl, hn, h1⟩
  · have hr2 := run_append_owned_none (P := P) (w := w) B t ty e i0 i0.size ht hi _ n xs hown
    rw [hr2] at hr
    simp only [Result.ok.injEq] at hr
    rw [← hr.2]
    exact hown
  by_cases hroom : n + m ≤ cap
  · have hfit : n * i0.size + news.length ≤ cur.size := by rw [hl, hcs, ← Nat.add_mul]; exact Nat.mul_le_mul_right _ hroom
    have hr2 := run_append_room (P := P) w t ty e i0 ht hi g n cap cur hg ad m c news hl hn h1 hroom hfit
    rw [hr2] at hr
    simp only [Result.ok.injEq] at hr
    rw [← hr.2]
    refine ⟨hown.1, .inr ⟨g, cap, _, rfl, hbg, setRow_heap w g cur _ e _ hg, hnc, hcm, ?_, ?_⟩⟩
    · simp only [List.size_toArray, List.length_append, List.length_take, List.length_drop, Array.length_toList]
      omega
    · have hxl : (cur.toList.take (n * i0.size)).length = n * i0.size := by rw [htake]; exact hown.1
      rw [htake] at hxl
      rw [htake, List.append_assoc]
      rw [show n * i0.size = xs.length from hxl.symm]
      exact List.take_left
  · have holds : ∀ j u, xs[j]? = some u → w.cell? ((⟨g, 0, none⟩ : Addr).add j) = some u := hown.cells (g := g) rfl
    have hr2 := run_append_grow (P := P) w t ty e i0 _ ht hi hz0 ⟨g, 0, none⟩ n cap xs hown.1 holds ad m c news hl hn (by omega) (by omega) (growslice_fits (by omega) (by rw [hz2]; exact hbytes))
    rw [hr2] at hr
    simp only [Result.ok.injEq] at hr
    rw [← hr.2]
    refine ⟨hown.1, .inr ⟨g, cap, cur, rfl, hbg, ?_, hnc, hcm, hcs, htake⟩⟩
    exact (heap_alloc_old w.drew _ (by have := (owns_lt hown g rfl).2; simpa using this)).trans hg

theorem wp_app2 {P : Program} {w : World} {t e : TypeId} {z : Value} {size bytes : Nat} (ht : P.underlying t = some (.slice e))
    (hinfo : (P.info? e).map (fun i => (i.zero, i.size, i.bytes)) = some (some z, size, bytes)) (hzs : z.cells.size = size) (hsz : 0 < size)
    {o : Oper} {a : Act} {K : Act → World → Prop} {Q : Exit → Act → World → Prop} (s x : Operand)
    (ho : o.op = .call { callee := .builtin .append, args := #[s, x], argTypes := #[t, t] })
    {B : Nat} {v : Value} {n : Nat} {xs : List Value} (hs : a.eval s = v) (hown : w.ownsRow B e size v n xs) {sv : Value} {m : Nat} {news : List Value} (hx : a.eval x = sv) (hsrc : Src w sv m size news)
    (h63 : n + m ≤ maxLen) (hbytes : (n + m) * bytes ≤ 140737488355328) (hbase : B ≤ w.heap.size)
    (h : ∀ v' w', w'.ownsRow B e size v' (n + m) (xs ++ news) → AppF w w' v v' → w'.ownsRow B e size v n xs → K (a.put o.dst v') w') : o.wp P a w K Q := by
  obtain ⟨v', w', hr, h2, h3, h4⟩ := app_run2 (P := P) w o.type ht hinfo hzs hsz hown hsrc h63 hbytes hbase
  unfold Oper.wp execOp
  simp only [ho, resolve, invoke, builtin, Sem.run_bind, Sem.run_pure, Result.andThen_ok, List.map_toArray, List.map_cons, List.map_nil, hs, hx, hr]
  exact h v' w' h2 h3 h4

/-- append onto a row of numbers, in a region: the row as it was stays, too. -/
theorem step_appI2 {w : World} {ops : Array Oper} {o : Oper} {a : Act} {K : Act → World → Prop} {Q : Exit → Act → World → Prop} {E : Prop} (hgd : o.guard = none) (s x : Operand)
    (ho : o.op = .call { callee := .builtin .append, args := #[s, x], argTypes := #[32, 32] })
    {B : Nat} {v : Value} {xs : List Int} (hs : a.eval s = v) (hown : OwnI w B v xs) {sv : Value} {l : List Int} (hx : a.eval x = sv) (hsrc : Src w sv l.length 1 (intCells l))
    (hb : xs.length + l.length ≤ 10000000000) (hbase : B ≤ w.heap.size)
    (h : ∀ v' w', OwnI w' B v' (xs ++ l) → AppF w w' v v' → OwnI w' B v xs → K (a.put o.dst v') w') : if Region.wanted o (yielded ops a.tmps) = true then Oper.wp Try.prog o a w K Q else E := by
  have hw : Region.wanted o (yielded ops a.tmps) = true := by simp [Region.wanted, hgd]
  rw [if_pos hw]
  exact wp_app2 Try.underlying32 infoInt rfl (by omega) s x ho hs hown hx hsrc (by unfold maxLen; omega) (by omega) hbase
    fun v' w' h1 h2 h3 => h v' w' (by unfold OwnI; rw [intCells_append, List.length_append]; exact h1) h2 h3

/-- Two headers on one row, the shorter one the head of the longer one: what keeps the longer one keeps the shorter one. -/
theorem OwnI.shorter {w w' : World} {B : Nat} {v v' : Value} {xs ys : List Int} (h1 : OwnI w B v xs) (h2 : OwnI w B v' (xs ++ ys)) (h3 : OwnI w' B v' (xs ++ ys)) (hk : v.ownBlock ≠ v'.ownBlock → ∀ k, v.ownBlock = some k → w'.heap[k]? = w.heap[k]?) : OwnI w' B v xs := by
  refine ⟨h1.1, ?_⟩
  rcases h1.2 with ⟨rfl, h0⟩ | ⟨g, cap, cur, rfl, hbg, hg, hnc, hcm, hcs, htake⟩
  · exact .inl ⟨rfl, h0⟩
  by_cases hv : v'.ownBlock = some g
  · rcases h2.2 with ⟨rfl, _⟩ | ⟨g2, cap2, cur2, rfl, _, hg2, hnc2, _, hcs2, _⟩
    · simp [Value.ownBlock] at hv
    obtain rfl : g2 = g := by simpa [Value.ownBlock] using hv
    rcases h3.2 with ⟨e3, _⟩ | ⟨g3, cap3, cur3, e3, _, hg3, hnc3, _, hcs3, ht3⟩
    · simp at e3
    simp only [Value.slice.injEq, Option.some.injEq, Addr.mk.injEq, and_true, true_and] at e3
    obtain ⟨rfl, rfl⟩ := e3
    rw [hg2] at hg
    simp only [Option.some.injEq, Obj.cells.injEq, and_true] at hg
    subst hg
    have hcc : cap2 = cap := by omega
    subst hcc
    refine .inr ⟨g2, cap2, cur3, rfl, hbg, hg3, hnc, hcm, hcs3, ?_⟩
    have e1 : cur3.toList.take (xs.length * 1) = (cur3.toList.take ((xs ++ ys).length * 1)).take (xs.length * 1) := by
      rw [List.take_take]
      congr 1
      simp only [List.length_append]
      omega
    rw [e1, ht3, intCells_append, Nat.mul_one, ← intCells_length xs]
    exact List.take_left
  · refine .inr ⟨g, cap, cur, rfl, hbg, ?_, hnc, hcm, hcs, htake⟩
    rw [hk (by simpa [Value.ownBlock] using fun e => hv e.symm) g rfl]
    exact hg

/-- The i-th number. -/
def iat (l : List Int) (i : Nat) : Int := l.getD i 0

/-- A slice of numbers that lies in some blocks. -/
def RdPS (S : Nat → Prop) (w : World) (a : Option Addr) (l : List Int) : Prop :=
  RdF w a l.length (fun i => .int .i64 (iat l i)) ∧ (0 < l.length → ∀ p, a = some p → S p.block)

theorem RdPS.keep {S : Nat → Prop} {w w' : World} (hk : KeepS S w w') {a l} (h : RdPS S w a l) : RdPS S w' a l := by
  refine ⟨fun i hi => ?_, h.2⟩
  obtain ⟨b, o, ha, hc⟩ := h.1 i hi
  exact ⟨b, o, ha, hk ⟨b, o + i, none⟩ _ (h.2 (by omega) ⟨b, o, none⟩ ha) hc⟩

theorem RdPS.imp {S S' : Nat → Prop} {w : World} (hS : ∀ k, k < w.heap.size → S k → S' k) {a l} (h : RdPS S w a l) : RdPS S' w a l := by
  refine ⟨h.1, fun hn p hp => ?_⟩
  obtain ⟨b, o, ha, hc⟩ := h.1 0 hn
  refine hS _ ?_ (h.2 hn p hp)
  rw [hp] at ha
  obtain rfl := Option.some.inj ha
  have := cell_block hc
  simpa using this

theorem RdPS.news {S : Nat → Prop} {w : World} {ad : Addr} {l : List Int} (h : RdPS S w (some ad) l) : ∀ j u, (intCells l)[j]? = some u → w.cell? (ad.add j) = some u := by
  intro j u hj
  have hlt : j < l.length := by
    have := (List.getElem?_eq_some_iff.1 hj).1
    rwa [intCells_length] at this
  obtain ⟨b, o, ha, hc⟩ := h.1 j hlt
  simp only [Option.some.injEq] at ha
  subst ha
  have := intCells_at l j hlt
  rw [List.getD_eq_getElem?_getD, hj] at this
  rw [add_at, hc]
  exact congrArg some this.symm

theorem intCells_one (l : List Int) : ∀ u ∈ intCells l, u.oneCell' = true := by
  intro u hu
  simp only [intCells, List.mem_map] at hu
  obtain ⟨x, _, rfl⟩ := hu
  rfl

theorem RdPS.src {S : Nat → Prop} {w : World} {a : Option Addr} {l : List Int} {c : Nat} (h : RdPS S w a l) (hc : a = none → c = 0) : Src w (.slice a l.length c) l.length 1 (intCells l) := by
  cases a with
  | none =>
    have := hc rfl
    subst this
    have hl : l.length = 0 := by
      rcases Nat.eq_zero_or_pos l.length with h0 | h0
      · exact h0
      · obtain ⟨b, o, ha, _⟩ := h.1 0 h0; simp at ha
    have hn : l = [] := List.eq_nil_of_length_eq_zero hl
    subst hn
    exact .inl ⟨rfl, rfl, rfl⟩
  | some ad => exact .inr ⟨ad, c, rfl, by rw [intCells_length, Nat.mul_one], h.news, intCells_one l⟩

theorem OwnI.rd {w : World} {B : Nat} {v : Value} {l : List Int} (h : OwnI w B v l) : ∃ a c, v = .slice a l.length c ∧ RdPS (fun k => v.ownBlock = some k) w a l ∧ (a = none → c = 0) ∧ l.length ≤ c ∧ l.length ≤ 9223372036854775807 := by
  obtain ⟨a, c, rfl, hm, hg⟩ := h.reads
  refine ⟨a, c, rfl, ⟨fun i hi => hg i hi, fun _ p hp => by rw [hp]; rfl⟩, ?_, ?_, hm⟩
  · rintro rfl
    rcases h.2 with ⟨e, _⟩ | ⟨g, cp, cur, e, _⟩
    · simp only [Value.slice.injEq] at e; exact e.2.2
    · simp at e
  · rcases h.2 with ⟨e, h0⟩ | ⟨g, cp, cur, e, _, _, hnc, _⟩
    · omega
    · simp only [Value.slice.injEq] at e; omega

/-- A new row of numbers, answered. -/
def IntsPost (w : World) (l : List Int) (e : Ending) (w' : World) : Prop :=
  ∃ v, e = .returned v ∧ OwnI w' w.heap.size v l ∧ Below w.heap.size w w'

theorem cloneI_nil (w : World) : Calls Try.prog 83 #[.slice none 0 0] w fun e w' => e = .returned (.slice none 0 0) ∧ w = w' := by
  have hn := Lib.run_eql_slice_nil (P := Try.prog)
  go_enter Try.func83, Try.ntmps83
  go_wp2
  go_ret
  exact ⟨rfl, rfl⟩

set_option maxRecDepth 100000 in
set_option maxHeartbeats 1000000 in
theorem cloneI_some (ad : Addr) (len cap : Nat) (l : List Int) (w : World) (S : Nat → Prop) (hlen : l.length = len) (h : RdPS S w (some ad) l) (hb : len ≤ 1000000000) :
    Calls Try.prog 83 #[.slice (some ad) len cap] w (IntsPost w l) := by
  have H := Lib.hid h
  have HL := Lib.hid hlen
  clear h hlen
  have hn := Lib.run_eql_slice_nil (P := Try.prog)
  go_enter Try.func83, Try.ntmps83
  go_wp2_with (at_builtin; refine wpList_appI (v := .slice (some ⟨w.heap.size, 0, none⟩) 0 0) (xs := []) (sv := .slice (some ad) len cap) (l := l) (B := w.heap.size) (by rfl) _ _ (by rfl) (by rfl) ?own (by rfl) ?src ?c3 ?c4 ?_)
  case own => exact World.ownsRow_lit w #[] 0 (Nat.le_refl _) (by unfold maxLen; omega) rfl
  case src =>
    have := (H.out.keep (KeepS.below ((Below.refl _ _).alloc (Nat.le_refl _) _))).src (c := cap) (w := w.alloc (.cells #[] 3)) (by simp)
    rw [HL.out] at this
    rw [HL.out]
    exact this
  case c3 => simp only [List.length_nil, HL.out]; omega
  case c4 => simp
  intro v' w1 hown' hgrow
  have HO' := Lib.hid hown'
  have HG := Lib.hid hgrow
  clear hown' hgrow
  go_wp2_with fail
  go_ret
  exact ⟨v', rfl, by simpa using HO'.out, HG.out.below ((Below.refl w.heap.size w).alloc (Nat.le_refl _) _) (by simp) fun k hk => by simp [Value.ownBlock] at hk; omega⟩

theorem cloneI_calls (a : Option Addr) (len cap : Nat) (l : List Int) (w : World) (S : Nat → Prop) (hlen : l.length = len) (h : RdPS S w a l) (hc : a = none → cap = 0) (hb : len ≤ 1000000000) :
    Calls Try.prog 83 #[.slice a len cap] w (IntsPost w l) := by
  cases a with
  | some ad => exact cloneI_some ad len cap l w S hlen h hb
  | none =>
    have h0 : len = 0 := by
      rcases Nat.eq_zero_or_pos len with h0 | h0
      · exact h0
      · obtain ⟨b, o, ha, _⟩ := h.1 0 (by omega)
        cases ha
    subst h0
    obtain rfl := hc rfl
    have hl : l = [] := List.eq_nil_of_length_eq_zero hlen
    subst hl
    refine (cloneI_nil w).mono ?_
    rintro e w' ⟨rfl, rfl⟩
    exact ⟨_, rfl, World.ownsRow_nil _ _ _ _, Below.refl _ _⟩

/-- A new row of bytes reads as bytes in new blocks. -/
theorem OwnB.rdS {w : World} {B : Nat} {v : Value} {bs : List UInt8} (h : OwnB w B v bs) : ∃ a c, v = .slice a bs.length c ∧ RdBS (fun k => B ≤ k ∧ k < w.heap.size) w a bs.length bs ∧ Roomy a bs.length c := by
  obtain ⟨a, c, rfl, hr⟩ := h.reads
  refine ⟨a, c, rfl, ⟨hr, fun _ p hp => owns_lt h p.block (by rw [hp]; rfl)⟩, ?_, ?_⟩
  · rintro rfl
    rcases h.2 with ⟨e, _⟩ | ⟨g, cp, cur, e, _⟩
    · simp only [Value.slice.injEq] at e; exact e.2.2
    · simp at e
  · rcases h.2 with ⟨e, h0⟩ | ⟨g, cp, cur, e, _, _, hnc, _⟩
    · omega
    · simp only [Value.slice.injEq] at e; omega

def strCells (l : List ByteArray) : List Value := l.map .string

def OwnS (w : World) (B : Nat) (v : Value) (l : List ByteArray) : Prop := w.ownsRow B 9 1 v l.length (strCells l)

theorem infoStr : (Try.prog.info? 9).map (fun i => (i.zero, i.size, i.bytes)) = some (some (.string ByteArray.empty), 1, 16) := by kernel_rfl

theorem wpList_appS {w : World} {ops : Array Oper} {rest : List Oper} {o : Oper} {a : Act} {Q : Exit → Act → World → Prop} (hgd : o.guard = none) (s x : Operand)
    (ho : o.op = .call { callee := .builtin .append, args := #[s, x], argTypes := #[133, 133] })
    {B : Nat} {v : Value} {xs : List ByteArray} (hs : a.eval s = v) (hown : OwnS w B v xs) {sv : Value} {l : List ByteArray} (hx : a.eval x = sv) (hsrc : Src w sv l.length 1 (strCells l))
    (hb : xs.length + l.length ≤ 1000000000) (hbase : B ≤ w.heap.size)
    (h : ∀ v' w', OwnS w' B v' (xs ++ l) → AppF w w' v v' → wpList Try.prog ops Q rest (a.put o.dst v') w') : wpList Try.prog ops Q (o :: rest) a w :=
  wpList_app Try.underlying133 infoStr rfl (by omega) hgd s x ho hs hown hx hsrc (by unfold maxLen; omega) (by omega) hbase
    fun v' w' h1 h2 => h v' w' (by unfold OwnS strCells; rw [List.map_append, List.length_append]; exact h1) h2

theorem src_str (w : World) (x : ByteArray) (t : TypeId) : Src (w.alloc (.cells #[.string x] t)) (.slice (some ⟨w.heap.size, 0, none⟩) 1 1) 1 1 (strCells [x]) :=
  .inr ⟨_, 1, rfl, rfl, cell_one_new w _ t, by simp [strCells, Value.oneCell']⟩

def strAt (l : List ByteArray) (i : Nat) : ByteArray := l.getD i ByteArray.empty

theorem OwnS.rd {w : World} {B : Nat} {v : Value} {l : List ByteArray} (h : OwnS w B v l) : ∃ a c, v = .slice a l.length c ∧ l.length ≤ 9223372036854775807 ∧ RdF w a l.length fun i => .string (strAt l i) := by
  obtain ⟨a, cap, rfl, hm, hg⟩ := owns_reads h
  refine ⟨a, cap, rfl, hm, fun i hi => ?_⟩
  obtain ⟨b, o, ha, hc⟩ := hg i hi
  refine ⟨b, o, ha, ?_⟩
  have := hc 0 (by omega)
  rw [Nat.mul_one, Nat.add_zero] at this
  rw [this]
  show some ((strCells l).getD (i * 1 + 0) undef) = _
  rw [Nat.mul_one, Nat.add_zero]
  simp [strCells, strAt, List.getD_eq_getElem?_getD, List.getElem?_map, List.getElem?_eq_getElem hi]

theorem owns_chg {X : Nat → Prop} {w w' : World} {B e size n : Nat} {v : Value} {xs : List Value} (h : w.ownsRow B e size v n xs) (hc : Chg X w w') (hv : ∀ k, v.ownBlock = some k → ¬ X k) : w'.ownsRow B e size v n xs := by
  refine ⟨h.1, ?_⟩
  rcases h.2 with h0 | ⟨g, cap, cur, rfl, hbg, hg, rest⟩
  · exact .inl h0
  · refine .inr ⟨g, cap, cur, rfl, hbg, ?_, rest⟩
    rw [hc.block g (by have := (owns_lt h g rfl).2; omega) (hv g rfl)]
    exact hg

theorem src_cell {W : World} {g : Nat} {x : Int} (h : W.cell? ⟨g, 0, none⟩ = some (.int .i64 x)) : Src W (.slice (some ⟨g, 0, none⟩) 1 1) [x].length 1 (intCells [x]) := by
  refine .inr ⟨⟨g, 0, none⟩, 1, rfl, rfl, fun j u hj => ?_, by simp [intCells, Value.oneCell']⟩
  have h0 : j = 0 := by
    have := (List.getElem?_eq_some_iff.1 hj).1
    simp [intCells] at this
    omega
  subst h0
  have hu : u = .int .i64 x := by simpa [intCells] using hj.symm
  rw [hu, add_at]
  simpa using h

end Go.Proofs.Ytkcfkdmffbhljaa

namespace Go.Proofs.Ytkcfkdmffbhljaa
open Go.RowKit
set_option linter.unusedVariables false
set_option linter.unusedSimpArgs false

theorem RdPS.at {S : Nat → Prop} {w : World} {a : Option Addr} {l : List Int} (h : RdPS S w a l) (i : Nat) (hi : i < l.length) : ∃ b o, a = some ⟨b, o, none⟩ ∧ w.cell? ⟨b, o + i, none⟩ = some (.int .i64 (iat l i)) := h.1 i hi

theorem ownI_empty {w : World} {B g : Nat} (h : w.heap[g]? = some (.cells #[] 3 (0, 0))) (hB : B ≤ g) : OwnI w B (.slice (some ⟨g, 0, none⟩) 0 0) [] :=
  ⟨rfl, .inr ⟨g, 0, #[], rfl, hB, h, Nat.le_refl _, by unfold maxLen; omega, rfl, rfl⟩⟩

set_option maxRecDepth 100000 in
set_option maxHeartbeats 2000000 in
theorem longer_calls (S : Nat → Prop) (a : Option Addr) (n c : Nat) (p : List Int) (hn : p.length = n) (hc : a = none → c = 0) (hb : n ≤ 1000000) (i : Int) (w : World) (h : RdPS S w a p) :
    Calls Try.prog 68 #[.slice a n c, .int .i64 i] w fun e w' => ∃ v, e = .returned v ∧ OwnI w' w.heap.size v (p ++ [i]) ∧ Below w.heap.size w w' := by
  subst hn
  have HSR := Lib.hid ((h.keep (KeepS.below ((Below.refl _ _).alloc (Nat.le_refl _) (.cells #[] 3)))).src hc)
  have HE : Hid (OwnI (w.alloc (.cells #[] 3)) w.heap.size (.slice (some ⟨w.heap.size, 0, none⟩) 0 0) []) := ownI_empty (heap_alloc_new w _) (Nat.le_refl _)
  clear h hc
  obtain ⟨m, hm⟩ : ∃ m, m = p.length := ⟨_, rfl⟩
  rw [← hm] at HSR hb ⊢
  go_enter Try.func68, Try.ntmps68
  go_wp2_with (at_builtin; refine wpList_appI (v := .slice (some ⟨w.heap.size, 0, none⟩) 0 0) (xs := []) (sv := .slice a m c) (l := p) (B := w.heap.size) (by rfl) _ _ (by rfl) (by rfl) HE.out (by rfl) (by rw [← hm]; exact HSR.out) ?o3 ?o4 ?_)
  case o3 => rw [← hm]; simp; omega
  case o4 => simp
  intro v1 w1 ho1 ha1
  have ho1 : OwnI w1 w.heap.size v1 p := ho1
  have HB1 : Hid (Below w.heap.size w w1) := ha1.below ((Below.refl _ _).alloc (Nat.le_refl _) _) (by simp) (fun k hk => by have := Option.some.inj (show some w.heap.size = some k from hk); omega)
  have HO1 := Lib.hid ho1
  obtain ⟨a1, c1, rfl, -⟩ := ho1.rd
  rw [← hm] at HO1 ⊢
  have HM := Lib.hid hm
  clear ho1 ha1 HSR HE hm
  go_wp2_with (at_builtin; refine wpList_appI (v := .slice a1 m c1) (xs := p) (sv := .slice (some ⟨w1.heap.size, 0, none⟩) 1 1) (l := [i]) (B := w.heap.size) (by rfl) _ _ (by rfl) (by rfl) (owns_keep HO1.out ((Below.refl _ _).alloc (Nat.le_refl _) _)) (by rfl) (src_int _ _ _) ?o5 ?o6 ?_)
  case o5 => rw [← HM.out]; simp; omega
  case o6 => have := HB1.out.size; simp; omega
  intro v2 w2 ho2 ha2
  have HB2 : Hid (Below w.heap.size w w2) := ha2.below (HB1.out.alloc HB1.out.size _) (by have := HB1.out.size; simp; omega) (fun k hk => (owns_lt HO1.out k hk).1)
  have HO2 := Lib.hid ho2
  clear ho2 ha2
  go_wp2_with fail
  go_ret
  exact ⟨_, rfl, HO2.out, HB2.out⟩

/-- longer, in a world above another one. -/
theorem longer_at (S : Nat → Prop) {a : Option Addr} {n c : Nat} {p : List Int} (hn : p.length = n) (hc : a = none → c = 0) (hb : n ≤ 1000000) (i : Int) {wr W : World} (hW : Below wr.heap.size wr W) (h : RdPS S wr a p) :
    Calls Try.prog 68 #[.slice a n c, .int .i64 i] W fun e w' => ∃ a5 c5, e = .returned (.slice a5 (n + 1) c5) ∧ RdPS (fun k => wr.heap.size ≤ k ∧ k < w'.heap.size) w' a5 (p ++ [i]) ∧ (a5 = none → c5 = 0) ∧ n + 1 ≤ c5 ∧ Below wr.heap.size wr w' := by
  refine (longer_calls S a n c p hn hc hb i W (h.keep (KeepS.below hW))).mono ?_
  rintro e w' ⟨v, rfl, ho, hbl⟩
  have hl := fun k hk => owns_lt ho k hk
  obtain ⟨a5, c5, rfl, hr, hc5, hle, -⟩ := ho.rd
  have e1 : (p ++ [i]).length = n + 1 := by simp [hn]
  rw [e1] at hle hr hl ⊢
  exact ⟨a5, c5, rfl, hr.imp fun k _ hk => ⟨Nat.le_trans hW.size (hl k hk).1, (hl k hk).2⟩, hc5, hle, hW.trans (hbl.mono hW.size)⟩

theorem rdps_nil (S : Nat → Prop) (w : World) : RdPS S w none [] := ⟨fun i hi => absurd hi (by simp), fun h => absurd h (by simp)⟩

end Go.Proofs.Ytkcfkdmffbhljaa
