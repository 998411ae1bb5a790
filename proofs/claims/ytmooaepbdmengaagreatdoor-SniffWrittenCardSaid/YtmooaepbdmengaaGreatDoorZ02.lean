/- Parts of the proof of SniffWritten: LexP, Str, Sl, LexA, LexB, LexeP, LexC, LexD, UtfP, LexE, LexF, LexG, LexH, Conv, LexI0, Hex, Quo. -/
import Derived.Test.YtmooaepbdmengaaGreatDoorZ01
import Derived.Lib.Bytealg
import Derived.Lib.Strings
import Derived.Laws.OwnMore
import Derived.Lib.AppendStr
import Derived.Laws.IdiomStrings
import Derived.Deep.RegionHeld3
import Derived.Deep.DrawnRows
namespace Go.Proofs.YtmooaepbdmengaaGreatDoor
set_option linter.unusedVariables false
set_option linter.unusedSimpArgs false
def blank (c:UInt8):Bool:=c == 9 || c == 10 || c == 13 || c == 32
def blanks:List UInt8→Nat
 | []=>0
 | c::r=>if blank c then blanks r+1 else 0
theorem blanks_le:∀ l,blanks l≤l.length
 | []=>by simp [blanks]
 | c::r=>by have:=blanks_le r;simp only [blanks,List.length_cons];split<;>omega
def isDig (c:UInt8):Bool:=48≤c && c≤57
def digs:List UInt8→Nat
 | []=>0
 | c::r=>if isDig c then digs r+1 else 0
theorem digs_le:∀ l,digs l≤l.length
 | []=>by simp [digs]
 | c::r=>by have:=digs_le r;simp only [digs,List.length_cons];split<;>omega
def hd (l:List UInt8):UInt8:=l.headD 0
def lexExp (kind:Nat) (l:List UInt8):Nat:=
 match l with
 | []=>kind
 | c::r=>if c=101∨c=69 then
   let r':=match r with|[]=>[]|d::q=>if d=43∨d=45 then q else r
   if digs r'=0 then 0 else if digs r'=r'.length then 2 else 0
  else 0
def lexFrac (l:List UInt8):Nat:=
 match l with
 | []=>1
 | c::r=>if c=46 then (if digs r=0 then 0 else lexExp 2 (r.drop (digs r))) else lexExp 1 l
def lexeme (l:List UInt8):Nat:=
 let l':=match l with|[]=>[]|c::r=>if c=45 then r else l
 if digs l'=0∨(hd l'=48∧1 < digs l') then 0 else lexFrac (l'.drop (digs l'))
def hexC (n:Nat):UInt8:=UInt8.ofNat (if n < 10 then 48+n else 87+n)
def quoteB (c:UInt8):List UInt8:=
 if c=34∨c=92 then [92,c] else if c=8 then [92,98] else if c=12 then [92,102] else if c=10 then [92,110] else if c=13 then [92,114] else if c=9 then [92,116]
 else if c < 32 then [92,117,48,48,hexC (c.toNat / 16),hexC (c.toNat % 16)] else [c]
def quoteM (s:List UInt8):List UInt8:=(s.map quoteB).flatten
def quoteL (s:List UInt8):List UInt8:=34::(quoteM s++[34])
theorem quoteM_cons (c:UInt8) (s:List UInt8):quoteM (c::s)=quoteB c++quoteM s:=rfl
theorem quoteM_append (a b:List UInt8):quoteM (a++b)=quoteM a++quoteM b:=by simp [quoteM]
theorem bAt_get (l:List UInt8) (i:Nat) (h:i < l.length):bAt l i=(l[i]).toNat:=by
 unfold bAt;rw [List.getD_eq_getElem?_getD,List.getElem?_eq_getElem h];rfl
theorem quoteL_len (s:List UInt8):(quoteL s).length=(quoteM s).length+2:=by simp [quoteL]
end Go.Proofs.YtmooaepbdmengaaGreatDoor
namespace Go.Proofs.YtmooaepbdmengaaGreatDoor
open Go.RowKit
set_option linter.unusedVariables false
set_option linter.unusedSimpArgs false
def txt (l:List UInt8):ByteArray:=⟨l.toArray⟩
theorem strNums (l:List UInt8):strOfNums (l.map fun b=>((b.toNat:Nat):Int))=txt l:=by
 unfold strOfNums txt
 congr 2
 rw [List.map_map]
 conv=>rhs;rw [← List.map_id l]
 apply List.map_congr_left
 intro b _
 simp
theorem conv_str {w:World} {a:Option Addr} {len:Nat} {l:List UInt8} (h:RdB w a len l) (cap:Nat) :
  (convert 23 9 (.slice a len cap)).run Tryz.prog w=.ok (.string (txt l)) w:=by
 rcases Nat.eq_zero_or_pos len with h0|h0
 ·subst h0
  have hl:l=[]:=List.eq_nil_of_length_eq_zero h.1
  subst hl
  cases a with
  | none=>exact run_convert_bytes_nil w 23 5 Tryz.underlying23 Tryz.underlying5 0 cap 9 Tryz.underlying9
  | some ad=>
   rw [run_convert_bytes_string w 23 9 5 _ 0 cap Tryz.underlying23 Tryz.underlying5 Tryz.underlying9]
   rw [run_bytesToString w ad 0 cap [] (by simp [loadCells,loadCellsFrom])]
   rfl
 ·obtain ⟨b,o,rfl,_⟩:=h.at 0 h0
  rw [← strNums l]
  refine run_convert_bytes_arg w 23 5 Tryz.underlying23 Tryz.underlying5 b o len cap _ (by simpa using h.1) (fun i hi=>?_) 9 Tryz.underlying9
  obtain ⟨b',o',ha,hc⟩:=h.at i hi
  simp only [Option.some.injEq,Addr.mk.injEq,and_true] at ha
  obtain ⟨rfl,rfl⟩:=ha
  rw [hc]
  have hl:i < l.length:=by rw [h.1];exact hi
  simp [bAt,hl]
end Go.Proofs.YtmooaepbdmengaaGreatDoor
namespace Go.Proofs.YtmooaepbdmengaaGreatDoor
set_option linter.unusedVariables false
set_option linter.unusedSimpArgs false
def sl (s:ByteArray):List UInt8:=s.data.toList
theorem sl_len (s:ByteArray):(sl s).length=s.size:=by unfold sl;simp
theorem sl_at {s:ByteArray} {p:Nat} (h:p < s.size):(sl s).getD p 0=s[p]'h:=by
 rw [List.getD_eq_getElem?_getD,List.getElem?_eq_getElem (by rw [sl_len];exact h)]
 rfl
theorem sl_drop {s:ByteArray} {p:Nat} (h:p < s.size):(sl s).drop p=(s[p]'h)::(sl s).drop (p+1):=by
 rw [drop_getD _ 0 p (by rw [sl_len];exact h),sl_at h]
theorem sl_txt (l:List UInt8):sl (txt l)=l:=rfl
theorem txt_sl (s:ByteArray):txt (sl s)=s:=rfl
theorem txt_size (l:List UInt8):(txt l).size=l.length:=by simp [txt,ByteArray.size]
end Go.Proofs.YtmooaepbdmengaaGreatDoor
namespace Go.Proofs.YtmooaepbdmengaaGreatDoor
open Go.RowKit
set_option linter.unusedVariables false
set_option linter.unusedSimpArgs false
theorem isDig_iff (c:UInt8):isDig c=true ↔ 48≤c.toNat∧c.toNat≤57:=by
 unfold isDig;simp [UInt8.le_iff_toNat_le]
theorem digs_cons (c:UInt8) (r:List UInt8):digs (c::r)=if 48≤c.toNat∧c.toNat≤57 then digs r+1 else 0:=by
 simp only [digs]
 by_cases h:isDig c=true
 ·rw [if_pos h,if_pos ((isDig_iff c).1 h)]
 ·rw [if_neg h,if_neg (fun e=>h ((isDig_iff c).2 e))]
set_option maxRecDepth 100000 in
set_option maxHeartbeats 1000000 in
theorem run_calls (s:ByteArray) (hs:s.size≤1000000) (w:World) :
  Calls Tryz.prog 85 #[.string s] w fun e w'=>e=.returned (.int .i64 ((digs (sl s):Nat):Int))∧w=w':=by
 obtain ⟨R,hR⟩:∃ R:Nat,R=digs (sl s):=⟨_,rfl⟩
 rw [← hR]
 have HR:=Lib.hid hR
 clear hR
 go_enter Tryz.func85,Tryz.ntmps85
 go_wp2_with fail
 go_loop [3] (fun x=>∃ q:Nat,x=.int .i64 q∧q≤s.size∧Hid (R=q+digs ((sl s).drop q))) (fun x=>s.size - (intOf x).toNat)
 case atStart=>exact ⟨0,rfl,by omega,by show _=_;rw [HR.out];simp⟩
 case round=>
  obtain ⟨q,rfl,hq,hz⟩:=hrel
  by_cases hlt:q < s.size
  ·have hd:=sl_drop hlt
   have hdc:=digs_cons (s[q]'hlt) ((sl s).drop (q+1))
   rw [← hd] at hdc
   have HD:=Lib.hid hdc
   clear hd hdc
   by_cases h1:48≤(s[q]'hlt).toNat
   ·by_cases h2:(s[q]'hlt).toNat≤57
    ·have HN:Hid (R=q+1+digs ((sl s).drop (q+1))):=by
      show _=_
      rw [hz.out,HD.out,if_pos ⟨h1,h2⟩];omega
     go_wp2_with fail
     go_round
     case rel=>exact ⟨q+1,by simp,by omega,HN⟩
     case measure=>simp [intOf];omega
    ·have HN:Hid (R=q):=by
      show _=_
      rw [hz.out,HD.out,if_neg (by omega)];omega
     go_wp2_with fail
     go_ret
     exact ⟨by rw [HN.out];rfl,rfl⟩
   ·have HN:Hid (R=q):=by
     show _=_
     rw [hz.out,HD.out,if_neg (by omega)];omega
    go_wp2_with fail
    go_ret
    exact ⟨by rw [HN.out];rfl,rfl⟩
  ·obtain rfl:q=s.size:=by omega
   have HN:Hid (R=s.size):=by
    show _=_
    rw [hz.out,List.drop_of_length_le (by rw [sl_len];omega)];rfl
   go_wp2_with fail
   go_ret
   exact ⟨by rw [HN.out];rfl,rfl⟩
end Go.Proofs.YtmooaepbdmengaaGreatDoor
namespace Go.Proofs.YtmooaepbdmengaaGreatDoor
set_option linter.unusedVariables false
set_option linter.unusedSimpArgs false
theorem u8_eq (c:UInt8) (k:Nat) (hk:k < 256):c.toNat=k ↔ c=UInt8.ofNat k:=by
 constructor
 ·intro h;apply UInt8.toNat_inj.1;rw [h];simp;omega
 ·intro h;subst h;simp;omega
def tlD (q:List UInt8):Nat:=if digs q=0 then 0 else if digs q=q.length then 2 else 0
def expR (r:List UInt8):List UInt8:=match r with|[]=>[]|d::q=>if d=43∨d=45 then q else d::q
theorem lexExp_cons (kind:Nat) (c:UInt8) (r:List UInt8) (h:c=101∨c=69):lexExp kind (c::r)=tlD (expR r):=by
 simp only [lexExp]
 rw [if_pos h]
 cases r<;>rfl
end Go.Proofs.YtmooaepbdmengaaGreatDoor
namespace Go.Proofs.YtmooaepbdmengaaGreatDoor
open Go.RowKit
set_option linter.unusedVariables false
set_option linter.unusedSimpArgs false
theorem ext_txt (s:ByteArray) (p q:Nat):s.extract p q=txt (((sl s).drop p).take (q - p)):=by
 have e:sl (s.extract p q)=((sl s).drop p).take (q - p):=by
  unfold sl;rw [ByteArray.data_extract,Array.toList_extract]
 rw [← e,txt_sl]
theorem sl_ext (s:ByteArray) (p q:Nat):sl (s.extract p q)=((sl s).drop p).take (q - p):=by rw [ext_txt,sl_txt]
theorem conv_bytes (w:World) (s:ByteArray) (hs:s.size≤1048576):∃ cap w',(convert 9 23 (.string s)).run Tryz.prog w=.ok (.slice (some ⟨w.heap.size,0,none⟩) s.size cap) w'∧Below w.heap.size w w'∧w.heap.size < w'.heap.size ∧
  RdB w' (some ⟨w.heap.size,0,none⟩) s.size (sl s)∧s.size≤cap∧∀ j,j < s.size→w'.frozen? ⟨w.heap.size,j,none⟩=false:=by
 have hr:=run_bytes_of_string (P:=Tryz.prog) w 9 23 5 s Tryz.underlying9 Tryz.underlying23 Tryz.underlying5
 have hcap:=grownCap_ge w s.size 0 5
 generalize grownCap w s.size 0 5=cap at hr hcap
 have hbs:(bytesRow s cap).size=cap:=by unfold bytesRow;simp;omega
 rw [hbs] at hr
 have hn:(w.drew.alloc (.cells (bytesRow s cap) 5 (cap,cap+1))).heap[w.heap.size]?=some (.cells (bytesRow s cap) 5 (cap,cap+1)):=heap_alloc_new w.drew _
 refine ⟨cap,_,hr,((Below.refl w.heap.size w).drew).alloc (Nat.le_refl _) _,by simp,⟨sl_len s,?_,fun i hi=>⟨w.heap.size,0,rfl,?_⟩⟩,hcap,fun j hj=>?_⟩
 ·omega
 ·rw [Nat.zero_add,cell_of_row _ w.heap.size i _ _ _ hn]
  have h1:i < (sl s).length:=by rw [sl_len];exact hi
  have e:(bytesRow s cap)[i]?=some (.int .u8 (((sl s)[i]'h1).toNat:Nat)):=by
   unfold bytesRow
   rw [Array.getElem?_append_left (by simpa using hi)]
   rw [Array.getElem?_map]
   have h2:s.data[i]?=some ((sl s)[i]'h1):=by
    rw [Array.getElem?_eq_getElem (by simpa using hi)]
    rfl
   rw [h2]
   rfl
  rw [e]
  simp only [bAt,List.getD_eq_getElem?_getD,List.getElem?_eq_getElem h1,Option.getD_some]
 ·unfold World.frozen?
  simp only [hn]
  simp
  omega
theorem strCells_bytes (t:ByteArray):Lib.strCells t=byteCells (sl t):=rfl
theorem wpList_appS {w:World} {ops:Array Oper} {rest:List Oper} {o:Oper} {a:Act} {Q:Exit→Act→World→Prop} (hgd:o.guard=none) (s x:Operand)
  (ho:o.op=.call { callee:=.builtin .append,args:=#[s,x],argTypes:=#[23,9] })
  {B:Nat} {v:Value} {bs:List UInt8} (hs:a.eval s=v) (hown:OwnB w B v bs) {t:ByteArray} (hx:a.eval x=.string t)
  (hb:bs.length+t.size≤100000000000) (hbase:B≤w.heap.size)
  (h:∀ v' w',OwnB w' B v' (bs++sl t)→w.grownBy w' v.ownBlock→wpList Tryz.prog ops Q rest (a.put o.dst v') w'):wpList Tryz.prog ops Q (o::rest) a w:=by
 obtain ⟨i0,hi,hz0,hz1,hz2⟩:=info_parts infoU8
 refine Lib.wpList_append_own_string w hgd s x _ _ ho B 5 i0 Tryz.underlying23 Tryz.underlying9 hi hz0 hz1 hz2 v bs.length (byteCells bs) hs hown t hx (by unfold maxLen;omega) (by omega) hbase ?_
 intro v' w' h1 h2 _
 refine h v' w' ?_ h2
 unfold OwnB
 rw [byteCells_append,List.length_append,sl_len]
 rw [strCells_bytes] at h1
 exact h1
attribute [local go_sem ↓] Go.wp_at_zero Go.wp_at_succ
theorem srcB_two (w:World) (a b:UInt8):SrcB (w.alloc (.cells #[.int .u8 (a.toNat:Nat),.int .u8 (b.toNat:Nat)] 5)) (.slice (some ⟨w.heap.size,0,none⟩) 2 2) [a,b]:=by
 refine ⟨some ⟨w.heap.size,0,none⟩,2,2,rfl,⟨rfl,by omega,fun i hi=>⟨w.heap.size,0,rfl,?_⟩⟩,by simp⟩
 match i,hi with
 | 0,_ | 1,_=>simp [bAt]
def hexL (l:List UInt8):List UInt8:=(l.map fun c=>[hexC (c.toNat / 16),hexC (c.toNat % 16)]).flatten
def hexB:ByteArray:=⟨#[48,49,50,51,52,53,54,55,56,57,97,98,99,100,101,102]⟩
theorem hexB_at (i:Nat) (h:i < hexB.size):hexB[i]'h=hexC i:=by
 have h16:i < 16:=h
 have key:∀ i:Fin 16,([48,49,50,51,52,53,54,55,56,57,97,98,99,100,101,102]:List UInt8).getD i 0=hexC i:=by decide
 have:=key ⟨i,h16⟩
 rw [← this]
 show ([48,49,50,51,52,53,54,55,56,57,97,98,99,100,101,102]:List UInt8).toArray[i]'_=_
 simp only [List.getElem_toArray]
 rw [List.getD_eq_getElem?_getD,List.getElem?_eq_getElem (by simpa using h16)]
 rfl
theorem hexL_snoc (l:List UInt8) (i:Nat) (h:i < l.length):hexL (l.take (i+1))=hexL (l.take i)++[hexC (bAt l i / 16),hexC (bAt l i % 16)]:=by
 rw [List.take_succ_eq_append_getElem h,hexL,List.map_append,List.flatten_append]
 simp only [hexL,List.map_cons,List.map_nil,List.flatten_cons,List.flatten_nil,List.append_nil,bAt_get l i h]
theorem hexL_len (l:List UInt8):(hexL l).length=2 * l.length:=by
 induction l with
 | nil=>rfl
 | cons c r ih=>simp only [hexL,List.map_cons,List.flatten_cons,List.length_append,List.length_cons,List.length_nil] at ih ⊢;omega
def HexRel (w:World) (l:List UInt8) (v i:Value) (wr:World):Prop:=∃ (u:Value) (k:Nat),u=v∧i=.int .i64 k∧k≤l.length∧OwnB wr w.heap.size u (hexL (l.take k))∧Below w.heap.size w wr
theorem hex_next {w6:World} {B:Nat} {v6:Value} {l:List UInt8} {k X:Nat} {a b:UInt8} (hk:k < l.length) (hX:X=bAt l k) (ho:OwnB w6 B v6 (hexL (l.take k)++[a,b])) (h1:a=hexC (X / 16)) (h2:b=hexC (X % 16)):OwnB w6 B v6 (hexL (l.take (k+1))):=by
 rw [hexL_snoc l k hk,← hX,← h1,← h2];exact ho
set_option maxRecDepth 100000 in
set_option maxHeartbeats 8000000 in
theorem hex_calls (a:Option Addr) (len cap:Nat) (l:List UInt8) (w:World) (h:RdB w a len l) (hb:len≤100000) :
  Calls Tryz.prog 82 #[.slice a len cap] w fun e w'=>e=.returned (.string (txt (hexL l)))∧Below w.heap.size w w':=by
 have H:=Lib.hid h
 have HL:=Lib.hid h.1
 clear h
 go_enter Tryz.func82,Tryz.ntmps82
 go_wp2_with fail
 go_loopw [3,4] (fun v i wr=>HexRel w l v i wr) (fun _ i _=>len - (intOf i).toNat)
 case atStart=>exact ⟨_,0,rfl,rfl,Nat.zero_le _,World.ownsRow_nil _ _ _ _,Below.refl _ _⟩
 case round=>
  obtain ⟨v,k,rfl,rfl,hk,ho,hbl⟩:=hrel
  rw [HL.out] at hk
  have HO:=Lib.hid ho
  have HB:=Lib.hid hbl
  have hsz:=hbl.size
  by_cases hlt:k < len
  ·obtain ⟨b,o,rfl,c0⟩:=(H.out.keep hbl).at k hlt
   obtain ⟨b',o',ha',d0⟩:=H.out.at k hlt
   simp only [Option.some.injEq,Addr.mk.injEq,and_true] at ha'
   obtain ⟨rfl,rfl⟩:=ha'
   have hbw:b < w.heap.size:=by simpa using cell_block d0
   have hx8:=bAt_lt l k
   obtain ⟨X,hX⟩:∃ X,X=bAt l k:=⟨_,rfl⟩
   rw [← hX] at c0 hx8
   have HX:=Lib.hid hX
   have hX8:(X:Int) < 256:=by omega
   obtain ⟨A,hA⟩:∃ A:Nat,A=X / 16:=⟨_,rfl⟩
   obtain ⟨C,hC⟩:∃ C:Nat,C=X % 16:=⟨_,rfl⟩
   have q1:(X:Int) / 16=(A:Int):=by omega
   have q2:(X:Int) % 16=(C:Int):=by omega
   have q3:(X:Int).tdiv 16=(A:Int):=by rw [Int.tdiv_eq_ediv_of_nonneg (by omega)];omega
   have q4:(X:Int).tmod 16=(C:Int):=by rw [Int.tmod_eq_emod_of_nonneg (by omega)];omega
   have b4:(A:Int) < 16:=by omega
   have b5:(C:Int) < 16:=by omega
   have q5:IntKind.u8.wrap (A:Int)=(A:Int):=by rw [IntKind.wrap_u8'];omega
   have q6:IntKind.u8.wrap (C:Int)=(C:Int):=by rw [IntKind.wrap_u8'];omega
   have b6:A < 16:=by omega
   have b7:C < 16:=by omega
   have HA:=Lib.hid hA
   have HC:=Lib.hid hC
   have hlen:=hexL_len (l.take k)
   have HLN:Hid ((hexL (l.take k)).length≤200000):=by show _≤_;rw [hlen,List.length_take];omega
   have HK:Hid (∀ W,Below w.heap.size w W→W.cell? ⟨b,o+k,none⟩=some (.int .u8 (X:Nat))):=fun W hW=>by
    rw [hW.cell (p:=⟨b,o+k,none⟩) hbw,← HB.out.cell (p:=⟨b,o+k,none⟩) hbw];exact c0
   clear ho hbl hX d0 hlen hx8 hA hC
   go_wp2_with fail
   go_region_held3 (fun w'=>w'.cell? ⟨b,o+k,none⟩=some (.int .u8 (X:Nat))) (first|go_keep|exact HK.out _ hB6.out)
    ((refine step_appB (v:=v) (bs:=hexL (l.take k)) (l:=[_,_]) (B:=w.heap.size) (by rfl) _ _ (by rfl) (by rfl) (HO.out.alloc _) (by rfl) (srcB_two _ _ _) (by have:=HLN.out;simp;omega) (by simp;omega) ?_;intro v6 w6 ho6 ha6;have hB6:=Lib.hid (ha6.below ((HB.out.alloc hsz _).drew) (by simp;omega) (fun j hj=>(owns_lt HO.out j hj).1));have HO6:=Lib.hid ho6;clear ho6 ha6))
   all_goals
    have HNX:=Lib.hid (hex_next (by rw [HL.out];exact hlt) HX.out HO6.out ((hexB_at _ _).trans (by rw [← HA.out])) ((hexB_at _ _).trans (by rw [← HC.out])))
    clear HO6
    go_wp2_with fail
    go_roundw
    case rel=>exact ⟨_,k+1,rfl,by simp,by rw [HL.out];omega,HNX.out,hB6.out⟩
    case measure=>simp [intOf];omega
  ·obtain rfl:k=len:=by omega
   have e:l.take k=l:=List.take_of_length_le (by rw [HL.out];exact Nat.le_refl _)
   rw [e] at ho
   obtain ⟨a9,c9,rfl,hr9⟩:=ho.reads
   have hcv:=conv_str hr9 c9
   clear ho HO hr9 hbl e
   go_wp2_with fail
   go_ret
   exact ⟨rfl,HB.out⟩
set_option maxRecDepth 100000 in
set_option maxHeartbeats 2000000 in
theorem rwhole_calls (s:ByteArray) (hs:s.size≤1048576) (w:World) :
  Calls Tryz.prog 57 #[.string s] w fun e w'=>e=.returned (.bool (wholeTo (sl s) == s.size))∧Below w.heap.size w w':=by
 obtain ⟨cap3,w3,hrun,hb3,hs3,hr3,hz1,hz2⟩:=conv_bytes w s hs
 have C:=Lib.hid (rcheck_calls _ _ cap3 w3 _ hr3)
 have HB:=Lib.hid hb3
 generalize (wholeTo (sl s) == s.size)=b at C
 generalize wholeTo (sl s)=n at C
 clear hr3 hz1 hz2 hb3
 go_enter Tryz.func57,Tryz.ntmps57
 go_wp2_with fail
 refine C.out.mono ?_
 rintro e w4 ⟨rfl,rfl⟩
 go_wp2_with fail
 go_ret
 exact ⟨rfl,HB.out⟩
theorem own_fresh (w:World) (B x:Nat) (hx:x < 256) (hB:B≤w.heap.size):OwnB (w.alloc (.cells #[.int .u8 (x:Nat)] 5)) B (.slice (some ⟨w.heap.size,0,none⟩) 1 1) [UInt8.ofNat x]:=by
 refine ⟨rfl,.inr ⟨w.heap.size,1,_,rfl,hB,heap_alloc_new w _,Nat.le_refl _,by unfold maxLen;omega,rfl,?_⟩⟩
 have:x % 256=x:=by omega
 simp [byteCells,this]
theorem own_text {w6:World} {B:Nat} {v6:Value} {l:List UInt8} (ho:OwnB w6 B v6 l) :
  ∃ a m c,v6=.slice a m c∧(convert 23 9 (.slice a m c)).run Tryz.prog w6=.ok (.string (txt l)) w6:=by
 obtain ⟨a,c,rfl,hr⟩:=ho.reads
 exact ⟨a,_,c,rfl,conv_str hr c⟩
theorem quoteM_take (l:List UInt8) (i:Nat) (h:i < l.length):quoteM (l.take (i+1))=quoteM (l.take i)++quoteB (l[i]):=by
 rw [List.take_succ_eq_append_getElem h,quoteM_append]
 simp [quoteM]
theorem quoteB_len (c:UInt8):(quoteB c).length≤6:=by
 unfold quoteB
 (repeat' split)<;>simp
theorem quoteM_len (l:List UInt8):(quoteM l).length≤6 * l.length:=by
 induction l with
 | nil=>simp [quoteM]
 | cons c r ih=>rw [quoteM_cons,List.length_append];have:=quoteB_len c;simp only [List.length_cons];omega
def QuoRel (w:World) (l:List UInt8) (v i:Value) (wr:World):Prop:=∃ (u:Value) (k:Nat),u=v∧i=.int .i64 k∧k≤l.length∧OwnB wr w.heap.size u (34::quoteM (l.take k))∧Below w.heap.size w wr
theorem quo_next {w w6:World} {v6:Value} {l x:List UInt8} {k:Nat} {c:UInt8} {i:Value} (hk:k < l.length) (hc:l[k]=c) (hq:quoteB c=x) (ho:OwnB w6 w.heap.size v6 ((34::quoteM (l.take k))++x)) (hb:Below w.heap.size w w6) (hi:i=.int .i64 ((k:Int)+1)):QuoRel w l v6 i w6:=by
 refine ⟨v6,k+1,rfl,by rw [hi];simp,hk,?_,hb⟩
 rw [quoteM_take l k hk,hc,hq]
 exact ho
set_option maxRecDepth 100000 in
set_option maxHeartbeats 8000000 in
theorem rquote_calls (s:ByteArray) (hs:s.size≤1048576) (w:World) :
  Calls Tryz.prog 58 #[.string s] w fun e w'=>(wholeTo (sl s)=s.size→e=.returned (.tuple #[.string (txt (quoteL (sl s))),.bool true]))∧(wholeTo (sl s)≠s.size→e=.returned (.tuple #[.string ⟨#[]⟩,.bool false]))∧Below w.heap.size w w':=by
 have CW:=fun W=>Lib.hid (rwhole_calls s (by omega) W)
 by_cases hw:wholeTo (sl s)=s.size
 case neg=>
  rw [show (wholeTo (sl s) == s.size)=false by simpa using hw] at CW
  have HW:=Lib.hid hw
  clear hw
  go_enter Tryz.func58,Tryz.ntmps58
  go_wp2_with fail
  refine (CW _).out.mono ?_
  rintro e w1 ⟨rfl,hb1⟩
  go_wp2_with fail
  go_ret2
  exact ⟨fun h=>absurd h HW.out,fun _=>rfl,hb1⟩
 rw [show (wholeTo (sl s) == s.size)=true by simpa using hw] at CW
 have HW:=Lib.hid hw
 clear hw
 go_enter Tryz.func58,Tryz.ntmps58
 go_wp2_with fail
 refine (CW _).out.mono ?_
 rintro e w1 ⟨rfl,hb1⟩
 have HB1:=Lib.hid hb1
 have hs1:=hb1.size
 clear hb1
 go_wp2_with fail
 go_loopw [4,5,6] (fun v i _ wr=>QuoRel w (sl s) v i wr) (fun _ i _ _=>s.size - (intOf i).toNat)
 case atStart=>
  refine ⟨_,0,rfl,rfl,Nat.zero_le _,?_,HB1.out.alloc hs1 _⟩
  exact own_fresh w1 w.heap.size 34 (by omega) hs1
 case round=>
  obtain ⟨v,k,rfl,rfl,hk,ho,hbl⟩:=hrel
  rw [sl_len] at hk
  have HO:=Lib.hid ho
  have HB:=Lib.hid hbl
  have hsz:=hbl.size
  have hql:=quoteM_len ((sl s).take k)
  rw [List.length_take,sl_len] at hql
  have hql2:(quoteM ((sl s).take k)).length≤6291456:=by omega
  clear ho hbl hql
  by_cases hlt:k < s.size
  ·have hlk:k < (sl s).length:=by rw [sl_len];exact hlt
   obtain ⟨c,hc⟩:∃ c,c=s[k]'hlt:=⟨_,rfl⟩
   have hcl:(sl s)[k]=c:=by rw [hc];rfl
   have hcn:(s[k]'hlt).toNat=c.toNat:=by rw [hc]
   have HCL:=Lib.hid hcl
   have ub:=u8_lt (s[k]'hlt)
   by_cases q34:c.toNat=34
   ·have hcc:=(u8_eq c 34 (by omega)).1 q34
    have HQ:Hid (quoteB c=[92,34]):=by show _=_;rw [hcc];rfl
    have i1:((s[k]'hlt).toNat:Int)=34:=by rw [hcn,q34];rfl
    clear hc hcl hcn hcc q34
    go_wp2_with (at_builtin;refine wpList_appB (v:=v) (bs:=34::quoteM ((sl s).take k)) (sv:=.slice (some ⟨wr.heap.size,0,none⟩) 2 2) (l:=[92,34]) (B:=w.heap.size) (by rfl) _ _ (by rfl) (by rfl) (HO.out.alloc _) (by rfl) (srcB_two wr 92 34) ?o3 ?o4 ?_)
    case o3=>simp;omega
    case o4=>simp;omega
    intro v6 w6 ho6 ha6
    have HO6:=Lib.hid ho6
    have HB6:=Lib.hid (ha6.below (HB.out.alloc hsz _) (by simp;omega) (fun j hj=>(owns_lt HO.out j hj).1))
    clear ho6 ha6
    go_wp2_with fail
    go_roundw
    case rel=>exact quo_next hlk HCL.out HQ.out HO6.out HB6.out rfl
    case measure=>simp [intOf];omega
   have e34:(((s[k]'hlt).toNat:Int) == 34)=false:=by simp;omega
   have n34:c≠34:=fun e=>q34 (by rw [e];rfl)
   by_cases q92:c.toNat=92
   ·have hcc:=(u8_eq c 92 (by omega)).1 q92
    have HQ:Hid (quoteB c=[92,92]):=by show _=_;rw [hcc];rfl
    have i1:((s[k]'hlt).toNat:Int)=92:=by rw [hcn,q92];rfl
    clear hc hcl hcn hcc q92
    go_wp2_with (at_builtin;refine wpList_appB (v:=v) (bs:=34::quoteM ((sl s).take k)) (sv:=.slice (some ⟨wr.heap.size,0,none⟩) 2 2) (l:=[92,92]) (B:=w.heap.size) (by rfl) _ _ (by rfl) (by rfl) (HO.out.alloc _) (by rfl) (srcB_two wr 92 92) ?o3 ?o4 ?_)
    case o3=>simp;omega
    case o4=>simp;omega
    intro v6 w6 ho6 ha6
    have HO6:=Lib.hid ho6
    have HB6:=Lib.hid (ha6.below (HB.out.alloc hsz _) (by simp;omega) (fun j hj=>(owns_lt HO.out j hj).1))
    clear ho6 ha6
    go_wp2_with fail
    go_roundw
    case rel=>exact quo_next hlk HCL.out HQ.out HO6.out HB6.out rfl
    case measure=>simp [intOf];omega
   have e92:(((s[k]'hlt).toNat:Int) == 92)=false:=by simp;omega
   have n92:c≠92:=fun e=>q92 (by rw [e];rfl)
   by_cases q8:c.toNat=8
   ·have hcc:=(u8_eq c 8 (by omega)).1 q8
    have HQ:Hid (quoteB c=[92,98]):=by show _=_;rw [hcc];rfl
    have i1:((s[k]'hlt).toNat:Int)=8:=by rw [hcn,q8];rfl
    clear hc hcl hcn hcc q8
    go_wp2_with (at_builtin;refine wpList_appB (v:=v) (bs:=34::quoteM ((sl s).take k)) (sv:=.slice (some ⟨wr.heap.size,0,none⟩) 2 2) (l:=[92,98]) (B:=w.heap.size) (by rfl) _ _ (by rfl) (by rfl) (HO.out.alloc _) (by rfl) (srcB_two wr 92 98) ?o3 ?o4 ?_)
    case o3=>simp;omega
    case o4=>simp;omega
    intro v6 w6 ho6 ha6
    have HO6:=Lib.hid ho6
    have HB6:=Lib.hid (ha6.below (HB.out.alloc hsz _) (by simp;omega) (fun j hj=>(owns_lt HO.out j hj).1))
    clear ho6 ha6
    go_wp2_with fail
    go_roundw
    case rel=>exact quo_next hlk HCL.out HQ.out HO6.out HB6.out rfl
    case measure=>simp [intOf];omega
   have e8:(((s[k]'hlt).toNat:Int) == 8)=false:=by simp;omega
   have n8:c≠8:=fun e=>q8 (by rw [e];rfl)
   by_cases q12:c.toNat=12
   ·have hcc:=(u8_eq c 12 (by omega)).1 q12
    have HQ:Hid (quoteB c=[92,102]):=by show _=_;rw [hcc];rfl
    have i1:((s[k]'hlt).toNat:Int)=12:=by rw [hcn,q12];rfl
    clear hc hcl hcn hcc q12
    go_wp2_with (at_builtin;refine wpList_appB (v:=v) (bs:=34::quoteM ((sl s).take k)) (sv:=.slice (some ⟨wr.heap.size,0,none⟩) 2 2) (l:=[92,102]) (B:=w.heap.size) (by rfl) _ _ (by rfl) (by rfl) (HO.out.alloc _) (by rfl) (srcB_two wr 92 102) ?o3 ?o4 ?_)
    case o3=>simp;omega
    case o4=>simp;omega
    intro v6 w6 ho6 ha6
    have HO6:=Lib.hid ho6
    have HB6:=Lib.hid (ha6.below (HB.out.alloc hsz _) (by simp;omega) (fun j hj=>(owns_lt HO.out j hj).1))
    clear ho6 ha6
    go_wp2_with fail
    go_roundw
    case rel=>exact quo_next hlk HCL.out HQ.out HO6.out HB6.out rfl
    case measure=>simp [intOf];omega
   have e12:(((s[k]'hlt).toNat:Int) == 12)=false:=by simp;omega
   have n12:c≠12:=fun e=>q12 (by rw [e];rfl)
   by_cases q10:c.toNat=10
   ·have hcc:=(u8_eq c 10 (by omega)).1 q10
    have HQ:Hid (quoteB c=[92,110]):=by show _=_;rw [hcc];rfl
    have i1:((s[k]'hlt).toNat:Int)=10:=by rw [hcn,q10];rfl
    clear hc hcl hcn hcc q10
    go_wp2_with (at_builtin;refine wpList_appB (v:=v) (bs:=34::quoteM ((sl s).take k)) (sv:=.slice (some ⟨wr.heap.size,0,none⟩) 2 2) (l:=[92,110]) (B:=w.heap.size) (by rfl) _ _ (by rfl) (by rfl) (HO.out.alloc _) (by rfl) (srcB_two wr 92 110) ?o3 ?o4 ?_)
    case o3=>simp;omega
    case o4=>simp;omega
    intro v6 w6 ho6 ha6
    have HO6:=Lib.hid ho6
    have HB6:=Lib.hid (ha6.below (HB.out.alloc hsz _) (by simp;omega) (fun j hj=>(owns_lt HO.out j hj).1))
    clear ho6 ha6
    go_wp2_with fail
    go_roundw
    case rel=>exact quo_next hlk HCL.out HQ.out HO6.out HB6.out rfl
    case measure=>simp [intOf];omega
   have e10:(((s[k]'hlt).toNat:Int) == 10)=false:=by simp;omega
   have n10:c≠10:=fun e=>q10 (by rw [e];rfl)
   by_cases q13:c.toNat=13
   ·have hcc:=(u8_eq c 13 (by omega)).1 q13
    have HQ:Hid (quoteB c=[92,114]):=by show _=_;rw [hcc];rfl
    have i1:((s[k]'hlt).toNat:Int)=13:=by rw [hcn,q13];rfl
    clear hc hcl hcn hcc q13
    go_wp2_with (at_builtin;refine wpList_appB (v:=v) (bs:=34::quoteM ((sl s).take k)) (sv:=.slice (some ⟨wr.heap.size,0,none⟩) 2 2) (l:=[92,114]) (B:=w.heap.size) (by rfl) _ _ (by rfl) (by rfl) (HO.out.alloc _) (by rfl) (srcB_two wr 92 114) ?o3 ?o4 ?_)
    case o3=>simp;omega
    case o4=>simp;omega
    intro v6 w6 ho6 ha6
    have HO6:=Lib.hid ho6
    have HB6:=Lib.hid (ha6.below (HB.out.alloc hsz _) (by simp;omega) (fun j hj=>(owns_lt HO.out j hj).1))
    clear ho6 ha6
    go_wp2_with fail
    go_roundw
    case rel=>exact quo_next hlk HCL.out HQ.out HO6.out HB6.out rfl
    case measure=>simp [intOf];omega
   have e13:(((s[k]'hlt).toNat:Int) == 13)=false:=by simp;omega
   have n13:c≠13:=fun e=>q13 (by rw [e];rfl)
   by_cases q9:c.toNat=9
   ·have hcc:=(u8_eq c 9 (by omega)).1 q9
    have HQ:Hid (quoteB c=[92,116]):=by show _=_;rw [hcc];rfl
    have i1:((s[k]'hlt).toNat:Int)=9:=by rw [hcn,q9];rfl
    clear hc hcl hcn hcc q9
    go_wp2_with (at_builtin;refine wpList_appB (v:=v) (bs:=34::quoteM ((sl s).take k)) (sv:=.slice (some ⟨wr.heap.size,0,none⟩) 2 2) (l:=[92,116]) (B:=w.heap.size) (by rfl) _ _ (by rfl) (by rfl) (HO.out.alloc _) (by rfl) (srcB_two wr 92 116) ?o3 ?o4 ?_)
    case o3=>simp;omega
    case o4=>simp;omega
    intro v6 w6 ho6 ha6
    have HO6:=Lib.hid ho6
    have HB6:=Lib.hid (ha6.below (HB.out.alloc hsz _) (by simp;omega) (fun j hj=>(owns_lt HO.out j hj).1))
    clear ho6 ha6
    go_wp2_with fail
    go_roundw
    case rel=>exact quo_next hlk HCL.out HQ.out HO6.out HB6.out rfl
    case measure=>simp [intOf];omega
   have e9:(((s[k]'hlt).toNat:Int) == 9)=false:=by simp;omega
   have n9:c≠9:=fun e=>q9 (by rw [e];rfl)
   by_cases q32:c.toNat < 32
   ·have HQ:Hid (quoteB c=[92,117,48,48]++hexL [c]):=by
     show _=_
     unfold quoteB
     rw [if_neg (by intro h;rcases h with h|h;exact n34 h;exact n92 h),if_neg n8,if_neg n12,if_neg n10,if_neg n13,if_neg n9,if_pos (by rw [UInt8.lt_iff_toNat_lt];exact q32)]
     rfl
    have i1:decide (((s[k]'hlt).toNat:Int) < 32)=true:=by simp;omega
    have HCN:=Lib.hid hcn
    clear hc hcl hcn n34 n92 n8 n12 n10 n13 n9 q34 q92 q8 q12 q10 q13 q9 q32
    go_wp2_with (at_builtin;refine wpList_appS (v:=v) (bs:=34::quoteM ((sl s).take k)) (t:=⟨#[92,117,48,48]⟩) (B:=w.heap.size) (by rfl) _ _ (by rfl) (by rfl) HO.out (by rfl) ?o3 ?o4 ?_)
    case o3=>show _+4≤_;simp;omega
    case o4=>exact hsz
    intro v5 w5 ho5 hg5
    have hB5:Below w.heap.size w w5:=HB.out.grown hg5 hsz fun j hj=>(owns_lt HO.out j hj).1
    have HB5:=Lib.hid hB5
    have HO5:=Lib.hid ho5
    have hs5:=hB5.size
    have hr5:RdB (w5.alloc (.cells #[.int .u8 ((s[k]'hlt).toNat:Nat)] 5)) (some ⟨w5.heap.size,0,none⟩) 1 [c]:=by
     refine ⟨rfl,by omega,fun i hi=>⟨w5.heap.size,0,rfl,?_⟩⟩
     obtain rfl:i=0:=by omega
     rw [HCN.out]
     simp [bAt]
    have CH:=Lib.hid (hex_calls _ 1 1 [c] _ hr5 (by omega))
    clear ho5 hg5 hB5 hr5
    go_wp2_with fail
    refine CH.out.mono ?_
    rintro e w7 ⟨rfl,hb7⟩
    have hB7:=(HB5.out.alloc hs5 _).trans (hb7.mono (by simp;omega))
    have HB7:=Lib.hid hB7
    have HO7:Hid (OwnB w7 w.heap.size v5 ((34::quoteM ((sl s).take k))++sl ⟨#[92,117,48,48]⟩)):=OwnB.keep (show OwnB (w5.alloc (.cells #[.int .u8 ((s[k]'hlt).toNat:Nat)] 5)) w.heap.size v5 ((34::quoteM ((sl s).take k))++sl ⟨#[92,117,48,48]⟩) from HO5.out.alloc _) hb7
    have hs7:=hB7.size
    clear hb7 hB7
    go_wp2_with (at_builtin;refine wpList_appS (v:=v5) (bs:=(34::quoteM ((sl s).take k))++sl ⟨#[92,117,48,48]⟩) (t:=txt (hexL [c])) (B:=w.heap.size) (by rfl) _ _ (by rfl) (by rfl) HO7.out (by rfl) ?o3 ?o4 ?_)
    case o3=>rw [txt_size,hexL_len,List.length_append,show (sl ⟨#[92,117,48,48]⟩).length=4 from rfl];simp;omega
    case o4=>exact hs7
    intro v6 w6 ho6 hg6
    have HB6:Hid (Below w.heap.size w w6):=HB7.out.grown hg6 hs7 fun j hj=>(owns_lt HO7.out j hj).1
    have HO6:Hid (OwnB w6 w.heap.size v6 ((34::quoteM ((sl s).take k))++([92,117,48,48]++hexL [c]))):=by
     have e:(34::quoteM ((sl s).take k))++([92,117,48,48]++hexL [c])=34::(quoteM ((sl s).take k)++(sl ⟨#[92,117,48,48]⟩++sl (txt (hexL [c])))):=by
      rw [sl_txt];rfl
     show OwnB _ _ _ _
     rw [e]
     exact ho6
    clear ho6 hg6
    go_wp2_with fail
    go_roundw
    case rel=>exact quo_next hlk HCL.out HQ.out HO6.out HB6.out rfl
    case measure=>simp [intOf];omega
   have e32:decide (((s[k]'hlt).toNat:Int) < 32)=false:=by simp;omega
   have HQ:Hid (quoteB c=[c]):=by
    show _=_
    unfold quoteB
    rw [if_neg (by intro h;rcases h with h|h;exact n34 h;exact n92 h),if_neg n8,if_neg n12,if_neg n10,if_neg n13,if_neg n9,if_neg (by rw [UInt8.lt_iff_toNat_lt];exact q32)]
   have HS1:Hid (SrcB (wr.alloc (.cells #[.int .u8 ((s[k]'hlt).toNat:Nat)] 5)) (.slice (some ⟨wr.heap.size,0,none⟩) 1 1) [c]):=by
    have:=srcB_one wr (s[k]'hlt).toNat (UInt8.toNat_lt _)
    rw [show UInt8.ofNat (s[k]'hlt).toNat=c by rw [hcn];simp] at this
    exact this
   clear hc hcl hcn n34 n92 n8 n12 n10 n13 n9 q34 q92 q8 q12 q10 q13 q9 q32
   go_wp2_with (at_builtin;refine wpList_appB (v:=v) (bs:=34::quoteM ((sl s).take k)) (sv:=.slice (some ⟨wr.heap.size,0,none⟩) 1 1) (l:=[c]) (B:=w.heap.size) (by rfl) _ _ (by rfl) (by rfl) (HO.out.alloc _) (by rfl) (HS1.out) ?o3 ?o4 ?_)
   case o3=>simp;omega
   case o4=>simp;omega
   intro v6 w6 ho6 ha6
   have HO6:=Lib.hid ho6
   have HB6:=Lib.hid (ha6.below (HB.out.alloc hsz _) (by simp;omega) (fun j hj=>(owns_lt HO.out j hj).1))
   clear ho6 ha6
   go_wp2_with fail
   go_roundw
   case rel=>exact quo_next hlk HCL.out HQ.out HO6.out HB6.out rfl
   case measure=>simp [intOf];omega
  ·obtain rfl:k=s.size:=by omega
   have e:(sl s).take s.size=sl s:=List.take_of_length_le (by rw [sl_len];exact Nat.le_refl _)
   rw [e] at HO
   have hs1':=srcB_one wr 34 (by omega)
   have HS1:=Lib.hid hs1'
   rw [e] at hql2
   clear e hs1'
   go_wp2_with (at_builtin;refine wpList_appB (v:=v) (bs:=34::quoteM (sl s)) (sv:=.slice (some ⟨wr.heap.size,0,none⟩) 1 1) (l:=[34]) (B:=w.heap.size) (by rfl) _ _ (by rfl) (by rfl) (HO.out.alloc _) (by rfl) HS1.out ?o3 ?o4 ?_)
   case o3=>simp;omega
   case o4=>simp;omega
   intro v6 w6 ho6 ha6
   have HB6:=Lib.hid (ha6.below (HB.out.alloc hsz _) (by simp;omega) (fun j hj=>(owns_lt HO.out j hj).1))
   obtain ⟨a9,m9,c9,rfl,hcv⟩:=own_text (l:=quoteL (sl s)) ho6
   clear ho6 ha6
   go_wp2_with fail
   go_ret2
   exact ⟨fun _=>rfl,fun h=>absurd HW.out h,HB6.out⟩
end Go.Proofs.YtmooaepbdmengaaGreatDoor
