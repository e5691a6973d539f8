/- A part of the proof that what the machine is told keeps its bounds. -/
import Derived.Test.YtfdhofabgdkkkaaGreatDoorJ42
import Derived.Lib.ConvBytes
import Derived.Lib.OthersKept
import Derived.RangeFuncNested
import Derived.RangeFuncBound
import Derived.RangeFuncBox
import Derived.RangeFuncCalls
import Derived.RangeFuncLeaves
import Derived.Shelf.Abstract
import Derived.Shelf.RegionOpen
import Derived.WalkKit
import Derived.OwnWalkIn
import Derived.TacticsInMore
import Derived.LoopNIn
import Derived.LoopIn
import Derived.Sort.MapsRangeIn
import Derived.Maps.AppendAt
import Derived.Lib.TrimU
set_option maxHeartbeats 128000000
set_option maxRecDepth 100000
namespace Go.Proofs.YtfdhofabgdkkkaaGreatDoor
open Lib renaming hid→zz
open Go.RowKit Go.Fm Go.BigFrame Go.Shelf Go.Maps
set_option linter.unusedVariables false
set_option linter.unusedSimpArgs false
section
variable {w w':World} {S:Nat→Prop}
def zDi (b:UInt8):UInt8:=if 65≤b.toNat∧b.toNat≤90 then b+32 else b
def yn (s:ByteArray):ByteArray:=⟨(s.data.toList.map zDi).toArray⟩
theorem zYx {b:UInt8} (h:65≤b.toNat∧b.toNat≤90):zL (zDi b)=.int .u8 ((b.toNat:Int)+32):=by
 unfold zDi zL;rw [if_pos h]
 have:(b+32).toNat=b.toNat+32:=by
  rw [UInt8.toNat_add]
  have:(32:UInt8).toNat=32:=rfl
  rw [this];omega
 rw [this];rfl
theorem foldB_no {b:UInt8} (h:¬(65≤b.toNat∧b.toNat≤90)):zDi b=b:=if_neg h
structure uY (w0 w:World) (bb:Nat) (s:ByteArray) (k:Nat):Prop where
 c:∃cur N,w.heap[bb]?=some (.cells cur 5 (N,N+1))∧cur.size=N∧s.size≤N∧∀j b,s.data.toList[j]?=some b→cur[j]?=some (zL (if j < k then zDi b else b))
 f:Fr (fun _=>False) w0 w
theorem uY.cell {w0:World} {bb:Nat} {s:ByteArray} {k j:Nat} {b:UInt8} (h:uY w0 w bb s k) (hb:s.data.toList[j]?=some b):w.cell? ⟨bb,j,none⟩=some (zL (if j < k then zDi b else b)):=by
 obtain ⟨cur,N,h1,-,-,h4⟩:=h.c;unfold World.cell?;rw [h1];exact h4 j b hb
theorem uY.fz {w0:World} {bb:Nat} {s:ByteArray} {k j:Nat} (h:uY w0 w bb s k) (hj:j < s.size):w.frozen? ⟨bb,j,none⟩=false:=by
 obtain ⟨cur,N,h1,-,h3,-⟩:=h.c;unfold World.frozen?;rw [h1];simp;omega
theorem uY.step {w0:World} {bb:Nat} {s:ByteArray} {k:Nat} {b:UInt8} (h:uY w0 w bb s k) (hb:s.data.toList[k]?=some b) (hn:w0.heap.size≤bb) (v:Value) (hv:v=zL (zDi b)):uY w0 (w.setCell ⟨bb,k,none⟩ v) bb s (k+1):=by
 obtain ⟨cur,N,h1,h2,h3,h4⟩:=h.c;subst hv;have hk:k < s.size:=by
  have:=(List.getElem?_eq_some_iff.1 hb).1
  rw [Array.length_toList] at this;exact this
 refine ⟨⟨_,N,zE h1 _,by rw [Array.size_setIfInBounds,h2],h3,fun j c hj=>?_⟩,h.f.setCell (p:=⟨bb,k,none⟩) (.inr hn) _⟩;by_cases e:j=k
 ·subst e
  rw [hb] at hj;cases hj
  rw [if_pos (Nat.lt_succ_self _),Array.getElem?_setIfInBounds_self_of_lt (by omega)]
 ·rw [Array.getElem?_setIfInBounds_ne (fun h=>e h.symm),h4 j c hj]
  by_cases h5:j < k
  ·rw [if_pos h5,if_pos (by omega)]
  ·rw [if_neg h5,if_neg (by omega)]
theorem uY.skip {w0:World} {bb:Nat} {s:ByteArray} {k:Nat} {b:UInt8} (h:uY w0 w bb s k) (hb:s.data.toList[k]?=some b) (hn:zDi b=b):uY w0 w bb s (k+1):=by
 obtain ⟨cur,N,h1,h2,h3,h4⟩:=h.c;refine ⟨⟨cur,N,h1,h2,h3,fun j c hj=>?_⟩,h.f⟩;rw [h4 j c hj];by_cases e:j=k
 ·subst e
  rw [hb] at hj;cases hj
  rw [if_neg (by omega),if_pos (by omega),hn]
 ·by_cases h5:j < k
  ·rw [if_pos h5,if_pos (by omega)]
  ·rw [if_neg h5,if_neg (by omega)]
theorem zSf (w:World) (s:ByteArray):uY w (Lib.bytesWorld w 5 s) w.heap.size s 0:=by
 have h1:=Lib.bytesWorld_at_new w 5 s;refine ⟨⟨_,_,h1,rfl,?_,fun j b hj=>?_⟩,?_⟩
 ·simp [Lib.bytesCells]
 ·have hj':j < s.data.size:=by
   have:=(List.getElem?_eq_some_iff.1 hj).1
   rwa [Array.length_toList] at this
  unfold Lib.bytesCells;rw [if_neg (Nat.not_lt_zero _),Array.getElem?_append_left (by simpa using hj')];rw [Array.getElem?_map]
  have:s.data[j]?=some b:=by rw [←Array.getElem?_toList]; exact hj
  rw [this];rfl
 ·refine ⟨rfl,rfl,rfl,?_,fun i hi _=>Lib.bytesWorld_at_old w 5 s i hi⟩
  rw [Lib.bytesWorld_size];omega
theorem zAz (s:ByteArray) (hs:s.size≤1000000000):Calls Tryz.prog 217 #[.string s] w fun e w'=>e=.returned (.string (yn s))∧Fr (fun _=>False) w w':=by
 have hconv:=Lib.run_convert_string_bytes (P:=Tryz.prog) w 9 305 5 s Tryz.underlying9 Tryz.underlying305 Tryz.underlying5;have ST:=zz (zSf w s);go_enter Tryz.func217,Tryz.ntmps217
 go_wp2_with fail
 clear hconv;generalize Lib.bytesWorld w 5 s=w1 at *;generalize grownCap w s.size 0 5=cap at *;go_loopw [10] (fun i wr=>∃k:Nat,i=.int .i64 k∧k≤s.size∧uY w wr w.heap.size s k) (fun i _=>s.size - (intOf i).toNat)
 case atStart=>exact ⟨0,rfl,Nat.zero_le _,ST.out⟩
 case round=>
  obtain ⟨k,rfl,hk,hS⟩:=hrel;have SS:=zz hS;clear hS;rcases Nat.lt_or_ge k s.size with hlt | hge
  ·have hltl:k < s.data.toList.length:=by rw [Array.length_toList]; exact hlt
   obtain ⟨b,hb⟩:∃b,s.data.toList[k]?=some b:=⟨_,List.getElem?_eq_getElem hltl⟩;have hc:=SS.out.cell hb;rw [if_neg (Nat.lt_irrefl k)] at hc;unfold zL at hc;have hz:=SS.out.fz hlt;have HB:=zz hb;have hb0:b.toNat < 256:=b.toNat_lt;clear hb hltl;by_cases hab:65≤b.toNat∧b.toNat≤90
   ·obtain ⟨h1,h2⟩:=hab
    have h1':(65:Int)≤(b.toNat:Int):=by omega
    have h2':(b.toNat:Int)≤90:=by omega
    have S2:=zz (SS.out.step HB.out (Nat.le_refl _) (.int .u8 ((b.toNat:Int)+32)) (zYx ⟨h1,h2⟩).symm);go_wp2_with fail
    go_roundw
    case rel=>exact ⟨k+1,by go_num,by omega,S2.out⟩
    case measure=>simp [intOf]; omega
   ·have S2:=zz (SS.out.skip HB.out (foldB_no hab))
    by_cases h1:65≤b.toNat
    ·have h1':(65:Int)≤(b.toNat:Int):=by omega
     have h2':(90:Int) < (b.toNat:Int):=by omega
     clear hab;go_wp2_with fail
     go_roundw
     case rel=>exact ⟨k+1,by go_num,by omega,S2.out⟩
     case measure=>simp [intOf]; omega
    ·have h1':(b.toNat:Int) < 65:=by omega
     clear hab;go_wp2_with fail
     go_roundw
     case rel=>exact ⟨k+1,by go_num,by omega,S2.out⟩
     case measure=>simp [intOf]; omega
  ·obtain rfl:k=s.size:=by omega
   have hconv:=run_convert_bytes_back (P:=Tryz.prog) wr 305 9 5 ⟨w.heap.size,0,none⟩ cap (s.data.toList.map zDi) Tryz.underlying305 Tryz.underlying5 Tryz.underlying9 (fun j hj=>by
    rw [zi];have hj':j < s.data.toList.length:=by simpa using hj
    have:=SS.out.cell (j:=j) (b:=s.data.toList[j]) (List.getElem?_eq_getElem hj')
    rw [if_pos (by rw [Array.length_toList] at hj'; exact hj')] at this;rw [this,List.getElem_map];rfl)
   rw [List.length_map,Array.length_toList] at hconv;rw [show s.data.size=s.size from rfl] at hconv;go_wp2_with fail
   go_ret
   exact ⟨rfl,SS.out.f⟩
def zBa (c size:Int):Bool:=decide (1 < size) || (decide (48≤c) && decide (c≤57)) || decide (c=95) || (decide (65≤c) && decide (c≤90)) || (decide (97≤c) && decide (c≤122))
theorem zFe (c size:Int):Calls Tryz.prog 265 #[.int .i32 c,.int .i64 size] w fun e w'=>e=.returned (.bool (zBa c size))∧w'=w:=by
 go_enter Tryz.func265,Tryz.ntmps265
 go_wp2_with fail
 all_goals (go_ret; refine ⟨?_,rfl⟩; first | (simp_all [zBa]; done) | (simp_all [zBa]; omega))
end
section
variable {w w':World} {S:Nat→Prop}
def zSg (s:ByteArray) (pos:Nat):Int:=if 128≤(Utf8.decode s pos).1 then ((Lib.decodeGo (s.extract pos s.size)).2:Int) else 1
def zBl (s:ByteArray) (pos:Nat):Bool:=zBa ((Utf8.decode s pos).1:Int) (zSg s pos)
def yN (s:ByteArray):Nat→Nat→Option Nat→List ByteArray
 | 0,_,_=>[]
 | f+1,pos,fr=>if pos < s.size then
   match zBl s pos,fr with
   | true,none=>yN s f (pos+(Utf8.decode s pos).2) (some pos)
   | false,some a=>yn (s.extract a pos)::yN s f (pos+(Utf8.decode s pos).2) none
   | _,fr=>yN s f (pos+(Utf8.decode s pos).2) fr
  else match fr with
   | none=>[]
   | some a=>[yn (s.extract a s.size)]
theorem jZ (s:ByteArray) (f pos:Nat) (fr:Option Nat):yN s (f+1) pos fr=if pos < s.size then
      match zBl s pos,fr with
      | true,none=>yN s f (pos+(Utf8.decode s pos).2) (some pos)
      | false,some a=>yn (s.extract a pos)::yN s f (pos+(Utf8.decode s pos).2) none
      | _,fr=>yN s f (pos+(Utf8.decode s pos).2) fr
  else match fr with
   | none=>[]
   | some a=>[yn (s.extract a s.size)]:=rfl
theorem wf_tn {s:ByteArray} {f pos:Nat} (h:pos < s.size) (hl:zBl s pos=true):yN s (f+1) pos none=yN s f (pos+(Utf8.decode s pos).2) (some pos):=by rw [jZ,if_pos h,hl]
theorem wf_ts {s:ByteArray} {f pos a:Nat} (h:pos < s.size) (hl:zBl s pos=true):yN s (f+1) pos (some a)=yN s f (pos+(Utf8.decode s pos).2) (some a):=by rw [jZ,if_pos h,hl]
theorem wf_fn {s:ByteArray} {f pos:Nat} (h:pos < s.size) (hl:zBl s pos=false):yN s (f+1) pos none=yN s f (pos+(Utf8.decode s pos).2) none:=by rw [jZ,if_pos h,hl]
theorem wf_fs {s:ByteArray} {f pos a:Nat} (h:pos < s.size) (hl:zBl s pos=false):yN s (f+1) pos (some a)=yn (s.extract a pos)::yN s f (pos+(Utf8.decode s pos).2) none:=by rw [jZ,if_pos h,hl]
theorem wf_en {s:ByteArray} {f pos:Nat} (h:¬pos < s.size):yN s (f+1) pos none=[]:=by rw [jZ,if_neg h]
theorem wf_es {s:ByteArray} {f pos a:Nat} (h:¬pos < s.size):yN s (f+1) pos (some a)=[yn (s.extract a s.size)]:=by rw [jZ,if_neg h]
def zAg (s:ByteArray):List ByteArray:=yN s (s.size+1) 0 none
def frV:Option Nat→Int
 | none=>-1
 | some a=>a
theorem zId {w w':World} (h:Fr (fun _=>False) w w'):w.grownBy w' none:=⟨h.os,h.tape,h.output,h.size,fun k hk _=>h.block k hk fun h=>h⟩
theorem zKq {w w':World} {B:Nat} (h:Lib.Utf8Tabs 1 2 w) (hb:Below B w w') (hB:2 < B):Lib.Utf8Tabs 1 2 w':=by
 unfold Lib.Utf8Tabs at h ⊢;exact ⟨fun k hk=>(hb.cell (by show 1 < B; omega)).trans (h.1 k hk),fun k hk=>⟨(hb.cell (by show 2 < B; omega)).trans (h.2 k hk).1,(hb.cell (by show 2 < B; omega)).trans (h.2 k hk).2⟩⟩
def zIe (A B:World):Prop:=KeepsWalks A B∧A.heap.size≤B.heap.size∧∀(k:Nat) (o:Obj),A.heap[k]?=some o→o.isCells=true→B.heap[k]?=some o
theorem zIe.cell {A B:World} (h:zIe A B) {a:Addr} {v:Value} (hc:A.cell? a=some v):B.cell? a=some v:=by
 unfold World.cell? at hc ⊢;cases ho:A.heap[a.block]? with
 | none=>rw [ho] at hc; cases hc
 | some o=>
  rw [ho] at hc;cases o with
  | cells c t f=>rw [h.2.2 _ _ ho rfl]; exact hc
  | _=>cases hc
theorem zSh (n:Nat) (hn:1≤n) (sb:Nat) (s:ByteArray) (hs:s.size≤100000) (w:World) (hb:sb < w.heap.size) (hc:w.cell? ⟨sb,0,none⟩=some (.string s)) (hT:Lib.Utf8Tabs 1 2 w) (h2:2 < w.heap.size):
  SeqStopsK Fence.wide n Tryz.prog 263 #[.pointer (some ⟨sb,0,none⟩)] (fun x:ByteArray=>#[.string x]) zIe (fun ss=>ss=zAg s) (fun pre=>pre <+:zAg s) (zAg s).length w:=by
 intro l J Jx W hW hJ hJx hY h0;have WS:=zz (Nat.lt_of_lt_of_le hb hW.size);have TT:=zz (zKq hT hW h2);have TW:=zz (Nat.lt_of_lt_of_le h2 hW.size);have hc':=(hW.cell (p:=⟨sb,0,none⟩) hb).trans hc;have HY:=zz hY;have HJ:=zz hJ;have HJX:=zz hJx;clear hY hJ hJx hc hW;refine callsIn_of_wp Tryz.func263 rfl trivial ?_ rfl;simp only [Tryz.ntmps263,List.size_toArray,List.length_cons,List.length_nil,Nat.reduceAdd,Nat.reduceSub,Array.replicate_succ,Array.replicate_zero,List.push_toArray,List.append_toArray,List.nil_append,List.cons_append]
 gi_wp2
 gi_loopw [3] (fun fv wr=>∃(pos f:Nat) (pre:List ByteArray) (fr:Option Nat),fv=.int .i64 (frV fr)∧s.size < pos+f∧1≤f∧(∀a,fr=some a→a < pos∧a < s.size)∧pre++yN s f pos fr=zAg s∧wr.heap[W.heap.size]?=some (.stringIter s pos)∧wr.cell? ⟨sb,0,none⟩=some (.string s)∧Lib.Utf8Tabs 1 2 wr∧W.heap.size < wr.heap.size∧J pre wr)
  (fun _ wr=>match wr.heap[W.heap.size]? with | some (.stringIter _ p)=>s.size - p | _=>0)
 case atStart=>exact ⟨0,s.size+1,[],none,rfl,by omega,by omega,(fun a e=>by cases e),rfl,zC W _,((Fr.same W).alloc (.stringIter s 0)).cel hc',Utf8Tabs_below TT.out (((Fr.same W).alloc (.stringIter s 0)).below (Nat.le_refl _) fun k hk=>hk.elim),by simp [World.iter],HJ.out [] W _ none h0 (zId ((Fr.same W).alloc (.stringIter s 0))) fun r e=>by cases e⟩
 case round=>
  obtain ⟨pos,f,pre,fr,rfl,hf,hf1,hfr,hp,hit,hcs,hTr,hsz,hJs⟩:=hrel;have HIT:=zz hit;have HTR:=zz hTr;have HJS:=zz hJs;have HP:=zz hp;have HF:=zz hf;have HFR:=zz hfr;clear hit hTr hJs hp hf hfr;by_cases hlt:pos < s.size
  ·have hnx:=fun ty=>Lib.run_next_any_at (P:=Tryz.prog) wr W.heap.size s pos ty HIT.out hlt
   have hne:sb≠W.heap.size:=by have:=WS.out; omega
   have hc1:(wr.iterAt W.heap.size s (pos+(Utf8.decode s pos).2)).cell? ⟨sb,0,none⟩=some (.string s):=by
    unfold World.cell?;rw [Lib.iterAt_other _ _ _ _ _ hne];exact hcs
   have hg1:wr.grownBy (wr.iterAt W.heap.size s (pos+(Utf8.decode s pos).2)) (some W.heap.size):=⟨rfl,rfl,rfl,by rw [Lib.iterAt_size]; exact Nat.le_refl _,fun k hk hkn=>Lib.iterAt_other _ _ _ _ _ fun e=>hkn (by rw [e])⟩;have hJ1:=HJ.out pre wr _ _ HJS.out hg1 (fun r e=>by cases e; exact ⟨Nat.le_refl _,_,HIT.out,rfl⟩);have hit1:=Lib.iterAt_heap wr W.heap.size s pos (pos+(Utf8.decode s pos).2) HIT.out;have hsz1:W.heap.size < (wr.iterAt W.heap.size s (pos+(Utf8.decode s pos).2)).heap.size:=by rw [Lib.iterAt_size]; exact hsz
   have C1:=zz hc1;have J1:=zz hJ1;have I1:=zz hit1;have Z1:=zz hsz1;clear hg1 hJ1 hit1 hsz1 hcs hsz;have hT1:Lib.Utf8Tabs 1 2 (wr.iterAt W.heap.size s (pos+(Utf8.decode s pos).2)):=by
    have hb1:Below W.heap.size wr (wr.iterAt W.heap.size s (pos+(Utf8.decode s pos).2)):=⟨rfl,rfl,rfl,by rw [Lib.iterAt_size]; exact Nat.le_refl _,fun k hk=>Lib.iterAt_other _ _ _ _ _ (by omega)⟩;exact zKq HTR.out hb1 (by have:=TW.out; omega)
   have T1:=zz hT1;clear hT1;have step:∀w2,Fr (fun _=>False) (wr.iterAt W.heap.size s (pos+(Utf8.decode s pos).2)) w2→w2.heap[W.heap.size]?=some (.stringIter s (pos+(Utf8.decode s pos).2))∧w2.cell? ⟨sb,0,none⟩=some (.string s)∧Lib.Utf8Tabs 1 2 w2∧W.heap.size < w2.heap.size∧J pre w2:=fun w2 hf=>
    ⟨(hf.block _ Z1.out fun h=>h).trans I1.out,hf.cel C1.out,Utf8Tabs_below T1.out (hf.below (Nat.le_refl _) fun k hk=>hk.elim),Nat.lt_of_lt_of_le Z1.out hf.size,HJ.out pre _ _ none J1.out (zId hf) fun r e=>by cases e⟩
   have ST:=zz step;clear step;obtain ⟨f',rfl⟩:∃f',f=f'+1:=⟨f - 1,by have:=HF.out; omega⟩;have hwd:=Lib.width_pos s pos;have HFN:=zz (show s.size < pos+(Utf8.decode s pos).2+f' by have:=HF.out; omega);have HWD:=zz hwd;have HF1:=zz (show 1≤f' by have:=HF.out; omega);clear hwd;by_cases h128:128≤(Utf8.decode s pos).1
   ·have h128':(128:Int)≤((Utf8.decode s pos).1:Int):=by omega
    have RS:=zz (show zSg s pos=((Lib.decodeGo (s.extract pos s.size)).2:Int) from if_pos h128);have U8:=zz (Tryz.utf8_DecodeRuneInString (s.extract pos s.size) _ T1.out)
    gi_wp2_with (fail)
    refine ⟨trivial,CallsIn.mono (callsIn_wide.2 U8.out) ?_⟩;rintro e w2 ⟨rfl,hb2⟩;have F12:Fr (fun _=>False) (wr.iterAt W.heap.size s (pos+(Utf8.decode s pos).2)) w2:=Fr.of_below hb2 (Nat.le_refl _)
    gi_wp2_with (fail)
    refine ⟨trivial,CallsIn.mono (callsIn_wide.2 (zFe _ _)) ?_⟩;rintro e w3 ⟨rfl,hw3⟩;obtain rfl:=hw3.symm;obtain ⟨il,hil⟩:∃il,il=zBl s pos:=⟨_,rfl⟩;rw [show zBa ((Utf8.decode s pos).1:Int) ((Lib.decodeGo (s.extract pos s.size)).2:Int)=il by rw [hil]; unfold zBl; rw [RS.out]];obtain ⟨i2,c2,t2,z2,j2⟩:=ST.out w2 F12;have I2:=zz i2;have C2:=zz c2;have T2:=zz t2;have Z2:=zz z2;have J2:=zz j2;clear i2 c2 t2 z2 j2;cases il with
    | true=>
     cases fr with
     | none=>
      have E:=zz (wf_tn (f:=f') hlt hil.symm);clear hil;unfold frV
      gi_wp2_with (fail)
      go_roundw
      case rel=>exact ⟨_,f',pre,some pos,rfl,HFN.out,HF1.out,(fun a e=>by cases e; exact ⟨by have:=HWD.out; omega,hlt⟩),by rw [←E.out]; exact HP.out,I2.out,C2.out,T2.out,Z2.out,J2.out⟩
      case measure=>rw [I2.out,HIT.out]; have:=HWD.out; dsimp only; omega
     | some a=>
      have E:=zz (wf_ts (f:=f') (a:=a) hlt hil.symm);have ha:=HFR.out a rfl;clear hil;unfold frV
      gi_wp2_with (fail)
      go_roundw
      case rel=>exact ⟨_,f',pre,some a,rfl,HFN.out,HF1.out,(fun b e=>by cases e; exact ⟨by have:=HWD.out; omega,ha.2⟩),by rw [←E.out]; exact HP.out,I2.out,C2.out,T2.out,Z2.out,J2.out⟩
      case measure=>rw [I2.out,HIT.out]; have:=HWD.out; dsimp only; omega
    | false=>
     cases fr with
     | none=>
      have E:=zz (wf_fn (f:=f') hlt hil.symm);clear hil;unfold frV
      gi_wp2_with (fail)
      go_roundw
      case rel=>exact ⟨_,f',pre,none,rfl,HFN.out,HF1.out,(fun b e=>by cases e),by rw [←E.out]; exact HP.out,I2.out,C2.out,T2.out,Z2.out,J2.out⟩
      case measure=>rw [I2.out,HIT.out]; have:=HWD.out; dsimp only; omega
     | some a=>
      have E:=zz (wf_fs (f:=f') (a:=a) hlt hil.symm);have ha:=HFR.out a rfl;have c2':=C2.out;clear hil;unfold frV
      gi_wp2_with (fail)
      refine ⟨trivial,CallsIn.mono (callsIn_wide.2 (zAz (s.extract a pos) (by rw [ByteArray.size_extract]; omega))) ?_⟩;rintro e w4 ⟨rfl,f4⟩;obtain ⟨i4,c4,t4,z4,j4⟩:=ST.out w4 (F12.tr f4);have hlen:pre.length < (zAg s).length:=by rw [←HP.out,E.out]; simp
      obtain ⟨fn,tmps,assign,body,hy,hR⟩:=HY.out pre (yn (s.extract a pos)) w4 j4 hlen;have HR:=zz hR;have I4:=zz i4;have C4:=zz c4;have T4:=zz t4;have Z4:=zz z4;clear i4 c4 t4 z4 j4 hR hlen f4 c2'
      gi_wp2_with (fail)
      refine HR.out.mono ?_;rintro e W3 (⟨rfl,hJ3,hk3⟩ | ⟨rfl,hJx3⟩)
      ·have J5:=zz hJ3
       have I5:=zz (hk3.1.same _ _ I4.out rfl);have C5:=zz (hk3.cell C4.out);have T5:=zz (show Lib.Utf8Tabs 1 2 W3 from ⟨fun k hk=>hk3.cell (T4.out.1 k hk),fun k hk=>⟨hk3.cell (T4.out.2 k hk).1,hk3.cell (T4.out.2 k hk).2⟩⟩);have Z5:=zz (Nat.lt_of_lt_of_le Z4.out hk3.1.size);clear hJ3 hk3 hy
       gi_wp2_with (fail)
       go_roundw
       case rel=>exact ⟨_,f',pre++ [yn (s.extract a pos)],none,rfl,HFN.out,HF1.out,(fun b e=>by cases e),by rw [List.append_assoc,List.singleton_append,←E.out]; exact HP.out,I5.out,C5.out,T5.out,Z5.out,J5.out⟩
       case measure=>rw [I5.out,HIT.out]; have:=HWD.out; dsimp only; omega
      ·have J5:=zz hJx3
       clear hJx3 hy
       gi_wp2_with (fail)
       refine bodyPost_ret (results_none rfl _ _ _) rfl ?_;exact ⟨⟨_,rfl⟩,.inr ⟨_,⟨yN s f' (pos+(Utf8.decode s pos).2) none,by rw [List.append_assoc,List.singleton_append,←E.out]; exact HP.out⟩,J5.out⟩⟩
   ·have h128':((Utf8.decode s pos).1:Int) < 128:=by omega
    have RS:=zz (show zSg s pos=1 from if_neg h128)
    gi_wp2_with (fail)
    refine ⟨trivial,CallsIn.mono (callsIn_wide.2 (zFe _ _)) ?_⟩;rintro e w3 ⟨rfl,hw3⟩;obtain rfl:=hw3.symm;clear hnx;generalize (wr.iterAt W.heap.size s (pos+(Utf8.decode s pos).2))=w2 at *;have F12:Fr (fun _=>False) w2 w2:=Fr.same w2;obtain ⟨il,hil⟩:∃il,il=zBl s pos:=⟨_,rfl⟩;rw [show zBa ((Utf8.decode s pos).1:Int) 1=il by rw [hil]; unfold zBl; rw [RS.out]];obtain ⟨i2,c2,t2,z2,j2⟩:=ST.out w2 F12;have I2:=zz i2;have C2:=zz c2;have T2:=zz t2;have Z2:=zz z2;have J2:=zz j2;clear i2 c2 t2 z2 j2;cases il with
    | true=>
     cases fr with
     | none=>
      have E:=zz (wf_tn (f:=f') hlt hil.symm);clear hil;unfold frV
      gi_wp2_with (fail)
      go_roundw
      case rel=>exact ⟨_,f',pre,some pos,rfl,HFN.out,HF1.out,(fun a e=>by cases e; exact ⟨by have:=HWD.out; omega,hlt⟩),by rw [←E.out]; exact HP.out,I2.out,C2.out,T2.out,Z2.out,J2.out⟩
      case measure=>rw [I2.out,HIT.out]; have:=HWD.out; dsimp only; omega
     | some a=>
      have E:=zz (wf_ts (f:=f') (a:=a) hlt hil.symm);have ha:=HFR.out a rfl;clear hil;unfold frV
      gi_wp2_with (fail)
      go_roundw
      case rel=>exact ⟨_,f',pre,some a,rfl,HFN.out,HF1.out,(fun b e=>by cases e; exact ⟨by have:=HWD.out; omega,ha.2⟩),by rw [←E.out]; exact HP.out,I2.out,C2.out,T2.out,Z2.out,J2.out⟩
      case measure=>rw [I2.out,HIT.out]; have:=HWD.out; dsimp only; omega
    | false=>
     cases fr with
     | none=>
      have E:=zz (wf_fn (f:=f') hlt hil.symm);clear hil;unfold frV
      gi_wp2_with (fail)
      go_roundw
      case rel=>exact ⟨_,f',pre,none,rfl,HFN.out,HF1.out,(fun b e=>by cases e),by rw [←E.out]; exact HP.out,I2.out,C2.out,T2.out,Z2.out,J2.out⟩
      case measure=>rw [I2.out,HIT.out]; have:=HWD.out; dsimp only; omega
     | some a=>
      have E:=zz (wf_fs (f:=f') (a:=a) hlt hil.symm);have ha:=HFR.out a rfl;have c2':=C2.out;clear hil;unfold frV
      gi_wp2_with (fail)
      refine ⟨trivial,CallsIn.mono (callsIn_wide.2 (zAz (s.extract a pos) (by rw [ByteArray.size_extract]; omega))) ?_⟩;rintro e w4 ⟨rfl,f4⟩;obtain ⟨i4,c4,t4,z4,j4⟩:=ST.out w4 (F12.tr f4);have hlen:pre.length < (zAg s).length:=by rw [←HP.out,E.out]; simp
      obtain ⟨fn,tmps,assign,body,hy,hR⟩:=HY.out pre (yn (s.extract a pos)) w4 j4 hlen;have HR:=zz hR;have I4:=zz i4;have C4:=zz c4;have T4:=zz t4;have Z4:=zz z4;clear i4 c4 t4 z4 j4 hR hlen f4 c2'
      gi_wp2_with (fail)
      refine HR.out.mono ?_;rintro e W3 (⟨rfl,hJ3,hk3⟩ | ⟨rfl,hJx3⟩)
      ·have J5:=zz hJ3
       have I5:=zz (hk3.1.same _ _ I4.out rfl);have C5:=zz (hk3.cell C4.out);have T5:=zz (show Lib.Utf8Tabs 1 2 W3 from ⟨fun k hk=>hk3.cell (T4.out.1 k hk),fun k hk=>⟨hk3.cell (T4.out.2 k hk).1,hk3.cell (T4.out.2 k hk).2⟩⟩);have Z5:=zz (Nat.lt_of_lt_of_le Z4.out hk3.1.size);clear hJ3 hk3 hy
       gi_wp2_with (fail)
       go_roundw
       case rel=>exact ⟨_,f',pre++ [yn (s.extract a pos)],none,rfl,HFN.out,HF1.out,(fun b e=>by cases e),by rw [List.append_assoc,List.singleton_append,←E.out]; exact HP.out,I5.out,C5.out,T5.out,Z5.out,J5.out⟩
       case measure=>rw [I5.out,HIT.out]; have:=HWD.out; dsimp only; omega
      ·have J5:=zz hJx3
       clear hJx3 hy
       gi_wp2_with (fail)
       refine bodyPost_ret (results_none rfl _ _ _) rfl ?_;exact ⟨⟨_,rfl⟩,.inr ⟨_,⟨yN s f' (pos+(Utf8.decode s pos).2) none,by rw [List.append_assoc,List.singleton_append,←E.out]; exact HP.out⟩,J5.out⟩⟩
  ·have hnx:=fun ty=>Lib.run_next_end_at (P:=Tryz.prog) wr W.heap.size s pos ty HIT.out hlt
   obtain ⟨f',rfl⟩:∃f',f=f'+1:=⟨f - 1,by omega⟩;cases fr with
   | none=>
    have E:=zz (wf_en (f:=f') hlt);unfold frV
    gi_wp2_with (fail)
    go_end0
    exact ⟨⟨_,rfl⟩,.inl ⟨pre,by have:=HP.out; rw [E.out,List.append_nil] at this; exact this,HJS.out⟩⟩
   | some a=>
    have E:=zz (wf_es (f:=f') (a:=a) hlt);have ha:=HFR.out a rfl;unfold frV
    gi_wp2_with (fail)
    refine ⟨trivial,CallsIn.mono (callsIn_wide.2 (zAz (s.extract a s.size) (by rw [ByteArray.size_extract]; omega))) ?_⟩;rintro e w4 ⟨rfl,f4⟩;have j4:=HJ.out pre _ _ none HJS.out (zId f4) fun r e=>by cases e
    have hlen:pre.length < (zAg s).length:=by rw [←HP.out,E.out]; simp
    obtain ⟨fn,tmps,assign,body,hy,hR⟩:=HY.out pre (yn (s.extract a s.size)) w4 j4 hlen;have HR:=zz hR;clear j4 hR hlen f4
    gi_wp2_with (fail)
    refine HR.out.mono ?_;rintro e W3 (⟨rfl,hJ3,hk3⟩ | ⟨rfl,hJx3⟩)
    ·have J5:=zz hJ3
     clear hJ3 hk3 hy
     gi_wp2_with (fail)
     go_end0
     exact ⟨⟨_,rfl⟩,.inl ⟨_,by have:=HP.out; rw [E.out] at this; exact this,J5.out⟩⟩
    ·have J5:=zz hJx3
     clear hJx3 hy
     gi_wp2_with (fail)
     go_end0
     exact ⟨⟨_,rfl⟩,.inr ⟨_,by have:=HP.out; rw [E.out] at this; rw [this]; exact List.prefix_refl _,J5.out⟩⟩
end
end Go.Proofs.YtfdhofabgdkkkaaGreatDoor
