/- A part of the proof that what the machine is told keeps its bounds. -/
import Derived.Test.YtfdhofabgdkkkaaGreatDoorJ34
import Derived.Maps.RangeWalk
import Derived.Shelf.Abstract
import Derived.Test.YtfdhofabgdkkkaaGreatDoorJ33
set_option maxHeartbeats 128000000
set_option maxRecDepth 100000
namespace Go.Proofs.YtfdhofabgdkkkaaGreatDoor
open Lib renaming hid→zz
open Go.RowKit Go.Fm Go.BigFrame Go.Maps Go.Shelf
set_option linter.unusedVariables false
set_option linter.unusedSimpArgs false
structure zHs (D:DataW Unit) (L:List Row):Prop where
 rows:kN L
 size:Maps.size D=L.length
 atk:∀k,yf k→∀z,D.atKey (jC k) z=match xQ L k with | some a=>dat a | none=>z
theorem zHs.del {D:DataW Unit} {L:List Row} (h:zHs D L) (ht:Tidy D) {k:Key} (hk:yf k):zHs (D.del (jC k)) (zHo L k):=by
 refine ⟨zDd h.rows k,?_,fun k' hk' z=>?_⟩
 ·have e1:=size_del (k:=jC k) ht
  rw [yk.has (w:=default) (b:=0) h.atk hk] at e1
  have:=kO h.rows.nodup k
  have:=h.size
  omega
 ·rw [zHp]
  by_cases e:k'=k
  ·subst e
   rw [atKey_del_same]; simp
  ·rw [atKey_del_other (fun h=>e (zDc hk' hk h)),h.atk k' hk',if_neg e]
theorem zHs.tab {w:World} {b n:Nat} {D:DataW Unit} {L:List Row} (h:zHs D L) (ho:w.ownsMap Tryz.prog 273 (plainElem Tryz.prog 3) b n D):yk w b L:=⟨h.rows,D,zEe ho,h.size,h.atk⟩
theorem yk.open {w:World} {b:Nat} {L:List Row} (h:yk w b L):∃D,w.ownsMap Tryz.prog 273 (plainElem Tryz.prog 3) b (Maps.size D) D∧zHs D L:=by
 obtain ⟨h0,D,h1,h2,h3⟩:=h;exact ⟨D,h1,h0,h2,h3⟩
theorem zXz {w w':World} {b r n cnt:Nat} {D:DataW Unit} {left:Lit→Bool} {R:Value→Option (DataW Unit × List MemPlace)} {P:Program} {t:TypeId} (h:w.ranges P t R b r n D left cnt) (hb:w'.heap[b]?=w.heap[b]?) (hr:w'.heap[r]?=w.heap[r]?):w'.ranges P t R b r n D left cnt:=by
 obtain ⟨es,clock,since,seen,c0,h1,h2,h3,h4,h5,h6⟩:=h;exact ⟨es,clock,since,seen,c0,hb.trans h1,h2,h3,h4,hr.trans h5,h6⟩
def Goes (g:Nat) (lb:Array Value) (p:Key→Bool) (w:World):Prop:=
 (∀args w,(callFunc g args).run Tryz.prog w=.ok (.enter g args) w)∧∀w',Fr (fun _=>False) w w'→∀k,Calls Tryz.prog g (#[jc k]++lb) w' fun e w2=>e=.returned (.bool (p k))∧Fr (fun _=>False) w' w2
theorem zRs (g:Nat) (lb:Array Value) (p:Key→Bool) (k:Key) (v:Int) (gb:Nat) (w:World) (hg:Goes g lb p w) (hc:w.cell? ⟨gb,0,none⟩=some (.func (.func g) #[] lb)):
  Calls Tryz.prog 241 #[jc k,.int .i64 v,.pointer (some ⟨gb,0,none⟩)] w fun e w'=>e=.returned (.bool (p k))∧Fr (fun _=>False) w w':=by
 have hf:=(Fr.same w).alloc (.cells #[.string k.g,.string k.t,.int .i64 k.i] 273);have hcall:=hg.2 _ hf k;have eg:=hg.1;have hc1:=hf.cel hc;have HF:=zz hf;have HC:=zz hcall;clear hg hc hf hcall;unfold jc at HC ⊢;go_enter Tryz.func241,Tryz.ntmps241
 go_wp2_with fail
 refine HC.out.mono ?_;rintro e w2 ⟨rfl,hf⟩;go_wp2_with fail
 go_ret
 exact ⟨rfl,HF.out.tr hf⟩
theorem Goes.later {g:Nat} {lb:Array Value} {p:Key→Bool} {w w':World} {S:Nat→Prop} (h:Goes g lb p w) (hf:Fr (fun _=>False) w w'):Goes g lb p w':=⟨h.1,fun w2 hf2 k=>h.2 w2 (hf.tr hf2) k⟩
def vY (L:List Row) (p:Key→Bool):List Row:=L.filter fun r=>!p r.1
def zUd (mb:Nat) (L:List Row) (p:Key→Bool) (w:World) (e:Ending) (w':World):Prop:=e=.returned (.tuple #[])∧yk w' mb (vY L p)∧Fr (fun i=>i=mb) w w'
def DelMid (mb:Nat) (L:List Row) (p:Key→Bool) (w wr:World):Prop:=
 ∃(D:DataW Unit) (left:Lit→Bool) (cnt n:Nat) (M:List Row),wr.ranges Tryz.prog 273 (plainElem Tryz.prog 3) mb w.heap.size n D left cnt∧zHs D M∧
  (∀k,yf k→xQ M k=if p k=true∧left (jC k)=false then none else xQ L k)∧Fr (fun i=>i=mb) w wr
def Goes2 (g:Nat) (lb:Array Value) (p:Key→Bool) (mb:Nat) (w:World):Prop:=
 (∀args w,(callFunc g args).run Tryz.prog w=.ok (.enter g args) w)∧∀w',Fr (fun i=>i=mb) w w'→∀(k:Key) (v:Int),Calls Tryz.prog g (#[jc k,.int .i64 v]++lb) w' fun e w2=>e=.returned (.bool (p k))∧Fr (fun _=>False) w' w2
theorem zLw (g:Nat) (lb:Array Value) (p:Key→Bool) (mb:Nat) (L:List Row) (w:World) (h:yk w mb L) (hg:Goes2 g lb p mb w):
  Calls Tryz.prog 240 #[.map (some mb),.func (.func g) #[] lb] w (zUd mb L p w):=by
 obtain ⟨D,ho,hD⟩:=h.open;have hml:=h.lt;have eg:=hg.1;have HG:=zz hg.2;have HO:=zz ho;have HD:=zz hD;have HT:=zz h;clear hg ho hD h;go_enter Tryz.func240,Tryz.ntmps240
 go_wp2_with (at_range; refine wpList_range_own _ rfl _ 217 rfl 273 3 zLv Tryz.underlying217 _ mb _ _ rfl HO.out ?_; intro w0 hrg0 hg0 hs0)
 have hm0:DelMid mb L p w w0:=⟨D,_,_,_,L,hrg0,HD.out,fun k hk=>by
  have hh:=yk.has (w:=w) (b:=mb) HD.out.atk hk;rw [hh];cases xQ L k <;> simp,(Fr.refl _ w).grown hg0 fun k e=>by cases e⟩
 have HM0:=zz hm0;clear hrg0 hg0 hs0 hm0;go_frame
 go_loopw [4] (fun _ wr=>DelMid mb L p w wr) (fun _ wr=>wr.rangeLeft mb w.heap.size)
 case atStart=>exact HM0.out
 case round=>
  obtain ⟨D',left,cnt,n,M,hrg,hM,hget,hf⟩:=hrel;have HRG:=zz hrg;have HM:=zz hM;have HGET:=zz hget;have F:=zz hf;clear hrg hM hget hf;go_wp2_with (at_next; refine wpList_next_ranges _ rfl _ rfl 273 zLv (plainElem Tryz.prog 3) jc (Value.int .i64) (fun key kl hk=>by obtain ⟨k,_,e,_⟩:=zKj hk; exact ⟨k,e⟩) (fun v y hv=>by obtain ⟨c,rfl,_⟩:=plainElem_int_inv Tryz.underlying3 hv; exact ⟨c,rfl⟩) mb w.heap.size n _ _ _ rfl HRG.out ?_ ?_)
  ·intro hc0 hl0
   have hfin:zUd mb L p w (.returned (.tuple #[])) wr:=by
    refine ⟨rfl,(HM.out.tab HRG.out.owns).perm ?_,F.out⟩;refine zXv HM.out.rows.nodup (HT.out.1.nodup.sublist (List.filter_sublist.map _)) fun k=>?_
    have hfl:=zAe L (fun x=>!p x) k;unfold vY;rw [hfl];by_cases hk:yf k
    ·rw [HGET.out k hk,hl0]
     cases p k <;> simp
    ·have n1:∀ {L:List Row},kN L→xQ L k=none:=fun {L} hL=>by
      cases hg:xQ L k with
      | none=>rfl
      | some a=>exact absurd (hL.ok _ (jz hg)).1 hk
     rw [n1 HM.out.rows,n1 HT.out.1];simp
   have HFIN:=zz hfin;clear hc0 hl0 hfin;go_wp2_with fail
   go_end0
   exact HFIN.out
  ·intro k c kl yd yp w2 cnt2 hkey hlk hv hat hrg2 hlt hg2 hs2 hen
   obtain ⟨k',hok,ek,rfl⟩:=zKj hkey;obtain rfl:=zOt ek;have hf2:Fr (fun i=>i=mb) w w2:=F.out.grown hg2 fun i e=>by cases e; exact .inr (Nat.le_refl _)
   have hf3:Fr (fun i=>i=mb) w (w2.alloc (.cells #[.string k.g,.string k.t,.int .i64 k.i] 273)):=hf2.alloc _;have hcall:=HG.out _ hf3 k c;have hrg3:(w2.alloc (.cells #[.string k.g,.string k.t,.int .i64 k.i] 273)).ranges Tryz.prog 273 (plainElem Tryz.prog 3) mb w.heap.size n D' (fun z=>left z && !z.sameKey (jC k)) cnt2:=hrg2.alloc _;have hleft:∀k2,yf k2→((left (jC k2) && !(jC k2).sameKey (jC k))=false↔(left (jC k2)=false∨k2=k)):=fun k2 hk2=>by
    by_cases e:k2=k
    ·subst e
     have:(jC k2).sameKey (jC k2)=true:=WideAt.sameKey_self trivial
     simp [this]
    ·have:(jC k2).sameKey (jC k)=false:=sameKey_ne fun h=>e (zDc hk2 hok h)
     simp [this,e]
   have HF3:=zz hf3;have HRG3:=zz hrg3;have HCALL:=zz hcall;have HLEFT:=zz hleft;have HLT:=zz hlt;have hsz:w2.heap.size+1=(w2.alloc (.cells #[.string k.g,.string k.t,.int .i64 k.i] 273)).heap.size:=by simp
   have HSZ:=zz hsz;clear hkey ek hlk hv hat hrg2 hlt hg2 hs2 hf2 hf3 hcall hrg3 hleft hsz;unfold jc at hen HCALL ⊢;go_wp2_with fail
   refine HCALL.out.mono ?_;rintro e w4 ⟨rfl,hf4⟩;have hrg4:=zXz HRG3.out (hf4.block mb HRG3.out.owns.lt fun h=>h) (hf4.block _ HRG3.out.lt fun h=>h);have hf5:=HF3.out.trans hf4 fun i e=>e.elim
   have d0:=hf4.cel (zD w2 #[.string k.g,.string k.t,.int .i64 k.i] 273 0);have d1:=hf4.cel (zD w2 #[.string k.g,.string k.t,.int .i64 k.i] 273 1);have d2:=hf4.cel (zD w2 #[.string k.g,.string k.t,.int .i64 k.i] 273 2);have HRG4:=zz hrg4;have HF5:=zz hf5;clear hf4 hrg4 hf5 hen;cases hp:p k with
   | false=>
    have HP:=zz hp;clear hp;go_wp2_with fail
    go_roundw
    case rel=>
     refine ⟨D',_,cnt2,n,M,HRG4.out,HM.out,fun k2 hk2=>?_,HF5.out⟩;rw [HGET.out k2 hk2];have h1:=HLEFT.out k2 hk2;by_cases e:k2=k
     ·subst e; simp [HP.out]
     ·by_cases e2:left (jC k2)=false
      ·rw [h1.2 (.inl e2),e2]
      ·have h2:¬(left (jC k2) && !(jC k2).sameKey (jC k))=false:=fun h=>by rcases h1.1 h with h | h <;> contradiction
       rw [if_neg (fun h=>e2 h.2),if_neg (fun h=>h2 h.2)]
    case measure=>rw [HRG4.out.left_eq,HRG.out.left_eq]; exact HLT.out
   | true=>
    have HP:=zz hp;clear hp;go_wp2_with (at_delete; refine wpList_delete_ranges _ rfl _ _ 217 273 rfl 3 zLv Tryz.underlying217 (plainElem Tryz.prog 3) mb w.heap.size n _ _ _ rfl HRG4.out (jc k) _ rfl (zAd hok) ?_; intro w6 cnt6 hrg6 hle6 hturn6)
    have hrd:=HM.out.del (HRG4.out.owns.tidy zLv) hok;have hf6:=HF5.out.grown hturn6.grown fun i e=>by cases e; exact .inl rfl
    rw [Maps.strike_twice] at hrg6;have HRG6:=zz hrg6;have HRD:=zz hrd;have HF6:=zz hf6;clear hrg6 hrd hf6 hturn6;go_wp2_with fail
    go_frame
    go_roundw
    case rel=>
     refine ⟨_,_,cnt6,n,_,HRG6.out,HRD.out,fun k2 hk2=>?_,HF6.out⟩;rw [zHp,HGET.out k2 hk2];have h1:=HLEFT.out k2 hk2;by_cases e:k2=k
     ·subst e
      rw [if_pos rfl,if_pos ⟨HP.out,h1.2 (.inr rfl)⟩]
     ·rw [if_neg e]
      by_cases e2:left (jC k2)=false
      ·rw [h1.2 (.inl e2),e2]
      ·have h2:¬(left (jC k2) && !(jC k2).sameKey (jC k))=false:=fun h=>by rcases h1.1 h with h | h <;> contradiction
       rw [if_neg (fun h=>e2 h.2),if_neg (fun h=>h2 h.2)]
    case measure=>rw [HRG6.out.left_eq,HRG.out.left_eq]; have:=HLT.out; omega
def zOv (tb mb:Nat) (room:Int) (L:List Row) (p:Key→Bool) (w:World) (e:Ending) (w':World):Prop:=
 e=.returned (.int .i64 ((L.length:Int) - ((vY L p).length:Int)))∧Tbl w' tb mb room (vY L p)∧Fr (fun i=>i=mb) w w'
theorem keep_le (L:List Row) (p:Key→Bool):(vY L p).length≤L.length:=List.length_filter_le _ _
theorem zYa (g:Nat) (lb:Array Value) (p:Key→Bool) (tb mb:Nat) (room:Int) (L:List Row) (w:World) (h:Tbl w tb mb room L)
  (hg:(∀args w,(callFunc g args).run Tryz.prog w=.ok (.enter g args) w)∧∀w',Fr (fun i=>i=mb) w w'→∀k,Calls Tryz.prog g (#[jc k]++lb) w' fun e w2=>e=.returned (.bool (p k))∧Fr (fun _=>False) w' w2):
  Calls Tryz.prog 191 #[.pointer (some ⟨tb,0,none⟩),.func (.func g) #[] lb] w (zOv tb mb room L p w):=by
 have hr1:=h.room1;have hr2:=h.room2;have hln:=h.len;have hkl:=keep_le L p;have hf1:=(Fr.same w).alloc (.cells #[.func (.func g) #[] lb] 300);have h1:=h.old hf1;have c1:=zB h1.cells 1;have hlen:=h1.map.len 3;have hbox:=zD w #[.func (.func g) #[] lb] 300 0;have hg2:Goes2 241 #[.pointer (some ⟨w.heap.size,0,none⟩)] p mb (w.alloc (.cells #[.func (.func g) #[] lb] 300)):=
  ⟨enters_of Tryz.func241 (by kernel_rfl) rfl,fun w' hf k v=>zRs g lb p k v w.heap.size w' ⟨hg.1,fun w2 hf2 k2=>hg.2 w2 (((hf1.mono fun i e=>e.elim).trans hf fun i e=>.inl e).trans hf2 fun i e=>e.elim) k2⟩ (hf.cell hbox fun e=>by have:=h.lt.2; simp at e; omega)⟩
 have hd:=zLw 241 #[.pointer (some ⟨w.heap.size,0,none⟩)] p mb L _ h1.map hg2;have HD:=zz hd;have H1:=zz h1;have HF1:=zz hf1;have H:=zz h;clear hg hg2 hd h1 hf1 h hbox;go_enter Tryz.func191,Tryz.ntmps191
 go_wp2_with fail
 refine HD.out.mono ?_;rintro e w2 ⟨rfl,ht2,hf2⟩;have hc2:w2.heap[tb]?=some (.cells #[.int .i64 room,.map (some mb)] 219 (0,0)):=(hf2.block tb H1.out.lt.1 H1.out.ne).trans H1.out.cells;have c12:=zB hc2 1;have hlen2:=ht2.len 3;have T2:=zz (⟨hc2,ht2,hr1,hr2,by omega⟩:Tbl w2 tb mb room (vY L p));have F2:=zz ((HF1.out.mono fun i e=>e.elim).trans hf2 fun i e=>.inl e);clear hlen c1 hc2 ht2 hf2;go_wp2_with fail
 go_ret
 exact ⟨rfl,T2.out,F2.out⟩
theorem key_ne {a b:ByteArray} (h:¬a=b):(a.toList == b.toList)=false:=by
 cases hh:(a.toList == b.toList) with
 | false=>rfl
 | true=>
  have h2:a.toList=b.toList:=eq_of_beq hh;rw [ByteArray.toList_eq,ByteArray.toList_eq] at h2;obtain ⟨⟨x⟩⟩:=a;obtain ⟨⟨y⟩⟩:=b;exact absurd (by simpa using h2) h
theorem strEq (a b:ByteArray):(a.toList == b.toList)=decide (a=b):=by
 by_cases h:a=b
 ·subst h; simp
 ·rw [key_ne h]; simp [h]
theorem drop_fn (s:ByteArray) (k:Key) (gb:Nat) (w:World) (hc:w.cell? ⟨gb,0,none⟩=some (.string s)):Calls Tryz.prog 192 #[jc k,.pointer (some ⟨gb,0,none⟩)] w fun e w'=>e=.returned (.bool (decide (k.t=s)))∧Fr (fun _=>False) w w':=by
 have hc1:=((Fr.same w).alloc (.cells #[.string k.g,.string k.t,.int .i64 k.i] 273)).cel hc;unfold jc;go_enter Tryz.func192,Tryz.ntmps192
 go_wp2_with fail
 go_ret
 exact ⟨by rw [←strEq]; rfl,(Fr.same w).alloc _⟩
theorem zRt (s:ByteArray) (tb mb:Nat) (room:Int) (L:List Row) (w:World) (h:Tbl w tb mb room L):
  Calls Tryz.prog 126 #[.pointer (some ⟨tb,0,none⟩),.string s] w (zOv tb mb room L (fun k=>decide (k.t=s)) w):=by
 have hf1:=(Fr.same w).alloc (.cells #[.string s] 9);have h1:=h.old hf1;have hbox:=zD w #[.string s] 9 0;have ht:=zYa 192 #[.pointer (some ⟨w.heap.size,0,none⟩)] (fun k=>decide (k.t=s)) tb mb room L _ h1 ⟨enters_of Tryz.func192 (by kernel_rfl) rfl,fun w' hf k=>drop_fn s k w.heap.size w' (hf.cell hbox fun e=>by have:=h.lt.2; simp at e; omega)⟩;have HT:=zz ht;have HF1:=zz hf1;clear ht hf1 h h1 hbox;go_enter Tryz.func126,Tryz.ntmps126
 go_wp2_with fail
 refine HT.out.mono ?_;rintro e w2 ⟨rfl,ht2,hf2⟩;have HT2:=zz ht2;have HF2:=zz hf2;clear ht2 hf2;go_wp2_with fail
 go_ret
 exact ⟨rfl,HT2.out,(HF1.out.mono fun i e=>e.elim).trans HF2.out fun i e=>.inl e⟩
section
variable {w w':World} {S K:Nat→Prop}
structure zO where
 cb:Nat
 gm:Nat
 ob:Nat
 om:Nat
 se:Int
 re:Int
 G:List (ByteArray × zj)
 O:List Row
def vr (d:zj):Value:=.pointer (some ⟨d.gb,0,none⟩)
def jl (G:List (ByteArray × zj)):List (ByteArray × Value):=G.map fun x=>(x.1,vr x.2)
def yD (G:List (ByteArray × zj)) (p:ByteArray):Option zj:=(G.find? fun x=>x.1=p).map (·.2)
def zDf (o:Option zj):Value:=match o with | some d=>vr d | none=>.pointer none
theorem grows_at (G:List (ByteArray × zj)) (p:ByteArray):zk (jl G) p=(yD G p).map vr:=by
 unfold zk jl yD;rw [List.find?_map];cases h:G.find? ((fun r:ByteArray × Value=>decide (r.1=p)) ∘ fun x=>(x.1,vr x.2)) with
 | none=>
  have h2:G.find? (fun x=>decide (x.1=p))=none:=h;rw [h2]; rfl
 | some x=>
  have h2:G.find? (fun x=>decide (x.1=p))=some x:=h;rw [h2]; rfl
theorem xh {G:List (ByteArray × zj)} {p:ByteArray} {d:zj} (h:yD G p=some d):(p,d)∈G:=by
 unfold yD at h;cases hf:G.find? fun x=>x.1=p with
 | none=>rw [hf] at h; cases h
 | some r=>
  rw [hf] at h;have h1:=List.find?_some hf;have h2:=List.mem_of_find?_eq_some hf;simp at h h1;obtain ⟨a,y⟩:=r;simp at h h1;subst h h1;exact h2
def zO.B (c:zO):Nat→Prop:=fun i=>i=c.cb∨i=c.gm∨i=c.ob∨i=c.om
def zO.T (c:zO):Nat→Prop:=fun i=>c.B i∨∃x∈c.G,x.2.T i
structure xd (w:World) (c:zO) (N:Nat):Prop where
 b:w.heap[c.cb]?=some (.cells #[.int .i64 c.se,.int .i64 c.re,.map (some c.gm),.pointer (some ⟨c.ob,0,none⟩)] 139 (0,0))
 map:xT jF w c.gm (jl c.G)
 tbl:Tbl w c.ob c.om 1000 c.O
 n1:c.cb≠c.gm∧c.cb≠c.ob∧c.cb≠c.om∧c.gm≠c.ob∧c.gm≠c.om
 pos:0 < c.cb∧0 < c.gm∧0 < c.ob∧0 < c.om
 grp:∀x∈c.G,zu w x.2
 inv:∀x∈c.G,yL x.2.F N∧GQ x.2.F∧x.2.F.se=c.se∧x.2.F.re=c.re
 off:∀x∈c.G,∀i,x.2.T i→¬c.B i
 dis:c.G.Pairwise fun x y=>∀i,x.2.T i→¬y.2.T i
 sr:(1≤c.se∧c.se≤100000)∧1≤c.re∧c.re≤100000
 len:c.G.length≤20
theorem zu.lt' {d:zj} (h:zu w d) {i:Nat} (hi:d.T i):0 < i∧i < w.heap.size:=by
 rcases hi with rfl | hi | hi
 ·exact ⟨h.pos,zA h.b⟩
 ·exact zK h.rows hi
 ·exact h.lt i hi
theorem xd.fr {c:zO} {N:Nat} (h:xd w c N) (hf:Fr S w w') (h1:∀i,c.T i→¬S i):xd w' c N:=
 ⟨(hf.block _ (zA h.b) (h1 _ (.inl (.inl rfl)))).trans h.b,h.map.fr hf (h1 _ (.inl (.inr (.inl rfl)))),h.tbl.fr hf (h1 _ (.inl (.inr (.inr (.inl rfl))))) (h1 _ (.inl (.inr (.inr (.inr rfl))))),h.n1,h.pos,fun x hx=>(h.grp x hx).fr hf fun i hi=>h1 i (.inr ⟨x,hx,hi⟩),h.inv,h.off,h.dis,h.sr,h.len⟩
theorem xd.old {c:zO} {N:Nat} (h:xd w c N) (hf:Fr (fun _=>False) w w'):xd w' c N:=h.fr hf fun _ _ h=>h
theorem xd.more {c:zO} {N M:Nat} (h:xd w c N) (hN:N≤M):xd w c M:=⟨h.b,h.map,h.tbl,h.n1,h.pos,h.grp,fun x hx=>⟨(h.inv x hx).1.mono hN,(h.inv x hx).2⟩,h.off,h.dis,h.sr,h.len⟩
theorem xd.low {c:zO} {N:Nat} (h:xd w c N):(∀i,c.B i→0 < i∧i < w.heap.size)∧∀x∈c.G,∀i,x.2.T i→0 < i∧i < w.heap.size:=
 ⟨fun i hi=>by
  rcases hi with e | e | e | e
  ·subst e; exact ⟨h.pos.1,zA h.b⟩
  ·subst e; exact ⟨h.pos.2.1,h.map.lt⟩
  ·subst e; exact ⟨h.pos.2.2.1,h.tbl.lt.1⟩
  ·subst e; exact ⟨h.pos.2.2.2,h.tbl.lt.2⟩,fun x hx i hi=>(h.grp x hx).lt' hi⟩
theorem xd.keys {c:zO} {N:Nat} (h:xd w c N):(c.G.map (·.1)).Nodup:=by
 have:=h.map.1.nodup
 unfold jl at this;rw [List.map_map] at this;exact this
theorem xd.apart {c:zO} {N:Nat} (h:xd w c N) {p:ByteArray} {d:zj} (hm:(p,d)∈c.G):∀x∈c.G,x.1≠p→∀i,x.2.T i→¬d.T i:=by
 intro x hx1 hp i hi hdi;obtain ⟨a,ha⟩:=List.mem_iff_getElem?.1 hx1;obtain ⟨b,hb⟩:=List.mem_iff_getElem?.1 hm;have hP:=List.pairwise_iff_getElem.1 h.dis;obtain ⟨la,ea⟩:=List.getElem?_eq_some_iff.1 ha;obtain ⟨lb,eb⟩:=List.getElem?_eq_some_iff.1 hb;rcases Nat.lt_trichotomy a b with hab | hab | hab
 ·have:=hP a b la lb hab i
  rw [ea,eb] at this;exact this hi hdi
 ·subst hab; rw [ha] at hb; exact hp (by rw [Option.some.inj hb])
 ·have:=hP b a lb la hab i
  rw [ea,eb] at this;exact this hdi hi
def zAf (G:List (ByteArray × zj)) (p:ByteArray) (d:zj):List (ByteArray × zj):=G.map fun x=>if x.1=p then (p,d) else x
theorem xd.set {c:zO} {N M:Nat} (h:xd w c N) {p:ByteArray} {d d':zj} (hm:(p,d)∈c.G) (hd:zu w' d') (hx:d'.gb=d.gb) (hT:∀i,d'.T i→d.T i∨w.heap.size≤i) (hf:Fr d.T w w') (hN:N≤M) (hi:yL d'.F M∧GQ d'.F∧d'.F.se=c.se∧d'.F.re=c.re):xd w' { c with G:=zAf c.G p d' } M:=by
 have hkeys:=h.keys;have hne:=h.apart hm;have hpr:jl (zAf c.G p d')=jl c.G:=by
  unfold jl zAf vr;rw [List.map_map];refine List.map_congr_left fun x hx1=>?_
  simp only [Function.comp];split
  ·rename_i e
   have:x=(p,d):=zFs hkeys hx1 hm e
   subst this;simp [hx]
  ·rfl
 obtain ⟨lowB,lowT⟩:=h.low;have hB:∀i,c.B i→¬d.T i:=fun i hi hd=>h.off _ hm i hd hi
 refine ⟨(hf.block _ (zA h.b) (hB _ (.inl rfl))).trans h.b,by rw [hpr]; exact h.map.fr hf (hB _ (.inr (.inl rfl))),h.tbl.fr hf (hB _ (.inr (.inr (.inl rfl)))) (hB _ (.inr (.inr (.inr rfl)))),h.n1,h.pos,?_,?_,?_,?_,h.sr,by show (zAf c.G p d').length≤20; unfold zAf; rw [List.length_map]; exact h.len⟩
 ·intro x hx1
  obtain ⟨y,hy,rfl⟩:=List.mem_map.1 hx1;by_cases e:y.1=p
  ·rw [if_pos e]; exact hd
  ·rw [if_neg e]; exact (h.grp y hy).fr hf (hne y hy e)
 ·intro x hx1
  obtain ⟨y,hy,rfl⟩:=List.mem_map.1 hx1;by_cases e:y.1=p
  ·rw [if_pos e]; exact hi
  ·rw [if_neg e]; exact ⟨(h.inv y hy).1.mono hN,(h.inv y hy).2⟩
 ·intro x hx1 i hi hb
  obtain ⟨y,hy,rfl⟩:=List.mem_map.1 hx1;by_cases e:y.1=p
  ·rw [if_pos e] at hi
   rcases hT i hi with h1 | h1
   ·exact hB i hb h1
   ·have:=(lowB i hb).2; omega
  ·rw [if_neg e] at hi; exact h.off y hy i hi hb
 ·show (zAf c.G p d').Pairwise _
  unfold zAf;refine List.Pairwise.map _ ?_ (List.Pairwise.imp_of_mem ?_ (h.dis.and (List.pairwise_map.1 hkeys))) (R:=fun x y=>(∀i,x.2.T i→¬y.2.T i)∧x.1≠y.1∧x∈c.G∧y∈c.G)
  ·rintro x y ⟨h1,h2,hx1,hy1⟩ i hi hyi
   by_cases e1:x.1=p
   ·by_cases e2:y.1=p
    ·exact h2 (e1.trans e2.symm)
    ·rw [if_pos e1] at hi; rw [if_neg e2] at hyi
     rcases hT i hi with h3 | h3
     ·exact hne y hy1 e2 i hyi h3
     ·have:=(lowT y hy1 i hyi).2; omega
   ·rw [if_neg e1] at hi
    by_cases e2:y.1=p
    ·rw [if_pos e2] at hyi
     rcases hT i hyi with h3 | h3
     ·exact hne x hx1 e1 i hi h3
     ·have:=(lowT x hx1 i hi).2; omega
    ·rw [if_neg e2] at hyi; exact h1 i hi hyi
  ·intro x y hx1 hy1 ⟨h1,h2⟩
   exact ⟨h1,h2,hx1,hy1⟩
def zHt (G:List (ByteArray × zj)) (k:ByteArray) (d:zj):List (ByteArray × zj):=(k,d)::G.filter fun x=>x.1≠k
theorem zYb (G:List (ByteArray × zj)) (k:ByteArray) (d:zj):jl (zHt G k d)=jb (jl G) k (vr d):=by
 unfold jl jb zHt;rw [List.map_cons,List.filter_map];rfl
theorem xd.put {c:zO} {N M:Nat} (h:xd w c N) {p:ByteArray} {d':zj} (hd:zu w' d') (hT:∀i,d'.T i→(∃d,(p,d)∈c.G∧d.T i)∨w.heap.size≤i) (hf:Fr (fun i=>i=c.gm∨∃d,(p,d)∈c.G∧d.T i) w w') (hm:xT jF w' c.gm (jb (jl c.G) p (vr d'))) (hN:N≤M) (hi:yL d'.F M∧GQ d'.F∧d'.F.se=c.se∧d'.F.re=c.re) (hl:(zHt c.G p d').length≤20):xd w' { c with G:=zHt c.G p d' } M:=by
 obtain ⟨lowB,lowT⟩:=h.low;have hB:∀i,c.B i→i≠c.gm→¬(i=c.gm∨∃d,(p,d)∈c.G∧d.T i):=fun i hi hg e=>e.elim hg fun ⟨d,hm,hd⟩=>h.off _ hm i hd hi
 refine ⟨(hf.block _ (zA h.b) (hB _ (.inl rfl) h.n1.1)).trans h.b,by rw [zYb]; exact hm,h.tbl.fr hf (hB _ (.inr (.inr (.inl rfl))) h.n1.2.2.2.1.symm) (hB _ (.inr (.inr (.inr rfl))) h.n1.2.2.2.2.symm),h.n1,h.pos,?_,?_,?_,?_,h.sr,hl⟩
 ·intro x hx
  rcases List.mem_cons.1 hx with rfl | hx
  ·exact hd
  ·obtain ⟨hx,hp⟩:=List.mem_filter.1 hx
   have hp:x.1≠p:=by simpa using hp
   exact (h.grp x hx).fr hf fun i hi e=>e.elim (fun e=>h.off x hx i hi (.inr (.inl e))) fun ⟨d,hm,hd⟩=>h.apart hm x hx hp i hi hd
 ·intro x hx
  rcases List.mem_cons.1 hx with rfl | hx
  ·exact hi
  ·have hx:=(List.mem_filter.1 hx).1
   exact ⟨(h.inv x hx).1.mono hN,(h.inv x hx).2⟩
 ·intro x hx i hi hb
  rcases List.mem_cons.1 hx with rfl | hx
  ·rcases hT i hi with ⟨d,hm,hd⟩ | h1
   ·exact h.off _ hm i hd hb
   ·have:=(lowB i hb).2; omega
  ·exact h.off x (List.mem_filter.1 hx).1 i hi hb
 ·refine List.Pairwise.cons ?_ (h.dis.sublist List.filter_sublist)
  intro y hy i hi hyi;obtain ⟨hy,hp⟩:=List.mem_filter.1 hy;have hp:y.1≠p:=by simpa using hp
  rcases hT i hi with ⟨d,hm,hd⟩ | h1
  ·exact h.apart hm y hy hp i hyi hd
  ·have:=(lowT y hy i hyi).2; omega
theorem zeroGP (w:World):(zeroValue 131).run Tryz.prog w=.ok (.pointer none) w:=by kernel_rfl
theorem xd.look {c:zO} {N:Nat} (h:xd w c N) {k:ByteArray} (hk:k.size≤maxLen):(Instr.lookup 137 (.map (some c.gm)) (.string k) true).run Tryz.prog w=.ok (.tuple #[zDf (yD c.G k),.bool (yD c.G k).isSome]) w:=by
 have:=h.map.look vz Tryz.underlying137 (zeroGP w) hk
 rw [grows_at] at this;cases hf:yD c.G k with
 | none=>rw [hf] at this; exact this
 | some d=>rw [hf] at this; exact this
theorem kP {c:zO} {N:Nat} (h:xd w c N) (k:ByteArray) (hk:k.size≤maxLen):Calls Tryz.prog 141 #[.pointer (some ⟨c.cb,0,none⟩),.string k] w fun e w'=>e=.returned (.tuple #[zDf (yD c.G k),.int .i64 (if (yD c.G k).isSome then 0 else 11)])∧Fr (fun _=>False) w w':=by
 have hlk:=h.look hk;have dd:=fun j=>zB h.b j
 clear h hk;cases hf:yD c.G k with
 | none=>
  rw [hf] at hlk;dsimp only [zDf] at hlk ⊢;clear hf;go_enter Tryz.func141,Tryz.ntmps141
  go_wp2_with fail
  go_ret2
  exact ⟨rfl,Fr.same _⟩
 | some d=>
  rw [hf] at hlk;dsimp only [zDf,vr] at hlk ⊢;clear hf;go_enter Tryz.func141,Tryz.ntmps141
  go_wp2_with fail
  go_ret2
  exact ⟨rfl,Fr.same _⟩
def zDg (d d':zj) (w w':World):Prop:=zu w' d'∧d'.gb=d.gb∧(∀i,d'.T i→d.T i∨w.heap.size≤i)∧Fr d.T w w'
theorem W_T (d:zj):∀i,d.W i→d.T i:=fun i h=>h.elim .inl fun h=>.inr (.inl h)
theorem zDg.same {d:zj} (h:zu w d) (hf:Fr (fun _=>False) w w'):zDg d d w w':=⟨h.old hf,rfl,fun i h=>.inl h,hf.mono fun _ h=>h.elim⟩
theorem zDg.mk' {d:zj} {F:zf} {v:Value} {K':Nat→Prop} (h:zu w' ⟨d.gb,F,v,K'⟩) (hv:∀i,v.ownBlock=some i→d.v.ownBlock=some i∨w.heap.size≤i) (hK:∀i,K' i→d.K i∨w.heap.size≤i) (hf:Fr d.W w w'):zDg d ⟨d.gb,F,v,K'⟩ w w':=
 ⟨h,rfl,fun i hi=>by
  rcases hi with hi | hi | hi
  ·exact .inl (.inl hi)
  ·exact (hv i hi).imp (fun h=>.inr (.inl h)) id
  ·exact (hK i hi).imp (fun h=>.inr (.inr h)) id,hf.mono fun i hi=>.inl (W_T d i hi)⟩
def zUe (f:zf) (m gen now:Int) (er:Int) (f':zf):Prop:=
 (¬jY now∧er=1∧f'=f)∨(jY now∧xj m gen f≠0∧er=xj m gen f∧f'=f)∨(jY now∧xj m gen f=0∧(er=if f.ph=3 then 0 else 13)∧f'=yT m now f)
theorem zYc {d:zj} (h:zu w d) {m gen now:Int} {e:Ending} (hb:zOe d m gen now w e w'):∃(er:Int) (d':zj),e=.returned (.int .i64 er)∧zDg d d' w w'∧zUe d.F m gen now er d'.F:=by
 rcases hb with ⟨hn,rfl,hf⟩ | ⟨hn,hk,rfl,hf⟩ | ⟨hn,hk,rfl,hg,hf⟩
 ·exact ⟨_,d,rfl,zDg.same h hf,.inl ⟨hn,rfl,rfl⟩⟩
 ·exact ⟨_,d,rfl,zDg.same h hf,.inr (.inl ⟨hn,hk,rfl,rfl⟩)⟩
 ·exact ⟨_,_,rfl,zDg.mk' hg (fun i h=>.inl h) (fun i h=>.inl h) hf,.inr (.inr ⟨hn,hk,rfl,rfl⟩)⟩
def zLx (f:zf) (m now:Int) (er:Int) (f':zf):Prop:=
 (¬jY now∧er=1∧f'=f)∨(jY now∧(∀z∈f.zs,z.m.id≠m)∧er=11∧f'=f)∨(jY now∧(∃z∈f.zs,z.m.id=m)∧er=0∧f'=uz now (fun z=>z.m.id == m) f)
theorem zRu {d:zj} (h:zu w d) {m now:Int} {e:Ending} (hb:zJy d m now w e w'):∃(er:Int) (d':zj),e=.returned (.int .i64 er)∧zDg d d' w w'∧zLx d.F m now er d'.F:=by
 rcases hb with ⟨hn,rfl,hf⟩ | ⟨hn,hk,rfl,hf⟩ | ⟨hn,hk,rfl,v,hv,hg,hf⟩
 ·exact ⟨_,d,rfl,zDg.same h hf,.inl ⟨hn,rfl,rfl⟩⟩
 ·exact ⟨_,d,rfl,zDg.same h hf,.inr (.inl ⟨hn,hk,rfl,rfl⟩)⟩
 ·exact ⟨_,_,rfl,zDg.mk' hg (fun i h=>.inl (by rw [←hv]; exact h)) (fun i h=>.inl h) hf,.inr (.inr ⟨hn,hk,rfl,rfl⟩)⟩
theorem beat_inv {f f':zf} {N:Nat} {m gen now er:Int} (h:yL f N) (hq:GQ f) (hr:zUe f m gen now er f'):yL f' N∧GQ f'∧f'.se=f.se∧f'.re=f.re:=by
 rcases hr with ⟨-,-,rfl⟩ | ⟨-,-,-,rfl⟩ | ⟨-,-,-,rfl⟩
 ·exact ⟨h,hq,rfl,rfl⟩
 ·exact ⟨h,hq,rfl,rfl⟩
 ·exact ⟨h.touch m now,hq.touch m now,rfl,rfl⟩
theorem zYd {f f':zf} {N:Nat} {m now er:Int} (h:yL f N) (hq:GQ f) (hr:zLx f m now er f'):yL f' (N+1)∧GQ f'∧f'.se=f.se∧f'.re=f.re:=by
 rcases hr with ⟨-,-,rfl⟩ | ⟨-,-,-,rfl⟩ | ⟨hn,-,-,rfl⟩
 ·exact ⟨h.mono (Nat.le_succ N),hq,rfl,rfl⟩
 ·exact ⟨h.mono (Nat.le_succ N),hq,rfl,rfl⟩
 ·exact ⟨h.drop hn _,hq.drop now _,(zOs now _ f).1,(zOs now _ f).2⟩
end
end Go.Proofs.YtfdhofabgdkkkaaGreatDoor
