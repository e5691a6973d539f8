/- A part of the proof that what the machine is told keeps its bounds. -/
import Derived.Test.YtfdhofabgdkkkaaGreatDoorJ30
import Derived.Test.YtfdhofabgdkkkaaGreatDoorJ4
set_option maxHeartbeats 128000000
set_option maxRecDepth 100000
namespace Go.Proofs.YtfdhofabgdkkkaaGreatDoor
open Lib renaming hid→zz
open Go.RowKit Go.Fm Go.BigFrame Go.Shelf Go.Maps
set_option linter.unusedVariables false
set_option linter.unusedSimpArgs false
section
variable {w w':World} {S K:Nat→Prop}
def zOm (m:Nat):List Value:=[.int .i64 m]
theorem zRn (m:Nat):(zOm m).length=1:=rfl
def zOn (t:ByteArray) (s:yM):Bool:=decide (t.data∈s.tl.map (·.data))
def jj (t:ByteArray) (subs:List yM) (k:Nat):List Nat:=(List.range k).filter fun i=>((subs[i]?).map (zOn t)).getD false
theorem zKf {t:ByteArray} {subs:List yM} {k:Nat} {z:yM} (hz:subs[k]?=some z):jj t subs (k+1)=jj t subs k++if zOn t z=true then [k] else []:=by
 unfold jj;rw [List.range_succ,List.filter_append];congr 1
 simp [hz,List.filter_cons]
theorem zHk (t:ByteArray) (subs:List yM) (k:Nat):(jj t subs k).length≤k:=by
 have:=List.length_filter_le (fun i=>((subs[i]?).map (zOn t)).getD false) (List.range k)
 rw [List.length_range] at this;exact this
theorem zTt {t:ByteArray} {subs:List yM} {k m:Nat} (h:m∈jj t subs k):m < k:=List.mem_range.1 (List.mem_filter.1 h).1
theorem zXn (t:ByteArray) (subs:List yM) (k:Nat):(jj t subs k).Pairwise (· < ·):=List.Pairwise.filter _ List.pairwise_lt_range
def TakPost (t:ByteArray) (subs:List yM) (w:World) (e:Ending) (w':World):Prop:=∃v,e=.returned v∧w'.ownsRow w.heap.size 3 1 v (jj t subs subs.length).length ((jj t subs subs.length).flatMap zOm)∧Fr (fun _=>False) w w'
theorem zEx {db:Nat} {shv:Value} (subs:List yM) (sv:Value) (t:ByteArray) (w:World) (hb:w.heap[db]?=some (.cells #[sv,shv] 399 (0,0))) (hs:kY w sv subs) (hk:zLq K w subs) (hkl:∀z∈subs,z.tl.length≤1000) (hl:subs.length≤1000):
  Calls Tryz.prog 293 #[.pointer (some ⟨db,0,none⟩),.string t] w (TakPost t subs w):=by
 obtain ⟨oa,cap,rfl,-⟩:=id hs;have H:=zz hs;have KT:=zz hk;have KL:=zz hkl;have dx:=zB hb 0;clear hs hb hk hkl;go_enter Tryz.func293,Tryz.ntmps293
 go_wp2_with fail
 go_loopw [5,13] (fun v i wr=>∃k:Nat,i=.int .i64 k∧k≤subs.length∧wr.ownsRow w.heap.size 3 1 v (jj t subs k).length ((jj t subs k).flatMap zOm)∧Fr (fun _=>False) w wr) (fun _ i _=>subs.length - (intOf i).toNat)
 case atStart=>exact ⟨0,rfl,Nat.zero_le _,World.ownsRow_nil _ _ _ _,Fr.same _⟩
 case round=>
  obtain ⟨k,rfl,hk,ho,hf⟩:=hrel;have FF:=zz hf;have OW:=zz ho;obtain ⟨o5,c5,hv5,-,-⟩:=ze ho;subst hv5;clear ho hf;rcases Nat.lt_or_ge k subs.length with hlt | hge
  ·obtain ⟨z,hz⟩:=zH hlt
   obtain ⟨oa',cap',hsl,hat⟩:=H.out.old FF.out;injection hsl with e1 _ e3
   subst e1 e3;obtain ⟨g,rfl,c0,c1⟩:=hat k z hz;have fa:=(Fr.same wr).alloc (.cells #[.int .i64 z.id,.slice z.ta z.tn z.tc] 314);have ca:=zD wr #[.int .i64 z.id,.slice z.ta z.tn z.tc] 314 1;have SC:=zz (zXk z.tl (.slice z.ta z.tn z.tc) t ((KT.out z (List.mem_of_getElem? hz)).old (FF.out.tr fa)) (KL.out z (List.mem_of_getElem? hz)));have FA:=zz fa;have HZ:=zz hz;clear hz hat fa;go_wp2_with fail
   refine SC.out.mono ?_;rintro e w4 ⟨⟨c,rfl,h1,h2⟩,f4⟩;have F4:=zz ((FF.out.tr FA.out).tr f4);have OX:=zz (zl OW.out fun j hj=>(FA.out.tr f4).block j (zK OW.out hj).2 fun h=>h);have ec:zOn t z=c:=by
    unfold zOn;cases c with
    | true=>exact decide_eq_true (List.mem_map_of_mem (h1 rfl))
    | false=>
     refine decide_eq_false fun h=>?_
     obtain ⟨x,hx,e⟩:=List.mem_map.1 h;obtain rfl:x=t:=ByteArray.ext e;exact h2 rfl hx
   have EC:=zz ec;clear h1 h2 f4 SC c0 c1 ca ec;cases c with
   | true=>
    have fb:=(Fr.same w4).alloc (.cells #[.int .i64 k] 3);have hcb:=fun j=>zD w4 #[.int .i64 k] 3 j
    have OB:=zz (zl OX.out fun j hj=>fb.block j (zK OX.out hj).2 fun h=>h);have FB:=zz (F4.out.tr fb);have HCB:=zz hcb;have HTL:=zz (zHk t subs k);clear fb hcb;go_wp2_with (at_builtin; refine yI zOm 1 zRn (by decide) 47 3 _ 8 info3 rfl (by decide) Tryz.underlying47 _ rfl (.tmp 22) (.tmp 24) rfl w.heap.size (.slice o5 (jj t subs k).length c5) (jj t subs k) rfl OB.out w4.heap.size 1 rfl k HCB.out ?c1 ?c2 ?c3 ?_)
    case c1=>intro u hu; simp only [zOm,List.mem_cons,List.not_mem_nil,or_false] at hu; subst hu; rfl
    case c2=>have:=HTL.out; omega
    case c3=>exact FB.out.size
    rintro v' w2 ⟨ho,hg,hb⟩;have eL:jj t subs k++ [k]=jj t subs (k+1):=by rw [zKf HZ.out,EC.out]; rfl
    rw [eL] at ho;have O3:=zz ho;have F3:=zz (FB.out.grown hg fun j hj=>.inr (zK OB.out hj).1);clear ho hg hb eL;go_wp2_with fail
    go_roundw
    case rel=>exact ⟨k+1,by go_num,by omega,O3.out,F3.out⟩
    case measure=>simp [intOf]; omega
   | false=>
    go_wp2_with fail
    go_roundw
    case rel=>
     have eL:jj t subs k=jj t subs (k+1):=by rw [zKf HZ.out,EC.out]; simp
     exact ⟨k+1,by go_num,by omega,by rw [←eL]; exact OX.out,F4.out⟩
    case measure=>simp [intOf]; omega
  ·obtain rfl:k=subs.length:=by omega
   go_wp2_with fail
   go_ret
   exact ⟨_,rfl,OW.out,FF.out⟩
abbrev yC:=List (List (ByteArray × Int))
def zTu (m:Nat) (p:ByteArray × Int) (D:yC):yC:=D.set m ((D[m]?.getD [])++ [p])
def zKg (m:Nat) (t:ByteArray):Nat→Nat→yC→yC
 | _,0,D=>D
 | next,c+1,D=>zKg m t (next+1) c (zTu m (t,(next:Int)) D)
def zDa (parts n k:Nat):Nat:=(parts+n - 1 - k) / n
def vW (t:ByteArray) (parts n:Nat):List Nat→Nat→Nat→yC→yC
 | [],_,_,D=>D
 | m::l,k,next,D=>vW t parts n l (k+1) (next+zDa parts n k) (zKg m t next (zDa parts n k) D)
def ya (subs:List yM):List (ByteArray × Int)→yC→yC
 | [],D=>D
 | p::tops,D=>ya subs tops (vW p.1 p.2.toNat (jj p.1 subs subs.length).length (jj p.1 subs subs.length) 0 0 D)
def zTv (l:List Nat) (last:Int):Nat:=l[(l.countP fun (x:Nat)=>decide ((x:Int) < last+1)) % l.length]?.getD 0
def vX (t:ByteArray) (l:List Nat):Nat→Nat→Int→yC→Int × yC
 | _,0,last,D=>(last,D)
 | p,c+1,last,D=>vX t l (p+1) c (zTv l last:Nat) (zTu (zTv l last) (t,(p:Int)) D)
def yj (subs:List yM):List (ByteArray × Int)→Int→yC→yC
 | [],_,D=>D
 | p::tops,last,D=>if jj p.1 subs subs.length=[] then yj subs tops last D else yj subs tops (vX p.1 (jj p.1 subs subs.length) 0 p.2.toNat last D).1 (vX p.1 (jj p.1 subs subs.length) 0 p.2.toNat last D).2
def ym (L:List ShZ):yC:=L.map (·.pl)
theorem zTw {L:List ShZ} {m:Nat} {z:ShZ} (hz:L[m]?=some z) (p:ByteArray × Int) (pv:Value):ym (L.set m ⟨z.id,z.pl++ [p],pv⟩)=zTu m p (ym L):=by
 unfold ym zTu;rw [List.map_set,List.getElem?_map,hz];rfl
theorem ids_set {L:List ShZ} {m:Nat} {z:ShZ} (hz:L[m]?=some z) (pl:List (ByteArray × Int)) (pv:Value):(L.set m ⟨z.id,pl,pv⟩).map (·.id)=L.map (·.id):=by
 apply List.ext_getElem?
 intro i;rw [List.getElem?_map,List.getElem?_map,List.getElem?_set];by_cases e:m=i
 ·subst e
  rw [if_pos rfl,if_pos (List.getElem?_eq_some_iff.1 hz).1,hz];rfl
 ·rw [if_neg e]
def MaxL (L:List ShZ) (N:Nat):Prop:=∀(i:Nat) (z:ShZ),L[i]?=some z→z.pl.length≤N
theorem MaxL.give {L:List ShZ} {N m:Nat} {z:ShZ} (h:MaxL L N) (hz:L[m]?=some z) (p:ByteArray × Int) (pv:Value):MaxL (L.set m ⟨z.id,z.pl++ [p],pv⟩) (N+1):=fun i y hy=>by
 rcases uh (List.getElem?_eq_some_iff.1 hz).1 hy with ⟨rfl,rfl⟩ | ⟨hj,hy⟩
 ·have:=h _ _ hz
  simp only [List.length_append,List.length_cons,List.length_nil];omega
 ·have:=h _ _ hy
  omega
end
section
variable {w w':World} {S K:Nat→Prop}
def zKh (F:List yM→List (ByteArray × Int)→yC→yC) (subs:List yM) (tops:List (ByteArray × Int)) (w:World) (e:Ending) (w':World):Prop:=
 (¬zOf subs tops∧e=.returned (.tuple #[.slice none 0 0,.int .i64 1])∧Fr (fun _=>False) w w')
 ∨(zOf subs tops∧∃(db:Nat) (sv shv:Value) (L:List ShZ),e=.returned (.tuple #[shv,.int .i64 0])∧jB w' w.heap.size db sv shv L∧L.map (·.id)=subs.map (·.id)∧ym L=F subs tops (subs.map fun _=>[])∧MaxL L 1000∧Fr (fun _=>False) w w')
theorem jB.base {B B' db:Nat} {sv shv:Value} {L:List ShZ} (h:jB w B db sv shv L) (hb:B'≤B):jB w B' db sv shv L:=
 ⟨h.b,vp h.row hb,fun i z hz=>vp (h.ok i z hz) hb,Nat.le_trans hb h.lo,h.x1,h.x2,h.x3,h.ap,h.sz⟩
structure vq (w1:World) (db:Nat) (sv shv:Value) (subs:List yM) (N:Nat) (w:World) (L:List ShZ):Prop where
 d:jB w w1.heap.size db sv shv L
 ids:L.map (·.id)=subs.map (·.id)
 mx:MaxL L N
 f:Fr (fun _=>False) w1 w
theorem vq.old {w1:World} {db:Nat} {sv shv:Value} {subs:List yM} {N:Nat} {L:List ShZ} (h:vq w1 db sv shv subs N w L) (hf:Fr (fun _=>False) w w'):vq w1 db sv shv subs N w' L:=⟨h.d.old hf,h.ids,h.mx,h.f.tr hf⟩
theorem vq.more {w1:World} {db:Nat} {sv shv:Value} {subs:List yM} {N M:Nat} {L:List ShZ} (h:vq w1 db sv shv subs N w L) (hN:N≤M):vq w1 db sv shv subs M w L:=⟨h.d,h.ids,fun i z hz=>Nat.le_trans (h.mx i z hz) hN,h.f⟩
theorem vq.len {w1:World} {db:Nat} {sv shv:Value} {subs:List yM} {N:Nat} {L:List ShZ} (h:vq w1 db sv shv subs N w L):L.length=subs.length:=by
 have:=congrArg List.length h.ids
 simpa using this
structure zLs (w1:World) (db:Nat) (sv shv:Value) (subs:List yM) (xb:Nat) (t:ByteArray) (pn:Nat) (B4:Nat) (v:Value) (l:List Nat) (N:Nat) (w:World) (L:List ShZ):Prop where
 i:vq w1 db sv shv subs N w L
 x:w.heap[xb]?=some (.cells #[.string t,.int .i64 pn] 160 (0,0))
 o:w.ownsRow B4 3 1 v l.length (l.flatMap zOm)
 nx:¬shT shv L xb
 no:∀i,v.ownBlock=some i→¬shT shv L i
theorem zLs.give {w1:World} {db:Nat} {sv shv:Value} {subs:List yM} {xb:Nat} {t:ByteArray} {pn B4:Nat} {v:Value} {l:List Nat} {N:Nat} {L:List ShZ} (h:zLs w1 db sv shv subs xb t pn B4 v l N w L) {m:Nat} {z:ShZ} (hz:L[m]?=some z) {p:ByteArray × Int} {pv:Value}
  (hd:jB w' w1.heap.size db sv shv (L.set m ⟨z.id,z.pl++ [p],pv⟩)) (hT:∀i,shT shv (L.set m ⟨z.id,z.pl++ [p],pv⟩) i→shT shv L i∨w.heap.size≤i) (hf:Fr (shT shv L) w w'):
  zLs w1 db sv shv subs xb t pn B4 v l (N+1) w' (L.set m ⟨z.id,z.pl++ [p],pv⟩):=
 ⟨⟨hd,(ids_set hz _ _).trans h.i.ids,h.i.mx.give hz _ _,h.i.f.trans hf fun i hi=>.inr (h.i.d.T hi).1⟩,(hf.block xb (zA h.x) h.nx).trans h.x,zl h.o fun k hk=>hf.block k (zK h.o hk).2 (h.no k hk),
  fun e=>(hT xb e).elim h.nx fun e=>by have:=zA h.x; omega,fun i hi e=>(hT i e).elim (h.no i hi) fun e=>by have:=(zK h.o hi).2; omega⟩
theorem cnt_int {p n k:Nat} (hp:1≤p) (hk:k < n):((p:Int)+(n:Int) - 1 - (k:Int)) / (n:Int)=((zDa p n k:Nat):Int):=by
 unfold zDa;rw [show ((p:Int)+(n:Int) - 1 - (k:Int))=((p+n - 1 - k:Nat):Int) by omega];rfl
theorem cnt_le {p n k:Nat} (hp:1≤p) (hn:0 < n):zDa p n k≤p:=by
 unfold zDa;refine Nat.div_le_of_le_mul ?_;obtain ⟨a,rfl⟩:∃a,p=a+1:=⟨p - 1,by omega⟩;obtain ⟨b,rfl⟩:∃b,n=b+1:=⟨n - 1,by omega⟩
 have:(b+1) * (a+1)=b * a+b+a+1:=by rw [Nat.mul_add,Nat.add_mul]; omega
 omega
theorem cnt_eq {p n k:Nat} (hk:k < n):zDa p n k=p / n+if k < p % n then 1 else 0:=by
 have h0:=Nat.div_add_mod p n;have h1:=Nat.mod_lt p (show 0 < n by omega);unfold zDa;rw [show p+n - 1 - k=n * (p / n)+(p % n+n - 1 - k) by omega,Nat.mul_add_div (by omega)];congr 1
 by_cases h:k < p % n
 ·rw [if_pos h]
  exact Nat.div_eq_of_lt_le (by omega) (by omega)
 ·rw [if_neg h]
  exact Nat.div_eq_of_lt (by omega)
theorem nxt_succ {p n k:Nat} (hk:k < n):p / n * k+min k (p % n)+zDa p n k=p / n * (k+1)+min (k+1) (p % n):=by
 rw [cnt_eq hk,Nat.mul_succ];split <;> omega
theorem nxt_le {p n k:Nat} (hk:k≤n):p / n * k+min k (p % n)≤p:=by
 have h0:=Nat.div_add_mod' p n;have h1:=Nat.mul_le_mul_left (p / n) hk;omega
theorem zXo {subs:List yM} {tops:List (ByteArray × Int)} {k:Nat} {t:ByteArray × Int} (ht:tops[k]?=some t) (D:yC):ya subs (tops.drop k) D=ya subs (tops.drop (k+1)) (vW t.1 t.2.toNat (jj t.1 subs subs.length).length (jj t.1 subs subs.length) 0 0 D):=by
 have:=(List.getElem?_eq_some_iff.1 ht)
 obtain ⟨hlt,he⟩:=this;rw [List.drop_eq_getElem_cons hlt,he];rfl
theorem zXp {l:List Nat} {k2 m:Nat} (hm:l[k2]?=some m) (t:ByteArray) (pn n next:Nat) (D:yC):vW t pn n (l.drop k2) k2 next D=vW t pn n (l.drop (k2+1)) (k2+1) (next+zDa pn n k2) (zKg m t next (zDa pn n k2) D):=by
 obtain ⟨hlt,he⟩:=List.getElem?_eq_some_iff.1 hm;rw [List.drop_eq_getElem_cons hlt,he];rfl
theorem zRo (subs:List yM) (tops:List (ByteArray × Int)) (sv tv:Value) (w:World) (hs:kY w sv subs) (ht:jq w tv tops) (hk:zLq K w subs) (hkl:∀z∈subs,z.tl.length≤1000) (h1:subs.length≤1000) (h2:tops.length≤1000) (htz:∀t∈tops,t.1.size≤150000000000000):
  Calls Tryz.prog 260 #[sv,tv] w (zKh ya subs tops w):=by
 have CK:=zz (vA subs tops sv tv hs ht hk hkl h1 h2);obtain ⟨oa,cap,rfl,-⟩:=id hs;obtain ⟨ob,cap2,rfl,-⟩:=id ht;have HS:=zz hs;have HT:=zz ht;have HK:=zz hk;have HKL:=zz hkl;have HTZ:=zz htz;clear hs ht hk hkl htz;go_enter Tryz.func260,Tryz.ntmps260
 go_wp2_with fail
 refine CK.out.mono ?_;rintro e w1 ⟨hcase,f1⟩;have F1:=zz f1;clear f1 CK;rcases hcase with ⟨rfl,hp⟩ | ⟨rfl,hp⟩
 case inr=>
  have HP:=zz hp;clear hp;go_wp2_with fail
  go_ret2
  exact .inl ⟨HP.out,rfl,F1.out⟩
 have BW:=zz (zHj subs (.slice oa subs.length cap) w1 (HS.out.old F1.out) h1);have HP:=zz hp;have hsl:=hp.sl;have htl:=hp.tl;clear hp;go_wp2_with fail
 refine BW.out.mono ?_;rintro e w2 ⟨db,shv,rfl,hd,f2⟩;obtain ⟨os,cs,hsv,-,-⟩:=ze hd.row;rw [List.length_map] at hsv;subst hsv;have I0:=zz (show vq w1 db (.slice oa subs.length cap) (.slice os subs.length cs) subs (16 * 0) w2 (subs.map zBc) from ⟨hd,by rw [List.map_map]; rfl,fun i z hz=>by
   rw [List.getElem?_map] at hz;obtain ⟨s,-,rfl⟩:=Option.map_eq_some_iff.1 hz;exact Nat.zero_le _,f2⟩)
 clear hd f2 BW;go_wp2_with fail
 go_loopw [25] (fun i wr=>∃(k:Nat) (L:List ShZ),i=.int .i64 k∧k≤tops.length∧vq w1 db (.slice oa subs.length cap) (.slice os subs.length cs) subs (16 * k) wr L∧ya subs (tops.drop k) (ym L)=ya subs tops (subs.map fun _=>[])) (fun i _=>tops.length - (intOf i).toNat)
 case atStart=>exact ⟨0,_,rfl,Nat.zero_le _,I0.out,by rw [List.drop_zero]; unfold ym; rw [List.map_map]; rfl⟩
 case round=>
  obtain ⟨k,L,rfl,hk,hi,hr⟩:=hrel;have I1:=zz hi;have R1:=zz hr;clear hi hr;rcases Nat.lt_or_ge k tops.length with hlt | hge
  ·obtain ⟨⟨tn,tp⟩,htk⟩:=zH hlt
   have htp:=HP.out.to _ (List.mem_of_getElem? htk);obtain ⟨pn,rfl⟩:∃pn:Nat,tp=pn:=⟨tp.toNat,by have:=htp.1; dsimp only at this; omega⟩;have hp1:1≤pn:=by have:=htp.1; dsimp only at this; omega
   have hp2:pn≤16:=by have:=htp.2; dsimp only at this; omega
   have TZ:=zz (HTZ.out _ (List.mem_of_getElem? htk));obtain ⟨ob',cap',hsl',hat⟩:=HT.out.old (F1.out.tr I1.out.f);injection hsl' with e1 _ e3
   subst e1 e3;obtain ⟨g,rfl,c0,c1⟩:=hat k _ htk;dsimp only at c0 c1;have fa:=(Fr.same wr).alloc (.cells #[.string tn,.int .i64 pn] 160);have xa:=zC wr (.cells #[.string tn,.int .i64 pn] 160);have ca:=zB xa 0;have IA:=zz (I1.out.old fa);have XA:=zz xa;have TW:=zz (zEx subs (.slice oa subs.length cap) tn _ IA.out.d.b (HS.out.old (F1.out.tr IA.out.f)) (K:=K) (fun z hz=>(HK.out z hz).old (F1.out.tr IA.out.f)) HKL.out h1);have HTK:=zz htk;have XL:=zz (show ∀i,shT (.slice os subs.length cs) L i→i < wr.heap.size from fun i h=>(I1.out.d.T h).2.1);clear htk hat htp fa xa;go_wp2_with fail
   refine TW.out.mono ?_;rintro e w4 ⟨v,rfl,ho,f4⟩;obtain ⟨ov,cv,hvv,-,-⟩:=ze ho;subst hvv;have hll:=zHk tn subs subs.length;have ML:=zz (fun m hm=>zTt (t:=tn) (subs:=subs) (k:=subs.length) (m:=m) hm);have RK:=zz ((zXo HTK.out (ym L)).symm.trans R1.out);dsimp only at RK;generalize jj tn subs subs.length=l at *;have M4:=zz (show zLs w1 db (.slice oa subs.length cap) (.slice os subs.length cs) subs wr.heap.size tn pn (wr.alloc (.cells #[.string tn,.int .i64 pn] 160)).heap.size (.slice ov l.length cv) l (16 * k+0) w4 L from
    ⟨IA.out.old f4,(f4.block _ (zA XA.out) fun h=>h).trans XA.out,ho,fun h=>by have:=XL.out _ h; omega,fun i hi h=>by have:=XL.out _ h; have:=(zK ho hi).1; simp at this; omega⟩)
   clear ho f4 TW c0 c1 ca;clear IA XA XL;generalize (wr.alloc (.cells #[.string tn,.int .i64 pn] 160)).heap.size=B4 at *;generalize wr.heap.size=xb at *;go_wp2_with fail
   go_loopw [11,35] (fun nx j wr2=>∃(k2 next:Nat) (L2:List ShZ),nx=.int .i64 next∧j=.int .i64 k2∧k2≤l.length∧next=pn / l.length * k2+min k2 (pn % l.length)∧zLs w1 db (.slice oa subs.length cap) (.slice os subs.length cs) subs xb tn pn B4 (.slice ov l.length cv) l (16 * k+next) wr2 L2∧ya subs (tops.drop (k+1)) (vW tn pn l.length (l.drop k2) k2 next (ym L2))=ya subs tops (subs.map fun _=>[])) (fun _ j _=>l.length - (intOf j).toNat)
   case atStart=>exact ⟨0,0,L,rfl,rfl,Nat.zero_le _,by simp,M4.out,RK.out⟩
   case round=>
    obtain ⟨k2,next,L2,rfl,rfl,hk2,hnx,hm,hr⟩:=hrel;have M2:=zz hm;have R2:=zz hr;have hnl:next≤16:=by have:=nxt_le (p:=pn) hk2; omega
    have HNX:=zz hnx;clear hm hr hnx;rcases Nat.lt_or_ge k2 l.length with hlt2 | hge2
    ·obtain ⟨m,hm2⟩:=zH hlt2
     have hms:=ML.out m (List.mem_of_getElem? hm2);obtain ⟨ov',cv',hsl2,hc2⟩:=xz M2.out.o;injection hsl2 with e1 _ e3
     subst e1 e3;obtain ⟨gv,rfl,-,-,hc2⟩:=hc2 (by omega);have cm:=hc2 k2 _ (by have:=(xB zOm 1 zRn hm2 (j:=0) (by omega)).trans (show _=some (Value.int .i64 m) from rfl); simpa using this);have cx:=fun j=>zB M2.out.x j
     have hq:=cnt_int (n:=l.length) hp1 hlt2;have hcl:=cnt_le (k:=k2) hp1 (show 0 < l.length by omega);have R3:=zz ((by rw [←zXp hm2]; exact R2.out:ya subs (tops.drop (k+1)) (vW tn pn l.length (l.drop (k2+1)) (k2+1) (next+zDa pn l.length k2) (zKg m tn next (zDa pn l.length k2) (ym L2)))=ya subs tops (subs.map fun _=>[])));have HSC:=zz (nxt_succ (p:=pn) hlt2);generalize zDa pn l.length k2=cnt at *;have HM2:=zz hm2;clear hc2 hm2 R2;go_wp2_with fail
     clear cm cx;go_loopw [11] (fun nx wr3=>∃(q:Nat) (L3:List ShZ),nx=.int .i64 ((next+q:Nat):Int)∧q≤cnt∧zLs w1 db (.slice oa subs.length cap) (.slice os subs.length cs) subs xb tn pn B4 (.slice (some ⟨gv,0,none⟩) l.length cv) l (16 * k+next+q) wr3 L3∧ya subs (tops.drop (k+1)) (vW tn pn l.length (l.drop (k2+1)) (k2+1) (next+cnt) (zKg m tn (next+q) (cnt - q) (ym L3)))=ya subs tops (subs.map fun _=>[])) (fun nx _=>next+cnt - (intOf nx).toNat)
     case atStart=>exact ⟨0,L2,rfl,Nat.zero_le _,M2.out,R3.out⟩
     case round=>
      obtain ⟨q,L3,rfl,hq2,hm,hr⟩:=hrel;have M3:=zz hm;have R4:=zz hr;clear hm hr;rcases Nat.lt_or_ge q cnt with hlt3 | hge3
      ·obtain ⟨z,hz⟩:=zH (l:=L3) (k:=m) (by rw [M3.out.i.len]; exact hms)
       have cx:=zB M3.out.x 0;have GW:=zz (zKe M3.out.i.d hz (by have:=M3.out.i.mx m z hz; omega) (by rw [M3.out.i.len]; exact h1) tn TZ.out ((next+q:Nat):Int));have HZ:=zz hz;clear hz;go_wp2_with fail
       refine GW.out.mono ?_;rintro e w6 ⟨rfl,pv,hd6,hT6,f6⟩;have M6:=zz (M3.out.give HZ.out hd6 hT6 f6);have R6:=R4.out;rw [show cnt - q=(cnt - (q+1))+1 by omega] at R6;have R7:=zz (show ya subs (tops.drop (k+1)) (vW tn pn l.length (l.drop (k2+1)) (k2+1) (next+cnt) (zKg m tn (next+(q+1)) (cnt - (q+1)) (ym (L3.set m ⟨z.id,z.pl++ [(tn,((next+q:Nat):Int))],pv⟩))))=ya subs tops (subs.map fun _=>[]) from by rw [zTw HZ.out]; exact R6);clear hd6 hT6 f6 GW cx R6;go_wp2_with fail
       go_roundw
       case rel=>exact ⟨q+1,_,by go_num,by omega,M6.out,R7.out⟩
       case measure=>simp [intOf]; omega
      ·obtain rfl:q=cnt:=by omega
       have R8:=zz (show ya subs (tops.drop (k+1)) (vW tn pn l.length (l.drop (k2+1)) (k2+1) (next+q) (ym L3))=ya subs tops (subs.map fun _=>[]) from by have:=R4.out; rw [Nat.sub_self] at this; exact this);go_wp2_with fail
       go_roundw
       case rel=>exact ⟨k2+1,next+q,L3,rfl,by go_num,by omega,by rw [←HSC.out,←HNX.out],by rw [←Nat.add_assoc]; exact M3.out,R8.out⟩
       case measure=>simp [intOf]; omega
    ·obtain rfl:k2=l.length:=by omega
     have R3:=zz (show ya subs (tops.drop (k+1)) (ym L2)=ya subs tops (subs.map fun _=>[]) from by have:=R2.out; rw [List.drop_length] at this; exact this);go_wp2_with fail
     go_roundw
     case rel=>exact ⟨k+1,L2,by go_num,by omega,M2.out.i.more (by omega),R3.out⟩
     case measure=>simp [intOf]; omega
  ·obtain rfl:k=tops.length:=by omega
   have dx:=(zB I1.out.d.b 1).trans (show _=some (Value.slice os subs.length cs) from rfl);go_wp2_with fail
   go_ret2
   refine .inr ⟨HP.out,db,_,_,L,rfl,I1.out.d.base F1.out.size,I1.out.ids,?_,fun i z hz=>Nat.le_trans (I1.out.mx i z hz) (by omega),F1.out.tr I1.out.f⟩
   have:=R1.out
   rw [List.drop_length] at this;exact this
end
section
variable {w w':World} {S K:Nat→Prop}
theorem fr_drewN (w:World) (q:Nat):Fr (fun _=>False) w (w.drewN q):=(Fr.same w).drewN q
theorem zXq {subs:List yM} {tops:List (ByteArray × Int)} {k:Nat} {t:ByteArray × Int} (ht:tops[k]?=some t) (hl:jj t.1 subs subs.length=[]) (last:Int) (D:yC):yj subs (tops.drop k) last D=yj subs (tops.drop (k+1)) last D:=by
 obtain ⟨hlt,he⟩:=List.getElem?_eq_some_iff.1 ht;rw [List.drop_eq_getElem_cons hlt,he,yj,if_pos hl]
theorem zXr {subs:List yM} {tops:List (ByteArray × Int)} {k:Nat} {t:ByteArray × Int} (ht:tops[k]?=some t) (hl:jj t.1 subs subs.length≠[]) (last:Int) (D:yC):yj subs (tops.drop k) last D=yj subs (tops.drop (k+1)) (vX t.1 (jj t.1 subs subs.length) 0 t.2.toNat last D).1 (vX t.1 (jj t.1 subs subs.length) 0 t.2.toNat last D).2:=by
 obtain ⟨hlt,he⟩:=List.getElem?_eq_some_iff.1 ht;rw [List.drop_eq_getElem_cons hlt,he,yj,if_neg hl]
theorem zRp (subs:List yM) (tops:List (ByteArray × Int)) (sv tv:Value) (w:World) (hs:kY w sv subs) (ht:jq w tv tops) (hk:zLq K w subs) (hkl:∀z∈subs,z.tl.length≤1000) (h1:subs.length≤1000) (h2:tops.length≤1000) (htz:∀t∈tops,t.1.size≤150000000000000):
  Calls Tryz.prog 261 #[sv,tv] w (zKh (fun subs tops D=>yj subs tops (-1) D) subs tops w):=by
 have CK:=zz (vA subs tops sv tv hs ht hk hkl h1 h2);obtain ⟨oa,cap,rfl,-⟩:=id hs;obtain ⟨ob,cap2,rfl,-⟩:=id ht;have HS:=zz hs;have HT:=zz ht;have HK:=zz hk;have HKL:=zz hkl;have HTZ:=zz htz;clear hs ht hk hkl htz;go_enter Tryz.func261,Tryz.ntmps261
 go_wp2_with fail
 refine CK.out.mono ?_;rintro e w1 ⟨hcase,f1⟩;have F1:=zz f1;clear f1 CK;rcases hcase with ⟨rfl,hp⟩ | ⟨rfl,hp⟩
 case inr=>
  have HP:=zz hp;clear hp;go_wp2_with fail
  go_ret2
  exact .inl ⟨HP.out,rfl,F1.out⟩
 have BW:=zz (zHj subs (.slice oa subs.length cap) w1 (HS.out.old F1.out) h1);have HP:=zz hp;have hsl:=hp.sl;have htl:=hp.tl;clear hp;go_wp2_with fail
 refine BW.out.mono ?_;rintro e w2 ⟨db,shv,rfl,hd,f2⟩;obtain ⟨os,cs,hsv,-,-⟩:=ze hd.row;rw [List.length_map] at hsv;subst hsv;have I0:=zz (show vq w1 db (.slice oa subs.length cap) (.slice os subs.length cs) subs (16 * 0) w2 (subs.map zBc) from ⟨hd,by rw [List.map_map]; rfl,fun i z hz=>by
   rw [List.getElem?_map] at hz;obtain ⟨s,-,rfl⟩:=Option.map_eq_some_iff.1 hz;exact Nat.zero_le _,f2⟩)
 clear hd f2 BW;go_wp2_with fail
 go_loopw [8,25] (fun x i wr=>∃(k:Nat) (last:Int) (L:List ShZ),x=.int .i64 last∧i=.int .i64 k∧k≤tops.length∧(-1≤last∧last≤1000)∧vq w1 db (.slice oa subs.length cap) (.slice os subs.length cs) subs (16 * k) wr L∧yj subs (tops.drop k) last (ym L)=yj subs tops (-1) (subs.map fun _=>[])) (fun _ i _=>tops.length - (intOf i).toNat)
 case atStart=>exact ⟨0,-1,_,rfl,rfl,Nat.zero_le _,by omega,I0.out,by rw [List.drop_zero]; unfold ym; rw [List.map_map]; rfl⟩
 case round=>
  obtain ⟨k,last,L,rfl,rfl,hk,hla,hi,hr⟩:=hrel;have I1:=zz hi;have R1:=zz hr;clear hi hr;rcases Nat.lt_or_ge k tops.length with hlt | hge
  ·obtain ⟨⟨tn,tp⟩,htk⟩:=zH hlt
   have htp:=HP.out.to _ (List.mem_of_getElem? htk);obtain ⟨pn,rfl⟩:∃pn:Nat,tp=pn:=⟨tp.toNat,by have:=htp.1; dsimp only at this; omega⟩;have hp1:1≤pn:=by have:=htp.1; dsimp only at this; omega
   have hp2:pn≤16:=by have:=htp.2; dsimp only at this; omega
   have TZ:=zz (HTZ.out _ (List.mem_of_getElem? htk));obtain ⟨ob',cap',hsl',hat⟩:=HT.out.old (F1.out.tr I1.out.f);injection hsl' with e1 _ e3
   subst e1 e3;obtain ⟨g,rfl,c0,c1⟩:=hat k _ htk;dsimp only at c0 c1;have fa:=(Fr.same wr).alloc (.cells #[.string tn,.int .i64 pn] 160);have xa:=zC wr (.cells #[.string tn,.int .i64 pn] 160);have ca:=zB xa 0;have IA:=zz (I1.out.old fa);have XA:=zz xa;have TW:=zz (zEx subs (.slice oa subs.length cap) tn _ IA.out.d.b (HS.out.old (F1.out.tr IA.out.f)) (K:=K) (fun z hz=>(HK.out z hz).old (F1.out.tr IA.out.f)) HKL.out h1);have HTK:=zz htk;have XL:=zz (show ∀i,shT (.slice os subs.length cs) L i→i < wr.heap.size from fun i h=>(I1.out.d.T h).2.1);clear htk hat htp fa xa;go_wp2_with fail
   refine TW.out.mono ?_;rintro e w4 ⟨v,rfl,ho,f4⟩;obtain ⟨ov,cv,hvv,-,-⟩:=ze ho;subst hvv;have hll:=zHk tn subs subs.length;have ML:=zz (fun m hm=>zTt (t:=tn) (subs:=subs) (k:=subs.length) (m:=m) hm);have RS:=zz (zXn tn subs subs.length);have RN:=zz (fun hl=>(zXq HTK.out hl last (ym L)).symm.trans R1.out);have RK:=zz (fun hl=>(zXr HTK.out hl last (ym L)).symm.trans R1.out);dsimp only at RK RN;generalize jj tn subs subs.length=l at *;have M4:=zz (show zLs w1 db (.slice oa subs.length cap) (.slice os subs.length cs) subs wr.heap.size tn pn (wr.alloc (.cells #[.string tn,.int .i64 pn] 160)).heap.size (.slice ov l.length cv) l (16 * k+0) w4 L from
    ⟨IA.out.old f4,(f4.block _ (zA XA.out) fun h=>h).trans XA.out,ho,fun h=>by have:=XL.out _ h; omega,fun i hi h=>by have:=XL.out _ h; have:=(zK ho hi).1; simp at this; omega⟩)
   clear ho f4 TW c0 c1 ca;clear IA XA XL;generalize (wr.alloc (.cells #[.string tn,.int .i64 pn] 160)).heap.size=B4 at *;generalize wr.heap.size=xb at *;by_cases hl0:l.length=0
   ·have hl1:((l.length:Int) == 0)=true:=by rw [hl0]; rfl
    have R3:=zz (RN.out (List.eq_nil_of_length_eq_zero hl0));clear hl0;go_wp2_with fail
    go_roundw
    case rel=>exact ⟨k+1,last,L,rfl,by go_num,by omega,hla,M4.out.i.more (by omega),R3.out⟩
    case measure=>simp [intOf]; omega
   ·have hl1:((l.length:Int) == 0)=false:=by rw [beq_eq_false_iff_ne]; omega
    have R3:=zz (RK.out (fun e=>hl0 (by rw [e]; rfl)));have hl9:0 < l.length:=by omega
    have cx:=zB M4.out.x 1;clear hl0;go_wp2_with fail
    clear cx;go_loopw [8,38] (fun x i wr2=>∃(p:Nat) (la:Int) (L2:List ShZ),x=.int .i64 la∧i=.int .i64 p∧p≤pn∧(-1≤la∧la≤1000)∧zLs w1 db (.slice oa subs.length cap) (.slice os subs.length cs) subs xb tn pn B4 (.slice ov l.length cv) l (16 * k+p) wr2 L2∧yj subs (tops.drop (k+1)) (vX tn l p (pn - p) la (ym L2)).1 (vX tn l p (pn - p) la (ym L2)).2=yj subs tops (-1) (subs.map fun _=>[])) (fun _ i _=>pn - (intOf i).toNat)
    case atStart=>exact ⟨0,last,L,rfl,rfl,Nat.zero_le _,hla,M4.out,R3.out⟩
    case round=>
     obtain ⟨p,la,L2,rfl,rfl,hp9,hla2,hm,hr⟩:=hrel;have M2:=zz hm;have R2:=zz hr;clear hm hr;rcases Nat.lt_or_ge p pn with hlt2 | hge2
     ·obtain ⟨ov',cv',hsl2,hc2⟩:=xz M2.out.o
      injection hsl2 with e1 _ e3
      subst e1 e3;obtain ⟨gv,rfl,-,-,hc2⟩:=hc2 hl9;have cint:∀(j m:Nat),l[j]?=some m→wr.cell? ⟨gv,j,none⟩=some (.int .i64 m):=fun j m hm2=>hc2 j _ (by have:=(xB zOm 1 zRn hm2 (j:=0) (by omega)).trans (show _=some (Value.int .i64 m) from rfl); simpa using this)
      have BS:=zz (Tryz.slices_BinarySearch_int gv 0 l.length cv (l.map fun (m:Nat)=>(m:Int)) (la+1) wr (by rw [List.length_map]; exact Nat.le_refl _) (by omega) (fun j hj=>by
        rw [List.length_map] at hj;rw [Nat.zero_add,cint j _ (List.getElem?_eq_getElem hj)];simp [List.getD_eq_getElem?_getD,List.getElem?_eq_getElem hj]) (by
        rw [List.take_of_length_le (by rw [List.length_map]; exact Nat.le_refl _),List.pairwise_map];exact RS.out.imp fun h=>by omega))
      have ec:((l.map fun (m:Nat)=>(m:Int)).take l.length).countP (fun x=>decide (x < la+1))=l.countP fun (x:Nat)=>decide ((x:Int) < la+1):=by
       rw [List.take_of_length_le (by rw [List.length_map]; exact Nat.le_refl _),List.countP_map];rfl
      rw [ec] at BS;have hcl:(l.countP fun (x:Nat)=>decide ((x:Int) < la+1))≤l.length:=List.countP_le_length;obtain ⟨r,hr⟩:∃r,r=(l.countP fun (x:Nat)=>decide ((x:Int) < la+1)) % l.length:=⟨_,rfl⟩;have hrl:r < l.length:=by rw [hr]; exact Nat.mod_lt _ hl9
      have hri:(((l.countP fun (x:Nat)=>decide ((x:Int) < la+1):Nat):Int)) % (l.length:Int)=(r:Int):=by rw [hr]; rfl
      obtain ⟨m,hm2⟩:=zH hrl;have NM:=zz (show zTv l la=m from by unfold zTv; rw [←hr,hm2]; rfl);have hms:=ML.out m (List.mem_of_getElem? hm2);have CI:=zz (cint r m hm2);generalize (l.countP fun (x:Nat)=>decide ((x:Int) < la+1))=cn at *;obtain ⟨z,hz⟩:=zH (l:=L2) (k:=m) (by rw [M2.out.i.len]; exact hms);have HZ:=zz hz;clear hc2 hm2 cint ec hr hz;go_wp2_with fail
      refine BS.out.mono ?_;rintro e w5 ⟨rfl,q5,hw5⟩;have f5:Fr (fun _=>False) wr w5:=by rw [hw5]; exact fr_drewN wr q5
      have M5:=zz (show zLs w1 db (.slice oa subs.length cap) (.slice os subs.length cs) subs xb tn pn B4 (.slice (some ⟨gv,0,none⟩) l.length cv) l (16 * k+p) w5 L2 from
       ⟨M2.out.i.old f5,(f5.block _ (zA M2.out.x) fun h=>h).trans M2.out.x,zl M2.out.o fun k hk=>f5.block k (zK M2.out.o hk).2 fun h=>h,M2.out.nx,M2.out.no⟩)
      have cm:=f5.cel CI.out;have cx:=zB M5.out.x 0;have GW:=zz (zKe M5.out.i.d HZ.out (by have:=M5.out.i.mx m z HZ.out; omega) (by rw [M5.out.i.len]; exact h1) tn TZ.out (p:Int));clear BS hw5 f5;go_wp2_with fail
      refine GW.out.mono ?_;rintro e w6 ⟨rfl,pv,hd6,hT6,f6⟩;have M6:=zz (M5.out.give HZ.out hd6 hT6 f6);have R6:=R2.out;rw [show pn - p=(pn - (p+1))+1 by omega] at R6;have R7:=zz (show yj subs (tops.drop (k+1)) (vX tn l (p+1) (pn - (p+1)) (m:Int) (ym (L2.set m ⟨z.id,z.pl++ [(tn,(p:Int))],pv⟩))).1 (vX tn l (p+1) (pn - (p+1)) (m:Int) (ym (L2.set m ⟨z.id,z.pl++ [(tn,(p:Int))],pv⟩))).2=yj subs tops (-1) (subs.map fun _=>[]) from by rw [zTw HZ.out]; rw [vX,NM.out] at R6; exact R6);clear hd6 hT6 f6 GW cx cm R6;go_wp2_with fail
      go_roundw
      case rel=>exact ⟨p+1,m,_,rfl,by go_num,by omega,by omega,M6.out,R7.out⟩
      case measure=>simp [intOf]; omega
     ·obtain rfl:p=pn:=by omega
      have R8:=zz (show yj subs (tops.drop (k+1)) la (ym L2)=yj subs tops (-1) (subs.map fun _=>[]) from by have:=R2.out; rw [Nat.sub_self] at this; exact this);go_wp2_with fail
      go_roundw
      case rel=>exact ⟨k+1,la,L2,rfl,by go_num,by omega,hla2,M2.out.i.more (by omega),R8.out⟩
      case measure=>simp [intOf]; omega
  ·obtain rfl:k=tops.length:=by omega
   have dx:=(zB I1.out.d.b 1).trans (show _=some (Value.slice os subs.length cs) from rfl);go_wp2_with fail
   go_ret2
   refine .inr ⟨HP.out,db,_,_,L,rfl,I1.out.d.base F1.out.size,I1.out.ids,?_,fun i z hz=>Nat.le_trans (I1.out.mx i z hz) (by omega),F1.out.tr I1.out.f⟩
   have:=R1.out
   rw [List.drop_length] at this;exact this
end
end Go.Proofs.YtfdhofabgdkkkaaGreatDoor
