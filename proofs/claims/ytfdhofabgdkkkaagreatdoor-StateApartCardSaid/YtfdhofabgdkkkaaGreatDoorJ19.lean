/- A part of the proof that what the machine is told keeps its bounds. -/
import Derived.Test.YtfdhofabgdkkkaaGreatDoorJ15
import Derived.Test.YtfdhofabgdkkkaaGreatDoorJ18
set_option maxHeartbeats 128000000
set_option maxRecDepth 100000
namespace Go.Proofs.YtfdhofabgdkkkaaGreatDoor
open Lib renaming hid→zz
open Go.RowKit Go.Fm Go.BigFrame
set_option linter.unusedVariables false
set_option linter.unusedSimpArgs false
theorem jw {α:Type} {p:Nat→α→Prop} :∀ {n:Nat},(∀i,i < n→∃x,p i x)→∃l:List α,l.length=n∧∀i x,l[i]?=some x→p i x
 | 0,_=>⟨[],rfl,fun i x h=>by simp at h⟩
 | n+1,h=>by
  obtain ⟨l,hl,hp⟩:=jw (n:=n) fun i hi=>h i (by omega)
  obtain ⟨x,hx⟩:=h n (by omega);refine ⟨l++ [x],by simp [hl],fun i y hy=>?_⟩;rcases Nat.lt_or_ge i n with h1 | h1
  ·rw [List.getElem?_append_left (by omega)] at hy
   exact hp i y hy
  ·rw [List.getElem?_append_right (by omega)] at hy
   have h2:=(List.getElem?_eq_some_iff.1 hy).1;simp at h2;have h3:i=n:=by omega
   subst h3;rw [hl,Nat.sub_self] at hy;simp at hy;subst hy;exact hx
theorem hds_none {K:Nat→Prop} {w:World} {n cap:Nat} {hs:List Hdr} (h:xi K w (.slice none n cap) hs):hs=[]∧n=0:=by
 obtain ⟨oa,cap',hv,h⟩:=h;injection hv with e1 e2 e3
 subst e1;cases hs with
 | nil=>exact ⟨rfl,by simpa using e2⟩
 | cons x l=>
  obtain ⟨a,ha,-⟩:=h 0 x rfl;cases ha
theorem zTi {K:Nat→Prop} (w:World) (n:Nat):xi K w (.slice none 0 n) []:=⟨none,n,rfl,fun k h hk=>by simp at hk⟩
theorem zNl {K:Nat→Prop} (w:World) (n:Nat):xE K w (.slice none 0 n) []:=⟨none,n,rfl,fun k h hk=>by simp at hk⟩
theorem zIp (hs:List Hdr):∀u∈hs.flatMap xY,u.oneCell'=true:=by
 intro u hu;obtain ⟨x,-,hx⟩:=List.mem_flatMap.1 hu;simp only [xY,List.mem_cons,List.not_mem_nil,or_false] at hx;rcases hx with rfl | rfl <;> rfl
def HdsPost (w:World) (hs:List Hdr) (e:Ending) (w':World):Prop:=∃v,e=.returned v∧xi (fun b=>w.heap.size≤b) w' v hs∧Fr (fun _=>False) w w'
theorem zNm (K:Nat→Prop) (hs:List Hdr) (v:Value) (w:World) (h:xi K w v hs) (hl:hs.length≤1000):
  Calls Tryz.prog 49 #[v] w (HdsPost w hs):=by
 obtain ⟨i,hi,hz,h1,h2⟩:=info_parts info55;have hh:=h;obtain ⟨oa,cap,rfl,-⟩:=hh;cases oa with
 | none=>
  obtain ⟨rfl,-⟩:=hds_none h;have hnil:∀w,(binOp .eql 93 (.slice none 0 cap) (.slice none 0 0)).run Tryz.prog w=.ok (.bool true) w:=fun w=>Lib.run_eql_slice_nil (P:=Tryz.prog) w 93 97 none 0 cap 0 0 Tryz.underlying93
  clear h;go_enter Tryz.func49,Tryz.ntmps49
  go_wp2_with fail
  go_ret
  exact ⟨_,rfl,zTi _ _,Fr.same _⟩
 | some a=>
  have hnil:∀w,(binOp .eql 93 (.slice (some a) hs.length cap) (.slice none 0 0)).run Tryz.prog w=.ok (.bool false) w:=fun w=>Lib.run_eql_slice_nil (P:=Tryz.prog) w 93 97 (some a) hs.length cap 0 0 Tryz.underlying93
  have H:=zz h;obtain ⟨-,hcells⟩:=zUq h;have HC:=zz hcells;have hown:(w.alloc (.cells #[] 97)).ownsRow w.heap.size 97 2 (.slice (some ⟨w.heap.size,0,none⟩) 0 0) 0 []:=
   ⟨rfl,.inr ⟨w.heap.size,0,#[],rfl,Nat.le_refl _,zC _ _,Nat.le_refl _,Nat.zero_le _,rfl,rfl⟩⟩
  have HO:=zz hown;have hf:=(Fr.same w).alloc (.cells #[] 97);have HF:=zz hf;clear h hcells hown hf;go_enter Tryz.func49,Tryz.ntmps49
  go_wp2_with (at_builtin; refine zP _ rfl (.tmp 5) (.tmp 6) 93 rfl w.heap.size 97 i _ 2 32 Tryz.underlying93 hi hz h1 h2 rfl (by decide) _ 0 [] rfl HO.out a hs.length cap (hs.flatMap xY) rfl (uI xY 2 zSv hs) ?c1 (zIp hs) ?c3 ?c4 HF.out.size ?_)
  case c1=>exact fun j u hj=>HF.out.cel (HC.out j u hj)
  case c3=>unfold maxLen; omega
  case c4=>omega
  intro v' w' ho hg hb;have hfr:Fr (fun _=>False) w w':=HF.out.grown hg fun k hk=>.inr (by simp [Value.ownBlock] at hk; omega)
  have hr:=zBq ho rfl;have HR:=zz hr;have HF2:=zz hfr;clear ho hg hb hfr hr;go_wp2_with fail
  go_ret
  exact ⟨_,rfl,HR.out.mono fun b hb _=>hb.1,HF2.out⟩
open Go.Shelf Go.Maps
section
variable {w w':World} {S:Nat→Prop}
theorem zJh {K K':Nat→Prop} {B:Nat} {v:Value} {rs:List Rec} (h:zv K B w v rs) (h2:∀k,K k→k < w.heap.size→K' k):zv K' B w v rs:=by
 obtain ⟨zs,e,h3,h4⟩:=h;exact ⟨zs,e,h3,fun z hz=>(h4 z hz).mono fun k hk hl=>⟨h2 k hk.1 hl,hk.2⟩⟩
theorem ownR_fr {K:Nat→Prop} {B:Nat} {v:Value} {rs:List Rec} (h:zv K B w v rs) (hf:Fr S w w') (h1:∀k,v.ownBlock=some k→¬S k) (h2:∀k,K k→¬S k):zv K B w' v rs:=by
 obtain ⟨zs,e,h3,h4⟩:=h;exact ⟨zs,e,zl h3 fun k hk=>hf.block k (zK h3 hk).2 (h1 k hk),fun z hz=>(h4 z hz).fr hf fun k hk=>h2 k hk.1⟩
def PickPost (w:World) (rs:List Rec) (e:Ending) (w':World):Prop:=∃v,e=.returned (.tuple #[v,.int .i64 0])∧xE (fun b=>w.heap.size≤b) w' v rs∧Fr (fun _=>False) w w'
end
section
variable {w w':World} {S:Nat→Prop}
def yF (at' cnt:Int):List Bat→Nat→List Bat→List Bat
 | [],_,acc=>acc
 | b::l,n,acc=>if b.base+b.span≤at' then yF at' cnt l n acc
  else if 0 < acc.length∧(min cnt 30000 < ((n+(ye b).size:Nat):Int)∨acc.length=100) then acc
  else yF at' cnt l (n+(ye b).size) (acc++ [b])
theorem zEt {a c:Int} {b:Bat} {l:List Bat} {n:Nat} {acc:List Bat} (h:b.base+b.span≤a):yF a c (b::l) n acc=yF a c l n acc:=by
 rw [yF,if_pos h]
theorem vK {a c:Int} {b:Bat} {l:List Bat} {n:Nat} {acc:List Bat} (h:¬b.base+b.span≤a) (h2:0 < acc.length∧(min c 30000 < ((n+(ye b).size:Nat):Int)∨acc.length=100)):yF a c (b::l) n acc=acc:=by
 rw [yF,if_neg h,if_pos h2]
theorem uM {a c:Int} {b:Bat} {l:List Bat} {n:Nat} {acc:List Bat} (h:¬b.base+b.span≤a) (h2:¬(0 < acc.length∧(min c 30000 < ((n+(ye b).size:Nat):Int)∨acc.length=100))):yF a c (b::l) n acc=yF a c l (n+(ye b).size) (acc++ [b]):=by
 rw [yF,if_neg h,if_neg h2]
theorem vk {K K':Nat→Prop} {B:Nat} {v:Value} {bs:List Bat} (h:za K B w v bs) (h2:∀k,K k→k < w.heap.size→K' k):za K' B w v bs:=by
 obtain ⟨zs,e,h3,h4⟩:=h;exact ⟨zs,e,h3,fun z hz=>(h4 z hz).mono fun k hk hl=>⟨h2 k hk.1 hl,hk.2⟩⟩
def mLe (m k:Nat):Prop:=m≤k * 60008
theorem mLe_same {m k:Nat} (h:mLe m k):mLe m (k+1):=Nat.le_trans h (Nat.mul_le_mul_right _ (Nat.le_succ k))
theorem zGu {m k t:Nat} (h:mLe m k) (ht:t≤60008):mLe (m+t) (k+1):=by unfold mLe at *; rw [Nat.add_mul,Nat.one_mul]; exact Nat.add_le_add h ht
theorem mLe_top {m k:Nat} (h:mLe m k) (hk:k≤100000):m≤6000800000:=Nat.le_trans h (Nat.le_trans (Nat.mul_le_mul_right _ hk) (by decide))
def zJi (w:World) (d:zR) (at' cnt:Int) (e:Ending) (w':World):Prop:=
 (¬(d.st≤at'∧at'≤d.en)∧e=.returned (xC 12 0)∧Fr (fun _=>False) w w')∨
 ((d.st≤at'∧at'≤d.en)∧∃bv,e=.returned (.agg (zS 0 0 d.st d.en 0 0 0 bv (.slice none 0 0) (.slice none 0 0)))∧uH (fun b=>w.heap.size≤b) w' bv (yF at' cnt d.bats 0 [])∧Fr (fun _=>False) w w')
section
variable {ops:Array Oper} {rest:List Oper} {o:Oper} {a:Act} {Q:Exit→Act→World→Prop}
theorem zzq (hgd:o.guard=none) (x y:Operand) (ho:o.op=.store 31 x y) (g:Nat) (e c st en:Int) (bv:Value) (h1:bv.oneCell'=true) (hx:a.eval x=.pointer (some ⟨g,0,none⟩)) (hy:a.eval y=.agg (zS e c st en 0 0 0 bv (.slice none 0 0) (.slice none 0 0)))
  (old:Array Value) (hg:w.heap[g]?=some (.cells old 31 (0,0))) (hold:old.size=10)
  (h:wpList Tryz.prog ops Q rest (a.put o.dst undef) (w.setRow g (zS e c st en 0 0 0 bv (.slice none 0 0) (.slice none 0 0)))):wpList Tryz.prog ops Q (o::rest) a w:=
 wpList_store_row hgd 31 x y ho g (zS e c st en 0 0 0 bv (.slice none 0 0) (.slice none 0 0)) hx hy 31 old hg (by kernel_rfl) hold (zGt _ _ _ _ _ _ _ h1 rfl rfl) h
end
theorem zNn {K:Nat→Prop} {v:Value} {bs:List Bat} (h:uH K w v bs) {k:Nat} {b:Bat} (hk:bs[k]?=some b):∃oa cap a rv,v=.slice oa bs.length cap∧oa=some a∧K a.block∧zCd w (a.add (k * 6)) b rv∧xE K w rv b.recs:=by
 obtain ⟨oa,cap,rfl,h⟩:=h;obtain ⟨a,rv,rfl,hK,h1,h2⟩:=h k b hk;exact ⟨_,_,a,rv,rfl,rfl,hK,h1,h2⟩
end
section
variable {w w':World} {S:Nat→Prop}
def zNo (L:List (zY × zR)) (k:zY) (d:zR):List (zY × zR):=(k,d)::L.filter fun x=>x.1≠k
theorem zWh (L:List (zY × zR)) (k:zY) (d:zR):jU (zNo L k d)=jb (jU L) k (.pointer (some ⟨d.xb,0,none⟩)):=by
 unfold jU jb zNo;rw [List.map_cons,List.filter_map];rfl
theorem zJj (L:List (zY × zR)) (k:zY) (d:zR) (p:zY):zt (zNo L k d) p=if p=k then some d else zt L p:=by
 unfold zt zNo;by_cases e:p=k
 ·subst e; simp
 ·rw [List.find?_cons_of_neg (by simp; exact fun h=>e h.symm),if_neg e]
  congr 1
  induction L with
  | nil=>rfl
  | cons y r ih=>
   by_cases h1:y.1=k
   ·rw [List.filter_cons_of_neg (by simpa using h1),ih,List.find?_cons_of_neg (by simp [h1]; exact fun h=>e h.symm)]
   ·rw [List.filter_cons_of_pos (by simpa using h1)]
    by_cases h2:y.1=p
    ·simp [h2]
    ·rw [List.find?_cons_of_neg (by simpa using h2),List.find?_cons_of_neg (by simpa using h2),ih]
def zG.Low (m:zG) (s:Nat):Prop:=(∀i,m.B i→i < s)∧∀x∈m.L,∀i,x.2.T i→i < s
theorem zW.low {m:zG} (h:zW w m):m.Low w.heap.size:=
 ⟨fun i hi=>by
  rcases hi with e | e | e | e
  ·subst e; exact zA h.b
  ·subst e; exact zA h.top.b
  ·subst e; exact h.top.m.lt
  ·subst e; exact h.map.lt,fun x hx i hi=>((h.part x hx).lt i hi).2⟩
theorem zW.add {m:zG} (h:zW w m) {k:zY} {d:zR} (hd:jT w' d) (s:Nat) (h1:∀i,d.T i→s≤i) (h2:m.Low s) (hm:xT kf w' m.pm (jb (jU m.L) k (.pointer (some ⟨d.xb,0,none⟩)))) (hf:Fr (fun i=>i=m.pm) w w'):
  zW w' { m with L:=zNo m.L k d } :=by
 have hB:∀i,m.B i→i≠m.pm∨i=m.pm:=fun i _=>(Decidable.em (i=m.pm)).symm
 refine ⟨(hf.block _ (zA h.b) h.n1.2.2.1).trans h.b,h.top.fr hf h.n1.2.2.2.1 h.n1.2.2.2.2,by rw [zWh]; exact hm,h.n1,h.pos,?_,?_,?_,h.ids,h.tn,h.nx⟩
 ·intro x hx
  rcases List.mem_cons.1 hx with rfl | hx
  ·exact hd
  ·have hx:=(List.mem_filter.1 hx).1
   exact (h.part x hx).fr hf fun i hi e=>h.off x hx i hi (.inr (.inr (.inr e)))
 ·intro x hx i hi hb
  rcases List.mem_cons.1 hx with rfl | hx
  ·have:=h1 i hi; have:=h2.1 i hb; omega
  ·exact h.off x (List.mem_filter.1 hx).1 i hi hb
 ·refine List.Pairwise.cons ?_ (h.dis.sublist List.filter_sublist)
  intro y hy i hi hyi
  have:=h1 i hi; have:=h2.2 y (List.mem_filter.1 hy).1 i hyi; omega
structure zQr (d:zR):Prop where
 st:d.st=0
 en:d.en=0
 bats:d.bats=[]
 F:d.F=fun _=>none
 n:d.n=0
def CrePost (w:World) (m:zG) (name:ByteArray) (count:Int) (e:Ending) (w':World):Prop:=
 e=.returned (xC 0 m.tn)∧∃m':zG,zW w' m'∧m'.mb=m.mb∧m'.TL=jb m.TL name (yq m.tn count)∧m'.tn=m.tn+1∧m'.next=m.next∧
  (∀i:Int,0≤i→i < count→∃d,zt m'.L ⟨m.tn,i⟩=some d∧zQr d)∧(∀p:zY,¬(p.id=m.tn∧0≤p.ix∧p.ix < count)→zt m'.L p=zt m.L p)∧(∀i,m'.B i→m.B i)∧(∀x∈m'.L,∀i,x.2.T i→(∃y∈m.L,y.2.T i)∨w.heap.size≤i)∧m'.L.length≤m.L.length+count.toNat∧Fr m.B w w'
theorem zW.topped {m:zG} (h:zW w m) {name:ByteArray} {count:Int} (ht:uR w' m.tb m.tmb (m.tn+1) (jb m.TL name (yq m.tn count))) (hf:Fr (fun i=>i=m.tb∨i=m.tmb) w w') (hn:m.tn < 1073741824):
  zW w' { m with TL:=jb m.TL name (yq m.tn count),tn:=m.tn+1 } :=by
 obtain ⟨n1,n2,n3,n4,n5⟩:=h.n1;refine ⟨(hf.block _ (zA h.b) (by omega)).trans h.b,ht,h.map.fr hf (by omega),h.n1,h.pos,fun x hx=>(h.part x hx).fr hf fun i hi e=>?_,h.off,h.dis,?_,?_,h.nx⟩
 ·rcases e with e | e
  ·exact h.off x hx i hi (.inr (.inl e))
  ·exact h.off x hx i hi (.inr (.inr (.inl e)))
 ·intro r hr
  rcases List.mem_cons.1 hr with rfl | hr
  ·exact ⟨_,_,rfl,h.tn.1,by dsimp only; omega⟩
  ·obtain ⟨i,p,h1,h2,h3⟩:=h.ids r (List.mem_filter.1 hr).1
   exact ⟨i,p,h1,h2,by dsimp only; omega⟩
 ·have:=h.tn; dsimp only; omega
end
end Go.Proofs.YtfdhofabgdkkkaaGreatDoor
