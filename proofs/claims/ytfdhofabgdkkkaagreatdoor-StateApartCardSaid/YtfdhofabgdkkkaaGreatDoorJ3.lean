/- A part of the proof that what the machine is told keeps its bounds. -/
import Derived.Test.YtfdhofabgdkkkaaGreatDoorJ1
import Derived.Test.YtfdhofabgdkkkaaGreatDoorJ2
import Derived.Test.YtfdhofabgdkkkaaGreatDoorChecked
import Derived.Lib.Hide
set_option maxHeartbeats 128000000
set_option maxRecDepth 100000
namespace Go.Fm
open Go.RowKit
structure Hdr where
 key:ByteArray
 val:ByteArray
structure Rec where
 at':Int
 tm:Int
 bare:Bool
 key:ByteArray
 gone:Bool
 val:ByteArray
 hs:List Hdr
structure Bat where
 base:Int
 span:Int
 prod:Int
 epoch:Int
 seq:Int
 recs:List Rec
theorem yG (a:Addr) (n:Nat):(a.add n).block=a.block:=by unfold Addr.add; split <;> rfl
def xi (K:Nat→Prop) (w:World) (v:Value) (hs:List Hdr):Prop:=
 ∃oa cap,v=.slice oa hs.length cap∧∀k h,hs[k]?=some h→∃a,oa=some a∧K a.block∧
  w.cell? (a.add (k * 2))=some (.string h.key)∧w.cell? ⟨(a.add (k * 2)).block,(a.add (k * 2)).off+1,none⟩=some (.string h.val)
def yr (r:Rec) (hv:Value):List Value:=[.int .i64 r.at',.int .i64 r.tm,.bool r.bare,.string r.key,.bool r.gone,.string r.val,hv]
def xy (r:Rec) (hv:Value):Value:=.agg #[.int .i64 r.at',.int .i64 r.tm,.bool r.bare,.string r.key,.bool r.gone,.string r.val,hv]
structure zGc (w:World) (p:Addr) (r:Rec) (hv:Value):Prop where
 c0:w.cell? p=some (.int .i64 r.at')
 c1:w.cell? ⟨p.block,p.off+1,none⟩=some (.int .i64 r.tm)
 c2:w.cell? ⟨p.block,p.off+2,none⟩=some (.bool r.bare)
 c3:w.cell? ⟨p.block,p.off+3,none⟩=some (.string r.key)
 c4:w.cell? ⟨p.block,p.off+4,none⟩=some (.bool r.gone)
 c5:w.cell? ⟨p.block,p.off+5,none⟩=some (.string r.val)
 c6:w.cell? ⟨p.block,p.off+6,none⟩=some hv
def xE (K:Nat→Prop) (w:World) (v:Value) (rs:List Rec):Prop:=
 ∃oa cap,v=.slice oa rs.length cap∧∀k r,rs[k]?=some r→∃a hv,oa=some a∧K a.block∧zGc w (a.add (k * 7)) r hv∧xi K w hv r.hs
def yP (b:Bat) (rv:Value):Value:=.agg #[.int .i64 b.base,.int .i64 b.span,.int .i64 b.prod,.int .i64 b.epoch,.int .i64 b.seq,rv]
def uG (b:Bat) (rv:Value):List Value:=[.int .i64 b.base,.int .i64 b.span,.int .i64 b.prod,.int .i64 b.epoch,.int .i64 b.seq,rv]
structure zCd (w:World) (p:Addr) (b:Bat) (rv:Value):Prop where
 c0:w.cell? p=some (.int .i64 b.base)
 c1:w.cell? ⟨p.block,p.off+1,none⟩=some (.int .i64 b.span)
 c2:w.cell? ⟨p.block,p.off+2,none⟩=some (.int .i64 b.prod)
 c3:w.cell? ⟨p.block,p.off+3,none⟩=some (.int .i64 b.epoch)
 c4:w.cell? ⟨p.block,p.off+4,none⟩=some (.int .i64 b.seq)
 c5:w.cell? ⟨p.block,p.off+5,none⟩=some rv
def uH (K:Nat→Prop) (w:World) (v:Value) (bs:List Bat):Prop:=
 ∃oa cap,v=.slice oa bs.length cap∧∀k b,bs[k]?=some b→∃a rv,oa=some a∧K a.block∧zCd w (a.add (k * 6)) b rv∧xE K w rv b.recs
section
variable {K K':Nat→Prop} {w w':World}
theorem xe {a:Addr} {v:Value} (hc:w.cell? a=some v) (hk:w'.heap[a.block]?=w.heap[a.block]?):w'.cell? a=some v:=(World.cell?_of_block (w:=w) hk).trans hc
theorem zGc.lt {p:Addr} {r:Rec} {hv:Value} (h:zGc w p r hv):p.block < w.heap.size:=World.block_lt_of_cell? w p h.c0
theorem zCd.lt {p:Addr} {r:Bat} {hv:Value} (h:zCd w p r hv):p.block < w.heap.size:=World.block_lt_of_cell? w p h.c0
theorem zGc.to {p:Addr} {r:Rec} {hv:Value} (h:zGc w p r hv) (hk:w'.heap[p.block]?=w.heap[p.block]?):zGc w' p r hv:=
 ⟨xe h.c0 hk,xe h.c1 hk,xe h.c2 hk,xe h.c3 hk,xe h.c4 hk,xe h.c5 hk,xe h.c6 hk⟩
theorem zCd.to {p:Addr} {r:Bat} {hv:Value} (h:zCd w p r hv) (hk:w'.heap[p.block]?=w.heap[p.block]?):zCd w' p r hv:=
 ⟨xe h.c0 hk,xe h.c1 hk,xe h.c2 hk,xe h.c3 hk,xe h.c4 hk,xe h.c5 hk⟩
theorem xi.to {v:Value} {hs:List Hdr} (h:xi K w v hs) (hk:∀b,K b→b < w.heap.size→K' b∧w'.heap[b]?=w.heap[b]?):xi K' w' v hs:=by
 obtain ⟨oa,cap,hv,h⟩:=h;refine ⟨oa,cap,hv,fun k x hx=>?_⟩;obtain ⟨a,ha,hK,c0,c1⟩:=h k x hx;have hl:=World.block_lt_of_cell? w _ c0;rw [yG] at hl;obtain ⟨h1,h2⟩:=hk _ hK hl;exact ⟨a,ha,h1,xe c0 (by rw [yG]; exact h2),xe c1 (by rw [yG]; exact h2)⟩
theorem xE.to {v:Value} {rs:List Rec} (h:xE K w v rs) (hk:∀b,K b→b < w.heap.size→K' b∧w'.heap[b]?=w.heap[b]?):xE K' w' v rs:=by
 obtain ⟨oa,cap,hv,h⟩:=h;refine ⟨oa,cap,hv,fun k x hx=>?_⟩;obtain ⟨a,u,ha,hK,hc,hh⟩:=h k x hx;have hl:=hc.lt;rw [yG] at hl;obtain ⟨h1,h2⟩:=hk _ hK hl;exact ⟨a,u,ha,h1,hc.to (by rw [yG]; exact h2),hh.to hk⟩
theorem uH.to {v:Value} {bs:List Bat} (h:uH K w v bs) (hk:∀b,K b→b < w.heap.size→K' b∧w'.heap[b]?=w.heap[b]?):uH K' w' v bs:=by
 obtain ⟨oa,cap,hv,h⟩:=h;refine ⟨oa,cap,hv,fun k x hx=>?_⟩;obtain ⟨a,u,ha,hK,hc,hh⟩:=h k x hx;have hl:=hc.lt;rw [yG] at hl;obtain ⟨h1,h2⟩:=hk _ hK hl;exact ⟨a,u,ha,h1,hc.to (by rw [yG]; exact h2),hh.to hk⟩
theorem xi.fr {v:Value} {hs:List Hdr} {S:Nat→Prop} (h:xi K w v hs) (hf:Fr S w w') (hd:∀k,K k→¬S k):xi K w' v hs:=h.to fun b hb hl=>⟨hb,hf.block b hl (hd b hb)⟩
theorem xE.fr {v:Value} {hs:List Rec} {S:Nat→Prop} (h:xE K w v hs) (hf:Fr S w w') (hd:∀k,K k→¬S k):xE K w' v hs:=h.to fun b hb hl=>⟨hb,hf.block b hl (hd b hb)⟩
theorem uH.fr {v:Value} {hs:List Bat} {S:Nat→Prop} (h:uH K w v hs) (hf:Fr S w w') (hd:∀k,K k→¬S k):uH K w' v hs:=h.to fun b hb hl=>⟨hb,hf.block b hl (hd b hb)⟩
theorem xi.old {v:Value} {hs:List Hdr} (h:xi K w v hs) (hf:Fr (fun _=>False) w w'):xi K w' v hs:=h.fr hf fun _ _ h=>h
theorem xE.old {v:Value} {hs:List Rec} (h:xE K w v hs) (hf:Fr (fun _=>False) w w'):xE K w' v hs:=h.fr hf fun _ _ h=>h
theorem uH.old {v:Value} {hs:List Bat} (h:uH K w v hs) (hf:Fr (fun _=>False) w w'):uH K w' v hs:=h.fr hf fun _ _ h=>h
theorem xi.mono {v:Value} {hs:List Hdr} (h:xi K w v hs) (hk:∀b,K b→b < w.heap.size→K' b):xi K' w v hs:=h.to fun b hb hl=>⟨hk b hb hl,rfl⟩
theorem xE.mono {v:Value} {hs:List Rec} (h:xE K w v hs) (hk:∀b,K b→b < w.heap.size→K' b):xE K' w v hs:=h.to fun b hb hl=>⟨hk b hb hl,rfl⟩
theorem uH.mono {v:Value} {hs:List Bat} (h:uH K w v hs) (hk:∀b,K b→b < w.heap.size→K' b):uH K' w v hs:=h.to fun b hb hl=>⟨hk b hb hl,rfl⟩
end
theorem Fr.tr {a b c:World} (h:Fr (fun _=>False) a b) (k:Fr (fun _=>False) b c):Fr (fun _=>False) a c:=h.trans k fun _ h=>h.elim
theorem Fr.same (w:World):Fr (fun _=>False) w w:=Fr.refl _ w
theorem Fr.cel {a b:World} (h:Fr (fun _=>False) a b) {p:Addr} {v:Value} (hc:a.cell? p=some v):b.cell? p=some v:=h.cell hc fun h=>h
theorem uB {P:Program} {f:FuncId} {args:Array Value} {W:World} {v:Value} (y:Lcl.InS (fun w'=>Fr (fun _=>False) W w'))
  (h:Calls P f args y.w fun e w'=>e=.returned v∧Fr (fun _=>False) y.w w'):Calls P f args y.w fun e w'=>e=.returned v∧∃y:Lcl.InS (fun w'=>Fr (fun _=>False) W w'),w'=y.w:=
 h.mono fun _ w' ⟨he,hf⟩=>⟨he,⟨w',y.h.tr hf⟩,rfl⟩
theorem zH {α:Type} {l:List α} {k:Nat} (h:k < l.length):∃x,l[k]?=some x:=⟨_,List.getElem?_eq_getElem h⟩
end Go.Fm
namespace Go.Proofs.YtfdhofabgdkkkaaGreatDoor
open Go.RowKit Go.Fm
set_option linter.unusedVariables false
set_option linter.unusedSimpArgs false
theorem zi (g k:Nat):(⟨g,0,none⟩:Addr).add k=⟨g,k,none⟩:=by
 unfold Addr.add;split
 ·rename_i h0; rw [h0]
 ·simp
theorem zSu (a:Addr) (i j:Nat) (hj:0 < j):a.add (i+j)=⟨(a.add i).block,(a.add i).off+j,none⟩:=by
 unfold Addr.add;rw [if_neg (by omega)];split
 ·rename_i h0; subst h0; simp
 ·simp [Nat.add_assoc]
theorem jE (g i j:Nat):(⟨((⟨g,0,none⟩:Addr).add i).block,((⟨g,0,none⟩:Addr).add i).off+j,none⟩:Addr)=⟨g,i+j,none⟩:=by rw [zi]
theorem xB {α:Type} (f:α→List Value) (n:Nat) (hn:∀x,(f x).length=n):∀ {l:List α} {k:Nat} {x:α} {j:Nat},l[k]?=some x→j < n→(l.flatMap f)[k * n+j]?=(f x)[j]?
 | [],k,x,j,h,_=>by simp at h
 | a::l,0,x,j,h,hj=>by
  simp at h; subst h
  rw [List.flatMap_cons,List.getElem?_append_left (by rw [hn]; omega)];simp
 | a::l,k+1,x,j,h,hj=>by
  rw [List.flatMap_cons,List.getElem?_append_right (by rw [hn,Nat.succ_mul]; omega),hn,show (k+1) * n+j - n=k * n+j by rw [Nat.succ_mul]; omega];exact xB f n hn (by simpa using h) hj
theorem uI {α:Type} (f:α→List Value) (n:Nat) (hn:∀x,(f x).length=n):∀l:List α,(l.flatMap f).length=l.length * n
 | []=>by simp
 | a::l=>by rw [List.flatMap_cons,List.length_append,hn,uI f n hn l,List.length_cons,Nat.succ_mul]; omega
theorem zKu {α:Type} (f:α→List Value) (n:Nat) (h0:0 < n) (hn:∀x,(f x).length=n) {l:List α} {j:Nat} {u:Value} (h:(l.flatMap f)[j]?=some u):
  ∃x,l[j / n]?=some x∧(f x)[j % n]?=some u:=by
 have hlt:=(List.getElem?_eq_some_iff.1 h).1;rw [uI f n hn,Nat.mul_comm] at hlt;have hk:j / n < l.length:=Nat.div_lt_of_lt_mul hlt;refine ⟨l[j / n],List.getElem?_eq_getElem hk,?_⟩
 have:=xB f n hn (List.getElem?_eq_getElem hk) (Nat.mod_lt j h0)
 rw [←this,Nat.mul_comm,Nat.div_add_mod];exact h
def xY (h:Hdr):List Value:=[.string h.key,.string h.val]
def uf (z:Rec × Value):List Value:=yr z.1 z.2
def ug (z:Bat × Value):List Value:=uG z.1 z.2
theorem zSv (h:Hdr):(xY h).length=2:=rfl
theorem rec_n (z:Rec × Value):(uf z).length=7:=rfl
theorem bat_n (z:Bat × Value):(ug z).length=6:=rfl
theorem info55:(Tryz.prog.info? 97).map (fun i=>(i.zero,i.size,i.bytes))=some (some (.agg #[.string ByteArray.empty,.string ByteArray.empty]),2,32):=by kernel_rfl
theorem info39:(Tryz.prog.info? 95).map (fun i=>(i.zero,i.size,i.bytes))=some (some (.agg #[.int .i64 0,.int .i64 0,.bool false,.string ByteArray.empty,.bool false,.string ByteArray.empty,.slice none 0 0]),7,88):=by kernel_rfl
theorem info29:(Tryz.prog.info? 35).map (fun i=>(i.zero,i.size,i.bytes))=some (some (.agg #[.int .i64 0,.int .i64 0,.int .i64 0,.int .i64 0,.int .i64 0,.slice none 0 0]),6,64):=by kernel_rfl
theorem xz {w:World} {B:Nat} {e:TypeId} {s n:Nat} {v:Value} {xs:List Value} (h:w.ownsRow B e s v n xs):
  ∃oa cap,v=.slice oa n cap∧(0 < n→∃g,oa=some ⟨g,0,none⟩∧v.ownBlock=some g∧B≤g∧∀k u,xs[k]?=some u→w.cell? ⟨g,k,none⟩=some u):=by
 obtain ⟨a,cap,hv,h1,h2⟩:=ze h;refine ⟨a,cap,hv,fun hn=>?_⟩;cases a with
 | none=>have:=(h2 rfl).1; omega
 | some a=>
  obtain ⟨h3,h4⟩:=h1 a rfl;refine ⟨a.block,by rw [←h3],h4,(zK h h4).1,fun k u hu=>?_⟩
  have:=h.cells h4 k u hu
  rw [zi] at this;exact this
theorem zUq {K:Nat→Prop} {w:World} {a:Addr} {n cap:Nat} {hs:List Hdr} (h:xi K w (.slice (some a) n cap) hs):
  n=hs.length∧∀j u,(hs.flatMap xY)[j]?=some u→w.cell? (a.add j)=some u:=by
 obtain ⟨oa,cap',hv,h⟩:=h;injection hv with e1 e2 e3
 subst e1;refine ⟨e2,fun j u hu=>?_⟩;obtain ⟨x,hx,hu⟩:=zKu xY 2 (by omega) zSv hu;obtain ⟨a',ha,hK,c0,c1⟩:=h _ x hx;injection ha with ha
 subst ha;have hd:=Nat.div_add_mod j 2;rcases Nat.mod_two_eq_zero_or_one j with h0 | h1
 ·rw [h0] at hu hd
  rw [show j=j / 2 * 2 by omega];simp only [xY,List.getElem?_cons_zero,Option.some.injEq] at hu;subst hu;exact c0
 ·rw [h1] at hu hd
  rw [show j=j / 2 * 2+1 by omega,zSu _ _ _ (by omega)];simp only [xY,List.getElem?_cons_succ,List.getElem?_cons_zero,Option.some.injEq] at hu;subst hu;exact c1
theorem zBq {B:Nat} {w:World} {v:Value} {n:Nat} {hs:List Hdr} (h:w.ownsRow B 97 2 v n (hs.flatMap xY)) (hn:n=hs.length):xi (fun b=>B≤b∧v.ownBlock=some b) w v hs:=by
 obtain ⟨oa,cap,hv,hc⟩:=xz h;subst hn;refine ⟨oa,cap,hv,fun k x hx=>?_⟩;obtain ⟨g,rfl,ho,hB,hc⟩:=hc (by have:=(List.getElem?_eq_some_iff.1 hx).1; omega);have g0:=xB xY 2 zSv hx (show 0 < 2 by omega);have g1:=xB xY 2 zSv hx (show 1 < 2 by omega);refine ⟨_,rfl,⟨hB,ho⟩,?_,?_⟩
 ·rw [zi]; exact hc _ _ g0
 ·rw [jE]; exact hc _ _ g1
def zv (K:Nat→Prop) (B:Nat) (w:World) (v:Value) (rs:List Rec):Prop:=
 ∃zs:List (Rec × Value),zs.map (·.1)=rs∧w.ownsRow B 95 7 v rs.length (zs.flatMap uf)∧∀z∈zs,xi (fun b=>K b∧v.ownBlock≠some b) w z.2 z.1.hs
def za (K:Nat→Prop) (B:Nat) (w:World) (v:Value) (bs:List Bat):Prop:=
 ∃zs:List (Bat × Value),zs.map (·.1)=bs∧w.ownsRow B 35 6 v bs.length (zs.flatMap ug)∧∀z∈zs,xE (fun b=>K b∧v.ownBlock≠some b) w z.2 z.1.recs
theorem zv.nil (K:Nat→Prop) (B:Nat) (w:World):zv K B w (.slice none 0 0) []:=⟨[],rfl,World.ownsRow_nil _ _ _ _,fun z hz=>by cases hz⟩
theorem za.nil (K:Nat→Prop) (B:Nat) (w:World):za K B w (.slice none 0 0) []:=⟨[],rfl,World.ownsRow_nil _ _ _ _,fun z hz=>by cases hz⟩
section
variable {K K':Nat→Prop} {B:Nat} {w w':World} {v v':Value}
theorem zv.lt {rs:List Rec} (h:zv K B w v rs) {k:Nat} (hk:v.ownBlock=some k):B≤k∧k < w.heap.size:=by
 obtain ⟨zs,h1,h2,h3⟩:=h;exact zK h2 hk
theorem za.lt {rs:List Bat} (h:za K B w v rs) {k:Nat} (hk:v.ownBlock=some k):B≤k∧k < w.heap.size:=by
 obtain ⟨zs,h1,h2,h3⟩:=h;exact zK h2 hk
theorem zv.slice {rs:List Rec} (h:zv K B w v rs):∃oa cap,v=.slice oa rs.length cap:=by
 obtain ⟨zs,h1,h2,h3⟩:=h;obtain ⟨oa,cap,hv,-⟩:=xz h2;exact ⟨oa,cap,hv⟩
theorem za.slice {rs:List Bat} (h:za K B w v rs):∃oa cap,v=.slice oa rs.length cap:=by
 obtain ⟨zs,h1,h2,h3⟩:=h;obtain ⟨oa,cap,hv,-⟩:=xz h2;exact ⟨oa,cap,hv⟩
theorem zv.old {rs:List Rec} (h:zv K B w v rs) (hf:Fr (fun _=>False) w w'):zv K B w' v rs:=by
 obtain ⟨zs,h1,h2,h3⟩:=h;exact ⟨zs,h1,zl h2 fun k hk=>hf.block k (zK h2 hk).2 fun h=>h,fun z hz=>(h3 z hz).old hf⟩
theorem za.old {rs:List Bat} (h:za K B w v rs) (hf:Fr (fun _=>False) w w'):za K B w' v rs:=by
 obtain ⟨zs,h1,h2,h3⟩:=h;exact ⟨zs,h1,zl h2 fun k hk=>hf.block k (zK h2 hk).2 fun h=>h,fun z hz=>(h3 z hz).old hf⟩
theorem za.fr {rs:List Bat} {S:Nat→Prop} (h:za K B w v rs) (hf:Fr S w w') (hK:∀k,K k→¬S k) (ho:∀k,v.ownBlock=some k→¬S k):za K B w' v rs:=by
 obtain ⟨zs,h1,h2,h3⟩:=h;exact ⟨zs,h1,zl h2 fun k hk=>hf.block k (zK h2 hk).2 (ho k hk),fun z hz=>(h3 z hz).fr hf fun k hk=>hK k hk.1⟩
theorem zv.reads {rs:List Rec} (h:zv K B w v rs) (h1:∀b,B≤b→b < w.heap.size→K' b) (h2:∀b,K b→b < w.heap.size→K' b):xE K' w v rs:=by
 obtain ⟨zs,rfl,ho,hz⟩:=h;obtain ⟨oa,cap,hv,hc⟩:=xz ho;refine ⟨oa,cap,hv,fun k x hx=>?_⟩;obtain ⟨g,rfl,hb,hB,hc⟩:=hc (by have:=(List.getElem?_eq_some_iff.1 hx).1; omega);rw [List.getElem?_map] at hx;obtain ⟨z,hz1,rfl⟩:=Option.map_eq_some_iff.1 hx;have hget:∀j,j < 7→(zs.flatMap uf)[k * 7+j]?=(uf z)[j]?:=fun j hj=>xB uf 7 rec_n hz1 hj
 refine ⟨_,z.2,rfl,h1 g hB (zK ho hb).2,⟨?_,?_,?_,?_,?_,?_,?_⟩,(hz z (List.mem_of_getElem? hz1)).mono fun b hb hl=>h2 b hb.1 hl⟩
 ·rw [zi]; exact hc _ _ (hget 0 (by omega))
 ·rw [jE]; exact hc _ _ (hget 1 (by omega))
 ·rw [jE]; exact hc _ _ (hget 2 (by omega))
 ·rw [jE]; exact hc _ _ (hget 3 (by omega))
 ·rw [jE]; exact hc _ _ (hget 4 (by omega))
 ·rw [jE]; exact hc _ _ (hget 5 (by omega))
 ·rw [jE]; exact hc _ _ (hget 6 (by omega))
theorem za.reads {rs:List Bat} (h:za K B w v rs) (h1:∀b,B≤b→b < w.heap.size→K' b) (h2:∀b,K b→b < w.heap.size→K' b):uH K' w v rs:=by
 obtain ⟨zs,rfl,ho,hz⟩:=h;obtain ⟨oa,cap,hv,hc⟩:=xz ho;refine ⟨oa,cap,hv,fun k x hx=>?_⟩;obtain ⟨g,rfl,hb,hB,hc⟩:=hc (by have:=(List.getElem?_eq_some_iff.1 hx).1; omega);rw [List.getElem?_map] at hx;obtain ⟨z,hz1,rfl⟩:=Option.map_eq_some_iff.1 hx;have hget:∀j,j < 6→(zs.flatMap ug)[k * 6+j]?=(ug z)[j]?:=fun j hj=>xB ug 6 bat_n hz1 hj
 refine ⟨_,z.2,rfl,h1 g hB (zK ho hb).2,⟨?_,?_,?_,?_,?_,?_⟩,(hz z (List.mem_of_getElem? hz1)).mono fun b hb hl=>h2 b hb.1 hl⟩
 ·rw [zi]; exact hc _ _ (hget 0 (by omega))
 ·rw [jE]; exact hc _ _ (hget 1 (by omega))
 ·rw [jE]; exact hc _ _ (hget 2 (by omega))
 ·rw [jE]; exact hc _ _ (hget 3 (by omega))
 ·rw [jE]; exact hc _ _ (hget 4 (by omega))
 ·rw [jE]; exact hc _ _ (hget 5 (by omega))
theorem zv.push {rs:List Rec} {zs:List (Rec × Value)} (e:zs.map (·.1)=rs) (ho:w.ownsRow B 95 7 v rs.length (zs.flatMap uf)) (hz:∀z∈zs,xi (fun b=>K b∧v.ownBlock≠some b) w z.2 z.1.hs) {r:Rec} {hv:Value} (hr:xi (fun b=>K b∧v.ownBlock≠some b) w hv r.hs)
  (h2:w'.ownsRow B 95 7 v' (rs.length+1) (zs.flatMap uf++yr r hv)) (hg:w.grownBy w' v.ownBlock) (hb:v'.ownBlock=v.ownBlock∨v'.ownBlock=some w.heap.size):zv K B w' v' (rs++ [r]):=by
 have hto:∀b,(K b∧v.ownBlock≠some b)→b < w.heap.size→(K b∧v'.ownBlock≠some b)∧w'.heap[b]?=w.heap[b]?:=fun b hb1 hl=>by
  refine ⟨⟨hb1.1,?_⟩,hg.block b hl fun e=>hb1.2 e.symm⟩;rcases hb with h | h
  ·rw [h]; exact hb1.2
  ·rw [h]; intro e; injection e with e; omega
 refine ⟨zs++ [(r,hv)],by rw [List.map_append,e]; rfl,?_,fun z hz1=>?_⟩
 ·rw [List.length_append,List.flatMap_append]
  simpa [uf] using h2
 ·rcases List.mem_append.1 hz1 with h | h
  ·exact (hz z h).to hto
  ·simp at h; subst h; exact hr.to hto
theorem za.push {rs:List Bat} {zs:List (Bat × Value)} (e:zs.map (·.1)=rs) (ho:w.ownsRow B 35 6 v rs.length (zs.flatMap ug)) (hz:∀z∈zs,xE (fun b=>K b∧v.ownBlock≠some b) w z.2 z.1.recs) {r:Bat} {hv:Value} (hr:xE (fun b=>K b∧v.ownBlock≠some b) w hv r.recs)
  (h2:w'.ownsRow B 35 6 v' (rs.length+1) (zs.flatMap ug++uG r hv)) (hg:w.grownBy w' v.ownBlock) (hb:v'.ownBlock=v.ownBlock∨v'.ownBlock=some w.heap.size):za K B w' v' (rs++ [r]):=by
 have hto:∀b,(K b∧v.ownBlock≠some b)→b < w.heap.size→(K b∧v'.ownBlock≠some b)∧w'.heap[b]?=w.heap[b]?:=fun b hb1 hl=>by
  refine ⟨⟨hb1.1,?_⟩,hg.block b hl fun e=>hb1.2 e.symm⟩;rcases hb with h | h
  ·rw [h]; exact hb1.2
  ·rw [h]; intro e; injection e with e; omega
 refine ⟨zs++ [(r,hv)],by rw [List.map_append,e]; rfl,?_,fun z hz1=>?_⟩
 ·rw [List.length_append,List.flatMap_append]
  simpa [ug] using h2
 ·rcases List.mem_append.1 hz1 with h | h
  ·exact (hz z h).to hto
  ·simp at h; subst h; exact hr.to hto
end
section
variable {ops:Array Oper} {rest:List Oper} {o:Oper} {a:Act} {Q:Exit→Act→World→Prop}
theorem kW (w:World) (hgd:o.guard=none) (s x:Operand) (ho:o.op=.call { callee:=.builtin .append,args:=#[s,x],argTypes:=#[33,33] })
  (K:Nat→Prop) (B:Nat) (v:Value) (rs:List Rec) (hs:a.eval s=v) (hown:zv K B w v rs) (g c:Nat) (hx:a.eval x=.slice (some ⟨g,0,none⟩) 1 c) (r:Rec) (hv:Value)
  (hcells:∀j,w.cell? ⟨g,j,none⟩=(yr r hv).toArray[j]?) (hr:xi (fun b=>K b∧v.ownBlock≠some b) w hv r.hs) (h1c:hv.oneCell'=true) (hlen:rs.length < 1000000) (hB:B≤w.heap.size)
  (h:∀v' w',zv K B w' v' (rs++ [r])→w.grownBy w' v.ownBlock→(v'.ownBlock=v.ownBlock∨v'.ownBlock=some w.heap.size)→wpList Tryz.prog ops Q rest (a.put o.dst v') w'):wpList Tryz.prog ops Q (o::rest) a w:=by
 obtain ⟨i,hi,hz,hs39,hb39⟩:=info_parts info39;obtain ⟨zs,e,hw,hzs⟩:=hown;refine zP w hgd s x 33 ho B 95 i _ 7 88 Tryz.underlying33 hi hz hs39 hb39 rfl (by decide) v rs.length (zs.flatMap uf) hs hw ⟨g,0,none⟩ 1 c (yr r hv) hx rfl ?_ ?_ (by unfold maxLen; omega) (by omega) hB fun v' w' h1 h2 h3=>h v' w' (zv.push e hw hzs hr h1 h2 h3) h2 h3
 ·intro j u hj
  rw [zi,hcells j];simpa using hj
 ·intro u hu
  simp only [yr,List.mem_cons,List.not_mem_nil,or_false] at hu;rcases hu with rfl | rfl | rfl | rfl | rfl | rfl | rfl <;> first | rfl | exact h1c
theorem jO (w:World) (hgd:o.guard=none) (s x:Operand) (ho:o.op=.call { callee:=.builtin .append,args:=#[s,x],argTypes:=#[22,22] })
  (K:Nat→Prop) (B:Nat) (v:Value) (rs:List Bat) (hs:a.eval s=v) (hown:za K B w v rs) (g c:Nat) (hx:a.eval x=.slice (some ⟨g,0,none⟩) 1 c) (r:Bat) (hv:Value)
  (hcells:∀j,w.cell? ⟨g,j,none⟩=(uG r hv).toArray[j]?) (hr:xE (fun b=>K b∧v.ownBlock≠some b) w hv r.recs) (h1c:hv.oneCell'=true) (hlen:rs.length < 1000000) (hB:B≤w.heap.size)
  (h:∀v' w',za K B w' v' (rs++ [r])→w.grownBy w' v.ownBlock→(v'.ownBlock=v.ownBlock∨v'.ownBlock=some w.heap.size)→wpList Tryz.prog ops Q rest (a.put o.dst v') w'):wpList Tryz.prog ops Q (o::rest) a w:=by
 obtain ⟨i,hi,hz,hs39,hb39⟩:=info_parts info29;obtain ⟨zs,e,hw,hzs⟩:=hown;refine zP w hgd s x 22 ho B 35 i _ 6 64 Tryz.underlying22 hi hz hs39 hb39 rfl (by decide) v rs.length (zs.flatMap ug) hs hw ⟨g,0,none⟩ 1 c (uG r hv) hx rfl ?_ ?_ (by unfold maxLen; omega) (by omega) hB fun v' w' h1 h2 h3=>h v' w' (za.push e hw hzs hr h1 h2 h3) h2 h3
 ·intro j u hj
  rw [zi,hcells j];simpa using hj
 ·intro u hu
  simp only [uG,List.mem_cons,List.not_mem_nil,or_false] at hu;rcases hu with rfl | rfl | rfl | rfl | rfl | rfl <;> first | rfl | exact h1c
end
end Go.Proofs.YtfdhofabgdkkkaaGreatDoor
