/- A part of the proof that what the machine is told keeps its bounds. -/
import Derived.Test.YtfdhofabgdkkkaaGreatDoorJ36
set_option maxHeartbeats 128000000
set_option maxRecDepth 100000
namespace Go.Proofs.YtfdhofabgdkkkaaGreatDoor
open Lib renaming hid→zz
open Go.RowKit Go.Fm Go.BigFrame Go.Shelf Go.Maps
set_option linter.unusedVariables false
set_option linter.unusedSimpArgs false
section
variable {w w':World} {S K:Nat→Prop}
def zOy (se re:Int):zf:=⟨se,re,0,0,0,0,[]⟩
theorem zRy (a b:Int) (ha:1≤a∧a≤100000) (hb:1≤b∧b≤100000) (w:World) (h0:0 < w.heap.size):Calls Tryz.prog 65 #[.int .i64 a,.int .i64 b] w fun e w'=>∃gb,e=.returned (.tuple #[.pointer (some ⟨gb,0,none⟩),.int .i64 0])∧zu w' ⟨gb,zOy a b,.slice none 0 0,fun _=>False⟩∧w.heap.size≤gb∧Fr (fun _=>False) w w':=by
 obtain ⟨h1,h2⟩:=ha;obtain ⟨h3,h4⟩:=hb;have FF:=zz ((Fr.same w).alloc (.cells #[.int .i64 a,.int .i64 b,.int .i64 0,.int .i64 0,.int .i64 0,.int .i64 0,.slice none 0 0] 216));have XX:=zz (zC w (.cells #[.int .i64 a,.int .i64 b,.int .i64 0,.int .i64 0,.int .i64 0,.int .i64 0,.slice none 0 0] 216));go_enter Tryz.func65,Tryz.ntmps65
 go_wp2_with fail
 go_ret2
 exact ⟨w.heap.size,rfl,⟨XX.out,World.ownsRow_nil _ _ _ _,fun z hz=>(by cases hz),h0,by simp [Value.ownBlock],fun h=>h,fun b hb=>(by simp [Value.ownBlock] at hb),fun i h=>h.elim⟩,Nat.le_refl _,FF.out⟩
theorem new_inv {c:zO} {N:Nat} (h:xd w c N):yL (zOy c.se c.re) N∧GQ (zOy c.se c.re):=by
 have hs:=h.sr;exact ⟨⟨hs.1,hs.2,by show 0≤(0:Int)∧(0:Int)≤3; omega,by show 0≤(0:Int)∧(0:Int)≤(N:Int); omega,by show 0≤(0:Int)∧(0:Int)≤(N:Int); omega,by show 0≤(0:Int)∧(0:Int)≤1099511727776; omega,Nat.zero_le _,fun i j z z' hz=>(by simp [zOy] at hz),fun z hz=>(by cases hz),fun e=>(by cases e)⟩,fun z hz=>by cases hz⟩
theorem zOz {d:zj} (h:zu w d) {N:Nat} (hi:yL d.F N) (hN:N≤1000000) (tl:List ByteArray) (ta:Option Addr) (tn tc:Nat) (htl:xS K w (.slice ta tn tc) tl) (hk2:∀i,K i→¬d.W i) (hl:tl.length≤1000) (m now:Int) (hm:-1≤m∧m≤2199023255552):
  Calls Tryz.prog 139 #[.pointer (some ⟨d.gb,0,none⟩),.int .i64 m,.slice ta tn tc,.int .i64 now] w (zCz d m now tl w):=by
 by_cases h1:vB m now tl
 ·by_cases h2:yX m d.F=0
  ·by_cases h3:m= -1
   ·exact join_okA h hi hN tl ta tn tc htl hk2 hl m now hm h1 h2 h3
   ·exact join_okB h hi hN tl ta tn tc htl hk2 hl m now hm h1 h2 h3
  ·exact zOk h hi hN tl ta tn tc htl hl m now hm (.inr h2)
 ·exact zOk h hi hN tl ta tn tc htl hl m now hm (.inl h1)
def zPa (m now:Int) (tl:List ByteArray) (ta:Option Addr) (tc:Nat) (f:zf):zf:=jy now (xW (if m= -1 then f.nx else m) now tl ta tc (xA now (if m= -1 then zg f else f)))
theorem zPb {f:zf} {m now:Int} {tl:List ByteArray} {ta:Option Addr} {tc:Nat} (h:∃z∈f.zs,z.m.id=m):(jy now (xW m now tl ta tc f)).zs≠[]:=by
 obtain ⟨z,hz,hm⟩:=h;have h1: { z with m:= { z.m with tl:=tl,jo:=true,un:=now+f.se },ta:=ta,tn:=tl.length,tc:=tc } ∈(xW m now tl ta tc f).zs:=List.mem_map.2 ⟨z,hz,if_pos hm⟩;unfold jy;split
 ·intro e
  rw [e] at h1;cases h1
 ·have h2: { z with m:= { z.m with tl:=tl,jo:=true,un:=now+f.se },ta:=ta,tn:=tl.length,tc:=tc } ∈ub (xW m now tl ta tc f).zs:=List.mem_filter.2 ⟨h1,rfl⟩
  have h3:ub (xW m now tl ta tc f).zs≠[]:=fun e=>by rw [e] at h2; cases h2
  unfold uX;rw [if_neg h3];exact h3
theorem zHu {f:zf} {m now:Int} {tl:List ByteArray} {ta:Option Addr} {tc:Nat} (he:yX m f=0):(zPa m now tl ta tc f).zs≠[]:=by
 have hb:∀(g:zf) (m:Int),(∃z∈g.zs,z.m.id=m)→∃z∈(xA now g).zs,z.m.id=m:=fun g m ⟨z,hz,hm⟩=>by
  unfold xA;split
  ·exact ⟨z,hz,hm⟩
  ·rw [zh,if_neg (fun e=>by rw [e] at hz; cases hz)]
   exact ⟨zBi z,List.mem_map_of_mem hz,hm⟩
 unfold yX at he;unfold zPa;by_cases hm:m= -1
 ·rw [if_pos hm,if_pos hm]
  exact zPb (hb _ _ ⟨zOj f.nx,List.mem_append_right _ (List.mem_singleton.2 rfl),rfl⟩)
 ·rw [if_neg hm] at he
  rw [if_neg hm,if_neg hm];have ha:(f.zs.any fun z=>z.m.id == m)=true:=by
   cases hh:f.zs.any fun z=>z.m.id == m with
   | true=>rfl
   | false=>rw [if_pos hh] at he; cases he
  obtain ⟨z,hz,hzm⟩:=List.any_eq_true.1 ha;exact zPb (hb _ _ ⟨z,hz,by simpa using hzm⟩)
theorem addG_len {G:List (ByteArray × zj)} {k:ByteArray} {d:zj} (h:yD G k=some d) (d':zj):(zHt G k d').length≤G.length:=by
 have:=List.length_filter_lt_length_iff_exists.2 (show ∃x∈G,¬(decide (x.1≠k))=true from ⟨_,xh h,by simp⟩)
 unfold zHt;rw [List.length_cons];exact this
def zBj (c:zO) (k:ByteArray):zf:=match yD c.G k with | some d=>d.F | none=>zOy c.se c.re
def JoinC (c:zO) (k:ByteArray) (m:Int) (tl:List ByteArray) (now a b l er:Int) (c':zO):Prop:=
 (k.size=0∧er=1∧c'=c∧a=0∧b=0∧l=0)
 ∨(k.size≠0∧(yD c.G k=none∧20≤c.G.length)∧er=5∧c'=c∧a=0∧b=0∧l=0)
 ∨(k.size≠0∧¬(yD c.G k=none∧20≤c.G.length)∧¬vB m now tl∧er=1∧c'=c∧a=0∧b=0∧l=0)
 ∨(k.size≠0∧¬(yD c.G k=none∧20≤c.G.length)∧vB m now tl∧yX m (zBj c k)≠0∧er=yX m (zBj c k)∧c'=c∧a=0∧b=0∧l=0)
 ∨(k.size≠0∧¬(yD c.G k=none∧20≤c.G.length)∧vB m now tl∧yX m (zBj c k)=0∧er=0∧∃(ta:Option Addr) (tc:Nat) (d':zj),d'.F=zPa m now tl ta tc (zBj c k)∧c'= { c with G:=zHt c.G k d' } ∧a=(if m= -1 then (zBj c k).nx else m)∧b=d'.F.ge∧l=vO d'.F.zs)
def zYi (c:zO) (N:Nat) (k:ByteArray) (m:Int) (tl:List ByteArray) (now:Int) (w:World) (e:Ending) (w':World):Prop:=∃(a b l er:Int) (c':zO),e=.returned (.tuple #[.agg #[.int .i64 a,.int .i64 b,.int .i64 l],.int .i64 er])∧zX c N w w' c'∧JoinC c k m tl now a b l er c'
section
variable {ops:Array Oper} {rest:List Oper} {o:Oper} {a:Act} {Q:Exit→Act→World→Prop}
theorem zQ (hgd:o.guard=none) (x y:Operand) (ho:o.op=.store 171 x y) (g:Nat) (A B L:Int) (hx:a.eval x=.pointer (some ⟨g,0,none⟩)) (hy:a.eval y=.agg #[.int .i64 A,.int .i64 B,.int .i64 L])
  (old:Array Value) (hg:w.heap[g]?=some (.cells old 171 (0,0))) (hold:old.size=3)
  (h:wpList Tryz.prog ops Q rest (a.put o.dst undef) (w.setRow g #[.int .i64 A,.int .i64 B,.int .i64 L])):wpList Tryz.prog ops Q (o::rest) a w:=
 wpList_store_row hgd 171 x y ho g #[.int .i64 A,.int .i64 B,.int .i64 L] hx hy 171 old hg (by kernel_rfl) hold (by rw [Array.all_eq_true_iff_forall_mem]; intro v hv; simp only [List.mem_toArray,List.mem_cons,List.not_mem_nil,or_false] at hv; rcases hv with rfl | rfl | rfl <;> rfl) h
end
theorem xK {P:Program} {fn:Func} {p u:Tmp} {ty:TypeId} (h:fn.results=#[.cell p ty,.tmp u]) (tmps:Array Value) (w:World) (g:Nat) (t:TypeId) (cs:Array Value) (fr:Nat × Nat) (d:TypeDesc)
  (hp:tmps.getD p undef=.pointer (some ⟨g,0,none⟩)) (hg:w.heap[g]?=some (.cells cs t fr))
  (hu:P.underlying ty=some d) (hd:(match d with | .struct _ | .array _ _=>true | _=>false)=true) (hi:(P.info? ty).map (·.size)=some cs.size):
  (results fn tmps).run P w=.ok (.tuple #[.agg cs,tmps.getD u undef]) w:=by
 have hp':tmps[p]?.getD undef=.pointer (some ⟨g,0,none⟩):=by simpa using hp
 simp [results,h,hp',asAddr,run_loadVar_row w g t ty cs fr d hg hu hd hi]
structure Base (c:zO) (N:Nat) (k:ByteArray) (w2 w3:World) (d0:zj):Prop where
 a:zu w3 d0
 F:d0.F=zBj c k
 inv:yL d0.F N∧GQ d0.F∧d0.F.se=c.se∧d0.F.re=c.re
 T:∀i,d0.T i→(∃d,(k,d)∈c.G∧d.T i)∨w2.heap.size≤i
 f:Fr (fun _=>False) w2 w3
 ne:¬(yD c.G k=none∧20≤c.G.length)
 len:∀d',(zHt c.G k d').length≤20
 c:xd w2 c N
 hk:k.size≠0
 sz:k.size≤100
theorem Base.gm {c:zO} {N:Nat} {k:ByteArray} {w2 w3:World} {d0:zj} (h:Base c N k w2 w3 d0):∀i,d0.T i→¬c.B i:=fun i hi hb=>by
 rcases h.T i hi with ⟨d,hm,hd⟩ | h1
 ·exact h.c.off _ hm i hd hb
 ·have:=(h.c.low.1 i hb).2
  omega
theorem zRz {c:zO} {N:Nat} (h:xd w c N) (hN:N≤900000) (k:ByteArray) (hk:k.size≤100) (m now:Int) (hm:-1≤m∧m≤2199023255552) (tl:List ByteArray) (tv:Value) (htl:xS K w tv tl) (hk2:∀i,K i→i < w.heap.size∧¬c.T i) (hl:tl.length≤1000):
  Calls Tryz.prog 80 #[.pointer (some ⟨c.cb,0,none⟩),.string k,.int .i64 m,tv,.int .i64 now] w (zYi c N k m tl now w):=by
 obtain ⟨to,tc,rfl,-⟩:=id htl;have f2:=(Fr.same w).alloc (.cells #[.int .i64 0,.int .i64 0,.int .i64 0] 171);have RB:=zz (zC w (.cells #[.int .i64 0,.int .i64 0,.int .i64 0] 171));have H:=zz h;have H2:=zz (h.old f2);have F2:=zz f2;have HTL:=zz htl;have HK2:=zz hk2;have hsr:=h.sr;obtain ⟨⟨s1,s2⟩,s3,s4⟩:=hsr;have dd:=fun j=>zB H2.out.b j
 have hlk:=H2.out.look (k:=k) (by unfold maxLen; omega);have hln:=H2.out.map.len 137 3 ⟨131,Tryz.underlying137⟩;rw [show (jl c.G).length=c.G.length by unfold jl; rw [List.length_map]] at hln;have n1:¬(100:Int) < (k.size:Int):=by omega
 clear h f2 htl hk2;by_cases hk0:k.size=0
 ·have hn5:k.toList.isEmpty=true:=by rw [(zDe k).2 hk0]; rfl
  have HK0:=zz hk0;clear hlk hln dd n1;have XR:=zz (setRow_heap _ w.heap.size _ #[.int .i64 0,.int .i64 0,.int .i64 0] 171 (0,0) RB.out);have FR:=zz (zZ F2.out (g:=w.heap.size) (.inr (Nat.le_refl _)) #[.int .i64 0,.int .i64 0,.int .i64 0]);go_enter Tryz.func80,Tryz.ntmps80
  go_wp2_with (refine zQ rfl _ _ rfl w.heap.size 0 0 0 rfl rfl _ RB.out rfl ?_)
  try simp only [Exit.inBlock,Exit.then]
  refine bodyPost_ret (xK rfl _ _ w.heap.size 171 _ (0,0) _ rfl XR.out Tryz.underlying171 rfl (by kernel_rfl)) rfl ?_;exact ⟨0,0,0,1,c,rfl,.same H.out FR.out,.inl ⟨HK0.out,rfl,rfl,rfl,rfl,rfl⟩⟩
 ·have hne:¬k.toList=[]:=fun e=>by
   rw [yv.2 e] at hk0;simp at hk0
  have hn5:k.toList.isEmpty=false:=by simpa using hne
  have HK0:=zz hk0;clear hne hk0;cases hf:yD c.G k with
  | some d0=>
   rw [hf] at hlk;dsimp only [zDf,vr,Option.isSome_some] at hlk;have BS:=zz (show Base c N k (w.alloc (.cells #[.int .i64 0,.int .i64 0,.int .i64 0] 171)) (w.alloc (.cells #[.int .i64 0,.int .i64 0,.int .i64 0] 171)) d0 from
    ⟨H2.out.grp _ (xh hf),by unfold zBj; rw [hf],H2.out.inv _ (xh hf),fun i hi=>.inl ⟨d0,xh hf,hi⟩,Fr.same _,fun e=>(by rw [hf] at e; cases e.1),fun d'=>Nat.le_trans (addG_len hf d') H2.out.len,H2.out,HK0.out,hk⟩)
   clear hf;go_enter Tryz.func80,Tryz.ntmps80
   go_wp2_with fail
   clear hln hlk dd;obtain ⟨w2,hw2⟩:∃w2,w2=w.alloc (.cells #[.int .i64 0,.int .i64 0,.int .i64 0] 171):=⟨_,rfl⟩;rw [←hw2] at RB H2 F2 BS ⊢;clear hw2;have JW:=zz (zOz BS.out.a BS.out.inv.1 (by omega) tl to tl.length tc (HTL.out.old (F2.out.tr BS.out.f)) (K:=K) (fun i hi hw=>by
     rcases BS.out.T i (W_T d0 i hw) with ⟨d,hm,hd⟩ | h1
     ·exact (HK2.out i hi).2 (.inr ⟨_,hm,hd⟩)
     ·have:=(HK2.out i hi).1
      have:=F2.out.size
      omega) hl m now hm)
   have RB3:=zz ((BS.out.f.block w.heap.size (zA RB.out) fun h=>h).trans RB.out);go_wp2_with fail
   refine JW.out.mono ?_;rintro e w4 hcase;rcases hcase with ⟨hno,rfl,f4⟩ | ⟨hok,hje,rfl,f4⟩ | ⟨hok,hje,ta',tc',v,K',rfl,g4,hK4,hv4,f4⟩
   ·have RB4:=zz ((f4.block w.heap.size (zA RB3.out) fun h=>h).trans RB3.out)
    have F4:=zz ((F2.out.tr BS.out.f).tr f4);have NO:=zz hno;clear hno f4 JW;have XR:=zz (setRow_heap _ w.heap.size _ #[.int .i64 0,.int .i64 0,.int .i64 0] 171 (0,0) RB4.out);have FR:=zz (zZ F4.out (g:=w.heap.size) (.inr (Nat.le_refl _)) #[.int .i64 0,.int .i64 0,.int .i64 0]);go_wp2_with (refine zQ rfl _ _ rfl w.heap.size 0 0 0 rfl rfl _ RB4.out rfl ?_)
    try simp only [Exit.inBlock,Exit.then]
    refine bodyPost_ret (xK rfl _ _ w.heap.size 171 _ (0,0) _ rfl XR.out Tryz.underlying171 rfl (by kernel_rfl)) rfl ?_;exact ⟨0,0,0,1,c,rfl,.same H.out FR.out,.inr (.inr (.inl ⟨BS.out.hk,BS.out.ne,NO.out,rfl,rfl,rfl,rfl,rfl⟩))⟩
   ·have RB4:=zz ((f4.block w.heap.size (zA RB3.out) fun h=>h).trans RB3.out)
    have F4:=zz ((F2.out.tr BS.out.f).tr f4);have OK:=zz hok;have JE:=zz hje;have hj2:(yX m d0.F != 0)=true:=by rw [bne_iff_ne]; exact hje
    clear hok f4 JW;have XR:=zz (setRow_heap _ w.heap.size _ #[.int .i64 0,.int .i64 0,.int .i64 0] 171 (0,0) RB4.out);have FR:=zz (zZ F4.out (g:=w.heap.size) (.inr (Nat.le_refl _)) #[.int .i64 0,.int .i64 0,.int .i64 0]);go_wp2_with (refine zQ rfl _ _ rfl w.heap.size 0 0 0 rfl rfl _ RB4.out rfl ?_)
    try simp only [Exit.inBlock,Exit.then]
    refine bodyPost_ret (xK rfl _ _ w.heap.size 171 _ (0,0) _ rfl XR.out Tryz.underlying171 rfl (by kernel_rfl)) rfl ?_;exact ⟨0,0,0,yX m d0.F,c,rfl,.same H.out FR.out,.inr (.inr (.inr (.inl ⟨BS.out.hk,BS.out.ne,OK.out,by rw [←BS.out.F]; exact JE.out,by rw [BS.out.F],rfl,rfl,rfl,rfl⟩)))⟩
   ·generalize hrm:(if m= -1 then d0.F.nx else m)=rm at *
    have HRM:=zz hrm;clear hrm;have hrb:¬d0.T w.heap.size:=fun h=>by
     rcases BS.out.T _ h with ⟨d,hm,hd⟩ | h1
     ·have:=(H.out.low.2 _ hm _ hd).2
      omega
     ·have:=zA RB.out
      omega
    have RB4:=zz ((f4.block w.heap.size (zA RB3.out) fun h=>hrb (W_T d0 _ h)).trans RB3.out);have OK:=zz hok;have JE:=zz hje;have G4:=zz g4;have HK4:=zz (show ∀i,(⟨d0.gb,jy now (xW rm now tl ta' tc' (xA now (if m= -1 then zg d0.F else d0.F))),v,K'⟩:zj).T i→d0.T i∨w2.heap.size≤i from fun i hi=>by
     rcases hi with hi | hi | hi
     ·exact .inl (.inl hi)
     ·exact (hv4 i hi).imp (fun h=>.inr (.inl h)) id
     ·exact (hK4 i hi).imp (fun h=>.inr (.inr h)) id)
    have F4:=zz (f4.mono (S':=d0.T) fun i hi=>.inl (W_T d0 i hi));obtain ⟨FN,hFN⟩:∃FN,FN=jy now (xW rm now tl ta' tc' (xA now (if m= -1 then zg d0.F else d0.F))):=⟨_,rfl⟩;rw [←hFN] at G4 HK4;have IV:=zz (show yL FN (N+2)∧GQ FN∧FN.se=c.se∧FN.re=c.re∧FN.zs≠[] from by
     rw [hFN,←HRM.out];exact ⟨BS.out.inv.1.join hok.1 hje tl ta' tc',BS.out.inv.2.1.join m now tl ta' tc' hok.2.2.1,(zDb m now tl ta' tc' d0.F).1.trans BS.out.inv.2.2.1,(zDb m now tl ta' tc' d0.F).2.trans BS.out.inv.2.2.2,zHu hje⟩)
    have HFN:=zz (show FN=zPa m now tl ta' tc' (zBj c k) from by rw [hFN,←HRM.out,BS.out.F]; rfl);have M4:=zz ((BS.out.c.map.fr (BS.out.f) fun h=>h).fr F4.out fun h=>BS.out.gm _ h (.inr (.inl rfl)));have C4:=zz (((BS.out.c.old BS.out.f).b ▸ (F4.out.block c.cb (zA (BS.out.c.old BS.out.f).b) fun h=>BS.out.gm _ h (.inl rfl)):w4.heap[c.cb]?=_));have dc:=(zB C4.out 2).trans (show _=some (Value.map (some c.gm)) from rfl);have GML:=zz (show (jl c.G).length < 1000000 from by unfold jl; rw [List.length_map]; have:=BS.out.c.len; omega);have KSZ:=zz BS.out.sz;clear hok hje g4 hK4 hv4 f4 hFN hrb JW;go_wp2_with (at_mapUpdate; refine uJ vz _ rfl 137 131 Tryz.underlying137 (.tmp 74) (.tmp 75) (.tmp 76) rfl c.gm (jl c.G) rfl M4.out GML.out k rfl (show k.size≤maxLen by have:=KSZ.out; unfold maxLen; omega) (.pointer (some ⟨d0.gb,0,none⟩)) rfl ?_)
    intro w5 hm5 hg5;have f5:Fr (fun i=>i=c.gm) w4 w5:=(Fr.refl (fun i=>i=c.gm) w4).grown hg5 fun x e=>.inl (by cases e; rfl)
    have hgm:¬(⟨d0.gb,FN,v,K'⟩:zj).T c.gm:=fun h=>by
     rcases HK4.out _ h with h | h
     ·exact BS.out.gm _ h (.inr (.inl rfl))
     ·have:=BS.out.c.map.lt
      have:=BS.out.f.size
      omega
    have RB5:=zz ((f5.block w.heap.size (zA RB4.out) fun e=>by have:=H.out.map.lt; omega).trans RB4.out);have G5:=zz (G4.out.fr f5 fun i hi e=>hgm (by rw [←e]; exact hi));have F25:=zz (((BS.out.f.mono (S':=fun i=>i=c.gm∨∃d,(k,d)∈c.G∧d.T i) fun _ h=>h.elim).trans F4.out fun i hi=>(BS.out.T i hi).imp (fun h=>.inr h) id).trans f5 fun i e=>.inl (.inl e));have TG:=zz (show ∀i,({ c with G:=zHt c.G k ⟨d0.gb,FN,v,K'⟩ } :zO).T i→(c.T i∧i < w.heap.size)∨w.heap.size < i from fun i hi=>by
     have hsz:=zA RB.out;have hs3:=BS.out.f.size;rcases hi with hi | ⟨x,hx,hi⟩
     ·exact .inl ⟨.inl hi,(H.out.low.1 i hi).2⟩
     ·rcases List.mem_cons.1 hx with rfl | hx
      ·rcases HK4.out i hi with h | h
       ·rcases BS.out.T i h with ⟨d,hm,hd⟩ | h
        ·exact .inl ⟨.inr ⟨_,hm,hd⟩,(H.out.low.2 _ hm i hd).2⟩
        ·exact .inr (by omega)
       ·exact .inr (by omega)
      ·exact .inl ⟨.inr ⟨x,(List.mem_filter.1 hx).1,hi⟩,(H.out.low.2 x (List.mem_filter.1 hx).1 i hi).2⟩)
    have CP:=zz (BS.out.c.put (M:=N+2) G5.out (fun i hi=>by
     rcases HK4.out i hi with h | h
     ·exact BS.out.T i h
     ·exact .inr (Nat.le_trans BS.out.f.size h)) F25.out hm5 (by omega) ⟨IV.out.1,IV.out.2.1,IV.out.2.2.1,IV.out.2.2.2.1⟩ (BS.out.len _))
    have VW:=zz (zEb G5.out (Nat.le_trans IV.out.1.len (by omega)) IV.out.2.1);dsimp only at VW;clear hm5 hg5 f5 hgm dc;go_wp2_with fail
    refine VW.out.mono ?_;rintro e w6 ⟨vv,ys,rfl,hrow,hsm,f6⟩;obtain ⟨z0,hz0⟩:∃z,FN.zs[0]?=some z:=zH (Nat.pos_of_ne_zero fun h=>IV.out.2.2.2.2 (List.eq_nil_of_length_eq_zero h));have hyl:0 < ys.length:=by have:=(List.getElem?_eq_some_iff.1 hz0).1; have:=hsm.1; omega
    obtain ⟨y0,hy0⟩:=zH hyl;obtain ⟨z1,hz1,hym⟩:=hsm.2 0 y0 hy0;obtain rfl:=Option.some.inj (hz0.symm.trans hz1);obtain ⟨gy,cy,hvv,-,hat⟩:=hrow.at hy0;subst hvv;have cy0:=hat.c0;rw [Nat.zero_mul,hym] at cy0;have FI:=zz (show vO FN.zs=z0.m.id from by
     cases hzs:FN.zs with
     | nil=>rw [hzs] at hz0; simp at hz0
     | cons y l=>rw [hzs] at hz0; simp at hz0; rw [hz0]; rfl)
    have fa:=f6.alloc (.cells #[.int .i64 FN.ph,.int .i64 FN.ge,.int .i64 FN.nx,.int .i64 FN.un,.slice (some ⟨gy,0,none⟩) ys.length cy] 214);have ca:=fun j=>zD w6 #[.int .i64 FN.ph,.int .i64 FN.ge,.int .i64 FN.nx,.int .i64 FN.un,.slice (some ⟨gy,0,none⟩) ys.length cy] 214 j
    have cya:=((Fr.same w6).alloc (.cells #[.int .i64 FN.ph,.int .i64 FN.ge,.int .i64 FN.nx,.int .i64 FN.un,.slice (some ⟨gy,0,none⟩) ys.length cy] 214)).cel cy0;have FA:=zz fa;clear hrow hsm f6 hz0 hz1 hy0 hym hat cy0 fa VW;go_wp2_with fail
    generalize w6.alloc (.cells #[.int .i64 FN.ph,.int .i64 FN.ge,.int .i64 FN.nx,.int .i64 FN.un,.slice (some ⟨gy,0,none⟩) ys.length cy] 214)=wa at *;have y1:∀y:Lcl.InS (fun w'=>Fr (fun _=>False) wa w'),y.w.cell? ⟨w6.heap.size,1,none⟩=some (.int .i64 FN.ge):=fun y=>y.h.cel (ca 1)
    have y4:∀y:Lcl.InS (fun w'=>Fr (fun _=>False) wa w'),y.w.cell? ⟨w6.heap.size,4,none⟩=some (.slice (some ⟨gy,0,none⟩) ys.length cy):=fun y=>y.h.cel (ca 4)
    have y5:∀y:Lcl.InS (fun w'=>Fr (fun _=>False) wa w'),y.w.cell? ⟨gy,0,none⟩=some (.int .i64 z0.m.id):=fun y=>y.h.cel cya
    have FD:=zz (Fr.same wa).drew;clear ca cya;refine Lcl.wp_region_calm (by kernel_rfl) [(true,[0,1,3]),(false,[2,4]),(true,[5,6]),(false,[7]),(true,[8])] #[0,0,2,0,8,24,56,120,255,511,1023] [0,1,2,3,4,5,6,7] 2 #[true,true,true,true,true,true,true,true,true,false,false] (by kernel_rfl) (by kernel_rfl) (by kernel_rfl) (fun w'=>Fr (fun _=>False) wa w') (Fr.same wa).drew (fun d c a v w h=>by cases d <;> exact h) ?_;simp only [Lcl.opsOf,List.map_cons,List.map_nil,List.getElem?_toArray,List.getElem?_cons_succ,List.getElem?_cons_zero,Option.getD_some];refine Lcl.wpCalm_t ?_
    repeat (go_big_quiet_step (rfl))
    refine wpQuiet_nil ?_;refine Lcl.wpCalm_f ?_
    repeat (go_big_quiet_step (rfl))
    refine wpQuiet_nil ?_;refine Lcl.wpCalm_t ?_
    repeat (go_big_quiet_step (rfl))
    refine wpQuiet_nil ?_;refine Lcl.wpCalm_f ?_
    repeat (go_big_quiet_step (rfl))
    refine wpQuiet_nil ?_;refine Lcl.wpCalm_t ?_
    repeat (go_big_quiet_step (rfl))
    refine wpQuiet_nil ?_;refine Lcl.wpCalm_nil ?_;clear y1 y4 y5;generalize wa.drew=wd at *;have F5d:=zz (FA.out.tr FD.out);have RBd:=zz ((F5d.out.block w.heap.size (zA RB5.out) fun h=>h).trans RB5.out);have XR:=zz (setRow_heap _ w.heap.size _ #[.int .i64 rm,.int .i64 FN.ge,.int .i64 z0.m.id] 171 (0,0) RBd.out);have FR:=zz (zZ ((F5d.out.mono (S':=fun i=>i=w.heap.size) fun _ h=>h.elim)) (g:=w.heap.size) (.inl rfl) #[.int .i64 rm,.int .i64 FN.ge,.int .i64 z0.m.id]);refine Lcl.wpG_run [9,10] _ _ _ (by kernel_rfl) ?_;simp only [List.map_cons,List.map_nil,List.getElem?_toArray,List.getElem?_cons_succ,List.getElem?_cons_zero,Option.getD_some];go_wp2_with (refine zQ rfl _ _ rfl w.heap.size rm FN.ge z0.m.id rfl rfl _ RBd.out rfl ?_)
    try simp only [Exit.inBlock,Exit.then]
    refine bodyPost_ret (xK rfl _ _ w.heap.size 171 _ (0,0) _ rfl XR.out Tryz.underlying171 rfl (by kernel_rfl)) rfl ?_;refine ⟨_,_,_,0,_,rfl,⟨CP.out.fr FR.out fun i hi e=>?_,rfl,fun i hi=>?_,?_⟩,.inr (.inr (.inr (.inr ⟨BS.out.hk,BS.out.ne,OK.out,by rw [←BS.out.F]; exact JE.out,rfl,ta',tc',_,HFN.out,rfl,by rw [←HRM.out,BS.out.F],rfl,FI.out.symm⟩)))⟩
    ·have:=TG.out i hi
     rcases this with h | h
     ·exact absurd e (Nat.ne_of_lt h.2)
     ·exact absurd e (Nat.ne_of_gt h)
    ·exact (TG.out i hi).imp (fun h=>h.1) Nat.le_of_lt
    ·refine ((F2.out.mono (S':=c.T) fun _ h=>h.elim).trans F25.out fun i hi=>.inl ?_).trans FR.out fun i e=>.inr (Nat.le_of_eq e.symm)
     rcases hi with rfl | ⟨d,hm,hd⟩
     ·exact .inl (.inr (.inl rfl))
     ·exact .inr ⟨_,hm,hd⟩
  | none=>
   rw [hf] at hlk;dsimp only [zDf,Option.isSome_none] at hlk;by_cases hfull:c.G.length < 20
   ·have g1:decide ((20:Int)≤(c.G.length:Int))=false:=by simp; omega
    have HF:=zz hf;clear hf;go_enter Tryz.func80,Tryz.ntmps80
    go_wp2_with fail
    have NW:=zz (fun w' (hw:Fr (fun _=>False) (w.alloc (.cells #[.int .i64 0,.int .i64 0,.int .i64 0] 171)) w')=>zRy c.se c.re ⟨s1,s2⟩ ⟨s3,s4⟩ w' (Nat.lt_of_lt_of_le (Nat.lt_of_le_of_lt (Nat.zero_le _) (zA RB.out)) hw.size));have q0:=dd 0;have q1:=dd 1;clear hln hlk dd g1;obtain ⟨w2,hw2⟩:∃w2,w2=w.alloc (.cells #[.int .i64 0,.int .i64 0,.int .i64 0] 171):=⟨_,rfl⟩;rw [←hw2] at RB H2 F2 NW q0 q1 ⊢;clear hw2;apply Lcl.region_alike (F:=fun b w'=>zu w' ⟨b,zOy c.se c.re,.slice none 0 0,fun _=>False⟩∧w2.heap.size≤b∧Fr (fun _=>False) w2 w')
    case hr=>
     have y0:∀y:Lcl.InS (fun w'=>Fr (fun _=>False) w2 w'),y.w.cell? ⟨c.cb,0,none⟩=some (.int .i64 c.se):=fun y=>y.h.cel q0
     have y1:∀y:Lcl.InS (fun w'=>Fr (fun _=>False) w2 w'),y.w.cell? ⟨c.cb,1,none⟩=some (.int .i64 c.re):=fun y=>y.h.cel q1
     refine Lcl.wp_region_calm (by kernel_rfl) [(true,[0,1,2,4,5,6]),(false,[3,7])] #[0,1,3,7,0,16,48,112,255,511,1023,1023,2047] [0,1,2,3,4,5,6,7] 5 #[true,true,true,true,true,true,true,true,false,false,false,false,false] (by kernel_rfl) (by kernel_rfl) (by kernel_rfl) (fun w'=>Fr (fun _=>False) w2 w') (Fr.same w2).drew (fun d c a v w h=>by cases h.1) ?_;simp only [Lcl.opsOf,List.map_cons,List.map_nil,List.getElem?_toArray,List.getElem?_cons_succ,List.getElem?_cons_zero,Option.getD_some];refine Lcl.wpCalm_t ?_
     repeat (go_big_quiet_step (rfl))
     refine wpQuiet_nil ?_;refine Lcl.wpCalm_f ?_
     repeat (go_big_quiet_step (rfl))
     refine wpQuiet_nil ?_;refine Lcl.wpCalm_nil ?_;clear y0 y1;have FD:=zz (Fr.same w2).drew;have NW2:=zz (NW.out _ FD.out);refine Lcl.wpG_one 8 rfl (by kernel_rfl) ?_;go_wp2_with fail
     refine NW2.out.mono ?_;rintro e w5 ⟨gb,rfl,hg,hlow,f5⟩;have fin:zu w5 ⟨gb,zOy c.se c.re,.slice none 0 0,fun _=>False⟩∧w2.heap.size≤gb∧Fr (fun _=>False) w2 w5:=⟨hg,Nat.le_trans FD.out.size hlow,FD.out.tr f5⟩;have FIN:=zz fin;clear fin hg hlow f5 NW2;go_wp2_with fail
     refine ⟨fun h=>absurd h (by decide),?_⟩;refine Lcl.wpG_one 9 rfl (by kernel_rfl) ?_;go_wp2_with fail
     refine ⟨fun h=>absurd h (by decide),?_⟩;refine Lcl.wpG_two 10 11 rfl rfl (by kernel_rfl) ?_ ?_
     ·go_wp2_with fail
      refine ⟨fun h=>absurd h (by decide),?_⟩;refine Lcl.wpG_two 11 12 rfl rfl (by kernel_rfl) ?_ ?_
      ·go_wp2_with fail
       refine ⟨fun h=>absurd h (by decide),?_⟩;refine Lcl.wpG_run [12] _ _ _ (by kernel_rfl) ?_;simp only [List.map_cons,List.map_nil,List.getElem?_toArray,List.getElem?_cons_succ,List.getElem?_cons_zero,Option.getD_some];go_wp2_with fail
       exact ⟨gb,rfl,FIN.out⟩
      ·go_wp2_with fail
       refine ⟨fun h=>absurd h (by decide),?_⟩;refine Lcl.wpG_run [11] _ _ _ (by kernel_rfl) ?_;simp only [List.map_cons,List.map_nil,List.getElem?_toArray,List.getElem?_cons_succ,List.getElem?_cons_zero,Option.getD_some];go_wp2_with fail
       first | exact ⟨gb,rfl,FIN.out⟩ | exact FIN.out
     ·go_wp2_with fail
      refine ⟨fun h=>absurd h (by decide),?_⟩;refine Lcl.wpG_run [10,12] _ _ _ (by kernel_rfl) ?_;simp only [List.map_cons,List.map_nil,List.getElem?_toArray,List.getElem?_cons_succ,List.getElem?_cons_zero,Option.getD_some];go_wp2_with fail
      first | exact ⟨gb,rfl,FIN.out⟩ | exact FIN.out
    rintro gb w3 ⟨hg,hlow,hf3⟩;have hiv:=new_inv H2.out;obtain ⟨d0,hd0⟩:∃d0:zj,d0=⟨gb,zOy c.se c.re,.slice none 0 0,fun _=>False⟩:=⟨_,rfl⟩;have hgb:gb=d0.gb:=by rw [hd0]
    have BS:=zz (show Base c N k w2 w3 d0 from
     ⟨by rw [hd0]; exact hg,by rw [hd0]; unfold zBj; rw [HF.out],by rw [hd0]; exact ⟨hiv.1,hiv.2,rfl,rfl⟩,fun i hi=>.inr (by
      rw [hd0] at hi;rcases hi with hi | hi | hi
      ·rw [hi]; exact hlow
      ·simp [Value.ownBlock] at hi
      ·exact hi.elim),hf3,fun e=>(by omega),fun d'=>(by unfold zHt; rw [List.length_cons]; have:=List.length_filter_le (fun x=>decide (x.1≠k)) c.G; omega),H2.out,HK0.out,hk⟩)
    subst hgb;clear hg hlow hf3 hiv hd0 q0 q1 NW;have JW:=zz (zOz BS.out.a BS.out.inv.1 (by omega) tl to tl.length tc (HTL.out.old (F2.out.tr BS.out.f)) (K:=K) (fun i hi hw=>by
      rcases BS.out.T i (W_T d0 i hw) with ⟨d,hm,hd⟩ | h1
      ·exact (HK2.out i hi).2 (.inr ⟨_,hm,hd⟩)
      ·have:=(HK2.out i hi).1
       have:=F2.out.size
       omega) hl m now hm)
    have RB3:=zz ((BS.out.f.block w.heap.size (zA RB.out) fun h=>h).trans RB.out);go_wp2_with fail
    refine JW.out.mono ?_;rintro e w4 hcase;rcases hcase with ⟨hno,rfl,f4⟩ | ⟨hok,hje,rfl,f4⟩ | ⟨hok,hje,ta',tc',v,K',rfl,g4,hK4,hv4,f4⟩
    ·have RB4:=zz ((f4.block w.heap.size (zA RB3.out) fun h=>h).trans RB3.out)
     have F4:=zz ((F2.out.tr BS.out.f).tr f4);have NO:=zz hno;clear hno f4 JW;have XR:=zz (setRow_heap _ w.heap.size _ #[.int .i64 0,.int .i64 0,.int .i64 0] 171 (0,0) RB4.out);have FR:=zz (zZ F4.out (g:=w.heap.size) (.inr (Nat.le_refl _)) #[.int .i64 0,.int .i64 0,.int .i64 0]);go_wp2_with (refine zQ rfl _ _ rfl w.heap.size 0 0 0 rfl rfl _ RB4.out rfl ?_)
     try simp only [Exit.inBlock,Exit.then]
     refine bodyPost_ret (xK rfl _ _ w.heap.size 171 _ (0,0) _ rfl XR.out Tryz.underlying171 rfl (by kernel_rfl)) rfl ?_;exact ⟨0,0,0,1,c,rfl,.same H.out FR.out,.inr (.inr (.inl ⟨BS.out.hk,BS.out.ne,NO.out,rfl,rfl,rfl,rfl,rfl⟩))⟩
    ·have RB4:=zz ((f4.block w.heap.size (zA RB3.out) fun h=>h).trans RB3.out)
     have F4:=zz ((F2.out.tr BS.out.f).tr f4);have OK:=zz hok;have JE:=zz hje;have hj2:(yX m d0.F != 0)=true:=by rw [bne_iff_ne]; exact hje
     clear hok f4 JW;have XR:=zz (setRow_heap _ w.heap.size _ #[.int .i64 0,.int .i64 0,.int .i64 0] 171 (0,0) RB4.out);have FR:=zz (zZ F4.out (g:=w.heap.size) (.inr (Nat.le_refl _)) #[.int .i64 0,.int .i64 0,.int .i64 0]);go_wp2_with (refine zQ rfl _ _ rfl w.heap.size 0 0 0 rfl rfl _ RB4.out rfl ?_)
     try simp only [Exit.inBlock,Exit.then]
     refine bodyPost_ret (xK rfl _ _ w.heap.size 171 _ (0,0) _ rfl XR.out Tryz.underlying171 rfl (by kernel_rfl)) rfl ?_;exact ⟨0,0,0,yX m d0.F,c,rfl,.same H.out FR.out,.inr (.inr (.inr (.inl ⟨BS.out.hk,BS.out.ne,OK.out,by rw [←BS.out.F]; exact JE.out,by rw [BS.out.F],rfl,rfl,rfl,rfl⟩)))⟩
    ·generalize hrm:(if m= -1 then d0.F.nx else m)=rm at *
     have HRM:=zz hrm;clear hrm;have hrb:¬d0.T w.heap.size:=fun h=>by
      rcases BS.out.T _ h with ⟨d,hm,hd⟩ | h1
      ·have:=(H.out.low.2 _ hm _ hd).2
       omega
      ·have:=zA RB.out
       omega
     have RB4:=zz ((f4.block w.heap.size (zA RB3.out) fun h=>hrb (W_T d0 _ h)).trans RB3.out);have OK:=zz hok;have JE:=zz hje;have G4:=zz g4;have HK4:=zz (show ∀i,(⟨d0.gb,jy now (xW rm now tl ta' tc' (xA now (if m= -1 then zg d0.F else d0.F))),v,K'⟩:zj).T i→d0.T i∨w3.heap.size≤i from fun i hi=>by
      rcases hi with hi | hi | hi
      ·exact .inl (.inl hi)
      ·exact (hv4 i hi).imp (fun h=>.inr (.inl h)) id
      ·exact (hK4 i hi).imp (fun h=>.inr (.inr h)) id)
     have F4:=zz (f4.mono (S':=d0.T) fun i hi=>.inl (W_T d0 i hi));obtain ⟨FN,hFN⟩:∃FN,FN=jy now (xW rm now tl ta' tc' (xA now (if m= -1 then zg d0.F else d0.F))):=⟨_,rfl⟩;rw [←hFN] at G4 HK4;have IV:=zz (show yL FN (N+2)∧GQ FN∧FN.se=c.se∧FN.re=c.re∧FN.zs≠[] from by
      rw [hFN,←HRM.out];exact ⟨BS.out.inv.1.join hok.1 hje tl ta' tc',BS.out.inv.2.1.join m now tl ta' tc' hok.2.2.1,(zDb m now tl ta' tc' d0.F).1.trans BS.out.inv.2.2.1,(zDb m now tl ta' tc' d0.F).2.trans BS.out.inv.2.2.2,zHu hje⟩)
     have HFN:=zz (show FN=zPa m now tl ta' tc' (zBj c k) from by rw [hFN,←HRM.out,BS.out.F]; rfl);have M4:=zz ((BS.out.c.map.fr (BS.out.f) fun h=>h).fr F4.out fun h=>BS.out.gm _ h (.inr (.inl rfl)));have C4:=zz (((BS.out.c.old BS.out.f).b ▸ (F4.out.block c.cb (zA (BS.out.c.old BS.out.f).b) fun h=>BS.out.gm _ h (.inl rfl)):w4.heap[c.cb]?=_));have dc:=(zB C4.out 2).trans (show _=some (Value.map (some c.gm)) from rfl);have GML:=zz (show (jl c.G).length < 1000000 from by unfold jl; rw [List.length_map]; have:=BS.out.c.len; omega);have KSZ:=zz BS.out.sz;clear hok hje g4 hK4 hv4 f4 hFN hrb JW;go_wp2_with (at_mapUpdate; refine uJ vz _ rfl 137 131 Tryz.underlying137 (.tmp 74) (.tmp 75) (.tmp 76) rfl c.gm (jl c.G) rfl M4.out GML.out k rfl (show k.size≤maxLen by have:=KSZ.out; unfold maxLen; omega) (.pointer (some ⟨d0.gb,0,none⟩)) rfl ?_)
     intro w5 hm5 hg5;have f5:Fr (fun i=>i=c.gm) w4 w5:=(Fr.refl (fun i=>i=c.gm) w4).grown hg5 fun x e=>.inl (by cases e; rfl)
     have hgm:¬(⟨d0.gb,FN,v,K'⟩:zj).T c.gm:=fun h=>by
      rcases HK4.out _ h with h | h
      ·exact BS.out.gm _ h (.inr (.inl rfl))
      ·have:=BS.out.c.map.lt
       have:=BS.out.f.size
       omega
     have RB5:=zz ((f5.block w.heap.size (zA RB4.out) fun e=>by have:=H.out.map.lt; omega).trans RB4.out);have G5:=zz (G4.out.fr f5 fun i hi e=>hgm (by rw [←e]; exact hi));have F25:=zz (((BS.out.f.mono (S':=fun i=>i=c.gm∨∃d,(k,d)∈c.G∧d.T i) fun _ h=>h.elim).trans F4.out fun i hi=>(BS.out.T i hi).imp (fun h=>.inr h) id).trans f5 fun i e=>.inl (.inl e));have TG:=zz (show ∀i,({ c with G:=zHt c.G k ⟨d0.gb,FN,v,K'⟩ } :zO).T i→(c.T i∧i < w.heap.size)∨w.heap.size < i from fun i hi=>by
      have hsz:=zA RB.out;have hs3:=BS.out.f.size;rcases hi with hi | ⟨x,hx,hi⟩
      ·exact .inl ⟨.inl hi,(H.out.low.1 i hi).2⟩
      ·rcases List.mem_cons.1 hx with rfl | hx
       ·rcases HK4.out i hi with h | h
        ·rcases BS.out.T i h with ⟨d,hm,hd⟩ | h
         ·exact .inl ⟨.inr ⟨_,hm,hd⟩,(H.out.low.2 _ hm i hd).2⟩
         ·exact .inr (by omega)
        ·exact .inr (by omega)
       ·exact .inl ⟨.inr ⟨x,(List.mem_filter.1 hx).1,hi⟩,(H.out.low.2 x (List.mem_filter.1 hx).1 i hi).2⟩)
     have CP:=zz (BS.out.c.put (M:=N+2) G5.out (fun i hi=>by
      rcases HK4.out i hi with h | h
      ·exact BS.out.T i h
      ·exact .inr (Nat.le_trans BS.out.f.size h)) F25.out hm5 (by omega) ⟨IV.out.1,IV.out.2.1,IV.out.2.2.1,IV.out.2.2.2.1⟩ (BS.out.len _))
     have VW:=zz (zEb G5.out (Nat.le_trans IV.out.1.len (by omega)) IV.out.2.1);dsimp only at VW;clear hm5 hg5 f5 hgm dc;go_wp2_with fail
     refine VW.out.mono ?_;rintro e w6 ⟨vv,ys,rfl,hrow,hsm,f6⟩;obtain ⟨z0,hz0⟩:∃z,FN.zs[0]?=some z:=zH (Nat.pos_of_ne_zero fun h=>IV.out.2.2.2.2 (List.eq_nil_of_length_eq_zero h));have hyl:0 < ys.length:=by have:=(List.getElem?_eq_some_iff.1 hz0).1; have:=hsm.1; omega
     obtain ⟨y0,hy0⟩:=zH hyl;obtain ⟨z1,hz1,hym⟩:=hsm.2 0 y0 hy0;obtain rfl:=Option.some.inj (hz0.symm.trans hz1);obtain ⟨gy,cy,hvv,-,hat⟩:=hrow.at hy0;subst hvv;have cy0:=hat.c0;rw [Nat.zero_mul,hym] at cy0;have FI:=zz (show vO FN.zs=z0.m.id from by
      cases hzs:FN.zs with
      | nil=>rw [hzs] at hz0; simp at hz0
      | cons y l=>rw [hzs] at hz0; simp at hz0; rw [hz0]; rfl)
     have fa:=f6.alloc (.cells #[.int .i64 FN.ph,.int .i64 FN.ge,.int .i64 FN.nx,.int .i64 FN.un,.slice (some ⟨gy,0,none⟩) ys.length cy] 214);have ca:=fun j=>zD w6 #[.int .i64 FN.ph,.int .i64 FN.ge,.int .i64 FN.nx,.int .i64 FN.un,.slice (some ⟨gy,0,none⟩) ys.length cy] 214 j
     have cya:=((Fr.same w6).alloc (.cells #[.int .i64 FN.ph,.int .i64 FN.ge,.int .i64 FN.nx,.int .i64 FN.un,.slice (some ⟨gy,0,none⟩) ys.length cy] 214)).cel cy0;have FA:=zz fa;clear hrow hsm f6 hz0 hz1 hy0 hym hat cy0 fa VW;go_wp2_with fail
     generalize w6.alloc (.cells #[.int .i64 FN.ph,.int .i64 FN.ge,.int .i64 FN.nx,.int .i64 FN.un,.slice (some ⟨gy,0,none⟩) ys.length cy] 214)=wa at *;have y1:∀y:Lcl.InS (fun w'=>Fr (fun _=>False) wa w'),y.w.cell? ⟨w6.heap.size,1,none⟩=some (.int .i64 FN.ge):=fun y=>y.h.cel (ca 1)
     have y4:∀y:Lcl.InS (fun w'=>Fr (fun _=>False) wa w'),y.w.cell? ⟨w6.heap.size,4,none⟩=some (.slice (some ⟨gy,0,none⟩) ys.length cy):=fun y=>y.h.cel (ca 4)
     have y5:∀y:Lcl.InS (fun w'=>Fr (fun _=>False) wa w'),y.w.cell? ⟨gy,0,none⟩=some (.int .i64 z0.m.id):=fun y=>y.h.cel cya
     have FD:=zz (Fr.same wa).drew;clear ca cya;refine Lcl.wp_region_calm (by kernel_rfl) [(true,[0,1,3]),(false,[2,4]),(true,[5,6]),(false,[7]),(true,[8])] #[0,0,2,0,8,24,56,120,255,511,1023] [0,1,2,3,4,5,6,7] 2 #[true,true,true,true,true,true,true,true,true,false,false] (by kernel_rfl) (by kernel_rfl) (by kernel_rfl) (fun w'=>Fr (fun _=>False) wa w') (Fr.same wa).drew (fun d c a v w h=>by cases d <;> exact h) ?_;simp only [Lcl.opsOf,List.map_cons,List.map_nil,List.getElem?_toArray,List.getElem?_cons_succ,List.getElem?_cons_zero,Option.getD_some];refine Lcl.wpCalm_t ?_
     repeat (go_big_quiet_step (rfl))
     refine wpQuiet_nil ?_;refine Lcl.wpCalm_f ?_
     repeat (go_big_quiet_step (rfl))
     refine wpQuiet_nil ?_;refine Lcl.wpCalm_t ?_
     repeat (go_big_quiet_step (rfl))
     refine wpQuiet_nil ?_;refine Lcl.wpCalm_f ?_
     repeat (go_big_quiet_step (rfl))
     refine wpQuiet_nil ?_;refine Lcl.wpCalm_t ?_
     repeat (go_big_quiet_step (rfl))
     refine wpQuiet_nil ?_;refine Lcl.wpCalm_nil ?_;clear y1 y4 y5;generalize wa.drew=wd at *;have F5d:=zz (FA.out.tr FD.out);have RBd:=zz ((F5d.out.block w.heap.size (zA RB5.out) fun h=>h).trans RB5.out);have XR:=zz (setRow_heap _ w.heap.size _ #[.int .i64 rm,.int .i64 FN.ge,.int .i64 z0.m.id] 171 (0,0) RBd.out);have FR:=zz (zZ ((F5d.out.mono (S':=fun i=>i=w.heap.size) fun _ h=>h.elim)) (g:=w.heap.size) (.inl rfl) #[.int .i64 rm,.int .i64 FN.ge,.int .i64 z0.m.id]);refine Lcl.wpG_run [9,10] _ _ _ (by kernel_rfl) ?_;simp only [List.map_cons,List.map_nil,List.getElem?_toArray,List.getElem?_cons_succ,List.getElem?_cons_zero,Option.getD_some];go_wp2_with (refine zQ rfl _ _ rfl w.heap.size rm FN.ge z0.m.id rfl rfl _ RBd.out rfl ?_)
     try simp only [Exit.inBlock,Exit.then]
     refine bodyPost_ret (xK rfl _ _ w.heap.size 171 _ (0,0) _ rfl XR.out Tryz.underlying171 rfl (by kernel_rfl)) rfl ?_;refine ⟨_,_,_,0,_,rfl,⟨CP.out.fr FR.out fun i hi e=>?_,rfl,fun i hi=>?_,?_⟩,.inr (.inr (.inr (.inr ⟨BS.out.hk,BS.out.ne,OK.out,by rw [←BS.out.F]; exact JE.out,rfl,ta',tc',_,HFN.out,rfl,by rw [←HRM.out,BS.out.F],rfl,FI.out.symm⟩)))⟩
     ·have:=TG.out i hi
      rcases this with h | h
      ·exact absurd e (Nat.ne_of_lt h.2)
      ·exact absurd e (Nat.ne_of_gt h)
     ·exact (TG.out i hi).imp (fun h=>h.1) Nat.le_of_lt
     ·refine ((F2.out.mono (S':=c.T) fun _ h=>h.elim).trans F25.out fun i hi=>.inl ?_).trans FR.out fun i e=>.inr (Nat.le_of_eq e.symm)
      rcases hi with rfl | ⟨d,hm,hd⟩
      ·exact .inl (.inr (.inl rfl))
      ·exact .inr ⟨_,hm,hd⟩
   ·have g1:decide ((20:Int)≤(c.G.length:Int))=true:=by simp; omega
    have HF:=zz (show yD c.G k=none∧20≤c.G.length from ⟨hf,by omega⟩);have XR:=zz (setRow_heap _ w.heap.size _ #[.int .i64 0,.int .i64 0,.int .i64 0] 171 (0,0) RB.out);have FR:=zz (zZ F2.out (g:=w.heap.size) (.inr (Nat.le_refl _)) #[.int .i64 0,.int .i64 0,.int .i64 0]);clear hf;go_enter Tryz.func80,Tryz.ntmps80
    go_wp2_with (refine zQ rfl _ _ rfl w.heap.size 0 0 0 rfl rfl _ RB.out rfl ?_)
    try simp only [Exit.inBlock,Exit.then]
    refine bodyPost_ret (xK rfl _ _ w.heap.size 171 _ (0,0) _ rfl XR.out Tryz.underlying171 rfl (by kernel_rfl)) rfl ?_;exact ⟨0,0,0,5,c,rfl,.same H.out FR.out,.inr (.inl ⟨HK0.out,HF.out,rfl,rfl,rfl,rfl,rfl⟩)⟩
end
end Go.Proofs.YtfdhofabgdkkkaaGreatDoor
