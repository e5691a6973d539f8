/- A part of the proof that what the machine is told keeps its bounds. -/
import Derived.Test.YtfdhofabgdkkkaaGreatDoorJ4
import Derived.Laws.BitsAllLaws
import Derived.Laws.Bits64
import Derived.Test.YtfdhofabgdkkkaaGreatDoorJ1
import Derived.Laws.Rows
import Derived.Laws.Tables
set_option maxHeartbeats 128000000
set_option maxRecDepth 100000
namespace Go.Proofs.YtfdhofabgdkkkaaGreatDoor
open Lib renaming hid→zz
set_option linter.unusedVariables false
set_option linter.unusedSimpArgs false
def vb (u:Nat):Int:=if u % 2=0 then ((u / 2:Nat):Int) else -((u / 2:Nat):Int) - 1
theorem zUt (u:Nat):zig (vb u)=u:=by
 unfold zig vb;split <;> split <;> omega
theorem zMn {u:Nat} (h:u < 18446744073709551616):(Lit.int .i64 (vb u)).wf=true:=by
 simp [Lit.wf,IntKind.min,IntKind.max,IntKind.signed,IntKind.bits];unfold vb;split <;> omega
def zFi:Nat→List UInt8→Nat→Nat→Int × Nat × Int
 | 0,_,_,_=>(0,0,3)
 | _+1,[],_,_=>(0,0,2)
 | f+1,b::r,u,i=>
  if 128≤b.toNat then zFi f r (u+b.toNat % 128 * 128 ^ i) (i+1)
  else if (b.toNat=0∧0 < i)∨(i=9∧1 < b.toNat) then (0,0,3)
  else (vb (u+b.toNat * 128 ^ i),i+1,0)
def zGg (l:List UInt8):Int × Nat × Int:=zFi 10 l 0 0
def zCf:Nat→List UInt8→Nat
 | 0,_=>0
 | _+1,[]=>0
 | n+1,b::r=>if 128≤b.toNat then zCf n r+1 else 0
def val:List UInt8→Nat
 | []=>0
 | b::r=>b.toNat % 128+128 * val r
def vc (l:List UInt8):Int × Nat × Int:=
 let k:=zCf 10 l
 if k=10 then (0,0,3) else if l.length≤k then (0,0,2)
 else if yo (val (l.take (k+1)) % 18446744073709551616)=l.take (k+1) then (vb (val (l.take (k+1)) % 18446744073709551616),k+1,0) else (0,0,3)
theorem yH {k:Nat} (h:k < 256):(dig k).toNat=k:=by unfold dig; exact UInt8.toNat_ofNat_of_lt' h
theorem zMo:∀m:Nat,val (yo m)=m:=by
 intro m;induction m using Nat.strongRecOn with
 | _ m ih=>
  by_cases h:m < 128
  ·rw [zq h]
   simp only [val,yH (show m < 256 by omega)];omega
  ·rw [yu (by omega)]
   simp only [val,yH (show m % 128+128 < 256 by omega),ih (m / 128) (by omega)];omega
theorem zUu:∀m:Nat,2≤(yo m).length→∀b,(yo m).getLast?=some b→b.toNat≠0:=by
 intro m;induction m using Nat.strongRecOn with
 | _ m ih=>
  intro h2 b hb;by_cases h:m < 128
  ·rw [zq h] at h2; simp at h2
  ·rw [yu (by omega)] at h2 hb
   by_cases h3:m / 128 < 128
   ·rw [zq h3] at hb
    simp at hb;subst hb;rw [yH (by omega)];omega
   ·have hl:2≤(yo (m / 128)).length:=by
     rw [yu (by omega)]
     have:0 < (yo (m / 128 / 128)).length:=by
      by_cases h4:m / 128 / 128 < 128
      ·rw [zq h4]; simp
      ·rw [yu (by omega)]; simp
     simp; omega
    rw [List.getLast?_cons_of_ne_nil (by intro e; rw [e] at hl; simp at hl)] at hb;exact ih (m / 128) (by omega) hl b hb
def zSw:List UInt8→Prop
 | []=>False
 | [b]=>b.toNat < 128
 | b::r=>128≤b.toNat∧zSw r
theorem u8_eq {a b:UInt8} (h:a.toNat=b.toNat):a=b:=UInt8.toNat_inj.1 h
theorem zMp:∀bs:List UInt8,zSw bs→(∀b,bs.getLast?=some b→b.toNat≠0)→yo (val bs)=bs∧0 < val bs
 | [],h,_=>h.elim
 | [b],h,h2=>by
  have h:b.toNat < 128:=h;have h3:=h2 b rfl;have e:val [b]=b.toNat:=by simp only [val]; omega
  rw [e,zq h];exact ⟨by rw [u8_eq (a:=dig b.toNat) (b:=b) (yH (by omega))],by omega⟩
 | c::d::r,h,h2=>by
  obtain ⟨h1,h3⟩:128≤c.toNat∧zSw (d::r):=h;obtain ⟨i1,i2⟩:=zMp (d::r) h3 (fun b hb=>h2 b (by rw [List.getLast?_cons_cons]; exact hb));have hc:=c.toNat_lt;have e:val (c::d::r)=c.toNat % 128+128 * val (d::r):=rfl;rw [e,yu (by omega)];have e1:(c.toNat % 128+128 * val (d::r)) % 128+128=c.toNat:=by omega
  have e2:(c.toNat % 128+128 * val (d::r)) / 128=val (d::r):=by omega
  rw [e1,e2,i1];exact ⟨by rw [u8_eq (a:=dig c.toNat) (b:=c) (yH (by omega))],by omega⟩
theorem zPy:∀bs:List UInt8,val bs < 128 ^ bs.length
 | []=>by simp [val]
 | b::r=>by
  have:=zPy r
  simp only [val,List.length_cons,Nat.pow_succ];omega
theorem zMq:∀(bs:List UInt8) (b:UInt8),b.toNat < 128→val (bs++ [b])=val bs+b.toNat * 128 ^ bs.length
 | [],b,h=>by simp only [val,List.nil_append,List.length_nil]; omega
 | c::r,b,h=>by
  have ih:=zMq r b h;simp only [List.cons_append,val,ih,List.length_cons,Nat.pow_succ,Nat.mul_add];rw [Nat.add_assoc];congr 2
  rw [Nat.mul_comm (128 ^ r.length) 128,←Nat.mul_assoc,←Nat.mul_assoc,Nat.mul_comm 128 b.toNat]
theorem val_snoc (bs:List UInt8) (b:UInt8):val (bs++ [b])=val bs+b.toNat % 128 * 128 ^ bs.length:=by
 induction bs with
 | nil=>simp only [val,List.nil_append,List.length_nil]; omega
 | cons c r ih=>
  simp only [List.cons_append,val,ih,List.length_cons,Nat.pow_succ,Nat.mul_add];rw [Nat.add_assoc];congr 2
  rw [Nat.mul_comm (128 ^ r.length) 128,←Nat.mul_assoc,←Nat.mul_assoc,Nat.mul_comm 128 (b.toNat % 128)]
theorem zMr:∀(pre:List UInt8) (b:UInt8),(∀c∈pre,128≤c.toNat)→b.toNat < 128→zSw (pre++ [b])
 | [],b,_,h=>h
 | [c],b,h1,h=>⟨h1 c (by simp),h⟩
 | c::d::r,b,h1,h=>⟨h1 c (by simp),zMr (d::r) b (fun x hx=>h1 x (by simp at hx ⊢; right; exact hx)) h⟩
theorem zSx:∀(f:Nat) (pre l:List UInt8),pre.length+f=10→(∀c∈pre,128≤c.toNat)→zFi f l (val pre) pre.length=vc (pre++l)
 | 0,pre,l,hf,hp=>by
  have h1:∀(n:Nat) (p:List UInt8),p.length=n→(∀c∈p,128≤c.toNat)→zCf n (p++l)=n:=by
   intro n;induction n with
   | zero=>intro p _ _; simp [zCf]
   | succ n ih=>
    intro p hl hc;match p,hl with
    | c::r,hl=>
     simp only [List.cons_append,zCf,hc c (by simp),if_true];rw [ih r (by simpa using hl) fun x hx=>hc x (by simp [hx])]
  have h2:=h1 10 pre (by omega) hp;simp only [zFi,vc,h2,if_true]
 | f+1,pre,[],hf,hp=>by
  have h1:∀(n:Nat) (p:List UInt8),p.length < n→(∀c∈p,128≤c.toNat)→zCf n p=p.length:=by
   intro n;induction n with
   | zero=>intro p h _; omega
   | succ n ih=>
    intro p hl hc;match p with
    | []=>rfl
    | c::r=>
     simp only [zCf,hc c (by simp),if_true];rw [ih r (by simpa using hl) fun x hx=>hc x (by simp [hx])];rfl
  have h2:=h1 10 pre (by omega) hp;simp only [zFi,vc,List.append_nil,h2];rw [if_neg (by omega),if_pos (Nat.le_refl _)]
 | f+1,pre,b::r,hf,hp=>by
  unfold zFi;by_cases hb:128≤b.toNat
  ·rw [if_pos hb]
   have ih:=zSx f (pre++ [b]) r (by simp; omega) (fun c hc=>by rcases List.mem_append.1 hc with h | h; exact hp c h; simp at h; rw [h]; exact hb);rw [val_snoc,List.length_append,List.length_singleton] at ih;rw [ih,List.append_assoc];rfl
  ·rw [if_neg hb]
   have h1:∀(n:Nat) (p:List UInt8),p.length < n→(∀c∈p,128≤c.toNat)→zCf n (p++b::r)=p.length:=by
    intro n;induction n with
    | zero=>intro p h _; omega
    | succ n ih=>
     intro p hl hc;match p with
     | []=>simp [zCf,hb]
     | c::q=>
      simp only [List.cons_append,zCf,hc c (by simp),if_true];rw [ih q (by simpa using hl) fun x hx=>hc x (by simp [hx])];rfl
   have h2:=h1 10 pre (by omega) hp;have h3:(pre++b::r).take (pre.length+1)=pre++ [b]:=by
    rw [List.take_append,List.take_of_length_le (by omega)]; simp
   have hch:=zMr pre b hp (by omega);have hk:¬pre.length=10:=by omega
   have hl:¬(pre++b::r).length≤pre.length:=by simp
   simp only [vc,h2,h3,hk,hl,if_false];have hv:=zMq pre b (by omega);have hvl:=zPy pre;by_cases hbad:(b.toNat=0∧0 < pre.length)∨(pre.length=9∧1 < b.toNat)
   ·rw [if_pos hbad,if_neg]
    intro e;rcases hbad with ⟨b0,b1⟩ | ⟨b0,b1⟩
    ·refine zUu (val (pre++ [b]) % 18446744073709551616) ?_ b ?_ b0
     ·rw [e]; simp; omega
     ·rw [e]; simp
    ·have hm:=zMo (val (pre++ [b]) % 18446744073709551616)
     rw [e,hv,b0] at hm
     have:(128:Nat) ^ 9=9223372036854775808:=by decide
     rw [this] at hm;omega
   ·rw [if_neg hbad]
    have hlt:val (pre++ [b]) < 18446744073709551616:=by
     by_cases h9:pre.length=9
     ·have:b.toNat≤1:=by omega
      rw [h9] at hvl hv;have e9:(128:Nat) ^ 9=9223372036854775808:=by decide
      rw [e9] at hvl hv;rw [hv]
      have:b.toNat=0∨b.toNat=1:=by omega
      rcases this with h | h <;> rw [h] <;> omega
     ·have h8:=zPy (pre++ [b])
      have:128 ^ (pre++ [b]).length≤128 ^ 9:=Nat.pow_le_pow_right (by omega) (by simp; omega)
      have e9:(128:Nat) ^ 9=9223372036854775808:=by decide
      omega
    rw [Nat.mod_eq_of_lt hlt];have hput:yo (val (pre++ [b]))=pre++ [b]:=by
     by_cases h0:b.toNat=0
     ·have hn:pre=[]:=List.eq_nil_of_length_eq_zero (by omega)
      subst hn;have e:val ([]++ [b])=0:=by simp only [List.nil_append,val]; omega
      rw [e,zq (by omega)];simp only [List.nil_append];rw [u8_eq (a:=dig 0) (b:=b) (by rw [yH (by omega),h0])]
     ·exact (zMp _ hch (fun c hc=>by simp at hc; subst hc; exact h0)).1
    rw [if_pos hput,hv]
theorem zKv (l:List UInt8):zGg l=vc l:=zSx 10 [] l rfl (by simp)
def xx (s:ByteArray) (at':Int):Int × Int × Int:=
 if at' < 0∨(s.size:Int) < at' then (0,0,1)
 else if (zGg (s.data.toList.drop at'.toNat)).2.2=0 then ((zGg (s.data.toList.drop at'.toNat)).1,at'+(zGg (s.data.toList.drop at'.toNat)).2.1,0)
 else (0,0,(zGg (s.data.toList.drop at'.toNat)).2.2)
open Go.RowKit Go.Fm Go.BigFrame
theorem and127 (c:Nat) (h:c < 256):bits .and .u8 (c:Int) 127=((c % 128:Nat):Int):=by
 rw [show (127:Int)=((127:Nat):Int) from rfl,u8_and_nat _ _ h (by omega)]
 have:c &&& 127=c % 128:=Nat.and_two_pow_sub_one_eq_mod c 7
 rw [this]
theorem zPz (i:Nat):2 ^ (7 * i)=128 ^ i:=by rw [Nat.pow_mul]
theorem or_step (m x i:Nat) (hm:m < 128 ^ i) (hx:x * 128 ^ i < 18446744073709551616) (hi:i≤9):bits .or .u64 (m:Int) ((x * 128 ^ i:Nat):Int)=((m+x * 128 ^ i:Nat):Int):=by
 have h9:128 ^ i≤128 ^ 9:=Nat.pow_le_pow_right (by omega) hi;have e9:(128:Nat) ^ 9=9223372036854775808:=by decide
 rw [u64_or_nat _ _ (by omega) hx];have h1:=Nat.two_pow_add_eq_or_of_lt (i:=7 * i) (b:=m) (by rw [zPz]; exact hm) x;rw [zPz] at h1;rw [Nat.or_comm,Nat.mul_comm x,←h1];congr 1
 rw [Nat.add_comm]
theorem zMs (m c i:Nat) (hm:m < 128 ^ i) (hc:c < 256) (hx:c % 128 * 128 ^ i < 18446744073709551616) (hi:i≤9):
  bits .or .u64 (m:Int) (IntKind.u64.wrap (IntKind.u64.wrap (bits .and .u8 (c:Int) 127) * 2 ^ (7 * i)))=((m+c % 128 * 128 ^ i:Nat):Int):=by
 have wr:∀n:Nat,n < 18446744073709551616→IntKind.u64.wrap (n:Int)=n:=fun n h=>by simp [IntKind.wrap,IntKind.bits,IntKind.signed]; omega
 rw [and127 c hc,wr _ (by omega)];have e:((c % 128:Nat):Int) * 2 ^ (7 * i)=((c % 128 * 128 ^ i:Nat):Int):=by
  rw [←zPz]; simp
 rw [e,wr _ hx,or_step m _ i hm hx hi]
theorem zKw (a:Nat) (ha:a < 9223372036854775808):bits .xor .i64 (a:Int) 0=a:=by
 show IntKind.i64.wrap ((BitVec.ofInt 64 (a:Int) ^^^ BitVec.ofInt 64 0).toNat:Int)=_
 have h1:BitVec.ofInt 64 0=0#64:=by decide
 rw [h1,BitVec.xor_zero,ofInt_u64 a (by omega)];simp [IntKind.wrap,IntKind.bits,IntKind.signed];omega
theorem zKx (a:Nat) (ha:a < 9223372036854775808):bits .xor .i64 (a:Int) (-1)= -(a:Int) - 1:=by
 show IntKind.i64.wrap ((BitVec.ofInt 64 (a:Int) ^^^ BitVec.ofInt 64 (-1)).toNat:Int)=_
 have h1:BitVec.ofInt 64 (-1)=BitVec.allOnes 64:=by decide
 rw [h1,BitVec.xor_allOnes,BitVec.toNat_not,ofInt_u64 a (by omega)];simp [IntKind.wrap,IntKind.bits,IntKind.signed];omega
theorem fin_step (v:Nat) (h:v < 18446744073709551616):bits .xor .i64 (wrap64 ((v:Int) / 2)) (wrap64 (-wrap64 (bits .and .u64 (v:Int) 1)))=vb v:=by
 rw [show (1:Int)=((1:Nat):Int) from rfl,u64_and_nat _ _ h (by omega),Nat.and_one_is_mod];have e1:wrap64 ((v:Int) / 2)=((v / 2:Nat):Int):=by simp only [wrap64]; omega
 rw [e1];unfold vb;have h2:v % 2=0∨v % 2=1:=by omega
 rcases h2 with h2 | h2
 ·rw [h2,if_pos rfl,show wrap64 (-wrap64 ((0:Nat):Int))=0 from by simp [wrap64],zKw _ (by omega)]
 ·rw [h2,if_neg (by omega),show wrap64 (-wrap64 ((1:Nat):Int))= -1 from by simp [wrap64],zKx _ (by omega)]
theorem drop_at (s:ByteArray) (j:Nat) (h:j < s.size):s.data.toList.drop j=s[j]::s.data.toList.drop (j+1):=by
 rw [List.drop_eq_getElem_cons (by simpa using h)]; rfl
theorem zCg (s:ByteArray) (p:Nat) (hp:p≤s.size) {n:Int} {k:Nat} {c:Int} (h:zGg (s.data.toList.drop p)=(n,k,c)):xx s p=if c=0 then (n,(p:Int)+k,0) else (0,0,c):=by
 unfold xx;rw [if_neg (by omega),Int.toNat_natCast,h]
def zCh (s:ByteArray) (at':Int) (w:World) (e:Ending) (w':World):Prop:=
 e=.returned (.tuple #[.int .i64 (xx s at').1,.int .i64 (xx s at').2.1,.int .i64 (xx s at').2.2])∧w=w'
theorem gets_bad (s:ByteArray) (a:Int) (w:World) (hbad:a < 0∨(s.size:Int) < a):Calls Tryz.prog 183 #[.string s,.int .i64 a] w (zCh s a w):=by
 have hg:xx s a=(0,0,1):=by unfold xx; rw [if_pos hbad]
 unfold zCh;rw [hg];rcases hbad with h | h
 ·clear hg
  go_enter Tryz.func183,Tryz.ntmps183
  go_wp2_with fail
  go_ret3
  exact ⟨rfl,rfl⟩
 ·have h0:decide (a < 0)=false:=by simp; omega
  clear hg;go_enter Tryz.func183,Tryz.ntmps183
  go_wp2_with fail
  go_ret3
  exact ⟨rfl,rfl⟩
theorem zDo (s:ByteArray) (a:Int) (w:World) (hs:s.size≤maxLen):Calls Tryz.prog 183 #[.string s,.int .i64 a] w (zCh s a w):=by
 by_cases hbad:a < 0∨(s.size:Int) < a
 ·exact gets_bad s a w hbad
 ·obtain ⟨p,rfl⟩:∃p:Nat,a=p:=⟨a.toNat,by omega⟩
  have hp:p≤s.size:=by omega
  have hs9:s.size≤9223372036854775807:=by unfold maxLen at hs; omega
  have hd1:decide ((p:Int) < 0)=false:=by simp
  have hd2:decide (s.size < p)=false:=by simp; omega
  clear hbad hs;go_enter Tryz.func183,Tryz.ntmps183
  go_wp2_with fail
  clear hd1 hd2;go_loop [7,18] (fun u k=>∃(i:Nat) (m:Int),k=.int .i64 i∧u=.int .u64 m∧i≤10∧p+i≤s.size∧(i < 10→∃x:Nat,m=x∧x < 128 ^ i∧zGg (s.data.toList.drop p)=zFi (10 - i) (s.data.toList.drop (p+i)) x i)∧(i=10→zGg (s.data.toList.drop p)=(0,0,3))) (fun _ k=>10 - (intOf k).toNat)
  case atStart=>exact ⟨0,0,rfl,rfl,by omega,by omega,fun _=>⟨0,rfl,by omega,rfl⟩,by omega⟩
  case round=>
   obtain ⟨i,mi,rfl,rfl,hi,hpi,h1,h2⟩:=hrel;by_cases h10:i < 10
   ·obtain ⟨m,rfl,hm,hv⟩:=h1 h10
    have HM:=zz hm;have HV:=zz hv;clear h1 h2 hm hv hi;by_cases hend:p+i < s.size
    ·have HD:=zz (drop_at s (p+i) hend)
     have hlt:=s[p+i].toNat_lt;obtain ⟨c,hc⟩:∃c:Nat,c=s[p+i].toNat:=⟨_,rfl⟩;have hc':s[p+i].toNat=c:=hc.symm;rw [hc'] at hlt;have hstep:zGg (s.data.toList.drop p)=if 128≤c then zFi (9 - i) (s.data.toList.drop (p+(i+1))) (m+c % 128 * 128 ^ i) (i+1) else if (c=0∧0 < i)∨(i=9∧1 < c) then (0,0,3) else (vb (m+c * 128 ^ i),i+1,0):=by
      rw [HV.out,HD.out,show 10 - i=(9 - i)+1 by omega];rw [zFi,hc'];rfl
     have HST:=zz hstep;have hE:decide ((s.size:Int)≤p+i)=false:=by simp; omega
     have hE2:decide (s.size≤p+i)=false:=by simp; omega
     clear hstep hc;by_cases hcon:128≤c
     ·have hD1:decide (128≤(c:Int))=true:=by simp; omega
      obtain ⟨M,hM,hMc⟩:∃M:Int,bits .or .u64 (m:Int) (IntKind.u64.wrap (IntKind.u64.wrap (bits .and .u8 (c:Int) 127) * 2 ^ (7 * i)))=M∧(i < 9→M=((m+c % 128 * 128 ^ i:Nat):Int)∧m+c % 128 * 128 ^ i < 128 ^ (i+1)):=by
       refine ⟨_,rfl,fun h9=>?_⟩;have hx:c % 128 * 128 ^ i≤127 * 128 ^ i:=Nat.mul_le_mul_right _ (by omega);have h8:128 ^ i≤128 ^ 8:=Nat.pow_le_pow_right (by omega) (by omega);have e8:(128:Nat) ^ 8=72057594037927936:=by decide
       have hm:=HM.out;exact ⟨zMs m c i hm hlt (by omega) (by omega),by rw [Nat.pow_succ]; omega⟩
      have HMC:=zz hMc;clear hMc;go_wp2_with fail
      have hnx:(i+1 < 10→∃x:Nat,M=x∧x < 128 ^ (i+1)∧zGg (s.data.toList.drop p)=zFi (10 - (i+1)) (s.data.toList.drop (p+(i+1))) x (i+1))∧(i+1=10→zGg (s.data.toList.drop p)=(0,0,3)):=by
       have hst:=HST.out;rw [if_pos hcon] at hst;refine ⟨fun h=>?_,fun h=>?_⟩
       ·obtain ⟨e1,e2⟩:=HMC.out (by omega)
        exact ⟨_,e1,e2,by rw [hst,show 10 - (i+1)=9 - i by omega]⟩
       ·rw [hst,show 9 - i=0 by omega,zFi]
      have HNX:=zz hnx;clear hnx hM hD1 hE hE2 hc';go_round
      case rel=>exact ⟨i+1,M,by go_num,rfl,by omega,by omega,HNX.out.1,HNX.out.2⟩
      case measure=>simp [intOf]; omega
     ·have hD1:decide (128≤(c:Int))=false:=by simp; omega
      by_cases hb:(c=0∧0 < i)∨(i=9∧1 < c)
      ·have hg:xx s p=(0,0,3):=by
        have:=HST.out
        rw [if_neg hcon,if_pos hb] at this;rw [zCg s p hp this]; rfl
       have HR:=zz hg;clear hg;rcases hb with ⟨rfl,hi0⟩ | ⟨rfl,hc1⟩
       ·have hD2:decide (0 < (i:Int))=true:=by simp; omega
        have hD3:decide (0 < i)=true:=by simp; omega
        clear hD1;go_wp2_with fail
        go_ret3
        exact ⟨by rw [HR.out]; rfl,rfl⟩
       ·have hD2:((c:Int) == 0)=false:=by simp; omega
        have hD3:(c == 0)=false:=by simp; omega
        have hD4:decide (1 < (c:Int))=true:=by simp; omega
        have hD5:decide (1 < c)=true:=by simp; omega
        go_wp2_with fail
        go_ret3
        exact ⟨by rw [HR.out]; rfl,rfl⟩
      ·have hcm:c % 128=c:=Nat.mod_eq_of_lt (by omega)
       have hVlt:m+c * 128 ^ i < 18446744073709551616∧c * 128 ^ i < 18446744073709551616:=by
        have hm:=HM.out;by_cases h9:i=9
        ·have hcle:c≤1:=by omega
         have:c * 128 ^ i≤1 * 128 ^ i:=Nat.mul_le_mul_right _ hcle
         have h8:128 ^ i≤128 ^ 9:=Nat.pow_le_pow_right (by omega) (by omega);have e8:(128:Nat) ^ 9=9223372036854775808:=by decide
         omega
        ·have:c * 128 ^ i≤127 * 128 ^ i:=Nat.mul_le_mul_right _ (by omega)
         have h8:128 ^ i≤128 ^ 8:=Nat.pow_le_pow_right (by omega) (by omega);have e8:(128:Nat) ^ 8=72057594037927936:=by decide
         omega
       obtain ⟨V,hV⟩:∃V:Nat,V=m+c * 128 ^ i:=⟨_,rfl⟩;have hacc:=zMs m c i HM.out hlt (by rw [hcm]; exact hVlt.2) (by omega);rw [hcm,←hV] at hacc;have hfin:=fin_step V (by rw [hV]; exact hVlt.1);have hg:xx s p=(vb V,(p:Int)+((i+1:Nat):Int),0):=by
        have:=HST.out
        rw [if_neg hcon,if_neg hb,←hV] at this;rw [zCg s p hp this]; rfl
       have hwf:=zMn (u:=V) (by rw [hV]; exact hVlt.1);obtain ⟨n,hn⟩:∃n,n=vb V:=⟨_,rfl⟩;rw [←hn] at hfin hwf hg;have HR:=zz hg;clear hg hcm hVlt hV hn;by_cases hc0:c=0
       ·obtain rfl:i=0:=by omega
        subst hc0;have hacc0:bits .or .u64 (m:Int) (IntKind.u64.wrap (IntKind.u64.wrap (bits .and .u8 0 127)))=(V:Int):=by
         have:=hacc
         simpa using this
        have hend0:p < s.size:=hend;have hc0:s[p].toNat=0:=hc';have hE0:decide (s.size≤p)=false:=by simp; omega
        have hE1:decide ((s.size:Int)≤p)=false:=by simp; omega
        clear hacc hD1 hE hE2 hb hcon hc' hpi hlt;go_wp2_with fail
        go_ret3
        exact ⟨by rw [HR.out]; rfl,rfl⟩
       ·have hD2:((c:Int) == 0)=false:=by simp; omega
        have hD3:(c == 0)=false:=by simp; omega
        by_cases h9:i=9
        ·subst h9
         have hD4:decide (1 < (c:Int))=false:=by simp; omega
         have hD5:decide (1 < c)=false:=by simp; omega
         rw [show (2:Int) ^ (7 * 9)=9223372036854775808 by decide] at hacc;clear hb hcon;go_wp2_with fail
         go_ret3
         exact ⟨by rw [HR.out]; rfl,rfl⟩
        ·have hD4:((i:Int) == 9)=false:=by simp; omega
         have hD5:(i == 9)=false:=by simp; omega
         clear hb hcon;go_wp2_with fail
         go_ret3
         exact ⟨by rw [HR.out]; rfl,rfl⟩
    ·have hE:decide ((s.size:Int)≤p+i)=true:=by simp; omega
     have hE2:decide (s.size≤p+i)=true:=by simp; omega
     have hg:xx s p=(0,0,2):=by
      have:=HV.out
      have hnil:s.data.toList.drop (p+i)=[]:=List.drop_eq_nil_of_le (by simp; omega);rw [hnil,show 10 - i=(9 - i)+1 by omega,zFi] at this;rw [zCg s p hp this]; rfl
     have HR:=zz hg;clear hg;go_wp2_with fail
     go_ret3
     exact ⟨by rw [HR.out]; rfl,rfl⟩
   ·obtain rfl:i=10:=by omega
    have hg:xx s p=(0,0,3):=by rw [zCg s p hp (h2 rfl)]; rfl
    have HR:=zz hg;clear hg h1 h2;go_wp2_with fail
    go_ret3
    exact ⟨by rw [HR.out]; rfl,rfl⟩
theorem refV_ok {l:List UInt8} {n:Int} {k:Nat} (h:vc l=(n,k,0)):1≤k∧k≤l.length∧(Lit.int .i64 n).wf=true∧yo (zig n)=l.take k:=by
 unfold vc at h;dsimp only at h;split at h
 ·cases h
 ·split at h
  ·cases h
  ·split at h
   ·rename_i h1 h2 h3
    injection h with e1 h
    injection h with e2 _
    subst e1 e2;have hlt:val (l.take (zCf 10 l+1)) % 18446744073709551616 < 18446744073709551616:=Nat.mod_lt _ (by omega);exact ⟨by omega,by omega,zMn hlt,by rw [zUt]; exact h3⟩
   ·cases h
theorem zUv (l:List UInt8):(vc l).2.2=0∨((vc l).2.2=2∧vc l=(0,0,2))∨((vc l).2.2=3∧vc l=(0,0,3)):=by
 unfold vc;dsimp only;split
 ·exact .inr (.inr ⟨rfl,rfl⟩)
 ·split
  ·exact .inr (.inl ⟨rfl,rfl⟩)
  ·split
   ·exact .inl rfl
   ·exact .inr (.inr ⟨rfl,rfl⟩)
theorem getS_ok {s:ByteArray} {a n b:Int} (h:xx s a=(n,b,0)):∃p k:Nat,a=p∧b=((p+k:Nat):Int)∧1≤k∧p+k≤s.size∧(Lit.int .i64 n).wf=true∧yo (zig n)=(s.data.toList.drop p).take k:=by
 unfold xx at h;split at h
 ·cases h
 ·rename_i hb
  split at h
  ·rename_i h0
   obtain ⟨p,rfl⟩:∃p:Nat,a=p:=⟨a.toNat,by omega⟩;rw [Int.toNat_natCast] at h h0;rw [zKv] at h h0;injection h with e1 h
   injection h with e2 _
   obtain ⟨n',k,hk⟩:∃n' k,vc (s.data.toList.drop p)=(n',k,0):=⟨_,_,by
    have:vc (s.data.toList.drop p)=((vc (s.data.toList.drop p)).1,(vc (s.data.toList.drop p)).2.1,(vc (s.data.toList.drop p)).2.2):=rfl
    rw [this,h0]⟩
   rw [hk] at e1 e2;dsimp only at e1 e2;subst e1 e2;obtain ⟨h1,h2,h3,h4⟩:=refV_ok hk;simp at h2;exact ⟨p,k,rfl,by omega,h1,by omega,h3,h4⟩
  ·rename_i h0
   injection h with e1 h
   injection h with e2 h
   exact absurd h h0
theorem zUw (s:ByteArray) (a:Int):(∃n b,xx s a=(n,b,0))∨∃c,xx s a=(0,0,c)∧1≤c∧c≤3:=by
 unfold xx;split
 ·exact .inr ⟨1,rfl,by omega,by omega⟩
 ·split
  ·exact .inl ⟨_,_,rfl⟩
  ·rename_i h0
   rw [zKv] at h0 ⊢;rcases zUv (s.data.toList.drop a.toNat) with h | ⟨h,-⟩ | ⟨h,-⟩
   ·exact absurd h h0
   ·exact .inr ⟨2,by rw [h],by omega,by omega⟩
   ·exact .inr ⟨3,by rw [h],by omega,by omega⟩
def zEm (s:ByteArray) (a most:Int):ByteArray × Int × Int:=
 if (xx s a).2.2≠0 then (ByteArray.empty,0,(xx s a).2.2)
 else if (xx s a).1 < 0∨most < (xx s a).1 then (ByteArray.empty,0,3)
 else if (s.size:Int) - (xx s a).2.1 < (xx s a).1 then (ByteArray.empty,0,2)
 else (s.extract (xx s a).2.1.toNat ((xx s a).2.1+(xx s a).1).toNat,(xx s a).2.1+(xx s a).1,0)
def zUx (s:ByteArray) (a most:Int) (w:World) (e:Ending) (w':World):Prop:=
 e=.returned (.tuple #[.string (zEm s a most).1,.int .i64 (zEm s a most).2.1,.int .i64 (zEm s a most).2.2])∧w=w'
theorem zQa (s:ByteArray) (a most:Int) (w:World) (hs:s.size≤maxLen):Calls Tryz.prog 187 #[.string s,.int .i64 a,.int .i64 most] w (zUx s a most w):=by
 have hs9:s.size≤9223372036854775807:=by unfold maxLen at hs; omega
 have hcall:=zDo s a w hs;unfold zCh at hcall;have HT:Hid (zEm s a most=if (xx s a).2.2≠0 then (ByteArray.empty,0,(xx s a).2.2)
   else if (xx s a).1 < 0∨most < (xx s a).1 then (ByteArray.empty,0,3)
   else if (s.size:Int) - (xx s a).2.1 < (xx s a).1 then (ByteArray.empty,0,2)
   else (s.extract (xx s a).2.1.toNat ((xx s a).2.1+(xx s a).1).toNat,(xx s a).2.1+(xx s a).1,0)):=zz rfl
 rcases zUw s a with ⟨n,b,hg⟩ | ⟨c,hg,hc1,hc2⟩
 ·obtain ⟨p,k,rfl,rfl,hk1,hk2,hwf,-⟩:=getS_ok hg
  rw [hg] at hcall HT;have HC:=zz hcall;clear hcall hg;dsimp only at HC HT;simp only [ne_eq,not_true_eq_false,if_false] at HT;have hb:=hwf;simp [Lit.wf,IntKind.min,IntKind.max,IntKind.signed,IntKind.bits] at hb;obtain ⟨hb1,hb2⟩:=hb;clear hwf hs;by_cases h1:n < 0∨most < n
  ·have ht:=HT.out
   rw [if_pos h1] at ht;have HR:=zz ht;clear ht HT;rcases h1 with h1 | h1
   ·go_enter Tryz.func187,Tryz.ntmps187
    go_wp2_with (go_at_call 183; refine HC.out.mono ?_; rintro e w' ⟨rfl,rfl⟩)
    go_ret3
    exact ⟨by rw [HR.out]; rfl,rfl⟩
   ·by_cases h0:n < 0
    all_goals
     go_enter Tryz.func187,Tryz.ntmps187
     go_wp2_with (go_at_call 183; refine HC.out.mono ?_; rintro e w' ⟨rfl,rfl⟩)
     go_ret3
     exact ⟨by rw [HR.out]; rfl,rfl⟩
  ·have h0:¬n < 0:=fun h=>h1 (.inl h)
   have h2:¬most < n:=fun h=>h1 (.inr h)
   obtain ⟨m,rfl⟩:∃m:Nat,n=m:=⟨n.toNat,by omega⟩;by_cases h3:(s.size:Int) - ((p+k:Nat):Int) < m
   ·have ht:=HT.out
    rw [if_neg h1,if_pos h3] at ht;have HR:=zz ht;clear ht HT h1;go_enter Tryz.func187,Tryz.ntmps187
    go_wp2_with (go_at_call 183; refine HC.out.mono ?_; rintro e w' ⟨rfl,rfl⟩)
    go_ret3
    exact ⟨by rw [HR.out]; rfl,rfl⟩
   ·have ht:=HT.out
    rw [if_neg h1,if_neg h3] at ht;have HR:=zz ht;clear ht HT h1;go_enter Tryz.func187,Tryz.ntmps187
    go_wp2_with (go_at_call 183; refine HC.out.mono ?_; rintro e w' ⟨rfl,rfl⟩)
    go_ret3
    exact ⟨by rw [HR.out]; rfl,rfl⟩
 ·rw [hg] at hcall HT
  have HC:=zz hcall;have ht:=HT.out;dsimp only at ht;rw [if_pos (by omega)] at ht;have HR:=zz ht;clear hcall hg hs ht HT;have hq:((c:Int) == 0)=false:=by simp; omega
  have hq':(c != 0)=true:=by simp; omega
  go_enter Tryz.func187,Tryz.ntmps187
  go_wp2_with (go_at_call 183; refine HC.out.mono ?_; rintro e w' ⟨rfl,rfl⟩)
  go_ret3
  exact ⟨by rw [HR.out]; rfl,rfl⟩
end Go.Proofs.YtfdhofabgdkkkaaGreatDoor
namespace Go.Fm
open Go.RowKit
section
variable {P:Program} {w:World} {ops:Array Oper} {rest:List Oper} {o:Oper} {a:Act} {Q:Exit→Act→World→Prop}
theorem zKy (w:World) (g:Nat) (cs:Array Value):w.grownBy (w.setRow g cs) (some g):=
 ⟨rfl,rfl,rfl,by simp [World.setRow],fun k _ hk=>by
  unfold World.setRow;rw [Array.getElem?_modify,if_neg (fun e=>hk (by rw [e]))]⟩
theorem zIk (w:World) (g:Nat) (ty t:TypeId) (old:Array Value) (v:Value) (hg:w.heap[g]?=some (.cells old t (0,0))) (hs:v.cells.size=old.size) (hi:(P.info? ty).map (·.size)=some v.cells.size)
  (h1:(v.cells.toList.all fun u=>u.oneCell')=true):(Instr.storeAt ty (.pointer (some ⟨g,0,none⟩)) v).run P w=.ok () (w.setRow g v.cells):=by
 have h2:=run_storeCells_from (P:=P) g t v.cells.toList 0 old w hg (by simp; exact hs) (fun u hu=>by simpa using List.all_eq_true.1 h1 u hu);cases hq:P.info? ty with
 | none=>rw [hq] at hi; cases hi
 | some i=>
  have hz:i.size=v.cells.size:=by simpa [hq] using hi
  simp [Instr.storeAt,Instr.sureAddr,storeVar,sizeOf,typeInfo,hq,hz,Sem.run_bind,h2]
theorem jr (hgd:o.guard=none) (ty:TypeId) (p x:Operand) (ho:o.op=.store ty p x) (g:Nat) (hp:a.eval p=.pointer (some ⟨g,0,none⟩)) (t:TypeId) (old:Array Value) (v:Value) (hx:a.eval x=v)
  (hg:w.heap[g]?=some (.cells old t (0,0))) (hs:v.cells.size=old.size) (hi:(P.info? ty).map (·.size)=some v.cells.size) (h1:(v.cells.toList.all fun u=>u.oneCell')=true)
  (h:∀w',w'.heap[g]?=some (.cells v.cells t (0,0))→w.grownBy w' (some g)→wpList P ops Q rest (a.put o.dst undef) w'):wpList P ops Q (o::rest) a w:=by
 refine wpList_plain hgd fun K' hK'=>?_
 have hrun:=zIk (P:=P) w g ty t old v hg hs hi h1;unfold Oper.wp;simp [execOp,ho,hp,hx,hrun,Result.andThen,Oper.upon];exact hK' _ _ (h _ (setRow_heap w g old v.cells t (0,0) hg) (zKy w g _))
end
end Go.Fm
