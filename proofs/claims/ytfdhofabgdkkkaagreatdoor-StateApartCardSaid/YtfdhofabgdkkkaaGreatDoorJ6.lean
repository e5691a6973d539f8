/- A part of the proof that what the machine is told keeps its bounds. -/
import Derived.Test.YtfdhofabgdkkkaaGreatDoorJ4
import Derived.Laws.IdiomStrings
import Derived.Laws.BitsLemmas
import Derived.Test.YtfdhofabgdkkkaaGreatDoorJ5
set_option maxHeartbeats 128000000
set_option maxRecDepth 100000
namespace Go.Proofs.YtfdhofabgdkkkaaGreatDoor
open Lib renaming hid→zz
open Go.RowKit Go.Fm Go.BigFrame
set_option linter.unusedVariables false
set_option linter.unusedSimpArgs false
def stepL:List Nat:=[0,274646895,549293790,820201905,1098587580,1361435347,1640403810,1905808397,2197175160,2460548119,2722870694,2987750089,3280807620,3553878443,3811616794,4084100981]
def zSy (k:Nat):Int:=((stepL.getD k 0:Nat):Int)
structure zc (w:World):Prop where
 cell:∀k,k < 16→w.cell? ⟨0,k,none⟩=some (.int .u32 (zSy k))
theorem zc.fr {w w':World} {S:Nat→Prop} (h:zc w) (hf:Fr S w w') (h0:¬S 0):zc w':=⟨fun k hk=>hf.cell (h.cell k hk) h0⟩
theorem zc.old {w w':World} (h:zc w) (hf:Fr (fun _=>False) w w'):zc w':=h.fr hf fun h=>h
theorem zc.to {w w':World} (h:zc w) (hh:w'.heap=w.heap):zc w':=⟨fun k hk=>(World.cell?_of_block (w:=w) (by rw [hh])).trans (h.cell k hk)⟩
theorem zGh (a b:Int):0≤bits .xor .u32 a b∧bits .xor .u32 a b < 4294967296:=by
 unfold bits;simp only [IntKind.wrap_u32];omega
theorem zUy (n:Int) (h0:0≤n) (h1:n < 2 ^ 32):IntKind.u32.wrap n=n:=by rw [IntKind.wrap_u32]; omega
theorem zIx {x:Int} (h0:0≤x) (h1:x < 4294967296):bits .and .u32 x 15=x % 16:=bits_mask .u32 32 (by decide) zUy 4 (by decide) x h0 h1
def nib (r:Int):Int:=bits .xor .u32 (r / 16) (zSy (r % 16).toNat)
def crcB (r:Int) (b:UInt8):Int:=nib (nib (bits .xor .u32 r (b.toNat:Int)))
def zEn (r:Int) (l:List UInt8):Int:=l.foldl crcB r
theorem nib_in (r:Int):0≤nib r∧nib r < 4294967296:=zGh _ _
theorem crcB_in (r:Int) (b:UInt8):0≤crcB r b∧crcB r b < 4294967296:=nib_in _
theorem zQb {r:Int} {l:List UInt8} {k:Nat} (h:k < l.length):zEn r (l.take (k+1))=crcB (zEn r (l.take k)) l[k]:=by
 unfold zEn;rw [List.take_succ_eq_append_getElem h,List.foldl_append];rfl
theorem crcTo_in {r:Int} (h:0≤r∧r < 4294967296):∀l:List UInt8,0≤zEn r l∧zEn r l < 4294967296:=by
 intro l;induction l generalizing r with
 | nil=>exact h
 | cons b l ih=>exact ih (crcB_in r b)
def zGi (r:Int):Int:=bits .xor .u32 IntKind.u32.max r
def zDp (s:ByteArray):Int:=zGi (zEn (zGi 0) s.data.toList)
theorem zKz (s:ByteArray):0≤zDp s∧zDp s < 4294967296:=zGh _ _
theorem zMt (s:ByteArray) (w:World) (hs:s.size≤maxLen) (hw:zc w):Calls Tryz.prog 199 #[.int .u32 0,.string s] w fun e w'=>e=.returned (.int .u32 (zDp s))∧Fr (fun _=>False) w w':=by
 have hconv:=run_bytes_of_string (P:=Tryz.prog) w 9 305 5 s Tryz.underlying9 Tryz.underlying305 Tryz.underlying5;have hsg:IntKind.u32.signed=false:=rfl;have hs9:s.size≤9223372036854775807:=by unfold maxLen at hs; omega
 clear hs;have hcells:∀j (hj:j < s.size),(w.alloc (.cells (bytesRow s (grownCap w s.size 0 5)) 5 ((bytesRow s (grownCap w s.size 0 5)).size,(bytesRow s (grownCap w s.size 0 5)).size+1))).drew.cell? ⟨w.heap.size,j,none⟩=some (.int .u8 (s[j].toNat:Int)):=by
  intro j hj;have h1:(w.alloc (.cells (bytesRow s (grownCap w s.size 0 5)) 5 ((bytesRow s (grownCap w s.size 0 5)).size,(bytesRow s (grownCap w s.size 0 5)).size+1))).drew.heap[w.heap.size]?=some (.cells (bytesRow s (grownCap w s.size 0 5)) 5 ((bytesRow s (grownCap w s.size 0 5)).size,(bytesRow s (grownCap w s.size 0 5)).size+1)):=zC w _;unfold World.cell?;rw [h1]
  show (bytesRow s (grownCap w s.size 0 5))[j]?=_
  unfold bytesRow;rw [Array.getElem?_append_left (by simpa using hj)];simp [hj];rfl
 have hf:=Fr.drew ((Fr.same w).alloc (.cells (bytesRow s (grownCap w s.size 0 5)) 5 ((bytesRow s (grownCap w s.size 0 5)).size,(bytesRow s (grownCap w s.size 0 5)).size+1)));have HC:=zz hcells;have F:=zz hf;have HS:=zz (hw.old hf);clear hcells hf hw;go_enter Tryz.func199,Tryz.ntmps199
 go_wp2_with fail
 clear hconv;generalize (w.alloc (.cells (bytesRow s (grownCap w s.size 0 5)) 5 ((bytesRow s (grownCap w s.size 0 5)).size,(bytesRow s (grownCap w s.size 0 5)).size+1))).drew=W at *;go_loopw [5,13] (fun r iv wr=>∃k:Nat,iv=.int .i64 k∧k≤s.size∧r=.int .u32 (zEn (zGi 0) (s.data.toList.take k))∧Fr (fun _=>False) W wr) (fun _ iv _=>s.size - (intOf iv).toNat)
 case atStart=>exact ⟨0,rfl,Nat.zero_le _,rfl,Fr.same _⟩
 case round=>
  obtain ⟨k,rfl,hk,rfl,hf⟩:=hrel;have F2:=zz hf;clear hf;have hrin:=crcTo_in (zGh IntKind.u32.max 0) (s.data.toList.take k);rcases Nat.lt_or_ge k s.size with hlt | hge
  ·have hl:k < s.data.toList.length:=by simpa using hlt
   have hsn:=zQb (r:=zGi 0) hl;have HSN:=zz hsn;obtain ⟨r,hr⟩:∃r,Hid (r=zEn (zGi 0) (s.data.toList.take k)):=⟨_,zz rfl⟩;rw [←hr.out];have hc:=F2.out.cel (HC.out k hlt);have hS:=HS.out.old F2.out;have HS2:=zz hS;generalize hb:s[k]=b at *;have HB:=zz hb;have hbm:(b.toNat:Int) % 4294967296=b.toNat:=by have:=b.toNat_lt; omega
   have g1:decide ((k:Int) < s.size)=true:=by simp; omega
   clear hsn hrin hb hS;go_wp2_with fail
   obtain ⟨r1,hr1⟩:∃r1,Hid (r1=bits .xor .u32 r (b.toNat:Int)):=⟨_,zz rfl⟩;rw [←hr1.out];have hin1:=zGh r (b.toNat:Int);rw [←hr1.out] at hin1;have ha1:=zIx hin1.1 hin1.2;have hl1:=HS2.out.cell (r1 % 16).toNat (by omega);have hb1:0≤r1 % 16∧r1 % 16 < 16:=by omega
   clear hc hbm g1;refine wp_loop_rounds 3 ?_;rw [rounds_succ];go_wp2_with fail
   obtain ⟨r2,hr2⟩:∃r2,Hid (r2=bits .xor .u32 (r1 / 16) (zSy (r1 % 16).toNat)):=⟨_,zz rfl⟩;rw [←hr2.out];have hin2:=zGh (r1 / 16) (zSy (r1 % 16).toNat);rw [←hr2.out] at hin2;have ha2:=zIx hin2.1 hin2.2;have hl2:=HS2.out.cell (r2 % 16).toNat (by omega);have hb2:0≤r2 % 16∧r2 % 16 < 16:=by omega
   clear hl1 ha1 hb1;rw [rounds_succ];go_wp2_with fail
   rw [rounds_succ];go_wp2_with fail
   go_roundw
   case rel=>
    refine ⟨k+1,by go_num,hlt,?_,F2.out⟩;rw [HSN.out,←hr.out];have hb3:s.data.toList[k]=b:=by rw [←HB.out]; rfl
    rw [hb3];unfold crcB nib;rw [←hr1.out,←hr2.out]
   case measure=>simp [intOf]; omega
  ·obtain rfl:k=s.size:=by omega
   have g1:decide ((s.size:Int) < s.size)=false:=by simp
   have ht:s.data.toList.take s.size=s.data.toList:=List.take_of_length_le (by simp);rw [ht];have FF:=zz (F.out.tr F2.out);go_wp2_with fail
   go_ret
   exact ⟨rfl,FF.out⟩
theorem zMu (s:ByteArray) (w:World) (hs:s.size≤maxLen) (hw:zc w):Calls Tryz.prog 131 #[.string s] w fun e w'=>e=.returned (.int .u32 (zDp s))∧Fr (fun _=>False) w w':=by
 have HW:=zz (fun w h=>zMt s w hs h);go_enter Tryz.func131,Tryz.ntmps131
 go_wp2_with fail
 refine (HW.out _ hw).mono ?_;rintro e w2 ⟨rfl,hf2⟩;go_wp2_with fail
 go_ret
 exact ⟨rfl,hf2⟩
end Go.Proofs.YtfdhofabgdkkkaaGreatDoor
/- Numbers of four bytes (varint.Fixed, varint.Read): the walks. -/
namespace Go.Proofs.YtfdhofabgdkkkaaGreatDoor
open Lib renaming hid→zz
open Go.RowKit Go.Fm Go.BigFrame
set_option linter.unusedVariables false
set_option linter.unusedSimpArgs false
def fixL (n:Nat):List UInt8:=[dig (n / 16777216 % 256),dig (n / 65536 % 256),dig (n / 256 % 256),dig (n % 256)]
def zGj (n:Nat):ByteArray:=⟨(fixL n).toArray⟩
theorem zGk (n:Nat) (hn:n < 4294967296) (w:World):Calls Tryz.prog 130 #[.int .i64 n,.int .i64 4] w fun e w'=>e=.returned (.tuple #[.string (zGj n),.int .i64 0])∧Fr (fun _=>False) w w':=by
 obtain ⟨i,hi,hz,h1,h2⟩:=info_parts zMm;have g1:decide ((n:Int) < 0)=false:=by simp
 have g2:((n:Int) / 4294967296 == 0)=true:=by simp; omega
 have g3:(n:Int) / 4294967296=0:=by omega
 have hmk:∀w,(Instr.makeSlice 305 (.int .i64 4) (.int .i64 4)).run Tryz.prog w=.ok (.slice (some ⟨w.heap.size,0,none⟩) 4 4) (w.alloc (.cells #[.int .u8 0,.int .u8 0,.int .u8 0,.int .u8 0] 5)):=fun w=>by
  have:=run_makeSlice (P:=Tryz.prog) w 305 5 i (.int .u8 0) Tryz.underlying305 hi hz .i64 .i64 4 4 (by decide) (by decide) (by rw [h1]; decide) (by rw [h2]; decide) (by decide)
  have e:madeCells (Value.int .u8 0).cells (Int.toNat 4 * 1)=#[.int .u8 0,.int .u8 0,.int .u8 0,.int .u8 0]:=by kernel_rfl
  rw [h1,e] at this;exact this
 have hcv:(convert 305 9 (.slice (some ⟨w.heap.size,0,none⟩) 4 4)).run Tryz.prog (w.alloc (.cells #[.int .u8 ((n:Int) / 16777216),.int .u8 ((n:Int) / 65536 % 256),.int .u8 ((n:Int) / 256 % 256),.int .u8 ((n:Int) % 256)] 5))=.ok (.string (zGj n)) (w.alloc (.cells #[.int .u8 ((n:Int) / 16777216),.int .u8 ((n:Int) / 65536 % 256),.int .u8 ((n:Int) / 256 % 256),.int .u8 ((n:Int) % 256)] 5)):=by
  refine run_convert_bytes_back (P:=Tryz.prog) _ 305 9 5 ⟨w.heap.size,0,none⟩ 4 (fixL n) Tryz.underlying305 Tryz.underlying5 Tryz.underlying9 fun j hj=>?_
  have hj4:j < 4:=hj;rw [zi,zD];have d:∀k,k < 256→((dig k).toNat:Int)=k:=fun k hk=>by unfold dig; rw [UInt8.toNat_ofNat_of_lt' hk]
  have:j=0∨j=1∨j=2∨j=3:=by omega
  rcases this with rfl | rfl | rfl | rfl
  ·show some (Value.int .u8 _)=some (.int .u8 ((dig (n / 16777216 % 256)).toNat:Int))
   rw [d _ (by omega)]; congr 2; omega
  ·show some (Value.int .u8 _)=some (.int .u8 ((dig (n / 65536 % 256)).toNat:Int))
   rw [d _ (by omega)]; congr 2
  ·show some (Value.int .u8 _)=some (.int .u8 ((dig (n / 256 % 256)).toNat:Int))
   rw [d _ (by omega)]; congr 2
  ·show some (Value.int .u8 _)=some (.int .u8 ((dig (n % 256)).toNat:Int))
   rw [d _ (by omega)]; congr 2
 have HCV:=zz hcv;clear hcv;go_enter Tryz.func130,Tryz.ntmps130
 go_wp2_with fail
 refine wp_loop_rounds 5 ?_;rw [rounds_succ];go_wp2_with fail
 rw [rounds_succ];go_wp2_with fail
 rw [rounds_succ];go_wp2_with fail
 rw [rounds_succ];go_wp2_with fail
 rw [rounds_succ];have hcv:=HCV.out;go_wp2_with fail
 go_ret2
 exact ⟨rfl,(Fr.same w).alloc _⟩
def be4 (s:ByteArray) (p:Nat):Nat:=(s.data.toList.drop p).take 4 |>.foldl (fun u b=>u * 256+b.toNat) 0
def kX (s:ByteArray) (a:Int):Int × Int × Int:=
 if a < 0∨(s.size:Int) < a then (0,0,1) else if (s.size:Int) - a < 4 then (0,0,2) else ((be4 s a.toNat:Int),a+4,0)
def zAp (s:ByteArray) (a:Int) (w:World) (e:Ending) (w':World):Prop:=
 e=.returned (.tuple #[.int .i64 (kX s a).1,.int .i64 (kX s a).2.1,.int .i64 (kX s a).2.2])∧Fr (fun _=>False) w w'
theorem read_bad (s:ByteArray) (a:Int) (w:World) (hs:s.size≤maxLen) (h:(a < 0∨(s.size:Int) < a)∨(s.size:Int) - a < 4):Calls Tryz.prog 136 #[.string s,.int .i64 a,.int .i64 4] w (zAp s a w):=by
 have hs9:s.size≤9223372036854775807:=by unfold maxLen at hs; omega
 have hr:kX s a=if a < 0∨(s.size:Int) < a then (0,0,1) else (0,0,2):=by
  unfold kX;split
  ·rfl
  ·rw [if_pos (by omega)]
 unfold zAp;rw [hr];clear hr hs;by_cases h1:a < 0
 ·rw [if_pos (.inl h1)]
  clear h;go_enter Tryz.func136,Tryz.ntmps136
  go_wp2_with fail
  go_ret3
  exact ⟨rfl,Fr.same _⟩
 ·by_cases h2:(s.size:Int) < a
  ·rw [if_pos (.inr h2)]
   clear h;go_enter Tryz.func136,Tryz.ntmps136
   go_wp2_with fail
   go_ret3
   exact ⟨rfl,Fr.same _⟩
  ·rw [if_neg (by omega)]
   have h3:(s.size:Int) - a < 4:=by omega
   clear h;go_enter Tryz.func136,Tryz.ntmps136
   go_wp2_with fail
   go_ret3
   exact ⟨rfl,Fr.same _⟩
def zIl (l:List UInt8):Nat:=l.foldl (fun u b=>u * 256+b.toNat) 0
theorem zIy {l:List UInt8} {k:Nat} (h:k < l.length):zIl (l.take (k+1))=zIl (l.take k) * 256+l[k].toNat:=by
 unfold zIl;rw [List.take_succ_eq_append_getElem h,List.foldl_append];rfl
theorem beTo_lt (l:List UInt8):∀k,k≤l.length→k≤4→zIl (l.take k) < 256 ^ k:=by
 intro k;induction k with
 | zero=>intro _ _; simp [zIl]
 | succ k ih=>
  intro h1 h2
  have:=ih (by omega) (by omega)
  rw [zIy (by omega),Nat.pow_succ]
  have:=(l[k]'(by omega)).toNat_lt
  omega
theorem or_byte {X b:Nat} (hX:X < 4294967296) (hb:b < 256):bits .or .u64 ((X:Int) * 256) (b:Int)=((X * 256+b:Nat):Int):=by
 have hw:∀n:Int,0≤n→n < 2 ^ 40→IntKind.u64.wrap n=n:=fun n h0 h1=>by simp [IntKind.wrap,IntKind.bits,IntKind.signed]; omega
 have:=bits_join .u64 40 (by decide) hw 8 ((X:Int) * 256) (b:Int) (by omega) (by omega) (by omega) (by omega) (by omega) (by omega)
 rw [this]; omega
theorem zUz (s:ByteArray) (a:Int) (w:World) (hs:s.size≤maxLen):Calls Tryz.prog 136 #[.string s,.int .i64 a,.int .i64 4] w (zAp s a w):=by
 by_cases hbad:(a < 0∨(s.size:Int) < a)∨(s.size:Int) - a < 4
 ·exact read_bad s a w hs hbad
 ·obtain ⟨p,rfl⟩:∃p:Nat,a=p:=⟨a.toNat,by omega⟩
  have hp:p+4≤s.size:=by omega
  have hs9:s.size≤9223372036854775807:=by unfold maxLen at hs; omega
  have hr:kX s p=((be4 s p:Int),(p:Int)+4,0):=by
   unfold kX;rw [if_neg (by omega),if_neg (by omega),Int.toNat_natCast]
  unfold zAp;rw [hr];obtain ⟨t,ht⟩:∃t,t=s.extract p (p+4):=⟨_,rfl⟩;have htl:t.data.toList=(s.data.toList.drop p).take 4:=by
   rw [ht,ByteArray.data_extract,Array.toList_extract,List.extract];congr 1; omega
  have hbe:be4 s p=zIl t.data.toList:=by unfold be4 zIl; rw [htl]
  have hts:t.size=4:=by
   have h1:t.data.toList.length=t.size:=by simp
   rw [←h1,htl,List.length_take,List.length_drop]
   have:s.data.toList.length=s.size:=by simp
   omega
  have hconv:=run_bytes_of_string (P:=Tryz.prog) w 9 305 5 t Tryz.underlying9 Tryz.underlying305 Tryz.underlying5;rw [hts] at hconv;have hcells:∀j (hj:j < t.size),(w.alloc (.cells (bytesRow t (grownCap w 4 0 5)) 5 ((bytesRow t (grownCap w 4 0 5)).size,(bytesRow t (grownCap w 4 0 5)).size+1))).drew.cell? ⟨w.heap.size,j,none⟩=some (.int .u8 (t[j].toNat:Int)):=by
   intro j hj;have h1:(w.alloc (.cells (bytesRow t (grownCap w 4 0 5)) 5 ((bytesRow t (grownCap w 4 0 5)).size,(bytesRow t (grownCap w 4 0 5)).size+1))).drew.heap[w.heap.size]?=some (.cells (bytesRow t (grownCap w 4 0 5)) 5 ((bytesRow t (grownCap w 4 0 5)).size,(bytesRow t (grownCap w 4 0 5)).size+1)):=zC w _;unfold World.cell?;rw [h1]
   show (bytesRow t (grownCap w 4 0 5))[j]?=_
   unfold bytesRow;rw [Array.getElem?_append_left (by simpa using hj)];simp [hj];rfl
  have hf:=Fr.drew ((Fr.same w).alloc (.cells (bytesRow t (grownCap w 4 0 5)) 5 ((bytesRow t (grownCap w 4 0 5)).size,(bytesRow t (grownCap w 4 0 5)).size+1)));have HC:=zz hcells;have F:=zz hf;have HT:=zz ht;have HBE:=zz hbe;have HTS:=zz hts;have g1:decide ((p:Int) < 0)=false:=by simp
  have g2:decide ((s.size:Int) < p)=false:=by simp; omega
  have g3:decide ((s.size:Int) - p < 4)=false:=by simp; omega
  rw [ht] at hconv;clear hcells hf hbad hs hr ht hbe htl hts;go_enter Tryz.func136,Tryz.ntmps136
  go_wp2_with fail
  rw [←HT.out];generalize (w.alloc (.cells (bytesRow t (grownCap w 4 0 5)) 5 ((bytesRow t (grownCap w 4 0 5)).size,(bytesRow t (grownCap w 4 0 5)).size+1))).drew=W at *;have hl4:t.data.toList.length=4:=by
    have h1:t.data.toList.length=t.size:=by simp
    rw [h1]; exact HTS.out
  have HL4:=zz hl4;clear hconv g1 g2 g3 hl4;go_loopw [9,44] (fun u iv wr=>∃k:Nat,iv=.int .i64 k∧k≤4∧u=.int .u64 (zIl (t.data.toList.take k):Nat)∧Fr (fun _=>False) W wr) (fun _ iv _=>4 - (intOf iv).toNat)
  case atStart=>exact ⟨0,rfl,by omega,rfl,Fr.same _⟩
  case round=>
   obtain ⟨k,rfl,hk,rfl,hf⟩:=hrel;have F2:=zz hf;have hlt:=beTo_lt t.data.toList k (by rw [HL4.out]; exact hk) hk;clear hf;rcases Nat.lt_or_ge k 4 with h4 | h4
   ·have hk3:zIl (t.data.toList.take k) < 256 ^ 3:=Nat.lt_of_lt_of_le hlt (Nat.pow_le_pow_right (by omega) (by omega))
    have e3:(256:Nat) ^ 3=16777216:=by decide
    have hsn:=zIy (l:=t.data.toList) (k:=k) (by rw [HL4.out]; exact h4);have HSN:=zz hsn;have hc:=F2.out.cel (HC.out k (by rw [HTS.out]; exact h4));have hb3:t.data.toList[k]'(by rw [HL4.out]; exact h4)=t[k]'(by rw [HTS.out]; exact h4):=rfl;have HB3:=zz hb3;generalize hX:zIl (t.data.toList.take k)=X at *;have hblt:=(t[k]'(by rw [HTS.out]; exact h4)).toNat_lt;generalize hb:(t[k]'(by rw [HTS.out]; exact h4)).toNat=b at *;have hor:=or_byte (X:=X) (b:=b) (by omega) (by omega);have g4:decide ((k:Int) < 4)=true:=by simp; omega
    clear hsn hb3 hlt;go_wp2_with fail
    go_roundw
    case rel=>exact ⟨k+1,by go_num,h4,by rw [HSN.out,HB3.out,hb]; simp,F2.out⟩
    case measure=>simp [intOf]; omega
   ·obtain rfl:k=4:=by omega
    have ht4:t.data.toList.take 4=t.data.toList:=List.take_of_length_le (by rw [HL4.out]; exact Nat.le_refl _);rw [ht4] at hlt ⊢;rw [←HBE.out] at hlt ⊢;have e4:(256:Nat) ^ 4=4294967296:=by decide
    obtain ⟨X,hX⟩:∃X,Hid (X=be4 s p):=⟨_,zz rfl⟩;rw [←hX.out] at hlt ⊢;have g5:decide ((X:Int) < 0)=false:=by simp
    have FF:=zz (F.out.tr F2.out);clear ht4;go_wp2_with fail
    go_ret3
    exact ⟨by rw [←hX.out]; rfl,FF.out⟩
end Go.Proofs.YtfdhofabgdkkkaaGreatDoor
