/- Laws and walks by which the law LabTells is proved, each with its own conditions. -/
import Derived.Test.YtkggjjnhnjjokaaGreatDoorH1
import Derived.Lib.Join
import Derived.Test.YtkggjjnhnjjokaaGreatDoorRows
import Derived.Shelf.Strings.Builder1
import Derived.Shelf.Strings.Builder2
import Derived.Shelf.Strings.OnBuilder
import Derived.Shelf.Small.Strs
import Derived.Shelf.Strings.BuilderF
import Derived.Shelf.Strings.BuilderK
import Derived.Shelf.Utf8.RuneCount
import Derived.Shelf.Strconv.Atoi
import Derived.Shelf.Strconv.Itoa0
import Derived.Shelf.Strconv.Itoa1
import Derived.Shelf.Strconv.Itoa2
import Derived.Shelf.Strconv.Itoa3
import Derived.Shelf.Strconv.AtoiErrFast
import Derived.Shelf.Strconv.ParseIntEmpty
import Derived.Shelf.Strconv.AtoiFail
import Derived.Shelf.Strconv.Clone
import Derived.Shelf.Strconv.SyntaxError
import Derived.Shelf.LaysC
import Derived.Shelf.Strconv.ToError
import Derived.Shelf.Strconv.Lower
import Derived.Shelf.Strconv.ParseUint10
import Derived.Shelf.Strconv.ParseUint10Empty
import Derived.Shelf.Strconv.ParseUint10Any
import Derived.Shelf.Strconv.ParseInt10
import Derived.Shelf.Strconv.AtoiLong
import Derived.Shelf.Strconv.AtoiInnerAll
import Derived.Shelf.Strconv.RangeError
import Derived.Shelf.Strconv.ToErrorRange
import Derived.Shelf.Strconv.AtoiAll
import Derived.Shelf.Strconv.ErrVarAll
import Derived.Shelf.Strings.Search2
import Derived.Shelf.Strings.Search3
import Derived.Shelf.Strings.Cut
import Derived.Shelf.Strings.Count
import Derived.Shelf.Strings.Shaped
import Derived.Shelf.Strings.Split
import Derived.Shelf.Strings.SplitShaped
import Derived.Shelf.Unicode.Decode
import Derived.Shelf.Strings.RuneCount
import Derived.Shelf.Strings.Explode
import Derived.Shelf.Unicode.DecodeSlow
import Derived.Shelf.Unicode.DecodeAny
set_option maxRecDepth 20000
set_option linter.unusedSimpArgs false
set_option linter.unusedVariables false
namespace Go.Kb
open Go.ax
variable {s:aJ} {i n st:Nat} {c:UInt8}
variable {ps:List aJ}
theorem FN{x:aJ}: ∀(s:aJ),x∈ba c s->x.length<=s.length:=by
 intro s;have key: ∀n (s:aJ),s.length<=n->x∈ba c s->x.length<=s.length:=by
  intro n
  induction n with
  |zero=>
   intro s hs hx;obtain rfl:=aun.1 (Nat.le_zero.1 hs);simp[ba]at hx;simp[hx]
  |succ n ih=>
   intro s hs hx;rcases Av (c:=c) s with⟨_,h2⟩|⟨a,b,h1,_,h3⟩
   ·rw[h2,auK]at hx;rw[hx];exact at5 _
   rw[h3,auc]at hx;have hl:s.length=a.length+(b.length+1):=by rw[h1];simp
   rcases hx with rfl|hx
   ·omega
   have:=ih b (by omega) hx;omega
 exact key s.length s (at5 _)
variable {k:Key} {i n:Nat} {s:aJ} {c:UInt8}
def oC(k:Key):List UInt8:=(List.range 16).map fun i=>UInt8.ofNat (bl k i)
theorem ZW(k:Key)(h:i<16):(oC k)[i]? =some (UInt8.ofNat (bl k i)):=by simp[oC,h]
theorem P7(k:Key)(i:Nat):(UInt8.ofNat (bl k i)).toNat=bl k i:=by
 have:=jJ k i;rw[UInt8.toNat_ofNat'];omega
theorem FO(k:Key):((oC k).take 4).length=4:=by simp[oC]
variable {w0:World}{L:List ai}
instance akA{b j:Nat}{T:TypeId}[h:Has L b (bR k) T j]:Hd w0 L ⟨false,b,0,4,16,none⟩ aQ 1 ((oC k).take 4):=⟨fun w hw=>by
 have hb:hp w b=some (.cells (bR k) T (0,0)):=hw.get h.h;refine⟨⟨(fun e=>Bool.noConfusion e),(by show 4<=16;decide),(by show 4<=140737488355328;decide),fun _=>rfl⟩,(FO k).symm,fun i x hx m hm=>?_⟩;obtain rfl:m=0:=by omega
 have hi:i<4:=by
  have:=(zz.1 hx).1;rw[FO]at this;exact this
 rw[avJ,if_pos hi,ZW k (by omega)]at hx;obtain rfl:=at1 hx;have e:nN (hp w) b (0+i*1+0)=(bR k)[i]? :=by
  unfold nN;rw[hb];simp
 rw[e,jr k i (by omega)];show some (Value.int .u8 ((bl k i:Nat):Int))=some (Value.int .u8 ((UInt8.ofNat (bl k i)).toNat:Nat));rw[P7]⟩
section
variable {P:Program} {N:cA} {w0:World} {env:Env} {L:List ai} {d:Option Tmp} {ty t u:TypeId} {ps:String} {af:Array Edge} {gd:Option (Nat×Bool)}
theorem ZX{e:TypeId}{x ix:Operand}{kk:IntKind}{j:Int}(hu:P.underlying t=some (.array 16 e))[he:gT P e](hx:ev env x=some (.agg (bR k)))(hj:ev env ix=some (.int kk j))(b:Nat)(ej:j=(b:Int))(hb:b<16):
  Ry P N w0 env L ⟨d, .index t x ix,ty,ps,af,gd⟩ (.int .u8 ((bl k b:Nat):Int)):=fun ac w ha _=>by
 subst ej;obtain⟨⟨de,h1,h2⟩,h3⟩:=he;have g:(b:Int)<((16:Nat):Int):=by omega
 have hk:(bR k)[b]! = .int .u8 ((bl k b:Nat):Int):=by
  rw[getElem!_def,jr k b hb]
 have oy:(bR k)[b]? =some (.int .u8 ((bl k b:Nat):Int)):=jr k b hb;simp only[execOp,ha.ev hx,ha.ev hj,Instr.index,asIntOf,Sem.run_bind,run_underlying hu,Result.andThen,Sem.run_pure,Int.natCast_nonneg,true_and,g,if_true,avb,lT w h3,part,Ci w h1,h2,av9,hk,oy];rfl
end
def uA(sep:aJ)(xs:List aJ):aJ:=Lib.join xs sep
theorem JX(c:UInt8)(a b:aJ):uA [c] [a,b]=a++c::b:=by simp[uA,Lib.join,List.intercalate]
theorem P8(k:Key):uA [46] (((oC k).take 4).map fun b=>dec b.toNat)=s0 k:=by
 have e:(oC k).take 4=[UInt8.ofNat (bl k 0),UInt8.ofNat (bl k 1),UInt8.ofNat (bl k 2),UInt8.ofNat (bl k 3)]:=rfl;rw[e];simp only[aum,au4,P7];simp[uA,Lib.join,List.intercalate,s0]
def lZ(k:Key)(n:Int):Bool:=bu ⟨n,n,k⟩
def jK(k:Key)(n:Int):aJ:=if lZ k n=true then q9 k n else[]
def gM(b:Bool):Int:=if b=true then 0 else 1
theorem P9(k:Key)(h:i<32):(oB k).take (i+1)=(oB k).take i++[jZ (iq k i)]:=by
 rw[at6,JU k h];rfl
theorem FP{k:Key}{n:Int}:lZ k n=true↔(n=32\/n=128)/\eF k n=k:=by
 unfold lZ;simp only[bu,af0,avc,decide_eq_true_eq];constructor
 ·intro h;exact⟨by omega,by simp_all⟩
 intro h;simp_all;omega
theorem ZY{k:Key}{n:Int}(h: ¬(n=32\/n=128)):lZ k n=false:=by
 rw[←Bool.not_eq_true,FP];exact fun e=>h e.1
theorem ZZ{k:Key}{n:Int}(h:n=32\/n=128):lZ k n=decide (eF k n=k):=by
 rw[awn,FP,decide_eq_true_iff];exact⟨fun e=>e.2,fun e=>⟨h,e⟩⟩
variable {k:Key} {i:Nat}
theorem Qa(n:Nat)(h:n<16):((⟨([48,49,50,51,52,53,54,55,56,57,97,98,99,100,101,102]:aJ).toArray⟩:ByteArray)[n]?).map (·.toNat)=some (jZ n).toNat:=by
 have key: ∀n,n<16->((⟨([48,49,50,51,52,53,54,55,56,57,97,98,99,100,101,102]:aJ).toArray⟩:ByteArray)[n]?).map (·.toNat)=some (jZ n).toNat:=by decide
 exact key n h
theorem aaa(k:Key)(i:Nat):bl k i/2^4=iq k (2*i):=by
 rw[iq,if_pos (by omega),show 2*i/2=i by omega]
theorem aab(k:Key)(i:Nat):bl k i&&&15=iq k (2*i+1):=by
 rw[iq,if_neg (by omega),show(2*i+1)/2=i by omega];exact Nat.and_two_pow_sub_one_eq_mod _ 4
theorem aac(k:Key)(i:Nat):((⟨([48,49,50,51,52,53,54,55,56,57,97,98,99,100,101,102]:aJ).toArray⟩:ByteArray)[bl k i/2^4]?).map (·.toNat)=some (jZ (iq k (2*i))).toNat:=by
 rw[aaa];exact Qa _ (CM k _)
theorem aad(k:Key)(i:Nat):((⟨([48,49,50,51,52,53,54,55,56,57,97,98,99,100,101,102]:aJ).toArray⟩:ByteArray)[bl k i&&&15]?).map (·.toNat)=some (jZ (iq k (2*i+1))).toNat:=by
 rw[aab];exact Qa _ (CM k _)
theorem aae(k:Key)(h:i<16):(oB k).take (2*(i+1))=(oB k).take (2*i)++[jZ (iq k (2*i)),jZ (iq k (2*i+1))]:=by
 rw[show 2*(i+1)=2*i+1+1 by omega,P9 k (by omega),P9 k (by omega),at4];rfl
theorem aaf(h:i<4){x:UInt8}(hx:((oC k).take 4)[i]? =some x):((((oC k).take 4).take (i+1)).map fun b=>dec b.toNat)=((((oC k).take 4).take i).map fun b=>dec b.toNat)++[dec x.toNat]:=by
 rw[at6,hx,auv];rfl
theorem Qb(k:Key):(s0 k).length<=15:=by
 have q0:=jJ k 0;have q1:=jJ k 1;have q2:=jJ k 2;have q3:=jJ k 3;have l0:=jY 3 (bl k 0) (by omega) (by decide);have l1:=jY 3 (bl k 1) (by omega) (by decide);have l2:=jY 3 (bl k 2) (by omega) (by decide);have l3:=jY 3 (bl k 3) (by omega) (by decide);simp only[s0,adr,ad2];omega
theorem FQ(k:Key)(n:Int):(jK k n).length<=32:=by
 have:=Qb k;have:=CN k;unfold jK q9;split
 ·split<;>omega
 simp
theorem aag(k:Key):(((oC k).take 4).map fun b=>dec b.toNat)≠[]/\(uA [46] (((oC k).take 4).map fun b=>dec b.toNat)).length<=140737488355328:=by
 refine⟨fun e=>?_,by rw[P8];have:=Qb k;omega⟩;have:=congrArg List.length e;rw[aur,FO]at this;cases this
def ll(p:cK):aJ:=if bu p=true then s8 p else[]
def ir(r:Rt):aJ:=if bu r.p=true then yZ r else[]
theorem Qc{p:cK}(h:bu p=true):lZ p.key p.bits=true/\0<=p.len/\p.len<=128:=by
 obtain⟨h1,h2,h3,h4⟩:=(FG p).1 h;refine⟨?_,by omega,by omega⟩;rw[lZ,FG];exact⟨h1,by show 0<=p.bits;omega,auY _,fun j hj dB=>h4 j hj (by have:p.bits<=(j:Int):=dB;omega)⟩
theorem Qd(a b:aJ)(c:UInt8)(h:a.length+b.length<=1000):[a,b]≠[]/\(uA [c] [a,b]).length<=140737488355328:=by
 refine⟨by simp,?_⟩;rw[JX,adr,ad2];omega
theorem FR(p:cK):(ll p).length<=36:=by
 unfold ll;split
 ·rename_i h;obtain⟨h1,h2,h3⟩:=Qc h;have hk:=FQ p.key p.bits;rw[jK,if_pos h1]at hk;have:=jY 3 p.len.toNat (by omega) (by decide);simp only[s8,adr,ad2];omega
 simp
end Go.Kb
namespace Go.Proofs.YtkggjjnhnjjokaaGreatDoor
open Go.ax Go.Proofs.Tryz
instance akB:gT prog 3:=⟨⟨_,underlying3,rfl⟩,by kernel_rfl⟩
instance akC:mv prog 3 .i64:=⟨underlying3⟩
instance akD:gT prog 4:=⟨⟨_,underlying4,rfl⟩,by kernel_rfl⟩
instance akE:gT prog 5:=⟨⟨_,underlying5,rfl⟩,by kernel_rfl⟩
instance akF:mv prog 5 .u8:=⟨underlying5⟩
instance akG:gT prog 9:=⟨⟨_,underlying9,rfl⟩,by kernel_rfl⟩
instance akH:mv prog 21 .i32:=⟨underlying21⟩
instance akI:gT prog 22:=⟨⟨_,underlying22,rfl⟩,by kernel_rfl⟩
instance akJ:fH prog 22 34 19:=⟨underlying22,by kernel_rfl⟩
instance akK:gK prog 25 16:=⟨⟨_,underlying25,rfl⟩,by kernel_rfl⟩
instance akL:wS prog 25 16 1:=⟨⟨_,underlying25,by kernel_rfl⟩⟩
instance akM:mv prog 26 .u32:=⟨underlying26⟩
instance akN:gT prog 27:=⟨⟨_,underlying27,rfl⟩,by kernel_rfl⟩
instance akO:mv prog 27 .u16:=⟨underlying27⟩
instance akP:gK prog 32 18:=⟨⟨_,underlying32,rfl⟩,by kernel_rfl⟩
instance akQ:dw prog 32 0 0:=⟨⟨_,_,0,underlying32,rfl,rfl,by kernel_rfl⟩⟩
instance akR:dw prog 32 1 1:=⟨⟨_,_,0,underlying32,rfl,rfl,by kernel_rfl⟩⟩
instance akS:dw prog 32 2 2:=⟨⟨_,_,15,underlying32,rfl,rfl,by kernel_rfl⟩⟩
instance akT:gK prog 34 19:=⟨⟨_,underlying34,rfl⟩,by kernel_rfl⟩
instance akU:dw prog 34 0 0:=⟨⟨_,_,17,underlying34,rfl,rfl,by kernel_rfl⟩⟩
instance akV:dw prog 34 1 18:=⟨⟨_,_,0,underlying34,rfl,rfl,by kernel_rfl⟩⟩
instance akW:gT prog 45:=⟨⟨_,underlying45,rfl⟩,by kernel_rfl⟩
instance akX:fH prog 45 47 20:=⟨underlying45,by kernel_rfl⟩
instance akY:gK prog 47 20:=⟨⟨_,underlying47,rfl⟩,by kernel_rfl⟩
instance akZ:dw prog 47 0 0:=⟨⟨_,_,18,underlying47,rfl,rfl,by kernel_rfl⟩⟩
instance ak0:dw prog 47 1 19:=⟨⟨_,_,0,underlying47,rfl,rfl,by kernel_rfl⟩⟩
instance ak1:gT prog 53:=⟨⟨_,underlying53,rfl⟩,by kernel_rfl⟩
instance ak2:fH prog 53 5 1:=⟨underlying53,by kernel_rfl⟩
instance ak3:gT prog 56:=⟨⟨_,underlying56,rfl⟩,by kernel_rfl⟩
instance ak4:fH prog 56 180 4:=⟨underlying56,by kernel_rfl⟩
instance ak5:gT prog 57:=⟨⟨_,underlying57,rfl⟩,by kernel_rfl⟩
instance ak6:fH prog 57 97 4:=⟨underlying57,by kernel_rfl⟩
instance ak7:gK prog 59 6:=⟨⟨_,underlying59,rfl⟩,by kernel_rfl⟩
instance ak8:dw prog 59 0 0:=⟨⟨_,_,0,underlying59,rfl,rfl,by kernel_rfl⟩⟩
instance ak9:dw prog 59 1 1:=⟨⟨_,_,0,underlying59,rfl,rfl,by kernel_rfl⟩⟩
instance ala:dw prog 59 2 2:=⟨⟨_,_,0,underlying59,rfl,rfl,by kernel_rfl⟩⟩
instance alb:dw prog 59 3 3:=⟨⟨_,_,0,underlying59,rfl,rfl,by kernel_rfl⟩⟩
instance alc:dw prog 59 4 4:=⟨⟨_,_,0,underlying59,rfl,rfl,by kernel_rfl⟩⟩
instance ald:dw prog 59 5 5:=⟨⟨_,_,0,underlying59,rfl,rfl,by kernel_rfl⟩⟩
instance ale:gT prog 60:=⟨⟨_,underlying60,rfl⟩,by kernel_rfl⟩
instance alf:fH prog 60 3 1:=⟨underlying60,by kernel_rfl⟩
instance alg:gT prog 61:=⟨⟨_,underlying61,rfl⟩,by kernel_rfl⟩
instance alh:mv prog 61 .u64:=⟨underlying61⟩
instance ali:gK prog 63 9:=⟨⟨_,underlying63,rfl⟩,by kernel_rfl⟩
instance alj:dw prog 63 0 0:=⟨⟨_,_,5,underlying63,rfl,rfl,by kernel_rfl⟩⟩
instance alk:dw prog 63 1 6:=⟨⟨_,_,0,underlying63,rfl,rfl,by kernel_rfl⟩⟩
instance alm:dw prog 63 2 7:=⟨⟨_,_,0,underlying63,rfl,rfl,by kernel_rfl⟩⟩
instance aln:dw prog 63 3 8:=⟨⟨_,_,0,underlying63,rfl,rfl,by kernel_rfl⟩⟩
instance alo:gK prog 65 10:=⟨⟨_,underlying65,rfl⟩,by kernel_rfl⟩
instance alp:dw prog 65 0 0:=⟨⟨_,_,8,underlying65,rfl,rfl,by kernel_rfl⟩⟩
instance alq:dw prog 65 1 9:=⟨⟨_,_,0,underlying65,rfl,rfl,by kernel_rfl⟩⟩
instance alr:gK prog 73 38:=⟨⟨_,underlying73,rfl⟩,by kernel_rfl⟩
instance als:dw prog 73 0 0:=⟨⟨_,_,0,underlying73,rfl,rfl,by kernel_rfl⟩⟩
instance alu:dw prog 73 1 1:=⟨⟨_,_,18,underlying73,rfl,rfl,by kernel_rfl⟩⟩
instance alv:dw prog 73 2 20:=⟨⟨_,_,15,underlying73,rfl,rfl,by kernel_rfl⟩⟩
instance alw:dw prog 73 3 36:=⟨⟨_,_,0,underlying73,rfl,rfl,by kernel_rfl⟩⟩
instance alx:dw prog 73 4 37:=⟨⟨_,_,0,underlying73,rfl,rfl,by kernel_rfl⟩⟩
instance aly:gT prog 74:=⟨⟨_,underlying74,rfl⟩,by kernel_rfl⟩
instance alz:fH prog 74 73 38:=⟨underlying74,by kernel_rfl⟩
instance alA:gK prog 76 4:=⟨⟨_,underlying76,rfl⟩,by kernel_rfl⟩
instance alB:dw prog 76 0 0:=⟨⟨_,_,0,underlying76,rfl,rfl,by kernel_rfl⟩⟩
instance alC:dw prog 76 1 1:=⟨⟨_,_,0,underlying76,rfl,rfl,by kernel_rfl⟩⟩
instance alD:dw prog 76 2 2:=⟨⟨_,_,0,underlying76,rfl,rfl,by kernel_rfl⟩⟩
instance alE:dw prog 76 3 3:=⟨⟨_,_,0,underlying76,rfl,rfl,by kernel_rfl⟩⟩
instance alF:gK prog 97 4:=⟨⟨_,underlying97,rfl⟩,by kernel_rfl⟩
instance alG:dw prog 97 0 0:=⟨⟨_,_,0,underlying97,rfl,rfl,by kernel_rfl⟩⟩
instance alH:dw prog 97 1 1:=⟨⟨_,_,0,underlying97,rfl,rfl,by kernel_rfl⟩⟩
instance alI:dw prog 97 2 2:=⟨⟨_,_,0,underlying97,rfl,rfl,by kernel_rfl⟩⟩
instance alJ:dw prog 97 3 3:=⟨⟨_,_,0,underlying97,rfl,rfl,by kernel_rfl⟩⟩
instance alK:fH prog 155 9 1:=⟨underlying155,by kernel_rfl⟩
instance alL:gT prog 170:=⟨⟨_,underlying170,rfl⟩,by kernel_rfl⟩
instance alN:dw prog 172 0 0:=⟨⟨_,_,0,underlying172,rfl,rfl,by kernel_rfl⟩⟩
instance alO:dw prog 172 1 1:=⟨⟨_,_,0,underlying172,rfl,rfl,by kernel_rfl⟩⟩
instance alP:dw prog 174 0 0:=⟨⟨_,_,9,underlying174,rfl,rfl,by kernel_rfl⟩⟩
instance alQ:dw prog 174 1 10:=⟨⟨_,_,0,underlying174,rfl,rfl,by kernel_rfl⟩⟩
instance alR:dw prog 174 2 11:=⟨⟨_,_,1,underlying174,rfl,rfl,by kernel_rfl⟩⟩
instance alS:gT prog 178:=⟨⟨_,underlying178,rfl⟩,by kernel_rfl⟩
instance alT:fH prog 178 53 1:=⟨underlying178,by kernel_rfl⟩
instance alU:gK prog 180 4:=⟨⟨_,underlying180,rfl⟩,by kernel_rfl⟩
instance alV:dw prog 180 0 0:=⟨⟨_,_,0,underlying180,rfl,rfl,by kernel_rfl⟩⟩
instance alW:dw prog 180 1 1:=⟨⟨_,_,0,underlying180,rfl,rfl,by kernel_rfl⟩⟩
instance alX:dw prog 180 2 2:=⟨⟨_,_,0,underlying180,rfl,rfl,by kernel_rfl⟩⟩
instance alY:dw prog 180 3 3:=⟨⟨_,_,0,underlying180,rfl,rfl,by kernel_rfl⟩⟩
instance alZ:fH prog 191 269 2:=⟨underlying191,by kernel_rfl⟩
instance al0:wS prog 242 3 1:=⟨⟨_,underlying242,by kernel_rfl⟩⟩
instance al1:mv prog 253 .u64:=⟨underlying253⟩
instance al2:gT prog 259:=⟨⟨_,underlying259,rfl⟩,by kernel_rfl⟩
instance al3:dw prog 261 0 0:=⟨⟨_,_,8,underlying261,rfl,rfl,by kernel_rfl⟩⟩
instance al4:dw prog 261 1 9:=⟨⟨_,_,0,underlying261,rfl,rfl,by kernel_rfl⟩⟩
instance al5:gK prog 269 2:=⟨⟨_,underlying269,rfl⟩,by kernel_rfl⟩
instance al6:dw prog 269 0 0:=⟨⟨_,_,0,underlying269,rfl,rfl,by kernel_rfl⟩⟩
instance al7:dw prog 269 1 1:=⟨⟨_,_,0,underlying269,rfl,rfl,by kernel_rfl⟩⟩
instance al8:gK prog 314 2:=⟨⟨_,underlying314,rfl⟩,by kernel_rfl⟩
instance al9:dw prog 314 0 0:=⟨⟨_,_,0,underlying314,rfl,rfl,by kernel_rfl⟩⟩
instance ama:dw prog 314 1 1:=⟨⟨_,_,0,underlying314,rfl,rfl,by kernel_rfl⟩⟩
instance amb:wS prog 317 20 1:=⟨⟨_,underlying317,by kernel_rfl⟩⟩
instance amc:gK prog 319 0:=⟨⟨_,underlying319,rfl⟩,by kernel_rfl⟩
instance amd:gK prog 324 4:=⟨⟨_,underlying324,rfl⟩,by kernel_rfl⟩
instance ame:dw prog 324 0 0:=⟨⟨_,_,0,underlying324,rfl,rfl,by kernel_rfl⟩⟩
instance amf:dw prog 324 1 1:=⟨⟨_,_,0,underlying324,rfl,rfl,by kernel_rfl⟩⟩
instance amg:dw prog 324 2 2:=⟨⟨_,_,0,underlying324,rfl,rfl,by kernel_rfl⟩⟩
instance amh:dw prog 324 3 3:=⟨⟨_,_,0,underlying324,rfl,rfl,by kernel_rfl⟩⟩
instance ami:fH prog 366 60 1:=⟨underlying366,by kernel_rfl⟩
instance amj:fH prog 396 178 1:=⟨underlying396,by kernel_rfl⟩
instance amk:fH prog 399 402 4:=⟨underlying399,by kernel_rfl⟩
instance aml:gK prog 402 4:=⟨⟨_,underlying402,rfl⟩,by kernel_rfl⟩
instance amm:dw prog 402 0 0:=⟨⟨_,_,0,underlying402,rfl,rfl,by kernel_rfl⟩⟩
instance amn:dw prog 402 1 1:=⟨⟨_,_,0,underlying402,rfl,rfl,by kernel_rfl⟩⟩
instance amo:dw prog 402 2 2:=⟨⟨_,_,0,underlying402,rfl,rfl,by kernel_rfl⟩⟩
instance amp:dw prog 402 3 3:=⟨⟨_,_,0,underlying402,rfl,rfl,by kernel_rfl⟩⟩
instance amq:gK prog 432 5:=⟨⟨_,underlying432,rfl⟩,by kernel_rfl⟩
instance amr:dw prog 432 0 0:=⟨⟨_,_,3,underlying432,rfl,rfl,by kernel_rfl⟩⟩
instance ams:dw prog 432 1 4:=⟨⟨_,_,0,underlying432,rfl,rfl,by kernel_rfl⟩⟩
instance amt:gT prog 433:=⟨⟨_,underlying433,rfl⟩,by kernel_rfl⟩
instance amu:fH prog 443 433 1:=⟨underlying443,by kernel_rfl⟩
theorem zIq{P:Program}{f:FuncId}{fn:Func}(h:P.funcs[f]? =some fn)(a:fn.body.isNone=false:=by kernel_rfl)(b:(fn.name== "runtime.NumGoroutine")=false:=by kernel_rfl):aH P f:=⟨⟨fn,h,a,b⟩⟩
instance amv:aH prog 13:=zIq func13
instance amw:aH prog 15:=zIq func15
instance amx:aH prog 19:=zIq func19
instance amy:aH prog 22:=zIq func22
instance amz:aH prog 25:=zIq func25
instance amA:aH prog 27:=zIq func27
instance amB:aH prog 29:=zIq func29
instance amC:aH prog 30:=zIq func30
instance amD:aH prog 32:=zIq func32
instance amE:aH prog 34:=zIq func34
instance amF:aH prog 35:=zIq func35
instance amG:aH prog 36:=zIq func36
instance amH:aH prog 37:=zIq func37
instance amI:aH prog 38:=zIq func38
instance amJ:aH prog 39:=zIq func39
instance amK:aH prog 40:=zIq func40
instance amL:aH prog 41:=zIq func41
instance amM:aH prog 42:=zIq func42
instance amN:aH prog 43:=zIq func43
instance amO:aH prog 44:=zIq func44
instance amP:aH prog 50:=zIq func50
instance amQ:aH prog 51:=zIq func51
instance amR:aH prog 57:=zIq func57
instance amS:aH prog 58:=zIq func58
instance amT:aH prog 62:=zIq func62
instance amU:aH prog 66:=zIq func66
instance amV:aH prog 68:=zIq func68
instance amW:aH prog 69:=zIq func69
instance amX:aH prog 74:=zIq func74
instance amY:aH prog 75:=zIq func75
instance amZ:aH prog 76:=zIq func76
instance am0:aH prog 78:=zIq func78
instance am1:aH prog 79:=zIq func79
instance am2:aH prog 80:=zIq func80
instance am3:aH prog 84:=zIq func84
instance am4:aH prog 85:=zIq func85
instance am5:aH prog 86:=zIq func86
instance am6:aH prog 87:=zIq func87
instance am7:aH prog 91:=zIq func91
instance am8:aH prog 92:=zIq func92
instance am9:aH prog 93:=zIq func93
instance ana:aH prog 94:=zIq func94
instance anb:aH prog 95:=zIq func95
instance ane:aH prog 96:=zIq func96
instance anf:aH prog 97:=zIq func97
instance ang:aH prog 98:=zIq func98
instance anh:aH prog 99:=zIq func99
instance ani:aH prog 100:=zIq func100
instance anj:aH prog 101:=zIq func101
instance ank:aH prog 102:=zIq func102
instance anl:aH prog 103:=zIq func103
instance anm:aH prog 104:=zIq func104
instance ann:aH prog 105:=zIq func105
instance ano:aH prog 106:=zIq func106
instance anp:aH prog 107:=zIq func107
instance anq:aH prog 108:=zIq func108
instance anr:aH prog 110:=zIq func110
instance ans:aH prog 111:=zIq func111
instance ant:aH prog 112:=zIq func112
instance anu:aH prog 113:=zIq func113
instance anv:aH prog 115:=zIq func115
instance anw:aH prog 116:=zIq func116
instance anx:aH prog 117:=zIq func117
instance anz:aH prog 126:=zIq func126
instance anA:aH prog 129:=zIq func129
instance anB:aH prog 130:=zIq func130
instance anC:aH prog 138:=zIq func138
instance anD:aH prog 139:=zIq func139
instance anE:aH prog 142:=zIq func142
instance anF:aH prog 143:=zIq func143
instance anG:aH prog 144:=zIq func144
instance anH:aH prog 147:=zIq func147
instance anI:aH prog 148:=zIq func148
instance anJ:aH prog 149:=zIq func149
instance anK:aH prog 153:=zIq func153
instance anL:aH prog 157:=zIq func157
instance anM:aH prog 158:=zIq func158
instance anN:aH prog 159:=zIq func159
instance anO:aH prog 160:=zIq func160
instance anP:aH prog 161:=zIq func161
instance anQ:aH prog 162:=zIq func162
instance anR:aH prog 163:=zIq func163
instance anS:aH prog 164:=zIq func164
instance anT:aH prog 165:=zIq func165
instance anU:aH prog 166:=zIq func166
instance anV:aH prog 167:=zIq func167
instance anW:aH prog 168:=zIq func168
instance anX:aH prog 169:=zIq func169
instance anY:aH prog 170:=zIq func170
instance anZ:aH prog 171:=zIq func171
instance an0:aH prog 172:=zIq func172
instance an1:aH prog 173:=zIq func173
instance an2:aH prog 174:=zIq func174
instance an3:aH prog 175:=zIq func175
instance an4:aH prog 176:=zIq func176
instance an5:aH prog 177:=zIq func177
instance an6:aH prog 178:=zIq func178
instance an7:aH prog 179:=zIq func179
instance an8:aH prog 180:=zIq func180
instance an9:aH prog 181:=zIq func181
instance aoa:aH prog 182:=zIq func182
instance aob:aH prog 185:=zIq func185
instance aoc:aH prog 207:=zIq func207
instance aod:aH prog 208:=zIq func208
instance aoe:aH prog 209:=zIq func209
instance aof:aH prog 214:=zIq func214
instance aog:aH prog 215:=zIq func215
instance aoh:aH prog 216:=zIq func216
instance aoi:aH prog 217:=zIq func217
instance aoj:aH prog 218:=zIq func218
instance aok:aH prog 219:=zIq func219
instance aol:aH prog 220:=zIq func220
instance aom:aH prog 221:=zIq func221
instance aon:aH prog 222:=zIq func222
instance aoo:aH prog 223:=zIq func223
instance aop:aH prog 224:=zIq func224
instance aoq:aH prog 226:=zIq func226
instance aor:aH prog 227:=zIq func227
instance aos:aH prog 228:=zIq func228
instance aot:aH prog 229:=zIq func229
instance aou:aH prog 230:=zIq func230
instance aov:aH prog 245:=zIq func245
instance aow:aH prog 250:=zIq func250
instance aox:aH prog 251:=zIq func251
instance aoy:aH prog 252:=zIq func252
instance aoz:aH prog 253:=zIq func253
instance aoA:aH prog 254:=zIq func254
instance aoB:aH prog 255:=zIq func255
instance aoC:aH prog 256:=zIq func256
instance aoD:aH prog 257:=zIq func257
instance aoE:aH prog 258:=zIq func258
instance aoF:aH prog 259:=zIq func259
instance aoG:aH prog 260:=zIq func260
instance aoH:aH prog 261:=zIq func261
instance aoI:aH prog 262:=zIq func262
instance aoJ:aH prog 263:=zIq func263
instance aoK:aH prog 264:=zIq func264
instance aoL:aH prog 265:=zIq func265
instance aoM:aH prog 267:=zIq func267
instance aoN:aH prog 268:=zIq func268
instance aoO:aH prog 269:=zIq func269
instance aoP:aH prog 297:=zIq func297
instance aoQ:aH prog 298:=zIq func298
instance aoR:aH prog 299:=zIq func299
instance aoS:aH prog 300:=zIq func300
instance aoT:aH prog 301:=zIq func301
instance aoU:aH prog 302:=zIq func302
instance aoV:aH prog 303:=zIq func303
instance aoW:aH prog 304:=zIq func304
instance aoX:aH prog 305:=zIq func305
instance aoY:aH prog 306:=zIq func306
instance aoZ:aH prog 307:=zIq func307
instance ao0:aH prog 308:=zIq func308
instance ao1:aH prog 309:=zIq func309
instance ao2:aH prog 310:=zIq func310
instance ao3:aH prog 311:=zIq func311
instance ao4:aH prog 312:=zIq func312
instance ao5:aH prog 313:=zIq func313
instance ao6:aH prog 314:=zIq func314
instance ao7:aH prog 315:=zIq func315
instance ao8:aH prog 326:=zIq func326
instance ao9:aH prog 327:=zIq func327
instance apa:aH prog 328:=zIq func328
instance apb:aH prog 329:=zIq func329
instance apc:aH prog 330:=zIq func330
instance apd:aH prog 331:=zIq func331
instance ape:aH prog 332:=zIq func332
instance apf:aH prog 333:=zIq func333
instance apg:aH prog 334:=zIq func334
instance aph:aH prog 335:=zIq func335
instance api:aH prog 336:=zIq func336
instance apj:aH prog 340:=zIq func340
instance apk:aH prog 341:=zIq func341
instance apl:aH prog 342:=zIq func342
instance apm:aH prog 343:=zIq func343
instance apn:aH prog 344:=zIq func344
instance apo:aH prog 345:=zIq func345
instance apq:aH prog 346:=zIq func346
instance apr:aH prog 347:=zIq func347
instance aps:aH prog 348:=zIq func348
instance apt:aH prog 349:=zIq func349
instance apu:aH prog 350:=zIq func350
end Go.Proofs.YtkggjjnhnjjokaaGreatDoor
namespace Go.Proofs
open Go.Shelf Go.Proofs.Tryz
theorem kSq{α:Sort _}{a b:α}(h:a=b:=by kernel_rfl):a=b:=h
def Tryz.Qe:Go.Shelf.Ren:=⟨fun|156=>178|165=>225|166=>226|169=>92|240=>265|241=>266|276=>316|277=>317|n=>n,fun|31=>155|9=>9|3=>3|4=>4|0=>0|20=>20|72=>172|76=>304|70=>170|37=>53|75=>303|127=>256|164=>333|5=>5|80=>176|n=>n,fun|n=>n⟩
theorem zSq{α:Type}{a:Option α}{b c:α}(h:a=some b)(e:b=c:=by kernel_rfl):a=some c:=h.trans (congrArg some e)
theorem Tryz.aah:Go.Proofs.Lays.n156 prog Tryz.Qe:={
 mixed:=kSq
 f156:=zSq func178
 f165:=zSq func225
 f166:=zSq func226
 f169:=zSq func92
 f240:=zSq func265
 f241:=zSq func266
 f276:=zSq func316
 f277:=zSq func317
 t0:=underlying0
 a0:=isAgg0
 z0:=sizeOf0
 v0:=zeroValue0
 t3:=underlying3
 a3:=isAgg3
 z3:=sizeOf3
 v3:=zeroValue3
 t4:=underlying4
 a4:=isAgg4
 z4:=sizeOf4
 v4:=zeroValue4
 t9:=underlying9
 a9:=isAgg9
 z9:=sizeOf9
 v9:=zeroValue9
 t20:=underlying20
 a20:=isAgg20
 z20:=sizeOf20
 v20:=zeroValue20
 t31:=underlying155
 a31:=isAgg155
 z31:=sizeOf155
 v31:=zeroValue155
 t37:=underlying53
 a37:=isAgg53
 z37:=sizeOf53
 v37:=zeroValue53
 t70:=underlying170
 a70:=isAgg170
 z70:=sizeOf170
 v70:=zeroValue170
 t72:=underlying172
 a72:=isAgg172
 z72:=sizeOf172
 v72:=zeroValue172
 t75:=underlying303
 a75:=isAgg303
 z75:=sizeOf303
 v75:=zeroValue303
 t76:=underlying304
 a76:=isAgg304
 z76:=sizeOf304
 v76:=zeroValue304
 t127:=underlying256
 a127:=isAgg256
 z127:=sizeOf256
 v127:=zeroValue256
 t164:=underlying333
 a164:=isAgg333
 z164:=sizeOf333
 v164:=zeroValue333}
theorem Tryz.aai:Builder.Extra prog Tryz.Qe:={
 sizeBuilder:=by kernel_rfl
 liesBuilder:=by kernel_rfl
 t5:=underlying5
 a5:=isAgg5
 z5:=sizeOf5
 v5:=zeroValue5
 infoByte:=by kernel_rfl
 cellsByte:=by kernel_rfl
 sizeByte:=by kernel_rfl
 neB5:=by decide}
open Go.RowKit in
theorem Tryz.strings_Join(bk o c:Nat)(xs:List ByteArray)(sep:ByteArray)(w:World)(FT: ∀(j:Nat) x,xs[j]? =some x->w.cell? ⟨bk,o+j,none⟩=some (.string x))(hbk:bk<w.heap.size)(hN:xs.length<=140737488355328)(vG:xs.length<=c)(hlen:(Lib.join (xs.map (·.data.toList)) sep.data.toList).length<=140737488355328):
  Calls prog 178 #[.slice (some ⟨bk,o,none⟩) xs.length c, .string sep] w fun e w'=>e= .returned (.string ⟨(Lib.join (xs.map (·.data.toList)) sep.data.toList).toArray⟩)/\Below w.heap.size w w':=Any.strings_Join Tryz.aah Tryz.aai bk o c xs sep w FT hbk hN vG hlen
def Tryz.aaj:Go.Shelf.Ren:=⟨fun|137=>245|217=>270|266=>318|n=>n,fun|9=>9|5=>5|3=>3|n=>n,fun|n=>n⟩
theorem Tryz.aak:Go.Proofs.Lays.n137 prog Tryz.aaj:={
 mixed:=kSq
 f137:=zSq func245
 f217:=zSq func270
 f266:=zSq func318
 t3:=underlying3
 a3:=isAgg3
 z3:=sizeOf3
 v3:=zeroValue3
 t5:=underlying5
 a5:=isAgg5
 z5:=sizeOf5
 v5:=zeroValue5
 t9:=underlying9
 a9:=isAgg9
 z9:=sizeOf9
 v9:=zeroValue9}
open Go.RowKit in
theorem Tryz.strings_IndexByte(s:ByteArray)(c:Int)(w:World):
  Calls prog 245 #[.string s, .int .u8 c] w fun e w'=>e= .returned (.int .i64 (Lib.indexByte s.data.toList c.toNat.toUInt8))/\w'=w:=Any.strings_IndexByte Tryz.aak s c w
def Tryz.apv:Go.Shelf.Ren:=⟨fun|172=>207|244=>243|245=>244|247=>287|279=>288|280=>289|281=>290|282=>291|287=>321|316=>322|171=>86|205=>323|321=>338|322=>339|243=>154|246=>212|283=>246|284=>247|285=>248|286=>249|129=>293|317=>292|318=>294|319=>295|320=>296|337=>324|338=>325|n=>n,fun|9=>9|3=>3|75=>303|76=>304|4=>4|5=>5|167=>378|37=>53|0=>0|85=>379|2=>2|168=>381|53=>61|175=>417|46=>253|210=>421|127=>256|145=>439|143=>437|21=>21|171=>348|173=>351|212=>385|51=>26|20=>20|213=>386|232=>440|233=>441|80=>176|n=>n,fun|15=>4|16=>5|17=>1|18=>6|19=>7|n=>n⟩
def Tryz.apw:Go.Shelf.Ren:=⟨fun|246=>212|283=>246|284=>247|285=>248|286=>249|129=>293|317=>292|318=>294|319=>295|320=>296|337=>324|338=>325|n=>n,fun|2=>2|3=>3|9=>9|4=>4|171=>348|0=>0|53=>61|37=>53|5=>5|173=>351|212=>385|51=>26|20=>20|213=>386|46=>253|232=>440|233=>441|n=>n,fun|17=>1|18=>6|19=>7|n=>n⟩
def Tryz.apx:Go.Shelf.Ren:=⟨fun|243=>154|246=>212|283=>246|284=>247|285=>248|286=>249|129=>293|317=>292|318=>294|319=>295|320=>296|337=>324|338=>325|n=>n,fun|3=>3|9=>9|2=>2|4=>4|171=>348|0=>0|53=>61|37=>53|5=>5|173=>351|212=>385|51=>26|20=>20|213=>386|46=>253|232=>440|233=>441|n=>n,fun|17=>1|18=>6|19=>7|n=>n⟩
def Tryz.aal:Go.Shelf.Ren:=⟨fun|171=>86|243=>154|246=>212|283=>246|284=>247|285=>248|286=>249|129=>293|317=>292|318=>294|319=>295|320=>296|337=>324|338=>325|n=>n,fun|3=>3|9=>9|2=>2|4=>4|171=>348|0=>0|53=>61|37=>53|5=>5|173=>351|212=>385|51=>26|20=>20|213=>386|46=>253|232=>440|233=>441|n=>n,fun|17=>1|18=>6|19=>7|n=>n⟩
theorem Tryz.aam:Go.Proofs.LaysM.n171 prog Tryz.aal:={
 mixed:=kSq
 f129:=zSq func293
 f171:=zSq func86
 f243:=zSq func154
 f246:=zSq func212
 f283:=zSq func246
 f284:=zSq func247
 f285:=zSq func248
 f286:=zSq func249
 f317:=zSq func292
 f318:=zSq func294
 f319:=zSq func295
 f320:=zSq func296
 f337:=zSq func324
 f338:=zSq func325
 t0:=underlying0
 a0:=isAgg0
 z0:=sizeOf0
 v0:=zeroValue0
 t2:=underlying2
 a2:=isAgg2
 z2:=sizeOf2
 v2:=zeroValue2
 t3:=underlying3
 a3:=isAgg3
 z3:=sizeOf3
 v3:=zeroValue3
 t4:=underlying4
 a4:=isAgg4
 z4:=sizeOf4
 v4:=zeroValue4
 t5:=underlying5
 a5:=isAgg5
 z5:=sizeOf5
 v5:=zeroValue5
 t9:=underlying9
 a9:=isAgg9
 z9:=sizeOf9
 v9:=zeroValue9
 t20:=underlying20
 a20:=isAgg20
 z20:=sizeOf20
 v20:=zeroValue20
 t37:=underlying53
 a37:=isAgg53
 z37:=sizeOf53
 v37:=zeroValue53
 t46:=underlying253
 a46:=isAgg253
 z46:=sizeOf253
 v46:=zeroValue253
 t51:=underlying26
 a51:=isAgg26
 z51:=sizeOf26
 v51:=zeroValue26
 t53:=underlying61
 a53:=isAgg61
 z53:=sizeOf61
 v53:=zeroValue61
 t171:=underlying348
 a171:=isAgg348
 z171:=sizeOf348
 v171:=zeroValue348
 t173:=underlying351
 a173:=isAgg351
 z173:=sizeOf351
 v173:=zeroValue351
 t212:=underlying385
 a212:=isAgg385
 z212:=sizeOf385
 v212:=zeroValue385
 t213:=underlying386
 a213:=isAgg386
 z213:=sizeOf386
 t232:=underlying440
 a232:=isAgg440
 z232:=sizeOf440
 v232:=zeroValue440
 t233:=underlying441
 a233:=isAgg441
 z233:=sizeOf441
 v233:=zeroValue441
 g17:=kSq
 g18:=kSq
 g19:=kSq
 i0:=kSq
 i2:=kSq
 i3:=kSq
 i4:=kSq
 i5:=kSq
 i9:=kSq
 i20:=kSq
 i37:=kSq
 i46:=kSq
 i51:=kSq
 i53:=kSq
 i171:=kSq
 i173:=kSq
 i212:=kSq
 i232:=kSq
 i233:=kSq
 m17:=kSq
 m18:=kSq
 m19:=by kernel_rfl}
open Go.RowKit Go.Sort Go.Lib in
theorem Tryz.strconv_Itoa(n:Int)(h0: -9223372036854775808≤n)(h1:n≤9223372036854775807)(w:World)(aan:Lib.TabIs prog w "internal/strconv.uint64pow10" .u64 Lib.pow10Tab):
  Calls prog 86 #[.int .i64 n] w fun e w'=>e= .returned (.string ⟨(Lib.itoa n).toArray⟩)/\ ∃k os,w'=grow (w.drewN k) os:=Any.strconv_Itoa Tryz.aam n h0 h1 w aan
def Tryz.aao:Go.Shelf.Ren:=⟨fun|172=>207|244=>243|245=>244|247=>287|279=>288|280=>289|281=>290|282=>291|287=>321|316=>322|171=>86|205=>323|321=>338|322=>339|243=>154|246=>212|283=>246|284=>247|285=>248|286=>249|129=>293|317=>292|318=>294|319=>295|320=>296|337=>324|338=>325|n=>n,fun|9=>9|3=>3|75=>303|76=>304|4=>4|5=>5|167=>378|37=>53|0=>0|85=>379|2=>2|168=>381|53=>61|175=>417|46=>253|210=>421|127=>256|145=>439|143=>437|21=>21|171=>348|173=>351|212=>385|51=>26|20=>20|213=>386|232=>440|233=>441|80=>176|n=>n,fun|15=>4|16=>5|17=>1|18=>6|19=>7|n=>n⟩
theorem Tryz.JY:Go.Proofs.LaysC.n172 prog Tryz.aao:={
 mixed:=kSq
 f129:=zSq func293
 f171:=zSq func86
 f172:=zSq func207
 f205:=zSq func323
 f243:=zSq func154
 f244:=zSq func243
 f245:=zSq func244
 f246:=zSq func212
 f247:=zSq func287
 f279:=zSq func288
 f280:=zSq func289
 f281:=zSq func290
 f282:=zSq func291
 f283:=zSq func246
 f284:=zSq func247
 f285:=zSq func248
 f286:=zSq func249
 f287:=zSq func321
 f316:=zSq func322
 f317:=zSq func292
 f318:=zSq func294
 f319:=zSq func295
 f320:=zSq func296
 f321:=zSq func338
 f322:=zSq func339
 f337:=zSq func324
 f338:=zSq func325
 t0:=underlying0
 a0:=isAgg0
 z0:=sizeOf0
 v0:=zeroValue0
 t2:=underlying2
 a2:=isAgg2
 z2:=sizeOf2
 v2:=zeroValue2
 t3:=underlying3
 a3:=isAgg3
 z3:=sizeOf3
 v3:=zeroValue3
 t4:=underlying4
 a4:=isAgg4
 z4:=sizeOf4
 v4:=zeroValue4
 t5:=underlying5
 a5:=isAgg5
 z5:=sizeOf5
 v5:=zeroValue5
 t9:=underlying9
 a9:=isAgg9
 z9:=sizeOf9
 v9:=zeroValue9
 t20:=underlying20
 a20:=isAgg20
 z20:=sizeOf20
 v20:=zeroValue20
 t21:=underlying21
 a21:=isAgg21
 z21:=sizeOf21
 v21:=zeroValue21
 t37:=underlying53
 a37:=isAgg53
 z37:=sizeOf53
 v37:=zeroValue53
 t46:=underlying253
 a46:=isAgg253
 z46:=sizeOf253
 v46:=zeroValue253
 t51:=underlying26
 a51:=isAgg26
 z51:=sizeOf26
 v51:=zeroValue26
 t53:=underlying61
 a53:=isAgg61
 z53:=sizeOf61
 v53:=zeroValue61
 t75:=underlying303
 a75:=isAgg303
 z75:=sizeOf303
 v75:=zeroValue303
 t76:=underlying304
 a76:=isAgg304
 z76:=sizeOf304
 v76:=zeroValue304
 t85:=underlying379
 a85:=isAgg379
 z85:=sizeOf379
 v85:=zeroValue379
 t127:=underlying256
 a127:=isAgg256
 z127:=sizeOf256
 v127:=zeroValue256
 t143:=underlying437
 a143:=isAgg437
 z143:=sizeOf437
 v143:=zeroValue437
 t145:=underlying439
 a145:=isAgg439
 z145:=sizeOf439
 v145:=zeroValue439
 t167:=underlying378
 a167:=isAgg378
 z167:=sizeOf378
 v167:=zeroValue378
 t168:=underlying381
 a168:=isAgg381
 z168:=sizeOf381
 v168:=zeroValue381
 t171:=underlying348
 a171:=isAgg348
 z171:=sizeOf348
 v171:=zeroValue348
 t173:=underlying351
 a173:=isAgg351
 z173:=sizeOf351
 v173:=zeroValue351
 t175:=underlying417
 a175:=isAgg417
 z175:=sizeOf417
 v175:=zeroValue417
 t210:=underlying421
 a210:=isAgg421
 z210:=sizeOf421
 v210:=zeroValue421
 t212:=underlying385
 a212:=isAgg385
 z212:=sizeOf385
 v212:=zeroValue385
 t213:=underlying386
 a213:=isAgg386
 z213:=sizeOf386
 t232:=underlying440
 a232:=isAgg440
 z232:=sizeOf440
 v232:=zeroValue440
 t233:=underlying441
 a233:=isAgg441
 z233:=sizeOf441
 v233:=zeroValue441
 g15:=kSq
 g16:=kSq
 g17:=kSq
 g18:=kSq
 g19:=kSq
 t80:=underlying176
 a80:=isAgg176
 z80:=sizeOf176
 v80:=zeroValue176
 i0:=kSq
 i2:=kSq
 i3:=kSq
 i4:=kSq
 i5:=kSq
 i9:=kSq
 i20:=kSq
 i21:=kSq
 i37:=kSq
 i46:=kSq
 i51:=kSq
 i53:=kSq
 i75:=kSq
 i76:=kSq
 i80:=kSq
 i85:=kSq
 i127:=kSq
 i143:=kSq
 i145:=kSq
 i167:=kSq
 i168:=kSq
 i171:=kSq
 i173:=kSq
 i175:=kSq
 i210:=kSq
 i212:=kSq
 i232:=kSq
 i233:=kSq
 m15:=kSq
 m16:=kSq
 m17:=kSq
 m18:=kSq
 m19:=kSq
 c0:=kSq
 c2:=kSq
 c3:=kSq
 c4:=kSq
 c5:=kSq
 c9:=kSq
 c20:=kSq
 c21:=kSq
 c37:=kSq
 c46:=kSq
 c51:=kSq
 c53:=kSq
 c75:=kSq
 c76:=kSq
 c80:=kSq
 c85:=kSq
 c127:=kSq
 c143:=kSq
 c145:=kSq
 c167:=kSq
 c168:=kSq
 c171:=kSq
 c173:=kSq
 c175:=kSq
 c210:=kSq
 c212:=kSq
 c213:=kSq
 c232:=kSq
 c233:=by kernel_rfl}
open Go.RowKit in
theorem Tryz.strconv_Atoi_ok(s:ByteArray)(Qf:s.size<=9223372036854775806)(v:Int)(h:Lib.atoiAll s.data.toList= .ok v)(w:World):
  Calls prog 207 #[.string s] w fun e w'=>e= .returned (.tuple #[.int .i64 v, .nilIface])/\(w'=w\/ ∃t,w'=Lib.bytesWorld w 5 t):=Any.strconv_Atoi_ok Tryz.JY s Qf v h w
open Go.RowKit in
theorem Tryz.strconv_Atoi_syntax_var(s:ByteArray)(JZ:s.size≤281474976710656)(h:Lib.atoiAll s.data.toList=Lib.atoiAll [])(tp:TypeId)(p:Value)(w:World)(y5:w.var? prog "strconv.ErrSyntax" =some #[.iface tp p]):
  Calls prog 207 #[.string s] w fun e w'=> ∃N,e= .returned (.tuple #[.int .i64 0, .iface 381 (.pointer (some ⟨N,0,none⟩))])/\w.heap.size<=N/\w'.heap[N]? =some (.cells #[.string ⟨#[65,116,111,105]⟩, .string s, .iface tp p] 421 (0,0))/\Below w.heap.size w w':=Any.strconv_Atoi_syntax_var Tryz.JY s JZ h tp p w y5
open Go.RowKit in
theorem Tryz.strconv_Atoi_range_var(s:ByteArray)(JZ:s.size≤281474976710656)(h:Lib.atoiAll s.data.toList= .range)(tp:TypeId)(p:Value)(w:World)(y5:w.var? prog "strconv.ErrRange" =some #[.iface tp p]):
  Calls prog 207 #[.string s] w fun e w'=> ∃N,e= .returned (.tuple #[.int .i64 (Lib.atoiSat s.data.toList), .iface 381 (.pointer (some ⟨N,0,none⟩))])/\w.heap.size<=N/\w'.heap[N]? =some (.cells #[.string ⟨#[65,116,111,105]⟩, .string s, .iface tp p] 421 (0,0))/\Below w.heap.size w w':=Any.strconv_Atoi_range_var Tryz.JY s JZ h tp p w y5
def Tryz.apy:Go.Shelf.Ren:=⟨fun|219=>231|217=>270|225=>271|224=>272|267=>273|266=>318|314=>319|n=>n,fun|9=>9|3=>3|4=>4|5=>5|46=>253|146=>411|51=>26|n=>n,fun|1=>0|n=>n⟩
def Tryz.aap:Go.Shelf.Ren:=⟨fun|145=>115|220=>188|219=>231|217=>270|225=>271|224=>272|267=>273|266=>318|314=>319|n=>n,fun|9=>9|4=>4|59=>205|3=>3|5=>5|46=>253|146=>411|51=>26|n=>n,fun|1=>0|n=>n⟩
theorem Tryz.aaq:Go.Proofs.Lays.n145 prog Tryz.aap:={
 mixed:=kSq
 f145:=zSq func115
 f217:=zSq func270
 f219:=zSq func231
 f220:=zSq func188
 f224:=zSq func272
 f225:=zSq func271
 f266:=zSq func318
 f267:=zSq func273
 f314:=zSq func319
 t3:=underlying3
 a3:=isAgg3
 z3:=sizeOf3
 v3:=zeroValue3
 t4:=underlying4
 a4:=isAgg4
 z4:=sizeOf4
 v4:=zeroValue4
 t5:=underlying5
 a5:=isAgg5
 z5:=sizeOf5
 v5:=zeroValue5
 t9:=underlying9
 a9:=isAgg9
 z9:=sizeOf9
 v9:=zeroValue9
 t46:=underlying253
 a46:=isAgg253
 z46:=sizeOf253
 v46:=zeroValue253
 t51:=underlying26
 a51:=isAgg26
 z51:=sizeOf26
 v51:=zeroValue26
 t59:=underlying205
 a59:=isAgg205
 z59:=sizeOf205
 v59:=zeroValue205
 t146:=underlying411
 a146:=isAgg411
 z146:=sizeOf411
 v146:=zeroValue411
 g1:=by kernel_rfl}
open Go.RowKit Go.Lib in
theorem Tryz.strings_Cut(s sep:ByteArray)(m:Int)(w:World)(hs:s.size<4294967281)(hm:w.cell? ⟨0,0,none⟩=some (.int .i64 m)):
  Calls prog 115 #[.string s, .string sep] w fun e w'=>e= .returned (.tuple #[.string ⟨(Lib.cut s.data.toList sep.data.toList).1.toArray⟩, .string ⟨(Lib.cut s.data.toList sep.data.toList).2.1.toArray⟩, .bool (Lib.cut s.data.toList sep.data.toList).2.2])/\ ∃n,w'=w.drewN n:=Any.strings_Cut Tryz.aaq s sep m w hs hm
def Tryz.apz:Go.Shelf.Ren:=⟨fun|221=>146|268=>204|138=>205|143=>206|195=>240|197=>241|218=>242|219=>231|260=>286|217=>270|225=>271|224=>272|267=>273|266=>318|314=>319|n=>n,fun|9=>9|3=>3|31=>155|4=>4|0=>0|105=>344|21=>21|5=>5|46=>253|119=>413|139=>416|138=>415|146=>411|51=>26|n=>n,fun|1=>0|3=>2|4=>3|n=>n⟩
def Tryz.aar:Go.Shelf.Ren:=⟨fun|146=>78|221=>146|268=>204|138=>205|143=>206|195=>240|197=>241|218=>242|219=>231|260=>286|217=>270|225=>271|224=>272|267=>273|266=>318|314=>319|n=>n,fun|9=>9|31=>155|3=>3|4=>4|0=>0|105=>344|21=>21|5=>5|46=>253|119=>413|139=>416|138=>415|146=>411|51=>26|n=>n,fun|1=>0|3=>2|4=>3|n=>n⟩
theorem Tryz.aas:Go.Proofs.Lays.n146 prog Tryz.aar:={
 mixed:=kSq
 f138:=zSq func205
 f143:=zSq func206
 f146:=zSq func78
 f195:=zSq func240
 f197:=zSq func241
 f217:=zSq func270
 f218:=zSq func242
 f219:=zSq func231
 f221:=zSq func146
 f224:=zSq func272
 f225:=zSq func271
 f260:=zSq func286
 f266:=zSq func318
 f267:=zSq func273
 f268:=zSq func204
 f314:=zSq func319
 t0:=underlying0
 a0:=isAgg0
 z0:=sizeOf0
 v0:=zeroValue0
 t3:=underlying3
 a3:=isAgg3
 z3:=sizeOf3
 v3:=zeroValue3
 t4:=underlying4
 a4:=isAgg4
 z4:=sizeOf4
 v4:=zeroValue4
 t5:=underlying5
 a5:=isAgg5
 z5:=sizeOf5
 v5:=zeroValue5
 t9:=underlying9
 a9:=isAgg9
 z9:=sizeOf9
 v9:=zeroValue9
 t21:=underlying21
 a21:=isAgg21
 z21:=sizeOf21
 v21:=zeroValue21
 t31:=underlying155
 a31:=isAgg155
 z31:=sizeOf155
 v31:=zeroValue155
 t46:=underlying253
 a46:=isAgg253
 z46:=sizeOf253
 v46:=zeroValue253
 t51:=underlying26
 a51:=isAgg26
 z51:=sizeOf26
 v51:=zeroValue26
 t105:=underlying344
 a105:=isAgg344
 z105:=sizeOf344
 v105:=zeroValue344
 t119:=underlying413
 a119:=isAgg413
 z119:=sizeOf413
 t138:=underlying415
 a138:=isAgg415
 z138:=sizeOf415
 v138:=zeroValue415
 t139:=underlying416
 a139:=isAgg416
 z139:=sizeOf416
 v139:=zeroValue416
 t146:=underlying411
 a146:=isAgg411
 z146:=sizeOf411
 v146:=zeroValue411
 g1:=kSq
 g3:=kSq
 g4:=by kernel_rfl}
open Go.RowKit Go.Lib in
theorem Tryz.strings_Split(s sep:ByteArray)(m:Int)(w:World)(hs:s.size<4294967281)(hm:w.cell? ⟨0,0,none⟩=some (.int .i64 m))(h1:1<=sep.size):
  Calls prog 78 #[.string s, .string sep] w fun e w'=>
   e= .returned (.slice (some ⟨w.heap.size,0,none⟩) (Lib.countB s sep+1) (Lib.countB s sep+1))/\w'=w.alloc (.cells ((Lib.splitB sep 0 (Lib.countB s sep) s).map Value.string).toArray 9):=Any.strings_Split Tryz.aas (by kernel_rfl) s sep m w hs hm h1
def Tryz.aat:Go.Shelf.Ren:=⟨fun|146=>78|221=>146|268=>204|138=>205|143=>206|195=>240|197=>241|218=>242|219=>231|260=>286|217=>270|225=>271|224=>272|267=>273|266=>318|314=>319|n=>n,fun|9=>9|31=>155|3=>3|4=>4|0=>0|105=>344|21=>21|5=>5|46=>253|119=>413|139=>416|138=>415|146=>411|51=>26|n=>n,fun|1=>0|3=>2|4=>3|n=>n⟩
theorem Tryz.aau:Go.Proofs.LaysM.n146 prog Tryz.aat:={
 mixed:=kSq
 f138:=zSq func205
 f143:=zSq func206
 f146:=zSq func78
 f195:=zSq func240
 f197:=zSq func241
 f217:=zSq func270
 f218:=zSq func242
 f219:=zSq func231
 f221:=zSq func146
 f224:=zSq func272
 f225:=zSq func271
 f260:=zSq func286
 f266:=zSq func318
 f267:=zSq func273
 f268:=zSq func204
 f314:=zSq func319
 t0:=underlying0
 a0:=isAgg0
 z0:=sizeOf0
 v0:=zeroValue0
 t3:=underlying3
 a3:=isAgg3
 z3:=sizeOf3
 v3:=zeroValue3
 t4:=underlying4
 a4:=isAgg4
 z4:=sizeOf4
 v4:=zeroValue4
 t5:=underlying5
 a5:=isAgg5
 z5:=sizeOf5
 v5:=zeroValue5
 t9:=underlying9
 a9:=isAgg9
 z9:=sizeOf9
 v9:=zeroValue9
 t21:=underlying21
 a21:=isAgg21
 z21:=sizeOf21
 v21:=zeroValue21
 t31:=underlying155
 a31:=isAgg155
 z31:=sizeOf155
 v31:=zeroValue155
 t46:=underlying253
 a46:=isAgg253
 z46:=sizeOf253
 v46:=zeroValue253
 t51:=underlying26
 a51:=isAgg26
 z51:=sizeOf26
 v51:=zeroValue26
 t105:=underlying344
 a105:=isAgg344
 z105:=sizeOf344
 v105:=zeroValue344
 t119:=underlying413
 a119:=isAgg413
 z119:=sizeOf413
 t138:=underlying415
 a138:=isAgg415
 z138:=sizeOf415
 v138:=zeroValue415
 t139:=underlying416
 a139:=isAgg416
 z139:=sizeOf416
 v139:=zeroValue416
 t146:=underlying411
 a146:=isAgg411
 z146:=sizeOf411
 v146:=zeroValue411
 g1:=kSq
 g3:=kSq
 g4:=kSq
 i0:=kSq
 i3:=kSq
 i4:=kSq
 i5:=kSq
 i9:=kSq
 i21:=kSq
 i31:=kSq
 i46:=kSq
 i51:=kSq
 i105:=kSq
 i138:=kSq
 i139:=kSq
 i146:=kSq
 m1:=kSq
 s1_3:=fun w h=>Go.Proofs.cell_of_shapedOpen_int (zero:= #[.int .i64 0]) (t:=3) h (of_decide_eq_true (by kernel_rfl)) (by kernel_rfl) rfl (by kernel_rfl) (by kernel_rfl) underlying3
 m3:=kSq
 m4:=by kernel_rfl}
end Go.Proofs
namespace Go.Proofs.YtkggjjnhnjjokaaGreatDoor
open Go.ax Go.Kb Go.RowKit Go.Proofs.Tryz
class Tabs(w:World):Prop where
 pow:Lib.TabIs prog w "internal/strconv.uint64pow10" .u64 Lib.pow10Tab
 len: ∃m,w.cell? ⟨0,0,none⟩=some (.int .i64 m)
theorem Tabs.at{w0 w:World}{L:List ai}(t:Tabs w0)(h:Mem w0 L w):Tabs w:=by
 obtain⟨m,hm⟩:=t.len;have h0:(0:Nat)<w0.heap.size:=by
  rcases aud 0 w0.heap.size with q|q
  ·exact q
  rw[World.cell?]at hm;rw[auu (show w0.heap.size<=(⟨0,0,none⟩:Addr).block by exact q)]at hm;simp at hm
 refine⟨?_,m,?_⟩
 ·
  have hv:=t.pow;unfold Lib.TabIs World.var? at hv⊢
  cases hg:prog.globalNamed "internal/strconv.uint64pow10" with
  |none=>rw[hg]at hv;cases hv
  |some g=>
  simp only[hg,awI]at hv⊢;have J0:g<w0.heap.size:=by
   rcases aud g w0.heap.size with q|q
   ·exact q
   rw[auu q]at hv;cases hv
  rw[h.below.block g J0];exact hv
 rw[h.below.cell h0];exact hm
class uB(w:World):Prop where
 len: ∃m,w.cell? ⟨0,0,none⟩=some (.int .i64 m)
instance {w:World}[t:Tabs w]:uB w:=⟨t.len⟩
theorem uB.at{w0 w:World}{L:List ai}(t:uB w0)(h:Mem w0 L w):uB w:=by
 obtain⟨m,hm⟩:=t.len;have h0:(0:Nat)<w0.heap.size:=by
  rcases aud 0 w0.heap.size with q|q
  ·exact q
  rw[World.cell?]at hm;rw[auu (show w0.heap.size<=(⟨0,0,none⟩:Addr).block by exact q)]at hm;simp at hm
 exact⟨m,by rw[h.below.cell h0];exact hm⟩
theorem Qg(n:Nat):Lib.itoa (n:Int)=dec n:=by
 rw[Lib.itoa,if_neg (by omega),avb];rfl
variable {w0:World}{L:List ai}
theorem Qh[t:Tabs w0](n:Nat)(h:n<9223372036854775808)(w:World)(hw:Mem w0 L w):Calls prog 86 #[.int .i64 (n:Nat)] w fun e w'=>e= .returned (.string ⟨(dec n).toArray⟩)/\Mem w [] w':=by
 refine(Tryz.strconv_Itoa (n:Int) (by omega) (by omega) w (t.at hw).pow).mono ?_;rintro e w' ⟨he,k,os,rfl⟩;rw[Qg]at he;exact⟨he, .B5 ⟨rfl,rfl,rfl,by show w.heap.size<=(w.heap++os).size;rw[auP];omega,fun j hj=>by show(w.heap++os)[j]? =w.heap[j]?;exact auW hj⟩⟩
instance[t:Tabs w0](n:Nat):bV prog 86 w0 L [.int .i64 (n:Nat)] (.string ⟨(dec n).toArray⟩) (n<9223372036854775808):=⟨fun h w hw=>Qh n h w hw⟩
instance (priority:=low)[t:Tabs w0](z:Int):bV prog 86 w0 L [.int .i64 z] (.string ⟨(dec z.toNat).toArray⟩) (0<=z/\z<9223372036854775808):=⟨fun h w hw=>by
 have:=Qh z.toNat (by omega) w hw;rwa [auU h.1]at this⟩
instance{s:Sv}{xs:List aJ}[q:Hd w0 L s mE 1 xs](sep:aJ):bV prog 178 w0 L [s.val, .string ⟨sep.toArray⟩] (.string ⟨(uA sep xs).toArray⟩) (xs≠[]/\(uA sep xs).length<=140737488355328):=⟨fun hp w hw=>by
 have r:=q.h w hw;have hx:0<xs.length:=avx.2 hp.1;have eL:=r.ok.sp (by have:=r.len;have:=r.ok.le;omega);have e1:(xs.map fun x=>(⟨x.toArray⟩:ByteArray)).map (·.data.toList)=xs:=by
  rw[awJ];exact(avf (fun x _=>by simp)).trans (List.map_id xs)
 have el:(xs.map fun x=>(⟨x.toArray⟩:ByteArray)).length=xs.length:=by simp
 have hc: ∀(j:Nat) x,(xs.map fun x=>(⟨x.toArray⟩:ByteArray))[j]? =some x->w.cell? ⟨s.b,s.o+j,none⟩=some (.string x):=by
  intro j x hj;rw[aua]at hj;obtain⟨y,hy,rfl⟩:=avC.1 hj;have:=r.row j y hy 0 (by decide);simp only[av9,avk]at this;rw[rU,this];rfl
 have hb:s.b<w.heap.size:=by
  rcases aud s.b w.heap.size with h|h
  ·exact h
  have:=hc 0 _ (by rw[aua,at2 hx];rfl);rw[World.cell?,auu (show w.heap.size<=(⟨s.b,s.o+0,none⟩:Addr).block by exact h)]at this;simp at this
 have hj:=Tryz.strings_Join s.b s.o s.cap (xs.map fun x=>(⟨x.toArray⟩:ByteArray)) ⟨sep.toArray⟩ w hc hb (by rw[el];exact r.bd) (by rw[el];have:=r.len;have:=r.ok.le;omega) (by rw[e1];exact hp.2);rw[el]at hj;rw[Sv.ik (r.some hx),eL,r.len];refine hj.mono ?_;rintro e w' ⟨he,mA⟩;rw[e1]at he;exact⟨he, .B5 mA⟩⟩
instance[t:uB w0](s:aJ)(c:UInt8):bV prog 115 w0 L [.string ⟨s.toArray⟩, .string ⟨[c].toArray⟩] (.tuple #[.string ⟨(aN c s).1.toArray⟩, .string ⟨(aN c s).2.1.toArray⟩, .bool (aN c s).2.2]) (s.length<4294967281):=⟨fun h w hw=>by
 obtain⟨m,hm⟩:=(t.at hw).len;refine(Tryz.strings_Cut ⟨s.toArray⟩ ⟨[c].toArray⟩ m w (by rw[sX];exact h) hm).mono ?_;rintro e w' ⟨he,n,rfl⟩;exact⟨he, .B5 ⟨rfl,rfl,rfl,at5 _,fun _ _=>rfl⟩⟩⟩
instance(s:aJ)(c:UInt8):bV prog 245 w0 L [.string ⟨s.toArray⟩, .int .u8 (c.toNat:Nat)] (.int .i64 (Lib.indexByte s c)) True:=⟨fun _ w hw=>by
 refine(Tryz.strings_IndexByte ⟨s.toArray⟩ c.toNat w).mono ?_;rintro e w' ⟨he,rfl⟩;have e1:((c.toNat:Int)).toNat.toUInt8=c:=by simp
 rw[e1]at he;exact⟨he, .init _⟩⟩
instance[t:uB w0](s:aJ)(c:UInt8):bY prog 78 w0 L [.string ⟨s.toArray⟩, .string ⟨[c].toArray⟩] Nat (fun b=>(⟨false,b,0,(ba c s).length,(ba c s).length,none⟩:Sv).val) (fun b=>own mE 1 ⟨false,b,0,(ba c s).length,(ba c s).length,none⟩ (ba c s)::L) (fun _=>True) (s.length<4294967281):=⟨fun h w hw=>by
 obtain⟨m,hm⟩:=(t.at hw).len;have hs:(⟨s.toArray⟩:ByteArray).size<4294967281:=by rw[sX];exact h
 have e0:(Lib.splitB ⟨[c].toArray⟩ 0 (Lib.countB ⟨s.toArray⟩ ⟨[c].toArray⟩) ⟨s.toArray⟩).map (·.data.toList)=ba c s:=PD c s.length ⟨s.toArray⟩ (by rw[sX];exact at5 _);have el:(ba c s).length=Lib.countB ⟨s.toArray⟩ ⟨[c].toArray⟩+1:=by
  exact(Zx c ⟨s.toArray⟩).symm
 have hlen:(ba c s).length<=140737488355328:=by have:=JO c s;omega
 refine(Tryz.strings_Split ⟨s.toArray⟩ ⟨[c].toArray⟩ m w hs hm (at5 1)).mono ?_;rintro e w' ⟨he,rfl⟩;refine⟨w.heap.size,by rw[he,el];rfl,trivial,hw.call (E:=[_]) (vH (enc:=mE) (c:=1) (xs:=ba c s) rfl _ _ rfl (at5 _) hlen ?_ fun i x hx j hj=>?_)⟩
 ·have:=congrArg List.length e0;rw[aur]at this;simp[this]
 obtain rfl:j=0:=by omega
 rw[←e0,aua]at hx;obtain⟨y,hy,rfl⟩:=avC.1 hx;simp only[av9,avk,avu,aua,hy,auI,mE];rw[←Zv y];rfl⟩
end Go.Proofs.YtkggjjnhnjjokaaGreatDoor
namespace Go.Kb
open Go.ax
structure It where
 id:Int
 body:Sl UInt8
def qo(x:It):Array Value:= #[.int .i64 x.id,x.body.sv.val]
instance:bp qo 2:=⟨fun _=>rfl,fun x=>by
 have h1:(Value.int .i64 x.id).oneCell'=true:=rfl;simp only[qo,avN,avW,av7,Sv.one,h1,avE]⟩
instance (x:It):bO (qo x) 0 (.int .i64 x.id):=⟨rfl⟩
instance (x:It):bO (qo x) 1 x.body.sv.val:=⟨rfl⟩
instance:Deep It where
 c:=2
 cells:=qo
 size:=bp.size
 one:=bp.one
 cP h x:=Deep.cP h x.body
 cE x:=Deep.cE x.body
 ku h x hs:=Deep.ku h x.body hs
 mono w w' x:=Deep.mono w w' x.body
instance:gL It qo 2:=⟨rfl,fun _=>rfl⟩
variable {w0:World}{L:List ai}
instance{x:It}[q:aX w0 L x]:aX w0 L x.body:=⟨q.h⟩
instance {L R:List ai}{i:Int}{b:Sl UInt8}[k:Take L b R]:Take L (It.mk i b) R:=⟨k.h⟩
def Ay(a:Sl It):List (Int×List UInt8):=a.xs.map fun x=>(x.id,x.body.xs)
end Go.Kb
namespace Go.ax
structure oD where
 X:Type
 v:X->Value
 e:X->ai
section
variable {P:Program} {l:List Oper} {Q:Exit->Act->World->Prop} {fs:List Nat} {mk:Nat->oD} {w0:World}
def vN(P:Program)(o:Oper)(ρ:Operand->Value)(m:oD):Prop:= ∀(w0 w:World) (L:List ai),Mem w0 L w-> ∃(x:m.X) (w':World),(execOp ρ o).run P w= .ok (.value (m.v x)) w'/\Mem w0 (m.e x::L) w'
def upon(P:Program)(w:World)(R:Value->World->Prop):Result Next->Prop
 | .ok (.value v) w'=>R v w'
 | .ok .skip w'=>R undef w'
 | .ok (.enter f args) w'=>w'=w/\Calls P f args w fun e qU=> ∃v,e= .returned v/\R v qU
 |_=>False
def ta(P:Program)(l:List Oper)(fs:List Nat)(mk:Nat->oD)(Q:Exit->Act->World->Prop)(w0:World):List Nat->Act->List ai->List ai->Prop
 |[],af,L,_=> ∀w,Mem w0 L w->Q .normal af w
 |k::ord,af,L,Lq=> ∃o,l[k]? =some o/\(if fs.contains k=true then(∀i∈ord,fs.contains (i+2000)=true-> ∃oi,l[i]? =some oi/\oi.guard=none/\vN P oi af.eval (mk i))/\(if fs.contains (k+2000)=true then
  o.guard=none/\vN P o af.eval (mk k)/\ ∀x:(mk k).X,ta P l fs mk Q w0 ord (af.put o.dst ((mk k).v x)) ((mk k).e x::L) Lq
  else
   Region.wanted o (yielded l.toArray af.tmps)=true/\(∀w,Mem w0 L w->upon P w (fun v w'=> ∃L' gX,Mem w0 L' w'/\(∀w,Mem w0 L' w->Mem w0 gX w)/\(∀w,Mem w0 gX w->Mem w0 Lq w)/\(fs.contains (k+5000)=true-> ∀w,Mem w0 L' w->Mem w0 L w)/\ta P l fs mk Q w0 ord (af.put o.dst v) L' gX) ((execOp af.eval o).run P w))/\
   (fs.contains (k+4000)=true-> ∀e w,Mem w0 (e::L) w->upon P w (fun v w'=> ∃L' gX,Mem w0 (e::L') w'/\(∀w,Mem w0 L' w->Mem w0 gX w)/\(∀w,Mem w0 gX w->Mem w0 Lq w)/\(fs.contains (k+5000)=true-> ∀w,Mem w0 L' w->Mem w0 L w)/\ta P l fs mk Q w0 ord (af.put o.dst v) L' gX) ((execOp af.eval o).run P w)))
  else∃v,(Region.wanted o (yielded l.toArray af.tmps)=true->vw P o af (Mem w0 (if fs.contains (k+1000)=true then L else Lq)) v)/\(Region.wanted o (yielded l.toArray af.tmps)=false->v=undef)/\ta P l fs mk Q w0 ord (af.put o.dst v) L Lq)
def CQ(o:Oper):List Nat:=(o.after.toList.filter fun e=>Region.binds .any e).map (·.on)
def J1(l:List Oper)(fs:List Nat)(A:List (List Nat))(prev seen:List Nat)(k:Nat)(o:Oper):Bool:=
 (!fs.contains k||fs.contains (k+2000)||fs.contains (k+5000)||(prev.all fun j=> !fs.contains (j+1000)||(A.getD k []).contains j))&&
 (match o.op with| .select .. =>false|_=>true)&&
 ((CQ o).all fun j=>decide (j<k))&&
 (fs.contains (k+2000)||seen.all fun f=>(A.getD k []).contains f)&&
 ((A.getD k []).all fun f=>(CQ o).any fun j=>j==f||(A.getD j []).contains f)&&
 ((List.range l.length).all fun j=>match dZ l j with
  |none=>true
  |some d=>(!(o.looksAt l.toArray).contains d||(prev.contains j&&(CQ o).contains j&&(!fs.contains (k+2000)|| !fs.contains j)))&&(j==k||o.dst !=some d))
def vO(l:List Oper)(fs:List Nat)(A:List (List Nat)):List Nat->List Nat->List Nat->Bool
 |_,_,[]=>true
 |prev,seen,k::ord=>(match l[k]?with|none=>false|some o=>J1 l fs A prev seen k o)&&(!fs.contains k||fs.contains (k+2000)||(ord.all fun j=> !fs.contains (j+2000))||(fs.contains (k+4000)&&decide ((ord.filter fun j=>fs.contains (j+2000)).length<=1)))&&vO l fs A (k::prev) (if fs.contains k then k::seen else seen) ord
def FU(l:List Oper)(fs:List Nat)(A:List (List Nat))(ord:List Nat):Bool:=
 ((List.range l.length).all fun j=>ord.contains j)&&decide ord.Nodup&&(ord.all fun j=>decide (j<l.length))&&(fs.all fun j=>decide (j<2000))&&vO l fs A [] [] ord
def FW(l:List Oper)(fs:List Nat)(A:List (List Nat))(ord:List Nat):Bool:=
 ((List.range l.length).all fun j=>ord.contains j)&&decide ord.Nodup&&(ord.all fun j=>decide (j<l.length))&&vO l fs A [] [] ord
structure J2(l:List Oper)(fs:List Nat)(A:List (List Nat))(prev seen:List Nat)(k:Nat)(o:Oper):Prop where
 tmp:fs.contains k=true->fs.contains (k+2000)=false->fs.contains (k+5000)=false-> ∀j∈prev,fs.contains (j+1000)=true->j∈A.getD k []
 wN: ∀cs b,o.op≠ .select cs b
 back: ∀e∈o.after,Region.binds .any e=true->e.on<k
 anc:fs.contains (k+2000)=false-> ∀f∈seen,f∈A.getD k []
 cert: ∀f∈A.getD k [],∃e∈o.after,Region.binds .any e=true/\(e.on=f\/f∈A.getD e.on [])
 reads: ∀j d,j<l.length->dZ l j=some d->d∈o.looksAt l.toArray->j∈prev/\ ∃e∈o.after,Region.binds .any e=true/\e.on=j
 one: ∀j d,j<l.length->dZ l j=some d->j≠k->o.dst≠some d
 aav:fs.contains (k+2000)=true-> ∀j d,j<l.length->dZ l j=some d->d∈o.looksAt l.toArray->fs.contains j=false
theorem J3{o:Oper}{j:Nat}:j∈CQ o↔ ∃e∈o.after,Region.binds .any e=true/\e.on=j:=by
 unfold CQ;simp only[ava,auC];constructor
 ·rintro⟨e,⟨h1,h2⟩,h3⟩;exact⟨e,by simpa using h1,h2,h3⟩
 rintro⟨e,h1,h2,h3⟩;exact⟨e,⟨by simpa using h1,h2⟩,h3⟩
theorem aaw{A:List (List Nat)}{prev seen:List Nat}{k:Nat}{o:Oper}(h:J1 l fs A prev seen k o=true):J2 l fs A prev seen k o:=by
 simp only[J1,af0]at h;obtain⟨⟨⟨⟨⟨h0,h1⟩,h2⟩,h3⟩,h4⟩,h5⟩:=h;refine⟨fun hk oy hk5 j hj ht=>by
  rw[hk,oy,hk5,Bool.not_true,awP,awP,awP]at h0;have:=aue.1 h0 j hj;rw[ht]at this;simpa using this,fun cs b e=>by rw[e]at h1;simp at h1,fun e he hb=>?_,fun dj f hf=>?_,fun f hf=>?_,fun j d hj hd hl=>?_,fun j d hj hd bN=>?_,fun hk j d hj hd hl=>?_⟩
 ·have:=aue.1 h2 e.on (J3.2 ⟨e,he,hb,rfl⟩);simpa using this
 ·rw[dj,awP]at h3;have:=aue.1 h3 f hf;simpa using this
 ·have:=aue.1 h4 f hf;obtain⟨j,hj,dB⟩:=List.any_eq_true.1 this;obtain⟨e,he,hb,rfl⟩:=J3.1 hj;exact⟨e,he,hb,by simpa using dB⟩
 ·
  have:=aue.1 h5 j (auB.2 hj);rw[hd]at this;simp only[af0,avc,au5]at this;rcases this.1 with h6|h6
  ·exact absurd hl (by simpa using h6)
  exact⟨by simpa using h6.1.1,J3.1 (by simpa using h6.1.2)⟩
 ·
  have:=aue.1 h5 j (auB.2 hj);rw[hd]at this;simp only[af0,avc,beq_iff_eq]at this;rcases this.2 with h6|h6
  ·exact absurd h6 bN
  simpa using h6
 have:=aue.1 h5 j (auB.2 hj);rw[hd]at this;simp only[af0,avc,au5]at this;rcases this.1 with h6|h6
 ·exact absurd hl (by simpa using h6)
 rcases h6.2 with h7|h7
 ·rw[hk]at h7;cases h7
 exact h7
theorem xi{A:List (List Nat)}: ∀(ord prev seen:List Nat),vO l fs A prev seen ord=true-> ∀(x:List Nat) (k:Nat) (y:List Nat),ord=x++k::y->
  ∃o,l[k]? =some o/\J2 l fs A (x.reverse++prev) ((x.filter fun j=>fs.contains j).reverse++seen) k o/\(fs.contains k=true->fs.contains (k+2000)=false->(∀j∈y,fs.contains (j+2000)=false)\/(fs.contains (k+4000)=true/\(y.filter fun j=>fs.contains (j+2000)).length<=1))
 |[],_,_,_,x,k,y,e=>by simp at e
 |k0::ord,prev,seen,h,x,k,y,e=>by
  simp only[vO,af0]at h
  cases x with
  |nil=>
   simp only[auS,awx]at e;obtain⟨rfl,rfl⟩:=e
   cases ho:l[k0]?with
   |none=>rw[ho]at h;simp at h
   |some o=>
    rw[ho]at h;refine⟨o,rfl,by simpa using aaw h.1.1,fun h1 h2=>?_⟩;have h3:=h.1.2;rw[h1,h2]at h3;simp only[Bool.not_true,awP,avc,af0,decide_eq_true_eq]at h3;refine h3.imp (fun h4 j hj=>?_) id;have:=aue.1 h4 j hj;simpa using this
  |cons x0 x=>
   simp only[avm,awx]at e;obtain⟨rfl,rfl⟩:=e;obtain⟨o,ho,hk,hy⟩:=xi _ _ _ h.2 x k y rfl;refine⟨o,ho,?_,hy⟩;have e1:(k0::x).reverse++prev=x.reverse++(k0::prev):=by simp
   have e2:(((k0::x).filter fun j=>fs.contains j).reverse++seen)=(x.filter fun j=>fs.contains j).reverse++(if fs.contains k0 then k0::seen else seen):=by
    cases hc:fs.contains k0 with
    |true=>
     rw[au9,if_pos hc,List.reverse_cons,at4];rfl
    |false=>
     rw[au9,if_neg (by rw[hc];exact au7)];rfl
   rw[e1,e2];exact hk
def qp(N0 d:Nat)(v:Value)(a:Act):Prop:=a.tmps[d]? =if d<N0 then some v else none
theorem Az{N0 d:Nat}{v:Value}{a:Act}(h:a.tmps.size=N0):qp N0 d v (a.put (some d) v):=by
 subst h;unfold qp;simp[Act.put,auN]
def J4(P:Program)(l:List Oper)(w0:World)(N0 k:Nat)(af:Act)(Lq:List ai):Prop:=
 ∃o v,l[k]? =some o/\(∀d,o.dst=some d->qp N0 d v af)/\(Region.wanted o (yielded l.toArray af.tmps)=true->vw P o af (Mem w0 Lq) v)/\(Region.wanted o (yielded l.toArray af.tmps)=false->v=undef)
def Early(l:List Oper)(fs:List Nat)(mk:Nat->oD)(N0:Nat)(iD:List Nat)(listed:Array Bool)(a:Act)(e:Nat×ai):Prop:=
 e.1∈iD/\listed.getD e.1 true=true/\fs.contains e.1=true/\fs.contains (e.1+2000)=true/\ ∃o,∃x:(mk e.1).X,l[e.1]? =some o/\e.2=(mk e.1).e x/\ ∀d,o.dst=some d->qp N0 d ((mk e.1).v x) a
structure Core(P:Program)(l:List Oper)(fs:List Nat)(mk:Nat->oD)(Q:Exit->Act->World->Prop)(w0:World)(ord:List Nat)(a0:Act)(pre iD:List Nat)(af:Act)(L Lq:List ai)(E:List (Nat×ai))(listed:Array Bool)(a:Act)(w:World):Prop where
 ord:ord=pre++iD
 inv:HeadInv .any l.toArray l.length listed
 mem:Mem w0 (E.map (·.2)++L) w
 ra: ∀e∈E,Early l fs mk a0.tmps.size iD listed a e
 keys:(E.map (·.1)).Nodup
 AA: ∀w,Mem w0 L w->Mem w0 Lq w
 y7:ta P l fs mk Q w0 iD af L Lq
 size:a.tmps.size=a0.tmps.size
 rN:af.tmps.size=a0.tmps.size
 defers:a.defers=a0.defers
 uf:af.defers=a0.defers
 sub: ∀j,j<l.length->listed.getD j true=true->j∈pre\/j∈E.map (·.1)
 fresh: ∀j∈pre,fs.contains j=true->listed.getD j true=true
 xj: ∀j∈pre,listed.getD j true=false->J4 P l w0 a0.tmps.size j af (if fs.contains (j+1000)=true then L else Lq)
 done: ∀j d,j<l.length->listed.getD j true=true->j∈pre->dZ l j=some d->a.tmps[d]? =af.tmps[d]?
 rest: ∀d,(∀j,j<l.length->listed.getD j true=true->dZ l j≠some d)->a.tmps[d]? =a0.tmps[d]?
 full: ∀d,(∀j∈pre,dZ l j≠some d)->af.tmps[d]? =a0.tmps[d]?
variable {A:List (List Nat)} {ord:List Nat} {a0:Act}
theorem CR{o:Oper}(hn: ∀cs b,o.op≠ .select cs b){a b:Act}(h: ∀t∈o.looksAt l.toArray,a.tmps[t]? =b.tmps[t]?):
  execOp a.eval o=execOp b.eval o/\Region.wanted o (yielded l.toArray a.tmps)=Region.wanted o (yielded l.toArray b.tmps):=
 ⟨execOp_congr o hn (Ja h),OL h⟩
theorem Qi{o:Oper}{a b:Act}{C D:World->Prop}{v:Value}(e:execOp a.eval o=execOp b.eval o)(hD: ∀w,D w->C w)(h:vw P o a C v):vw P o b D v:=fun w hw=>by
 have:=h w (hD w hw);unfold Oper.quietAt at this⊢;rw[←e];exact this
theorem AB{pre iD:List Nat}{i k N0:Nat}{af:Act}{Lq gX:List ai}{oi:Oper}{u:Value}(hB:vO l fs A [] [] ord=true)(cL:ord.Nodup)(bq: ∀j∈ord,j<l.length)(ho:ord=pre++i::iD)(yH:l[i]? =some oi)(hk:k∈pre)(hq: ∀w,Mem w0 gX w->Mem w0 Lq w)
  (h:J4 P l w0 N0 k af Lq):J4 P l w0 N0 k (af.put oi.dst u) gX:=by
 obtain⟨o,v,h1,h2,h3,h4⟩:=h;obtain⟨x,y,rfl⟩:=awh hk;have qk:ord=x++k::(y++i::iD):=by rw[ho];simp
 obtain⟨o',qq,bJ,-⟩:=xi ord [] [] hB x k _ qk;have:o'=o:=by rw[h1]at qq;exact(at1 qq).symm
 subst this;have fo:i<l.length:=(zz.1 yH).1;have lS:dZ l i=oi.dst:=by simp[dZ,yH]
 have oE:i≠k:=fun e=>by
  subst e;rw[qk]at cL;have:=(avP.1 cL).2.1;exact(awb.1 this).1 (by simp)
 have Qj:i∉x:=fun hx=>by
  rw[qk]at cL;exact(avP.1 cL).2.2 i hx i (by simp) rfl
 have J5: ∀t∈o'.looksAt l.toArray,af.tmps[t]? =(af.put oi.dst u).tmps[t]? :=fun t ht=>by
  refine(ko _ _ _ _ fun e=>?_).symm;obtain⟨hp,_⟩:=bJ.reads i t fo (by rw[lS];exact e) ht;rw[auT,awY]at hp;exact Qj hp
 obtain⟨e1,e2⟩:=CR bJ.wN J5;refine⟨o',v,h1,fun d hd=>?_,fun hw=>Qi e1 hq (h3 (by rw[e2];exact hw)),fun hw=>h4 (by rw[e2];exact hw)⟩;have:=h2 d hd;unfold qp at this⊢;rw[ko _ _ _ _ fun e=>?_]
 ·exact this
 ·exact bJ.one i d fo (by rw[lS];exact e) oE hd
theorem aax{E:List (Nat×ai)}{k:Nat}(h:k∈E.map (·.1)): ∃E1 x E2,E=E1++(k,x)::E2:=by
 obtain⟨e,he,rfl⟩:=ava.1 h;obtain⟨E1,E2,rfl⟩:=awh he;exact⟨E1,e.2,E2,rfl⟩
theorem FX(hB:vO l fs A [] [] ord=true)(cL:ord.Nodup)(bq: ∀j∈ord,j<l.length): ∀(iD pre:List Nat) (af:Act) {L Lq:List ai} {E:List (Nat×ai)} {listed:Array Bool} {a:Act} {w:World},Core P l fs mk Q w0 ord a0 pre iD af L Lq E listed a w->
  ∃aay J6 af' L' E',Core P l fs mk Q w0 ord a0 aay J6 af' L' Lq E' listed a w/\(J6=[]\/ ∃f r,J6=f::r/\fs.contains f=true/\f∉E'.map (·.1))
 |[],pre,af,L,_,E,_,_,_,H=>⟨pre,[],af,L,E,H, .inl rfl⟩
 |k::iD,pre,af,L,Lq,E,listed,a,w,H=>by
  have oG:k∉pre:=fun h=>by
   have qt:=cL;rw[H.ord]at qt;exact(avP.1 qt).2.2 k h k (by simp) rfl
  have jg: ∀j,j∈pre->j≠k:=fun j hj e=>oG (e▸hj);have hks:k∉iD:=fun h=>by
   have qt:=cL;rw[H.ord]at qt;exact(awb.1 (avP.1 qt).2.1).1 h
  obtain⟨o',tc,bJ,-⟩:=xi ord [] [] hB pre k iD H.ord;have xk:k<l.length:=(zz.1 tc).1;have FY:dZ l k=o'.dst:=by simp[dZ,tc]
  cases hf:fs.contains k with
  |true=>
   by_cases hE:k∈E.map (·.1)
   ·
    obtain⟨E1,x,E2,rfl⟩:=aax hE;obtain⟨_,fI,_,dj,oe,b,Qk,hx,qu⟩:=H.ra (k,x) (by simp);simp only at fI dj Qk hx qu;have e0:oe=o':=by rw[Qk]at tc;exact at1 tc
    subst e0;obtain⟨o,qq,hl⟩:=H.y7;rw[if_pos hf,if_pos dj]at hl;have e1:o=oe:=by rw[qq]at tc;exact at1 tc
    subst e1;obtain⟨_,_,_,AD⟩:=hl;have aaz:(((E1++(k,x)::E2).map (·.2))++L).Perm (((E1++E2).map (·.2))++x::L):=by
     simp only[auv,aum,at4,avm];exact List.Perm.append_left _ (av6.symm)
    have J7:=H.keys;simp only[auv,aum]at J7;have hkE: ∀e∈E1++E2,e.1≠k:=fun e he e2=>by
     obtain⟨n1,n2,n3⟩:=avP.1 J7;rcases at7.1 he with h|h
     ·exact n3 e.1 (auq h) k (by simp) e2
     ·exact(awb.1 n2).1 (e2▸auq h)
    refine FX hB cL bq iD (pre++[k]) (af.put o.dst ((mk k).v b)) (L:=x::L) (E:=E1++E2) ⟨by rw[H.ord];simp,H.inv,H.mem.perm aaz,fun e he=>?_,?_,fun w hw=>H.AA w (hw.sub (auX _ _)),by rw[hx];exact AD b,H.size,by rw[uc];exact H.rN,H.defers,by rw[ud];exact H.uf,fun j hj hl=>?_,fun j hj sO=>?_,fun j hj hl=>?_,fun j d hj hl uC hd=>?_,H.rest,fun d hd=>?_⟩
    ·
     have hm:e∈E1++(k,x)::E2:=by
      rcases at7.1 he with h|h
      ·exact auy _ h
      ·exact avp _ (aui _ h)
     obtain⟨g1,g2⟩:=H.ra e hm;exact⟨(auc.1 g1).resolve_left (hkE e he),g2⟩
    ·rw[auv];exact J7.sublist (List.Sublist.append_left (auX _ _) _)
    ·
     rcases H.sub j hj hl with h|h
     ·exact .inl (auy _ h)
     ·
      simp only[auv,aum,at7,auc]at h;rcases h with h|h|h
      ·exact .inr (by simp only[auv,at7];exact .inl h)
      ·exact .inl (by rw[h];simp)
      ·exact .inr (by simp only[auv,at7];exact .inr h)
    ·
     rcases at7.1 hj with h|h
     ·exact H.fresh j h sO
     ·obtain rfl:=auK.1 h;exact fI
    ·
     rcases at7.1 hj with h|h
     ·
      have hp:=H.xj j h hl
      cases y8:fs.contains (j+1000)with
      |true=>
       rw[y8]at hp;simp only[if_true]at hp⊢;exact AB hB cL bq H.ord qq h (fun w hw=>hw.sub (auX _ _)) hp
      |false=>
       rw[y8]at hp;simp only[auH,if_false]at hp⊢;exact AB hB cL bq H.ord qq h (fun _ h=>h) hp
     ·obtain rfl:=auK.1 h;rw[fI]at hl;cases hl
    ·
     rcases at7.1 uC with h|h
     ·rw[ko _ _ _ _ (bJ.one j d hj hd (jg j h))];exact H.done j d hj hl h hd
     ·obtain rfl:=auK.1 h;rw[FY]at hd;have h3:=qu d hd;rw[hd];have h4:qp a0.tmps.size d ((mk j).v b) (af.put (some d) ((mk j).v b)):=Az H.rN;unfold qp at h3 h4;rw[h3,h4]
    ·rw[ko _ _ _ _ (by have:=hd k (by simp);rwa [FY]at this)];exact H.full d fun j hj=>hd j (auy _ hj)
   ·exact⟨pre,k::iD,af,L,E,H, .inr ⟨k,iD,rfl,hf,hE⟩⟩
  |false=>
   obtain⟨o,qq,hl⟩:=H.y7;rw[if_neg (by rw[hf];exact au7)]at hl;obtain⟨v,h1,h2,h3⟩:=hl;have:o'=o:=by rw[qq]at tc;exact(at1 tc).symm
   subst this;have J5: ∀t∈o'.looksAt l.toArray,af.tmps[t]? =(af.put o'.dst v).tmps[t]? :=fun t ht=>by
    refine(ko _ _ _ _ fun e=>?_).symm;obtain⟨hp,_⟩:=bJ.reads k t xk (by rw[FY];exact e) ht;rw[auT,awY]at hp;exact oG hp
   obtain⟨e1,e2⟩:=CR bJ.wN J5;refine FX hB cL bq iD (pre++[k]) (af.put o'.dst v) ⟨by rw[H.ord];simp,H.inv,H.mem,fun e he=>?_,H.keys,H.AA,h3,H.size,by rw[uc];exact H.rN,H.defers,by rw[ud];exact H.uf,fun j hj hl=>(H.sub j hj hl).imp_left fun h=>auy _ h,fun j hj sO=>?_,fun j hj hl=>?_,fun j d hj hl uC hd=>?_,H.rest,fun d hd=>?_⟩
   ·obtain⟨g1,g2,g3,g4⟩:=H.ra e he;exact⟨(auc.1 g1).resolve_left (fun e2=>by rw[e2,hf]at g3;cases g3),g2,g3,g4⟩
   ·
    rcases at7.1 hj with h|h
    ·exact H.fresh j h sO
    ·obtain rfl:=auK.1 h;rw[hf]at sO;cases sO
   ·
    rcases at7.1 hj with h|h
    ·exact AB hB cL bq H.ord qq h (fun _ h=>h) (H.xj j h hl)
    ·obtain rfl:=auK.1 h;refine⟨o',v,qq,fun d hd=>by rw[hd];exact Az H.rN,fun hw=>Qi e1 (fun _ h=>h) (h1 (by rw[e2];exact hw)),fun hw=>h2 (by rw[e2];exact hw)⟩
   ·
    rcases at7.1 uC with h|h
    ·rw[ko _ _ _ _ (bJ.one j d hj hd (jg j h))];exact H.done j d hj hl h hd
    ·
     obtain rfl:=auK.1 h;rcases H.sub j hj hl with h5|h5
     ·exact absurd h5 oG
     ·obtain⟨e,he,hej⟩:=ava.1 h5;obtain⟨_,_,g3,_⟩:=H.ra e he;rw[hej,hf]at g3;cases g3
   ·rw[ko _ _ _ _ (by have:=hd k (by simp);rwa [FY]at this)];exact H.full d fun j hj=>hd j (auy _ hj)
theorem Ql{x p1 y y':List Nat}{i:Nat}(hn:(p1++i::y').Nodup)(h:x++i::y=p1++i::y'):x=p1:=by
 induction x generalizing p1 with
 |nil=>
  cases p1 with
  |nil=>rfl
  |cons q p1=>
   simp only[auS,avm,awx]at h;obtain⟨rfl,_⟩:=h;exact absurd (by simp) (awb.1 hn).1
 |cons c x ih=>
  cases p1 with
  |nil=>
   simp only[auS,avm,awx]at h;obtain⟨rfl,h2⟩:=h;rw[←h2]at hn;exact absurd (by simp) (awb.1 hn).1
  |cons q p1=>
   simp only[avm,awx]at h;obtain⟨rfl,h2⟩:=h;rw[ih (awb.1 hn).2 h2]
theorem Qm{listed:Array Bool}(hB:vO l fs A [] [] ord=true)(iO: ∀j,j<l.length->j∈ord)(inv:HeadInv .any l.toArray l.length listed): ∀(k:Nat) (o:Oper),l[k]? =some o->(∀e∈o.after,Region.binds .any e=true->listed.getD e.on false=true)->
  ∀f∈A.getD k [],listed.getD f false=true:=by
 intro k
 induction k using Nat.strongRecOn with
 |_ k ih=>
  intro o qq hd f hf;obtain⟨x,y,hx⟩:=awh (iO k (zz.1 qq).1);obtain⟨o',tc,bJ,-⟩:=xi ord [] [] hB x k y hx;have:o'=o:=by rw[qq]at tc;exact(at1 tc).symm
  subst this;obtain⟨e,he,hb,h⟩:=bJ.cert f hf;have hl:=hd e he hb;rcases h with rfl|h
  ·exact hl
  ·
   have bq:=bJ.back e he hb;have FZ:e.on<l.length:=by have:=(zz.1 qq).1;omega
   exact ih e.on bq l[e.on] (by simp[FZ]) (inv.closed e.on _ (by simp[FZ]) hl) f h
theorem F0{listed:Array Bool}{i:Nat}(hi:i<listed.size)(h:listed.getD i false=true):listed.getD i true=true:=by
 simp[hi]at h⊢;exact h
theorem F1(hB:vO l fs A [] [] ord=true)(cL:ord.Nodup)(bq: ∀j∈ord,j<l.length)(iO: ∀j,j<l.length->j∈ord)(AE: ∀k,k<l.length->fs.contains k=false->fs.contains (k+2000)=false):
  ∀(m:Nat) (pre iD:List Nat) (af:Act) (L Lq:List ai) (E:List (Nat×ai)) (listed:Array Bool) (a:Act) (w:World),left l.length listed=m->Core P l fs mk Q w0 ord a0 pre iD af L Lq E listed a w->wpAny P .any l.toArray Q m listed a w
 |0,J8,J9,Ka,L0,Lq,E0,listed,a,w,hm,H0=>by
  obtain⟨pre,iD,af,L,E,H,Kc⟩:=FX hB cL bq J9 J8 Ka H0;have jh: ∀j,j<l.length->listed.getD j true=true:=fun j hj=>by
   cases h:listed.getD j true with
   |true=>rfl
   |false=>
    have:j∈(List.range l.length).filter fun i=> !listed.getD i true:=auC.2 ⟨List.mem_range.2 hj,by rw[h];rfl⟩;rw[aun.1 hm]at this
    cases this
  have hr:Region.ready .any l.toArray listed=[]:=by
   refine List.eq_nil_iff_forall_not_mem.2 fun i hi=>?_;obtain⟨h1,o,h2,_⟩:=mem_ready.1 hi;rw[jh i (by have:=(avF.1 h2).1;simpa using this)]at h1;cases h1
  have Ke:iD=[]:=by
   rcases Kc with h|⟨k,r,hs,_,hE⟩
   ·exact h
   ·
    exfalso;have hk:k∈ord:=by rw[H.ord,hs];simp
    rcases H.sub k (bq k hk) (jh k (bq k hk))with this|this
    ·have qt:=cL;rw[H.ord,hs]at qt;exact absurd rfl ((avP.1 qt).2.2 k this k (by simp))
    ·exact hE this
  have hE:E=[]:=List.eq_nil_iff_forall_not_mem.2 fun e he=>by
   have:=(H.ra e he).1;rw[Ke]at this;cases this
  have AD:=H.y7;rw[Ke]at AD;have Kf:=H.ord;rw[Ke,auT]at Kf;have e1:a=af:=by
   have:a.tmps=af.tmps:=by
    apply au8;intro d
    by_cases hw: ∃j,j<l.length/\dZ l j=some d
    ·obtain⟨j,hj,hd⟩:=hw;exact H.done j d hj (jh j hj) (by rw[←Kf];exact iO j hj) hd
    ·have h1: ∀j,j<l.length->dZ l j≠some d:=fun j hj hd=>hw ⟨j,hj,hd⟩;rw[H.rest d fun j hj _=>h1 j hj,H.full d fun j hj=>h1 j (bq j (by rw[Kf];exact hj))]
   have h2:a.defers=af.defers:=by rw[H.defers,H.uf]
   cases a;cases af
   simp_all
  subst e1;have l5:=H.mem;rw[hE]at l5;exact⟨hr,AD w (by simpa using l5)⟩
 |m+1,J8,J9,Ka,L0,Lq,E0,listed,a,w,hm,H0=>by
  obtain⟨pre,iD,af,L,E,H,Kc⟩:=FX hB cL bq J9 J8 Ka H0;have Qn:Mem w0 L w:=H.mem.sub (List.sublist_append_right _ _);obtain⟨i0,Cd,EZ,Ce⟩: ∃i,i<l.length/\listed.getD i true=false/\ ∀j,j<i->listed.getD j true=true:=by
   have bN: ∃i,i<l.length/\listed.getD i true=false:=by
    cases hf:(List.range l.length).filter fun i=> !listed.getD i true with
    |nil=>rw[left,hf]at hm;cases hm
    |cons i r=>
     have:i∈(List.range l.length).filter fun i=> !listed.getD i true:=by rw[hf];simp
     obtain⟨h1,h2⟩:=auC.1 this;exact⟨i,auB.1 h1,by simpa using h2⟩
   obtain⟨i,h1,h2⟩:=bN
   induction i using Nat.strongRecOn with
   |_ i ih=>
    by_cases h: ∃j,j<i/\listed.getD j true=false
    ·obtain⟨j,hj,dB⟩:=h;exact ih j hj (by omega) dB
    ·
     refine⟨i,h1,h2,fun j hj=>?_⟩
     cases hh:listed.getD j true with
     |true=>rfl
     |false=>exact absurd ⟨j,hj,hh⟩ h
  have eQ:listed.size=l.length:=by simpa using H.inv.size
  have ok: ∀k,k<l.length-> ∃x y o,ord=x++k::y/\l[k]? =some o/\J2 l fs A (x.reverse++[]) ((x.filter fun j=>fs.contains j).reverse++[]) k o:=fun k hk=>by
   obtain⟨x,y,hx⟩:=awh (iO k hk);obtain⟨o,ho,bJ,-⟩:=xi ord [] [] hB x k y hx;exact⟨x,y,o,hx,ho,bJ⟩
  have Cf:i0∈Region.ready .any l.toArray listed:=by
   obtain⟨x,y,o,_,ho,bJ⟩:=ok i0 Cd;refine mem_ready.2 ⟨EZ,o,by simpa using ho,fun e he hb=>?_⟩;have h1:=bJ.back e he hb;have h2:=Ce e.on h1;have h3:e.on<listed.size:=by omega
   simp[h3]at h2⊢;exact h2
  refine⟨fun h=>(by rw[h]at Cf;cases Cf),fun i hi=>?_⟩;obtain⟨jg,o',qk,rO⟩:=mem_ready.1 hi;have vP:i<l.length:=by have:=(avF.1 qk).1;simpa using this
  obtain⟨x,y,o,hx,ho,bJ⟩:=ok i vP;have:o'=o:=by simpa[ho]using qk.symm
  subst this;have ug:left l.length (listed.setIfInBounds i true)=m:=by have:=OM vP jg;omega
  have lS:dZ l i=o'.dst:=by simp[dZ,ho]
  have iE: ∀j,j≠i->(listed.setIfInBounds i true).getD j true=listed.getD j true:=fun j cD=>getD_set_ne true (Ne.symm cD);have qV:(listed.setIfInBounds i true).getD i true=true:=by simp[show i<listed.size by omega]
  have uD: ∀j d,j<l.length->dZ l j=some d->j≠i->o'.dst≠some d:=bJ.one;have Qo:(∀j∈x,j∈pre)-> ∀t∈o'.looksAt l.toArray,a.tmps[t]? =af.tmps[t]? :=fun lp t ht=>by
   by_cases hw: ∃j,j<l.length/\dZ l j=some t
   ·obtain⟨j,hj,hd⟩:=hw;obtain⟨rM,e,he,hb,fY⟩:=bJ.reads j t hj hd ht;have hl:=rO e he hb;rw[fY]at hl;rw[auT,awY]at rM;exact H.done j t hj (F0 (by omega) hl) (lp j rM) hd
   ·have h1: ∀j,j<l.length->dZ l j≠some t:=fun j hj hd=>hw ⟨j,hj,hd⟩;rw[H.rest t fun j hj _=>h1 j hj,H.full t fun j hj=>h1 j (bq j (by rw[H.ord];exact auy _ hj))]
  by_cases td:i∈pre
  ·
   have lp: ∀j∈x,j∈pre:=fun j hj=>by
    obtain⟨p1,p2,hp⟩:=awh td;have h1:=H.ord;rw[hp,hx,at4,avm]at h1;have CS:=cL;rw[hx]at CS;have h2:x=p1:=Ql (h1▸CS) h1;rw[hp,←h2];exact auy _ hj
   obtain⟨ee,ew⟩:=CR bJ.wN (Qo lp);obtain⟨op,v,dN,hv1,F2,hv3⟩:=H.xj i td jg;have:op=o':=by rw[ho]at dN;exact(at1 dN).symm
   subst this;have kr:fs.contains i=false:=by
    cases h:fs.contains i with
    |false=>rfl
    |true=>have:=H.fresh i td h;rw[jg]at this;cases this
   have next: ∀w',Mem w [] w'->wpAny P .any l.toArray Q m (listed.setIfInBounds i true) (a.put op.dst v) w':=fun w' hK=>by
    refine F1 hB cL bq iO AE m pre iD af L Lq E _ _ w' ug ⟨H.ord,H.inv.set hi vP,by simpa using H.mem.call hK,fun e he=>?_,H.keys,H.AA,H.y7,by rw[uc];exact H.size,H.rN,by rw[ud];exact H.defers,H.uf,fun j hj hl=>?_,fun j hj hf=>?_,fun j hj hl=>?_,fun j d hj hl uC hd=>?_,fun d hd=>?_,H.full⟩
    ·
     obtain⟨g1,g2,g3,g4,oe,b,g5,g7,g8⟩:=H.ra e he;have CT:e.1≠i:=fun e2=>by
      have qt:=cL;rw[H.ord]at qt;exact(avP.1 qt).2.2 i td e.1 g1 e2.symm
     refine⟨g1,by rw[iE _ CT];exact g2,g3,g4,oe,b,g5,g7,fun d hd=>?_⟩;have:=g8 d hd;unfold qp at this⊢;rw[ko _ _ _ _ (uD e.1 d (zz.1 g5).1 (by simp[dZ,g5,hd]) CT)];exact this
    ·
     by_cases cD:j=i
     ·subst cD;exact .inl td
     ·exact H.sub j hj (by rw[←iE j cD];exact hl)
    ·rw[iE j (fun e=>by subst e;rw[kr]at hf;cases hf)];exact H.fresh j hj hf
    ·exact H.xj j hj (by rw[←iE j (fun e=>by subst e;rw[qV]at hl;cases hl)];exact hl)
    ·
     by_cases cD:j=i
     ·subst cD;rw[lS]at hd;have h2:=hv1 d hd;rw[hd];have h3:qp a0.tmps.size d v (a.put (some d) v):=Az H.size;unfold qp at h2 h3;rw[h2,h3]
     ·rw[iE j cD]at hl;rw[ko _ _ _ _ (uD j d hj hd cD)];exact H.done j d hj hl uC hd
    ·
     have h1:op.dst≠some d:=by
      have:=hd i vP qV;rwa [lS]at this
     rw[ko _ _ _ _ h1];refine H.rest d fun j hj hl=>?_
     by_cases cD:j=i
     ·subst cD;rw[lS];exact h1
     ·exact hd j hj (by rw[iE j cD];exact hl)
   unfold wpOp;simp only[qk];rw[ew];split
   ·
    rename_i rP;have h1:=F2 rP w (by
     split
     ·exact Qn
     ·exact H.AA w Qn)
    refine .inl ?_;unfold Oper.wp;rw[ee];unfold Oper.quietAt at h1;generalize(execOp af.eval op).run P w=r at h1;unfold Oper.quietUpon at h1;split at h1
    ·obtain⟨rfl,rfl⟩:=h1;exact next _ (Mem.init _)
    ·obtain⟨rfl,e⟩:=h1;rw[e]at next;exact next _ (Mem.init _)
    ·obtain⟨rfl,vA⟩:=h1;exact vA.mono fun e qU ⟨he,hm⟩=>by subst he;exact next _ hm
    ·exact h1.elim
   ·rename_i rP;have:=hv3 (by simpa using rP);rw[this]at next;exact next w (Mem.init _)
  ·
   have Kg:i∈iD:=by
    have:=iO i vP;rw[H.ord]at this;exact(at7.1 this).resolve_left td
   rcases Kc with rfl|⟨f,r,rfl,rb,CU⟩
   ·cases Kg
   have aaA: ∀(v:Value) (j d:Nat),j<l.length->(listed.setIfInBounds i true).getD j true=true->j∈pre->dZ l j=some d->(a.put o'.dst v).tmps[d]? =af.tmps[d]? :=fun v j d hj hl uC hd=>by
    have cD:j≠i:=fun e=>td (e▸uC);rw[iE j cD]at hl;rw[ko _ _ _ _ (uD j d hj hd cD)];exact H.done j d hj hl uC hd
   have F3: ∀(v:Value) (d:Nat),(∀j,j<l.length->(listed.setIfInBounds i true).getD j true=true->dZ l j≠some d)->(a.put o'.dst v).tmps[d]? =a0.tmps[d]? :=fun v d hd=>by
    have h1:o'.dst≠some d:=by
     have:=hd i vP qV;rwa [lS]at this
    rw[ko _ _ _ _ h1];refine H.rest d fun j hj hl=>?_
    by_cases cD:j=i
    ·subst cD;rw[lS];exact h1
    ·exact hd j hj (by rw[iE j cD];exact hl)
   have Kh:i∉E.map (·.1):=fun h=>by
    obtain⟨e,he,rfl⟩:=ava.1 h;have:=(H.ra e he).2.1;rw[jg]at this;cases this
   have Qp: ∀(v:Value),∀e∈E,Early l fs mk a0.tmps.size (f::r) (listed.setIfInBounds i true) (a.put o'.dst v) e:=fun v e he=>by
    obtain⟨g1,g2,g3,g4,oe,b,g5,g7,g8⟩:=H.ra e he;have CT:e.1≠i:=fun e2=>Kh (e2▸auq he);refine⟨g1,by rw[iE _ CT];exact g2,g3,g4,oe,b,g5,g7,fun d hd=>?_⟩;have:=g8 d hd;unfold qp at this⊢;rw[ko _ _ _ _ (uD e.1 d (zz.1 g5).1 (by simp[dZ,g5,hd]) CT)];exact this
   by_cases Qq:i=f
   ·
    subst Qq;have lp: ∀j∈x,j∈pre:=fun j hj=>by
     have h1:=H.ord;rw[hx]at h1;have CS:=cL;rw[hx]at CS;have h2:x=pre:=Ql (h1▸CS) h1;rw[←h2];exact hj
    obtain⟨ee,ew⟩:=CR bJ.wN (Qo lp);obtain⟨of,rQ,hl⟩:=H.y7;have:of=o':=by rw[ho]at rQ;exact(at1 rQ).symm
    subst this;rw[if_pos rb]at hl;replace hl:=hl.2;have next: ∀v w' E' L' gX,E'=E->(∀e∈E,e.1∈r)->Mem w0 (E'.map (·.2)++L') w'->(∀w,Mem w0 L' w->Mem w0 gX w)->(∀w,Mem w0 gX w->Mem w0 Lq w)->(fs.contains (i+2000)=true\/fs.contains (i+5000)=true-> ∀w,Mem w0 L' w->Mem w0 L w)->ta P l fs mk Q w0 r (af.put of.dst v) L' gX->wpAny P .any l.toArray Q m (listed.setIfInBounds i true) (a.put of.dst v) w':=fun v w' E' L' gX y9 za g1 g2 g3 Qr g4=>by
     subst y9;refine F1 hB cL bq iO AE m (pre++[i]) r (af.put of.dst v) L' gX E' _ _ w' ug ⟨by rw[H.ord];simp,H.inv.set hi vP,g1,fun e he=>?_,H.keys,g2,g4,by rw[uc];exact H.size,by rw[uc];exact H.rN,by rw[ud];exact H.defers,by rw[ud];exact H.uf,fun j hj oH=>?_,fun j hj hf=>?_,fun j hj oH=>?_,fun j d hj oH uC hd=>?_,F3 v,fun d hd=>?_⟩
     ·obtain⟨g1',g2'⟩:=Qp v e he;exact⟨za e he,g2'⟩
     ·
      by_cases cD:j=i
      ·subst cD;exact .inl (by simp)
      ·exact(H.sub j hj (by rw[←iE j cD];exact oH)).imp_left fun h=>auy _ h
     ·
      rcases at7.1 hj with h|h
      ·
       by_cases cD:j=i
       ·subst cD;exact qV
       ·rw[iE j cD];exact H.fresh j h hf
      ·obtain rfl:=auK.1 h;exact qV
     ·
      rcases at7.1 hj with h|h
      ·
       have cD:j≠i:=fun e=>td (e▸h)
       cases y8:fs.contains (j+1000)with
       |true=>
        cases re:fs.contains (i+2000)with
        |true=>
         have hp:=H.xj j h (by rw[←iE j cD];exact oH);rw[y8]at hp;simp only[if_true]at hp⊢;exact AB hB cL bq H.ord ho h (Qr (.inl re)) hp
        |false=>
         cases h5:fs.contains (i+5000)with
         |true=>
          have hp:=H.xj j h (by rw[←iE j cD];exact oH);rw[y8]at hp;simp only[if_true]at hp⊢;exact AB hB cL bq H.ord ho h (Qr (.inr h5)) hp
         |false=>
          exfalso;obtain⟨oi,wP,F4,-⟩:=xi ord [] [] hB pre i r H.ord;have e1:oi=of:=by rw[ho]at wP;exact(at1 wP).symm
          subst e1;have hja:=F4.tmp rb re h5 j (by rw[auT,awY];exact h) y8;have km:=Qm hB iO H.inv i oi ho rO j hja;have hjo:j∈ord:=by rw[H.ord];exact auy _ h
          have:=F0 (by have:=bq j hjo;omega) km;rw[iE j cD]at oH;rw[this]at oH;cases oH
       |false=>
        have hp:=H.xj j h (by rw[←iE j cD];exact oH);rw[y8]at hp;simp only[auH,if_false]at hp⊢;exact AB hB cL bq H.ord ho h g3 hp
      ·obtain rfl:=auK.1 h;rw[qV]at oH;cases oH
     ·
      rcases at7.1 uC with h|h
      ·have cD:j≠i:=fun e=>td (e▸h);rw[ko _ _ _ _ (uD j d hj hd cD),ko _ _ _ _ (uD j d hj hd cD)];rw[iE j cD]at oH;exact H.done j d hj oH h hd
      ·obtain rfl:=auK.1 h;rw[lS]at hd;rw[hd];have h3:qp a0.tmps.size d v (a.put (some d) v):=Az H.size;have h4:qp a0.tmps.size d v (af.put (some d) v):=Az H.rN;unfold qp at h3 h4;rw[h3,h4]
     ·
      have h1:of.dst≠some d:=by
       have:=hd i (by simp);rwa [lS]at this
      rw[ko _ _ _ _ h1];exact H.full d fun j hj=>hd j (auy _ hj)
    have za: ∀e∈E,e.1∈r:=fun e he=>by
     have:=(H.ra e he).1;exact(auc.1 this).resolve_left fun e2=>Kh (e2▸auq he)
    cases re:fs.contains (i+2000)with
    |true=>
     rw[if_pos re]at hl;obtain⟨hg,Ki,AD⟩:=hl;obtain⟨mx,w',gS,Kj⟩:=Ki w0 w (E.map (·.2)++L) H.mem;unfold wpOp;simp only[qk];rw[if_pos (by simp[Region.wanted,hg])];refine .inl ?_;unfold Oper.wp;rw[ee,gS];refine next _ _ E ((mk i).e mx::L) Lq rfl za ?_ (fun w hw=>H.AA w (hw.sub (auX _ _))) (fun _ h=>h) (fun _ w hw=>hw.sub (auX _ _)) (AD _);exact Kj.perm (av6.symm)
    |false=>
     rw[if_neg (by rw[re];exact au7)]at hl;obtain⟨hg,gS,aaB⟩:=hl;have F5:E=[]\/ ∃x,E=[x]/\fs.contains (i+4000)=true:=by
      obtain⟨oi,wP,F4,hry⟩:=xi ord [] [] hB pre i r H.ord;rcases hry rb re with h|⟨h4,h5⟩
      ·refine .inl (List.eq_nil_iff_forall_not_mem.2 fun e he=>?_);have h1:=h e.1 (za e he);rw[(H.ra e he).2.2.2.1]at h1;cases h1
      ·
       rcases y9:E with _|⟨x,_|⟨y,E'⟩⟩
       ·exact .inl rfl
       ·exact .inr ⟨x,rfl,h4⟩
       ·
        exfalso;have m1:x.1∈r.filter fun j=>fs.contains (j+2000):=auC.2 ⟨za x (by rw[y9];simp),(H.ra x (by rw[y9];simp)).2.2.2.1⟩;have m2:y.1∈r.filter fun j=>fs.contains (j+2000):=auC.2 ⟨za y (by rw[y9];simp),(H.ra y (by rw[y9];simp)).2.2.2.1⟩;have Qs:=H.keys;rw[y9]at Qs;have bN:x.1≠y.1:=fun e=>(awb.1 Qs).1 (by simp[e]);rcases eS:(r.filter fun j=>fs.contains (j+2000))with _|⟨z,_|⟨z2,fl⟩⟩
        ·rw[eS]at m1;cases m1
        ·rw[eS,auK]at m1 m2;exact bN (m1.trans m2.symm)
        ·rw[eS]at h5;simp at h5
     have h1:upon P w (fun v w'=> ∃L' gX,Mem w0 (E.map (·.2)++L') w'/\(∀w,Mem w0 L' w->Mem w0 gX w)/\(∀w,Mem w0 gX w->Mem w0 Lq w)/\(fs.contains (i+5000)=true-> ∀w,Mem w0 L' w->Mem w0 L w)/\ta P l fs mk Q w0 r (af.put of.dst v) L' gX) ((execOp af.eval of).run P w):=by
      have rY:=H.mem;rcases F5 with hE|⟨x,hE,h4⟩
      ·rw[hE]at rY⊢;exact gS w (by simpa using rY)
      ·rw[hE]at rY⊢;exact aaB h4 x.2 w (by simpa using rY)
     have Kk: ∀v w',(∃L' gX,Mem w0 (E.map (·.2)++L') w'/\(∀w,Mem w0 L' w->Mem w0 gX w)/\(∀w,Mem w0 gX w->Mem w0 Lq w)/\(fs.contains (i+5000)=true-> ∀w,Mem w0 L' w->Mem w0 L w)/\ta P l fs mk Q w0 r (af.put of.dst v) L' gX)->wpAny P .any l.toArray Q m (listed.setIfInBounds i true) (a.put of.dst v) w':=fun v w' ⟨L',gX,g1,g2,g3,g5,g4⟩=>
      next v w' E L' gX rfl za g1 g2 g3 (fun h=>h.elim (fun h=>by rw[re]at h;cases h) g5) g4
     unfold wpOp;simp only[qk];rw[if_pos (by rw[ew];exact hg)];refine .inl ?_;unfold Oper.wp;rw[ee];generalize(execOp af.eval of).run P w=r' at h1;unfold upon at h1;split at h1
     ·exact Kk _ _ h1
     ·exact Kk _ _ h1
     ·obtain⟨rfl,vA⟩:=h1;exact vA.mono fun e qU ⟨u,he,hR⟩=>by subst he;exact Kk u _ hR
     ·exact h1.elim
   ·
    have Cg:i∈r:=(auc.1 Kg).resolve_left Qq
    cases re:fs.contains (i+2000)with
    |false=>
     exfalso;obtain⟨r1,r2,rfl⟩:=awh Cg;have xm:ord=(pre++f::r1)++i::r2:=by rw[H.ord];simp
     obtain⟨oi,wP,F4,-⟩:=xi ord [] [] hB _ i r2 xm;have e1:oi=o':=by rw[ho]at wP;exact(at1 wP).symm
     subst e1;have AF:=F4.anc re f (by
      rw[auT,awY,auC];exact⟨by simp,rb⟩)
     have eS:=Qm hB iO H.inv i oi ho rO f AF;have sO:f∈ord:=by rw[H.ord];simp
     rcases H.sub f (bq f sO) (F0 (by have:=bq f sO;omega) eS)with vu|vu
     ·have qt:=cL;rw[H.ord]at qt;exact(avP.1 qt).2.2 f vu f (by simp) rfl
     ·exact CU vu
    |true=>
     obtain⟨of,rQ,hl⟩:=H.y7;rw[if_pos rb]at hl;obtain⟨oa,Qu,hga,Ki⟩:=hl.1 i Cg re;have e1:oa=o':=by rw[ho]at Qu;exact(at1 Qu).symm
     subst e1;have aaC: ∀t∈oa.looksAt l.toArray,a.tmps[t]? =af.tmps[t]? :=fun t ht=>by
      by_cases hw: ∃j,j<l.length/\dZ l j=some t
      ·
       obtain⟨j,hj,hd⟩:=hw;obtain⟨_,e,he,hb,fY⟩:=bJ.reads j t hj hd ht;have oH:=rO e he hb;rw[fY]at oH;have Qv:=F0 (by omega) oH;rcases H.sub j hj Qv with hp|hp
       ·exact H.done j t hj Qv hp hd
       ·obtain⟨e2,CW,rfl⟩:=ava.1 hp;have g3:=(H.ra e2 CW).2.2.1;rw[bJ.aav re e2.1 t hj hd ht]at g3;cases g3
      ·have h1: ∀j,j<l.length->dZ l j≠some t:=fun j hj hd=>hw ⟨j,hj,hd⟩;rw[H.rest t fun j hj _=>h1 j hj,H.full t fun j hj=>h1 j (bq j (by rw[H.ord];exact auy _ hj))]
     obtain⟨ee,_⟩:=CR bJ.wN aaC;obtain⟨mx,w',gS,Kj⟩:=Ki w0 w (E.map (·.2)++L) H.mem;have kr:fs.contains i=true:=by
      cases kr:fs.contains i with
      |true=>rfl
      |false=>
       exfalso;obtain⟨r1,r2,rfl⟩:=awh Cg;exact absurd re (by rw[AE i vP kr];exact au7)
     unfold wpOp;simp only[qk];rw[if_pos (by simp[Region.wanted,hga])];refine .inl ?_;unfold Oper.wp;rw[ee,gS];refine F1 hB cL bq iO AE m pre (f::r) af L Lq ((i,(mk i).e mx)::E) _ _ _ ug ⟨H.ord,H.inv.set hi vP,Kj,fun e he=>?_,awb.2 ⟨Kh,H.keys⟩,H.AA,H.y7,by rw[uc];exact H.size,H.rN,by rw[ud];exact H.defers,H.uf,fun j hj hl=>?_,fun j hj hf=>?_,fun j hj hl=>?_,aaA _,F3 _,H.full⟩
     ·
      rcases auc.1 he with rfl|he
      ·exact⟨Kg,qV,kr,re,oa,mx,ho,rfl,fun d hd=>by rw[hd];exact Az H.size⟩
      ·exact Qp _ e he
     ·
      by_cases cD:j=i
      ·subst cD;exact .inr (by simp)
      ·exact(H.sub j hj (by rw[←iE j cD];exact hl)).imp_right fun h=>aui _ h
     ·have cD:j≠i:=fun e=>td (e▸hj);rw[iE j cD];exact H.fresh j hj hf
     ·have cD:j≠i:=fun e=>td (e▸hj);exact H.xj j hj (by rw[←iE j cD];exact hl)
theorem Qw{id:Nat}{ro:Option Nat}[lg Q]{a:Act}{w:World}{L Lq:List ai}(A:List (List Nat))(ord:List Nat)(cL:qT l=true)(hm:P.follows .mixedOrders=true)(hB:FW l fs A ord=true)(hC:Mem w0 L {w with drawn:=w.drawn+1})(nI: ∀w,Mem w0 L w->Mem w0 Lq w)
  (AE: ∀k,k<l.length->fs.contains k=false->fs.contains (k+2000)=false)
  (h:ta P l fs mk Q w0 ord a L Lq):(Code.region id l.toArray true).wpIn (ni ro) 0 P Q a w:=by
 simp only[FW,af0,decide_eq_true_eq]at hB;obtain⟨⟨⟨h1,h2⟩,h3⟩,h4⟩:=hB;have iO: ∀j,j<l.length->j∈ord:=fun j hj=>by have:=aue.1 h1 j (auB.2 hj);simpa using this
 have bq: ∀j∈ord,j<l.length:=fun j hj=>by have:=aue.1 h3 j hj;simpa using this
 refine I6 cL hm ?_;have Jd:HeadInv .any l.toArray l.length (Array.replicate l.toArray.size false):=
  ⟨by simp,fun j oj _ hl=>(by rw[getD_replicate_false]at hl;cases hl),fun t h1 h2=>by simp at h2;omega⟩
 have jg: ∀j,j<l.length->(Array.replicate l.toArray.size false).getD j true=false:=fun j hj=>by simp[hj]
 have ug:left l.length (Array.replicate l.toArray.size false)=l.length:=by
  unfold left;rw[List.filter_eq_self.2 (fun j hj=>?_),awV];rw[jg j (auB.1 hj)];rfl
 have:=F1 (P:=P) (Q:=Q) (w0:=w0) (a0:=a) h4 h2 bq iO AE l.length [] ord a L Lq [] (Array.replicate l.toArray.size false) a _ ug
  ⟨rfl,Jd,hC,fun e he=>(by cases he),List.nodup_nil,nI,h,rfl,rfl,rfl,rfl,fun j hj hl=>(by rw[jg j hj]at hl;cases hl),fun j hj=>(by cases hj),fun j hj=>(by cases hj),fun j d hj hl=>(by rw[jg j hj]at hl;cases hl),fun _ _=>rfl,fun _ _=>rfl⟩
 simpa using this
theorem aaD{id:Nat}{ro:Option Nat}[lg Q]{a:Act}{w:World}{L Lq:List ai}(A:List (List Nat))(ord:List Nat)(cL:qT l=true)(hm:P.follows .mixedOrders=true)(hB:FU l fs A ord=true)(hC:Mem w0 L {w with drawn:=w.drawn+1})(nI: ∀w,Mem w0 L w->Mem w0 Lq w)
  (h:ta P l fs mk Q w0 ord a L Lq):(Code.region id l.toArray true).wpIn (ni ro) 0 P Q a w:=by
 have h5: ∀k,fs.contains (k+2000)=false:=fun k=>by
  simp only[FU,af0]at hB
  cases hk:fs.contains (k+2000)with
  |false=>rfl
  |true=>
   have:=aue.1 hB.1.2 (k+2000) (by simpa using hk);have:=of_decide_eq_true this;omega
 refine Qw A ord cL hm ?_ hC nI (fun k _ _=>h5 k) h;simp only[FU,FW,af0]at hB⊢;exact⟨hB.1.1,hB.2⟩
end
open Go.RowKit
section
variable {P:Program} {N:cA} {w0:World} {env:Env} {L R R1 R2:List ai} {Q:Exit->Act->World->Prop} {d:Option Tmp} {ty:TypeId} {ps:String} {af:Array Edge} {gd:Option (Nat×Bool)} {K:Value->List ai->Prop}
def aO(P:Program)(N:cA)(w0:World)(env:Env)(L:List ai)(o:Oper)(K:Value->List ai->Prop):Prop:=
 ∀a w,dC N env a->Mem w0 L w->upon P w (fun v w'=> ∃L',Mem w0 L' w'/\K v L') ((execOp a.eval o).run P w)
theorem rf{o:Oper}(h: ∀a w,dC N env a->Mem w0 L w-> ∃v w' L',(execOp a.eval o).run P w= .ok (.value v) w'/\Mem w0 L' w'/\K v L'):aO P N w0 env L o K:=fun a w ha hw=>by
 obtain⟨v,w',L',h1,h2,h3⟩:=h a w ha hw;rw[h1];exact⟨L',h2,h3⟩
theorem Kl{o:Oper}(h: ∀a w,dC N env a->Mem w0 L w-> ∃w' L',(execOp a.eval o).run P w= .ok .skip w'/\Mem w0 L' w'/\K undef L'):aO P N w0 env L o K:=fun a w ha hw=>by
 obtain⟨w',L',h1,h2,h3⟩:=h a w ha hw;rw[h1];exact⟨L',h2,h3⟩
theorem zb{w:World}{R R':Value->World->Prop}(h: ∀v w,R v w->R' v w){r:Result Next}(hr:upon P w R r):upon P w R' r:=by
 unfold upon at hr⊢;split at hr
 ·exact h _ _ hr
 ·exact h _ _ hr
 ·exact⟨hr.1,hr.2.mono fun e qU ⟨v,he,hv⟩=>⟨v,he,h _ _ hv⟩⟩
 exact hr.elim
theorem Qx{o:Oper}{K':Value->List ai->Prop}(h:aO P N w0 env L o K')(hk: ∀v L',K' v L'-> ∃F6,(∀w,Mem w0 L' w->Mem w0 F6 w)/\K v F6):aO P N w0 env L o K:=fun a w ha hw=>
 zb (fun v _ ⟨L',h1,h2⟩=>by obtain⟨F6,h3,h4⟩:=hk v L' h2;exact⟨F6,h3 _ h1,h4⟩) (h a w ha hw)
theorem qv{X:Type}{val:X->Value}{L':X->List ai}{pr:X->Prop}{pre:Prop}{f:FuncId}{xs:List Operand}{ts:Array TypeId}{vs:List Value}[hf:aH P f](hx:iF env xs=some vs)
  [hc:bY P f w0 L vs X val L' pr pre] (hp:pre) (hk: ∀x,pr x->K (val x) (L' x)):
  aO P N w0 env L ⟨d, .call {callee:= .value (.func f),args:=xs.toArray,argTypes:=ts},ty,ps,af,gd⟩ K:=fun a w ha hw=>by
 rw[E8 hf w rfl,ha.iF hx];exact⟨rfl,(hc.h hp w hw).mono fun e w' ⟨x,he,lp,hm⟩=>⟨val x,he,L' x,hm,hk x lp⟩⟩
section
variable {α:Type} {enc:α->Array Value} {c:Nat} {s:Sv} {xs ys:List α}
theorem aaE{t:TypeId}{z:Value}[hz:eY P t z](hk: ∀b,K ((.pointer (some ⟨b,0,none⟩))) ((aq b z.cells t::L))):
  aO P N w0 env L ⟨d, .alloc t,ty,ps,af,none⟩ K:=
 rf fun a w ha hw=>⟨_,_,_,by simp only[execOp,Instr.alloc,newVar,newRow,Sem.run_bind,E7 w hz,newObj,Sem.run,Result.andThen,Sem.run_pure];rfl,hw.alloc z.cells t,hk _⟩
theorem Qy{t:TypeId}{cs:Array Value}[hz:eY P t (.agg cs)](hk: ∀b,K ((.pointer (some ⟨b,0,none⟩))) ((aq b cs t::L))):
  aO P N w0 env L ⟨d, .alloc t,ty,ps,af,none⟩ K:=aaE (z:= .agg cs) hk
theorem tg{t:TypeId}{x y:Operand}{i b o:Nat}{cs:Array Value}{T:TypeId}{v:Value}(hx:ev env x=some (.pointer (some ⟨b,o,none⟩)))(hy:ev env y=some v)[ht:gT P t][hh:Has L b cs T i](ho:o<cs.size)(hv:v.oneCell'=true){cs':Array Value}{L':List ai}(hU:cs.setIfInBounds o v=cs')[hu:fZ L i (aq b cs' T) L'](hk:K undef (L')):
  aO P N w0 env L ⟨none, .store t x y,ty,ps,af,none⟩ K:=
 Kl fun a w ha hw=>by
  have hi:=hh.h;have hb:=hw.block hi;have hc:w.cell? ⟨b,o,none⟩=some cs[o]:=by rw[hw.cell hi];simp[ho]
  have hf:w.frozen? ⟨b,o,none⟩=false:=frozen_of_row w b o cs T hb;subst hU;refine⟨w.setCell ⟨b,o,none⟩ v,_,?_,?_,hk⟩
  ·
   have h1:(storeCells ⟨b,o,none⟩ [v]).run P w= .ok () (w.setCell ⟨b,o,none⟩ v):=by
    have:=run_storeCells_at (P:=P) b o T [v] 0 cs w hb (by simp;omega) (by simpa using hv);rw[this,setCell_eq_setRow w b o cs T (0,0) v hb];congr 2;apply awE;simp[List.set_eq_take_append_cons_drop,ho]
   have hU:v.cells= #[v]:=by cases v<;>simp_all[Value.oneCell',Value.cells]
   simp only[execOp,ha.ev hx,ha.ev hy,Instr.storeAt,Instr.sureAddr,storeVar,Sem.run_bind,Sem.run_pure,Result.andThen,lT w ht.size,hU];simp[h1]
  ·rw[setCell_eq_setRow w b o cs T (0,0) v hb];rw[←hu.h];exact hw.setRow hi _
theorem Km{t:TypeId}{x y:Operand}{i b o n:Nat}{cs vs:Array Value}{T:TypeId}(hx:ev env x=some (.pointer (some ⟨b,o,none⟩)))(hy:ev env y=some (.agg vs))[ht:gK P t n][hh:Has L b cs T i][hs:gB vs n](ho:o+n<=cs.size){cs':Array Value}{L':List ai}(hU:over cs o vs=cs')[hu:fZ L i (aq b cs' T) L'](hk:K undef (L')):
  aO P N w0 env L ⟨none, .store t x y,ty,ps,af,none⟩ K:=
 Kl fun a w ha hw=>by
  have hi:=hh.h;have hn:=hs.h;have hv:=hs.one;have hb:=hw.block hi;subst hU;refine⟨_,_,?_,by rw[←hu.h];exact hw.setRow hi _,hk⟩;have h1:=run_storeCells_at (P:=P) b o T vs.toList 0 cs w hb (by simp;omega) (fun v my=>(auR.1 hv) v (by simpa using my));simp only[execOp,ha.ev hx,ha.ev hy,Instr.storeAt,Instr.sureAddr,storeVar,Value.cells,Sem.run_bind,Sem.run_pure,Result.andThen,lT w ht.size,hn];simp[h1,over]
theorem qw{t:TypeId}{x y:Operand}{i b n:Nat}{cs vs:Array Value}{T:TypeId}(hx:ev env x=some (.pointer (some ⟨b,0,none⟩)))(hy:ev env y=some (.agg vs))[ht:gK P t n][hh:Has L b cs T i][hs:gB vs n][hc:gB cs n]{L':List ai}[hu:fZ L i (aq b vs T) L'](hk:K undef (L')):
  aO P N w0 env L ⟨none, .store t x y,ty,ps,af,none⟩ K:=by
 have hn:=hs.h;have YM:=hc.h;refine Km hx hy (by omega) (?_:over cs 0 vs=vs) hk;apply awE;simp[over];omega
theorem aaF{x y:Operand}{tx gU e:TypeId}{i b o dl dc sl sc:Nat}{a:Addr}{cs vs:Array Value}{T:TypeId}(hx:ev env x=some (.slice (some ⟨b,o,none⟩) dl dc))(hy:ev env y=some (.slice (some a) sl sc))
  [ht:fH P tx e 1] [hh:Has L b cs T i] (hn:vs.size=Nat.min sl dl) (nL: ∀w,Mem w0 L w-> ∀j,j<vs.size->w.cell? (a.add j)=vs[j]?) (hv:vs.all (·.oneCell')=true) (ho:o+vs.size<=cs.size)
  {cs':Array Value} {L':List ai} (hU:over cs o vs=cs') [hu:fZ L i (aq b cs' T) L'] (hk:K ((.int .i64 vs.size)) (L')):
  aO P N w0 env L ⟨d, .call {callee:= .builtin .copy,args:= #[x,y],argTypes:= #[tx,gU]},ty,ps,af,none⟩ K:=
 rf fun aa w ha hw=>by
  have hi:=hh.h;have hb:=hw.block hi;subst hU;have gS:=run_copy_row (P:=P) w tx gU ty e b o dl dc a sl sc cs T vs.toList ht.eK ht.size hb (by simpa using hn)
   (fun j v my=>by
    have hj:j<vs.size:=by simpa using(zz.1 my).1
    rw[nL w hw j hj];simpa using my) (by simpa using ho) (fun v my=>(auR.1 hv) v (by simpa using my))
  refine⟨_,w.setRow b (over cs o vs),_,?_,by rw[←hu.h];exact hw.setRow hi _,hk⟩;simp[execOp,ha.ev hx,ha.ev hy,resolve,invoke,builtin,gS,Result.andThen,goInt,over]
theorem F7{t tx e:TypeId}{x y:Operand}{yv:Value}{bP i:Nat}[ht:dS P t e c bP][he:bp enc c](hx:ev env x=some s.val)(hy:ev env y=some yv)[q:gg L s enc c xs i](hc:0<c)
  (hs: ∀w,Mem w0 L w->Src P c tx yv ys.length (aL enc ys) w) (hb:(xs.length+ys.length)*bP<=140737488355328) (fR:xs.length+ys.length<=140737488355328) {L':Sv->List ai} [hu: ∀s',fZ L i (own enc c s' (xs++ys)) (L' s')]
  (hk: ∀s':Sv,s'.Ok->s'.len=(xs++ys).length->K (s'.val) ((L' s'))):
  aO P N w0 env L ⟨d, .call {callee:= .builtin .append,args:= #[x,y],argTypes:= #[t,tx]},ty,ps,af,none⟩ K:=
 rf fun a w ha hw=>by
  obtain⟨s',w',h1,h2,h3,h4⟩:=Fm (ty:=ty) ht hc hw q.h (hs w hw) hb fR;refine⟨s'.val,w',L' s',?_,by rw[←(hu s').h];exact h4,hk s' h2 h3⟩;simp[execOp,ha.ev hx,ha.ev hy,resolve,invoke,builtin,h1,Result.andThen]
theorem Qz{t e:TypeId}{bP n:Nat}[ht:dS P t e c bP][he:bp enc c]{ops:List (Nat×Operand)}{vals:List Value}(xs:List α)(hx:kt env ops=some (idx vals 0))(hv:vals.map Value.cells=xs.map enc)(hn:xs.length=n)(hc:0<n*c)(rV:n*c<=16777216)
  (hk: ∀b,K ((Sv.val ⟨false,b,0,n,n,none⟩)) ((own enc c ⟨false,b,0,n,n,none⟩ xs::L))):
  aO P N w0 env L ⟨d, .buildSlice t n ops.toArray,ty,ps,af,none⟩ K:=
 rf fun a w ha hw=>by
  subst hn;have e1:(ops.toArray.map fun(p:Nat×Operand)=>match p with|(i,x)=>(i,a.eval x))=(idx vals 0).toArray:=by
   rw[←ha.kt hx];simp
  refine⟨_,_,_,?_,hw.call (vH (enc:=enc) (c:=c) (xs:=xs) (cs:=(aL enc xs).toArray) (e:=e) rfl xs.length xs.length rfl (at5 _) (Fo hc rV) (by simp[iG]) fun i x hx j hj=>by rw[←ow (enc:=enc) xs i x hx j hj];simp),hk _⟩;simp only[execOp,e1,Sem.run_bind,Fp ht hv hc rV w,Result.andThen,Sem.run_pure];rfl
theorem QA{t e:TypeId}{bP n cap:Nat}{z:Value}{x y:Operand}{k k':IntKind}{ix iy:Int}[ht:dS P t e c bP][hz:eY P e z](x0:α)(h0:enc x0=z.cells)(hx:ev env x=some (.int k ix))(hy:ev env y=some (.int k' iy))(ex:ix=(n:Int))(ey:iy=(cap:Int))(hle:n<=cap)(hb:bP*cap<=281474976710656)(fR:cap<=140737488355328)
  (hk: ∀b,K ((Sv.val ⟨false,b,0,n,cap,none⟩)) ((own enc c ⟨false,b,0,n,cap,none⟩ (List.replicate n x0)::L))):
  aO P N w0 env L ⟨d, .makeSlice t x y,ty,ps,af,none⟩ K:=
 rf fun a w ha hw=>by
  subst ex ey;obtain⟨w',h1,h2⟩:=JC ht hz (k:=k) (k':=k') (n:=n) x0 h0 hle hb fR w;exact⟨_,w',_,by simp only[execOp,ha.ev hx,ha.ev hy,Sem.run_bind,h1,Result.andThen,Sem.run_pure],hw.call h2,hk _⟩
theorem zd{t:TypeId}{x y:Operand}{i k j n p:Nat}{a a':α}{v:Value}(sz:(P.info? t).map (·.size)=some n)[he:bp enc c](hx:ev env x=some (.pointer (some ⟨s.b,p,none⟩)))(hy:ev env y=some v)[q:gg L s enc c xs i](iP:p=s.o+k*c+j)
  (ha:xs[k]? =some a) (hv:v.cells.all (·.oneCell')=true) (hn:v.cells.size=n) (hj:j+n<=c) (sU:over (enc a) j v.cells=enc a') {L':List ai} [hu:fZ L i (own enc c s (xs.set k a')) L'] (hk:K undef (L')):
  aO P N w0 env L ⟨none, .store t x y,ty,ps,af,none⟩ K:=
 Kl fun aa w Cv hw=>by
  subst iP hn;obtain⟨w',h1,h2⟩:=Pf (P:=P) hw q ha hv hj sU hu;refine⟨w',_,?_,h2,hk⟩;simp only[execOp,Cv.ev hx,Cv.ev hy,Instr.storeAt,Instr.sureAddr,storeVar,Sem.run_bind,Sem.run_pure,Result.andThen,lT w sz];simp[h1]
theorem QB{t e:TypeId}{bP:Nat}(enc:α->Array Value)[ht:dS P t e c bP][he:bp enc c](hk: ∀b,K ((Sv.val ⟨false,b,0,0,0,none⟩)) ((own enc c ⟨false,b,0,0,0,none⟩ []::L))):
  aO P N w0 env L ⟨d, .buildSlice t 0 #[],ty,ps,af,none⟩ K:=
 rf fun a w _ hw=>by
  refine⟨_,_,_,?_,hw.call (vH (enc:=enc) (c:=c) (xs:=[]) (cs:= #[]) (e:=e) rfl 0 0 rfl (at5 _) (auo _) (by simp) (by simp)),hk _⟩;simp only[execOp,Sem.run_bind,List.map_toArray,au4,Pp ht w,Result.andThen,Sem.run_pure];rfl
theorem aaG{α:Type}{enc:α->Array Value}{c:Nat}{s:Sv}{xs ys:List α}{t tx e:TypeId}{x y:Operand}{yv:Value}{bP:Nat}[ht:dS P t e c bP][he:bp enc c](R:List ai)(hx:ev env x=some s.val)(hy:ev env y=some yv)
  (ho: ∀w,Mem w0 L w->Mem w0 (own enc c s xs::R) w) (hc:0<c) (hs: ∀w,Mem w0 L w->Src P c tx yv ys.length (aL enc ys) w) (hb:(xs.length+ys.length)*bP<=140737488355328) (fR:xs.length+ys.length<=140737488355328)
  (hk: ∀s':Sv,K (s'.val) ((own enc c s' (xs++ys)::R))):
  aO P N w0 env L ⟨d, .call {callee:= .builtin .append,args:= #[x,y],argTypes:= #[t,tx]},ty,ps,af,none⟩ K:=
 rf fun a w ha hw=>by
  obtain⟨s',w',h1,h2,h3,h4⟩:=Fm (i:=0) (ty:=ty) ht hc (ho w hw) rfl (hs w hw) hb fR;refine⟨s'.val,w',_,?_,by simpa using h4,hk s'⟩;simp[execOp,ha.ev hx,ha.ev hy,resolve,invoke,builtin,h1,Result.andThen]
theorem aaH{P:Program}{N:cA}{w0:World}{env:Env}{L:List ai}{ty:TypeId}{ps:String}{af:Array Edge}{τ:Type}{t:TypeId}{x y:Operand}{i k p:Nat}{s:Sv}{xs:List (Sl τ)}{a:Sl τ}(a':Sl τ)
  (sz:(P.info? t).map (·.size)=some 1) (hx:ev env x=some (.pointer (some ⟨s.b,p,none⟩))) (hy:ev env y=some a'.sv.val) [q:gg L s (cw (τ:=τ)) 1 xs i] (iP:p=s.o+k*1) (ha:xs[k]? =some a) {L':List ai} [hu:fZ L i (own cw 1 s (xs.set k a')) L'] (hk:K undef (L')):
  aO P N w0 env L ⟨none, .store t x y,ty,ps,af,none⟩ K:=
 zd (j:=0) (a':=a') sz hx hy (q:=q) iP ha (by rw[Sv.jW];simp[Sv.one]) (by rw[Sv.jW];rfl) (by decide) (by rw[Sv.jW];rfl) hk
theorem aaI{α:Type}{enc:α->Array Value}{x y:Operand}{tx gU e:TypeId}{i b o dl dc:Nat}{sv:Sv}{ys:List α}{cs:Array Value}{T:TypeId}(hx:ev env x=some (.slice (some ⟨b,o,none⟩) dl dc))(hy:ev env y=some sv.val)
  [ht:fH P tx e 1] [hh:Has L b cs T i] [q:Hd w0 L sv enc 1 ys] [he:bp enc 1] (h0:0<ys.length) (hl:ys.length<=dl) (ho:o+ys.length<=cs.size)
  {cs':Array Value} {L':List ai} (hU:over cs o (aL enc ys).toArray=cs') [hu:fZ L i (aq b cs' T) L'] (hk:K ((.int .i64 (ys.length:Nat))) (L')):
  aO P N w0 env L ⟨d, .call {callee:= .builtin .copy,args:= #[x,y],argTypes:= #[tx,gU]},ty,ps,af,none⟩ K:=fun a w ha hw=>by
 have r:=q.h w hw;have hn:=r.some (i:=0) h0;have hlen:=r.len;rw[Sv.ik hn,r.ok.sp (by have:=r.ok.le;omega)]at hy;have hs:(aL enc ys).toArray.size=ys.length:=by rw[au0,iG,av9]
 have kJ:=hk;rw[←hs]at kJ;refine aaF (vs:=(aL enc ys).toArray) hx hy ?_ (fun w hw j hj=>?_) ?_ (by rw[hs];exact ho) hU kJ a w ha hw
 ·rw[hs];simp only[Nat.min_def];split<;>omega
 ·rw[hs]at hj;have:=ow (enc:=enc) ys j ys[j] (by simp[hj]) 0 (by decide);have r2:=(q.h w hw).row j ys[j] (by simp[hj]) 0 (by decide);simp only[av9,avk]at this r2;rw[Addr.hQ,rU,r2,←this];simp
 ·rw[auR];intro v hv;exact wZ (enc:=enc) ys v (by simpa using hv)
end
section
variable {τ:Type} [dp:Deep τ] {enc:τ->Array Value} {c:Nat}
end
theorem QC{l:List Oper}{rest:List Oper}{o:Oper}(hg:o.guard=none)(hd:dq N o.dst=true)(h:aO P N w0 env L o (fun v L'=>Sq P N w0 l Q rest (cr env o.dst v) L')):Sq P N w0 l Q (o::rest) env L:=fun a w ha hw=>by
 unfold wpList;rw[if_pos (rT hg)];refine .inl ?_;have h1:=h a w ha hw;unfold Oper.wp;generalize(execOp a.eval o).run P w=r at h1;unfold upon at h1;split at h1
 ·obtain⟨L',h2,h3⟩:=h1;exact h3 _ _ (ha.put hd _) h2
 ·obtain⟨L',h2,h3⟩:=h1;exact h3 _ _ (ha.put hd _) h2
 ·obtain⟨rfl,hc⟩:=h1;exact hc.mono fun e qU ⟨v,he,L',h2,h3⟩=>by subst he;exact h3 _ _ (ha.put hd _) h2
 exact h1.elim
end
section
variable {P:Program} {N:cA} {w0:World} {env:Env} {L Lq:List ai} {l:List Oper} {fs ord:List Nat} {mk:Nat->oD} {Q:Exit->Act->World->Prop} {k:Nat} {o:Oper}
def Ln(P:Program)(N:cA)(w0:World)(l:List Oper)(fs:List Nat)(mk:Nat->oD)(Q:Exit->Act->World->Prop)(ord:List Nat)(env:Env)(L Lq:List ai):Prop:= ∀a,dC N env a->ta P l fs mk Q w0 ord a L Lq
def Cert(P:Program)(N:cA)(env:Env)(l:List Oper)(fs:List Nat)(mk:Nat->oD)(ord:List Nat):Prop:=
 ∀i∈ord,fs.contains (i+2000)=true-> ∃oi,l[i]? =some oi/\oi.guard=none/\ ∀a,dC N env a->vN P oi a.eval (mk i)
theorem Cert.none(h:(ord.all fun i=> !fs.contains (i+2000))=true):Cert P N env l fs mk ord:=fun i hi hf=>by
 have:=aue.1 h i hi;rw[hf]at this;cases this
theorem Cert.one{i:Nat}{m:oD}(ho:l[i]? =some o)(hg:o.guard=Option.none)(hm:mk i=m)(h: ∀a,dC N env a->vN P o a.eval m)(hr:Cert P N env l fs mk (ord.filter fun j=> !(j==i))):Cert P N env l fs mk ord:=fun j hj hf=>by
 by_cases e:j=i
 ·subst e;exact⟨o,ho,hg,by rw[hm];exact h⟩
 exact hr j (auC.2 ⟨hj,by simpa using e⟩) hf
theorem Cert.at(h:Cert P N env l fs mk ord){a:Act}(ha:dC N env a): ∀i∈ord,fs.contains (i+2000)=true-> ∃oi,l[i]? =some oi/\oi.guard=Option.none/\vN P oi a.eval (mk i):=fun i hi hf=>by
 obtain⟨oi,h1,h2,h3⟩:=h i hi hf;exact⟨oi,h1,h2,h3 a ha⟩
theorem QD(h:Ex N w0 Q .normal env L):Ln P N w0 l fs mk Q [] env L Lq:=fun a ha w hw=>h a w ha hw
theorem QE{v:Value}(ho:l[k]? =some o)(hf:fs.contains k=false)(hd:dq N o.dst=true)(h1: ∀a,dC N env a->Region.wanted o (yielded l.toArray a.tmps)=true->vw P o a (Mem w0 Lq) v)(h2: ∀a,dC N env a->Region.wanted o (yielded l.toArray a.tmps)=false->v=undef)
  (hk:Ln P N w0 l fs mk Q ord (cr env o.dst v) L Lq) (mF:fs.contains (k+1000)=false:=by rfl):Ln P N w0 l fs mk Q (k::ord) env L Lq:=fun a ha=>
 ⟨o,ho,by
  rw[if_neg (by rw[hf];exact au7)];exact⟨v,by rw[if_neg (by rw[mF];exact au7)];exact h1 a ha,h2 a ha,hk _ (ha.put hd v)⟩⟩
theorem aaJ{v:Value}(ho:l[k]? =some o)(h:Yl P N w0 env L o v)(hk:Ln P N w0 l fs mk Q ord (cr env o.dst v) L Lq)(hg:o.guard=none:=by rfl)(hd:dq N o.dst=true:=by rfl)(hf:fs.contains k=false:=by rfl)(mF:fs.contains (k+1000)=true:=by rfl):Ln P N w0 l fs mk Q (k::ord) env L Lq:=fun a ha=>
 ⟨o,ho,by
  rw[if_neg (by rw[hf];exact au7)];exact⟨v,fun _=>by rw[if_pos mF];exact h a ha,(fun hw=>by rw[rT hg]at hw;cases hw),hk _ (ha.put hd v)⟩⟩
theorem gq{v:Value}(ho:l[k]? =some o)(h:Ry P N w0 env L o v)(hk:Ln P N w0 l fs mk Q ord (cr env o.dst v) L Lq)(hg:o.guard=none:=by rfl)(hd:dq N o.dst=true:=by rfl)(hf:fs.contains k=false:=by rfl)(mF:fs.contains (k+1000)=true:=by rfl):Ln P N w0 l fs mk Q (k::ord) env L Lq:=aaJ ho h.yl hk hg hd hf mF
theorem ze{v:Value}(ho:l[k]? =some o)(h:Yl P N w0 env Lq o v)(hk:Ln P N w0 l fs mk Q ord (cr env o.dst v) L Lq)(hg:o.guard=none:=by rfl)(hd:dq N o.dst=true:=by rfl)(hf:fs.contains k=false:=by rfl)(mF:fs.contains (k+1000)=false:=by rfl):Ln P N w0 l fs mk Q (k::ord) env L Lq:=
 QE (mF:=mF) ho hf hd (fun a ha _=>h a ha) (fun a ha hw=>by rw[rT hg]at hw;cases hw) hk
theorem an{v:Value}(ho:l[k]? =some o)(h:Ry P N w0 env Lq o v)(hk:Ln P N w0 l fs mk Q ord (cr env o.dst v) L Lq)(hg:o.guard=none:=by rfl)(hd:dq N o.dst=true:=by rfl)(hf:fs.contains k=false:=by rfl)(mF:fs.contains (k+1000)=false:=by rfl):Ln P N w0 l fs mk Q (k::ord) env L Lq:=ze ho h.yl hk hg hd hf mF
theorem QF{v:Value}{j t:Nat}{g:Bool}(ho:l[k]? =some o)(hg:o.guard=some (j,false))(hj:(l[j]?).bind (·.dst)=some t)(hv:look env t=some (.bool g))(h:(!g)=true->Yl P N w0 env Lq o v)
  (hk:Ln P N w0 l fs mk Q ord (cr env o.dst (if(!g)=true then v else undef)) L Lq) (hd:dq N o.dst=true:=by rfl) (hf:fs.contains k=false:=by rfl) (mF:fs.contains (k+1000)=false:=by rfl):Ln P N w0 l fs mk Q (k::ord) env L Lq:=
 QE (mF:=mF) ho hf hd (fun a ha hw=>by
  rw[yO ha hg hj hv]at hw
  cases g
  ·exact h rfl a ha
  ·cases hw) (fun a ha hw=>by
  rw[yO ha hg hj hv]at hw
  cases g
  ·cases hw
  ·rfl) hk
theorem aaK(ho:l[k]? =some o)(h:aO P N w0 env L o fun v L'=> ∃gX,(∀w,Mem w0 L' w->Mem w0 gX w)/\(∀w,Mem w0 gX w->Mem w0 Lq w)/\Ln P N w0 l fs mk Q ord (cr env o.dst v) L' gX)(hg:o.guard=none:=by rfl)(hd:dq N o.dst=true:=by rfl)(hf:fs.contains k=true:=by rfl)(nU:fs.contains (k+2000)=false:=by rfl)(AG:fs.contains (k+4000)=false:=by rfl)(vQ:fs.contains (k+5000)=false:=by rfl)(hC:Cert P N env l fs mk ord:=by exact Cert.none rfl):Ln P N w0 l fs mk Q (k::ord) env L Lq:=fun a ha=>
 ⟨o,ho,by
  rw[if_pos hf,if_neg (by rw[nU];exact au7)];exact⟨hC.at ha,rT hg,fun w hw=>zb (fun v w' ⟨L',h1,gX,h2,h3,h4⟩=>⟨L',gX,h1,h2,h3,(fun h=>by rw[vQ]at h;cases h),h4 _ (ha.put hd v)⟩) (h a w ha hw),fun h=>by rw[AG]at h;cases h⟩⟩
theorem QG(ho:l[k]? =some o)(h:aO P N w0 env L o fun v L'=>(∀w,Mem w0 L' w->Mem w0 Lq w)/\(∀w,Mem w0 L' w->Mem w0 L w)/\Ln P N w0 l fs mk Q ord (cr env o.dst v) L' Lq)(hg:o.guard=none:=by rfl)(hd:dq N o.dst=true:=by rfl)(hf:fs.contains k=true:=by rfl)(nU:fs.contains (k+2000)=false:=by rfl)(AG:fs.contains (k+4000)=false:=by rfl)(hC:Cert P N env l fs mk ord:=by exact Cert.none rfl):Ln P N w0 l fs mk Q (k::ord) env L Lq:=fun a ha=>
 ⟨o,ho,by
  rw[if_pos hf,if_neg (by rw[nU];exact au7)];exact⟨hC.at ha,rT hg,fun w hw=>zb (fun v w' ⟨L',h1,h2,h3,h4⟩=>⟨L',Lq,h1,h2,fun _ h=>h,(fun _=>h3),h4 _ (ha.put hd v)⟩) (h a w ha hw),fun h=>by rw[AG]at h;cases h⟩⟩
theorem aaL(K:Value->List ai->Prop)(ho:l[k]? =some o)(h:aO P N w0 env L o K)(hF: ∀e,aO P N w0 env (e::L) o fun v L'=> ∃L1,(∀w,Mem w0 L' w->Mem w0 (e::L1) w)/\K v L1)(hk: ∀v L',K v L'->(∀w,Mem w0 L' w->Mem w0 Lq w)/\Ln P N w0 l fs mk Q ord (cr env o.dst v) L' Lq)(hC:Cert P N env l fs mk ord)(hg:o.guard=none:=by rfl)(hd:dq N o.dst=true:=by rfl)(hf:fs.contains k=true:=by rfl)(nU:fs.contains (k+2000)=false:=by rfl)(vQ:fs.contains (k+5000)=false:=by rfl):Ln P N w0 l fs mk Q (k::ord) env L Lq:=fun a ha=>
 ⟨o,ho,by
  rw[if_pos hf,if_neg (by rw[nU];exact au7)];exact⟨hC.at ha,rT hg,fun w hw=>zb (fun v w' ⟨L',h1,h2⟩=>⟨L',Lq,h1,(hk v L' h2).1,fun _ h=>h,(fun h=>by rw[vQ]at h;cases h),(hk v L' h2).2 _ (ha.put hd v)⟩) (h a w ha hw),fun _ e w hw=>zb (fun v w' ⟨L',h1,L1,h2,h3⟩=>⟨L1,Lq,h2 _ h1,(hk v L1 h3).1,fun _ h=>h,(fun h=>by rw[vQ]at h;cases h),(hk v L1 h3).2 _ (ha.put hd v)⟩) (hF e a w ha hw)⟩⟩
theorem vR{X:Type}{val:X->Value}{L':X->List ai}{L2:ai->X->List ai}{pr:X->Prop}{pre:Prop}{f:FuncId}{xs:List Operand}{ts:Array TypeId}{vs:List Value}{d:Option Tmp}{ty:TypeId}{ps:String}{af:Array Edge}[hf:aH P f](ho:l[k]? =some ⟨d, .call {callee:= .value (.func f),args:=xs.toArray,argTypes:=ts},ty,ps,af,none⟩)(hx:iF env xs=some vs)
  [hc:bY P f w0 L vs X val L' pr pre] [Kn: ∀e,bY P f w0 (e::L) vs X val (L2 e) pr pre] (hp:pre) (hP: ∀e x w,Mem w0 (L2 e x) w->Mem w0 (e::L' x) w) (hC:Cert P N env l fs mk ord) (hk: ∀x,pr x->(∀w,Mem w0 (L' x) w->Mem w0 Lq w)/\Ln P N w0 l fs mk Q ord (cr env d (val x)) (L' x) Lq)
  (hd:dq N d=true:=by rfl) (AH:fs.contains k=true:=by rfl) (nU:fs.contains (k+2000)=false:=by rfl) (vQ:fs.contains (k+5000)=false:=by rfl):Ln P N w0 l fs mk Q (k::ord) env L Lq:=
 aaL (fun v L1=> ∃x,v=val x/\L1=L' x/\pr x) ho (qv hx hp fun x lp=>⟨x,rfl,rfl,lp⟩) (fun e=>Qx (qv (K:=fun v L1=> ∃x,v=val x/\L1=L2 e x/\pr x) hx hp fun x lp=>⟨x,rfl,rfl,lp⟩) fun v L1 ⟨x,h1,h2,h3⟩=>⟨L1,fun _ h=>h,L' x,fun w hw=>hP e x w (by rw[←h2];exact hw),x,h1,rfl,h3⟩)
  (fun v L1 ⟨x,h1,h2,h3⟩=>by subst h1;subst h2;exact hk x h3) hC rfl hd AH nU vQ
theorem oI{m:oD}(ho:l[k]? =some o)(hm:mk k=m)(h: ∀a,dC N env a->vN P o a.eval m)(hC:Cert P N env l fs mk ord)(hk: ∀x:m.X,Ln P N w0 l fs mk Q ord (cr env o.dst (m.v x)) (m.e x::L) Lq)(hg:o.guard=none:=by rfl)(hd:dq N o.dst=true:=by rfl)(hf:fs.contains k=true:=by rfl)(mF:fs.contains (k+2000)=true:=by rfl):Ln P N w0 l fs mk Q (k::ord) env L Lq:=fun a ha=>by
 subst hm;refine⟨o,ho,?_⟩;rw[if_pos hf,if_pos mF];exact⟨hC.at ha,hg,h a ha,fun x=>hk x _ (ha.put hd _)⟩
theorem dr(ho:l[k]? =some o)(h:aO P N w0 env L o fun v L'=>(∀w,Mem w0 L' w->Mem w0 Lq w)/\Ln P N w0 l fs mk Q ord (cr env o.dst v) L' Lq)(hg:o.guard=none:=by rfl)(hd:dq N o.dst=true:=by rfl)(hf:fs.contains k=true:=by rfl)(nU:fs.contains (k+2000)=false:=by rfl)(AG:fs.contains (k+4000)=false:=by rfl)(vQ:fs.contains (k+5000)=false:=by rfl)(hC:Cert P N env l fs mk ord:=by exact Cert.none rfl):Ln P N w0 l fs mk Q (k::ord) env L Lq:=
 aaK (nU:=nU) (AG:=AG) (vQ:=vQ) (hC:=hC) ho (Qx h fun v L' ⟨h1,h2⟩=>⟨L',fun _ h=>h,Lq,h1,fun _ h=>h,h2⟩) hg hd hf
def Ko:List (Nat×oD)->Nat->oD
 |[],_=>⟨Unit,fun _=>undef,fun _=> .emp⟩
 |(i,m)::r,k=>match Nat.beq i k with
  |true=>m
  |false=>Ko r k
@[reducible] def mG (P:Program)(t:TypeId){z:Value}[_hz:eY P t z]:oD:=⟨Nat,fun b=> .pointer (some ⟨b,0,none⟩),fun b=>aq b z.cells t⟩
theorem mH{t:TypeId}{z:Value}[hz:eY P t z]{d:Option Tmp}{ty:TypeId}{ps:String}{af:Array Edge}{gd:Option (Nat×Bool)}: ∀a,dC N env a->vN P ⟨d, .alloc t,ty,ps,af,gd⟩ a.eval (mG P t):=fun a _ w0 w L hw=>by
 refine⟨w.heap.size,w.alloc (.cells z.cells t),?_,hw.alloc z.cells t⟩;simp only[execOp,Instr.alloc,newVar,newRow,Sem.run_bind,E7 w hz,newObj,Sem.run,Result.andThen,Sem.run_pure];rfl
@[reducible] def oJ {α:Type}(enc:α->Array Value)(c n:Nat)(xs:List α):oD:=⟨Nat,fun b=>Sv.val ⟨false,b,0,n,n,none⟩,fun b=>own enc c ⟨false,b,0,n,n,none⟩ xs⟩
theorem vS{α:Type}{enc:α->Array Value}{c:Nat}{t e:TypeId}{bP n:Nat}{d:Option Tmp}{ty:TypeId}{ps:String}{af:Array Edge}{gd:Option (Nat×Bool)}[ht:dS P t e c bP][he:bp enc c]{ops:List (Nat×Operand)}{vals:List Value}(xs:List α)(hx:kt env ops=some (idx vals 0))(hv:vals.map Value.cells=xs.map enc)(hn:xs.length=n)(hc:0<n*c)(rV:n*c<=16777216):
  ∀a,dC N env a->vN P ⟨d, .buildSlice t n ops.toArray,ty,ps,af,gd⟩ a.eval (oJ enc c n xs):=fun a ha w0 w L hw=>by
 subst hn;have e1:(ops.toArray.map fun(p:Nat×Operand)=>match p with|(i,x)=>(i,a.eval x))=(idx vals 0).toArray:=by
  rw[←ha.kt hx];simp
 refine⟨w.heap.size,_,?_,hw.call (vH (enc:=enc) (c:=c) (xs:=xs) (cs:=(aL enc xs).toArray) (e:=e) rfl xs.length xs.length rfl (at5 _) (Fo hc rV) (by simp[iG]) fun i x hx j hj=>by rw[←ow (enc:=enc) xs i x hx j hj];simp)⟩;simp only[execOp,e1,Sem.run_bind,Fp ht hv hc rV w,Result.andThen,Sem.run_pure];rfl
theorem pA{id:Nat}[lg Q](fs:List Nat)(A:List (List Nat))(ord:List Nat)(Lq:List ai)(mk:List (Nat×oD))(Kq:(fs.all fun j=>decide (j<2000)||decide (4000<=j)||fs.contains (j -2000))=true)(nI: ∀w,Mem w0 L w->Mem w0 Lq w)(hm:P.follows .mixedOrders=true)(hB:FW l fs A ord=true)(h:Ln P N w0 l fs (Ko mk) Q ord env L Lq)(bq:l.length<=1000:=by decide)(cL:qT l=true:=by kernel_rfl):Cw P N w0 Q (.region id l.toArray true) env L:=fun a _ ha hw=>by
 refine Qw A ord cL hm hB hw.EP nI (fun k xk hk=>?_) (h a ha)
 cases h2:fs.contains (k+2000)with
 |false=>rfl
 |true=>
  have:=aue.1 Kq (k+2000) (by simpa using h2);rw[avc,avc,decide_eq_true_eq,decide_eq_true_eq]at this;rcases this with(h|h)|h
  ·omega
  ·omega
  rw[Nat.add_sub_cancel,hk]at h;cases h
theorem jt{id:Nat}[lg Q](fs:List Nat)(A:List (List Nat))(ord:List Nat)(Lq:List ai)(nI: ∀w,Mem w0 L w->Mem w0 Lq w)(hm:P.follows .mixedOrders=true)(hB:FU l fs A ord=true)(h:Ln P N w0 l fs (Ko []) Q ord env L Lq)(cL:qT l=true:=by kernel_rfl):Cw P N w0 Q (.region id l.toArray true) env L:=fun a _ ha hw=>
 aaD A ord cL hm hB hw.EP nI (h a ha)
end
theorem Ry.n{P:Program}{N:cA}{w0:World}{env:Env}{L:List ai}{d:Option Tmp}{ty:TypeId}{ps:String}{af:Array Edge}{gd:Option (Nat×Bool)}{s:TypeId}{x:Operand}{fi off b o o':Nat}[hf:dw P s fi off](hx:ev env x=some (.pointer (some ⟨b,o,none⟩)))(ho:Nat.add o off=o':=by(simp only[Nat.add_eq,Nat.reduceAdd];exact rfl)):
  Ry P N w0 env L ⟨d, .fieldAddr s x fi,ty,ps,af,gd⟩ (.pointer (some ⟨b,o',none⟩)):=aM hx ho
theorem tS{P:Program}{N:cA}{w0:World}{l:List Oper}{Q:Exit->Act->World->Prop}{rest:List Oper}{env:Env}{L:List ai}{d:Option Tmp}{ty:TypeId}{ps:String}{af:Array Edge}(op:Op)(gd:Option (Nat×Bool))(h:Sq P N w0 l Q (⟨d,op,ty,ps,af,gd⟩::rest) env L):Sq P N w0 l Q (⟨d,op,ty,ps,af,gd⟩::rest) env L:=h
theorem tQ{P:Program}{N:cA}{w0:World}{l:List Oper}{fs:List Nat}{F:Act->Prop}{k:Nat}{rest:List Oper}{env:Env}{L:List ai}{d:Option Tmp}{ty:TypeId}{ps:String}{af:Array Edge}(op:Op)(gd:Option (Nat×Bool))(h:Qt P N w0 l fs F k (⟨d,op,ty,ps,af,gd⟩::rest) env L):Qt P N w0 l fs F k (⟨d,op,ty,ps,af,gd⟩::rest) env L:=h
structure Wr(p:Prop):Prop where
 h:p
theorem Gs{G G':Prop}(k:G')(h:Wr G'->G:=by
 intro k
 first
 |(with_reducible refine tS (.move _) none ?_);exact ag (bm rfl) k.h
 |(with_reducible refine tS (.assign _) none ?_);exact ag (hO rfl) k.h
 |(with_reducible refine tS (.fieldAddr _ _ _) none ?_);exact ag (Ry.n rfl) k.h
 |(with_reducible refine tS (.load _ _) none ?_);exact ag (bE rfl) k.h
 |(with_reducible refine tS (.load _ _) none ?_);exact ag (jU rfl) k.h
 |(with_reducible refine tS (.binOp .add _ _ _ _) none ?_);exact ag (wT rfl rfl (by omega)) k.h
 |(with_reducible refine tS (.binOp .sub _ _ _ _) none ?_);exact ag (Ag rfl rfl (by omega)) k.h
 |(with_reducible refine tS (.pick _ _ _) none ?_);exact ag (Aa rfl rfl rfl) k.h
 |(with_reducible refine tS (.pick _ _ _) none ?_);exact ag (z8 rfl rfl rfl) k.h
 |(with_reducible refine tS (.unOp _ _ _) none ?_);exact ag (nJ rfl) k.h
 |(with_reducible refine tS (.binOp _ _ _ _ _) none ?_);exact ag (eR rfl rfl rfl) k.h
 |(with_reducible refine tS (.nilCheck _) none ?_);exact ag (gE rfl) k.h
 |(with_reducible refine tS (.call _) none ?_);exact ag (uq rfl) k.h
 |(with_reducible refine tS (.store _ _ _) none ?_);exact YL rfl rfl k.h
 |(with_reducible refine tS (.call _) none ?_);exact cO (bK rfl trivial) k.h):G:=h ⟨k⟩
theorem Gq{G G':Prop}(k:G')(h:Wr G'->G:=by
 intro k
 first
 |(with_reducible refine tQ (.move _) none ?_);exact bX (bm rfl) k.h
 |(with_reducible refine tQ (.assign _) none ?_);exact bX (hO rfl) k.h
 |(with_reducible refine tQ (.fieldAddr _ _ _) none ?_);exact bX (Ry.n rfl) k.h
 |(with_reducible refine tQ (.load _ _) none ?_);exact bX (bE rfl) k.h
 |(with_reducible refine tQ (.load _ _) none ?_);exact bX (jU rfl) k.h
 |(with_reducible refine tQ (.binOp .add _ _ _ _) none ?_);exact bX (wT rfl rfl (by omega)) k.h
 |(with_reducible refine tQ (.binOp .sub _ _ _ _) none ?_);exact bX (Ag rfl rfl (by omega)) k.h
 |(with_reducible refine tQ (.pick _ _ _) none ?_);exact bX (Aa rfl rfl rfl) k.h
 |(with_reducible refine tQ (.pick _ _ _) none ?_);exact bX (z8 rfl rfl rfl) k.h
 |(with_reducible refine tQ (.unOp _ _ _) none ?_);exact bX (nJ rfl) k.h
 |(with_reducible refine tQ (.binOp _ _ _ _ _) none ?_);exact bX (eR rfl rfl rfl) k.h
 |(with_reducible refine tQ (.nilCheck _) none ?_);exact bX (gE rfl) k.h
 |(with_reducible refine tQ (.call _) none ?_);exact bX (uq rfl) k.h):G:=h ⟨k⟩
theorem Gg{G G':Prop}(k:G')(h:Wr G'->G:=by
 intro k
 first
 |(with_reducible refine tS (.move _) (some (_,false)) ?_);exact bU rfl rfl rfl (fun hg=>Ry.yl (bm rfl)) k.h
 |(with_reducible refine tS (.fieldAddr _ _ _) (some (_,false)) ?_);exact bU rfl rfl rfl (fun hg=>Ry.yl (Ry.n rfl)) k.h
 |(with_reducible refine tS (.load _ _) (some (_,false)) ?_);exact bU rfl rfl rfl (fun hg=>Ry.yl (bE (aG hg rfl))) k.h
 |(with_reducible refine tS (.binOp _ _ _ _ _) (some (_,false)) ?_);exact bU rfl rfl rfl (fun hg=>Ry.yl (eR (aG hg rfl) rfl rfl)) k.h
 |(with_reducible refine tS (.binOp _ _ _ _ _) (some (_,false)) ?_);exact bU rfl rfl rfl (fun hg=>Ry.yl (eR (aG hg rfl) (aG hg rfl) rfl)) k.h
 |(with_reducible refine tS (.call _) (some (_,false)) ?_);exact bU rfl rfl rfl (fun hg=>Ry.yl (uq (aG hg rfl))) k.h
 |(with_reducible refine tS (.move _) (some (_,true)) ?_);exact jo rfl rfl rfl (fun hg=>Ry.yl (bm rfl)) k.h
 |(with_reducible refine tS (.fieldAddr _ _ _) (some (_,true)) ?_);exact jo rfl rfl rfl (fun hg=>Ry.yl (Ry.n rfl)) k.h
 |(with_reducible refine tS (.load _ _) (some (_,true)) ?_);exact jo rfl rfl rfl (fun hg=>Ry.yl (bE (aG hg rfl))) k.h
 |(with_reducible refine tS (.binOp _ _ _ _ _) (some (_,true)) ?_);exact jo rfl rfl rfl (fun hg=>Ry.yl (eR (aG hg rfl) rfl rfl)) k.h
 |(with_reducible refine tS (.binOp _ _ _ _ _) (some (_,true)) ?_);exact jo rfl rfl rfl (fun hg=>Ry.yl (eR (aG hg rfl) (aG hg rfl) rfl)) k.h
 |(with_reducible refine tS (.call _) (some (_,true)) ?_);exact jo rfl rfl rfl (fun hg=>Ry.yl (uq (aG hg rfl))) k.h):G:=h ⟨k⟩
theorem Gh{G G':Prop}(k:G')(h:Wr G'->G:=by
 intro k
 first
 |(with_reducible refine tQ (.move _) (some (_,false)) ?_);exact jH rfl rfl rfl (fun hg=>Ry.yl (bm rfl)) k.h
 |(with_reducible refine tQ (.fieldAddr _ _ _) (some (_,false)) ?_);exact jH rfl rfl rfl (fun hg=>Ry.yl (Ry.n rfl)) k.h
 |(with_reducible refine tQ (.load _ _) (some (_,false)) ?_);exact jH rfl rfl rfl (fun hg=>Ry.yl (bE (aG hg rfl))) k.h
 |(with_reducible refine tQ (.binOp _ _ _ _ _) (some (_,false)) ?_);exact jH rfl rfl rfl (fun hg=>Ry.yl (eR (aG hg rfl) rfl rfl)) k.h
 |(with_reducible refine tQ (.binOp _ _ _ _ _) (some (_,false)) ?_);exact jH rfl rfl rfl (fun hg=>Ry.yl (eR (aG hg rfl) (aG hg rfl) rfl)) k.h
 |(with_reducible refine tQ (.call _) (some (_,false)) ?_);exact jH rfl rfl rfl (fun hg=>Ry.yl (uq (aG hg rfl))) k.h
 |(with_reducible refine tQ (.move _) (some (_,true)) ?_);exact gC rfl rfl rfl (fun hg=>Ry.yl (bm rfl)) k.h
 |(with_reducible refine tQ (.fieldAddr _ _ _) (some (_,true)) ?_);exact gC rfl rfl rfl (fun hg=>Ry.yl (Ry.n rfl)) k.h
 |(with_reducible refine tQ (.load _ _) (some (_,true)) ?_);exact gC rfl rfl rfl (fun hg=>Ry.yl (bE (aG hg rfl))) k.h
 |(with_reducible refine tQ (.binOp _ _ _ _ _) (some (_,true)) ?_);exact gC rfl rfl rfl (fun hg=>Ry.yl (eR (aG hg rfl) rfl rfl)) k.h
 |(with_reducible refine tQ (.binOp _ _ _ _ _) (some (_,true)) ?_);exact gC rfl rfl rfl (fun hg=>Ry.yl (eR (aG hg rfl) (aG hg rfl) rfl)) k.h
 |(with_reducible refine tQ (.call _) (some (_,true)) ?_);exact gC rfl rfl rfl (fun hg=>Ry.yl (uq (aG hg rfl))) k.h):G:=h ⟨k⟩
theorem tR{P:Program}{N:cA}{w0:World}{Q:Exit->Act->World->Prop}{env:Env}{L:List ai}{id:Nat}{l:Array Oper}(h:Cw P N w0 Q (.region id l false) env L):Cw P N w0 Q (.region id l false) env L:=h
theorem Gc{G G':Prop}(k:G')(h:Wr G'->G:=by
 intro k
 repeat (first
  |(with_reducible refine Fc ?_)
  |(with_reducible refine Fg ?_)
  |(with_reducible refine Fa ?_)
  |(with_reducible refine O3 ?_)
  |(with_reducible refine Ju ?_)
  |(with_reducible refine O6 ?_)
  |(with_reducible refine O5 ?_)
  |(with_reducible refine O2 ?_)
  |(with_reducible refine O9 ?_)
  |(with_reducible refine O8 ?_)
  |(with_reducible refine O7 ?_)
  |(with_reducible refine O4 ?_)
  |(with_reducible refine QD ?_)
  |(with_reducible refine OX ?_)
  |(with_reducible refine tR ?_);refine Fe ?_)
 exact k.h):G:=h ⟨k⟩
theorem Gi{G G':Prop}(k:G')(h:Wr G'->G:=by
 intro k
 first
  |(with_reducible refine Fc ?_)
  |(with_reducible refine Fg ?_)
  |(with_reducible refine Fa ?_)
  |(with_reducible refine O3 ?_)
  |(with_reducible refine Ju ?_)
  |(with_reducible refine O6 ?_)
  |(with_reducible refine O5 ?_)
  |(with_reducible refine O2 ?_)
  |(with_reducible refine O9 ?_)
  |(with_reducible refine O8 ?_)
  |(with_reducible refine O7 ?_)
  |(with_reducible refine O4 ?_)
  |(with_reducible refine QD ?_)
  |(with_reducible refine OX ?_)
  |(with_reducible refine tR ?_);refine Fe ?_
 exact k.h):G:=h ⟨k⟩
theorem bz{p q:Prop}(h:p)(e:p=q:=by(try simp only[Z0,Z1,Z2,Z3,Z4,Z5,Z6,Z7,Z8,Z9]);exact rfl):q:=e▸h
theorem tSn{P:Program}{N:cA}{w0:World}{l:List Oper}{Q:Exit->Act->World->Prop}{rest:List Oper}{env:Env}{L:List ai}{d:Option Tmp}{ty:TypeId}{ps:String}{af:Array Edge}{op:Op}(h:Sq P N w0 l Q (⟨d,op,ty,ps,af,none⟩::rest) env L):Sq P N w0 l Q (⟨d,op,ty,ps,af,none⟩::rest) env L:=h
theorem tSg{P:Program}{N:cA}{w0:World}{l:List Oper}{Q:Exit->Act->World->Prop}{rest:List Oper}{env:Env}{L:List ai}{d:Option Tmp}{ty:TypeId}{ps:String}{af:Array Edge}{op:Op}{g:Nat×Bool}(h:Sq P N w0 l Q (⟨d,op,ty,ps,af,some g⟩::rest) env L):Sq P N w0 l Q (⟨d,op,ty,ps,af,some g⟩::rest) env L:=h
theorem tQn{P:Program}{N:cA}{w0:World}{l:List Oper}{fs:List Nat}{F:Act->Prop}{k:Nat}{rest:List Oper}{env:Env}{L:List ai}{d:Option Tmp}{ty:TypeId}{ps:String}{af:Array Edge}{op:Op}(h:Qt P N w0 l fs F k (⟨d,op,ty,ps,af,none⟩::rest) env L):Qt P N w0 l fs F k (⟨d,op,ty,ps,af,none⟩::rest) env L:=h
theorem tQg{P:Program}{N:cA}{w0:World}{l:List Oper}{fs:List Nat}{F:Act->Prop}{k:Nat}{rest:List Oper}{env:Env}{L:List ai}{d:Option Tmp}{ty:TypeId}{ps:String}{af:Array Edge}{op:Op}{g:Nat×Bool}(h:Qt P N w0 l fs F k (⟨d,op,ty,ps,af,some g⟩::rest) env L):Qt P N w0 l fs F k (⟨d,op,ty,ps,af,some g⟩::rest) env L:=h
theorem Gz{G G':Prop}(k:G')(h:Wr G'->G:=by
 intro k
 first
 |(with_reducible refine tSn ?_);refine Gs ?_;exact k.h
 |(with_reducible refine tSg ?_);refine Gg ?_;exact k.h
 |(with_reducible refine tQn ?_);refine Gq ?_;exact k.h
 |(with_reducible refine tQg ?_);refine Gh ?_;exact k.h
 |refine Gc ?_;exact k.h):G:=h ⟨k⟩
theorem au{G G':Prop}(k:G')(h:Wr G'->G:=by intro k;(iterate 2 (refine Gz ?_));exact k.h):G:=h ⟨k⟩
theorem al{G G':Prop}(k:G')(h:Wr G'->G:=by intro k;(iterate 3 (refine Gz ?_));exact k.h):G:=h ⟨k⟩
theorem ar{G G':Prop}(k:G')(h:Wr G'->G:=by intro k;(iterate 4 (refine Gz ?_));exact k.h):G:=h ⟨k⟩
theorem aP{G G':Prop}(k:G')(h:Wr G'->G:=by intro k;(iterate 5 (refine Gz ?_));exact k.h):G:=h ⟨k⟩
theorem aY{G G':Prop}(k:G')(h:Wr G'->G:=by intro k;(iterate 6 (refine Gz ?_));exact k.h):G:=h ⟨k⟩
theorem cX{G G':Prop}(k:G')(h:Wr G'->G:=by intro k;(iterate 7 (refine Gz ?_));exact k.h):G:=h ⟨k⟩
theorem fS{G G':Prop}(k:G')(h:Wr G'->G:=by intro k;(iterate 8 (refine Gz ?_));exact k.h):G:=h ⟨k⟩
theorem iS{G G':Prop}(k:G')(h:Wr G'->G:=by intro k;(iterate 9 (refine Gz ?_));exact k.h):G:=h ⟨k⟩
theorem rZ{G G':Prop}(k:G')(h:Wr G'->G:=by intro k;(iterate 10 (refine Gz ?_));exact k.h):G:=h ⟨k⟩
theorem rh{G G':Prop}(k:G')(h:Wr G'->G:=by intro k;(iterate 11 (refine Gz ?_));exact k.h):G:=h ⟨k⟩
theorem CX{G G':Prop}(k:G')(h:Wr G'->G:=by intro k;(iterate 12 (refine Gz ?_));exact k.h):G:=h ⟨k⟩
theorem Kr{G G':Prop}(k:G')(h:Wr G'->G:=by intro k;(iterate 13 (refine Gz ?_));exact k.h):G:=h ⟨k⟩
theorem aaM{G G':Prop}(k:G')(h:Wr G'->G:=by intro k;(iterate 14 (refine Gz ?_));exact k.h):G:=h ⟨k⟩
theorem QH{G G':Prop}(k:G')(h:Wr G'->G:=by intro k;(iterate 15 (refine Gz ?_));exact k.h):G:=h ⟨k⟩
theorem Ks{G G':Prop}(k:G')(h:Wr G'->G:=by intro k;(iterate 16 (refine Gz ?_));exact k.h):G:=h ⟨k⟩
theorem QI{G G':Prop}(k:G')(h:Wr G'->G:=by intro k;(iterate 17 (refine Gz ?_));exact k.h):G:=h ⟨k⟩
theorem QJ{G G':Prop}(k:G')(h:Wr G'->G:=by intro k;(iterate 18 (refine Gz ?_));exact k.h):G:=h ⟨k⟩
theorem aaN{G G':Prop}(k:G')(h:Wr G'->G:=by intro k;(iterate 20 (refine Gz ?_));exact k.h):G:=h ⟨k⟩
theorem aaO{G G':Prop}(k:G')(h:Wr G'->G:=by intro k;(iterate 21 (refine Gz ?_));exact k.h):G:=h ⟨k⟩
theorem aaP{G G':Prop}(k:G')(h:Wr G'->G:=by intro k;(iterate 22 (refine Gz ?_));exact k.h):G:=h ⟨k⟩
theorem aaQ{G G':Prop}(k:G')(h:Wr G'->G:=by intro k;(iterate 24 (refine Gz ?_));exact k.h):G:=h ⟨k⟩
theorem aaR{G G':Prop}(k:G')(h:Wr G'->G:=by intro k;(iterate 27 (refine Gz ?_));exact k.h):G:=h ⟨k⟩
theorem aaS{G G':Prop}(k:G')(h:Wr G'->G:=by intro k;(iterate 28 (refine Gz ?_));exact k.h):G:=h ⟨k⟩
theorem QK{G G':Prop}(k:G')(h:Wr G'->G:=by intro k;(iterate 29 (refine Gz ?_));exact k.h):G:=h ⟨k⟩
theorem QL{G G':Prop}(k:G')(h:Wr G'->G:=by intro k;(iterate 31 (refine Gz ?_));exact k.h):G:=h ⟨k⟩
theorem gF{G G':Prop}(k:G')(h:Wr G'->G:=by intro k;(iterate 2 (refine Gi ?_));exact k.h):G:=h ⟨k⟩
theorem j6{G G':Prop}(k:G')(h:Wr G'->G:=by intro k;(iterate 3 (refine Gi ?_));exact k.h):G:=h ⟨k⟩
theorem Kt{G G':Prop}(k:G')(h:Wr G'->G:=by intro k;(iterate 4 (refine Gi ?_));exact k.h):G:=h ⟨k⟩
theorem Ku{G G':Prop}(k:G')(h:Wr G'->G:=by intro k;(iterate 5 (refine Gi ?_));exact k.h):G:=h ⟨k⟩
theorem l6{G G':Prop}(k:G')(h:Wr G'->G:=by intro k;(iterate 6 (refine Gi ?_));exact k.h):G:=h ⟨k⟩
theorem Gy7{G G':Prop}(k:G')(h:Wr G'->G:=by intro k;(iterate 7 (refine Gi ?_));exact k.h):G:=h ⟨k⟩
theorem Gb{G p q A B:Prop}(a:p->A)(b:q->B)(h:Wr (p->A)->Wr (q->B)->G:=by
 intro a b;refine lU rfl (fun h=>?_) (fun h=>?_)
 ·exact a.h (bz h)
 exact b.h (bz h)):G:=h ⟨a⟩ ⟨b⟩
theorem Gr{P:Program}{fn:Func}{w0:World}{L:List ai}{env:Env}{R:Ending->World->Prop}{n:Nat}{e:Exit}{v:Value}(h: ∀w,Mem w0 L w->R (.returned v) w)(he:e= .ret\/e= .normal:=by exact .inl rfl)(hr: ∀a w,dC ⟨n,[],none⟩ env a->Mem w0 L w->(results fn a.tmps).run P w= .ok v w:=by
 first
 |exact Ph rfl (Ao rfl)
 |exact Y8 rfl (by first|exact Ao rfl|exact Ap rfl) (by first|exact Ao rfl|exact Ap rfl)
 |exact Y9 rfl (by first|exact Ao rfl|exact Ap rfl) (by first|exact Ao rfl|exact Ap rfl) (by first|exact Ao rfl|exact Ap rfl)
 |exact Ph rfl (Ap rfl)):Ex ⟨n,[],none⟩ w0 (sN P fn R) e env L:=eE he hr h
theorem Ge{a b:Bool}{w0 w1:World}{L M:List ai}[hk:ah L M](h:a=b)(hw:Mem w0 L w1):Ending.returned (.bool a)= .returned (.bool b)/\Mem w0 M w1:=⟨by rw[h],ah.mem hw⟩
theorem Gf{a b:Int}{k:IntKind}{w0 w1:World}{L M:List ai}[hk:ah L M](h:a=b)(hw:Mem w0 L w1):Ending.returned (.int k a)= .returned (.int k b)/\Mem w0 M w1:=⟨by rw[h],ah.mem hw⟩
theorem Gk{P:Program}{f:FuncId}{a:Array Value}{w0 w:World}{L:List ai}{X:Type}{val:X->Value}{pr:X->Prop}(E:X->List ai)(hw:Mem w0 L w)(h:Calls P f a w fun e w'=> ∃x,e= .returned (val x)/\pr x/\Mem w (E x) w'):Calls P f a w fun e w'=> ∃x,e= .returned (val x)/\pr x/\Mem w0 (E x++L) w':=h.mono fun e w' ⟨x,h1,h2,h3⟩=>⟨x,h1,h2,hw.call h3⟩
theorem sb{e e':Env}(h:Sub e e':=by repeat (first|exact Sub.nil _|refine Sub.cons rfl ?_)):Sub e e':=h
theorem oM{p:Prop}(h:p:=by omega):p:=h
theorem dDq{p:Prop}(h:p:=by decide):p:=h
theorem kRq{α:Sort _}{a b:α}(h:a=b:=by kernel_rfl):a=b:=h
theorem oF{p:Prop}(h:p:=by first|omega|(simp only[];omega)):p:=h
theorem oK{p:Prop}(h:p:=by kernel_rfl):p:=h
theorem Gl0{P:Program}{fn:Func}{R:Ending->World->Prop}{N:Nat}{f:FuncId}{c:Code}{w:World}(hf:P.funcs[f]? =some fn)(hb:fn.body=some c)(hN:fn.ntmps=N)(hle:Nat.ble 0 N=true)(h:Cw P ⟨N,[],none⟩ w (sN P fn R) c [] []):Calls P f #[] w R:=Al (args:=[]) hf hb hN hle h
theorem cx{P:Program}{fn:Func}{R:Ending->World->Prop}{N:Nat}{f:FuncId}{c:Code}{w:World}{v0:Value}(hf:P.funcs[f]? =some fn)(hb:fn.body=some c)(hN:fn.ntmps=N)(hle:Nat.ble 1 N=true)(h:Cw P ⟨N,[],none⟩ w (sN P fn R) c [(0,v0)] []):Calls P f #[v0] w R:=Al (args:=[v0]) hf hb hN hle h
theorem dD{P:Program}{fn:Func}{R:Ending->World->Prop}{N:Nat}{f:FuncId}{c:Code}{w:World}{v0 v1:Value}(hf:P.funcs[f]? =some fn)(hb:fn.body=some c)(hN:fn.ntmps=N)(hle:Nat.ble 2 N=true)(h:Cw P ⟨N,[],none⟩ w (sN P fn R) c [(0,v0),(1,v1)] []):Calls P f #[v0,v1] w R:=Al (args:=[v0,v1]) hf hb hN hle h
theorem th{P:Program}{fn:Func}{R:Ending->World->Prop}{N:Nat}{f:FuncId}{c:Code}{w:World}{v0 v1 v2:Value}(hf:P.funcs[f]? =some fn)(hb:fn.body=some c)(hN:fn.ntmps=N)(hle:Nat.ble 3 N=true)(h:Cw P ⟨N,[],none⟩ w (sN P fn R) c [(0,v0),(1,v1),(2,v2)] []):Calls P f #[v0,v1,v2] w R:=Al (args:=[v0,v1,v2]) hf hb hN hle h
theorem QM{P:Program}{fn:Func}{R:Ending->World->Prop}{N:Nat}{f:FuncId}{c:Code}{w:World}{v0 v1 v2 v3:Value}(hf:P.funcs[f]? =some fn)(hb:fn.body=some c)(hN:fn.ntmps=N)(hle:Nat.ble 4 N=true)(h:Cw P ⟨N,[],none⟩ w (sN P fn R) c [(0,v0),(1,v1),(2,v2),(3,v3)] []):Calls P f #[v0,v1,v2,v3] w R:=Al (args:=[v0,v1,v2,v3]) hf hb hN hle h
end Go.ax
namespace Go.Kb
structure ti where
 len:Int
 dN:UInt16
 deriving DecidableEq
def ti.no:ti:=⟨0,0⟩
structure Nd where
 QN:List ti
 QO:List Int
 hs:QN.length=16
 hn:QO.length=16
 deriving DecidableEq
def Nd.sl(n:Nd)(b:Nat):ti:=n.QN.getD b ti.no
def Nd.nx(n:Nd)(b:Nat):Int:=n.QO.getD b 0
def Nd.mk'(f:Nat->ti)(g:Nat->Int):Nd:=⟨(List.range 16).map f,(List.range 16).map g,by simp,by simp⟩
def Nd.zero:Nd:=Nd.mk' (fun _=>ti.no) (fun _=>0)
theorem Nd.ext'{m n:Nd}(h1: ∀b,b<16->m.sl b=n.sl b)(h2: ∀b,b<16->m.nx b=n.nx b):m=n:=by
 obtain⟨a,b,ha,hb⟩:=m;obtain⟨c,d,hc,hd⟩:=n;have e1:a=c:=au6 fun i=>by
  rcases aud i 16 with hi|hi
  ·have:=h1 i hi;simp only[Nd.sl,awy]at this;rw[at2 (by omega),at2 (by omega)]at this⊢;simpa using this
  rw[aub (by omega),aub (by omega)]
 have e2:b=d:=au6 fun i=>by
  rcases aud i 16 with hi|hi
  ·have:=h2 i hi;simp only[Nd.nx,awy]at this;rw[at2 (by omega),at2 (by omega)]at this⊢;simpa using this
  rw[aub (by omega),aub (by omega)]
 subst e1;subst e2;rfl
def QP(k:Key)(n b:Nat):Key:=if n%2=0 then CK k (n/2) (16*b%256)else CK k (n/2) ((bl k (n/2)+b)%256)
def aaT(p:cK):Nat:=((p.len -1)/4).toNat
structure Wy where
 steps:Nat
 key:Key
 deriving DecidableEq
def aaU(k:Key)(s:Nat):Wy:=⟨s,eF k ((4*s:Nat):Int)⟩
def root:Wy:=⟨0,0#128⟩
def child(w:Wy)(b:Nat):Wy:=⟨w.steps+1,QP w.key w.steps b⟩
def hit(r:Rt)(bits:Int)(w:Wy)(b:Nat):Bool:=decide (r.p.bits=bits)&&decide (aaT r.p=w.steps)&&ZG r.p (QP w.key w.steps b)
def aaV(bits:Int)(w:Wy)(b:Nat)(s:ti)(r:Rt):ti:=if hit r bits w b=true/\s.len<=r.p.len then⟨r.p.len+1,r.dN⟩else s
def aaW(bits:Int)(R:List Rt)(w:Wy)(b:Nat):ti:=R.foldl (aaV bits w b) ti.no
def aaX(W:List Wy)(w:Wy)(b:Nat):Int:=if child w b∈W then(W.idxOf (child w b):Nat)else 0
def aaY(bits:Int)(W:List Wy)(R:List Rt)(w:Wy):Nd:=Nd.mk' (aaW bits R w) (aaX W w)
def kst(k:Key)(n:Nat):Nat:=(ZF k n).toNat
section
variable {k:Key} {n b:Nat}
end
def Wy.ok(w:Wy):Prop:=w.steps<32/\eF w.key ((4*w.steps:Nat):Int)=w.key
def nodes(bits:Int)(W:List Wy)(R:List Rt):List Nd:=W.map (aaY bits W R)
section
variable {bits:Int} {W:List Wy} {R:List Rt} {w:Wy} {node b:Nat}
end
section
variable {bits:Int} {W:List Wy} {R:List Rt} {r:Rt} {f:Nat}
end
theorem AI{t:List Rt}(h:cS t=true){r:Rt}(hr:r∈t):bu r.p=true:=by
 obtain⟨i,hi⟩:=avv.1 hr;have bq:=(zz.1 hi).1
 cases hm:bu r.p with
 |true=>rfl
 |false=>rw[FH bq (PS hi hm)]at h;cases h
theorem CY{t:List Rt}(h:cS t=true):t.length<=256:=by
 rcases aud 256 t.length with h1|h1
 ·rw[PQ h1]at h;cases h
 exact h1
open Go.ax
def ck(x:Int):Array Value:= #[.int .i64 x]
instance:bp ck 1:=⟨fun _=>rfl,fun _=>by simp[ck,Value.oneCell']⟩
instance (x:Int):bO (ck x) 0 (.int .i64 x):=⟨rfl⟩
instance:Deep Int:=Deep.flat ck 1
instance:gL Int ck 1:=⟨rfl,fun _=>rfl⟩
instance:Plain Int:=⟨fun _=>rfl⟩
end Go.Kb
namespace Go.ax
open Go.Kb
section
variable {P:Program} {N:cA} {w0:World} {env:Env} {L:List ai} {d:Option Tmp} {ty:TypeId} {ps:String} {af:Array Edge} {gd:Option (Nat×Bool)}
theorem gE{x:Operand}{a:Addr}(hx:ev env x=some (.pointer (some a))):Ry P N w0 env L ⟨d, .nilCheck x,ty,ps,af,gd⟩ (.pointer (some a)):=fun _ w ha _=>by
 simp only[execOp,ha.ev hx,Sem.run_pure]
variable {s:Sv} {xs:List Nd} {a:Nd}
end
section
variable {P:Program} {N:cA} {w0:World} {env:Env} {L:List ai} {l:List Oper} {Q:Exit->Act->World->Prop} {rest:List Oper} {ty:TypeId} {ps:String} {af:Array Edge}
variable {s:Sv} {xs:List Nd} {a:Nd}
end
open Go.RowKit
theorem F8{w0 w:World}{L R:List ai}{e:ai}{i:Nat}(q:L[i]? =some e)(d:L.eraseIdx i=R)(h:Mem w0 L w):Mem w0 (e::R) w:=by
 have:=h.perm (py q);rwa [d]at this
theorem pB{w0 w:World}{L R1 R2:List ai}{e1 e2:ai}{i j:Nat}(h1:L[i]? =some e1)(d1:L.eraseIdx i=R1)(h2:R1[j]? =some e2)(d2:R1.eraseIdx j=R2)(h:Mem w0 L w):Mem w0 (e1::e2::R2) w:=by
 subst d1;subst d2;exact h.perm ((py h1).trans ((py h2).cons _))
instance (priority:=low) ah.drop {L L':List ai}{e:ai}[k:ah L L']:ah (e::L) L':=⟨by
 obtain⟨R,hR⟩:=k.h;exact⟨e::R,(hR.cons e).trans av6.symm⟩⟩
section
variable {P:Program} {N:cA} {w0:World} {env:Env} {L:List ai} {Q:Exit->Act->World->Prop} {d:Option Tmp} {ty:TypeId} {ps:String} {af:Array Edge} {gd:Option (Nat×Bool)} {K:Value->List ai->Prop}
theorem Ry.to{o:Oper}{v v':Value}(h:Ry P N w0 env L o v)(e:v=v'):Ry P N w0 env L o v':=e▸h
theorem F9{f:FuncId}{x:Operand}{l8:Array Value}{xs:List Operand}{ts:Array TypeId}{vs:List Value}{v:Value}[hf:aH P f](hx:ev env x=some (.func (.func f) #[] l8))(CZ:iF env xs=some vs)
  (hc: ∀w,Mem w0 L w->Calls P f (vs++l8.toList).toArray w fun e w'=>e= .returned v/\Mem w [] w'):
  Yl P N w0 env L ⟨d, .call {callee:= .value x,args:=xs.toArray,argTypes:=ts},ty,ps,af,gd⟩ v:=fun a ha w hw=>by
 unfold Oper.quietAt;obtain⟨fn,h1,h2,h3⟩:=hf.fn;have Ji: ¬fn.body=none:=fun e=>by simp[e]at h2
 have Ad: ¬fn.name= "runtime.NumGoroutine" :=by simpa using h3
 have e:(execOp a.eval ⟨d, .call {callee:= .value x,args:=xs.toArray,argTypes:=ts},ty,ps,af,gd⟩).run P w= .ok (.enter f (vs++l8.toList).toArray) w:=by
  have hm:=ha.iF CZ;simp[execOp,resolve,ha.ev hx,Deferred.ofValue,invoke,callFunc,h1,Ji,Ad,Result.andThen,←hm]
 rw[e];exact⟨rfl,hc w hw⟩
theorem Kv{f:Fn}{xs:List Operand}{vs:List Value}(hx:iF env xs=some vs):Ry P N w0 env L ⟨d, .makeFunc f #[] xs.toArray,ty,ps,af,gd⟩ (.func f #[] vs.toArray):=fun a w ha _=>by
 have hm:=ha.iF hx;simp[execOp,Instr.makeFunc,Result.andThen,←hm]
instance (s:Sv):bO (um s) 0 s.val:=⟨rfl⟩
instance (s:Sv):bO s.val.cells 0 s.val:=⟨by rw[Sv.jW];rfl⟩
variable {s:Sv} {xs:List Nd} {a:Nd}
end
def dP(e:TypeId)(s:Sv)(xs:aJ):ai:=
 ⟨fun k=>s.nil=false/\k=s.b,fun h=>(own aQ 1 s xs).sat h/\(s.nil=false->s.o=0/\0<s.cap/\ ∃cs fz,h s.b=some (.cells cs e fz)),fun h h' e' st=>⟨(own aQ 1 s xs).loc h h' e' st.1,fun hn=>by rw[e' s.b ⟨hn,rfl⟩];exact st.2 hn⟩⟩
class mI(L:List ai)(s:Sv)(e:outParam TypeId)(xs:outParam aJ)(i:outParam Nat):Prop where
 h:L[i]? =some (dP e s xs)
instance (priority:=high) mI.here {L:List ai}{s:Sv}{e:TypeId}{xs:aJ}:mI (dP e s xs::L) s e xs 0:=⟨rfl⟩
instance mI.there{L:List ai}{s:Sv}{e:TypeId}{xs:aJ}{x:ai}{i:Nat}[q:mI L s e xs i]:mI (x::L) s e xs (i+1):=⟨by simpa using q.h⟩
variable {w0:World}{L:List ai}
instance mI.hd{s:Sv}{e:TypeId}{xs:aJ}{i:Nat}[q:mI L s e xs i]:Hd w0 L s aQ 1 xs:=⟨fun _ hw=>(hw.get q.h).1.1⟩
theorem Mem.aaZ{w0 w:World}{L:List ai}(e:TypeId)(h:Mem w0 L w):Mem w0 (dP e Sv.none []::L) w:=
 h.call (E:=[dP e Sv.none []]) ⟨Below.refl _ _,fun x hx=>by
  obtain rfl:=auK.1 hx;exact⟨⟨eZ.nil aQ 1 _,(fun h=>by cases h)⟩,fun h=>by cases h⟩,fun x hx k hk=>by
  obtain rfl:=auK.1 hx;exact absurd hk.1 (by simp[Sv.none]),by simp⟩
theorem QQ{α:Type}{L:List α}{i:Nat}{x y:α}(h:L[i]? =some x):(L.set i y)[i]? =some y:=by
 rw[au1,if_pos rfl,if_pos (zz.1 h).1]
theorem aa0{P:Program}{t tx ty e:TypeId}{bP:Nat}(ht:dS P t e 1 bP){w0 w:World}{L:List ai}{i:Nat}{s:Sv}{xs ys:aJ}{x:Value}
  (hw:Mem w0 L w) (hi:L[i]? =some (dP e s xs)) (hs:Src P 1 tx x ys.length (aL aQ ys) w) (hb:(xs.length+ys.length)*bP<=140737488355328) (fR:xs.length+ys.length<=140737488355328):
  ∃s' w',(Builtin.append_ #[t,tx] ty #[s.val,x]).run P w= .ok (Sv.val s') w'/\Mem w0 (L.set i (dP e s' (xs++ys))) w':=by
 have QR:=hw.get hi;have mz:Mem w0 (L.set i (own aQ 1 s xs)) w:=hw.change hi (fun k h=>h) (fun _ _=>rfl) rfl ⟨rfl,rfl,rfl⟩ QR.1;obtain⟨s',w',h1,h2,h3,h4,h5⟩:=JB (ty:=ty) ht dDq mz (QQ hi) hs hb fR;rw[awo]at h4;have di:=QQ (y:=own aQ 1 s' (xs++ys)) hi;have h6:=h4.change (e':=dP e s' (xs++ys)) di (fun k h=>h) (fun _ _=>rfl) rfl ⟨rfl,rfl,rfl⟩ ⟨h4.get di,fun hn=>by
  rcases h5 with⟨e1,e2,e3,e4,e5⟩|⟨e1,e2,e3,cs,e4⟩
  ·obtain⟨o0,c0,cs,fz,hb⟩:=QR.2 (by rw[←e1];exact hn);obtain⟨cs',h⟩:=e5 cs e fz hb;exact⟨e3.trans o0,by rw[e4];exact c0,cs',fz,by rw[e2];exact h⟩
  ·exact⟨e2,e3,cs,(0,0),e4⟩⟩
 rw[awo]at h6;exact⟨s',w',h1,h6⟩
section
variable {P:Program} {N:cA} {w0:World} {env:Env} {L:List ai} {l:List Oper} {Q:Exit->Act->World->Prop} {rest:List Oper} {d:Option Tmp} {ty:TypeId} {ps:String} {af:Array Edge} {gd:Option (Nat×Bool)} {s:Sv} {xs ys:aJ}
theorem QS{t tx e:TypeId}{x y:Operand}{yv:Value}{bP i:Nat}[ht:dS P t e 1 bP](hx:ev env x=some s.val)(hy:ev env y=some yv)[q:mI L s e xs i]
  (hs: ∀w,Mem w0 L w->Src P 1 tx yv ys.length (aL aQ ys) w) (hb:(xs.length+ys.length)*bP<=140737488355328) (fR:xs.length+ys.length<=140737488355328) {L':Sv->List ai} [hu: ∀s',fZ L i (dP e s' (xs++ys)) (L' s')]
  (hk: ∀s':Sv,Sq P N w0 l Q rest (cr env d s'.val) (L' s')) (hd:dq N d=true:=by rfl):
  Sq P N w0 l Q (⟨d, .call {callee:= .builtin .append,args:= #[x,y],argTypes:= #[t,tx]},ty,ps,af,none⟩::rest) env L:=
 nK rfl hd fun a w ha hw=>by
  obtain⟨s',w',h1,h4⟩:=aa0 (ty:=ty) ht hw q.h (hs w hw) hb fR;refine⟨s'.val,w',L' s',?_,by rw[←(hu s').h];exact h4,hk s'⟩;simp[execOp,ha.ev hx,ha.ev hy,resolve,invoke,builtin,h1,Result.andThen]
theorem aa1{tx:TypeId}(hk:P.underlying tx=some .string)(s:aJ)(w:World):Src P 1 tx (.string ⟨s.toArray⟩) s.length (aL aQ s) w:=by
 have h:=Src.ofString w hk ⟨s.toArray⟩;rw[sX]at h;have e:byteCells ⟨s.toArray⟩=aL aQ s:=by
  show(s.toArray.toList).map _=_;rw[List.toList_toArray]
  induction s with
  |nil=>rfl
  |cons a r ih=>rw[aum];exact congrArg (List.cons _) (ih (Src.ofString w hk ⟨r.toArray⟩|>fun q=>by rw[sX]at q;exact q))
 rw[←e];exact h
theorem aa2{src dst t:TypeId}{j:TypeInfo}{x:Operand}{b o i:Nat}{cs:Array Value}{T:TypeId}(hs:P.underlying src=some (.pointer t))(hd:P.underlying dst=some .unsafePointer)(ht:P.info? t=some j)(hj:j.size≠0)(hx:ev env x=some (.pointer (some ⟨b,o,none⟩)))[hh:Has L b cs T i](ho:o<cs.size):
  Ry P N w0 env L ⟨d, .convert src dst x,ty,ps,af,gd⟩ (.pointer (some ⟨b,o,none⟩)):=fun a w ha hw=>by
 have hb:=hw.block hh.h;have:=Lib.run_to_unsafe (P:=P) w (a:=⟨b,o,none⟩) (cells:=cs.size) (e:=T) hs hd ht hj (by simp[World.shape?,hb]) ho;simp only[execOp,ha.ev hx,this,Sem.run_bind,Result.andThen,Sem.run_pure]
theorem aa3{src dst u:TypeId}{j:TypeInfo}{x:Operand}{b o i:Nat}{cs:Array Value}{T:TypeId}(hs:P.underlying src=some .unsafePointer)(hd:P.underlying dst=some (.pointer u))(hu:P.info? u=some j)(hx:ev env x=some (.pointer (some ⟨b,o,none⟩)))[hh:Has L b cs T i](hl:liesAt P P.depth T (cs.size/P.cellsOf T) o u 1=true):
  Ry P N w0 env L ⟨d, .convert src dst x,ty,ps,af,gd⟩ (.pointer (some ⟨b,o,none⟩)):=fun a w ha hw=>by
 have hb:=hw.block hh.h;have:=Lib.run_from_unsafe (P:=P) w (a:=⟨b,o,none⟩) (cells:=cs.size) (e:=T) hs hd hu (by simp[World.shape?,hb]) hl;simp only[execOp,ha.ev hx,this,Sem.run_bind,Result.andThen,Sem.run_pure]
def xn(s:Sv):Value:=if s.nil=true then .pointer none else .pointer (some ⟨s.b,0,none⟩)
theorem aa4{t e:TypeId}{x:Operand}{i:Nat}(hx:ev env x=some s.val)[q:mI L s e xs i]:
  Ry P N w0 env L ⟨d, .call {callee:= .builtin .unsafeSliceData,args:= #[x],argTypes:= #[t]},ty,ps,af,gd⟩ (xn s):=fun a w ha hw=>by
 obtain⟨h1,h2⟩:=hw.get q.h;have hr:(Builtin.unsafeSliceData_ #[t] ty #[s.val]).run P w= .ok (xn s) w:=by
  cases hn:s.nil with
  |true=>rw[Sv.sQ hn,xn,if_pos hn];rfl
  |false=>
   obtain⟨o0,c0,_⟩:=h2 hn;rw[Sv.ik hn,xn,if_neg (by rw[hn];simp),(h1.2 hn).1,o0];exact Lib.run_unsafeSliceData_row w #[t] ty ⟨s.b,0,none⟩ s.len s.cap oM
 simp[execOp,ha.ev hx,resolve,invoke,builtin,hr,Result.andThen]
theorem aa5{K:Value->List ai->Prop}{pt it e:TypeId}{x y:Operand}{i:Nat}{n:Int}{R:List ai}(hp:P.underlying pt=some (.pointer e))(hc:P.cellsOf e=1)(hx:ev env x=some (xn s))(hy:ev env y=some (.int .i64 n))[q:mI L s e xs i](en:n=(xs.length:Int))[dl:ct L i R]
  (hk:K (.string ⟨xs.toArray⟩) R):
  aO P N w0 env L ⟨d, .call {callee:= .builtin .unsafeString,args:= #[x,y],argTypes:= #[pt,it]},ty,ps,af,none⟩ K:=
 rf fun a w ha hw=>by
  subst en;obtain⟨h1,h2⟩:=hw.get q.h;have hr: ∃w',(Builtin.unsafeString_ #[pt,it] ty #[xn s, .int .i64 (xs.length:Nat)]).run P w= .ok (.string ⟨xs.toArray⟩) w'/\Mem w0 R w':=by
   have aa6:Mem w0 R w:=by rw[←dl.h];exact hw.sub (List.eraseIdx_sublist L i)
   by_cases h0:xs=[]
   ·
    subst h0;refine⟨w,?_,aa6⟩;rw[xn];split
    ·exact Lib.run_unsafeString_none w pt it ty none
    ·exact Lib.run_unsafeString_none w pt it ty _
   ·
    have hlen:0<xs.length:=avx.2 h0;have hn:=h1.1.some hlen;obtain⟨o0,c0,cs,fz,hb⟩:=h2 hn;obtain⟨_,Fl,T2,Y0,ri,eQ,_⟩:=h1.2 hn;have hU:Fl=cs:=by have:=ri.symm.trans hb;cases this;rfl
    subst hU;have hl:=h1.1.len;have hle:=h1.1.ok.le;have kv:=h1.1.bd;rw[o0,auL,av9]at eQ;have mA:w.heap[s.b]? =some (.cells Fl e fz):=hb;have wY: ∀j x,xs[j]? =some x->w.cell? ((⟨s.b,0,none⟩:Addr).add j)=some (.int .u8 x.toNat):=fun j x hj=>by
     have:=h1.1.row j x hj 0 dDq;rw[o0,auL,av9,avk]at this;rw[Addr.hQ,rU,auL];exact this
    have hr:=Lib.run_unsafeString_row (P:=P) w pt it ty e hp hc s.b Fl.size (by simp[World.shape?,mA]) xs h0 oM oM wY;refine⟨_,by rw[xn,if_neg (by rw[hn];simp)];exact hr,?_⟩;have pn:=hw.change (w':=w.freeze ⟨s.b,0,none⟩ xs.length) (e':=⟨fun k=>s.nil=false/\k=s.b,fun _=>True,fun _ _ _ _=>trivial⟩) q.h (fun k h=>h) (fun k hk=>?_) ?_ ?_ trivial
    ·have h9:Mem w0 (List.eraseIdx (List.set L i _) i) (w.freeze ⟨s.b,0,none⟩ xs.length):=pn.sub (List.eraseIdx_sublist _ i);rw[List.eraseIdx_set_eq,dl.h]at h9;exact h9
    ·
     unfold World.freeze;split
     ·rfl
     ·simp only[Array.getElem?_modify];rw[if_neg (fun g=>hk ⟨hn,g.symm⟩)]
    ·
     unfold World.freeze;split
     ·rfl
     ·simp
    ·unfold World.freeze;split<;>exact⟨rfl,rfl,rfl⟩
  obtain⟨w',h3,h4⟩:=hr;refine⟨_,w',R,?_,h4,hk⟩;simp[execOp,ha.ev hx,ha.ev hy,resolve,invoke,builtin,h3,Result.andThen]
def C0:Option (TypeId×Value)->Value
 |none=> .nilIface
 |some (t,v)=> .iface t v
theorem aa7{t u:TypeId}{x:Operand}{ms:Array (String×TypeId)}{o:Option (TypeId×Value)}(ht:P.underlying t=some (.interface ms))(hx:ev env x=some (C0 o)):
  Ry P N w0 env L ⟨d, .binOp .neq t x (.const .nilIface) u,ty,ps,af,gd⟩ (.bool o.isSome):=fun a w ha _=>by
 have h1:=ha.ev hx
 cases o with
 |none=>
  have h2:(binOp .neq t .nilIface .nilIface).run P w= .ok (.bool false) w:=by
   have h: ∀d:Nat,(Op.equalIn (d+1) t .nilIface .nilIface).run P w= .ok true w:=fun d=>by simp[Op.equalIn,run_underlying ht]
   simp only[binOp];simp[Op.equal,Op.maxDepth,h 9999]
  have h3:(eqGuard .neq t x (.const .nilIface) .nilIface .nilIface).run P w= .ok () w:=by cases x<;>rfl
  rw[C0]at h1;have hy:a.eval (.const .nilIface)= .nilIface:=rfl;simp only[execOp,h1,hy,Sem.run_bind,h3,Result.andThen,h2,Sem.run_pure,Option.isSome_none]
 |some q=>
  obtain⟨tq,vq⟩:=q;have h2:(binOp .neq t (.iface tq vq) .nilIface).run P w= .ok (.bool true) w:=by
   have h: ∀d:Nat,(Op.equalIn (d+1) t (.iface tq vq) .nilIface).run P w= .ok false w:=fun d=>by simp[Op.equalIn,run_underlying ht]
   simp only[binOp];simp[Op.equal,Op.maxDepth,h 9999]
  have h3:(eqGuard .neq t x (.const .nilIface) (.iface tq vq) .nilIface).run P w= .ok () w:=rfl;rw[C0]at h1;have hy:a.eval (.const .nilIface)= .nilIface:=rfl;simp only[execOp,h1,hy,Sem.run_bind,h3,Result.andThen,h2,Sem.run_pure,Option.isSome_some]
theorem aa8{t u e:TypeId}{x y:Operand}{o:Option Addr}(ht:P.underlying t=some (.pointer e))(hx:ev env x=some (.pointer o))(hy:ev env y=some (.pointer none)):
  Ry P N w0 env L ⟨d, .binOp .eql t x y u,ty,ps,af,gd⟩ (.bool o.isNone):=fun a w ha _=>by
 have h2:(binOp .eql t (.pointer o) (.pointer none)).run P w= .ok (.bool o.isNone) w:=by
  have h: ∀d:Nat,(Op.equalIn (d+1) t (.pointer o) (.pointer none)).run P w= .ok o.isNone w:=fun d=>by cases o<;>simp[Op.equalIn,run_underlying ht]
  simp only[binOp];simp[Op.equal,Op.maxDepth,h 9999]
 have h3:(eqGuard .eql t x y (.pointer o) (.pointer none)).run P w= .ok () w:=rfl;simp only[execOp,ha.ev hx,ha.ev hy,Sem.run_bind,h3,Result.andThen,h2,Sem.run_pure]
theorem aa9{t u e:TypeId}{x y:Operand}{j:TypeInfo}{p:Addr}(ht:P.underlying t=some (.pointer e))(hj:P.info? e=some j)(hx:ev env x=some (.pointer (some p)))(hy:ev env y=some (.pointer (some p))):
  Ry P N w0 env L ⟨d, .binOp .neq t x y u,ty,ps,af,gd⟩ (.bool false):=fun a w ha _=>by
 have h2:=Lib.run_neq_ptr_same (P:=P) w p ht hj;have h3:(eqGuard .neq t x y (.pointer (some p)) (.pointer (some p))).run P w= .ok () w:=rfl;simp only[execOp,ha.ev hx,ha.ev hy,Sem.run_bind,h3,Result.andThen,h2,Sem.run_pure]
end
end Go.ax
namespace Go.Kb
open Go.ax
variable {k kk:Key} {i j n v:Nat} {s:aJ} {c:UInt8}
def vT(k:Key)(i v:Nat):Key:=oz fun j=>if j=i then v else bl k j
theorem Kw(k:Key)(i:Nat)(hv:v<256)(hj:j<16):bl (vT k i v) j=if j=i then v else bl k j:=by
 rw[vT,ux _ _ hj];have:=jJ k j;split<;>omega
theorem QT(k:Key)(i:Nat)(hi:i<16)(hv:v<256):(bR k).setIfInBounds i (.int .u8 ((v:Nat):Int))=bR (vT k i v):=by
 refine JP (by simp[eU]) fun j hj=>?_;rw[Kw k i hv hj,auN]
 by_cases e:i=j
 ·subst e;simp[eU,hi]
 rw[if_neg e,if_neg (fun h=>e h.symm)];exact jr k j hj
theorem QU:bl (0#128) j=0:=by simp[bl]
def AJ(ps:List aJ)(i:Nat)(k:Key):Prop:=(∀j,j<16->bl k j=if j<i then(bF (ps.getD j []) 255).getD 0 else 0)/\ ∀j,j<i->(bF (ps.getD j []) 255).isSome=true
theorem aba(ps:List aJ):AJ ps 0 (0#128):=⟨fun j _=>by rw[QU,if_neg oM],fun j h=>absurd h (Nat.not_lt_zero j)⟩
theorem Kx(s:aJ):(bF s 255).getD 0<256:=by
 cases e:bF s 255 with
 |none=>simp
 |some n=>have:=(jX.1 e).2;simp;omega
theorem getD_at{α:Type}{xs:List α}{i:Nat}{x d:α}(h:xs[i]? =some x):xs.getD i d=x:=by simp[List.getD,h]
theorem AJ.step{ps:List aJ}{x:aJ}(h:AJ ps i k)(hx:ps[i]? =some x)(ho:(bF x 255).isSome=true)(hi:i<4):AJ ps (i+1) (vT k i ((bF x 255).getD 0)):=by
 have e:ps.getD i []=x:=getD_at hx;refine⟨fun j hj=>?_,fun j hj=>?_⟩
 ·
  rw[Kw k i (Kx x) hj]
  by_cases ej:j=i
  ·subst ej;rw[if_pos rfl,if_pos oM,e]
  rw[if_neg ej,h.1 j hj]
  by_cases hl:j<i
  ·rw[if_pos hl,if_pos oM]
  rw[if_neg hl,if_neg oM]
 by_cases ej:j=i
 ·subst ej;rw[e];exact ho
 exact h.2 j oM
theorem QV{ps:List aJ}(h:ps.length=4): ∃a b c d,ps=[a,b,c,d]:=by
 match ps,h with
 |[a,b,c,d],_=>exact⟨a,b,c,d,rfl⟩
theorem abb(h:(ba 46 s).length≠4):lj s=none:=by
 unfold lj;split
 ·rename_i a b c d e;rw[e]at h;exact absurd rfl h
 rfl
theorem abc{x:aJ}(hl:(ba 46 s).length=4)(hx:(ba 46 s)[i]? =some x)(hn:(bF x 255).isSome=false):lj s=none:=by
 obtain⟨a,b,c,d,e⟩:=QV hl;have Ky:bF x 255=none:=by cases q:bF x 255 with
  |none=>rfl
  |some z=>rw[q]at hn;cases hn
 unfold lj;rw[e]at hx⊢;have hm:x∈[a,b,c,d]:=atl hx;simp only[auc,avO,or_false]at hm;rcases hm with rfl|rfl|rfl|rfl
 all_goals simp only[Ky]
 all_goals(split<;>first|rfl|(rename_i h1 h2 h3 h4;simp_all))
theorem abd(hl:(ba 46 s).length=4)(h:AJ (ba 46 s) 4 k):lj s=some k:=by
 obtain⟨a,b,c,d,e⟩:=QV hl;rw[e]at h;obtain⟨na,ha⟩:=auE.1 (h.2 0 dDq);obtain⟨nb,hb⟩:=auE.1 (h.2 1 dDq);obtain⟨nc,hc⟩:=auE.1 (h.2 2 dDq);obtain⟨nd,hd⟩:=auE.1 (h.2 3 dDq);simp only[List.getD_cons_zero,List.getD_cons_succ]at ha hb hc hd;unfold lj;rw[e];simp only[ha,hb,hc,hd];refine congrArg some (uw fun j hj=>?_);rw[yY (jX.1 ha).2 (jX.1 hb).2 (jX.1 hc).2 (jX.1 hd).2 hj,h.1 j hj];rcases aud j 4 with h4|h4
 ·
  have:j=0\/j=1\/j=2\/j=3:=by omega
  rcases this with rfl|rfl|rfl|rfl
  ·simp[ha]
  ·simp[hb]
  ·simp[hc]
  simp[hd]
 rw[if_neg oM,if_neg oM,if_neg oM,if_neg oM,if_neg oM]
theorem abe(h: ¬s9 (s.getD i 0)<0):s9 (s.getD i 0)=((lX s i:Nat):Int)/\lX s i<16/\(lh (s.getD i 0)).isSome=true:=by
 unfold s9 lX at*
 cases e:lh (s.getD i 0)with
 |none=>rw[e]at h;simp at h
 |some n=>exact⟨rfl,JT e,rfl⟩
theorem abf(h:s9 (s.getD i 0)<0)(hi:i<s.length):nS s=none:=by
 unfold nS;rw[if_neg];rintro⟨_,ha⟩;have:=aue.1 ha (s.getD i 0) (by simp[List.getD,hi]);unfold s9 at h
 cases e:lh (s.getD i 0)with
 |none=>rw[e]at this;cases this
 |some n=>rw[e]at h;simp only at h;omega
theorem abg(c:UInt8):Lib.indexByte ([48,49,50,51,52,53,54,55,56,57,97,98,99,100,101,102]:aJ) c=s9 c:=by
 have key: ∀n,n<256->Lib.indexByte ([48,49,50,51,52,53,54,55,56,57,97,98,99,100,101,102]:aJ) (UInt8.ofNat n)=s9 (UInt8.ofNat n):=by decide+kernel
 have:=key c.toNat c.toNat_lt;rwa [UInt8.ofNat_toNat]at this
def xo(s:aJ)(i:Nat)(k:Key):Prop:=(∀j,j<16->bl k j=if 2*j+1<i then 16*lX s (2*j)+lX s (2*j+1)else if 2*j<i then lX s (2*j)else 0)/\ ∀j,j<i->(lh (s.getD j 0)).isSome=true
theorem abh(s:aJ):xo s 0 (0#128):=⟨fun j _=>by rw[QU,if_neg oM,if_neg oM],fun j h=>absurd h (Nat.not_lt_zero j)⟩
theorem Ga(h:(lh (s.getD i 0)).isSome=true):lX s i<16:=by
 unfold lX;obtain⟨n,e⟩:=auE.1 h;rw[e];exact JT e
theorem xo.lt(h:xo s i k)(hi:i<32):bl k (i/2)<16:=by
 rw[h.1 (i/2) oM,if_neg oM];split
 ·exact Ga (h.2 _ oM)
 omega
theorem QW(hn:n<16):v*16|||n=v*16+n:=by
 have:=Nat.two_pow_add_eq_or_of_lt (i:=4) (show n<2^4 from hn) v;rw[avs v 16];exact this.symm
theorem xo.step(h:xo s i k)(hi:i<32)(ho:(lh (s.getD i 0)).isSome=true):xo s (i+1) (vT k (i/2) (bl k (i/2)*16|||lX s i)):=by
 have hl:=h.lt hi;have hx:=Ga ho;rw[QW hx];refine⟨fun j hj=>?_,fun j hj=>?_⟩
 ·
  rw[Kw k _ oM hj]
  by_cases ej:j=i/2
  ·
   rw[if_pos ej,←ej,h.1 j hj,if_neg oM];rcases Nat.mod_two_eq_zero_or_one i with e|e
   ·rw[if_neg oM,if_neg oM,if_pos oM,show 2*j=i by omega];omega
   rw[if_pos oM,if_pos oM,show 2*j+1=i by omega];omega
  rw[if_neg ej,h.1 j hj]
  by_cases h1:2*j+1<i
  ·rw[if_pos h1,if_pos oM]
  rw[if_neg h1,if_neg oM,if_neg oM,if_neg oM]
 by_cases ej:j=i
 ·subst ej;exact ho
 exact h.2 j oM
theorem abi(h:s.length≠32):nS s=none:=by unfold nS;rw[if_neg (fun e=>h e.1)]
theorem abj(h: ∀j,j<s.length->(lh (s.getD j 0)).isSome=true):FK s=true:=by
 refine aue.2 fun c hc=>?_;obtain⟨j,hj,rfl⟩:=awL hc;have:=h j hj;simpa[List.getD,hj]using this
theorem abk(hl:s.length=32)(h:xo s 32 k):nS s=some k:=by
 unfold nS;rw[if_pos ⟨hl,abj fun j hj=>h.2 j oM⟩];refine congrArg some (uw fun j hj=>?_);rw[h.1 j hj,if_pos oM,Ax,ux _ _ hj];have:=Ga (h.2 (2*j) oM);have:=Ga (h.2 (2*j+1) oM);omega
def iT(s:aJ):Key:=if 60<s.length then 0#128 else match nT s with|some (k,_)=>k|none=>0#128
def gh(s:aJ):Nat:=if 60<s.length then 0 else match nT s with|some (_,n)=>n.toNat|none=>0
def ju(s:aJ):Int:=if 60<s.length then 3 else match nT s with|some _=>0|none=>2
theorem QX(h:60<s.length):iT s=0#128/\gh s=0/\ju s=3:=by simp[iT,gh,ju,h]
theorem abl(h: ¬60<s.length)(hs:lj s=some k):iT s=k/\gh s=32/\ju s=0:=by simp[iT,gh,ju,h,nT,hs]
theorem abm(h: ¬60<s.length)(hs:lj s=none)(hw:nS s=some k):iT s=k/\gh s=128/\ju s=0:=by simp[iT,gh,ju,h,nT,hs,hw]
theorem abn(h: ¬60<s.length)(hs:lj s=none)(hw:nS s=none):iT s=0#128/\gh s=0/\ju s=2:=by simp[iT,gh,ju,h,nT,hs,hw]
variable {s a b:aJ} {c:UInt8} {n top:Nat}
theorem xp(c:UInt8)(s:aJ):(∃a b,s=a++c::b/\aN c s=(a,b,true)/\ba c s=a::ba c b)\/(aN c s=(s,[],false)/\ba c s=[s]):=by
 rcases Av (c:=c) s with⟨h1,h2⟩|⟨a,b,h1,h2,h3⟩
 ·exact .inr ⟨PB h1,h2⟩
 exact .inl ⟨a,b,h1,by rw[h1,PC h2],h3⟩
theorem QY(hc:c∈b)(hd:lW c=false):bF b top=none:=by
 cases e:bF b top with
 |none=>rfl
 |some n=>
  obtain⟨rfl,_⟩:=jX.1 e;exact absurd hc (vL hd)
theorem Kz(c:UInt8)(s:aJ):(aN c s).1.length<=s.length/\(aN c s).2.1.length<=s.length:=by
 rcases xp c s with⟨a,b,h1,h2,_⟩|⟨h2,_⟩
 ·rw[h2,h1];simp;omega
 rw[h2];simp
theorem abo(h:(aN 47 s).2.2=false):lY s=none:=by
 rcases xp 47 s with⟨a,b,_,h2,_⟩|⟨_,h3⟩
 ·rw[h2]at h;cases h
 unfold lY;rw[h3]
def vU(a b:aJ):Option cK:=match nT a,bF b 128 with
 |some (k,bits),some n=>if bu ⟨bits,(n:Int),k⟩=true then some ⟨bits,(n:Int),k⟩else none
 |_,_=>none
theorem abp(h:ba 47 s=[a,b]):lY s=vU a b:=by
 unfold lY;rw[h];rfl
theorem Gd(h:(aN 47 s).2.2=true):lY s=vU (aN 47 s).1 (aN 47 s).2.1:=by
 rcases xp 47 s with⟨a,b,_,h2,h3⟩|⟨h2,_⟩
 ·
  rw[h2];rcases xp 47 b with⟨x,y,e1,_,e3⟩|⟨_,e3⟩
  ·
   have hn:bF b 128=none:=QY (c:=47) (by rw[e1];simp) dDq;unfold lY vU;rw[h3,e3,hn];have:ba 47 y≠[]:=CI y
   cases q:ba 47 y with
   |nil=>exact absurd q this
   |cons z zs=>simp only;split<;>simp_all
  exact abp (by rw[h3,e3])
 rw[h2]at h;cases h
def vV(a b:aJ):Option Rt:=match lY a,bF b 65535 with
 |some p,some n=>some ⟨p,UInt16.ofNat n⟩
 |_,_=>none
theorem abq(h:(aN 32 s).2.2=false):qn s=none:=by
 rcases xp 32 s with⟨a,b,_,h2,_⟩|⟨_,h3⟩
 ·rw[h2]at h;cases h
 unfold qn;rw[h3]
theorem abr(h:ba 32 s=[a,b]):qn s=vV a b:=by
 unfold qn;rw[h];rfl
theorem KA(h:(aN 32 s).2.2=true):qn s=vV (aN 32 s).1 (aN 32 s).2.1:=by
 rcases xp 32 s with⟨a,b,_,h2,h3⟩|⟨h2,_⟩
 ·
  rw[h2];rcases xp 32 b with⟨x,y,e1,_,e3⟩|⟨_,e3⟩
  ·
   have hn:bF b 65535=none:=QY (c:=32) (by rw[e1];simp) dDq;unfold qn vV;rw[h3,e3,hn];have:ba 32 y≠[]:=CI y
   cases q:ba 32 y with
   |nil=>exact absurd q this
   |cons z zs=>simp only;split<;>simp_all
  exact abr (by rw[h3,e3])
 rw[h2]at h;cases h
theorem Gj(h:a.length<=60)(he:ju a=0):nT a=some (iT a,((gh a:Nat):Int))/\(gh a=32\/gh a=128):=by
 have hl: ¬60<a.length:=by omega
 unfold ju at he;rw[if_neg hl]at he
 cases e:nT a with
 |none=>rw[e]at he;cases he
 |some z=>
  obtain⟨k,m⟩:=z;have hm:=((FG _).1 (CO.1 e).1).1;simp only at hm;unfold iT gh;rw[if_neg hl,if_neg hl,e];simp only;rcases hm with rfl|rfl
  ·exact⟨rfl, .inl rfl⟩
  exact⟨rfl, .inr rfl⟩
theorem abt(h:a.length<=60)(he: ¬ju a=0):nT a=none:=by
 unfold ju at he;rw[if_neg (show ¬60<a.length by omega)]at he
 cases e:nT a with
 |none=>rfl
 |some z=>rw[e]at he;exact absurd rfl he
def kK(s:aJ):cK:=if 60<s.length then⟨0,0,0#128⟩else(lY s).getD ⟨0,0,0#128⟩
def kL(s:aJ):Int:=if 60<s.length then 3 else if(lY s).isSome=true then 0 else 2
theorem abu(h:60<s.length):kK s=⟨0,0,0#128⟩/\kL s=3:=by simp[kK,kL,h]
theorem Gl(h: ¬60<s.length)(hp:lY s=none):kK s=⟨0,0,0#128⟩/\kL s=2:=by simp[kK,kL,h,hp]
theorem QZ{p:cK}(h: ¬60<s.length)(hp:lY s=some p):kK s=p/\kL s=0:=by simp[kK,kL,h,hp]
theorem abv(h:a.length<=60)(he:kL a=0):lY a=some (kK a):=by
 have hl: ¬60<a.length:=by omega
 unfold kL at he;rw[if_neg hl]at he
 cases e:lY a with
 |none=>rw[e]at he;simp at he
 |some z=>rw[kK,if_neg hl,e];rfl
theorem abw(h:a.length<=60)(he: ¬kL a=0):lY a=none:=by
 unfold kL at he;rw[if_neg (show ¬60<a.length by omega)]at he
 cases e:lY a with
 |none=>rfl
 |some z=>rw[e]at he;exact absurd rfl he
def nV(s:aJ):Rt:=if 60<s.length then bQ else(qn s).getD bQ
def pC(s:aJ):Int:=if 60<s.length then 3 else if(qn s).isSome=true then 0 else 2
theorem Q0(h:60<s.length):nV s=bQ/\pC s=3:=by simp[nV,pC,h]
theorem Gm(h: ¬60<s.length)(hp:qn s=none):nV s=bQ/\pC s=2:=by simp[nV,pC,h,hp]
theorem KB{r:Rt}(h: ¬60<s.length)(hp:qn s=some r):nV s=r/\pC s=0:=by simp[nV,pC,h,hp]
theorem abx(h:a.length<=60)(he: ¬ju a=0):vU a b=none:=by unfold vU;rw[abt h he]
theorem aby(h:bF b n=none)(hn:n<=top){m:Nat}(e:bF b top=some m):n<m:=by
 obtain⟨rfl,h2⟩:=jX.1 e;rcases aud n m with q|q
 ·exact q
 rw[uv q]at h;cases h
theorem abz(h:a.length<=60)(he:ju a=0)(hn:(bF b (gh a)).isSome=false):vU a b=none:=by
 obtain⟨hk,hm⟩:=Gj h he;have Ky:bF b (gh a)=none:=by simpa using hn
 unfold vU;rw[hk]
 cases e:bF b 128 with
 |none=>rfl
 |some m=>
  have:=aby Ky oM e;simp only;rw[if_neg];intro hp;have:=((FG _).1 hp).2.2.1;simp only at this;omega
theorem Q1(h:a.length<=60)(he:ju a=0)(hn:(bF b (gh a)).isSome=true):vU a b=if bu ⟨((gh a:Nat):Int),(((bF b (gh a)).getD 0:Nat):Int),iT a⟩=true then some ⟨((gh a:Nat):Int),(((bF b (gh a)).getD 0:Nat):Int),iT a⟩else none:=by
 obtain⟨hk,hm⟩:=Gj h he;obtain⟨m,e⟩:=auE.1 hn;obtain⟨rfl,h2⟩:=jX.1 e;unfold vU;rw[hk,e,uv (show m<=128 by omega)];rfl
theorem abA(h:a.length<=60)(he: ¬kL a=0):vV a b=none:=by unfold vV;rw[abw h he]
theorem abB(hn:bF b 65535=none):vV a b=none:=by
 unfold vV;rw[hn];cases lY a<;>rfl
theorem abC(h:a.length<=60)(he:kL a=0)(hn:bF b 65535=some n):vV a b=some ⟨kK a,UInt16.ofNat n⟩:=by
 unfold vV;rw[hn,abv h he]
theorem KC(s:aJ)(top:Nat):(bF s top).getD 0<=top:=by
 cases e:bF s top with
 |none=>simp
 |some n=>exact(jX.1 e).2
theorem abD{n:Nat}(h:n<=65535):(Value.int .u16 ((n:Nat):Int))=Value.int .u16 (((UInt16.ofNat n).toNat:Nat):Int):=by
 rw[UInt16.toNat_ofNat',auJ (show n<2^16 by omega)]
theorem Q2{ps:List aJ}(h:ps.length=2): ∃a b,ps=[a,b]:=by
 match ps,h with
 |[a,b],_=>exact⟨a,b,rfl⟩
variable {s:aJ} {k:Key} {n:Int} {a b r:Rt} {p:cK}
theorem uE(r:Rt):(ir r).length<=42:=by
 unfold ir;split
 ·rename_i h;have hp:=FR r.p;rw[ll,if_pos h]at hp;have hd:=jY 5 r.dN.toNat (avR (awp _) dDq) dDq;simp only[yZ,adr,ad2];omega
 simp
theorem abE(h:bu r.p=true):nV (ir r)=r/\pC (ir r)=0:=by
 have hl:=uE r;refine KB oM (P1.2 ⟨h,?_⟩);rw[ir,if_pos h]
theorem Q3(he:pC s=0):bu (nV s).p=true/\ir (nV s)=s:=by
 by_cases hl:60<s.length
 ·rw[(Q0 hl).2]at he;cases he
 cases e:qn s with
 |none=>rw[(Gm hl e).2]at he;cases he
 |some r=>
  rw[(KB hl e).1];obtain⟨h1,h2⟩:=P1.1 e;exact⟨h1,by rw[ir,if_pos h1,h2]⟩
theorem abF(he:ju s=0):lZ (iT s) ((gh s:Nat):Int)=true/\jK (iT s) ((gh s:Nat):Int)=s:=by
 have hl:s.length<=60:=by
  rcases aud 60 s.length with h|h
  ·rw[(QX h).2.2]at he;cases he
  exact h
 obtain⟨e,_⟩:=Gj hl he;obtain⟨h1,h2⟩:=CO.1 e;exact⟨h1,by rw[jK,if_pos (show lZ (iT s) ((gh s:Nat):Int)=true from h1)];exact h2.symm⟩
theorem abG(h:lZ k n=true):iT (jK k n)=k/\((gh (jK k n):Nat):Int)=n/\ju (jK k n)=0:=by
 have hl:=FQ k n;have e:nT (jK k n)=some (k,n):=CO.2 ⟨h,by rw[jK,if_pos h]⟩;have hn:=(FP.1 h).1;have C1: ¬60<(jK k n).length:=by omega
 refine⟨by rw[iT,if_neg C1,e],by rw[gh,if_neg C1,e];simp only;omega,by rw[ju,if_neg C1,e]⟩
theorem abH(h:bu p=true):kK (ll p)=p/\kL (ll p)=0:=by
 have hl:=FR p;exact QZ oM (FL.2 ⟨h,by rw[ll,if_pos h]⟩)
theorem KD{b:Bool}:gM b=0↔b=true:=by cases b<;>simp[gM]
structure aO where
 kind:Int
 r:Rt
 key:Key
 bits:Int
 n:Int64
 deriving DecidableEq
def uF:aO:=⟨0,bQ,0#128,0,0⟩
def dU(k:Int):aJ:=
 if k=1 then[112,117,116]else if k=2 then[103,111,110,101]else if k=3 then[100,111,110,101]else if k=4 then[102,105,110,100]else if k=5 then[99,117,116]else if k=6 then[102,97,105,108]else if k=7 then[111,110]else if k=8 then[100,117,109,112]else[]
theorem Q4(k:Int):(dU k).length<=4:=by unfold dU;(repeat' split)<;>decide
def br(s:aJ):Nat:=((List.range' 1 8).find? fun k:Nat=>decide (dU (k:Int)=s)).getD 0
theorem abI{k:Nat}(h1:1<=k)(h8:k<=8):k=1\/k=2\/k=3\/k=4\/k=5\/k=6\/k=7\/k=8:=by omega
theorem Q5{k:Nat}{s:aJ}(h1:1<=k)(h8:k<=8)(h:dU (k:Int)=s):br s=k:=by
 subst h;rcases abI h1 h8 with rfl|rfl|rfl|rfl|rfl|rfl|rfl|rfl<;>decide
theorem abJ{s:aJ}(h: ∀j:Nat,1<=j->j<=8-> ¬dU (j:Int)=s):br s=0:=by
 have:((List.range' 1 8).find? fun k:Nat=>decide (dU (k:Int)=s))=none:=List.find?_eq_none.2 fun j hj=>by
  have hm:=List.mem_range'_1.1 hj;simpa using h j oM oM
 rw[br,this];rfl
theorem C2(s:aJ):br s<=8/\(br s≠0->dU (br s:Int)=s):=by
 rw[br]
 cases hf:(List.range' 1 8).find? fun k:Nat=>decide (dU (k:Int)=s)with
 |none=>exact⟨Nat.zero_le _,fun h=>absurd rfl h⟩
 |some k=>
  have hm:=List.mem_range'_1.1 (awk hf);have he:=List.find?_some hf;exact⟨by simp only[avM];omega,fun _=>by simpa using he⟩
def mJ(x:aO):aO:=
 if x.kind=1 then⟨x.kind,x.r,0#128,0,0⟩else if x.kind=2 then⟨x.kind,⟨x.r.p,0⟩,0#128,0,0⟩else if x.kind=4 then⟨x.kind,bQ,x.key,x.bits,0⟩else if x.kind=5\/x.kind=6 then⟨x.kind,bQ,0#128,0,x.n⟩else⟨x.kind,bQ,0#128,0,0⟩
def kx(x:aO):Bool:=
 if x.kind=1\/x.kind=2 then bu x.r.p else if x.kind=4 then lZ x.key x.bits else if x.kind=5\/x.kind=6 then decide (0<=x.n.toInt/\x.n.toInt<=999)else decide (x.kind=3\/x.kind=7\/x.kind=8)
def eV(x:aO):Bool:=kx x&&decide (mJ x=x)
def np(x:aO):aJ:=if x.kind=1 then ir x.r else if x.kind=2 then ll x.r.p else if x.kind=4 then jK x.key x.bits else dec x.n.toInt.toNat
def fJ(x:aO):aJ:=if x.kind=3\/x.kind=7\/x.kind=8 then dU x.kind else dU x.kind++32::np x
def qx(x:aO):aJ:=if eV x=true then fJ x else[]
def pD(x:aO):Int:=gM (eV x)
theorem AK{x:aO}(h:eV x=true):qx x=fJ x/\pD x=0:=by rw[qx,pD,gM,if_pos h,if_pos h];exact⟨rfl,rfl⟩
theorem Gn{x:aO}(h:eV x=false):qx x=[]/\pD x=1:=by rw[qx,pD,gM,h];exact⟨rfl,rfl⟩
theorem qy{x:aO}:eV x=true↔kx x=true/\mJ x=x:=by rw[eV,af0,decide_eq_true_eq]
theorem Q6{x:aO}(h:eV x=true):1<=x.kind/\x.kind<=8:=by
 have h1:=(qy.1 h).1;rw[kx]at h1;split at h1
 ·omega
 split at h1
 ·omega
 split at h1
 ·omega
 simp at h1;omega
theorem Gp{n:Nat}(h:n<=999):(Int64.ofInt (n:Int)).toInt=(n:Int):=Int64.toInt_ofInt_of_le oM oM
theorem Q7{a b:Int64}(h:a.toInt=b.toInt):a=b:=Int64.toInt_inj.1 h
theorem Q8{x:aO}(h:eV x=true):(np x).length<=42:=by
 rw[np];split
 ·exact uE _
 split
 ·have:=FR x.r.p;omega
 split
 ·have:=FQ x.key x.bits;omega
 rename_i h1 h2 h4;have h0:=(qy.1 h).1;rw[kx,if_neg oM,if_neg h4]at h0
 by_cases h5:x.kind=5\/x.kind=6
 ·rw[if_pos h5,decide_eq_true_eq]at h0;have:=jY 3 x.n.toInt.toNat oM dDq;omega
 have h9:=(qy.1 h).2;rw[mJ,if_neg h1,if_neg h2,if_neg h4,if_neg h5]at h9;have hn:x.n=0:=(congrArg aO.n h9).symm;rw[hn];have:=jY 3 (Int64.toInt 0).toNat dDq dDq;omega
theorem Gt{x:aO}(h:eV x=true):(fJ x).length<=47:=by
 have h1:=Q4 x.kind;have h2:=Q8 h;rw[fJ];split
 ·omega
 rw[adr,ad2];omega
theorem Gu(x:aO):(qx x).length<=47:=by
 rw[qx];split
 ·rename_i h;exact Gt h
 exact auo _
def ia(s:aJ):Option aO:=
 if br (aN 32 s).1=1 then(if pC (aN 32 s).2.1=0 then some ⟨1,nV (aN 32 s).2.1,0#128,0,0⟩else none)
 else if br (aN 32 s).1=2 then(if kL (aN 32 s).2.1=0 then some ⟨2,⟨kK (aN 32 s).2.1,0⟩,0#128,0,0⟩else none)
 else if br (aN 32 s).1=4 then(if ju (aN 32 s).2.1=0 then some ⟨4,bQ,iT (aN 32 s).2.1,(gh (aN 32 s).2.1:Nat),0⟩else none)
 else if br (aN 32 s).1=5\/br (aN 32 s).1=6 then(bF (aN 32 s).2.1 999).map fun n=>⟨(br (aN 32 s).1:Nat),bQ,0#128,0,Int64.ofInt (n:Nat)⟩
 else if br (aN 32 s).1=0\/(aN 32 s).2.2=true then none else some ⟨(br (aN 32 s).1:Nat),bQ,0#128,0,0⟩
def ky(s:aJ):aO:=(ia s).getD uF
def kz(s:aJ):Int:=if br (aN 32 s).1=0 then 8 else if(ia s).isSome=true then 0 else 2
theorem abK{s:aJ}(he:kL s=0):bu (kK s)=true/\ll (kK s)=s:=by
 rw[kL]at he;split at he
 ·cases he
 rename_i C1;split at he
 ·
  rename_i h;obtain⟨p,hp⟩:=auE.1 h;obtain⟨q1,q2⟩:=FL.1 hp;have:kK s=p:=by rw[kK,if_neg C1,hp];rfl
  rw[this];exact⟨q1,by rw[ll,if_pos q1];exact q2.symm⟩
 cases he
theorem Q9(s:aJ):((aN 32 s).2.2=true/\s=(aN 32 s).1++32::(aN 32 s).2.1)\/((aN 32 s).2.2=false/\(aN 32 s).1=s/\(aN 32 s).2.1=[]):=by
 rcases xp 32 s with⟨a,b,h1,h2,_⟩|⟨h,_⟩
 ·rw[h2];exact .inl ⟨rfl,h1⟩
 rw[h];exact .inr ⟨rfl,rfl,rfl⟩
theorem abL:pC []≠0:=by decide
theorem abM:kL []≠0:=by decide
theorem abN:ju []≠0:=by decide
theorem abO:bF [] 999=none:=by decide
theorem Ra{s:aJ}{x:aO}(h:ia s=some x):eV x=true/\fJ x=s:=by
 have hw:=(C2 (aN 32 s).1).2;have KE:=(C2 (aN 32 s).1).1;have hc:=Q9 s;unfold ia at h;generalize aN 32 s=C at h hw hc KE;obtain⟨w,r,m⟩:=C;simp only at h hw hc KE;have hs: ∀(_: ¬r=[]) (_:br w≠0),dU (br w:Int)++32::r=s:=fun hr hk=>by
  rcases hc with⟨_,h2⟩|⟨_,_,h2⟩
  ·rw[hw hk];exact h2.symm
  exact absurd h2 hr
 split at h
 ·
  rename_i k1;split at h
  ·rename_i e;obtain⟨q1,q2⟩:=Q3 e;have h3:=hs (fun g=>abL (g▸e)) oM;rw[k1]at h3;obtain rfl:=at1 h;refine⟨qy.2 ⟨by rw[kx,if_pos (.inl rfl)];exact q1,by rw[mJ,if_pos rfl]⟩,?_⟩;rw[fJ,if_neg (show ¬((1:Int)=3\/(1:Int)=7\/(1:Int)=8) by decide),np,if_pos rfl];show _++32::ir (nV r)=s;rw[q2];exact h3
  cases h
 split at h
 ·
  rename_i k1;split at h
  ·rename_i e;obtain⟨q1,q2⟩:=abK e;have h3:=hs (fun g=>abM (g▸e)) oM;rw[k1]at h3;obtain rfl:=at1 h;refine⟨qy.2 ⟨by rw[kx,if_pos (.inr rfl)];exact q1,by rw[mJ,if_neg (show ¬((2:Int)=1) by decide),if_pos rfl]⟩,?_⟩;rw[fJ,if_neg (show ¬((2:Int)=3\/(2:Int)=7\/(2:Int)=8) by decide),np,if_neg (show ¬((2:Int)=1) by decide),if_pos rfl];show _++32::ll (kK r)=s;rw[q2];exact h3
  cases h
 split at h
 ·
  rename_i k1;split at h
  ·rename_i e;obtain⟨q1,q2⟩:=abF e;have h3:=hs (fun g=>abN (g▸e)) oM;rw[k1]at h3;obtain rfl:=at1 h;refine⟨qy.2 ⟨by rw[kx,if_neg (show ¬((4:Int)=1\/(4:Int)=2) by decide),if_pos rfl];exact q1,by rw[mJ,if_neg (show ¬((4:Int)=1) by decide),if_neg (show ¬((4:Int)=2) by decide),if_pos rfl]⟩,?_⟩;rw[fJ,if_neg (show ¬((4:Int)=3\/(4:Int)=7\/(4:Int)=8) by decide),np,if_neg (show ¬((4:Int)=1) by decide),if_neg (show ¬((4:Int)=2) by decide),if_pos rfl];show _++32::jK (iT r) ((gh r:Nat):Int)=s;rw[q2];exact h3
  cases h
 split at h
 ·
  rename_i k1;obtain⟨n,hn,rfl⟩:=avC.1 h;obtain⟨q1,q2⟩:=jX.1 hn;have h3:=hs (fun g=>by rw[g,abO]at hn;cases hn) oM;have hi:=Gp q2;have h5:((br w:Nat):Int)=5\/((br w:Nat):Int)=6:=by omega
  have n1: ¬(((br w:Nat):Int)=1):=by omega
  have n2: ¬(((br w:Nat):Int)=2):=by omega
  have n4: ¬(((br w:Nat):Int)=4):=by omega
  refine⟨qy.2 ⟨?_,?_⟩,?_⟩
  ·rw[kx,if_neg (fun g=>g.elim n1 n2),if_neg n4,if_pos h5,decide_eq_true_eq];show 0<=(Int64.ofInt (n:Int)).toInt/\(Int64.ofInt (n:Int)).toInt<=999;rw[hi];omega
  ·rw[mJ,if_neg n1,if_neg n2,if_neg n4,if_pos h5]
  rw[fJ,if_neg (show ¬(((br w:Nat):Int)=3\/((br w:Nat):Int)=7\/((br w:Nat):Int)=8) by omega),np,if_neg n1,if_neg n2,if_neg n4];show _++32::dec (Int64.ofInt (n:Int)).toInt.toNat=s;rw[hi,avb,←q1];exact h3
 split at h
 ·cases h
 rename_i n1 n2 n4 n5 n0;obtain rfl:=at1 h;have k0:br w≠0:=fun g=>n0 (.inl g);have hm:m=false:=by
  cases m with
  |false=>rfl
  |true=>exact absurd (.inr rfl) n0
 have h3:w=s:=by
  rcases hc with⟨h1,_⟩|⟨_,h2,_⟩
  ·rw[hm]at h1;cases h1
  exact h2
 have h5:((br w:Nat):Int)=3\/((br w:Nat):Int)=7\/((br w:Nat):Int)=8:=by omega
 have m1: ¬(((br w:Nat):Int)=1):=by omega
 have m2: ¬(((br w:Nat):Int)=2):=by omega
 have m4: ¬(((br w:Nat):Int)=4):=by omega
 have m5: ¬(((br w:Nat):Int)=5\/((br w:Nat):Int)=6):=by omega
 refine⟨qy.2 ⟨?_,?_⟩,?_⟩
 ·rw[kx,if_neg (fun g=>g.elim m1 m2),if_neg m4,if_neg m5];exact decide_eq_true h5
 ·rw[mJ,if_neg m1,if_neg m2,if_neg m4,if_neg m5]
 rw[fJ,if_pos h5];exact(hw k0).trans h3
def KF(s:aJ)(y:aO):Prop:=eV y=true/\((fJ y=s/\ia s=some y)\/(fJ y≠s/\ia s=none))
theorem C3{s:aJ}{y:aO}(h:ia s=some y):KF s y:=⟨(Ra h).1, .inl ⟨(Ra h).2,h⟩⟩
theorem Rb{s:aJ}(k:br (aN 32 s).1=1):ia s=if pC (aN 32 s).2.1=0 then some ⟨(br (aN 32 s).1:Nat),nV (aN 32 s).2.1,0#128,0,0⟩else none:=by rw[ia,if_pos k,k];rfl
theorem Rc{s:aJ}(k:br (aN 32 s).1=2):ia s=if kL (aN 32 s).2.1=0 then some ⟨(br (aN 32 s).1:Nat),⟨kK (aN 32 s).2.1,0⟩,0#128,0,0⟩else none:=by rw[ia,if_neg oM,if_pos k,k];rfl
theorem Rd{s:aJ}(k:br (aN 32 s).1=4):ia s=if ju (aN 32 s).2.1=0 then some ⟨(br (aN 32 s).1:Nat),bQ,iT (aN 32 s).2.1,(gh (aN 32 s).2.1:Nat),0⟩else none:=by rw[ia,if_neg oM,if_neg oM,if_pos k,k];rfl
theorem Re{s:aJ}(k:br (aN 32 s).1=5\/br (aN 32 s).1=6):ia s=(bF (aN 32 s).2.1 999).map fun n=>⟨(br (aN 32 s).1:Nat),bQ,0#128,0,Int64.ofInt (n:Nat)⟩:=by rw[ia,if_neg oM,if_neg oM,if_neg oM,if_pos k]
theorem abP{s:aJ}(k0:br (aN 32 s).1≠0)(k1:br (aN 32 s).1≠1)(k2:br (aN 32 s).1≠2)(k4:br (aN 32 s).1≠4)(k5: ¬(br (aN 32 s).1=5\/br (aN 32 s).1=6)):ia s=if(aN 32 s).2.2=true then none else some ⟨(br (aN 32 s).1:Nat),bQ,0#128,0,0⟩:=by
 rw[ia,if_neg k1,if_neg k2,if_neg k4,if_neg k5]
 by_cases h:(aN 32 s).2.2=true
 ·rw[if_pos (.inr h),if_pos h]
 rw[if_neg (fun g=>g.elim k0 h),if_neg h]
theorem abQ{s:aJ}(k0:br (aN 32 s).1≠0)(k1:br (aN 32 s).1≠1)(k2:br (aN 32 s).1≠2)(k4:br (aN 32 s).1≠4)(k5: ¬(br (aN 32 s).1=5\/br (aN 32 s).1=6)):KF s ⟨(br (aN 32 s).1:Nat),bQ,0#128,0,0⟩:=by
 have h:=abP k0 k1 k2 k4 k5
 by_cases hm:(aN 32 s).2.2=true
 ·
  rw[if_pos hm]at h;have h8:=(C2 (aN 32 s).1).1;have hw:=(C2 (aN 32 s).1).2 k0;have h5:((br (aN 32 s).1:Nat):Int)=3\/((br (aN 32 s).1:Nat):Int)=7\/((br (aN 32 s).1:Nat):Int)=8:=by omega
  have m1: ¬(((br (aN 32 s).1:Nat):Int)=1):=by omega
  have m2: ¬(((br (aN 32 s).1:Nat):Int)=2):=by omega
  have m4: ¬(((br (aN 32 s).1:Nat):Int)=4):=by omega
  have m5: ¬(((br (aN 32 s).1:Nat):Int)=5\/((br (aN 32 s).1:Nat):Int)=6):=by omega
  refine⟨qy.2 ⟨?_,?_⟩, .inr ⟨fun g=>?_,h⟩⟩
  ·rw[kx,if_neg (fun g=>g.elim m1 m2),if_neg m4,if_neg m5];exact decide_eq_true h5
  ·rw[mJ,if_neg m1,if_neg m2,if_neg m4,if_neg m5]
  rw[fJ,if_pos h5]at g;rcases Q9 s with⟨_,h2⟩|⟨h2,_⟩
  ·rw[show dU _=(aN 32 s).1 from hw]at g;have:=congrArg List.length (g.trans h2);rw[adr,ad2]at this;omega
  rw[hm]at h2;cases h2
 rw[if_neg hm]at h;exact C3 h
theorem KG{s:aJ}(k0:br (aN 32 s).1≠0):(∀y,ia s=some y->ky s=y/\kz s=0)/\(ia s=none->ky s=uF/\kz s=2):=
 ⟨fun y h=>⟨by rw[ky,h];rfl,by rw[kz,if_neg k0,h];rfl⟩,fun h=>⟨by rw[ky,h];rfl,by rw[kz,if_neg k0,h];rfl⟩⟩
theorem Rf{s:aJ}(k0:br (aN 32 s).1=0):ky s=uF/\kz s=8:=by
 refine⟨?_,by rw[kz,if_pos k0]⟩;rw[ky,ia,if_neg oM,if_neg oM,if_neg oM,if_neg oM,if_pos (.inl k0)];rfl
theorem Rh: ∀k:Int,(32:UInt8)∉dU k:=fun k=>by
 unfold dU;(repeat' split)<;>decide
theorem Ri: ∀k:Int,(10:UInt8)∉dU k:=fun k=>by
 unfold dU;(repeat' split)<;>decide
theorem abR{k:Int}(h1:1<=k)(h8:k<=8):br (dU k)=k.toNat:=by
 obtain⟨n,rfl⟩: ∃n:Nat,k=(n:Int):=⟨k.toNat,oM⟩;rw[Q5 (k:=n) oM oM rfl];rfl
theorem abS{x:aO}(h:eV x=true):ia (fJ x)=some x:=by
 obtain⟨k1,k8⟩:=Q6 h;obtain⟨hm,hb⟩:=qy.1 h;have hk:=abR k1 k8;obtain⟨kind,r,key,bits,n⟩:=x;simp only at k1 k8 hk;have C4: ∀t:aJ,aN 32 (dU kind++32::t)=(dU kind,t,true):=fun t=>PC (Rh kind);have KH:aN 32 (dU kind)=(dU kind,[],false):=PB (Rh kind);have hc:kind=1\/kind=2\/kind=3\/kind=4\/kind=5\/kind=6\/kind=7\/kind=8:=by omega
 rw[mJ]at hb;rw[kx]at hm;rcases hc with rfl|rfl|rfl|rfl|rfl|rfl|rfl|rfl
 ·have hl:fJ ⟨1,r,key,bits,n⟩=dU 1++32::ir r:=rfl;have hp:bu r.p=true:=hm;obtain⟨e1,e2⟩:=abE hp;rw[ia,hl,C4];dsimp only;rw[(show br (dU 1)=1 from hk),if_pos rfl,if_pos e2,e1];exact congrArg some hb
 ·have hl:fJ ⟨2,r,key,bits,n⟩=dU 2++32::ll r.p:=rfl;have hp:bu r.p=true:=hm;obtain⟨e1,e2⟩:=abH hp;rw[ia,hl,C4];dsimp only;rw[(show br (dU 2)=2 from hk),if_neg dDq,if_pos rfl,if_pos e2,e1];exact congrArg some hb
 ·have hl:fJ ⟨3,r,key,bits,n⟩=dU 3:=rfl;rw[ia,hl,KH];dsimp only;rw[(show br (dU 3)=3 from hk),if_neg dDq,if_neg dDq,if_neg dDq,if_neg dDq,if_neg dDq];exact congrArg some hb
 ·have hl:fJ ⟨4,r,key,bits,n⟩=dU 4++32::jK key bits:=rfl;have hp:lZ key bits=true:=hm;obtain⟨e1,e2,e3⟩:=abG hp;rw[ia,hl,C4];dsimp only;rw[(show br (dU 4)=4 from hk),if_neg dDq,if_neg dDq,if_pos rfl,if_pos e3,e1,e2];exact congrArg some hb
 ·have hl:fJ ⟨5,r,key,bits,n⟩=dU 5++32::dec n.toInt.toNat:=rfl;have hp:0<=n.toInt/\n.toInt<=999:=of_decide_eq_true hm;have hn:Int64.ofInt ((n.toInt.toNat:Nat):Int)=n:=Q7 (by rw[Gp oM];omega);rw[ia,hl,C4];dsimp only;rw[(show br (dU 5)=5 from hk),if_neg dDq,if_neg dDq,if_neg dDq,if_pos dDq,uv oM,Option.map_some,hn];exact congrArg some hb
 ·have hl:fJ ⟨6,r,key,bits,n⟩=dU 6++32::dec n.toInt.toNat:=rfl;have hp:0<=n.toInt/\n.toInt<=999:=of_decide_eq_true hm;have hn:Int64.ofInt ((n.toInt.toNat:Nat):Int)=n:=Q7 (by rw[Gp oM];omega);rw[ia,hl,C4];dsimp only;rw[(show br (dU 6)=6 from hk),if_neg dDq,if_neg dDq,if_neg dDq,if_pos dDq,uv oM,Option.map_some,hn];exact congrArg some hb
 ·have hl:fJ ⟨7,r,key,bits,n⟩=dU 7:=rfl;rw[ia,hl,KH];dsimp only;rw[(show br (dU 7)=7 from hk),if_neg dDq,if_neg dDq,if_neg dDq,if_neg dDq,if_neg dDq];exact congrArg some hb
 have hl:fJ ⟨8,r,key,bits,n⟩=dU 8:=rfl;rw[ia,hl,KH];dsimp only;rw[(show br (dU 8)=8 from hk),if_neg dDq,if_neg dDq,if_neg dDq,if_neg dDq,if_neg dDq];exact congrArg some hb
theorem Rj{x:aO}(h:eV x=true):ky (fJ x)=x/\kz (fJ x)=0:=by
 have hr:=abS h;refine⟨by rw[ky,hr];rfl,?_⟩;rw[kz,if_neg (fun h0=>by rw[ia,h0]at hr;simp at hr),hr];rfl
structure pE where
 b:Int
 p:Int
 s:Int
 l:List aO
 deriving DecidableEq
def uG:pE:=⟨0,0,0,[]⟩
def tj:aJ:=[99,104,105,112]
def kM(s:aJ):Option (Nat×Nat×Nat):=match ba 32 s with
 |[a,b,c,d]=>if a=tj then(match bF b 999,bF c 999,bF d 999 with
  |some x,some y,some z=>some (x,y,z)
  |_,_,_=>none)else none
 |_=>none
def ji(t:aJ):List aJ:=((ba 10 t).drop 1).take ((ba 10 t).length -2)
def gu(t:aJ):Nat:=(ba 10 t).length -1
def vW(l:List aJ):Nat:=l.findIdx fun s=>decide (kz s≠0)
def fx(t:aJ):pE×Int×Int:=
 if 16384<t.length then(uG,3,0)
 else if gu t=0\/(ba 10 t).getD (gu t) []≠[]then(uG,2,(gu t:Int)+1)
 else match kM ((ba 10 t).getD 0 [])with
  |none=>(uG,2,1)
  |some (b,p,s)=>
   if vW (ji t)<(ji t).length then(uG,kz ((ji t).getD (vW (ji t)) []),(vW (ji t):Int)+2)
   else if 300<(ji t).length then(uG,3,0)
   else(⟨(b:Nat),(p:Nat),(s:Nat),(ji t).map ky⟩,0,0)
def lq(l:List aO):aJ:=(l.map fun x=>fJ x++[10]).flatten
def iu(b p s:Nat)(l:List aO):aJ:=tj++32::(dec b++32::(dec p++32::(dec s++10::lq l)))
theorem abT{x:aO}(h:eV x=true):(10:UInt8)∉fJ x:=by
 have hk: ∀k b,(10:UInt8)∉q9 k b:=fun k b=>JV dDq dDq dDq;have hd: ∀n,(10:UInt8)∉dec n:=fun n=>vL dDq;have hp: ∀p,(10:UInt8)∉s8 p:=fun p=>by
  rw[s8];intro g;rcases at7.1 g with g|g
  ·exact hk _ _ g
  rcases auc.1 g with g|g
  ·exact absurd g dDq
  exact hd _ g
 have hr:(10:UInt8)∉np x:=by
  rw[np];split
  ·
   rw[ir];split
   ·
    rw[yZ];intro g;rcases at7.1 g with g|g
    ·exact hp _ g
    rcases auc.1 g with g|g
    ·exact absurd g dDq
    exact hd _ g
   exact avO
  split
  ·
   rw[ll];split
   ·exact hp _
   exact avO
  split
  ·
   rw[jK];split
   ·exact hk _ _
   exact avO
  exact hd _
 rw[fJ];split
 ·exact Ri _
 intro g;rcases at7.1 g with g|g
 ·exact Ri _ g
 rcases auc.1 g with g|g
 ·exact absurd g dDq
 exact hr g
theorem Rk: ∀{l:List aO},(∀x∈l,eV x=true)->ba 10 (lq l)=l.map fJ++[[]]
 |[],_=>rfl
 |x::r,h=>by
  have ih:=Rk (l:=r) fun y hy=>h y (aui _ hy);have:lq (x::r)=fJ x++10::lq r:=by simp[lq]
  rw[this,sW (abT (h x auD)),ih];rfl
def xq(b p s:Nat):aJ:=tj++32::(dec b++32::(dec p++32::dec s))
theorem abU{b p s:Nat}(hb:b<=999)(hp:p<=999)(hs:s<=999):kM (xq b p s)=some (b,p,s):=by
 have hd: ∀n,(32:UInt8)∉dec n:=fun n=>vL dDq;have:ba 32 (xq b p s)=[tj,dec b,dec p,dec s]:=by
  rw[xq,sW dDq,sW (hd b),sW (hd p),Au (hd s)]
 rw[kM,this];simp only[if_true,uv hb,uv hp,uv hs]
theorem abV(b p s:Nat)(l:List aO):iu b p s l=xq b p s++10::lq l:=by
 simp[iu,xq]
theorem abW(b p s:Nat):(10:UInt8)∉xq b p s:=by
 have hd: ∀n,(10:UInt8)∉dec n:=fun n=>vL dDq;have h3: ∀(a t:aJ),(10:UInt8)∉a->(10:UInt8)∉t->(10:UInt8)∉a++32::t:=fun a t ha ht g=>by
  rcases at7.1 g with g|g
  ·exact ha g
  rcases auc.1 g with g|g
  ·exact absurd g dDq
  exact ht g
 exact h3 _ _ dDq (h3 _ _ (hd _) (h3 _ _ (hd _) (hd _)))
theorem abX{b p s:Nat}{l:List aO}(hb:b<=999)(hp:p<=999)(hs:s<=999)(hl: ∀x∈l,eV x=true)(hn:l.length<=300)(eQ:(iu b p s l).length<=16384):
  fx (iu b p s l)=(⟨(b:Nat),(p:Nat),(s:Nat),l⟩,0,0):=by
 have eL:ba 10 (iu b p s l)=xq b p s::(l.map fJ++[[]]):=by rw[abV,sW (abW b p s),Rk hl]
 have KI:gu (iu b p s l)=l.length+1:=by rw[gu,eL];simp
 have hmi:ji (iu b p s l)=l.map fJ:=by
  rw[ji,eL];simp only[avD,avg,ad2,adr,aur,alM];rw[show l.length+(0+1)+1 -2=(l.map fJ).length by rw[aur];omega,List.take_left]
 have AL:vW (l.map fJ)=(l.map fJ).length:=by
  rw[vW,List.findIdx_eq_length];intro t ht;obtain⟨x,hx,rfl⟩:=ava.1 ht;rw[(Rj (hl x hx)).2];rfl
 have hg:(ba 10 (iu b p s l)).getD (l.length+1) []=[]:=by
  rw[eL,List.getD_cons_succ,List.getD,auf (by rw[aur];exact at5 _),aur,avX];rfl
 have hh:(ba 10 (iu b p s l)).getD 0 []=xq b p s:=by rw[eL];rfl
 rw[fx,if_neg oM,KI,hg,hh,abU hb hp hs,hmi,AL,if_neg (by rintro(g|g);omega;exact g rfl)];simp only[Nat.lt_irrefl,if_false,aur];rw[if_neg oM,awJ];refine congrArg (fun z=>((⟨(b:Nat),(p:Nat),(s:Nat),z⟩:pE),(0:Int),(0:Int))) ?_;exact(avf fun x hx=>(Rj (hl x hx)).1).trans (List.map_id l)
theorem abY{l:List aJ}{i:Nat}(h: ∀j,j<i->kz (l.getD j [])=0)(hi:i<l.length)(he: ¬kz (l.getD i [])=0):vW l=i:=by
 rw[vW,List.findIdx_eq hi];refine⟨?_,fun j hj=>?_⟩
 ·rw[show l[i]=l.getD i [] by simp[List.getD,hi]];exact decide_eq_true he
 rw[show l[j]=l.getD j [] by simp[List.getD,show j<l.length by omega]];exact decide_eq_false fun g=>g (h j hj)
theorem abZ{l:List aJ}(h: ∀j,j<l.length->kz (l.getD j [])=0):vW l=l.length:=by
 rw[vW,List.findIdx_eq_length];intro t ht;obtain⟨j,hj⟩:=aul ht;have:=h j (zz.1 hj).1;rw[show l.getD j []=t by simp[List.getD,hj]]at this;exact decide_eq_false fun g=>g this
theorem Rl: ∀{l:List aO},(∀x∈l,eV x=true)->(lq l).length<=48*l.length
 |[],_=>at5 _
 |x::r,h=>by
  have ih:=Rl (l:=r) fun y hy=>h y (aui _ hy);have h1:=Gt (h x auD);have:lq (x::r)=fJ x++10::lq r:=by simp[lq]
  rw[this,adr,ad2,ad2];omega
theorem ab0{b p s:Nat}{l:List aO}(hb:b<=999)(hp:p<=999)(hs:s<=999)(hl: ∀x∈l,eV x=true):(iu b p s l).length<=48*l.length+20:=by
 have h1:=Rl hl;have d1:=jY 3 b oM dDq;have d2:=jY 3 p oM dDq;have d3:=jY 3 s oM dDq;have:tj.length=4:=rfl;simp only[iu,adr,ad2];omega
theorem ab1{s:aJ}(h:(ba 32 s).length≠4):kM s=none:=by
 rw[kM];split
 ·rename_i e;rw[e]at h;exact absurd rfl h
 rfl
def oL(ps:List aJ)(j:Nat):Nat:=(bF (ps.getD (j+1) []) 999).getD 0
theorem KJ{s:aJ}{a b c d:aJ}(h:ba 32 s=[a,b,c,d]):kM s=if a=tj then(match bF b 999,bF c 999,bF d 999 with
  |some x,some y,some z=>some (x,y,z)
  |_,_,_=>none)else none:=by rw[kM,h]
theorem Gw{α:Type}{l:List α}(h:l.length=4): ∃a b c d,l=[a,b,c,d]:=by
 match l,h with
 |[a,b,c,d],_=>exact⟨a,b,c,d,rfl⟩
theorem ab2{s:aJ}(h:(ba 32 s).length=4)(h0:(ba 32 s).getD 0 []≠tj):kM s=none:=by
 obtain⟨a,b,c,d,e⟩:=Gw h;rw[KJ e,if_neg];rw[e]at h0;exact h0
theorem ab3{s:aJ}{i:Nat}(h:(ba 32 s).length=4)(hi:i<3)(h0:bF ((ba 32 s).getD (i+1) []) 999=none):kM s=none:=by
 obtain⟨a,b,c,d,e⟩:=Gw h;rw[KJ e];rw[e]at h0;split
 ·
  match i,hi with
  |0,_=>rw[show bF b 999=none from h0]
  |1,_=>rw[show bF c 999=none from h0];split<;>simp_all
  |2,_=>rw[show bF d 999=none from h0];split<;>simp_all
 rfl
theorem ab4{s:aJ}(h:(ba 32 s).length=4)(h0:(ba 32 s).getD 0 []=tj)(hn: ∀j,j<3->(bF ((ba 32 s).getD (j+1) []) 999).isSome=true):kM s=some (oL (ba 32 s) 0,oL (ba 32 s) 1,oL (ba 32 s) 2):=by
 obtain⟨a,b,c,d,e⟩:=Gw h;rw[KJ e,e];rw[e]at h0 hn;obtain⟨x,hx⟩:=auE.1 (hn 0 dDq);obtain⟨y,hy⟩:=auE.1 (hn 1 dDq);obtain⟨z,hz⟩:=auE.1 (hn 2 dDq);have xm:bF b 999=some x:=hx;have xr:bF c 999=some y:=hy;have nW:bF d 999=some z:=hz;have ha:a=tj:=h0;rw[if_pos ha,xm,xr,nW];simp only[oL];rw[show bF ([a,b,c,d].getD (0+1) []) 999=some x from xm,show bF ([a,b,c,d].getD (1+1) []) 999=some y from xr,show bF ([a,b,c,d].getD (2+1) []) 999=some z from nW];rfl
theorem ab5{t:aJ}(h:16384<t.length):fx t=(uG,3,0):=by rw[fx,if_pos h]
theorem ab6{t:aJ}(h: ¬16384<t.length)(h2:gu t=0\/(ba 10 t).getD (gu t) []≠[]):fx t=(uG,2,(gu t:Int)+1):=by rw[fx,if_neg h,if_pos h2]
theorem ab7{t:aJ}(h: ¬16384<t.length)(h2: ¬(gu t=0\/(ba 10 t).getD (gu t) []≠[]))(h3:kM ((ba 10 t).getD 0 [])=none):fx t=(uG,2,1):=by rw[fx,if_neg h,if_neg h2,h3]
theorem ab8{t:aJ}{q:Nat×Nat×Nat}{i:Nat}(h: ¬16384<t.length)(h2: ¬(gu t=0\/(ba 10 t).getD (gu t) []≠[]))(h3:kM ((ba 10 t).getD 0 [])=some q)(hj: ∀j,j<i->kz ((ji t).getD j [])=0)(hi:i<(ji t).length)(he: ¬kz ((ji t).getD i [])=0):fx t=(uG,kz ((ji t).getD i []),(i:Int)+2):=by
 obtain⟨b,p,s⟩:=q;have hb:=abY hj hi he;rw[fx,if_neg h,if_neg h2,h3];simp only;rw[hb,if_pos hi]
theorem ab9{t:aJ}{q:Nat×Nat×Nat}(h: ¬16384<t.length)(h2: ¬(gu t=0\/(ba 10 t).getD (gu t) []≠[]))(h3:kM ((ba 10 t).getD 0 [])=some q)(hj: ∀j,j<(ji t).length->kz ((ji t).getD j [])=0):fx t=if 300<(ji t).length then(uG,3,0)else(⟨(q.1:Nat),(q.2.1:Nat),(q.2.2:Nat),(ji t).map ky⟩,0,0):=by
 obtain⟨b,p,s⟩:=q;have hb:=abZ hj;rw[fx,if_neg h,if_neg h2,h3];simp only;rw[hb,if_neg (Nat.lt_irrefl _)]
theorem aca(t:aJ):(ji t).length=gu t -1:=by
 have h:=avx.2 (CI (c:=10) t);rw[ji,gu,at3,auh];omega
theorem acb{t:aJ}{x:aJ}(h:x∈ji t):x.length<=t.length:=FN t (awD (avU h))
end Go.Kb
namespace Go.Proofs.YtkggjjnhnjjokaaGreatDoor
open Go.ax Go.Kb Go.RowKit Go.Proofs.Tryz
class iH(w:World):Prop extends Tabs w where
 Gx: ∃tp p,w.var? prog "strconv.ErrSyntax" =some #[.iface tp p]
 Gy: ∃tp p,w.var? prog "strconv.ErrRange" =some #[.iface tp p]
instance {w:World}[t:iH w]:Tabs w:=t.toTabs
theorem Rn{w0 w:World}{L:List ai}{P:Program}{n:String}{cs:Array Value}(hv:w0.var? P n=some cs)(h:Mem w0 L w):w.var? P n=some cs:=by
 unfold World.var? at hv⊢
 cases hg:P.globalNamed n with
 |none=>rw[hg]at hv;cases hv
 |some g=>
  simp only[hg,awI]at hv⊢;have J0:g<w0.heap.size:=by
   rcases aud g w0.heap.size with q|q
   ·exact q
   rw[auu q]at hv;cases hv
  rw[h.below.block g J0];exact hv
theorem iH.at{w0 w:World}{L:List ai}(t:iH w0)(h:Mem w0 L w):iH w:=by
 obtain⟨a,b,h1⟩:=t.Gx;obtain⟨c,d,h2⟩:=t.Gy;exact{t.toTabs.at h with Gx:=⟨a,b,Rn h1 h⟩,Gy:=⟨c,d,Rn h2 h⟩}
variable {w0:World}{L:List ai}
instance apA[t:Tabs w0](n:Int64):bV prog 86 w0 L [.int .i64 n.toInt] (.string ⟨(Lib.itoa n.toInt).toArray⟩) True:=⟨fun _ w hw=>by
 have h1:=Int64.le_toInt n;have h2:=Int64.toInt_lt n;refine(Tryz.strconv_Itoa n.toInt oM oM w (t.at hw).pow).mono ?_;rintro e w' ⟨he,k,os,rfl⟩;exact⟨he, .B5 ⟨rfl,rfl,rfl,by show w.heap.size<=(w.heap++os).size;rw[auP];omega,fun j hj=>by show(w.heap++os)[j]? =w.heap[j]?;exact auW hj⟩⟩⟩
theorem acd{z:Int}(h:0<=z):Lib.itoa z=dec z.toNat:=by
 obtain⟨n,rfl⟩: ∃n:Nat,z=(n:Int):=⟨z.toNat,oM⟩;rw[Qg,avb]
instance apB[t:iH w0](s:aJ):bY prog 207 w0 L [.string ⟨s.toArray⟩] (Int×Option (TypeId×Value)) (fun z=> .tuple #[.int .i64 z.1,C0 z.2]) (fun _=>L) (fun z=>(z.2=none->Lib.atoiAll s= .ok z.1)/\(z.2≠none-> ∀v,Lib.atoiAll s≠ .ok v)) (s.length<=281474976710656):=⟨fun hs w hw=>by
 have tb:=t.at hw;obtain⟨tp,p,hv⟩:=tb.Gx;obtain⟨tq,q,hr⟩:=tb.Gy;have hz:(⟨s.toArray⟩:ByteArray).size<=281474976710656:=by rw[sX];exact hs
 cases h:Lib.atoiAll s
 ·
  rename_i v
  refine(Tryz.strconv_Atoi_ok ⟨s.toArray⟩ oM v h w).mono ?_;rintro e w' ⟨he,hK⟩;refine⟨(v,none),he,⟨fun _=>rfl,fun g=>absurd rfl g⟩,hw.step ?_⟩;rcases hK with rfl|⟨t,rfl⟩
  ·exact Below.refl _ _
  exact Lib.bytesWorld_below _ _ _
 ·
  refine(Tryz.strconv_Atoi_syntax_var ⟨s.toArray⟩ hz h tp p w hv).mono ?_;rintro e w' ⟨N,he,_,_,hb⟩;refine⟨(0,some (_,_)),he,?_,hw.step hb⟩;constructor
  ·intro g;cases g
  intro _ v g;cases g
 ·
  refine(Tryz.strconv_Atoi_range_var ⟨s.toArray⟩ hz h tq q w hr).mono ?_;rintro e w' ⟨N,he,_,_,hb⟩;refine⟨(_,some (_,_)),he,?_,hw.step hb⟩;constructor
  ·intro g;cases g
  intro _ v g;cases g⟩
def GA(n:Nat):aJ:=if n<10 then[UInt8.ofNat (48+n)]else if n<100 then[UInt8.ofNat (48+n/10),UInt8.ofNat (48+n%10)]else[UInt8.ofNat (48+n/10/10),UInt8.ofNat (48+n/10%10),UInt8.ofNat (48+n%10)]
theorem ace{n:Nat}(h:n<1000):dec n=GA n:=by
 rw[GA];split
 ·rename_i h1;exact qm h1
 split
 ·rename_i h1 h2;rw[sV (n:=n) oM,qm (n:=n/10) oM];rfl
 rename_i h1 h2;rw[sV (n:=n) oM,sV (n:=n/10) oM,qm (n:=n/10/10) oM];rfl
def Ro(n:Nat):Bool:=match Lib.atoiAll (GA n)with
 | .ok v=>decide (v=(n:Int))
 |_=>false
theorem acf: ∀n,n<1000->Ro n=true:=by decide+kernel
theorem acg(n:Nat)(h:n<1000):Lib.atoiAll (dec n)= .ok (n:Int):=by
 have h1:=acf n h;rw[Ro]at h1;rw[ace h]
 cases hq:Lib.atoiAll (GA n)
 ·rename_i v;rw[hq]at h1;rw[of_decide_eq_true h1]
 all_goals (rw[hq]at h1;cases h1)
theorem ach{s:aJ}{z:Int}(h:Lib.atoiAll s= .ok z)(h0:0<=z)(h9:z<=999)(he:dec z.toNat=s):bF s 999=some z.toNat:=jX.2 ⟨he.symm,oM⟩
theorem aci{s:aJ}{n:Nat}(h:bF s 999=some n):s=dec n/\n<=999/\Lib.atoiAll s= .ok (n:Int):=by
 obtain⟨h1,h2⟩:=jX.1 h;exact⟨h1,h2,by rw[h1];exact acg n oM⟩
instance apC{k:Int}:bV prog 87 w0 L [.int .i64 k] (.string ⟨(dU k).toArray⟩) (True):=⟨fun aC w hw=>by
 refine cx func87 rfl ntmps87 rfl ?_;refine fS ?_;refine Gb ?_ ?_<;>intro h0
 ·refine al ?_;refine Gr fun w1 hw=>?_;exact⟨(by rw[dU,if_pos h0]),ah.mem hw⟩
 refine ar ?_;refine Gb ?_ ?_<;>intro h1
 ·refine al ?_;refine Gr fun w1 hw=>?_;exact⟨(by rw[dU,if_neg h0,if_pos h1]),ah.mem hw⟩
 refine ar ?_;refine Gb ?_ ?_<;>intro h2
 ·refine al ?_;refine Gr fun w1 hw=>?_;exact⟨(by rw[dU,if_neg h0,if_neg h1,if_pos h2]),ah.mem hw⟩
 refine ar ?_;refine Gb ?_ ?_<;>intro h3
 ·refine al ?_;refine Gr fun w1 hw=>?_;exact⟨(by rw[dU,if_neg h0,if_neg h1,if_neg h2,if_pos h3]),ah.mem hw⟩
 refine ar ?_;refine Gb ?_ ?_<;>intro h4
 ·refine al ?_;refine Gr fun w1 hw=>?_;exact⟨(by rw[dU,if_neg h0,if_neg h1,if_neg h2,if_neg h3,if_pos h4]),ah.mem hw⟩
 refine ar ?_;refine Gb ?_ ?_<;>intro h5
 ·refine al ?_;refine Gr fun w1 hw=>?_;exact⟨(by rw[dU,if_neg h0,if_neg h1,if_neg h2,if_neg h3,if_neg h4,if_pos h5]),ah.mem hw⟩
 refine ar ?_;refine Gb ?_ ?_<;>intro h6
 ·refine al ?_;refine Gr fun w1 hw=>?_;exact⟨(by rw[dU,if_neg h0,if_neg h1,if_neg h2,if_neg h3,if_neg h4,if_neg h5,if_pos h6]),ah.mem hw⟩
 refine ar ?_;refine Gb ?_ ?_<;>intro h7
 ·refine al ?_;refine Gr fun w1 hw=>?_;exact⟨(by rw[dU,if_neg h0,if_neg h1,if_neg h2,if_neg h3,if_neg h4,if_neg h5,if_neg h6,if_pos h7]),ah.mem hw⟩
 refine al ?_;refine Gr fun w1 hw=>?_;exact⟨(by rw[dU,if_neg h0,if_neg h1,if_neg h2,if_neg h3,if_neg h4,if_neg h5,if_neg h6,if_neg h7]),ah.mem hw⟩⟩
instance apD{s:List UInt8}:bV prog 148 w0 L [.string ⟨s.toArray⟩] (.int .i64 ((br s):Nat)) (True):=⟨fun aC w hw=>by
 refine cx func148 rfl ntmps148 rfl ?_;refine aP ?_;refine cg (X:=Nat) (fun U=>[(3, .int .i64 (U:Nat)),(0, .string ⟨s.toArray⟩)]) (fun U=>[]) (fun U=>1<=U/\U<=9/\ ∀j:Nat,1<=j->j<U-> ¬dU (j:Int)=s) (fun U=>9 -U) 1 ⟨Nat.le_refl _,dDq,fun j h1 h2=>by first|omega|(simp only[];omega)⟩ sb (fun w hw=>ah.mem hw) ?_;rintro k ⟨C5,oy,GB⟩;refine ar ?_;refine Gb ?_ ?_<;>intro h0
 ·
  refine ar ?_;refine ag (yT rfl rfl) (Gc ?_);refine Gb ?_ ?_<;>intro h1
  ·refine ar ?_;refine Gr fun w1 hw=>?_;exact Gf ((by rw[Q5 C5 oM h1])) hw
  have h1q: ¬dU (k:Int)=s:=by simpa using h1
  refine ar ?_;refine Gi ?_;exact bo (x:=(k)) (k+1) ⟨oF,oF,fun j h1 h2=>if e:j=k then(by subst e;exact h1q)else GB j h1 oF⟩ oF sb (fun w hw=>ah.mem hw)
 refine al ?_;refine Gr fun w1 hw=>?_;exact⟨congrArg (fun b=>Ending.returned (Value.int .i64 b)) ((by rw[abJ fun j g1 g2=>GB j g1 oM];rfl)),ah.mem hw⟩⟩
end Go.Proofs.YtkggjjnhnjjokaaGreatDoor
