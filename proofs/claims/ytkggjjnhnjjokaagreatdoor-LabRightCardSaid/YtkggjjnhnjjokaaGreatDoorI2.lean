/- Laws and walks by which the law LabRight is proved, each with its own conditions. -/
import Derived.Test.YtkggjjnhnjjokaaGreatDoorI1
import Derived.Lib.Join
import Derived.Test.YtkggjjnhnjjokaaGreatDoorRows
import Derived.Shelf.Strings.Builder1
import Derived.Shelf.Strings.Builder2
import Derived.Shelf.Strings.OnBuilder
import Derived.Shelf.Small.Strs
import Derived.Shelf.Strings.BuilderF
import Derived.Shelf.Strings.BuilderK
import Derived.Shelf.Utf8.RuneCount
import Derived.Shelf.Strconv.Atoi
import Derived.Shelf.Strconv.Itoa0
import Derived.Shelf.Strconv.Itoa1
import Derived.Shelf.Strconv.Itoa2
import Derived.Shelf.Strconv.Itoa3
import Derived.Shelf.Strconv.AtoiErrFast
import Derived.Shelf.Strconv.ParseIntEmpty
import Derived.Shelf.Strconv.AtoiFail
import Derived.Shelf.Strconv.Clone
import Derived.Shelf.Strconv.SyntaxError
import Derived.Shelf.LaysC
import Derived.Shelf.Strconv.ToError
import Derived.Shelf.Strconv.Lower
import Derived.Shelf.Strconv.ParseUint10
import Derived.Shelf.Strconv.ParseUint10Empty
import Derived.Shelf.Strconv.ParseUint10Any
import Derived.Shelf.Strconv.ParseInt10
import Derived.Shelf.Strconv.AtoiLong
import Derived.Shelf.Strconv.AtoiInnerAll
import Derived.Shelf.Strconv.RangeError
import Derived.Shelf.Strconv.ToErrorRange
import Derived.Shelf.Strconv.AtoiAll
import Derived.Shelf.Strconv.ErrVarAll
import Derived.Shelf.Strings.Search2
import Derived.Shelf.Strings.Search3
import Derived.Shelf.Strings.Cut
import Derived.Shelf.Strings.Count
import Derived.Shelf.Strings.Shaped
import Derived.Shelf.Strings.Split
import Derived.Shelf.Strings.SplitShaped
import Derived.Shelf.Unicode.Decode
import Derived.Shelf.Strings.RuneCount
import Derived.Shelf.Strings.Explode
import Derived.Shelf.Unicode.DecodeSlow
import Derived.Shelf.Unicode.DecodeAny
set_option maxRecDepth 20000
set_option linter.unusedSimpArgs false
set_option linter.unusedVariables false
namespace Go.Kb
open Go.ay
variable {s:aB} {i n top:Nat} {c:UInt8}
def qe(c:UInt8):Int:=match iE c with
 |some n=>(n:Int)
 |none=> -1
def fg(s:aB)(top:Nat):Int:=match bj s top with
 |some n=>(n:Int)
 |none=> -1
theorem Fh(h:i<s.length):s.take (i+1)=s.take i++[s.getD i 0]:=by
 rw[List.take_succ_eq_append_getElem h];simp[List.getD,h]
theorem zY(h:i<s.length):val (s.take (i+1))=10*val (s.take i)+((s.getD i 0).toNat -48):=by rw[Fh h,Cc]
theorem Fi(h:i<s.length)(h1:(s.take i).all jg=true)(h2:48<=(s.getD i 0).toNat/\(s.getD i 0).toNat<=57):(s.take (i+1)).all jg=true:=by
 rw[Fh h,List.all_append,h1];simp only[anQ,anY,jg];simpa using h2
theorem KE: ∀k (s:aB),s.length=k->s.all jg=true->val s<10^k:=by
 intro k
 induction k with
 |zero=>intro s hl _;rw[amB.1 hl];simp[val]
 |succ k ih=>
  intro s hl hd;obtain⟨t,c,rfl⟩: ∃t c,s=t++[c]:=by
   rcases List.eq_nil_or_concat s with h|⟨t,c,h⟩
   ·
    subst h;simp at hl
   exact⟨t,c,by simpa using h⟩
  rw[List.all_append,alM]at hd;have hc:48<=c.toNat/\c.toNat<=57:=by
   have:=hd.2;simpa[jg]using this
  have:=ih t (by simpa using hl) hd.1;rw[Cc,Nat.pow_succ];omega
theorem KF(h:i<=5)(hi:i<=s.length)(h1:(s.take i).all jg=true):val (s.take i)<100000:=by
 have:=KE i (s.take i) (by simp;omega) h1;exact ant this (ank (by decide) h)
theorem SP(a b:aB):val a<=val (a++b):=by
 have key: ∀(b:aB) (m:Nat),m<=b.foldl (fun a c=>10*a+(c.toNat -48)) m:=by
  intro b
  induction b with
  |nil=>intro m;exact amz _
  |cons x b ih=>intro m;exact Nat.le_trans (show m<=10*m+(x.toNat -48) by omega) (ih _)
 unfold val;rw[anT];exact key b _
theorem Fj(h:0<s.length):s.head?=some (s.getD 0 0):=by
 cases s with
 |nil=>simp at h
 |cons x s=>rfl
theorem Fk(ht:top<=65535)(h:s.length=0\/5<s.length\/(1<s.length/\(s.getD 0 0).toNat=48)):bj s top=none:=by
 cases e:bj s top with
 |none=>rfl
 |some n=>
  obtain⟨rfl,hn⟩:=gZ.1 e;have hl:=iV 5 n (by omega) (by decide);have hp:=E5 n;have h0:=anf.2 hp.1;rcases h with h|h|⟨h,h2⟩
  ·
   omega
  ·
   omega
  rcases hp.2 with h3|h3
  ·
   omega
  rw[Fj h0]at h3;exact absurd (congrArg some (an5.1 h2:(dec n).getD 0 0=48)) h3
theorem SQ(h:s=[]\/(1<s.length/\(s.getD 0 0).toNat=48)):bj s top=none:=by
 cases e:bj s top with
 |none=>rfl
 |some n=>
  obtain⟨rfl,hn⟩:=gZ.1 e;have hp:=E5 n;have h0:=anf.2 hp.1;rcases h with h|⟨h,h2⟩
  ·
   exact absurd h hp.1
  rcases hp.2 with h3|h3
  ·
   omega
  rw[Fj h0]at h3;exact absurd (congrArg some (an5.1 h2:(dec n).getD 0 0=48)) h3
theorem Fl(h:i<s.length)(h2:(s.getD i 0).toNat<48\/57<(s.getD i 0).toNat):bj s top=none:=by
 cases e:bj s top with
 |none=>rfl
 |some n=>
  obtain⟨rfl,hn⟩:=gZ.1 e;have:=amt.1 (E3 n) ((dec n).getD i 0) (by simp[List.getD,h]);simp only[jg,decide_eq_true_eq]at this;omega
theorem KG(h:top<val (s.take i)):bj s top=none:=by
 cases e:bj s top with
 |none=>rfl
 |some n=>
  obtain⟨rfl,hn⟩:=gZ.1 e;have:=SP ((dec n).take i) ((dec n).drop i);rw[amO,E4]at this;omega
theorem Fm(h:s≠[])(h1: ¬(1<s.length/\(s.getD 0 0).toNat=48))(h2:s.all jg=true)(h3:val s<=top):bj s top=some (val s):=by
 unfold bj;rw[if_pos];refine⟨h,?_,h2,h3⟩;have h0:=anf.2 h;rcases amv 1 s.length with h4|h4
 ·
  right;rw[Fj h0];intro e;exact h1 ⟨h4,by rw[amn e];rfl⟩
 exact .inl h4
variable {s:aB} {i n st:Nat} {c:UInt8}
theorem SR(h:i<s.length)(hs:st<=i):s.drop st=(s.drop st).take (i -st)++s.getD i 0::s.drop (i+1):=by
 have h1:s.drop st=(s.drop st).take (i -st)++(s.drop st).drop (i -st):=(amO _ _).symm;rw[aox,show st+(i -st)=i by omega]at h1;have h2:s.drop i=s.getD i 0::s.drop (i+1):=by
  rw[anJ h];simp[List.getD,h]
 rw[h2]at h1;exact h1
theorem SS(h:i<s.length)(hs:st<=i)(he:(s.getD i 0).toNat=c.toNat)(hc:c∉(s.drop st).take (i -st)):aE c (s.drop st)=(s.drop st).take (i -st)::aE c (s.drop (i+1)):=by
 have e:s.getD i 0=c:=an5.1 he;have h1:=SR h hs;rw[e]at h1;have:=vI (c:=c) (t:=s.drop (i+1)) hc;rw[←h1]at this;exact this
theorem KH(hs:st<=i)(hi:i=s.length)(hc:c∉(s.drop st).take (i -st)):aE c (s.drop st)=[(s.drop st).take (i -st)]:=by
 have e:(s.drop st).take (i -st)=s.drop st:=amr (by simp;omega);rw[e]at hc⊢;exact vH hc
theorem SU(h:i<s.length)(hs:st<=i)(he:(s.getD i 0).toNat≠c.toNat)(hc:c∉(s.drop st).take (i -st)):c∉(s.drop st).take (i+1 -st):=by
 rw[show i+1 -st=(i -st)+1 by omega];have hl:i -st<(s.drop st).length:=by simp;omega
 rw[Fh hl,amM];rintro(h1|h1)
 ·
  exact hc h1
 have e:(s.drop st).getD (i -st) 0=s.getD i 0:=by simp[List.getD,show st+(i -st)=i by omega]
 rw[e]at h1;exact he (by rw[amS.1 h1])
def po(c:UInt8)(s:aB)(i st:Nat)(ps:List aB):Prop:=(i<=s.length/\st<=i/\aE c s=ps++aE c (s.drop st)/\c∉(s.drop st).take (i -st))\/(i=s.length+1/\ps=aE c s)
theorem SV(c:UInt8)(s:aB):po c s 0 0 []:= .inl ⟨Nat.zero_le _,amz _,rfl,by simp⟩
variable {ps:List aB}
theorem po.hit(h:po c s i st ps)(hi:i<=s.length)(he:i=s.length\/(s.getD i 0).toNat=c.toNat):po c s (i+1) (i+1) (ps++[(s.drop st).take (i -st)]):=by
 rcases h with⟨h1,h2,h3,h4⟩|⟨h1,_⟩
 ·
  by_cases hl:i=s.length
  ·
   exact .inr ⟨by omega,by rw[h3,KH h2 hl h4]⟩
  have og:(s.getD i 0).toNat=c.toNat:=he.resolve_left hl;exact .inl ⟨by omega,amz _,by rw[h3,SS (by omega) h2 og h4];simp,by simp⟩
 omega
theorem po.SW(h:po c s i st ps)(hi:i<=s.length)(he: ¬(i=s.length\/(s.getD i 0).toNat=c.toNat)):po c s (i+1) st ps:=by
 rcases h with⟨h1,h2,h3,h4⟩|⟨h1,_⟩
 ·
  exact .inl ⟨by omega,by omega,h3,SU (by omega) h2 (fun e=>he (.inr e)) h4⟩
 omega
theorem po.done(h:po c s i st ps)(hi:s.length<i):ps=aE c s:=by
 rcases h with⟨h1,_⟩|⟨_,h2⟩
 ·
  omega
 exact h2
theorem po.le(h:po c s i st ps)(hi:i<=s.length):st<=i/\i<=s.length:=by
 rcases h with⟨_,h2,_⟩|⟨h1,_⟩
 ·
  exact⟨h2,hi⟩
 omega
theorem ri{x:aB}: ∀(s:aB),x∈aE c s->x.length<=s.length:=by
 intro s;have key: ∀n (s:aB),s.length<=n->x∈aE c s->x.length<=s.length:=by
  intro n
  induction n with
  |zero=>
   intro s hs hx;obtain rfl:=amB.1 (Nat.le_zero.1 hs);simp[aE]at hx;simp[hx]
  |succ n ih=>
   intro s hs hx;rcases xz (c:=c) s with⟨_,h2⟩|⟨a,b,h1,_,h3⟩
   ·
    rw[h2,amS]at hx;rw[hx];exact amz _
   rw[h3,amA]at hx;have hl:s.length=a.length+(b.length+1):=by rw[h1];simp
   rcases hx with rfl|hx
   ·
    omega
   have:=ih b (by omega) hx;omega
 exact key s.length s (amz _)
variable {k:Key} {i n:Nat} {s:aB} {c:UInt8}
def lT(k:Key):List UInt8:=(List.range 16).map fun i=>UInt8.ofNat (aX k i)
theorem SX(k:Key)(h:i<16):(lT k)[i]? =some (UInt8.ofNat (aX k i)):=by simp[lT,h]
theorem KI(k:Key)(i:Nat):(UInt8.ofNat (aX k i)).toNat=aX k i:=by
 have:=fJ k i;rw[UInt8.toNat_ofNat'];omega
theorem Ck(k:Key):((lT k).take 4).length=4:=by simp[lT]
variable {w0:World}{L:List ah}
instance acC{b j:Nat}{T:TypeId}[h:Has L b (bw k) T j]:Hd w0 L ⟨false,b,0,4,16,none⟩ aL 1 ((lT k).take 4):=⟨fun w hw=>by
 have hb:hp w b=some (.cells (bw k) T (0,0)):=hw.get h.h;refine⟨⟨(fun e=>Bool.noConfusion e),(by show 4<=16;decide),(by show 4<=140737488355328;decide),fun _=>rfl⟩,(Ck k).symm,fun i x hx m hm=>?_⟩;obtain rfl:m=0:=by omega
 have hi:i<4:=by
  have:=(zz.1 hx).1;rw[Ck]at this;exact this
 rw[anO,if_pos hi,SX k (by omega)]at hx;obtain rfl:=amn hx;have e:ll (hp w) b (0+i*1+0)=(bw k)[i]? :=by
  unfold ll;rw[hb];simp
 rw[e,fK k i (by omega)];show some (Value.int .u8 ((aX k i:Nat):Int))=some (Value.int .u8 ((UInt8.ofNat (aX k i)).toNat:Nat));rw[KI]⟩
section
variable {P:Program} {N:cc} {w0:World} {env:Env} {L:List ah} {d:Option Tmp} {ty t u:TypeId} {ps:String} {af:Array Edge} {gd:Option (Nat×Bool)}
theorem SY{e:TypeId}{x ix:Operand}{kk:IntKind}{j:Int}(hu:P.underlying t=some (.array 16 e))[he:ft P e](hx:ev env x=some (.agg (bw k)))(hj:ev env ix=some (.int kk j))(b:Nat)(ej:j=(b:Int))(hb:b<16):
  Ry P N w0 env L ⟨d, .index t x ix,ty,ps,af,gd⟩ (.int .u8 ((aX k b:Nat):Int)):=fun ac w ha _=>by
 subst ej;obtain⟨⟨de,h1,h2⟩,h3⟩:=he;have g:(b:Int)<((16:Nat):Int):=by omega
 have hk:(bw k)[b]! = .int .u8 ((aX k b:Nat):Int):=by
  rw[getElem!_def,fK k b hb]
 have qa:(bw k)[b]? =some (.int .u8 ((aX k b:Nat):Int)):=fK k b hb;simp only[execOp,ha.ev hx,ha.ev hj,Instr.index,asIntOf,Sem.run_bind,run_underlying hu,Result.andThen,Sem.run_pure,Int.natCast_nonneg,true_and,g,if_true,am1,jW w h3,part,zo w h1,h2,an0,hk,qa];rfl
end
def rj(sep:aB)(xs:List aB):aB:=Lib.join xs sep
theorem Fo(c:UInt8)(a b:aB):rj [c] [a,b]=a++c::b:=by simp[rj,Lib.join,List.intercalate]
theorem KJ(k:Key):rj [46] (((lT k).take 4).map fun b=>dec b.toNat)=pn k:=by
 have e:(lT k).take 4=[UInt8.ofNat (aX k 0),UInt8.ofNat (aX k 1),UInt8.ofNat (aX k 2),UInt8.ofNat (aX k 3)]:=rfl;rw[e];simp only[amR,anl,KI];simp[rj,Lib.join,List.intercalate,pn]
def iF(k:Key)(n:Int):Bool:=bO ⟨n,n,k⟩
def ik(k:Key)(n:Int):aB:=if iF k n=true then nE k n else[]
def eo(b:Bool):Int:=if b=true then 0 else 1
theorem SZ(k:Key)(h:i<32):((⟨([48,49,50,51,52,53,54,55,56,57,97,98,99,100,101,102]:aB).toArray⟩:ByteArray)[eF k i]?).map (·.toNat)=some (gv (eF k i)).toNat:=by
 have hn:=vM k i;have key: ∀n,n<16->((⟨([48,49,50,51,52,53,54,55,56,57,97,98,99,100,101,102]:aB).toArray⟩:ByteArray)[n]?).map (·.toNat)=some (gv n).toNat:=by decide
 exact key _ hn
theorem S0(h:n<16):(gv n).toNat<128:=by
 rw[Kx h];split<;>omega
theorem Fp(k:Key)(h:i<32):(lv k).take (i+1)=(lv k).take i++[gv (eF k i)]:=by
 rw[amq,Ff k h];rfl
theorem KK(k:Key)(h:i<32):qb k (i:Int)=((eF k i:Nat):Int):=by
 rcases Nat.mod_two_eq_zero_or_one i with e|e
 ·
  rw[Sx k i (by omega) (by omega) (by omega),eF,if_pos e];rw[show((i:Int)/2).toNat=i/2 by omega]
 rw[Sy k i (by omega) (by omega) (by omega),eF,if_neg (by omega)];rw[show((i:Int)/2).toNat=i/2 by omega]
theorem KL{k:Key}{n:Int}:iF k n=true↔(n=32\/n=128)/\dE k n=k:=by
 unfold iF;simp only[bO,alM,anp,decide_eq_true_eq];constructor
 ·
  intro h;exact⟨by omega,by simp_all⟩
 intro h;simp_all;omega
theorem S1{k:Key}{n:Int}(h: ¬(n=32\/n=128)):iF k n=false:=by
 rw[←Bool.not_eq_true,KL];exact fun e=>h e.1
theorem S2{k:Key}{n:Int}(h:n=32\/n=128):iF k n=decide (dE k n=k):=by
 rw[Bool.eq_iff_iff,KL,decide_eq_true_iff];exact⟨fun e=>e.2,fun e=>⟨h,e⟩⟩
variable {k:Key} {i:Nat}
theorem KM(n:Nat)(h:n<16):((⟨([48,49,50,51,52,53,54,55,56,57,97,98,99,100,101,102]:aB).toArray⟩:ByteArray)[n]?).map (·.toNat)=some (gv n).toNat:=by
 have key: ∀n,n<16->((⟨([48,49,50,51,52,53,54,55,56,57,97,98,99,100,101,102]:aB).toArray⟩:ByteArray)[n]?).map (·.toNat)=some (gv n).toNat:=by decide
 exact key n h
theorem S3(k:Key)(i:Nat):aX k i/2^4=eF k (2*i):=by
 rw[eF,if_pos (by omega),show 2*i/2=i by omega]
theorem S4(k:Key)(i:Nat):aX k i&&&15=eF k (2*i+1):=by
 rw[eF,if_neg (by omega),show(2*i+1)/2=i by omega];exact Nat.and_two_pow_sub_one_eq_mod _ 4
theorem S5(k:Key)(i:Nat):((⟨([48,49,50,51,52,53,54,55,56,57,97,98,99,100,101,102]:aB).toArray⟩:ByteArray)[aX k i/2^4]?).map (·.toNat)=some (gv (eF k (2*i))).toNat:=by
 rw[S3];exact KM _ (vM k _)
theorem S6(k:Key)(i:Nat):((⟨([48,49,50,51,52,53,54,55,56,57,97,98,99,100,101,102]:aB).toArray⟩:ByteArray)[aX k i&&&15]?).map (·.toNat)=some (gv (eF k (2*i+1))).toNat:=by
 rw[S4];exact KM _ (vM k _)
theorem S7(k:Key)(h:i<16):(lv k).take (2*(i+1))=(lv k).take (2*i)++[gv (eF k (2*i)),gv (eF k (2*i+1))]:=by
 rw[show 2*(i+1)=2*i+1+1 by omega,Fp k (by omega),Fp k (by omega),ams];rfl
theorem S8(h:i<4){x:UInt8}(hx:((lT k).take 4)[i]? =some x):((((lT k).take 4).take (i+1)).map fun b=>dec b.toNat)=((((lT k).take 4).take i).map fun b=>dec b.toNat)++[dec x.toNat]:=by
 rw[amq,hx,am0];rfl
theorem KN(k:Key):(pn k).length<=15:=by
 have q0:=fJ k 0;have q1:=fJ k 1;have q2:=fJ k 2;have q3:=fJ k 3;have l0:=iV 3 (aX k 0) (by omega) (by decide);have l1:=iV 3 (aX k 1) (by omega) (by decide);have l2:=iV 3 (aX k 2) (by omega) (by decide);have l3:=iV 3 (aX k 3) (by omega) (by decide);simp only[pn,adr,ad2];omega
theorem Cl(k:Key)(n:Int):(ik k n).length<=32:=by
 have:=KN k;have:=vP k;unfold ik nE;split
 ·
  split<;>omega
 simp
theorem S9(k:Key):(((lT k).take 4).map fun b=>dec b.toNat)≠[]/\(rj [46] (((lT k).take 4).map fun b=>dec b.toNat)).length<=140737488355328:=by
 refine⟨fun e=>?_,by rw[KJ];have:=KN k;omega⟩;have:=congrArg List.length e;rw[amF,Ck]at this;cases this
def iX(p:cz):aB:=if bO p=true then rh p else[]
def iG(r:Rt):aB:=if bO r.p=true then vQ r else[]
theorem Fq{p:cz}(h:bO p=true):iF p.key p.bits=true/\0<=p.len/\p.len<=128:=by
 obtain⟨h1,h2,h3,h4⟩:=(vL p).1 h;refine⟨?_,by omega,by omega⟩;rw[iF,vL];exact⟨h1,by show 0<=p.bits;omega,ann _,fun j hj dk=>h4 j hj (by have:p.bits<=(j:Int):=dk;omega)⟩
theorem KO(a b:aB)(c:UInt8)(h:a.length+b.length<=1000):[a,b]≠[]/\(rj [c] [a,b]).length<=140737488355328:=by
 refine⟨by simp,?_⟩;rw[Fo,adr,ad2];omega
theorem Cm(p:cz):(iX p).length<=36:=by
 unfold iX;split
 ·
  rename_i h;obtain⟨h1,h2,h3⟩:=Fq h;have hk:=Cl p.key p.bits;rw[ik,if_pos h1]at hk;have:=iV 3 p.len.toNat (by omega) (by decide);simp only[rh,adr,ad2];omega
 simp
end Go.Kb
namespace Go.Proofs.YtkggjjnhnjjokaaGreatDoor
open Go.ay
instance acD:ft Tryz.prog 3:=⟨⟨_,Tryz.underlying3,rfl⟩,by kernel_rfl⟩
instance acE:kh Tryz.prog 3 .i64:=⟨Tryz.underlying3⟩
instance acF:ft Tryz.prog 4:=⟨⟨_,Tryz.underlying4,rfl⟩,by kernel_rfl⟩
instance acG:ft Tryz.prog 5:=⟨⟨_,Tryz.underlying5,rfl⟩,by kernel_rfl⟩
instance acH:kh Tryz.prog 5 .u8:=⟨Tryz.underlying5⟩
instance acI:ft Tryz.prog 9:=⟨⟨_,Tryz.underlying9,rfl⟩,by kernel_rfl⟩
instance acJ:kh Tryz.prog 21 .i32:=⟨Tryz.underlying21⟩
instance acK:ft Tryz.prog 22:=⟨⟨_,Tryz.underlying22,rfl⟩,by kernel_rfl⟩
instance acL:ei Tryz.prog 22 34 19:=⟨Tryz.underlying22,by kernel_rfl⟩
instance acM:eX Tryz.prog 25 16:=⟨⟨_,Tryz.underlying25,rfl⟩,by kernel_rfl⟩
instance acN:ua Tryz.prog 25 16 1:=⟨⟨_,Tryz.underlying25,by kernel_rfl⟩⟩
instance acO:kh Tryz.prog 26 .u32:=⟨Tryz.underlying26⟩
instance acP:ft Tryz.prog 27:=⟨⟨_,Tryz.underlying27,rfl⟩,by kernel_rfl⟩
instance acQ:kh Tryz.prog 27 .u16:=⟨Tryz.underlying27⟩
instance acR:eX Tryz.prog 32 18:=⟨⟨_,Tryz.underlying32,rfl⟩,by kernel_rfl⟩
instance acS:cH Tryz.prog 32 0 0:=⟨⟨_,_,0,Tryz.underlying32,rfl,rfl,by kernel_rfl⟩⟩
instance acT:cH Tryz.prog 32 1 1:=⟨⟨_,_,0,Tryz.underlying32,rfl,rfl,by kernel_rfl⟩⟩
instance acU:cH Tryz.prog 32 2 2:=⟨⟨_,_,15,Tryz.underlying32,rfl,rfl,by kernel_rfl⟩⟩
instance acV:eX Tryz.prog 34 19:=⟨⟨_,Tryz.underlying34,rfl⟩,by kernel_rfl⟩
instance acW:cH Tryz.prog 34 0 0:=⟨⟨_,_,17,Tryz.underlying34,rfl,rfl,by kernel_rfl⟩⟩
instance acX:cH Tryz.prog 34 1 18:=⟨⟨_,_,0,Tryz.underlying34,rfl,rfl,by kernel_rfl⟩⟩
instance acY:ft Tryz.prog 45:=⟨⟨_,Tryz.underlying45,rfl⟩,by kernel_rfl⟩
instance acZ:ei Tryz.prog 45 47 20:=⟨Tryz.underlying45,by kernel_rfl⟩
instance ac0:eX Tryz.prog 47 20:=⟨⟨_,Tryz.underlying47,rfl⟩,by kernel_rfl⟩
instance ac1:cH Tryz.prog 47 0 0:=⟨⟨_,_,18,Tryz.underlying47,rfl,rfl,by kernel_rfl⟩⟩
instance ac2:cH Tryz.prog 47 1 19:=⟨⟨_,_,0,Tryz.underlying47,rfl,rfl,by kernel_rfl⟩⟩
instance ac3:ft Tryz.prog 53:=⟨⟨_,Tryz.underlying53,rfl⟩,by kernel_rfl⟩
instance ac4:ei Tryz.prog 53 5 1:=⟨Tryz.underlying53,by kernel_rfl⟩
instance ac5:ft Tryz.prog 56:=⟨⟨_,Tryz.underlying56,rfl⟩,by kernel_rfl⟩
instance ac6:ei Tryz.prog 56 180 4:=⟨Tryz.underlying56,by kernel_rfl⟩
instance ac7:ft Tryz.prog 57:=⟨⟨_,Tryz.underlying57,rfl⟩,by kernel_rfl⟩
instance ac8:ei Tryz.prog 57 97 4:=⟨Tryz.underlying57,by kernel_rfl⟩
instance ac9:eX Tryz.prog 59 6:=⟨⟨_,Tryz.underlying59,rfl⟩,by kernel_rfl⟩
instance ada:cH Tryz.prog 59 0 0:=⟨⟨_,_,0,Tryz.underlying59,rfl,rfl,by kernel_rfl⟩⟩
instance adb:cH Tryz.prog 59 1 1:=⟨⟨_,_,0,Tryz.underlying59,rfl,rfl,by kernel_rfl⟩⟩
instance ade:cH Tryz.prog 59 2 2:=⟨⟨_,_,0,Tryz.underlying59,rfl,rfl,by kernel_rfl⟩⟩
instance adf:cH Tryz.prog 59 3 3:=⟨⟨_,_,0,Tryz.underlying59,rfl,rfl,by kernel_rfl⟩⟩
instance adg:cH Tryz.prog 59 4 4:=⟨⟨_,_,0,Tryz.underlying59,rfl,rfl,by kernel_rfl⟩⟩
instance adh:cH Tryz.prog 59 5 5:=⟨⟨_,_,0,Tryz.underlying59,rfl,rfl,by kernel_rfl⟩⟩
instance adi:ft Tryz.prog 60:=⟨⟨_,Tryz.underlying60,rfl⟩,by kernel_rfl⟩
instance adj:ei Tryz.prog 60 3 1:=⟨Tryz.underlying60,by kernel_rfl⟩
instance adk:ft Tryz.prog 61:=⟨⟨_,Tryz.underlying61,rfl⟩,by kernel_rfl⟩
instance adl:kh Tryz.prog 61 .u64:=⟨Tryz.underlying61⟩
instance adm:eX Tryz.prog 63 9:=⟨⟨_,Tryz.underlying63,rfl⟩,by kernel_rfl⟩
instance adn:cH Tryz.prog 63 0 0:=⟨⟨_,_,5,Tryz.underlying63,rfl,rfl,by kernel_rfl⟩⟩
instance ado:cH Tryz.prog 63 1 6:=⟨⟨_,_,0,Tryz.underlying63,rfl,rfl,by kernel_rfl⟩⟩
instance adp:cH Tryz.prog 63 2 7:=⟨⟨_,_,0,Tryz.underlying63,rfl,rfl,by kernel_rfl⟩⟩
instance adq:cH Tryz.prog 63 3 8:=⟨⟨_,_,0,Tryz.underlying63,rfl,rfl,by kernel_rfl⟩⟩
instance ads:eX Tryz.prog 65 10:=⟨⟨_,Tryz.underlying65,rfl⟩,by kernel_rfl⟩
instance adt:cH Tryz.prog 65 0 0:=⟨⟨_,_,8,Tryz.underlying65,rfl,rfl,by kernel_rfl⟩⟩
instance adu:cH Tryz.prog 65 1 9:=⟨⟨_,_,0,Tryz.underlying65,rfl,rfl,by kernel_rfl⟩⟩
instance adv:eX Tryz.prog 73 38:=⟨⟨_,Tryz.underlying73,rfl⟩,by kernel_rfl⟩
instance adw:cH Tryz.prog 73 0 0:=⟨⟨_,_,0,Tryz.underlying73,rfl,rfl,by kernel_rfl⟩⟩
instance adx:cH Tryz.prog 73 1 1:=⟨⟨_,_,18,Tryz.underlying73,rfl,rfl,by kernel_rfl⟩⟩
instance ady:cH Tryz.prog 73 2 20:=⟨⟨_,_,15,Tryz.underlying73,rfl,rfl,by kernel_rfl⟩⟩
instance adz:cH Tryz.prog 73 3 36:=⟨⟨_,_,0,Tryz.underlying73,rfl,rfl,by kernel_rfl⟩⟩
instance adA:cH Tryz.prog 73 4 37:=⟨⟨_,_,0,Tryz.underlying73,rfl,rfl,by kernel_rfl⟩⟩
instance adB:ft Tryz.prog 74:=⟨⟨_,Tryz.underlying74,rfl⟩,by kernel_rfl⟩
instance adC:ei Tryz.prog 74 73 38:=⟨Tryz.underlying74,by kernel_rfl⟩
instance adD:eX Tryz.prog 76 4:=⟨⟨_,Tryz.underlying76,rfl⟩,by kernel_rfl⟩
instance adE:cH Tryz.prog 76 0 0:=⟨⟨_,_,0,Tryz.underlying76,rfl,rfl,by kernel_rfl⟩⟩
instance adF:cH Tryz.prog 76 1 1:=⟨⟨_,_,0,Tryz.underlying76,rfl,rfl,by kernel_rfl⟩⟩
instance adG:cH Tryz.prog 76 2 2:=⟨⟨_,_,0,Tryz.underlying76,rfl,rfl,by kernel_rfl⟩⟩
instance adH:cH Tryz.prog 76 3 3:=⟨⟨_,_,0,Tryz.underlying76,rfl,rfl,by kernel_rfl⟩⟩
instance adI:eX Tryz.prog 97 4:=⟨⟨_,Tryz.underlying97,rfl⟩,by kernel_rfl⟩
instance adJ:cH Tryz.prog 97 0 0:=⟨⟨_,_,0,Tryz.underlying97,rfl,rfl,by kernel_rfl⟩⟩
instance adK:cH Tryz.prog 97 1 1:=⟨⟨_,_,0,Tryz.underlying97,rfl,rfl,by kernel_rfl⟩⟩
instance adL:cH Tryz.prog 97 2 2:=⟨⟨_,_,0,Tryz.underlying97,rfl,rfl,by kernel_rfl⟩⟩
instance adM:cH Tryz.prog 97 3 3:=⟨⟨_,_,0,Tryz.underlying97,rfl,rfl,by kernel_rfl⟩⟩
instance adN:ei Tryz.prog 155 9 1:=⟨Tryz.underlying155,by kernel_rfl⟩
instance adO:ft Tryz.prog 170:=⟨⟨_,Tryz.underlying170,rfl⟩,by kernel_rfl⟩
instance adP:cH Tryz.prog 172 0 0:=⟨⟨_,_,0,Tryz.underlying172,rfl,rfl,by kernel_rfl⟩⟩
instance adQ:cH Tryz.prog 172 1 1:=⟨⟨_,_,0,Tryz.underlying172,rfl,rfl,by kernel_rfl⟩⟩
instance adR:cH Tryz.prog 174 0 0:=⟨⟨_,_,9,Tryz.underlying174,rfl,rfl,by kernel_rfl⟩⟩
instance adS:cH Tryz.prog 174 1 10:=⟨⟨_,_,0,Tryz.underlying174,rfl,rfl,by kernel_rfl⟩⟩
instance adT:cH Tryz.prog 174 2 11:=⟨⟨_,_,1,Tryz.underlying174,rfl,rfl,by kernel_rfl⟩⟩
instance adU:ft Tryz.prog 178:=⟨⟨_,Tryz.underlying178,rfl⟩,by kernel_rfl⟩
instance adV:ei Tryz.prog 178 53 1:=⟨Tryz.underlying178,by kernel_rfl⟩
instance adW:eX Tryz.prog 180 4:=⟨⟨_,Tryz.underlying180,rfl⟩,by kernel_rfl⟩
instance adX:cH Tryz.prog 180 0 0:=⟨⟨_,_,0,Tryz.underlying180,rfl,rfl,by kernel_rfl⟩⟩
instance adY:cH Tryz.prog 180 1 1:=⟨⟨_,_,0,Tryz.underlying180,rfl,rfl,by kernel_rfl⟩⟩
instance adZ:cH Tryz.prog 180 2 2:=⟨⟨_,_,0,Tryz.underlying180,rfl,rfl,by kernel_rfl⟩⟩
instance ad0:cH Tryz.prog 180 3 3:=⟨⟨_,_,0,Tryz.underlying180,rfl,rfl,by kernel_rfl⟩⟩
instance ad1:ei Tryz.prog 191 269 2:=⟨Tryz.underlying191,by kernel_rfl⟩
instance ad3:ua Tryz.prog 242 3 1:=⟨⟨_,Tryz.underlying242,by kernel_rfl⟩⟩
instance ad4:kh Tryz.prog 253 .u64:=⟨Tryz.underlying253⟩
instance ad5:ft Tryz.prog 259:=⟨⟨_,Tryz.underlying259,rfl⟩,by kernel_rfl⟩
instance ad6:cH Tryz.prog 261 0 0:=⟨⟨_,_,8,Tryz.underlying261,rfl,rfl,by kernel_rfl⟩⟩
instance ad7:cH Tryz.prog 261 1 9:=⟨⟨_,_,0,Tryz.underlying261,rfl,rfl,by kernel_rfl⟩⟩
instance ad8:eX Tryz.prog 269 2:=⟨⟨_,Tryz.underlying269,rfl⟩,by kernel_rfl⟩
instance ad9:cH Tryz.prog 269 0 0:=⟨⟨_,_,0,Tryz.underlying269,rfl,rfl,by kernel_rfl⟩⟩
instance aea:cH Tryz.prog 269 1 1:=⟨⟨_,_,0,Tryz.underlying269,rfl,rfl,by kernel_rfl⟩⟩
instance aeb:eX Tryz.prog 314 2:=⟨⟨_,Tryz.underlying314,rfl⟩,by kernel_rfl⟩
instance aec:cH Tryz.prog 314 0 0:=⟨⟨_,_,0,Tryz.underlying314,rfl,rfl,by kernel_rfl⟩⟩
instance aed:cH Tryz.prog 314 1 1:=⟨⟨_,_,0,Tryz.underlying314,rfl,rfl,by kernel_rfl⟩⟩
instance aee:ua Tryz.prog 317 20 1:=⟨⟨_,Tryz.underlying317,by kernel_rfl⟩⟩
instance aef:eX Tryz.prog 319 0:=⟨⟨_,Tryz.underlying319,rfl⟩,by kernel_rfl⟩
instance aeg:eX Tryz.prog 324 4:=⟨⟨_,Tryz.underlying324,rfl⟩,by kernel_rfl⟩
instance aeh:cH Tryz.prog 324 0 0:=⟨⟨_,_,0,Tryz.underlying324,rfl,rfl,by kernel_rfl⟩⟩
instance aei:cH Tryz.prog 324 1 1:=⟨⟨_,_,0,Tryz.underlying324,rfl,rfl,by kernel_rfl⟩⟩
instance aej:cH Tryz.prog 324 2 2:=⟨⟨_,_,0,Tryz.underlying324,rfl,rfl,by kernel_rfl⟩⟩
instance aek:cH Tryz.prog 324 3 3:=⟨⟨_,_,0,Tryz.underlying324,rfl,rfl,by kernel_rfl⟩⟩
instance ael:ei Tryz.prog 366 60 1:=⟨Tryz.underlying366,by kernel_rfl⟩
instance aem:ei Tryz.prog 396 178 1:=⟨Tryz.underlying396,by kernel_rfl⟩
instance aen:ei Tryz.prog 399 402 4:=⟨Tryz.underlying399,by kernel_rfl⟩
instance aeo:eX Tryz.prog 402 4:=⟨⟨_,Tryz.underlying402,rfl⟩,by kernel_rfl⟩
instance aep:cH Tryz.prog 402 0 0:=⟨⟨_,_,0,Tryz.underlying402,rfl,rfl,by kernel_rfl⟩⟩
instance aeq:cH Tryz.prog 402 1 1:=⟨⟨_,_,0,Tryz.underlying402,rfl,rfl,by kernel_rfl⟩⟩
instance aer:cH Tryz.prog 402 2 2:=⟨⟨_,_,0,Tryz.underlying402,rfl,rfl,by kernel_rfl⟩⟩
instance aes:cH Tryz.prog 402 3 3:=⟨⟨_,_,0,Tryz.underlying402,rfl,rfl,by kernel_rfl⟩⟩
instance aet:eX Tryz.prog 432 5:=⟨⟨_,Tryz.underlying432,rfl⟩,by kernel_rfl⟩
instance aeu:cH Tryz.prog 432 0 0:=⟨⟨_,_,3,Tryz.underlying432,rfl,rfl,by kernel_rfl⟩⟩
instance aev:cH Tryz.prog 432 1 4:=⟨⟨_,_,0,Tryz.underlying432,rfl,rfl,by kernel_rfl⟩⟩
instance aew:ft Tryz.prog 433:=⟨⟨_,Tryz.underlying433,rfl⟩,by kernel_rfl⟩
instance aex:ei Tryz.prog 443 433 1:=⟨Tryz.underlying443,by kernel_rfl⟩
theorem zIq{P:Program}{f:FuncId}{fn:Func}(h:P.funcs[f]? =some fn)(a:fn.body.isNone=false:=by kernel_rfl)(b:(fn.name== "runtime.NumGoroutine")=false:=by kernel_rfl):aC P f:=⟨⟨fn,h,a,b⟩⟩
instance aey:aC Tryz.prog 13:=zIq Tryz.func13
instance aez:aC Tryz.prog 15:=zIq Tryz.func15
instance aeA:aC Tryz.prog 19:=zIq Tryz.func19
instance aeB:aC Tryz.prog 22:=zIq Tryz.func22
instance aeC:aC Tryz.prog 25:=zIq Tryz.func25
instance aeD:aC Tryz.prog 27:=zIq Tryz.func27
instance aeE:aC Tryz.prog 29:=zIq Tryz.func29
instance aeF:aC Tryz.prog 30:=zIq Tryz.func30
instance aeG:aC Tryz.prog 31:=zIq Tryz.func31
instance aeH:aC Tryz.prog 32:=zIq Tryz.func32
instance aeI:aC Tryz.prog 33:=zIq Tryz.func33
instance aeJ:aC Tryz.prog 34:=zIq Tryz.func34
instance aeK:aC Tryz.prog 35:=zIq Tryz.func35
instance aeL:aC Tryz.prog 36:=zIq Tryz.func36
instance aeM:aC Tryz.prog 37:=zIq Tryz.func37
instance aeN:aC Tryz.prog 38:=zIq Tryz.func38
instance aeO:aC Tryz.prog 39:=zIq Tryz.func39
instance aeP:aC Tryz.prog 41:=zIq Tryz.func41
instance aeQ:aC Tryz.prog 42:=zIq Tryz.func42
instance aeR:aC Tryz.prog 43:=zIq Tryz.func43
instance aeS:aC Tryz.prog 44:=zIq Tryz.func44
instance aeT:aC Tryz.prog 50:=zIq Tryz.func50
instance aeU:aC Tryz.prog 51:=zIq Tryz.func51
instance aeV:aC Tryz.prog 57:=zIq Tryz.func57
instance aeW:aC Tryz.prog 58:=zIq Tryz.func58
instance aeX:aC Tryz.prog 62:=zIq Tryz.func62
instance aeY:aC Tryz.prog 66:=zIq Tryz.func66
instance aeZ:aC Tryz.prog 68:=zIq Tryz.func68
instance ae0:aC Tryz.prog 69:=zIq Tryz.func69
instance ae1:aC Tryz.prog 74:=zIq Tryz.func74
instance ae2:aC Tryz.prog 75:=zIq Tryz.func75
instance ae3:aC Tryz.prog 76:=zIq Tryz.func76
instance ae4:aC Tryz.prog 78:=zIq Tryz.func78
instance ae5:aC Tryz.prog 79:=zIq Tryz.func79
instance ae6:aC Tryz.prog 80:=zIq Tryz.func80
instance ae7:aC Tryz.prog 81:=zIq Tryz.func81
instance ae8:aC Tryz.prog 82:=zIq Tryz.func82
instance ae9:aC Tryz.prog 83:=zIq Tryz.func83
instance afa:aC Tryz.prog 84:=zIq Tryz.func84
instance afb:aC Tryz.prog 85:=zIq Tryz.func85
instance afc:aC Tryz.prog 86:=zIq Tryz.func86
instance afd:aC Tryz.prog 87:=zIq Tryz.func87
instance afe:aC Tryz.prog 88:=zIq Tryz.func88
instance aff:aC Tryz.prog 89:=zIq Tryz.func89
instance afg:aC Tryz.prog 90:=zIq Tryz.func90
instance afh:aC Tryz.prog 91:=zIq Tryz.func91
instance afi:aC Tryz.prog 92:=zIq Tryz.func92
instance afj:aC Tryz.prog 93:=zIq Tryz.func93
instance afk:aC Tryz.prog 94:=zIq Tryz.func94
instance afl:aC Tryz.prog 95:=zIq Tryz.func95
instance afm:aC Tryz.prog 96:=zIq Tryz.func96
instance afn:aC Tryz.prog 97:=zIq Tryz.func97
instance afo:aC Tryz.prog 98:=zIq Tryz.func98
instance afp:aC Tryz.prog 99:=zIq Tryz.func99
instance afq:aC Tryz.prog 100:=zIq Tryz.func100
instance afr:aC Tryz.prog 101:=zIq Tryz.func101
instance afs:aC Tryz.prog 102:=zIq Tryz.func102
instance aft:aC Tryz.prog 103:=zIq Tryz.func103
instance afu:aC Tryz.prog 104:=zIq Tryz.func104
instance afv:aC Tryz.prog 105:=zIq Tryz.func105
instance afw:aC Tryz.prog 106:=zIq Tryz.func106
instance afx:aC Tryz.prog 107:=zIq Tryz.func107
instance afy:aC Tryz.prog 108:=zIq Tryz.func108
instance afz:aC Tryz.prog 110:=zIq Tryz.func110
instance afA:aC Tryz.prog 111:=zIq Tryz.func111
instance afB:aC Tryz.prog 112:=zIq Tryz.func112
instance afC:aC Tryz.prog 113:=zIq Tryz.func113
instance afD:aC Tryz.prog 115:=zIq Tryz.func115
instance afE:aC Tryz.prog 116:=zIq Tryz.func116
instance afF:aC Tryz.prog 117:=zIq Tryz.func117
instance afG:aC Tryz.prog 126:=zIq Tryz.func126
instance afH:aC Tryz.prog 129:=zIq Tryz.func129
instance afI:aC Tryz.prog 130:=zIq Tryz.func130
instance afJ:aC Tryz.prog 138:=zIq Tryz.func138
instance afK:aC Tryz.prog 139:=zIq Tryz.func139
instance afL:aC Tryz.prog 142:=zIq Tryz.func142
instance afM:aC Tryz.prog 143:=zIq Tryz.func143
instance afN:aC Tryz.prog 144:=zIq Tryz.func144
instance afO:aC Tryz.prog 147:=zIq Tryz.func147
instance afP:aC Tryz.prog 148:=zIq Tryz.func148
instance afQ:aC Tryz.prog 149:=zIq Tryz.func149
instance afR:aC Tryz.prog 150:=zIq Tryz.func150
instance afS:aC Tryz.prog 151:=zIq Tryz.func151
instance afT:aC Tryz.prog 152:=zIq Tryz.func152
instance afU:aC Tryz.prog 153:=zIq Tryz.func153
instance afV:aC Tryz.prog 155:=zIq Tryz.func155
instance afW:aC Tryz.prog 156:=zIq Tryz.func156
instance afX:aC Tryz.prog 157:=zIq Tryz.func157
instance afY:aC Tryz.prog 158:=zIq Tryz.func158
instance afZ:aC Tryz.prog 159:=zIq Tryz.func159
instance af1:aC Tryz.prog 160:=zIq Tryz.func160
instance af2:aC Tryz.prog 161:=zIq Tryz.func161
instance af3:aC Tryz.prog 162:=zIq Tryz.func162
instance af4:aC Tryz.prog 163:=zIq Tryz.func163
instance af5:aC Tryz.prog 164:=zIq Tryz.func164
instance af6:aC Tryz.prog 165:=zIq Tryz.func165
instance af7:aC Tryz.prog 166:=zIq Tryz.func166
instance af8:aC Tryz.prog 167:=zIq Tryz.func167
instance af9:aC Tryz.prog 168:=zIq Tryz.func168
instance aga:aC Tryz.prog 169:=zIq Tryz.func169
instance agb:aC Tryz.prog 170:=zIq Tryz.func170
instance agc:aC Tryz.prog 171:=zIq Tryz.func171
instance agd:aC Tryz.prog 172:=zIq Tryz.func172
instance age:aC Tryz.prog 173:=zIq Tryz.func173
instance agf:aC Tryz.prog 174:=zIq Tryz.func174
instance agh:aC Tryz.prog 175:=zIq Tryz.func175
instance agi:aC Tryz.prog 176:=zIq Tryz.func176
instance agj:aC Tryz.prog 177:=zIq Tryz.func177
instance agk:aC Tryz.prog 178:=zIq Tryz.func178
instance agl:aC Tryz.prog 179:=zIq Tryz.func179
instance agm:aC Tryz.prog 180:=zIq Tryz.func180
instance agn:aC Tryz.prog 181:=zIq Tryz.func181
instance ago:aC Tryz.prog 182:=zIq Tryz.func182
instance agp:aC Tryz.prog 185:=zIq Tryz.func185
instance agq:aC Tryz.prog 207:=zIq Tryz.func207
instance agr:aC Tryz.prog 208:=zIq Tryz.func208
instance ags:aC Tryz.prog 209:=zIq Tryz.func209
instance agt:aC Tryz.prog 210:=zIq Tryz.func210
instance agu:aC Tryz.prog 211:=zIq Tryz.func211
instance agv:aC Tryz.prog 213:=zIq Tryz.func213
instance agw:aC Tryz.prog 214:=zIq Tryz.func214
instance agx:aC Tryz.prog 215:=zIq Tryz.func215
instance agy:aC Tryz.prog 216:=zIq Tryz.func216
instance agz:aC Tryz.prog 217:=zIq Tryz.func217
instance agA:aC Tryz.prog 218:=zIq Tryz.func218
instance agB:aC Tryz.prog 219:=zIq Tryz.func219
instance agC:aC Tryz.prog 220:=zIq Tryz.func220
instance agD:aC Tryz.prog 221:=zIq Tryz.func221
instance agE:aC Tryz.prog 222:=zIq Tryz.func222
instance agF:aC Tryz.prog 223:=zIq Tryz.func223
instance agG:aC Tryz.prog 224:=zIq Tryz.func224
instance agH:aC Tryz.prog 226:=zIq Tryz.func226
instance agI:aC Tryz.prog 227:=zIq Tryz.func227
instance agJ:aC Tryz.prog 228:=zIq Tryz.func228
instance agK:aC Tryz.prog 229:=zIq Tryz.func229
instance agL:aC Tryz.prog 230:=zIq Tryz.func230
instance agM:aC Tryz.prog 245:=zIq Tryz.func245
instance agN:aC Tryz.prog 250:=zIq Tryz.func250
instance agO:aC Tryz.prog 251:=zIq Tryz.func251
instance agP:aC Tryz.prog 252:=zIq Tryz.func252
instance agQ:aC Tryz.prog 253:=zIq Tryz.func253
instance agR:aC Tryz.prog 254:=zIq Tryz.func254
instance agS:aC Tryz.prog 255:=zIq Tryz.func255
instance agT:aC Tryz.prog 256:=zIq Tryz.func256
instance agU:aC Tryz.prog 257:=zIq Tryz.func257
instance agV:aC Tryz.prog 258:=zIq Tryz.func258
instance agW:aC Tryz.prog 259:=zIq Tryz.func259
instance agX:aC Tryz.prog 260:=zIq Tryz.func260
instance agY:aC Tryz.prog 261:=zIq Tryz.func261
instance agZ:aC Tryz.prog 262:=zIq Tryz.func262
instance ag0:aC Tryz.prog 263:=zIq Tryz.func263
instance ag1:aC Tryz.prog 264:=zIq Tryz.func264
instance ag2:aC Tryz.prog 265:=zIq Tryz.func265
instance ag3:aC Tryz.prog 267:=zIq Tryz.func267
instance ag4:aC Tryz.prog 268:=zIq Tryz.func268
instance ag5:aC Tryz.prog 269:=zIq Tryz.func269
instance ag6:aC Tryz.prog 297:=zIq Tryz.func297
instance ag7:aC Tryz.prog 298:=zIq Tryz.func298
instance ag8:aC Tryz.prog 299:=zIq Tryz.func299
instance ag9:aC Tryz.prog 300:=zIq Tryz.func300
instance aha:aC Tryz.prog 301:=zIq Tryz.func301
instance ahb:aC Tryz.prog 302:=zIq Tryz.func302
instance ahc:aC Tryz.prog 303:=zIq Tryz.func303
instance ahd:aC Tryz.prog 304:=zIq Tryz.func304
instance ahe:aC Tryz.prog 305:=zIq Tryz.func305
instance ahf:aC Tryz.prog 306:=zIq Tryz.func306
instance ahg:aC Tryz.prog 307:=zIq Tryz.func307
instance ahh:aC Tryz.prog 308:=zIq Tryz.func308
instance ahi:aC Tryz.prog 309:=zIq Tryz.func309
instance ahj:aC Tryz.prog 310:=zIq Tryz.func310
instance ahk:aC Tryz.prog 311:=zIq Tryz.func311
instance ahl:aC Tryz.prog 312:=zIq Tryz.func312
instance ahm:aC Tryz.prog 313:=zIq Tryz.func313
instance ahn:aC Tryz.prog 314:=zIq Tryz.func314
instance aho:aC Tryz.prog 315:=zIq Tryz.func315
instance ahp:aC Tryz.prog 326:=zIq Tryz.func326
instance ahq:aC Tryz.prog 327:=zIq Tryz.func327
instance ahr:aC Tryz.prog 328:=zIq Tryz.func328
instance ahs:aC Tryz.prog 329:=zIq Tryz.func329
instance aht:aC Tryz.prog 330:=zIq Tryz.func330
instance ahu:aC Tryz.prog 331:=zIq Tryz.func331
instance ahv:aC Tryz.prog 332:=zIq Tryz.func332
instance ahw:aC Tryz.prog 333:=zIq Tryz.func333
instance ahx:aC Tryz.prog 334:=zIq Tryz.func334
instance ahy:aC Tryz.prog 335:=zIq Tryz.func335
instance ahz:aC Tryz.prog 336:=zIq Tryz.func336
instance ahA:aC Tryz.prog 340:=zIq Tryz.func340
instance ahB:aC Tryz.prog 341:=zIq Tryz.func341
instance ahC:aC Tryz.prog 342:=zIq Tryz.func342
instance ahD:aC Tryz.prog 343:=zIq Tryz.func343
instance ahE:aC Tryz.prog 344:=zIq Tryz.func344
instance ahF:aC Tryz.prog 345:=zIq Tryz.func345
instance ahG:aC Tryz.prog 346:=zIq Tryz.func346
instance ahH:aC Tryz.prog 347:=zIq Tryz.func347
instance ahI:aC Tryz.prog 348:=zIq Tryz.func348
instance ahJ:aC Tryz.prog 349:=zIq Tryz.func349
instance ahK:aC Tryz.prog 350:=zIq Tryz.func350
end Go.Proofs.YtkggjjnhnjjokaaGreatDoor
namespace Go.Proofs
open Go.Shelf
def Tryz.KP:Go.Shelf.Ren:=⟨fun|156=>178|165=>225|166=>226|169=>92|240=>265|241=>266|276=>316|277=>317|n=>n,fun|31=>155|9=>9|3=>3|4=>4|0=>0|20=>20|72=>172|76=>304|70=>170|37=>53|75=>303|127=>256|164=>333|5=>5|80=>176|n=>n,fun|n=>n⟩
theorem zSq{α:Type}{a:Option α}{b c:α}(h:a=some b)(e:b=c:=by kernel_rfl):a=some c:=h.trans (congrArg some e)
theorem Tryz.Ta:Go.Proofs.Lays.n156 Tryz.prog Tryz.KP:={
 mixed:=by kernel_rfl
 f156:=zSq Tryz.func178
 f165:=zSq Tryz.func225
 f166:=zSq Tryz.func226
 f169:=zSq Tryz.func92
 f240:=zSq Tryz.func265
 f241:=zSq Tryz.func266
 f276:=zSq Tryz.func316
 f277:=zSq Tryz.func317
 t0:=Tryz.underlying0
 a0:=Tryz.isAgg0
 z0:=Tryz.sizeOf0
 v0:=Tryz.zeroValue0
 t3:=Tryz.underlying3
 a3:=Tryz.isAgg3
 z3:=Tryz.sizeOf3
 v3:=Tryz.zeroValue3
 t4:=Tryz.underlying4
 a4:=Tryz.isAgg4
 z4:=Tryz.sizeOf4
 v4:=Tryz.zeroValue4
 t9:=Tryz.underlying9
 a9:=Tryz.isAgg9
 z9:=Tryz.sizeOf9
 v9:=Tryz.zeroValue9
 t20:=Tryz.underlying20
 a20:=Tryz.isAgg20
 z20:=Tryz.sizeOf20
 v20:=Tryz.zeroValue20
 t31:=Tryz.underlying155
 a31:=Tryz.isAgg155
 z31:=Tryz.sizeOf155
 v31:=Tryz.zeroValue155
 t37:=Tryz.underlying53
 a37:=Tryz.isAgg53
 z37:=Tryz.sizeOf53
 v37:=Tryz.zeroValue53
 t70:=Tryz.underlying170
 a70:=Tryz.isAgg170
 z70:=Tryz.sizeOf170
 v70:=Tryz.zeroValue170
 t72:=Tryz.underlying172
 a72:=Tryz.isAgg172
 z72:=Tryz.sizeOf172
 v72:=Tryz.zeroValue172
 t75:=Tryz.underlying303
 a75:=Tryz.isAgg303
 z75:=Tryz.sizeOf303
 v75:=Tryz.zeroValue303
 t76:=Tryz.underlying304
 a76:=Tryz.isAgg304
 z76:=Tryz.sizeOf304
 v76:=Tryz.zeroValue304
 t127:=Tryz.underlying256
 a127:=Tryz.isAgg256
 z127:=Tryz.sizeOf256
 v127:=Tryz.zeroValue256
 t164:=Tryz.underlying333
 a164:=Tryz.isAgg333
 z164:=Tryz.sizeOf333
 v164:=Tryz.zeroValue333}
theorem Tryz.Tb:Builder.Extra Tryz.prog Tryz.KP:={
 sizeBuilder:=by kernel_rfl
 liesBuilder:=by kernel_rfl
 t5:=Tryz.underlying5
 a5:=Tryz.isAgg5
 z5:=Tryz.sizeOf5
 v5:=Tryz.zeroValue5
 infoByte:=by kernel_rfl
 cellsByte:=by kernel_rfl
 sizeByte:=by kernel_rfl
 neB5:=by decide}
open Go.RowKit in
theorem Tryz.strings_Join(bk o c:Nat)(xs:List ByteArray)(sep:ByteArray)(w:World)(Tc: ∀(j:Nat) x,xs[j]? =some x->w.cell? ⟨bk,o+j,none⟩=some (.string x))(Td:bk<w.heap.size)(hN:xs.length<=140737488355328)(uh:xs.length<=c)(hlen:(Lib.join (xs.map (·.data.toList)) sep.data.toList).length<=140737488355328):
  Calls Tryz.prog 178 #[.slice (some ⟨bk,o,none⟩) xs.length c, .string sep] w fun e w'=>e= .returned (.string ⟨(Lib.join (xs.map (·.data.toList)) sep.data.toList).toArray⟩)/\Below w.heap.size w w':=Any.strings_Join Tryz.Ta Tryz.Tb bk o c xs sep w Tc Td hN uh hlen
def Tryz.Te:Go.Shelf.Ren:=⟨fun|137=>245|217=>270|266=>318|n=>n,fun|9=>9|5=>5|3=>3|n=>n,fun|n=>n⟩
theorem Tryz.Tf:Go.Proofs.Lays.n137 Tryz.prog Tryz.Te:={
 mixed:=by kernel_rfl
 f137:=zSq Tryz.func245
 f217:=zSq Tryz.func270
 f266:=zSq Tryz.func318
 t3:=Tryz.underlying3
 a3:=Tryz.isAgg3
 z3:=Tryz.sizeOf3
 v3:=Tryz.zeroValue3
 t5:=Tryz.underlying5
 a5:=Tryz.isAgg5
 z5:=Tryz.sizeOf5
 v5:=Tryz.zeroValue5
 t9:=Tryz.underlying9
 a9:=Tryz.isAgg9
 z9:=Tryz.sizeOf9
 v9:=Tryz.zeroValue9}
open Go.RowKit in
theorem Tryz.strings_IndexByte(s:ByteArray)(c:Int)(w:World):
  Calls Tryz.prog 245 #[.string s, .int .u8 c] w fun e w'=>e= .returned (.int .i64 (Lib.indexByte s.data.toList c.toNat.toUInt8))/\w'=w:=Any.strings_IndexByte Tryz.Tf s c w
def Tryz.ahL:Go.Shelf.Ren:=⟨fun|172=>207|244=>243|245=>244|247=>287|279=>288|280=>289|281=>290|282=>291|287=>321|316=>322|171=>86|205=>323|321=>338|322=>339|243=>154|246=>212|283=>246|284=>247|285=>248|286=>249|129=>293|317=>292|318=>294|319=>295|320=>296|337=>324|338=>325|n=>n,fun|9=>9|3=>3|75=>303|76=>304|4=>4|5=>5|167=>378|37=>53|0=>0|85=>379|2=>2|168=>381|53=>61|175=>417|46=>253|210=>421|127=>256|145=>439|143=>437|21=>21|171=>348|173=>351|212=>385|51=>26|20=>20|213=>386|232=>440|233=>441|80=>176|n=>n,fun|15=>4|16=>5|17=>1|18=>6|19=>7|n=>n⟩
def Tryz.ahM:Go.Shelf.Ren:=⟨fun|246=>212|283=>246|284=>247|285=>248|286=>249|129=>293|317=>292|318=>294|319=>295|320=>296|337=>324|338=>325|n=>n,fun|2=>2|3=>3|9=>9|4=>4|171=>348|0=>0|53=>61|37=>53|5=>5|173=>351|212=>385|51=>26|20=>20|213=>386|46=>253|232=>440|233=>441|n=>n,fun|17=>1|18=>6|19=>7|n=>n⟩
def Tryz.ahN:Go.Shelf.Ren:=⟨fun|243=>154|246=>212|283=>246|284=>247|285=>248|286=>249|129=>293|317=>292|318=>294|319=>295|320=>296|337=>324|338=>325|n=>n,fun|3=>3|9=>9|2=>2|4=>4|171=>348|0=>0|53=>61|37=>53|5=>5|173=>351|212=>385|51=>26|20=>20|213=>386|46=>253|232=>440|233=>441|n=>n,fun|17=>1|18=>6|19=>7|n=>n⟩
def Tryz.Tg:Go.Shelf.Ren:=⟨fun|171=>86|243=>154|246=>212|283=>246|284=>247|285=>248|286=>249|129=>293|317=>292|318=>294|319=>295|320=>296|337=>324|338=>325|n=>n,fun|3=>3|9=>9|2=>2|4=>4|171=>348|0=>0|53=>61|37=>53|5=>5|173=>351|212=>385|51=>26|20=>20|213=>386|46=>253|232=>440|233=>441|n=>n,fun|17=>1|18=>6|19=>7|n=>n⟩
theorem Tryz.Th:Go.Proofs.LaysM.n171 Tryz.prog Tryz.Tg:={
 mixed:=by kernel_rfl
 f129:=zSq Tryz.func293
 f171:=zSq Tryz.func86
 f243:=zSq Tryz.func154
 f246:=zSq Tryz.func212
 f283:=zSq Tryz.func246
 f284:=zSq Tryz.func247
 f285:=zSq Tryz.func248
 f286:=zSq Tryz.func249
 f317:=zSq Tryz.func292
 f318:=zSq Tryz.func294
 f319:=zSq Tryz.func295
 f320:=zSq Tryz.func296
 f337:=zSq Tryz.func324
 f338:=zSq Tryz.func325
 t0:=Tryz.underlying0
 a0:=Tryz.isAgg0
 z0:=Tryz.sizeOf0
 v0:=Tryz.zeroValue0
 t2:=Tryz.underlying2
 a2:=Tryz.isAgg2
 z2:=Tryz.sizeOf2
 v2:=Tryz.zeroValue2
 t3:=Tryz.underlying3
 a3:=Tryz.isAgg3
 z3:=Tryz.sizeOf3
 v3:=Tryz.zeroValue3
 t4:=Tryz.underlying4
 a4:=Tryz.isAgg4
 z4:=Tryz.sizeOf4
 v4:=Tryz.zeroValue4
 t5:=Tryz.underlying5
 a5:=Tryz.isAgg5
 z5:=Tryz.sizeOf5
 v5:=Tryz.zeroValue5
 t9:=Tryz.underlying9
 a9:=Tryz.isAgg9
 z9:=Tryz.sizeOf9
 v9:=Tryz.zeroValue9
 t20:=Tryz.underlying20
 a20:=Tryz.isAgg20
 z20:=Tryz.sizeOf20
 v20:=Tryz.zeroValue20
 t37:=Tryz.underlying53
 a37:=Tryz.isAgg53
 z37:=Tryz.sizeOf53
 v37:=Tryz.zeroValue53
 t46:=Tryz.underlying253
 a46:=Tryz.isAgg253
 z46:=Tryz.sizeOf253
 v46:=Tryz.zeroValue253
 t51:=Tryz.underlying26
 a51:=Tryz.isAgg26
 z51:=Tryz.sizeOf26
 v51:=Tryz.zeroValue26
 t53:=Tryz.underlying61
 a53:=Tryz.isAgg61
 z53:=Tryz.sizeOf61
 v53:=Tryz.zeroValue61
 t171:=Tryz.underlying348
 a171:=Tryz.isAgg348
 z171:=Tryz.sizeOf348
 v171:=Tryz.zeroValue348
 t173:=Tryz.underlying351
 a173:=Tryz.isAgg351
 z173:=Tryz.sizeOf351
 v173:=Tryz.zeroValue351
 t212:=Tryz.underlying385
 a212:=Tryz.isAgg385
 z212:=Tryz.sizeOf385
 v212:=Tryz.zeroValue385
 t213:=Tryz.underlying386
 a213:=Tryz.isAgg386
 z213:=Tryz.sizeOf386
 t232:=Tryz.underlying440
 a232:=Tryz.isAgg440
 z232:=Tryz.sizeOf440
 v232:=Tryz.zeroValue440
 t233:=Tryz.underlying441
 a233:=Tryz.isAgg441
 z233:=Tryz.sizeOf441
 v233:=Tryz.zeroValue441
 g17:=by kernel_rfl
 g18:=by kernel_rfl
 g19:=by kernel_rfl
 i0:=by kernel_rfl
 i2:=by kernel_rfl
 i3:=by kernel_rfl
 i4:=by kernel_rfl
 i5:=by kernel_rfl
 i9:=by kernel_rfl
 i20:=by kernel_rfl
 i37:=by kernel_rfl
 i46:=by kernel_rfl
 i51:=by kernel_rfl
 i53:=by kernel_rfl
 i171:=by kernel_rfl
 i173:=by kernel_rfl
 i212:=by kernel_rfl
 i232:=by kernel_rfl
 i233:=by kernel_rfl
 m17:=by kernel_rfl
 m18:=by kernel_rfl
 m19:=by kernel_rfl}
open Go.RowKit Go.Sort Go.Lib in
theorem Tryz.strconv_Itoa(n:Int)(h0: -9223372036854775808≤n)(h1:n≤9223372036854775807)(w:World)(Ti:Lib.TabIs Tryz.prog w "internal/strconv.uint64pow10" .u64 Lib.pow10Tab):
  Calls Tryz.prog 86 #[.int .i64 n] w fun e w'=>e= .returned (.string ⟨(Lib.itoa n).toArray⟩)/\ ∃k os,w'=grow (w.drewN k) os:=Any.strconv_Itoa Tryz.Th n h0 h1 w Ti
def Tryz.Tj:Go.Shelf.Ren:=⟨fun|172=>207|244=>243|245=>244|247=>287|279=>288|280=>289|281=>290|282=>291|287=>321|316=>322|171=>86|205=>323|321=>338|322=>339|243=>154|246=>212|283=>246|284=>247|285=>248|286=>249|129=>293|317=>292|318=>294|319=>295|320=>296|337=>324|338=>325|n=>n,fun|9=>9|3=>3|75=>303|76=>304|4=>4|5=>5|167=>378|37=>53|0=>0|85=>379|2=>2|168=>381|53=>61|175=>417|46=>253|210=>421|127=>256|145=>439|143=>437|21=>21|171=>348|173=>351|212=>385|51=>26|20=>20|213=>386|232=>440|233=>441|80=>176|n=>n,fun|15=>4|16=>5|17=>1|18=>6|19=>7|n=>n⟩
theorem Tryz.Fs:Go.Proofs.LaysC.n172 Tryz.prog Tryz.Tj:={
 mixed:=by kernel_rfl
 f129:=zSq Tryz.func293
 f171:=zSq Tryz.func86
 f172:=zSq Tryz.func207
 f205:=zSq Tryz.func323
 f243:=zSq Tryz.func154
 f244:=zSq Tryz.func243
 f245:=zSq Tryz.func244
 f246:=zSq Tryz.func212
 f247:=zSq Tryz.func287
 f279:=zSq Tryz.func288
 f280:=zSq Tryz.func289
 f281:=zSq Tryz.func290
 f282:=zSq Tryz.func291
 f283:=zSq Tryz.func246
 f284:=zSq Tryz.func247
 f285:=zSq Tryz.func248
 f286:=zSq Tryz.func249
 f287:=zSq Tryz.func321
 f316:=zSq Tryz.func322
 f317:=zSq Tryz.func292
 f318:=zSq Tryz.func294
 f319:=zSq Tryz.func295
 f320:=zSq Tryz.func296
 f321:=zSq Tryz.func338
 f322:=zSq Tryz.func339
 f337:=zSq Tryz.func324
 f338:=zSq Tryz.func325
 t0:=Tryz.underlying0
 a0:=Tryz.isAgg0
 z0:=Tryz.sizeOf0
 v0:=Tryz.zeroValue0
 t2:=Tryz.underlying2
 a2:=Tryz.isAgg2
 z2:=Tryz.sizeOf2
 v2:=Tryz.zeroValue2
 t3:=Tryz.underlying3
 a3:=Tryz.isAgg3
 z3:=Tryz.sizeOf3
 v3:=Tryz.zeroValue3
 t4:=Tryz.underlying4
 a4:=Tryz.isAgg4
 z4:=Tryz.sizeOf4
 v4:=Tryz.zeroValue4
 t5:=Tryz.underlying5
 a5:=Tryz.isAgg5
 z5:=Tryz.sizeOf5
 v5:=Tryz.zeroValue5
 t9:=Tryz.underlying9
 a9:=Tryz.isAgg9
 z9:=Tryz.sizeOf9
 v9:=Tryz.zeroValue9
 t20:=Tryz.underlying20
 a20:=Tryz.isAgg20
 z20:=Tryz.sizeOf20
 v20:=Tryz.zeroValue20
 t21:=Tryz.underlying21
 a21:=Tryz.isAgg21
 z21:=Tryz.sizeOf21
 v21:=Tryz.zeroValue21
 t37:=Tryz.underlying53
 a37:=Tryz.isAgg53
 z37:=Tryz.sizeOf53
 v37:=Tryz.zeroValue53
 t46:=Tryz.underlying253
 a46:=Tryz.isAgg253
 z46:=Tryz.sizeOf253
 v46:=Tryz.zeroValue253
 t51:=Tryz.underlying26
 a51:=Tryz.isAgg26
 z51:=Tryz.sizeOf26
 v51:=Tryz.zeroValue26
 t53:=Tryz.underlying61
 a53:=Tryz.isAgg61
 z53:=Tryz.sizeOf61
 v53:=Tryz.zeroValue61
 t75:=Tryz.underlying303
 a75:=Tryz.isAgg303
 z75:=Tryz.sizeOf303
 v75:=Tryz.zeroValue303
 t76:=Tryz.underlying304
 a76:=Tryz.isAgg304
 z76:=Tryz.sizeOf304
 v76:=Tryz.zeroValue304
 t85:=Tryz.underlying379
 a85:=Tryz.isAgg379
 z85:=Tryz.sizeOf379
 v85:=Tryz.zeroValue379
 t127:=Tryz.underlying256
 a127:=Tryz.isAgg256
 z127:=Tryz.sizeOf256
 v127:=Tryz.zeroValue256
 t143:=Tryz.underlying437
 a143:=Tryz.isAgg437
 z143:=Tryz.sizeOf437
 v143:=Tryz.zeroValue437
 t145:=Tryz.underlying439
 a145:=Tryz.isAgg439
 z145:=Tryz.sizeOf439
 v145:=Tryz.zeroValue439
 t167:=Tryz.underlying378
 a167:=Tryz.isAgg378
 z167:=Tryz.sizeOf378
 v167:=Tryz.zeroValue378
 t168:=Tryz.underlying381
 a168:=Tryz.isAgg381
 z168:=Tryz.sizeOf381
 v168:=Tryz.zeroValue381
 t171:=Tryz.underlying348
 a171:=Tryz.isAgg348
 z171:=Tryz.sizeOf348
 v171:=Tryz.zeroValue348
 t173:=Tryz.underlying351
 a173:=Tryz.isAgg351
 z173:=Tryz.sizeOf351
 v173:=Tryz.zeroValue351
 t175:=Tryz.underlying417
 a175:=Tryz.isAgg417
 z175:=Tryz.sizeOf417
 v175:=Tryz.zeroValue417
 t210:=Tryz.underlying421
 a210:=Tryz.isAgg421
 z210:=Tryz.sizeOf421
 v210:=Tryz.zeroValue421
 t212:=Tryz.underlying385
 a212:=Tryz.isAgg385
 z212:=Tryz.sizeOf385
 v212:=Tryz.zeroValue385
 t213:=Tryz.underlying386
 a213:=Tryz.isAgg386
 z213:=Tryz.sizeOf386
 t232:=Tryz.underlying440
 a232:=Tryz.isAgg440
 z232:=Tryz.sizeOf440
 v232:=Tryz.zeroValue440
 t233:=Tryz.underlying441
 a233:=Tryz.isAgg441
 z233:=Tryz.sizeOf441
 v233:=Tryz.zeroValue441
 g15:=by kernel_rfl
 g16:=by kernel_rfl
 g17:=by kernel_rfl
 g18:=by kernel_rfl
 g19:=by kernel_rfl
 t80:=Tryz.underlying176
 a80:=Tryz.isAgg176
 z80:=Tryz.sizeOf176
 v80:=Tryz.zeroValue176
 i0:=by kernel_rfl
 i2:=by kernel_rfl
 i3:=by kernel_rfl
 i4:=by kernel_rfl
 i5:=by kernel_rfl
 i9:=by kernel_rfl
 i20:=by kernel_rfl
 i21:=by kernel_rfl
 i37:=by kernel_rfl
 i46:=by kernel_rfl
 i51:=by kernel_rfl
 i53:=by kernel_rfl
 i75:=by kernel_rfl
 i76:=by kernel_rfl
 i80:=by kernel_rfl
 i85:=by kernel_rfl
 i127:=by kernel_rfl
 i143:=by kernel_rfl
 i145:=by kernel_rfl
 i167:=by kernel_rfl
 i168:=by kernel_rfl
 i171:=by kernel_rfl
 i173:=by kernel_rfl
 i175:=by kernel_rfl
 i210:=by kernel_rfl
 i212:=by kernel_rfl
 i232:=by kernel_rfl
 i233:=by kernel_rfl
 m15:=by kernel_rfl
 m16:=by kernel_rfl
 m17:=by kernel_rfl
 m18:=by kernel_rfl
 m19:=by kernel_rfl
 c0:=by kernel_rfl
 c2:=by kernel_rfl
 c3:=by kernel_rfl
 c4:=by kernel_rfl
 c5:=by kernel_rfl
 c9:=by kernel_rfl
 c20:=by kernel_rfl
 c21:=by kernel_rfl
 c37:=by kernel_rfl
 c46:=by kernel_rfl
 c51:=by kernel_rfl
 c53:=by kernel_rfl
 c75:=by kernel_rfl
 c76:=by kernel_rfl
 c80:=by kernel_rfl
 c85:=by kernel_rfl
 c127:=by kernel_rfl
 c143:=by kernel_rfl
 c145:=by kernel_rfl
 c167:=by kernel_rfl
 c168:=by kernel_rfl
 c171:=by kernel_rfl
 c173:=by kernel_rfl
 c175:=by kernel_rfl
 c210:=by kernel_rfl
 c212:=by kernel_rfl
 c213:=by kernel_rfl
 c232:=by kernel_rfl
 c233:=by kernel_rfl}
open Go.RowKit in
theorem Tryz.strconv_Atoi_ok(s:ByteArray)(Tk:s.size<=9223372036854775806)(v:Int)(h:Lib.atoiAll s.data.toList= .ok v)(w:World):
  Calls Tryz.prog 207 #[.string s] w fun e w'=>e= .returned (.tuple #[.int .i64 v, .nilIface])/\(w'=w\/ ∃t,w'=Lib.bytesWorld w 5 t):=Any.strconv_Atoi_ok Tryz.Fs s Tk v h w
open Go.RowKit in
theorem Tryz.strconv_Atoi_syntax_var(s:ByteArray)(Fu:s.size≤281474976710656)(h:Lib.atoiAll s.data.toList=Lib.atoiAll [])(tp:TypeId)(p:Value)(w:World)(vR:w.var? Tryz.prog "strconv.ErrSyntax" =some #[.iface tp p]):
  Calls Tryz.prog 207 #[.string s] w fun e w'=> ∃N,e= .returned (.tuple #[.int .i64 0, .iface 381 (.pointer (some ⟨N,0,none⟩))])/\w.heap.size<=N/\w'.heap[N]? =some (.cells #[.string ⟨#[65,116,111,105]⟩, .string s, .iface tp p] 421 (0,0))/\Below w.heap.size w w':=Any.strconv_Atoi_syntax_var Tryz.Fs s Fu h tp p w vR
open Go.RowKit in
theorem Tryz.strconv_Atoi_range_var(s:ByteArray)(Fu:s.size≤281474976710656)(h:Lib.atoiAll s.data.toList= .range)(tp:TypeId)(p:Value)(w:World)(vR:w.var? Tryz.prog "strconv.ErrRange" =some #[.iface tp p]):
  Calls Tryz.prog 207 #[.string s] w fun e w'=> ∃N,e= .returned (.tuple #[.int .i64 (Lib.atoiSat s.data.toList), .iface 381 (.pointer (some ⟨N,0,none⟩))])/\w.heap.size<=N/\w'.heap[N]? =some (.cells #[.string ⟨#[65,116,111,105]⟩, .string s, .iface tp p] 421 (0,0))/\Below w.heap.size w w':=Any.strconv_Atoi_range_var Tryz.Fs s Fu h tp p w vR
def Tryz.ahO:Go.Shelf.Ren:=⟨fun|219=>231|217=>270|225=>271|224=>272|267=>273|266=>318|314=>319|n=>n,fun|9=>9|3=>3|4=>4|5=>5|46=>253|146=>411|51=>26|n=>n,fun|1=>0|n=>n⟩
def Tryz.Tl:Go.Shelf.Ren:=⟨fun|145=>115|220=>188|219=>231|217=>270|225=>271|224=>272|267=>273|266=>318|314=>319|n=>n,fun|9=>9|4=>4|59=>205|3=>3|5=>5|46=>253|146=>411|51=>26|n=>n,fun|1=>0|n=>n⟩
theorem Tryz.Tm:Go.Proofs.Lays.n145 Tryz.prog Tryz.Tl:={
 mixed:=by kernel_rfl
 f145:=zSq Tryz.func115
 f217:=zSq Tryz.func270
 f219:=zSq Tryz.func231
 f220:=zSq Tryz.func188
 f224:=zSq Tryz.func272
 f225:=zSq Tryz.func271
 f266:=zSq Tryz.func318
 f267:=zSq Tryz.func273
 f314:=zSq Tryz.func319
 t3:=Tryz.underlying3
 a3:=Tryz.isAgg3
 z3:=Tryz.sizeOf3
 v3:=Tryz.zeroValue3
 t4:=Tryz.underlying4
 a4:=Tryz.isAgg4
 z4:=Tryz.sizeOf4
 v4:=Tryz.zeroValue4
 t5:=Tryz.underlying5
 a5:=Tryz.isAgg5
 z5:=Tryz.sizeOf5
 v5:=Tryz.zeroValue5
 t9:=Tryz.underlying9
 a9:=Tryz.isAgg9
 z9:=Tryz.sizeOf9
 v9:=Tryz.zeroValue9
 t46:=Tryz.underlying253
 a46:=Tryz.isAgg253
 z46:=Tryz.sizeOf253
 v46:=Tryz.zeroValue253
 t51:=Tryz.underlying26
 a51:=Tryz.isAgg26
 z51:=Tryz.sizeOf26
 v51:=Tryz.zeroValue26
 t59:=Tryz.underlying205
 a59:=Tryz.isAgg205
 z59:=Tryz.sizeOf205
 v59:=Tryz.zeroValue205
 t146:=Tryz.underlying411
 a146:=Tryz.isAgg411
 z146:=Tryz.sizeOf411
 v146:=Tryz.zeroValue411
 g1:=by kernel_rfl}
open Go.RowKit Go.Lib in
theorem Tryz.strings_Cut(s sep:ByteArray)(m:Int)(w:World)(hs:s.size<4294967281)(hm:w.cell? ⟨0,0,none⟩=some (.int .i64 m)):
  Calls Tryz.prog 115 #[.string s, .string sep] w fun e w'=>e= .returned (.tuple #[.string ⟨(Lib.cut s.data.toList sep.data.toList).1.toArray⟩, .string ⟨(Lib.cut s.data.toList sep.data.toList).2.1.toArray⟩, .bool (Lib.cut s.data.toList sep.data.toList).2.2])/\ ∃n,w'=w.drewN n:=Any.strings_Cut Tryz.Tm s sep m w hs hm
def Tryz.ahP:Go.Shelf.Ren:=⟨fun|221=>146|268=>204|138=>205|143=>206|195=>240|197=>241|218=>242|219=>231|260=>286|217=>270|225=>271|224=>272|267=>273|266=>318|314=>319|n=>n,fun|9=>9|3=>3|31=>155|4=>4|0=>0|105=>344|21=>21|5=>5|46=>253|119=>413|139=>416|138=>415|146=>411|51=>26|n=>n,fun|1=>0|3=>2|4=>3|n=>n⟩
def Tryz.Tn:Go.Shelf.Ren:=⟨fun|146=>78|221=>146|268=>204|138=>205|143=>206|195=>240|197=>241|218=>242|219=>231|260=>286|217=>270|225=>271|224=>272|267=>273|266=>318|314=>319|n=>n,fun|9=>9|31=>155|3=>3|4=>4|0=>0|105=>344|21=>21|5=>5|46=>253|119=>413|139=>416|138=>415|146=>411|51=>26|n=>n,fun|1=>0|3=>2|4=>3|n=>n⟩
theorem Tryz.To:Go.Proofs.Lays.n146 Tryz.prog Tryz.Tn:={
 mixed:=by kernel_rfl
 f138:=zSq Tryz.func205
 f143:=zSq Tryz.func206
 f146:=zSq Tryz.func78
 f195:=zSq Tryz.func240
 f197:=zSq Tryz.func241
 f217:=zSq Tryz.func270
 f218:=zSq Tryz.func242
 f219:=zSq Tryz.func231
 f221:=zSq Tryz.func146
 f224:=zSq Tryz.func272
 f225:=zSq Tryz.func271
 f260:=zSq Tryz.func286
 f266:=zSq Tryz.func318
 f267:=zSq Tryz.func273
 f268:=zSq Tryz.func204
 f314:=zSq Tryz.func319
 t0:=Tryz.underlying0
 a0:=Tryz.isAgg0
 z0:=Tryz.sizeOf0
 v0:=Tryz.zeroValue0
 t3:=Tryz.underlying3
 a3:=Tryz.isAgg3
 z3:=Tryz.sizeOf3
 v3:=Tryz.zeroValue3
 t4:=Tryz.underlying4
 a4:=Tryz.isAgg4
 z4:=Tryz.sizeOf4
 v4:=Tryz.zeroValue4
 t5:=Tryz.underlying5
 a5:=Tryz.isAgg5
 z5:=Tryz.sizeOf5
 v5:=Tryz.zeroValue5
 t9:=Tryz.underlying9
 a9:=Tryz.isAgg9
 z9:=Tryz.sizeOf9
 v9:=Tryz.zeroValue9
 t21:=Tryz.underlying21
 a21:=Tryz.isAgg21
 z21:=Tryz.sizeOf21
 v21:=Tryz.zeroValue21
 t31:=Tryz.underlying155
 a31:=Tryz.isAgg155
 z31:=Tryz.sizeOf155
 v31:=Tryz.zeroValue155
 t46:=Tryz.underlying253
 a46:=Tryz.isAgg253
 z46:=Tryz.sizeOf253
 v46:=Tryz.zeroValue253
 t51:=Tryz.underlying26
 a51:=Tryz.isAgg26
 z51:=Tryz.sizeOf26
 v51:=Tryz.zeroValue26
 t105:=Tryz.underlying344
 a105:=Tryz.isAgg344
 z105:=Tryz.sizeOf344
 v105:=Tryz.zeroValue344
 t119:=Tryz.underlying413
 a119:=Tryz.isAgg413
 z119:=Tryz.sizeOf413
 t138:=Tryz.underlying415
 a138:=Tryz.isAgg415
 z138:=Tryz.sizeOf415
 v138:=Tryz.zeroValue415
 t139:=Tryz.underlying416
 a139:=Tryz.isAgg416
 z139:=Tryz.sizeOf416
 v139:=Tryz.zeroValue416
 t146:=Tryz.underlying411
 a146:=Tryz.isAgg411
 z146:=Tryz.sizeOf411
 v146:=Tryz.zeroValue411
 g1:=by kernel_rfl
 g3:=by kernel_rfl
 g4:=by kernel_rfl}
open Go.RowKit Go.Lib in
theorem Tryz.strings_Split(s sep:ByteArray)(m:Int)(w:World)(hs:s.size<4294967281)(hm:w.cell? ⟨0,0,none⟩=some (.int .i64 m))(h1:1<=sep.size):
  Calls Tryz.prog 78 #[.string s, .string sep] w fun e w'=>
   e= .returned (.slice (some ⟨w.heap.size,0,none⟩) (Lib.countB s sep+1) (Lib.countB s sep+1))/\w'=w.alloc (.cells ((Lib.splitB sep 0 (Lib.countB s sep) s).map Value.string).toArray 9):=Any.strings_Split Tryz.To (by kernel_rfl) s sep m w hs hm h1
def Tryz.Tp:Go.Shelf.Ren:=⟨fun|146=>78|221=>146|268=>204|138=>205|143=>206|195=>240|197=>241|218=>242|219=>231|260=>286|217=>270|225=>271|224=>272|267=>273|266=>318|314=>319|n=>n,fun|9=>9|31=>155|3=>3|4=>4|0=>0|105=>344|21=>21|5=>5|46=>253|119=>413|139=>416|138=>415|146=>411|51=>26|n=>n,fun|1=>0|3=>2|4=>3|n=>n⟩
theorem Tryz.Tq:Go.Proofs.LaysM.n146 Tryz.prog Tryz.Tp:={
 mixed:=by kernel_rfl
 f138:=zSq Tryz.func205
 f143:=zSq Tryz.func206
 f146:=zSq Tryz.func78
 f195:=zSq Tryz.func240
 f197:=zSq Tryz.func241
 f217:=zSq Tryz.func270
 f218:=zSq Tryz.func242
 f219:=zSq Tryz.func231
 f221:=zSq Tryz.func146
 f224:=zSq Tryz.func272
 f225:=zSq Tryz.func271
 f260:=zSq Tryz.func286
 f266:=zSq Tryz.func318
 f267:=zSq Tryz.func273
 f268:=zSq Tryz.func204
 f314:=zSq Tryz.func319
 t0:=Tryz.underlying0
 a0:=Tryz.isAgg0
 z0:=Tryz.sizeOf0
 v0:=Tryz.zeroValue0
 t3:=Tryz.underlying3
 a3:=Tryz.isAgg3
 z3:=Tryz.sizeOf3
 v3:=Tryz.zeroValue3
 t4:=Tryz.underlying4
 a4:=Tryz.isAgg4
 z4:=Tryz.sizeOf4
 v4:=Tryz.zeroValue4
 t5:=Tryz.underlying5
 a5:=Tryz.isAgg5
 z5:=Tryz.sizeOf5
 v5:=Tryz.zeroValue5
 t9:=Tryz.underlying9
 a9:=Tryz.isAgg9
 z9:=Tryz.sizeOf9
 v9:=Tryz.zeroValue9
 t21:=Tryz.underlying21
 a21:=Tryz.isAgg21
 z21:=Tryz.sizeOf21
 v21:=Tryz.zeroValue21
 t31:=Tryz.underlying155
 a31:=Tryz.isAgg155
 z31:=Tryz.sizeOf155
 v31:=Tryz.zeroValue155
 t46:=Tryz.underlying253
 a46:=Tryz.isAgg253
 z46:=Tryz.sizeOf253
 v46:=Tryz.zeroValue253
 t51:=Tryz.underlying26
 a51:=Tryz.isAgg26
 z51:=Tryz.sizeOf26
 v51:=Tryz.zeroValue26
 t105:=Tryz.underlying344
 a105:=Tryz.isAgg344
 z105:=Tryz.sizeOf344
 v105:=Tryz.zeroValue344
 t119:=Tryz.underlying413
 a119:=Tryz.isAgg413
 z119:=Tryz.sizeOf413
 t138:=Tryz.underlying415
 a138:=Tryz.isAgg415
 z138:=Tryz.sizeOf415
 v138:=Tryz.zeroValue415
 t139:=Tryz.underlying416
 a139:=Tryz.isAgg416
 z139:=Tryz.sizeOf416
 v139:=Tryz.zeroValue416
 t146:=Tryz.underlying411
 a146:=Tryz.isAgg411
 z146:=Tryz.sizeOf411
 v146:=Tryz.zeroValue411
 g1:=by kernel_rfl
 g3:=by kernel_rfl
 g4:=by kernel_rfl
 i0:=by kernel_rfl
 i3:=by kernel_rfl
 i4:=by kernel_rfl
 i5:=by kernel_rfl
 i9:=by kernel_rfl
 i21:=by kernel_rfl
 i31:=by kernel_rfl
 i46:=by kernel_rfl
 i51:=by kernel_rfl
 i105:=by kernel_rfl
 i138:=by kernel_rfl
 i139:=by kernel_rfl
 i146:=by kernel_rfl
 m1:=by kernel_rfl
 s1_3:=fun w h=>Go.Proofs.cell_of_shapedOpen_int (zero:= #[.int .i64 0]) (t:=3) h (of_decide_eq_true (by kernel_rfl)) (by kernel_rfl) rfl (by kernel_rfl) (by kernel_rfl) Tryz.underlying3
 m3:=by kernel_rfl
 m4:=by kernel_rfl}
end Go.Proofs
namespace Go.Proofs.YtkggjjnhnjjokaaGreatDoor
open Go.ay Go.Kb Go.RowKit
class Tabs(w:World):Prop where
 pow:Lib.TabIs Tryz.prog w "internal/strconv.uint64pow10" .u64 Lib.pow10Tab
 len: ∃m,w.cell? ⟨0,0,none⟩=some (.int .i64 m)
theorem Tabs.at{w0 w:World}{L:List ah}(t:Tabs w0)(h:Mem w0 L w):Tabs w:=by
 obtain⟨m,hm⟩:=t.len;have h0:(0:Nat)<w0.heap.size:=by
  rcases amv 0 w0.heap.size with q|q
  ·
   exact q
  rw[World.cell?]at hm;rw[amE (show w0.heap.size<=(⟨0,0,none⟩:Addr).block by exact q)]at hm;simp at hm
 refine⟨?_,m,?_⟩
 ·
  have hv:=t.pow;unfold Lib.TabIs World.var? at hv⊢
  cases hg:Tryz.prog.globalNamed "internal/strconv.uint64pow10" with
  |none=>rw[hg]at hv;cases hv
  |some g=>
  simp only[hg,Option.bind_some]at hv⊢;have Fv:g<w0.heap.size:=by
   rcases amv g w0.heap.size with q|q
   ·
    exact q
   rw[amE q]at hv;cases hv
  rw[h.below.block g Fv];exact hv
 rw[h.below.cell h0];exact hm
class oo(w:World):Prop where
 len: ∃m,w.cell? ⟨0,0,none⟩=some (.int .i64 m)
instance {w:World}[t:Tabs w]:oo w:=⟨t.len⟩
theorem oo.at{w0 w:World}{L:List ah}(t:oo w0)(h:Mem w0 L w):oo w:=by
 obtain⟨m,hm⟩:=t.len;have h0:(0:Nat)<w0.heap.size:=by
  rcases amv 0 w0.heap.size with q|q
  ·
   exact q
  rw[World.cell?]at hm;rw[amE (show w0.heap.size<=(⟨0,0,none⟩:Addr).block by exact q)]at hm;simp at hm
 exact⟨m,by rw[h.below.cell h0];exact hm⟩
theorem KQ(n:Nat):Lib.itoa (n:Int)=dec n:=by
 rw[Lib.itoa,if_neg (by omega),am1];rfl
variable {w0:World}{L:List ah}
theorem KR[t:Tabs w0](n:Nat)(h:n<9223372036854775808)(w:World)(hw:Mem w0 L w):Calls Tryz.prog 86 #[.int .i64 (n:Nat)] w fun e w'=>e= .returned (.string ⟨(dec n).toArray⟩)/\Mem w [] w':=by
 refine(Tryz.strconv_Itoa (n:Int) (by omega) (by omega) w (t.at hw).pow).mono ?_;rintro e w' ⟨he,k,os,rfl⟩;rw[KQ]at he;exact⟨he, .za ⟨rfl,rfl,rfl,by show w.heap.size<=(w.heap++os).size;rw[amT];omega,fun j hj=>by show(w.heap++os)[j]? =w.heap[j]?;exact amW hj⟩⟩
instance[t:Tabs w0](n:Nat):bD Tryz.prog 86 w0 L [.int .i64 (n:Nat)] (.string ⟨(dec n).toArray⟩) (n<9223372036854775808):=⟨fun h w hw=>KR n h w hw⟩
instance (priority:=low)[t:Tabs w0](z:Int):bD Tryz.prog 86 w0 L [.int .i64 z] (.string ⟨(dec z.toNat).toArray⟩) (0<=z/\z<9223372036854775808):=⟨fun h w hw=>by
 have:=KR z.toNat (by omega) w hw;rwa [an8 h.1]at this⟩
instance{s:Sv}{xs:List aB}[q:Hd w0 L s gu 1 xs](sep:aB):bD Tryz.prog 178 w0 L [s.val, .string ⟨sep.toArray⟩] (.string ⟨(rj sep xs).toArray⟩) (xs≠[]/\(rj sep xs).length<=140737488355328):=⟨fun hp w hw=>by
 have r:=q.h w hw;have hx:0<xs.length:=anf.2 hp.1;have eR:=r.ok.sp (by have:=r.len;have:=r.ok.le;omega);have e1:(xs.map fun x=>(⟨x.toArray⟩:ByteArray)).map (·.data.toList)=xs:=by
  rw[List.map_map];exact(aoB (fun x _=>by simp)).trans (List.map_id xs)
 have el:(xs.map fun x=>(⟨x.toArray⟩:ByteArray)).length=xs.length:=by simp
 have hc: ∀(j:Nat) x,(xs.map fun x=>(⟨x.toArray⟩:ByteArray))[j]? =some x->w.cell? ⟨s.b,s.o+j,none⟩=some (.string x):=by
  intro j x hj;rw[amx]at hj;obtain⟨y,hy,rfl⟩:=anH.1 hj;have:=r.row j y hy 0 (by decide);simp only[an0,anA]at this;rw[p6,this];rfl
 have hb:s.b<w.heap.size:=by
  rcases amv s.b w.heap.size with h|h
  ·
   exact h
  have:=hc 0 _ (by rw[amx,amG hx];rfl);rw[World.cell?,amE (show w.heap.size<=(⟨s.b,s.o+0,none⟩:Addr).block by exact h)]at this;simp at this
 have hj:=Tryz.strings_Join s.b s.o s.cap (xs.map fun x=>(⟨x.toArray⟩:ByteArray)) ⟨sep.toArray⟩ w hc hb (by rw[el];exact r.bd) (by rw[el];have:=r.len;have:=r.ok.le;omega) (by rw[e1];exact hp.2);rw[el]at hj;rw[Sv.gn (r.some hx),eR,r.len];refine hj.mono ?_;rintro e w' ⟨he,lq⟩;rw[e1]at he;exact⟨he, .za lq⟩⟩
instance[t:oo w0](s:aB)(c:UInt8):bD Tryz.prog 115 w0 L [.string ⟨s.toArray⟩, .string ⟨[c].toArray⟩] (.tuple #[.string ⟨(aD c s).1.toArray⟩, .string ⟨(aD c s).2.1.toArray⟩, .bool (aD c s).2.2]) (s.length<4294967281):=⟨fun h w hw=>by
 obtain⟨m,hm⟩:=(t.at hw).len;refine(Tryz.strings_Cut ⟨s.toArray⟩ ⟨[c].toArray⟩ m w (by rw[mI];exact h) hm).mono ?_;rintro e w' ⟨he,n,rfl⟩;exact⟨he, .za ⟨rfl,rfl,rfl,amz _,fun _ _=>rfl⟩⟩⟩
instance(s:aB)(c:UInt8):bD Tryz.prog 245 w0 L [.string ⟨s.toArray⟩, .int .u8 (c.toNat:Nat)] (.int .i64 (Lib.indexByte s c)) True:=⟨fun _ w hw=>by
 refine(Tryz.strings_IndexByte ⟨s.toArray⟩ c.toNat w).mono ?_;rintro e w' ⟨he,rfl⟩;have e1:((c.toNat:Int)).toNat.toUInt8=c:=by simp
 rw[e1]at he;exact⟨he, .init _⟩⟩
instance[t:oo w0](s:aB)(c:UInt8):bK Tryz.prog 78 w0 L [.string ⟨s.toArray⟩, .string ⟨[c].toArray⟩] Nat (fun b=>(⟨false,b,0,(aE c s).length,(aE c s).length,none⟩:Sv).val) (fun b=>own gu 1 ⟨false,b,0,(aE c s).length,(aE c s).length,none⟩ (aE c s)::L) (fun _=>True) (s.length<4294967281):=⟨fun h w hw=>by
 obtain⟨m,hm⟩:=(t.at hw).len;have hs:(⟨s.toArray⟩:ByteArray).size<4294967281:=by rw[mI];exact h
 have e0:(Lib.splitB ⟨[c].toArray⟩ 0 (Lib.countB ⟨s.toArray⟩ ⟨[c].toArray⟩) ⟨s.toArray⟩).map (·.data.toList)=aE c s:=Ki c s.length ⟨s.toArray⟩ (by rw[mI];exact amz _);have el:(aE c s).length=Lib.countB ⟨s.toArray⟩ ⟨[c].toArray⟩+1:=by
  exact(Sg c ⟨s.toArray⟩).symm
 have hlen:(aE c s).length<=140737488355328:=by have:=zS c s;omega
 refine(Tryz.strings_Split ⟨s.toArray⟩ ⟨[c].toArray⟩ m w hs hm (amz 1)).mono ?_;rintro e w' ⟨he,rfl⟩;refine⟨w.heap.size,by rw[he,el];rfl,trivial,hw.call (E:=[_]) (ui (enc:=gu) (c:=1) (xs:=aE c s) rfl _ _ rfl (amz _) hlen ?_ fun i x hx j hj=>?_)⟩
 ·
  have:=congrArg List.length e0;rw[amF]at this;simp[this]
 obtain rfl:j=0:=by omega
 rw[←e0,amx]at hx;obtain⟨y,hy,rfl⟩:=anH.1 hx;simp only[an0,anA,anu,amx,hy,am3,gu];rw[←Kd y];rfl⟩
end Go.Proofs.YtkggjjnhnjjokaaGreatDoor
namespace Go.Kb
open Go.ay
structure It where
 id:Int
 body:Sl UInt8
def nF(x:It):Array Value:= #[.int .i64 x.id,x.body.sv.val]
instance:bn nF 2:=⟨fun _=>rfl,fun x=>by
 have h1:(Value.int .i64 x.id).oneCell'=true:=rfl;simp only[nF,anI,anQ,anY,Sv.one,h1,anR]⟩
instance (x:It):bH (nF x) 0 (.int .i64 x.id):=⟨rfl⟩
instance (x:It):bH (nF x) 1 x.body.sv.val:=⟨rfl⟩
instance:Deep It where
 c:=2
 cells:=nF
 size:=bn.size
 one:=bn.one
 dD h x:=Deep.dD h x.body
 cg x:=Deep.cg x.body
 iU h x hs:=Deep.iU h x.body hs
 mono w w' x:=Deep.mono w w' x.body
instance:ff It nF 2:=⟨rfl,fun _=>rfl⟩
variable {w0:World}{L:List ah}
instance{x:It}[q:aU w0 L x]:aU w0 L x.body:=⟨q.h⟩
instance {L R:List ah}{i:Int}{b:Sl UInt8}[k:Take L b R]:Take L (It.mk i b) R:=⟨k.h⟩
def xB(a:Sl It):List (Int×List UInt8):=a.xs.map fun x=>(x.id,x.body.xs)
end Go.Kb
namespace Go.ay
structure mK where
 X:Type
 v:X->Value
 e:X->ah
section
variable {P:Program} {l:List Oper} {Q:Exit->Act->World->Prop} {fs:List Nat} {mk:Nat->mK} {w0:World}
def sO(P:Program)(o:Oper)(ρ:Operand->Value)(m:mK):Prop:= ∀(w0 w:World) (L:List ah),Mem w0 L w-> ∃(x:m.X) (w':World),(execOp ρ o).run P w= .ok (.value (m.v x)) w'/\Mem w0 (m.e x::L) w'
def upon(P:Program)(w:World)(R:Value->World->Prop):Result Next->Prop
 | .ok (.value v) w'=>R v w'
 | .ok .skip w'=>R undef w'
 | .ok (.enter f args) w'=>w'=w/\Calls P f args w fun e ob=> ∃v,e= .returned v/\R v ob
 |_=>False
def qf(P:Program)(l:List Oper)(fs:List Nat)(mk:Nat->mK)(Q:Exit->Act->World->Prop)(w0:World):List Nat->Act->List ah->List ah->Prop
 |[],af,L,_=> ∀w,Mem w0 L w->Q .normal af w
 |k::ord,af,L,Lq=> ∃o,l[k]? =some o/\(if fs.contains k=true then(∀i∈ord,fs.contains (i+2000)=true-> ∃oi,l[i]? =some oi/\oi.guard=none/\sO P oi af.eval (mk i))/\(if fs.contains (k+2000)=true then
  o.guard=none/\sO P o af.eval (mk k)/\ ∀x:(mk k).X,qf P l fs mk Q w0 ord (af.put o.dst ((mk k).v x)) ((mk k).e x::L) Lq
  else
   Region.wanted o (yielded l.toArray af.tmps)=true/\(∀w,Mem w0 L w->upon P w (fun v w'=> ∃L' fx,Mem w0 L' w'/\(∀w,Mem w0 L' w->Mem w0 fx w)/\(∀w,Mem w0 fx w->Mem w0 Lq w)/\(fs.contains (k+5000)=true-> ∀w,Mem w0 L' w->Mem w0 L w)/\qf P l fs mk Q w0 ord (af.put o.dst v) L' fx) ((execOp af.eval o).run P w))/\
   (fs.contains (k+4000)=true-> ∀e w,Mem w0 (e::L) w->upon P w (fun v w'=> ∃L' fx,Mem w0 (e::L') w'/\(∀w,Mem w0 L' w->Mem w0 fx w)/\(∀w,Mem w0 fx w->Mem w0 Lq w)/\(fs.contains (k+5000)=true-> ∀w,Mem w0 L' w->Mem w0 L w)/\qf P l fs mk Q w0 ord (af.put o.dst v) L' fx) ((execOp af.eval o).run P w)))
  else∃v,(Region.wanted o (yielded l.toArray af.tmps)=true->sA P o af (Mem w0 (if fs.contains (k+1000)=true then L else Lq)) v)/\(Region.wanted o (yielded l.toArray af.tmps)=false->v=undef)/\qf P l fs mk Q w0 ord (af.put o.dst v) L Lq)
def zZ(o:Oper):List Nat:=(o.after.toList.filter fun e=>Region.binds .any e).map (·.on)
def Fw(l:List Oper)(fs:List Nat)(A:List (List Nat))(prev seen:List Nat)(k:Nat)(o:Oper):Bool:=
 (!fs.contains k||fs.contains (k+2000)||fs.contains (k+5000)||(prev.all fun j=> !fs.contains (j+1000)||(A.getD k []).contains j))&&
 (match o.op with| .select .. =>false|_=>true)&&
 ((zZ o).all fun j=>decide (j<k))&&
 (fs.contains (k+2000)||seen.all fun f=>(A.getD k []).contains f)&&
 ((A.getD k []).all fun f=>(zZ o).any fun j=>j==f||(A.getD j []).contains f)&&
 ((List.range l.length).all fun j=>match dj l j with
  |none=>true
  |some d=>(!(o.looksAt l.toArray).contains d||(prev.contains j&&(zZ o).contains j&&(!fs.contains (k+2000)|| !fs.contains j)))&&(j==k||o.dst !=some d))
def sP(l:List Oper)(fs:List Nat)(A:List (List Nat)):List Nat->List Nat->List Nat->Bool
 |_,_,[]=>true
 |prev,seen,k::ord=>(match l[k]?with|none=>false|some o=>Fw l fs A prev seen k o)&&(!fs.contains k||fs.contains (k+2000)||(ord.all fun j=> !fs.contains (j+2000))||(fs.contains (k+4000)&&decide ((ord.filter fun j=>fs.contains (j+2000)).length<=1)))&&sP l fs A (k::prev) (if fs.contains k then k::seen else seen) ord
def Cn(l:List Oper)(fs:List Nat)(A:List (List Nat))(ord:List Nat):Bool:=
 ((List.range l.length).all fun j=>ord.contains j)&&decide ord.Nodup&&(ord.all fun j=>decide (j<l.length))&&(fs.all fun j=>decide (j<2000))&&sP l fs A [] [] ord
def Co(l:List Oper)(fs:List Nat)(A:List (List Nat))(ord:List Nat):Bool:=
 ((List.range l.length).all fun j=>ord.contains j)&&decide ord.Nodup&&(ord.all fun j=>decide (j<l.length))&&sP l fs A [] [] ord
structure Fx(l:List Oper)(fs:List Nat)(A:List (List Nat))(prev seen:List Nat)(k:Nat)(o:Oper):Prop where
 tmp:fs.contains k=true->fs.contains (k+2000)=false->fs.contains (k+5000)=false-> ∀j∈prev,fs.contains (j+1000)=true->j∈A.getD k []
 tV: ∀cs b,o.op≠ .select cs b
 back: ∀e∈o.after,Region.binds .any e=true->e.on<k
 Ts:fs.contains (k+2000)=false-> ∀f∈seen,f∈A.getD k []
 cert: ∀f∈A.getD k [],∃e∈o.after,Region.binds .any e=true/\(e.on=f\/f∈A.getD e.on [])
 reads: ∀j d,j<l.length->dj l j=some d->d∈o.looksAt l.toArray->j∈prev/\ ∃e∈o.after,Region.binds .any e=true/\e.on=j
 one: ∀j d,j<l.length->dj l j=some d->j≠k->o.dst≠some d
 Tt:fs.contains (k+2000)=true-> ∀j d,j<l.length->dj l j=some d->d∈o.looksAt l.toArray->fs.contains j=false
theorem Fy{o:Oper}{j:Nat}:j∈zZ o↔ ∃e∈o.after,Region.binds .any e=true/\e.on=j:=by
 unfold zZ;simp only[anB,anV];constructor
 ·
  rintro⟨e,⟨h1,h2⟩,h3⟩;exact⟨e,by simpa using h1,h2,h3⟩
 rintro⟨e,h1,h2,h3⟩;exact⟨e,⟨by simpa using h1,h2⟩,h3⟩
theorem Tu{A:List (List Nat)}{prev seen:List Nat}{k:Nat}{o:Oper}(h:Fw l fs A prev seen k o=true):Fx l fs A prev seen k o:=by
 simp only[Fw,alM]at h;obtain⟨⟨⟨⟨⟨h0,h1⟩,h2⟩,h3⟩,h4⟩,h5⟩:=h;refine⟨fun hk qa Tw j hj ht=>by
  rw[hk,qa,Tw,Bool.not_true,Bool.false_or,Bool.false_or,Bool.false_or]at h0;have:=amt.1 h0 j hj;rw[ht]at this;simpa using this,fun cs b e=>by rw[e]at h1;simp at h1,fun e he hb=>?_,fun hM f hf=>?_,fun f hf=>?_,fun j d hj hd hl=>?_,fun j d hj hd cE=>?_,fun hk j d hj hd hl=>?_⟩
 ·
  have:=amt.1 h2 e.on (Fy.2 ⟨e,he,hb,rfl⟩);simpa using this
 ·
  rw[hM,Bool.false_or]at h3;have:=amt.1 h3 f hf;simpa using this
 ·
  have:=amt.1 h4 f hf;obtain⟨j,hj,dk⟩:=List.any_eq_true.1 this;obtain⟨e,he,hb,rfl⟩:=Fy.1 hj;exact⟨e,he,hb,by simpa using dk⟩
 ·
  have:=amt.1 h5 j (anc.2 hj);rw[hd]at this;simp only[alM,anp,anS]at this;rcases this.1 with h6|h6
  ·
   exact absurd hl (by simpa using h6)
  exact⟨by simpa using h6.1.1,Fy.1 (by simpa using h6.1.2)⟩
 ·
  have:=amt.1 h5 j (anc.2 hj);rw[hd]at this;simp only[alM,anp,beq_iff_eq]at this;rcases this.2 with h6|h6
  ·
   exact absurd h6 cE
  simpa using h6
 have:=amt.1 h5 j (anc.2 hj);rw[hd]at this;simp only[alM,anp,anS]at this;rcases this.1 with h6|h6
 ·
  exact absurd hl (by simpa using h6)
 rcases h6.2 with h7|h7
 ·
  rw[hk]at h7;cases h7
 exact h7
theorem uo{A:List (List Nat)}: ∀(ord prev seen:List Nat),sP l fs A prev seen ord=true-> ∀(x:List Nat) (k:Nat) (y:List Nat),ord=x++k::y->
  ∃o,l[k]? =some o/\Fx l fs A (x.reverse++prev) ((x.filter fun j=>fs.contains j).reverse++seen) k o/\(fs.contains k=true->fs.contains (k+2000)=false->(∀j∈y,fs.contains (j+2000)=false)\/(fs.contains (k+4000)=true/\(y.filter fun j=>fs.contains (j+2000)).length<=1))
 |[],_,_,_,x,k,y,e=>by simp at e
 |k0::ord,prev,seen,h,x,k,y,e=>by
  simp only[sP,alM]at h
  cases x with
  |nil=>
   simp only[am6,aor]at e;obtain⟨rfl,rfl⟩:=e
   cases ho:l[k0]?with
   |none=>rw[ho]at h;simp at h
   |some o=>
    rw[ho]at h;refine⟨o,rfl,by simpa using Tu h.1.1,fun h1 h2=>?_⟩;have h3:=h.1.2;rw[h1,h2]at h3;simp only[Bool.not_true,Bool.false_or,anp,alM,decide_eq_true_eq]at h3;refine h3.imp (fun h4 j hj=>?_) id;have:=amt.1 h4 j hj;simpa using this
  |cons x0 x=>
   simp only[anj,aor]at e;obtain⟨rfl,rfl⟩:=e;obtain⟨o,ho,hk,hy⟩:=uo _ _ _ h.2 x k y rfl;refine⟨o,ho,?_,hy⟩;have e1:(k0::x).reverse++prev=x.reverse++(k0::prev):=by simp
   have e2:(((k0::x).filter fun j=>fs.contains j).reverse++seen)=(x.filter fun j=>fs.contains j).reverse++(if fs.contains k0 then k0::seen else seen):=by
    cases hc:fs.contains k0 with
    |true=>
     rw[aoa,if_pos hc,List.reverse_cons,ams];rfl
    |false=>
     rw[aoa,if_neg (by rw[hc];exact ana)];rfl
   rw[e1,e2];exact hk
def nG(N0 d:Nat)(v:Value)(a:Act):Prop:=a.tmps[d]? =if d<N0 then some v else none
theorem xC{N0 d:Nat}{v:Value}{a:Act}(h:a.tmps.size=N0):nG N0 d v (a.put (some d) v):=by
 subst h;unfold nG;simp[Act.put,amQ]
def Fz(P:Program)(l:List Oper)(w0:World)(N0 k:Nat)(af:Act)(Lq:List ah):Prop:=
 ∃o v,l[k]? =some o/\(∀d,o.dst=some d->nG N0 d v af)/\(Region.wanted o (yielded l.toArray af.tmps)=true->sA P o af (Mem w0 Lq) v)/\(Region.wanted o (yielded l.toArray af.tmps)=false->v=undef)
def Early(l:List Oper)(fs:List Nat)(mk:Nat->mK)(N0:Nat)(gf:List Nat)(listed:Array Bool)(a:Act)(e:Nat×ah):Prop:=
 e.1∈gf/\listed.getD e.1 true=true/\fs.contains e.1=true/\fs.contains (e.1+2000)=true/\ ∃o,∃x:(mk e.1).X,l[e.1]? =some o/\e.2=(mk e.1).e x/\ ∀d,o.dst=some d->nG N0 d ((mk e.1).v x) a
structure Core(P:Program)(l:List Oper)(fs:List Nat)(mk:Nat->mK)(Q:Exit->Act->World->Prop)(w0:World)(ord:List Nat)(a0:Act)(pre gf:List Nat)(af:Act)(L Lq:List ah)(E:List (Nat×ah))(listed:Array Bool)(a:Act)(w:World):Prop where
 ord:ord=pre++gf
 inv:HeadInv .any l.toArray l.length listed
 mem:Mem w0 (E.map (·.2)++L) w
 oq: ∀e∈E,Early l fs mk a0.tmps.size gf listed a e
 keys:(E.map (·.1)).Nodup
 xD: ∀w,Mem w0 L w->Mem w0 Lq w
 vS:qf P l fs mk Q w0 gf af L Lq
 size:a.tmps.size=a0.tmps.size
 pb:af.tmps.size=a0.tmps.size
 defers:a.defers=a0.defers
 qT:af.defers=a0.defers
 sub: ∀j,j<l.length->listed.getD j true=true->j∈pre\/j∈E.map (·.1)
 fresh: ∀j∈pre,fs.contains j=true->listed.getD j true=true
 uq: ∀j∈pre,listed.getD j true=false->Fz P l w0 a0.tmps.size j af (if fs.contains (j+1000)=true then L else Lq)
 done: ∀j d,j<l.length->listed.getD j true=true->j∈pre->dj l j=some d->a.tmps[d]? =af.tmps[d]?
 rest: ∀d,(∀j,j<l.length->listed.getD j true=true->dj l j≠some d)->a.tmps[d]? =a0.tmps[d]?
 full: ∀d,(∀j∈pre,dj l j≠some d)->af.tmps[d]? =a0.tmps[d]?
variable {A:List (List Nat)} {ord:List Nat} {a0:Act}
theorem z1{o:Oper}(hn: ∀cs b,o.op≠ .select cs b){a b:Act}(h: ∀t∈o.looksAt l.toArray,a.tmps[t]? =b.tmps[t]?):
  execOp a.eval o=execOp b.eval o/\Region.wanted o (yielded l.toArray a.tmps)=Region.wanted o (yielded l.toArray b.tmps):=
 ⟨execOp_congr o hn (En h),Jp h⟩
theorem KS{o:Oper}{a b:Act}{C D:World->Prop}{v:Value}(e:execOp a.eval o=execOp b.eval o)(hD: ∀w,D w->C w)(h:sA P o a C v):sA P o b D v:=fun w hw=>by
 have:=h w (hD w hw);unfold Oper.quietAt at this⊢;rw[←e];exact this
theorem xE{pre gf:List Nat}{i k N0:Nat}{af:Act}{Lq fx:List ah}{oi:Oper}{u:Value}(hB:sP l fs A [] [] ord=true)(cn:ord.Nodup)(bx: ∀j∈ord,j<l.length)(ho:ord=pre++i::gf)(vl:l[i]? =some oi)(hk:k∈pre)(hq: ∀w,Mem w0 fx w->Mem w0 Lq w)
  (h:Fz P l w0 N0 k af Lq):Fz P l w0 N0 k (af.put oi.dst u) fx:=by
 obtain⟨o,v,h1,h2,h3,h4⟩:=h;obtain⟨x,y,rfl⟩:=aoe hk;have nz:ord=x++k::(y++i::gf):=by rw[ho];simp
 obtain⟨o',nH,cd,-⟩:=uo ord [] [] hB x k _ nz;have:o'=o:=by rw[h1]at nH;exact(amn nH).symm
 subst this;have hK:i<l.length:=(zz.1 vl).1;have jV:dj l i=oi.dst:=by simp[dj,vl]
 have nI:i≠k:=fun e=>by
  subst e;rw[nz]at cn;have:=(anL.1 cn).2.1;exact(an3.1 this).1 (by simp)
 have Tx:i∉x:=fun hx=>by
  rw[nz]at cn;exact(anL.1 cn).2.2 i hx i (by simp) rfl
 have FA: ∀t∈o'.looksAt l.toArray,af.tmps[t]? =(af.put oi.dst u).tmps[t]? :=fun t ht=>by
  refine(iP _ _ _ _ fun e=>?_).symm;obtain⟨hp,_⟩:=cd.reads i t hK (by rw[jV];exact e) ht;rw[am4,aoO]at hp;exact Tx hp
 obtain⟨e1,e2⟩:=z1 cd.tV FA;refine⟨o',v,h1,fun d hd=>?_,fun hw=>KS e1 hq (h3 (by rw[e2];exact hw)),fun hw=>h4 (by rw[e2];exact hw)⟩;have:=h2 d hd;unfold nG at this⊢;rw[iP _ _ _ _ fun e=>?_]
 ·
  exact this
 ·
  exact cd.one i d hK (by rw[jV];exact e) nI hd
theorem Ty{E:List (Nat×ah)}{k:Nat}(h:k∈E.map (·.1)): ∃E1 x E2,E=E1++(k,x)::E2:=by
 obtain⟨e,he,rfl⟩:=anB.1 h;obtain⟨E1,E2,rfl⟩:=aoe he;exact⟨E1,e.2,E2,rfl⟩
theorem Cq(hB:sP l fs A [] [] ord=true)(cn:ord.Nodup)(bx: ∀j∈ord,j<l.length): ∀(gf pre:List Nat) (af:Act) {L Lq:List ah} {E:List (Nat×ah)} {listed:Array Bool} {a:Act} {w:World},Core P l fs mk Q w0 ord a0 pre gf af L Lq E listed a w->
  ∃Tz FB TA L' E',Core P l fs mk Q w0 ord a0 Tz FB TA L' Lq E' listed a w/\(FB=[]\/ ∃f r,FB=f::r/\fs.contains f=true/\f∉E'.map (·.1))
 |[],pre,af,L,_,E,_,_,_,H=>⟨pre,[],af,L,E,H, .inl rfl⟩
 |k::gf,pre,af,L,Lq,E,listed,a,w,H=>by
  have FC:k∉pre:=fun h=>by
   have nJ:=cn;rw[H.ord]at nJ;exact(anL.1 nJ).2.2 k h k (by simp) rfl
  have gN: ∀j,j∈pre->j≠k:=fun j hj e=>FC (e▸hj);have hks:k∉gf:=fun h=>by
   have nJ:=cn;rw[H.ord]at nJ;exact(an3.1 (anL.1 nJ).2.1).1 h
  obtain⟨o',qg,cd,-⟩:=uo ord [] [] hB pre k gf H.ord;have sQ:k<l.length:=(zz.1 qg).1;have Cr:dj l k=o'.dst:=by simp[dj,qg]
  cases hf:fs.contains k with
  |true=>
   by_cases hE:k∈E.map (·.1)
   ·
    obtain⟨E1,x,E2,rfl⟩:=Ty hE;obtain⟨_,FD,_,hM,oe,b,KT,hx,nK⟩:=H.oq (k,x) (by simp);simp only at FD hM KT hx nK;have e0:oe=o':=by rw[KT]at qg;exact amn qg
    subst e0;obtain⟨o,nH,hl⟩:=H.vS;rw[if_pos hf,if_pos hM]at hl;have e1:o=oe:=by rw[nH]at qg;exact amn qg
    subst e1;obtain⟨_,_,_,xF⟩:=hl;have TB:(((E1++(k,x)::E2).map (·.2))++L).Perm (((E1++E2).map (·.2))++x::L):=by
     simp only[am0,amR,ams,anj];exact List.Perm.append_left _ (anX.symm)
    have FE:=H.keys;simp only[am0,amR]at FE;have TC: ∀e∈E1++E2,e.1≠k:=fun e he e2=>by
     obtain⟨n1,n2,n3⟩:=anL.1 FE;rcases amM.1 he with h|h
     ·
      exact n3 e.1 (am5 h) k (by simp) e2
     ·
      exact(an3.1 n2).1 (e2▸am5 h)
    refine Cq hB cn bx gf (pre++[k]) (af.put o.dst ((mk k).v b)) (L:=x::L) (E:=E1++E2) ⟨by rw[H.ord];simp,H.inv,H.mem.perm TB,fun e he=>?_,?_,fun w hw=>H.xD w (hw.sub (anx _ _)),by rw[hx];exact xF b,H.size,by rw[qQ];exact H.pb,H.defers,by rw[qR];exact H.qT,fun j hj hl=>?_,fun j hj pU=>?_,fun j hj hl=>?_,fun j d hj hl rk hd=>?_,H.rest,fun d hd=>?_⟩
    ·
     have hm:e∈E1++(k,x)::E2:=by
      rcases amM.1 he with h|h
      ·
       exact am8 _ h
      ·
       exact List.mem_append_right _ (ans _ h)
     obtain⟨g1,g2⟩:=H.oq e hm;exact⟨(amA.1 g1).resolve_left (TC e he),g2⟩
    ·
     rw[am0];exact FE.sublist (List.Sublist.append_left (anx _ _) _)
    ·
     rcases H.sub j hj hl with h|h
     ·
      exact .inl (am8 _ h)
     ·
      simp only[am0,amR,amM,amA]at h;rcases h with h|h|h
      ·
       exact .inr (by simp only[am0,amM];exact .inl h)
      ·
       exact .inl (by rw[h];simp)
      ·
       exact .inr (by simp only[am0,amM];exact .inr h)
    ·
     rcases amM.1 hj with h|h
     ·
      exact H.fresh j h pU
     ·
      obtain rfl:=amS.1 h;exact FD
    ·
     rcases amM.1 hj with h|h
     ·
      have hp:=H.uq j h hl
      cases vT:fs.contains (j+1000)with
      |true=>
       rw[vT]at hp;simp only[if_true]at hp⊢;exact xE hB cn bx H.ord nH h (fun w hw=>hw.sub (anx _ _)) hp
      |false=>
       rw[vT]at hp;simp only[anw,if_false]at hp⊢;exact xE hB cn bx H.ord nH h (fun _ h=>h) hp
     ·
      obtain rfl:=amS.1 h;rw[FD]at hl;cases hl
    ·
     rcases amM.1 rk with h|h
     ·
      rw[iP _ _ _ _ (cd.one j d hj hd (gN j h))];exact H.done j d hj hl h hd
     ·
      obtain rfl:=amS.1 h;rw[Cr]at hd;have h3:=nK d hd;rw[hd];have h4:nG a0.tmps.size d ((mk j).v b) (af.put (some d) ((mk j).v b)):=xC H.pb;unfold nG at h3 h4;rw[h3,h4]
    ·
     rw[iP _ _ _ _ (by have:=hd k (by simp);rwa [Cr]at this)];exact H.full d fun j hj=>hd j (am8 _ hj)
   ·
    exact⟨pre,k::gf,af,L,E,H, .inr ⟨k,gf,rfl,hf,hE⟩⟩
  |false=>
   obtain⟨o,nH,hl⟩:=H.vS;rw[if_neg (by rw[hf];exact ana)]at hl;obtain⟨v,h1,h2,h3⟩:=hl;have:o'=o:=by rw[nH]at qg;exact(amn qg).symm
   subst this;have FA: ∀t∈o'.looksAt l.toArray,af.tmps[t]? =(af.put o'.dst v).tmps[t]? :=fun t ht=>by
    refine(iP _ _ _ _ fun e=>?_).symm;obtain⟨hp,_⟩:=cd.reads k t sQ (by rw[Cr];exact e) ht;rw[am4,aoO]at hp;exact FC hp
   obtain⟨e1,e2⟩:=z1 cd.tV FA;refine Cq hB cn bx gf (pre++[k]) (af.put o'.dst v) ⟨by rw[H.ord];simp,H.inv,H.mem,fun e he=>?_,H.keys,H.xD,h3,H.size,by rw[qQ];exact H.pb,H.defers,by rw[qR];exact H.qT,fun j hj hl=>(H.sub j hj hl).imp_left fun h=>am8 _ h,fun j hj pU=>?_,fun j hj hl=>?_,fun j d hj hl rk hd=>?_,H.rest,fun d hd=>?_⟩
   ·
    obtain⟨g1,g2,g3,g4⟩:=H.oq e he;exact⟨(amA.1 g1).resolve_left (fun e2=>by rw[e2,hf]at g3;cases g3),g2,g3,g4⟩
   ·
    rcases amM.1 hj with h|h
    ·
     exact H.fresh j h pU
    ·
     obtain rfl:=amS.1 h;rw[hf]at pU;cases pU
   ·
    rcases amM.1 hj with h|h
    ·
     exact xE hB cn bx H.ord nH h (fun _ h=>h) (H.uq j h hl)
    ·
     obtain rfl:=amS.1 h;refine⟨o',v,nH,fun d hd=>by rw[hd];exact xC H.pb,fun hw=>KS e1 (fun _ h=>h) (h1 (by rw[e2];exact hw)),fun hw=>h2 (by rw[e2];exact hw)⟩
   ·
    rcases amM.1 rk with h|h
    ·
     rw[iP _ _ _ _ (cd.one j d hj hd (gN j h))];exact H.done j d hj hl h hd
    ·
     obtain rfl:=amS.1 h;rcases H.sub j hj hl with h5|h5
     ·
      exact absurd h5 FC
     ·
      obtain⟨e,he,TD⟩:=anB.1 h5;obtain⟨_,_,g3,_⟩:=H.oq e he;rw[TD,hf]at g3;cases g3
   ·
    rw[iP _ _ _ _ (by have:=hd k (by simp);rwa [Cr]at this)];exact H.full d fun j hj=>hd j (am8 _ hj)
theorem KU{x p1 y y':List Nat}{i:Nat}(hn:(p1++i::y').Nodup)(h:x++i::y=p1++i::y'):x=p1:=by
 induction x generalizing p1 with
 |nil=>
  cases p1 with
  |nil=>rfl
  |cons q p1=>
   simp only[am6,anj,aor]at h;obtain⟨rfl,_⟩:=h;exact absurd (by simp) (an3.1 hn).1
 |cons c x ih=>
  cases p1 with
  |nil=>
   simp only[am6,anj,aor]at h;obtain⟨rfl,h2⟩:=h;rw[←h2]at hn;exact absurd (by simp) (an3.1 hn).1
  |cons q p1=>
   simp only[anj,aor]at h;obtain⟨rfl,h2⟩:=h;rw[ih (an3.1 hn).2 h2]
theorem KV{listed:Array Bool}(hB:sP l fs A [] [] ord=true)(jA: ∀j,j<l.length->j∈ord)(inv:HeadInv .any l.toArray l.length listed): ∀(k:Nat) (o:Oper),l[k]? =some o->(∀e∈o.after,Region.binds .any e=true->listed.getD e.on false=true)->
  ∀f∈A.getD k [],listed.getD f false=true:=by
 intro k
 induction k using Nat.strongRecOn with
 |_ k ih=>
  intro o nH hd f hf;obtain⟨x,y,hx⟩:=aoe (jA k (zz.1 nH).1);obtain⟨o',qg,cd,-⟩:=uo ord [] [] hB x k y hx;have:o'=o:=by rw[nH]at qg;exact(amn qg).symm
  subst this;obtain⟨e,he,hb,h⟩:=cd.cert f hf;have hl:=hd e he hb;rcases h with rfl|h
  ·
   exact hl
  ·
   have bx:=cd.back e he hb;have KW:e.on<l.length:=by have:=(zz.1 nH).1;omega
   exact ih e.on bx l[e.on] (by simp[KW]) (inv.closed e.on _ (by simp[KW]) hl) f h
theorem Cs{listed:Array Bool}{i:Nat}(hi:i<listed.size)(h:listed.getD i false=true):listed.getD i true=true:=by
 simp[hi]at h⊢;exact h
theorem Ct(hB:sP l fs A [] [] ord=true)(cn:ord.Nodup)(bx: ∀j∈ord,j<l.length)(jA: ∀j,j<l.length->j∈ord)(xG: ∀k,k<l.length->fs.contains k=false->fs.contains (k+2000)=false):
  ∀(m:Nat) (pre gf:List Nat) (af:Act) (L Lq:List ah) (E:List (Nat×ah)) (listed:Array Bool) (a:Act) (w:World),left l.length listed=m->Core P l fs mk Q w0 ord a0 pre gf af L Lq E listed a w->wpAny P .any l.toArray Q m listed a w
 |0,FF,FG,FH,L0,Lq,E0,listed,a,w,hm,H0=>by
  obtain⟨pre,gf,af,L,E,H,FI⟩:=Cq hB cn bx FG FF FH H0;have mz: ∀j,j<l.length->listed.getD j true=true:=fun j hj=>by
   cases h:listed.getD j true with
   |true=>rfl
   |false=>
    have:j∈(List.range l.length).filter fun i=> !listed.getD i true:=anV.2 ⟨List.mem_range.2 hj,by rw[h];rfl⟩;rw[amB.1 hm]at this
    cases this
  have hr:Region.ready .any l.toArray listed=[]:=by
   refine List.eq_nil_iff_forall_not_mem.2 fun i hi=>?_;obtain⟨h1,o,h2,_⟩:=mem_ready.1 hi;rw[mz i (by have:=(anE.1 h2).1;simpa using this)]at h1;cases h1
  have FJ:gf=[]:=by
   rcases FI with h|⟨k,r,hs,_,hE⟩
   ·
    exact h
   ·
    exfalso;have hk:k∈ord:=by rw[H.ord,hs];simp
    rcases H.sub k (bx k hk) (mz k (bx k hk))with this|this
    ·
     have nJ:=cn;rw[H.ord,hs]at nJ;exact absurd rfl ((anL.1 nJ).2.2 k this k (by simp))
    ·
     exact hE this
  have hE:E=[]:=List.eq_nil_iff_forall_not_mem.2 fun e he=>by
   have:=(H.oq e he).1;rw[FJ]at this;cases this
  have xF:=H.vS;rw[FJ]at xF;have FK:=H.ord;rw[FJ,am4]at FK;have e1:a=af:=by
   have:a.tmps=af.tmps:=by
    apply am7;intro d
    by_cases hw: ∃j,j<l.length/\dj l j=some d
    ·
     obtain⟨j,hj,hd⟩:=hw;exact H.done j d hj (mz j hj) (by rw[←FK];exact jA j hj) hd
    ·
     have h1: ∀j,j<l.length->dj l j≠some d:=fun j hj hd=>hw ⟨j,hj,hd⟩;rw[H.rest d fun j hj _=>h1 j hj,H.full d fun j hj=>h1 j (bx j (by rw[FK];exact hj))]
   have h2:a.defers=af.defers:=by rw[H.defers,H.qT]
   cases a;cases af
   simp_all
  subst e1;have KX:=H.mem;rw[hE]at KX;exact⟨hr,xF w (by simpa using KX)⟩
 |m+1,FF,FG,FH,L0,Lq,E0,listed,a,w,hm,H0=>by
  obtain⟨pre,gf,af,L,E,H,FI⟩:=Cq hB cn bx FG FF FH H0;have KY:Mem w0 L w:=H.mem.sub (List.sublist_append_right _ _);obtain⟨i0,w7,BJ,zl⟩: ∃i,i<l.length/\listed.getD i true=false/\ ∀j,j<i->listed.getD j true=true:=by
   have cE: ∃i,i<l.length/\listed.getD i true=false:=by
    cases hf:(List.range l.length).filter fun i=> !listed.getD i true with
    |nil=>rw[left,hf]at hm;cases hm
    |cons i r=>
     have:i∈(List.range l.length).filter fun i=> !listed.getD i true:=by rw[hf];simp
     obtain⟨h1,h2⟩:=anV.1 this;exact⟨i,anc.1 h1,by simpa using h2⟩
   obtain⟨i,h1,h2⟩:=cE
   induction i using Nat.strongRecOn with
   |_ i ih=>
    by_cases h: ∃j,j<i/\listed.getD j true=false
    ·
     obtain⟨j,hj,dk⟩:=h;exact ih j hj (by omega) dk
    ·
     refine⟨i,h1,h2,fun j hj=>?_⟩
     cases hh:listed.getD j true with
     |true=>rfl
     |false=>exact absurd ⟨j,hj,hh⟩ h
  have dU:listed.size=l.length:=by simpa using H.inv.size
  have ok: ∀k,k<l.length-> ∃x y o,ord=x++k::y/\l[k]? =some o/\Fx l fs A (x.reverse++[]) ((x.filter fun j=>fs.contains j).reverse++[]) k o:=fun k hk=>by
   obtain⟨x,y,hx⟩:=aoe (jA k hk);obtain⟨o,ho,cd,-⟩:=uo ord [] [] hB x k y hx;exact⟨x,y,o,hx,ho,cd⟩
  have zm:i0∈Region.ready .any l.toArray listed:=by
   obtain⟨x,y,o,_,ho,cd⟩:=ok i0 w7;refine mem_ready.2 ⟨BJ,o,by simpa using ho,fun e he hb=>?_⟩;have h1:=cd.back e he hb;have h2:=zl e.on h1;have h3:e.on<listed.size:=by omega
   simp[h3]at h2⊢;exact h2
  refine⟨fun h=>(by rw[h]at zm;cases zm),fun i hi=>?_⟩;obtain⟨gN,o',nz,pc⟩:=mem_ready.1 hi;have sR:i<l.length:=by have:=(anE.1 nz).1;simpa using this
  obtain⟨x,y,o,hx,ho,cd⟩:=ok i sR;have:o'=o:=by simpa[ho]using nz.symm
  subst this;have qU:left l.length (listed.setIfInBounds i true)=m:=by have:=Jq sR gN;omega
  have jV:dj l i=o'.dst:=by simp[dj,ho]
  have gg: ∀j,j≠i->(listed.setIfInBounds i true).getD j true=listed.getD j true:=fun j cq=>getD_set_ne true (Ne.symm cq);have oc:(listed.setIfInBounds i true).getD i true=true:=by simp[show i<listed.size by omega]
  have rl: ∀j d,j<l.length->dj l j=some d->j≠i->o'.dst≠some d:=cd.one;have KZ:(∀j∈x,j∈pre)-> ∀t∈o'.looksAt l.toArray,a.tmps[t]? =af.tmps[t]? :=fun jE t ht=>by
   by_cases hw: ∃j,j<l.length/\dj l j=some t
   ·
    obtain⟨j,hj,hd⟩:=hw;obtain⟨pa,e,he,hb,kf⟩:=cd.reads j t hj hd ht;have hl:=pc e he hb;rw[kf]at hl;rw[am4,aoO]at pa;exact H.done j t hj (Cs (by omega) hl) (jE j pa) hd
   ·
    have h1: ∀j,j<l.length->dj l j≠some t:=fun j hj hd=>hw ⟨j,hj,hd⟩;rw[H.rest t fun j hj _=>h1 j hj,H.full t fun j hj=>h1 j (bx j (by rw[H.ord];exact am8 _ hj))]
  by_cases qh:i∈pre
  ·
   have jE: ∀j∈x,j∈pre:=fun j hj=>by
    obtain⟨p1,p2,hp⟩:=aoe qh;have h1:=H.ord;rw[hp,hx,ams,anj]at h1;have z6:=cn;rw[hx]at z6;have h2:x=p1:=KU (h1▸z6) h1;rw[hp,←h2];exact am8 _ hj
   obtain⟨ee,ew⟩:=z1 cd.tV (KZ jE);obtain⟨op,v,eC,TE,TF,TG⟩:=H.uq i qh gN;have:op=o':=by rw[ho]at eC;exact(amn eC).symm
   subst this;have iQ:fs.contains i=false:=by
    cases h:fs.contains i with
    |false=>rfl
    |true=>have:=H.fresh i qh h;rw[gN]at this;cases this
   have next: ∀w',Mem w [] w'->wpAny P .any l.toArray Q m (listed.setIfInBounds i true) (a.put op.dst v) w':=fun w' fF=>by
    refine Ct hB cn bx jA xG m pre gf af L Lq E _ _ w' qU ⟨H.ord,H.inv.set hi sR,by simpa using H.mem.call fF,fun e he=>?_,H.keys,H.xD,H.vS,by rw[qQ];exact H.size,H.pb,by rw[qR];exact H.defers,H.qT,fun j hj hl=>?_,fun j hj hf=>?_,fun j hj hl=>?_,fun j d hj hl rk hd=>?_,fun d hd=>?_,H.full⟩
    ·
     obtain⟨g1,g2,g3,g4,oe,b,g5,g7,g8⟩:=H.oq e he;have z7:e.1≠i:=fun e2=>by
      have nJ:=cn;rw[H.ord]at nJ;exact(anL.1 nJ).2.2 i qh e.1 g1 e2.symm
     refine⟨g1,by rw[gg _ z7];exact g2,g3,g4,oe,b,g5,g7,fun d hd=>?_⟩;have:=g8 d hd;unfold nG at this⊢;rw[iP _ _ _ _ (rl e.1 d (zz.1 g5).1 (by simp[dj,g5,hd]) z7)];exact this
    ·
     by_cases cq:j=i
     ·
      subst cq;exact .inl qh
     ·
      exact H.sub j hj (by rw[←gg j cq];exact hl)
    ·
     rw[gg j (fun e=>by subst e;rw[iQ]at hf;cases hf)];exact H.fresh j hj hf
    ·
     exact H.uq j hj (by rw[←gg j (fun e=>by subst e;rw[oc]at hl;cases hl)];exact hl)
    ·
     by_cases cq:j=i
     ·
      subst cq;rw[jV]at hd;have h2:=TE d hd;rw[hd];have h3:nG a0.tmps.size d v (a.put (some d) v):=xC H.size;unfold nG at h2 h3;rw[h2,h3]
     ·
      rw[gg j cq]at hl;rw[iP _ _ _ _ (rl j d hj hd cq)];exact H.done j d hj hl rk hd
    ·
     have h1:op.dst≠some d:=by
      have:=hd i sR oc;rwa [jV]at this
     rw[iP _ _ _ _ h1];refine H.rest d fun j hj hl=>?_
     by_cases cq:j=i
     ·
      subst cq;rw[jV];exact h1
     ·
      exact hd j hj (by rw[gg j cq];exact hl)
   unfold wpOp;simp only[nz];rw[ew];split
   ·
    rename_i pf;have h1:=TF pf w (by
     split
     ·
      exact KY
     ·
      exact H.xD w KY)
    refine .inl ?_;unfold Oper.wp;rw[ee];unfold Oper.quietAt at h1;generalize(execOp af.eval op).run P w=r at h1;unfold Oper.quietUpon at h1;split at h1
    ·
     obtain⟨rfl,rfl⟩:=h1;exact next _ (Mem.init _)
    ·
     obtain⟨rfl,e⟩:=h1;rw[e]at next;exact next _ (Mem.init _)
    ·
     obtain⟨rfl,sC⟩:=h1;exact sC.mono fun e ob ⟨he,hm⟩=>by subst he;exact next _ hm
    ·
     exact h1.elim
   ·
    rename_i pf;have:=TG (by simpa using pf);rw[this]at next;exact next w (Mem.init _)
  ·
   have FL:i∈gf:=by
    have:=jA i sR;rw[H.ord]at this;exact(amM.1 this).resolve_left qh
   rcases FI with rfl|⟨f,r,rfl,z8,Aa⟩
   ·
    cases FL
   have TH: ∀(v:Value) (j d:Nat),j<l.length->(listed.setIfInBounds i true).getD j true=true->j∈pre->dj l j=some d->(a.put o'.dst v).tmps[d]? =af.tmps[d]? :=fun v j d hj hl rk hd=>by
    have cq:j≠i:=fun e=>qh (e▸rk);rw[gg j cq]at hl;rw[iP _ _ _ _ (rl j d hj hd cq)];exact H.done j d hj hl rk hd
   have Cu: ∀(v:Value) (d:Nat),(∀j,j<l.length->(listed.setIfInBounds i true).getD j true=true->dj l j≠some d)->(a.put o'.dst v).tmps[d]? =a0.tmps[d]? :=fun v d hd=>by
    have h1:o'.dst≠some d:=by
     have:=hd i sR oc;rwa [jV]at this
    rw[iP _ _ _ _ h1];refine H.rest d fun j hj hl=>?_
    by_cases cq:j=i
    ·
     subst cq;rw[jV];exact h1
    ·
     exact hd j hj (by rw[gg j cq];exact hl)
   have FM:i∉E.map (·.1):=fun h=>by
    obtain⟨e,he,rfl⟩:=anB.1 h;have:=(H.oq e he).2.1;rw[gN]at this;cases this
   have K0: ∀(v:Value),∀e∈E,Early l fs mk a0.tmps.size (f::r) (listed.setIfInBounds i true) (a.put o'.dst v) e:=fun v e he=>by
    obtain⟨g1,g2,g3,g4,oe,b,g5,g7,g8⟩:=H.oq e he;have z7:e.1≠i:=fun e2=>FM (e2▸am5 he);refine⟨g1,by rw[gg _ z7];exact g2,g3,g4,oe,b,g5,g7,fun d hd=>?_⟩;have:=g8 d hd;unfold nG at this⊢;rw[iP _ _ _ _ (rl e.1 d (zz.1 g5).1 (by simp[dj,g5,hd]) z7)];exact this
   by_cases K1:i=f
   ·
    subst K1;have jE: ∀j∈x,j∈pre:=fun j hj=>by
     have h1:=H.ord;rw[hx]at h1;have z6:=cn;rw[hx]at z6;have h2:x=pre:=KU (h1▸z6) h1;rw[←h2];exact hj
    obtain⟨ee,ew⟩:=z1 cd.tV (KZ jE);obtain⟨of,pg,hl⟩:=H.vS;have:of=o':=by rw[ho]at pg;exact(amn pg).symm
    subst this;rw[if_pos z8]at hl;replace hl:=hl.2;have next: ∀v w' E' L' fx,E'=E->(∀e∈E,e.1∈r)->Mem w0 (E'.map (·.2)++L') w'->(∀w,Mem w0 L' w->Mem w0 fx w)->(∀w,Mem w0 fx w->Mem w0 Lq w)->(fs.contains (i+2000)=true\/fs.contains (i+5000)=true-> ∀w,Mem w0 L' w->Mem w0 L w)->qf P l fs mk Q w0 r (af.put of.dst v) L' fx->wpAny P .any l.toArray Q m (listed.setIfInBounds i true) (a.put of.dst v) w':=fun v w' E' L' fx vU vV g1 g2 g3 K2 g4=>by
     subst vU;refine Ct hB cn bx jA xG m (pre++[i]) r (af.put of.dst v) L' fx E' _ _ w' qU ⟨by rw[H.ord];simp,H.inv.set hi sR,g1,fun e he=>?_,H.keys,g2,g4,by rw[qQ];exact H.size,by rw[qQ];exact H.pb,by rw[qR];exact H.defers,by rw[qR];exact H.qT,fun j hj lU=>?_,fun j hj hf=>?_,fun j hj lU=>?_,fun j d hj lU rk hd=>?_,Cu v,fun d hd=>?_⟩
     ·
      obtain⟨g1',TI⟩:=K0 v e he;exact⟨vV e he,TI⟩
     ·
      by_cases cq:j=i
      ·
       subst cq;exact .inl (by simp)
      ·
       exact(H.sub j hj (by rw[←gg j cq];exact lU)).imp_left fun h=>am8 _ h
     ·
      rcases amM.1 hj with h|h
      ·
       by_cases cq:j=i
       ·
        subst cq;exact oc
       ·
        rw[gg j cq];exact H.fresh j h hf
      ·
       obtain rfl:=amS.1 h;exact oc
     ·
      rcases amM.1 hj with h|h
      ·
       have cq:j≠i:=fun e=>qh (e▸h)
       cases vT:fs.contains (j+1000)with
       |true=>
        cases ot:fs.contains (i+2000)with
        |true=>
         have hp:=H.uq j h (by rw[←gg j cq];exact lU);rw[vT]at hp;simp only[if_true]at hp⊢;exact xE hB cn bx H.ord ho h (K2 (.inl ot)) hp
        |false=>
         cases h5:fs.contains (i+5000)with
         |true=>
          have hp:=H.uq j h (by rw[←gg j cq];exact lU);rw[vT]at hp;simp only[if_true]at hp⊢;exact xE hB cn bx H.ord ho h (K2 (.inr h5)) hp
         |false=>
          exfalso;obtain⟨oi,tY,Cv,-⟩:=uo ord [] [] hB pre i r H.ord;have e1:oi=of:=by rw[ho]at tY;exact(amn tY).symm
          subst e1;have TJ:=Cv.tmp z8 ot h5 j (by rw[am4,aoO];exact h) vT;have jT:=KV hB jA H.inv i oi ho pc j TJ;have TK:j∈ord:=by rw[H.ord];exact am8 _ h
          have:=Cs (by have:=bx j TK;omega) jT;rw[gg j cq]at lU;rw[this]at lU;cases lU
       |false=>
        have hp:=H.uq j h (by rw[←gg j cq];exact lU);rw[vT]at hp;simp only[anw,if_false]at hp⊢;exact xE hB cn bx H.ord ho h g3 hp
      ·
       obtain rfl:=amS.1 h;rw[oc]at lU;cases lU
     ·
      rcases amM.1 rk with h|h
      ·
       have cq:j≠i:=fun e=>qh (e▸h);rw[iP _ _ _ _ (rl j d hj hd cq),iP _ _ _ _ (rl j d hj hd cq)];rw[gg j cq]at lU;exact H.done j d hj lU h hd
      ·
       obtain rfl:=amS.1 h;rw[jV]at hd;rw[hd];have h3:nG a0.tmps.size d v (a.put (some d) v):=xC H.size;have h4:nG a0.tmps.size d v (af.put (some d) v):=xC H.pb;unfold nG at h3 h4;rw[h3,h4]
     ·
      have h1:of.dst≠some d:=by
       have:=hd i (by simp);rwa [jV]at this
      rw[iP _ _ _ _ h1];exact H.full d fun j hj=>hd j (am8 _ hj)
    have vV: ∀e∈E,e.1∈r:=fun e he=>by
     have:=(H.oq e he).1;exact(amA.1 this).resolve_left fun e2=>FM (e2▸am5 he)
    cases ot:fs.contains (i+2000)with
    |true=>
     rw[if_pos ot]at hl;obtain⟨hg,FN,xF⟩:=hl;obtain⟨mx,w',fq,FO⟩:=FN w0 w (E.map (·.2)++L) H.mem;unfold wpOp;simp only[nz];rw[if_pos (by simp[Region.wanted,hg])];refine .inl ?_;unfold Oper.wp;rw[ee,fq];refine next _ _ E ((mk i).e mx::L) Lq rfl vV ?_ (fun w hw=>H.xD w (hw.sub (anx _ _))) (fun _ h=>h) (fun _ w hw=>hw.sub (anx _ _)) (xF _);exact FO.perm (anX.symm)
    |false=>
     rw[if_neg (by rw[ot];exact ana)]at hl;obtain⟨hg,fq,TL⟩:=hl;have Cx:E=[]\/ ∃x,E=[x]/\fs.contains (i+4000)=true:=by
      obtain⟨oi,tY,Cv,TM⟩:=uo ord [] [] hB pre i r H.ord;rcases TM z8 ot with h|⟨h4,h5⟩
      ·
       refine .inl (List.eq_nil_iff_forall_not_mem.2 fun e he=>?_);have h1:=h e.1 (vV e he);rw[(H.oq e he).2.2.2.1]at h1;cases h1
      ·
       rcases vU:E with _|⟨x,_|⟨y,E'⟩⟩
       ·
        exact .inl rfl
       ·
        exact .inr ⟨x,rfl,h4⟩
       ·
        exfalso;have m1:x.1∈r.filter fun j=>fs.contains (j+2000):=anV.2 ⟨vV x (by rw[vU];simp),(H.oq x (by rw[vU];simp)).2.2.2.1⟩;have m2:y.1∈r.filter fun j=>fs.contains (j+2000):=anV.2 ⟨vV y (by rw[vU];simp),(H.oq y (by rw[vU];simp)).2.2.2.1⟩;have K3:=H.keys;rw[vU]at K3;have cE:x.1≠y.1:=fun e=>(an3.1 K3).1 (by simp[e]);rcases dM:(r.filter fun j=>fs.contains (j+2000))with _|⟨z,_|⟨z2,fl⟩⟩
        ·
         rw[dM]at m1;cases m1
        ·
         rw[dM,amS]at m1 m2;exact cE (m1.trans m2.symm)
        ·
         rw[dM]at h5;simp at h5
     have h1:upon P w (fun v w'=> ∃L' fx,Mem w0 (E.map (·.2)++L') w'/\(∀w,Mem w0 L' w->Mem w0 fx w)/\(∀w,Mem w0 fx w->Mem w0 Lq w)/\(fs.contains (i+5000)=true-> ∀w,Mem w0 L' w->Mem w0 L w)/\qf P l fs mk Q w0 r (af.put of.dst v) L' fx) ((execOp af.eval of).run P w):=by
      have Ab:=H.mem;rcases Cx with hE|⟨x,hE,h4⟩
      ·
       rw[hE]at Ab⊢;exact fq w (by simpa using Ab)
      ·
       rw[hE]at Ab⊢;exact TL h4 x.2 w (by simpa using Ab)
     have FP: ∀v w',(∃L' fx,Mem w0 (E.map (·.2)++L') w'/\(∀w,Mem w0 L' w->Mem w0 fx w)/\(∀w,Mem w0 fx w->Mem w0 Lq w)/\(fs.contains (i+5000)=true-> ∀w,Mem w0 L' w->Mem w0 L w)/\qf P l fs mk Q w0 r (af.put of.dst v) L' fx)->wpAny P .any l.toArray Q m (listed.setIfInBounds i true) (a.put of.dst v) w':=fun v w' ⟨L',fx,g1,g2,g3,g5,g4⟩=>
      next v w' E L' fx rfl vV g1 g2 g3 (fun h=>h.elim (fun h=>by rw[ot]at h;cases h) g5) g4
     unfold wpOp;simp only[nz];rw[if_pos (by rw[ew];exact hg)];refine .inl ?_;unfold Oper.wp;rw[ee];generalize(execOp af.eval of).run P w=r' at h1;unfold upon at h1;split at h1
     ·
      exact FP _ _ h1
     ·
      exact FP _ _ h1
     ·
      obtain⟨rfl,sC⟩:=h1;exact sC.mono fun e ob ⟨u,he,hR⟩=>by subst he;exact FP u _ hR
     ·
      exact h1.elim
   ·
    have zn:i∈r:=(amA.1 FL).resolve_left K1
    cases ot:fs.contains (i+2000)with
    |false=>
     exfalso;obtain⟨r1,r2,rfl⟩:=aoe zn;have xH:ord=(pre++f::r1)++i::r2:=by rw[H.ord];simp
     obtain⟨oi,tY,Cv,-⟩:=uo ord [] [] hB _ i r2 xH;have e1:oi=o':=by rw[ho]at tY;exact(amn tY).symm
     subst e1;have Ac:=Cv.Ts ot f (by
      rw[am4,aoO,anV];exact⟨by simp,z8⟩)
     have dM:=KV hB jA H.inv i oi ho pc f Ac;have pU:f∈ord:=by rw[H.ord];simp
     rcases H.sub f (bx f pU) (Cs (by have:=bx f pU;omega) dM)with su|su
     ·
      have nJ:=cn;rw[H.ord]at nJ;exact(anL.1 nJ).2.2 f su f (by simp) rfl
     ·
      exact Aa su
    |true=>
     obtain⟨of,pg,hl⟩:=H.vS;rw[if_pos z8]at hl;obtain⟨oa,K4,TN,FN⟩:=hl.1 i zn ot;have e1:oa=o':=by rw[ho]at K4;exact(amn K4).symm
     subst e1;have TO: ∀t∈oa.looksAt l.toArray,a.tmps[t]? =af.tmps[t]? :=fun t ht=>by
      by_cases hw: ∃j,j<l.length/\dj l j=some t
      ·
       obtain⟨j,hj,hd⟩:=hw;obtain⟨_,e,he,hb,kf⟩:=cd.reads j t hj hd ht;have lU:=pc e he hb;rw[kf]at lU;have K5:=Cs (by omega) lU;rcases H.sub j hj K5 with hp|hp
       ·
        exact H.done j t hj K5 hp hd
       ·
        obtain⟨e2,vW,rfl⟩:=anB.1 hp;have g3:=(H.oq e2 vW).2.2.1;rw[cd.Tt ot e2.1 t hj hd ht]at g3;cases g3
      ·
       have h1: ∀j,j<l.length->dj l j≠some t:=fun j hj hd=>hw ⟨j,hj,hd⟩;rw[H.rest t fun j hj _=>h1 j hj,H.full t fun j hj=>h1 j (bx j (by rw[H.ord];exact am8 _ hj))]
     obtain⟨ee,_⟩:=z1 cd.tV TO;obtain⟨mx,w',fq,FO⟩:=FN w0 w (E.map (·.2)++L) H.mem;have iQ:fs.contains i=true:=by
      cases iQ:fs.contains i with
      |true=>rfl
      |false=>
       exfalso;obtain⟨r1,r2,rfl⟩:=aoe zn;exact absurd ot (by rw[xG i sR iQ];exact ana)
     unfold wpOp;simp only[nz];rw[if_pos (by simp[Region.wanted,TN])];refine .inl ?_;unfold Oper.wp;rw[ee,fq];refine Ct hB cn bx jA xG m pre (f::r) af L Lq ((i,(mk i).e mx)::E) _ _ _ qU ⟨H.ord,H.inv.set hi sR,FO,fun e he=>?_,an3.2 ⟨FM,H.keys⟩,H.xD,H.vS,by rw[qQ];exact H.size,H.pb,by rw[qR];exact H.defers,H.qT,fun j hj hl=>?_,fun j hj hf=>?_,fun j hj hl=>?_,TH _,Cu _,H.full⟩
     ·
      rcases amA.1 he with rfl|he
      ·
       exact⟨FL,oc,iQ,ot,oa,mx,ho,rfl,fun d hd=>by rw[hd];exact xC H.size⟩
      ·
       exact K0 _ e he
     ·
      by_cases cq:j=i
      ·
       subst cq;exact .inr (by simp)
      ·
       exact(H.sub j hj (by rw[←gg j cq];exact hl)).imp_right fun h=>ans _ h
     ·
      have cq:j≠i:=fun e=>qh (e▸hj);rw[gg j cq];exact H.fresh j hj hf
     ·
      have cq:j≠i:=fun e=>qh (e▸hj);exact H.uq j hj (by rw[←gg j cq];exact hl)
theorem K6{id:Nat}{ro:Option Nat}[jz Q]{a:Act}{w:World}{L Lq:List ah}(A:List (List Nat))(ord:List Nat)(cn:n9 l=true)(hm:P.follows .mixedOrders=true)(hB:Co l fs A ord=true)(hC:Mem w0 L {w with drawn:=w.drawn+1})(my: ∀w,Mem w0 L w->Mem w0 Lq w)
  (xG: ∀k,k<l.length->fs.contains k=false->fs.contains (k+2000)=false)
  (h:qf P l fs mk Q w0 ord a L Lq):(Code.region id l.toArray true).wpIn (kH ro) 0 P Q a w:=by
 simp only[Co,alM,decide_eq_true_eq]at hB;obtain⟨⟨⟨h1,h2⟩,h3⟩,h4⟩:=hB;have jA: ∀j,j<l.length->j∈ord:=fun j hj=>by have:=amt.1 h1 j (anc.2 hj);simpa using this
 have bx: ∀j∈ord,j<l.length:=fun j hj=>by have:=amt.1 h3 j hj;simpa using this
 refine Ej cn hm ?_;have Es:HeadInv .any l.toArray l.length (Array.replicate l.toArray.size false):=
  ⟨by simp,fun j oj _ hl=>(by rw[getD_replicate_false]at hl;cases hl),fun t h1 h2=>by simp at h2;omega⟩
 have gN: ∀j,j<l.length->(Array.replicate l.toArray.size false).getD j true=false:=fun j hj=>by simp[hj]
 have qU:left l.length (Array.replicate l.toArray.size false)=l.length:=by
  unfold left;rw[List.filter_eq_self.2 (fun j hj=>?_),List.length_range];rw[gN j (anc.1 hj)];rfl
 have:=Ct (P:=P) (Q:=Q) (w0:=w0) (a0:=a) h4 h2 bx jA xG l.length [] ord a L Lq [] (Array.replicate l.toArray.size false) a _ qU
  ⟨rfl,Es,hC,fun e he=>(by cases he),List.nodup_nil,my,h,rfl,rfl,rfl,rfl,fun j hj hl=>(by rw[gN j hj]at hl;cases hl),fun j hj=>(by cases hj),fun j hj=>(by cases hj),fun j d hj hl=>(by rw[gN j hj]at hl;cases hl),fun _ _=>rfl,fun _ _=>rfl⟩
 simpa using this
theorem TP{id:Nat}{ro:Option Nat}[jz Q]{a:Act}{w:World}{L Lq:List ah}(A:List (List Nat))(ord:List Nat)(cn:n9 l=true)(hm:P.follows .mixedOrders=true)(hB:Cn l fs A ord=true)(hC:Mem w0 L {w with drawn:=w.drawn+1})(my: ∀w,Mem w0 L w->Mem w0 Lq w)
  (h:qf P l fs mk Q w0 ord a L Lq):(Code.region id l.toArray true).wpIn (kH ro) 0 P Q a w:=by
 have h5: ∀k,fs.contains (k+2000)=false:=fun k=>by
  simp only[Cn,alM]at hB
  cases hk:fs.contains (k+2000)with
  |false=>rfl
  |true=>
   have:=amt.1 hB.1.2 (k+2000) (by simpa using hk);have:=of_decide_eq_true this;omega
 refine K6 A ord cn hm ?_ hC my (fun k _ _=>h5 k) h;simp only[Cn,Co,alM]at hB⊢;exact⟨hB.1.1,hB.2⟩
end
open Go.RowKit
section
variable {P:Program} {N:cc} {w0:World} {env:Env} {L R R1 R2:List ah} {Q:Exit->Act->World->Prop} {d:Option Tmp} {ty:TypeId} {ps:String} {af:Array Edge} {gd:Option (Nat×Bool)} {K:Value->List ah->Prop}
def aO(P:Program)(N:cc)(w0:World)(env:Env)(L:List ah)(o:Oper)(K:Value->List ah->Prop):Prop:=
 ∀a w,cM N env a->Mem w0 L w->upon P w (fun v w'=> ∃L',Mem w0 L' w'/\K v L') ((execOp a.eval o).run P w)
theorem sS{o:Oper}(h: ∀a w,cM N env a->Mem w0 L w-> ∃v w' L',(execOp a.eval o).run P w= .ok (.value v) w'/\Mem w0 L' w'/\K v L'):aO P N w0 env L o K:=fun a w ha hw=>by
 obtain⟨v,w',L',h1,h2,h3⟩:=h a w ha hw;rw[h1];exact⟨L',h2,h3⟩
theorem FQ{o:Oper}(h: ∀a w,cM N env a->Mem w0 L w-> ∃w' L',(execOp a.eval o).run P w= .ok .skip w'/\Mem w0 L' w'/\K undef L'):aO P N w0 env L o K:=fun a w ha hw=>by
 obtain⟨w',L',h1,h2,h3⟩:=h a w ha hw;rw[h1];exact⟨L',h2,h3⟩
theorem Ad{w:World}{R R':Value->World->Prop}(h: ∀v w,R v w->R' v w){r:Result Next}(hr:upon P w R r):upon P w R' r:=by
 unfold upon at hr⊢;split at hr
 ·
  exact h _ _ hr
 ·
  exact h _ _ hr
 ·
  exact⟨hr.1,hr.2.mono fun e ob ⟨v,he,hv⟩=>⟨v,he,h _ _ hv⟩⟩
 exact hr.elim
theorem K7{o:Oper}{K':Value->List ah->Prop}(h:aO P N w0 env L o K')(hk: ∀v L',K' v L'-> ∃Cy,(∀w,Mem w0 L' w->Mem w0 Cy w)/\K v Cy):aO P N w0 env L o K:=fun a w ha hw=>
 Ad (fun v _ ⟨L',h1,h2⟩=>by obtain⟨Cy,h3,h4⟩:=hk v L' h2;exact⟨Cy,h3 _ h1,h4⟩) (h a w ha hw)
theorem nL{X:Type}{val:X->Value}{L':X->List ah}{pr:X->Prop}{pre:Prop}{f:FuncId}{xs:List Operand}{ts:Array TypeId}{vs:List Value}[hf:aC P f](hx:gh env xs=some vs)
  [hc:bK P f w0 L vs X val L' pr pre] (hp:pre) (hk: ∀x,pr x->K (val x) (L' x)):
  aO P N w0 env L ⟨d, .call {callee:= .value (.func f),args:=xs.toArray,argTypes:=ts},ty,ps,af,gd⟩ K:=fun a w ha hw=>by
 rw[BO hf w rfl,ha.gh hx];exact⟨rfl,(hc.h hp w hw).mono fun e w' ⟨x,he,jE,hm⟩=>⟨val x,he,L' x,hm,hk x jE⟩⟩
section
variable {α:Type} {enc:α->Array Value} {c:Nat} {s:Sv} {xs ys:List α}
theorem TQ{t:TypeId}{z:Value}[hz:dH P t z](hk: ∀b,K ((.pointer (some ⟨b,0,none⟩))) ((al b z.cells t::L))):
  aO P N w0 env L ⟨d, .alloc t,ty,ps,af,none⟩ K:=
 sS fun a w ha hw=>⟨_,_,_,by simp only[execOp,Instr.alloc,newVar,newRow,Sem.run_bind,BN w hz,newObj,Sem.run,Result.andThen,Sem.run_pure];rfl,hw.alloc z.cells t,hk _⟩
theorem Cz{t:TypeId}{cs:Array Value}[hz:dH P t (.agg cs)](hk: ∀b,K ((.pointer (some ⟨b,0,none⟩))) ((al b cs t::L))):
  aO P N w0 env L ⟨d, .alloc t,ty,ps,af,none⟩ K:=TQ (z:= .agg cs) hk
theorem rn{t:TypeId}{x y:Operand}{i b o:Nat}{cs:Array Value}{T:TypeId}{v:Value}(hx:ev env x=some (.pointer (some ⟨b,o,none⟩)))(hy:ev env y=some v)[ht:ft P t][hh:Has L b cs T i](ho:o<cs.size)(hv:v.oneCell'=true){cs':Array Value}{L':List ah}(fH:cs.setIfInBounds o v=cs')[hu:eK L i (al b cs' T) L'](hk:K undef (L')):
  aO P N w0 env L ⟨none, .store t x y,ty,ps,af,none⟩ K:=
 FQ fun a w ha hw=>by
  have hi:=hh.h;have hb:=hw.block hi;have hc:w.cell? ⟨b,o,none⟩=some cs[o]:=by rw[hw.cell hi];simp[ho]
  have hf:w.frozen? ⟨b,o,none⟩=false:=frozen_of_row w b o cs T hb;subst fH;refine⟨w.setCell ⟨b,o,none⟩ v,_,?_,?_,hk⟩
  ·
   have h1:(storeCells ⟨b,o,none⟩ [v]).run P w= .ok () (w.setCell ⟨b,o,none⟩ v):=by
    have:=run_storeCells_at (P:=P) b o T [v] 0 cs w hb (by simp;omega) (by simpa using hv);rw[this,setCell_eq_setRow w b o cs T (0,0) v hb];congr 2;apply aol;simp[List.set_eq_take_append_cons_drop,ho]
   have fH:v.cells= #[v]:=by cases v<;>simp_all[Value.oneCell',Value.cells]
   simp only[execOp,ha.ev hx,ha.ev hy,Instr.storeAt,Instr.sureAddr,storeVar,Sem.run_bind,Sem.run_pure,Result.andThen,jW w ht.size,fH];simp[h1]
  ·
   rw[setCell_eq_setRow w b o cs T (0,0) v hb];rw[←hu.h];exact hw.setRow hi _
theorem FR{t:TypeId}{x y:Operand}{i b o n:Nat}{cs vs:Array Value}{T:TypeId}(hx:ev env x=some (.pointer (some ⟨b,o,none⟩)))(hy:ev env y=some (.agg vs))[ht:eX P t n][hh:Has L b cs T i][hs:eY vs n](ho:o+n<=cs.size){cs':Array Value}{L':List ah}(fH:over cs o vs=cs')[hu:eK L i (al b cs' T) L'](hk:K undef (L')):
  aO P N w0 env L ⟨none, .store t x y,ty,ps,af,none⟩ K:=
 FQ fun a w ha hw=>by
  have hi:=hh.h;have hn:=hs.h;have hv:=hs.one;have hb:=hw.block hi;subst fH;refine⟨_,_,?_,by rw[←hu.h];exact hw.setRow hi _,hk⟩;have h1:=run_storeCells_at (P:=P) b o T vs.toList 0 cs w hb (by simp;omega) (fun v ki=>(amU.1 hv) v (by simpa using ki));simp only[execOp,ha.ev hx,ha.ev hy,Instr.storeAt,Instr.sureAddr,storeVar,Value.cells,Sem.run_bind,Sem.run_pure,Result.andThen,jW w ht.size,hn];simp[h1,over]
theorem lV{t:TypeId}{x y:Operand}{i b n:Nat}{cs vs:Array Value}{T:TypeId}(hx:ev env x=some (.pointer (some ⟨b,0,none⟩)))(hy:ev env y=some (.agg vs))[ht:eX P t n][hh:Has L b cs T i][hs:eY vs n][hc:eY cs n]{L':List ah}[hu:eK L i (al b vs T) L'](hk:K undef (L')):
  aO P N w0 env L ⟨none, .store t x y,ty,ps,af,none⟩ K:=by
 have hn:=hs.h;have Rk:=hc.h;refine FR hx hy (by omega) (?_:over cs 0 vs=vs) hk;apply aol;simp[over];omega
theorem TR{x y:Operand}{tx fv e:TypeId}{i b o dl dc sl sc:Nat}{a:Addr}{cs vs:Array Value}{T:TypeId}(hx:ev env x=some (.slice (some ⟨b,o,none⟩) dl dc))(hy:ev env y=some (.slice (some a) sl sc))
  [ht:ei P tx e 1] [hh:Has L b cs T i] (hn:vs.size=Nat.min sl dl) (pZ: ∀w,Mem w0 L w-> ∀j,j<vs.size->w.cell? (a.add j)=vs[j]?) (hv:vs.all (·.oneCell')=true) (ho:o+vs.size<=cs.size)
  {cs':Array Value} {L':List ah} (fH:over cs o vs=cs') [hu:eK L i (al b cs' T) L'] (hk:K ((.int .i64 vs.size)) (L')):
  aO P N w0 env L ⟨d, .call {callee:= .builtin .copy,args:= #[x,y],argTypes:= #[tx,fv]},ty,ps,af,none⟩ K:=
 sS fun aa w ha hw=>by
  have hi:=hh.h;have hb:=hw.block hi;subst fH;have fq:=run_copy_row (P:=P) w tx fv ty e b o dl dc a sl sc cs T vs.toList ht.dK ht.size hb (by simpa using hn)
   (fun j v ki=>by
    have hj:j<vs.size:=by simpa using(zz.1 ki).1
    rw[pZ w hw j hj];simpa using ki) (by simpa using ho) (fun v ki=>(amU.1 hv) v (by simpa using ki))
  refine⟨_,w.setRow b (over cs o vs),_,?_,by rw[←hu.h];exact hw.setRow hi _,hk⟩;simp[execOp,ha.ev hx,ha.ev hy,resolve,invoke,builtin,fq,Result.andThen,goInt,over]
theorem CA{t tx e:TypeId}{x y:Operand}{yv:Value}{cf i:Nat}[ht:dC P t e c cf][he:bn enc c](hx:ev env x=some s.val)(hy:ev env y=some yv)[q:eS L s enc c xs i](hc:0<c)
  (hs: ∀w,Mem w0 L w->Src P c tx yv ys.length (aH enc ys) w) (hb:(xs.length+ys.length)*cf<=140737488355328) (fQ:xs.length+ys.length<=140737488355328) {L':Sv->List ah} [hu: ∀s',eK L i (own enc c s' (xs++ys)) (L' s')]
  (hk: ∀s':Sv,s'.Ok->s'.len=(xs++ys).length->K (s'.val) ((L' s'))):
  aO P N w0 env L ⟨d, .call {callee:= .builtin .append,args:= #[x,y],argTypes:= #[t,tx]},ty,ps,af,none⟩ K:=
 sS fun a w ha hw=>by
  obtain⟨s',w',h1,h2,h3,h4⟩:=EP (ty:=ty) ht hc hw q.h (hs w hw) hb fQ;refine⟨s'.val,w',L' s',?_,by rw[←(hu s').h];exact h4,hk s' h2 h3⟩;simp[execOp,ha.ev hx,ha.ev hy,resolve,invoke,builtin,h1,Result.andThen]
theorem K8{t e:TypeId}{cf n:Nat}[ht:dC P t e c cf][he:bn enc c]{ops:List (Nat×Operand)}{vals:List Value}(xs:List α)(hx:jB env ops=some (idx vals 0))(hv:vals.map Value.cells=xs.map enc)(hn:xs.length=n)(hc:0<n*c)(pj:n*c<=16777216)
  (hk: ∀b,K ((Sv.val ⟨false,b,0,n,n,none⟩)) ((own enc c ⟨false,b,0,n,n,none⟩ xs::L))):
  aO P N w0 env L ⟨d, .buildSlice t n ops.toArray,ty,ps,af,none⟩ K:=
 sS fun a w ha hw=>by
  subst hn;have e1:(ops.toArray.map fun(p:Nat×Operand)=>match p with|(i,x)=>(i,a.eval x))=(idx vals 0).toArray:=by
   rw[←ha.jB hx];simp
  refine⟨_,_,_,?_,hw.call (ui (enc:=enc) (c:=c) (xs:=xs) (cs:=(aH enc xs).toArray) (e:=e) rfl xs.length xs.length rfl (amz _) (B4 hc pj) (by simp[gp]) fun i x hx j hj=>by rw[←lM (enc:=enc) xs i x hx j hj];simp),hk _⟩;simp only[execOp,e1,Sem.run_bind,B5 ht hv hc pj w,Result.andThen,Sem.run_pure];rfl
theorem K9{t e:TypeId}{cf n cap:Nat}{z:Value}{x y:Operand}{k k':IntKind}{ix iy:Int}[ht:dC P t e c cf][hz:dH P e z](x0:α)(h0:enc x0=z.cells)(hx:ev env x=some (.int k ix))(hy:ev env y=some (.int k' iy))(ex:ix=(n:Int))(ey:iy=(cap:Int))(hle:n<=cap)(hb:cf*cap<=281474976710656)(fQ:cap<=140737488355328)
  (hk: ∀b,K ((Sv.val ⟨false,b,0,n,cap,none⟩)) ((own enc c ⟨false,b,0,n,cap,none⟩ (List.replicate n x0)::L))):
  aO P N w0 env L ⟨d, .makeSlice t x y,ty,ps,af,none⟩ K:=
 sS fun a w ha hw=>by
  subst ex ey;obtain⟨w',h1,h2⟩:=ER ht hz (k:=k) (k':=k') (n:=n) x0 h0 hle hb fQ w;exact⟨_,w',_,by simp only[execOp,ha.ev hx,ha.ev hy,Sem.run_bind,h1,Result.andThen,Sem.run_pure],hw.call h2,hk _⟩
theorem vX{t:TypeId}{x y:Operand}{i k j n p:Nat}{a a':α}{v:Value}(sz:(P.info? t).map (·.size)=some n)[he:bn enc c](hx:ev env x=some (.pointer (some ⟨s.b,p,none⟩)))(hy:ev env y=some v)[q:eS L s enc c xs i](gY:p=s.o+k*c+j)
  (ha:xs[k]? =some a) (hv:v.cells.all (·.oneCell')=true) (hn:v.cells.size=n) (hj:j+n<=c) (og:over (enc a) j v.cells=enc a') {L':List ah} [hu:eK L i (own enc c s (xs.set k a')) L'] (hk:K undef (L')):
  aO P N w0 env L ⟨none, .store t x y,ty,ps,af,none⟩ K:=
 FQ fun aa w zE hw=>by
  subst gY hn;obtain⟨w',h1,h2⟩:=JU (P:=P) hw q ha hv hj og hu;refine⟨w',_,?_,h2,hk⟩;simp only[execOp,zE.ev hx,zE.ev hy,Instr.storeAt,Instr.sureAddr,storeVar,Sem.run_bind,Sem.run_pure,Result.andThen,jW w sz];simp[h1]
theorem TS{P:Program}{N:cc}{w0:World}{env:Env}{L:List ah}{ty:TypeId}{ps:String}{af:Array Edge}{τ:Type}{t:TypeId}{x y:Operand}{i k p:Nat}{s:Sv}{xs:List (Sl τ)}{a:Sl τ}(a':Sl τ)
  (sz:(P.info? t).map (·.size)=some 1) (hx:ev env x=some (.pointer (some ⟨s.b,p,none⟩))) (hy:ev env y=some a'.sv.val) [q:eS L s (bX (τ:=τ)) 1 xs i] (gY:p=s.o+k*1) (ha:xs[k]? =some a) {L':List ah} [hu:eK L i (own bX 1 s (xs.set k a')) L'] (hk:K undef (L')):
  aO P N w0 env L ⟨none, .store t x y,ty,ps,af,none⟩ K:=
 vX (j:=0) (a':=a') sz hx hy (q:=q) gY ha (by rw[Sv.iC];simp[Sv.one]) (by rw[Sv.iC];rfl) (by decide) (by rw[Sv.iC];rfl) hk
theorem TT{α:Type}{enc:α->Array Value}{x y:Operand}{tx fv e:TypeId}{i b o dl dc:Nat}{sv:Sv}{ys:List α}{cs:Array Value}{T:TypeId}(hx:ev env x=some (.slice (some ⟨b,o,none⟩) dl dc))(hy:ev env y=some sv.val)
  [ht:ei P tx e 1] [hh:Has L b cs T i] [q:Hd w0 L sv enc 1 ys] [he:bn enc 1] (h0:0<ys.length) (hl:ys.length<=dl) (ho:o+ys.length<=cs.size)
  {cs':Array Value} {L':List ah} (fH:over cs o (aH enc ys).toArray=cs') [hu:eK L i (al b cs' T) L'] (hk:K ((.int .i64 (ys.length:Nat))) (L')):
  aO P N w0 env L ⟨d, .call {callee:= .builtin .copy,args:= #[x,y],argTypes:= #[tx,fv]},ty,ps,af,none⟩ K:=fun a w ha hw=>by
 have r:=q.h w hw;have hn:=r.some (i:=0) h0;have hlen:=r.len;rw[Sv.gn hn,r.ok.sp (by have:=r.ok.le;omega)]at hy;have hs:(aH enc ys).toArray.size=ys.length:=by rw[am2,gp,an0]
 have jf:=hk;rw[←hs]at jf;refine TR (vs:=(aH enc ys).toArray) hx hy ?_ (fun w hw j hj=>?_) ?_ (by rw[hs];exact ho) fH jf a w ha hw
 ·
  rw[hs];simp only[Nat.min_def];split<;>omega
 ·
  rw[hs]at hj;have:=lM (enc:=enc) ys j ys[j] (by simp[hj]) 0 (by decide);have r2:=(q.h w hw).row j ys[j] (by simp[hj]) 0 (by decide);simp only[an0,anA]at this r2;rw[Addr.gl,p6,r2,←this];simp
 ·
  rw[amU];intro v hv;exact uf (enc:=enc) ys v (by simpa using hv)
end
section
variable {τ:Type} [dp:Deep τ] {enc:τ->Array Value} {c:Nat}
end
theorem La{l:List Oper}{rest:List Oper}{o:Oper}(hg:o.guard=none)(hd:cN N o.dst=true)(h:aO P N w0 env L o (fun v L'=>Sq P N w0 l Q rest (bZ env o.dst v) L')):Sq P N w0 l Q (o::rest) env L:=fun a w ha hw=>by
 unfold wpList;rw[if_pos (pY hg)];refine .inl ?_;have h1:=h a w ha hw;unfold Oper.wp;generalize(execOp a.eval o).run P w=r at h1;unfold upon at h1;split at h1
 ·
  obtain⟨L',h2,h3⟩:=h1;exact h3 _ _ (ha.put hd _) h2
 ·
  obtain⟨L',h2,h3⟩:=h1;exact h3 _ _ (ha.put hd _) h2
 ·
  obtain⟨rfl,hc⟩:=h1;exact hc.mono fun e ob ⟨v,he,L',h2,h3⟩=>by subst he;exact h3 _ _ (ha.put hd _) h2
 exact h1.elim
end
section
variable {P:Program} {N:cc} {w0:World} {env:Env} {L Lq:List ah} {l:List Oper} {fs ord:List Nat} {mk:Nat->mK} {Q:Exit->Act->World->Prop} {k:Nat} {o:Oper}
def Ln(P:Program)(N:cc)(w0:World)(l:List Oper)(fs:List Nat)(mk:Nat->mK)(Q:Exit->Act->World->Prop)(ord:List Nat)(env:Env)(L Lq:List ah):Prop:= ∀a,cM N env a->qf P l fs mk Q w0 ord a L Lq
def Cert(P:Program)(N:cc)(env:Env)(l:List Oper)(fs:List Nat)(mk:Nat->mK)(ord:List Nat):Prop:=
 ∀i∈ord,fs.contains (i+2000)=true-> ∃oi,l[i]? =some oi/\oi.guard=none/\ ∀a,cM N env a->sO P oi a.eval (mk i)
theorem Cert.none(h:(ord.all fun i=> !fs.contains (i+2000))=true):Cert P N env l fs mk ord:=fun i hi hf=>by
 have:=amt.1 h i hi;rw[hf]at this;cases this
theorem Cert.one{i:Nat}{m:mK}(ho:l[i]? =some o)(hg:o.guard=Option.none)(hm:mk i=m)(h: ∀a,cM N env a->sO P o a.eval m)(hr:Cert P N env l fs mk (ord.filter fun j=> !(j==i))):Cert P N env l fs mk ord:=fun j hj hf=>by
 by_cases e:j=i
 ·
  subst e;exact⟨o,ho,hg,by rw[hm];exact h⟩
 exact hr j (anV.2 ⟨hj,by simpa using e⟩) hf
theorem Cert.at(h:Cert P N env l fs mk ord){a:Act}(ha:cM N env a): ∀i∈ord,fs.contains (i+2000)=true-> ∃oi,l[i]? =some oi/\oi.guard=Option.none/\sO P oi a.eval (mk i):=fun i hi hf=>by
 obtain⟨oi,h1,h2,h3⟩:=h i hi hf;exact⟨oi,h1,h2,h3 a ha⟩
theorem Lb(h:Ex N w0 Q .normal env L):Ln P N w0 l fs mk Q [] env L Lq:=fun a ha w hw=>h a w ha hw
theorem Lc{v:Value}(ho:l[k]? =some o)(hf:fs.contains k=false)(hd:cN N o.dst=true)(h1: ∀a,cM N env a->Region.wanted o (yielded l.toArray a.tmps)=true->sA P o a (Mem w0 Lq) v)(h2: ∀a,cM N env a->Region.wanted o (yielded l.toArray a.tmps)=false->v=undef)
  (hk:Ln P N w0 l fs mk Q ord (bZ env o.dst v) L Lq) (kl:fs.contains (k+1000)=false:=by rfl):Ln P N w0 l fs mk Q (k::ord) env L Lq:=fun a ha=>
 ⟨o,ho,by
  rw[if_neg (by rw[hf];exact ana)];exact⟨v,by rw[if_neg (by rw[kl];exact ana)];exact h1 a ha,h2 a ha,hk _ (ha.put hd v)⟩⟩
theorem TU{v:Value}(ho:l[k]? =some o)(h:Yl P N w0 env L o v)(hk:Ln P N w0 l fs mk Q ord (bZ env o.dst v) L Lq)(hg:o.guard=none:=by rfl)(hd:cN N o.dst=true:=by rfl)(hf:fs.contains k=false:=by rfl)(kl:fs.contains (k+1000)=true:=by rfl):Ln P N w0 l fs mk Q (k::ord) env L Lq:=fun a ha=>
 ⟨o,ho,by
  rw[if_neg (by rw[hf];exact ana)];exact⟨v,fun _=>by rw[if_pos kl];exact h a ha,(fun hw=>by rw[pY hg]at hw;cases hw),hk _ (ha.put hd v)⟩⟩
theorem fh{v:Value}(ho:l[k]? =some o)(h:Ry P N w0 env L o v)(hk:Ln P N w0 l fs mk Q ord (bZ env o.dst v) L Lq)(hg:o.guard=none:=by rfl)(hd:cN N o.dst=true:=by rfl)(hf:fs.contains k=false:=by rfl)(kl:fs.contains (k+1000)=true:=by rfl):Ln P N w0 l fs mk Q (k::ord) env L Lq:=TU ho h.yl hk hg hd hf kl
theorem qi{v:Value}(ho:l[k]? =some o)(h:Yl P N w0 env Lq o v)(hk:Ln P N w0 l fs mk Q ord (bZ env o.dst v) L Lq)(hg:o.guard=none:=by rfl)(hd:cN N o.dst=true:=by rfl)(hf:fs.contains k=false:=by rfl)(kl:fs.contains (k+1000)=false:=by rfl):Ln P N w0 l fs mk Q (k::ord) env L Lq:=
 Lc (kl:=kl) ho hf hd (fun a ha _=>h a ha) (fun a ha hw=>by rw[pY hg]at hw;cases hw) hk
theorem ak{v:Value}(ho:l[k]? =some o)(h:Ry P N w0 env Lq o v)(hk:Ln P N w0 l fs mk Q ord (bZ env o.dst v) L Lq)(hg:o.guard=none:=by rfl)(hd:cN N o.dst=true:=by rfl)(hf:fs.contains k=false:=by rfl)(kl:fs.contains (k+1000)=false:=by rfl):Ln P N w0 l fs mk Q (k::ord) env L Lq:=qi ho h.yl hk hg hd hf kl
theorem Ld{v:Value}{j t:Nat}{g:Bool}(ho:l[k]? =some o)(hg:o.guard=some (j,false))(hj:(l[j]?).bind (·.dst)=some t)(hv:look env t=some (.bool g))(h:(!g)=true->Yl P N w0 env Lq o v)
  (hk:Ln P N w0 l fs mk Q ord (bZ env o.dst (if(!g)=true then v else undef)) L Lq) (hd:cN N o.dst=true:=by rfl) (hf:fs.contains k=false:=by rfl) (kl:fs.contains (k+1000)=false:=by rfl):Ln P N w0 l fs mk Q (k::ord) env L Lq:=
 Lc (kl:=kl) ho hf hd (fun a ha hw=>by
  rw[vz ha hg hj hv]at hw
  cases g
  ·
   exact h rfl a ha
  ·
   cases hw) (fun a ha hw=>by
  rw[vz ha hg hj hv]at hw
  cases g
  ·
   cases hw
  ·
   rfl) hk
theorem TV(ho:l[k]? =some o)(h:aO P N w0 env L o fun v L'=> ∃fx,(∀w,Mem w0 L' w->Mem w0 fx w)/\(∀w,Mem w0 fx w->Mem w0 Lq w)/\Ln P N w0 l fs mk Q ord (bZ env o.dst v) L' fx)(hg:o.guard=none:=by rfl)(hd:cN N o.dst=true:=by rfl)(hf:fs.contains k=true:=by rfl)(rp:fs.contains (k+2000)=false:=by rfl)(xI:fs.contains (k+4000)=false:=by rfl)(sU:fs.contains (k+5000)=false:=by rfl)(hC:Cert P N env l fs mk ord:=by exact Cert.none rfl):Ln P N w0 l fs mk Q (k::ord) env L Lq:=fun a ha=>
 ⟨o,ho,by
  rw[if_pos hf,if_neg (by rw[rp];exact ana)];exact⟨hC.at ha,pY hg,fun w hw=>Ad (fun v w' ⟨L',h1,fx,h2,h3,h4⟩=>⟨L',fx,h1,h2,h3,(fun h=>by rw[sU]at h;cases h),h4 _ (ha.put hd v)⟩) (h a w ha hw),fun h=>by rw[xI]at h;cases h⟩⟩
theorem Le(ho:l[k]? =some o)(h:aO P N w0 env L o fun v L'=>(∀w,Mem w0 L' w->Mem w0 Lq w)/\(∀w,Mem w0 L' w->Mem w0 L w)/\Ln P N w0 l fs mk Q ord (bZ env o.dst v) L' Lq)(hg:o.guard=none:=by rfl)(hd:cN N o.dst=true:=by rfl)(hf:fs.contains k=true:=by rfl)(rp:fs.contains (k+2000)=false:=by rfl)(xI:fs.contains (k+4000)=false:=by rfl)(hC:Cert P N env l fs mk ord:=by exact Cert.none rfl):Ln P N w0 l fs mk Q (k::ord) env L Lq:=fun a ha=>
 ⟨o,ho,by
  rw[if_pos hf,if_neg (by rw[rp];exact ana)];exact⟨hC.at ha,pY hg,fun w hw=>Ad (fun v w' ⟨L',h1,h2,h3,h4⟩=>⟨L',Lq,h1,h2,fun _ h=>h,(fun _=>h3),h4 _ (ha.put hd v)⟩) (h a w ha hw),fun h=>by rw[xI]at h;cases h⟩⟩
theorem TW(K:Value->List ah->Prop)(ho:l[k]? =some o)(h:aO P N w0 env L o K)(hF: ∀e,aO P N w0 env (e::L) o fun v L'=> ∃L1,(∀w,Mem w0 L' w->Mem w0 (e::L1) w)/\K v L1)(hk: ∀v L',K v L'->(∀w,Mem w0 L' w->Mem w0 Lq w)/\Ln P N w0 l fs mk Q ord (bZ env o.dst v) L' Lq)(hC:Cert P N env l fs mk ord)(hg:o.guard=none:=by rfl)(hd:cN N o.dst=true:=by rfl)(hf:fs.contains k=true:=by rfl)(rp:fs.contains (k+2000)=false:=by rfl)(sU:fs.contains (k+5000)=false:=by rfl):Ln P N w0 l fs mk Q (k::ord) env L Lq:=fun a ha=>
 ⟨o,ho,by
  rw[if_pos hf,if_neg (by rw[rp];exact ana)];exact⟨hC.at ha,pY hg,fun w hw=>Ad (fun v w' ⟨L',h1,h2⟩=>⟨L',Lq,h1,(hk v L' h2).1,fun _ h=>h,(fun h=>by rw[sU]at h;cases h),(hk v L' h2).2 _ (ha.put hd v)⟩) (h a w ha hw),fun _ e w hw=>Ad (fun v w' ⟨L',h1,L1,h2,h3⟩=>⟨L1,Lq,h2 _ h1,(hk v L1 h3).1,fun _ h=>h,(fun h=>by rw[sU]at h;cases h),(hk v L1 h3).2 _ (ha.put hd v)⟩) (hF e a w ha hw)⟩⟩
theorem sV{X:Type}{val:X->Value}{L':X->List ah}{L2:ah->X->List ah}{pr:X->Prop}{pre:Prop}{f:FuncId}{xs:List Operand}{ts:Array TypeId}{vs:List Value}{d:Option Tmp}{ty:TypeId}{ps:String}{af:Array Edge}[hf:aC P f](ho:l[k]? =some ⟨d, .call {callee:= .value (.func f),args:=xs.toArray,argTypes:=ts},ty,ps,af,none⟩)(hx:gh env xs=some vs)
  [hc:bK P f w0 L vs X val L' pr pre] [FT: ∀e,bK P f w0 (e::L) vs X val (L2 e) pr pre] (hp:pre) (hP: ∀e x w,Mem w0 (L2 e x) w->Mem w0 (e::L' x) w) (hC:Cert P N env l fs mk ord) (hk: ∀x,pr x->(∀w,Mem w0 (L' x) w->Mem w0 Lq w)/\Ln P N w0 l fs mk Q ord (bZ env d (val x)) (L' x) Lq)
  (hd:cN N d=true:=by rfl) (xJ:fs.contains k=true:=by rfl) (rp:fs.contains (k+2000)=false:=by rfl) (sU:fs.contains (k+5000)=false:=by rfl):Ln P N w0 l fs mk Q (k::ord) env L Lq:=
 TW (fun v L1=> ∃x,v=val x/\L1=L' x/\pr x) ho (nL hx hp fun x jE=>⟨x,rfl,rfl,jE⟩) (fun e=>K7 (nL (K:=fun v L1=> ∃x,v=val x/\L1=L2 e x/\pr x) hx hp fun x jE=>⟨x,rfl,rfl,jE⟩) fun v L1 ⟨x,h1,h2,h3⟩=>⟨L1,fun _ h=>h,L' x,fun w hw=>hP e x w (by rw[←h2];exact hw),x,h1,rfl,h3⟩)
  (fun v L1 ⟨x,h1,h2,h3⟩=>by subst h1;subst h2;exact hk x h3) hC rfl hd xJ rp sU
theorem mL{m:mK}(ho:l[k]? =some o)(hm:mk k=m)(h: ∀a,cM N env a->sO P o a.eval m)(hC:Cert P N env l fs mk ord)(hk: ∀x:m.X,Ln P N w0 l fs mk Q ord (bZ env o.dst (m.v x)) (m.e x::L) Lq)(hg:o.guard=none:=by rfl)(hd:cN N o.dst=true:=by rfl)(hf:fs.contains k=true:=by rfl)(kl:fs.contains (k+2000)=true:=by rfl):Ln P N w0 l fs mk Q (k::ord) env L Lq:=fun a ha=>by
 subst hm;refine⟨o,ho,?_⟩;rw[if_pos hf,if_pos kl];exact⟨hC.at ha,hg,h a ha,fun x=>hk x _ (ha.put hd _)⟩
theorem cC(ho:l[k]? =some o)(h:aO P N w0 env L o fun v L'=>(∀w,Mem w0 L' w->Mem w0 Lq w)/\Ln P N w0 l fs mk Q ord (bZ env o.dst v) L' Lq)(hg:o.guard=none:=by rfl)(hd:cN N o.dst=true:=by rfl)(hf:fs.contains k=true:=by rfl)(rp:fs.contains (k+2000)=false:=by rfl)(xI:fs.contains (k+4000)=false:=by rfl)(sU:fs.contains (k+5000)=false:=by rfl)(hC:Cert P N env l fs mk ord:=by exact Cert.none rfl):Ln P N w0 l fs mk Q (k::ord) env L Lq:=
 TV (rp:=rp) (xI:=xI) (sU:=sU) (hC:=hC) ho (K7 h fun v L' ⟨h1,h2⟩=>⟨L',fun _ h=>h,Lq,h1,fun _ h=>h,h2⟩) hg hd hf
def FU:List (Nat×mK)->Nat->mK
 |[],_=>⟨Unit,fun _=>undef,fun _=> .emp⟩
 |(i,m)::r,k=>match Nat.beq i k with
  |true=>m
  |false=>FU r k
@[reducible] def km (P:Program)(t:TypeId){z:Value}[_hz:dH P t z]:mK:=⟨Nat,fun b=> .pointer (some ⟨b,0,none⟩),fun b=>al b z.cells t⟩
theorem ko{t:TypeId}{z:Value}[hz:dH P t z]{d:Option Tmp}{ty:TypeId}{ps:String}{af:Array Edge}{gd:Option (Nat×Bool)}: ∀a,cM N env a->sO P ⟨d, .alloc t,ty,ps,af,gd⟩ a.eval (km P t):=fun a _ w0 w L hw=>by
 refine⟨w.heap.size,w.alloc (.cells z.cells t),?_,hw.alloc z.cells t⟩;simp only[execOp,Instr.alloc,newVar,newRow,Sem.run_bind,BN w hz,newObj,Sem.run,Result.andThen,Sem.run_pure];rfl
@[reducible] def nM {α:Type}(enc:α->Array Value)(c n:Nat)(xs:List α):mK:=⟨Nat,fun b=>Sv.val ⟨false,b,0,n,n,none⟩,fun b=>own enc c ⟨false,b,0,n,n,none⟩ xs⟩
theorem xK{α:Type}{enc:α->Array Value}{c:Nat}{t e:TypeId}{cf n:Nat}{d:Option Tmp}{ty:TypeId}{ps:String}{af:Array Edge}{gd:Option (Nat×Bool)}[ht:dC P t e c cf][he:bn enc c]{ops:List (Nat×Operand)}{vals:List Value}(xs:List α)(hx:jB env ops=some (idx vals 0))(hv:vals.map Value.cells=xs.map enc)(hn:xs.length=n)(hc:0<n*c)(pj:n*c<=16777216):
  ∀a,cM N env a->sO P ⟨d, .buildSlice t n ops.toArray,ty,ps,af,gd⟩ a.eval (nM enc c n xs):=fun a ha w0 w L hw=>by
 subst hn;have e1:(ops.toArray.map fun(p:Nat×Operand)=>match p with|(i,x)=>(i,a.eval x))=(idx vals 0).toArray:=by
  rw[←ha.jB hx];simp
 refine⟨w.heap.size,_,?_,hw.call (ui (enc:=enc) (c:=c) (xs:=xs) (cs:=(aH enc xs).toArray) (e:=e) rfl xs.length xs.length rfl (amz _) (B4 hc pj) (by simp[gp]) fun i x hx j hj=>by rw[←lM (enc:=enc) xs i x hx j hj];simp)⟩;simp only[execOp,e1,Sem.run_bind,B5 ht hv hc pj w,Result.andThen,Sem.run_pure];rfl
theorem nN{id:Nat}[jz Q](fs:List Nat)(A:List (List Nat))(ord:List Nat)(Lq:List ah)(mk:List (Nat×mK))(FW:(fs.all fun j=>decide (j<2000)||decide (4000<=j)||fs.contains (j -2000))=true)(my: ∀w,Mem w0 L w->Mem w0 Lq w)(hm:P.follows .mixedOrders=true)(hB:Co l fs A ord=true)(h:Ln P N w0 l fs (FU mk) Q ord env L Lq)(bx:l.length<=1000:=by decide)(cn:n9 l=true:=by kernel_rfl):Cw P N w0 Q (.region id l.toArray true) env L:=fun a _ ha hw=>by
 refine K6 A ord cn hm hB hw.BC my (fun k sQ hk=>?_) (h a ha)
 cases h2:fs.contains (k+2000)with
 |false=>rfl
 |true=>
  have:=amt.1 FW (k+2000) (by simpa using h2);rw[anp,anp,decide_eq_true_eq,decide_eq_true_eq]at this;rcases this with(h|h)|h
  ·
   omega
  ·
   omega
  rw[Nat.add_sub_cancel,hk]at h;cases h
theorem gB{id:Nat}[jz Q](fs:List Nat)(A:List (List Nat))(ord:List Nat)(Lq:List ah)(my: ∀w,Mem w0 L w->Mem w0 Lq w)(hm:P.follows .mixedOrders=true)(hB:Cn l fs A ord=true)(h:Ln P N w0 l fs (FU []) Q ord env L Lq)(cn:n9 l=true:=by kernel_rfl):Cw P N w0 Q (.region id l.toArray true) env L:=fun a _ ha hw=>
 TP A ord cn hm hB hw.BC my (h a ha)
end
theorem Ry.n{P:Program}{N:cc}{w0:World}{env:Env}{L:List ah}{d:Option Tmp}{ty:TypeId}{ps:String}{af:Array Edge}{gd:Option (Nat×Bool)}{s:TypeId}{x:Operand}{fi off b o o':Nat}[hf:cH P s fi off](hx:ev env x=some (.pointer (some ⟨b,o,none⟩)))(ho:Nat.add o off=o':=by(simp only[Nat.add_eq,Nat.reduceAdd];exact rfl)):
  Ry P N w0 env L ⟨d, .fieldAddr s x fi,ty,ps,af,gd⟩ (.pointer (some ⟨b,o',none⟩)):=aK hx ho
theorem tS{P:Program}{N:cc}{w0:World}{l:List Oper}{Q:Exit->Act->World->Prop}{rest:List Oper}{env:Env}{L:List ah}{d:Option Tmp}{ty:TypeId}{ps:String}{af:Array Edge}(op:Op)(gd:Option (Nat×Bool))(h:Sq P N w0 l Q (⟨d,op,ty,ps,af,gd⟩::rest) env L):Sq P N w0 l Q (⟨d,op,ty,ps,af,gd⟩::rest) env L:=h
theorem tQ{P:Program}{N:cc}{w0:World}{l:List Oper}{fs:List Nat}{F:Act->Prop}{k:Nat}{rest:List Oper}{env:Env}{L:List ah}{d:Option Tmp}{ty:TypeId}{ps:String}{af:Array Edge}(op:Op)(gd:Option (Nat×Bool))(h:Qt P N w0 l fs F k (⟨d,op,ty,ps,af,gd⟩::rest) env L):Qt P N w0 l fs F k (⟨d,op,ty,ps,af,gd⟩::rest) env L:=h
structure Wr(p:Prop):Prop where
 h:p
theorem Gs{G G':Prop}(k:G')(h:Wr G'->G:=by
 intro k
 first
 |(with_reducible refine tS (.move _) none ?_);exact ae (ba rfl) k.h
 |(with_reducible refine tS (.assign _) none ?_);exact ae (fG rfl) k.h
 |(with_reducible refine tS (.fieldAddr _ _ _) none ?_);exact ae (Ry.n rfl) k.h
 |(with_reducible refine tS (.load _ _) none ?_);exact ae (bA rfl) k.h
 |(with_reducible refine tS (.load _ _) none ?_);exact ae (fu rfl) k.h
 |(with_reducible refine tS (.binOp .add _ _ _ _) none ?_);exact ae (zr rfl rfl (by omega)) k.h
 |(with_reducible refine tS (.binOp .sub _ _ _ _) none ?_);exact ae (vr rfl rfl (by omega)) k.h
 |(with_reducible refine tS (.pick _ _ _) none ?_);exact ae (w9 rfl rfl rfl) k.h
 |(with_reducible refine tS (.pick _ _ _) none ?_);exact ae (sD rfl rfl rfl) k.h
 |(with_reducible refine tS (.unOp _ _ _) none ?_);exact ae (kg rfl) k.h
 |(with_reducible refine tS (.binOp _ _ _ _ _) none ?_);exact ae (da rfl rfl rfl) k.h
 |(with_reducible refine tS (.nilCheck _) none ?_);exact ae (fa rfl) k.h
 |(with_reducible refine tS (.call _) none ?_);exact ae (q6 rfl) k.h
 |(with_reducible refine tS (.store _ _ _) none ?_);exact Rj rfl rfl k.h
 |(with_reducible refine tS (.call _) none ?_);exact ck (br rfl trivial) k.h):G:=h ⟨k⟩
theorem Gq{G G':Prop}(k:G')(h:Wr G'->G:=by
 intro k
 first
 |(with_reducible refine tQ (.move _) none ?_);exact bm (ba rfl) k.h
 |(with_reducible refine tQ (.assign _) none ?_);exact bm (fG rfl) k.h
 |(with_reducible refine tQ (.fieldAddr _ _ _) none ?_);exact bm (Ry.n rfl) k.h
 |(with_reducible refine tQ (.load _ _) none ?_);exact bm (bA rfl) k.h
 |(with_reducible refine tQ (.load _ _) none ?_);exact bm (fu rfl) k.h
 |(with_reducible refine tQ (.binOp .add _ _ _ _) none ?_);exact bm (zr rfl rfl (by omega)) k.h
 |(with_reducible refine tQ (.binOp .sub _ _ _ _) none ?_);exact bm (vr rfl rfl (by omega)) k.h
 |(with_reducible refine tQ (.pick _ _ _) none ?_);exact bm (w9 rfl rfl rfl) k.h
 |(with_reducible refine tQ (.pick _ _ _) none ?_);exact bm (sD rfl rfl rfl) k.h
 |(with_reducible refine tQ (.unOp _ _ _) none ?_);exact bm (kg rfl) k.h
 |(with_reducible refine tQ (.binOp _ _ _ _ _) none ?_);exact bm (da rfl rfl rfl) k.h
 |(with_reducible refine tQ (.nilCheck _) none ?_);exact bm (fa rfl) k.h
 |(with_reducible refine tQ (.call _) none ?_);exact bm (q6 rfl) k.h):G:=h ⟨k⟩
theorem Gg{G G':Prop}(k:G')(h:Wr G'->G:=by
 intro k
 first
 |(with_reducible refine tS (.move _) (some (_,false)) ?_);exact aV rfl rfl rfl (fun hg=>Ry.yl (ba rfl)) k.h
 |(with_reducible refine tS (.fieldAddr _ _ _) (some (_,false)) ?_);exact aV rfl rfl rfl (fun hg=>Ry.yl (Ry.n rfl)) k.h
 |(with_reducible refine tS (.load _ _) (some (_,false)) ?_);exact aV rfl rfl rfl (fun hg=>Ry.yl (bA (au hg rfl))) k.h
 |(with_reducible refine tS (.binOp _ _ _ _ _) (some (_,false)) ?_);exact aV rfl rfl rfl (fun hg=>Ry.yl (da (au hg rfl) rfl rfl)) k.h
 |(with_reducible refine tS (.binOp _ _ _ _ _) (some (_,false)) ?_);exact aV rfl rfl rfl (fun hg=>Ry.yl (da (au hg rfl) (au hg rfl) rfl)) k.h
 |(with_reducible refine tS (.call _) (some (_,false)) ?_);exact aV rfl rfl rfl (fun hg=>Ry.yl (q6 (au hg rfl))) k.h
 |(with_reducible refine tS (.move _) (some (_,true)) ?_);exact gm rfl rfl rfl (fun hg=>Ry.yl (ba rfl)) k.h
 |(with_reducible refine tS (.fieldAddr _ _ _) (some (_,true)) ?_);exact gm rfl rfl rfl (fun hg=>Ry.yl (Ry.n rfl)) k.h
 |(with_reducible refine tS (.load _ _) (some (_,true)) ?_);exact gm rfl rfl rfl (fun hg=>Ry.yl (bA (au hg rfl))) k.h
 |(with_reducible refine tS (.binOp _ _ _ _ _) (some (_,true)) ?_);exact gm rfl rfl rfl (fun hg=>Ry.yl (da (au hg rfl) rfl rfl)) k.h
 |(with_reducible refine tS (.binOp _ _ _ _ _) (some (_,true)) ?_);exact gm rfl rfl rfl (fun hg=>Ry.yl (da (au hg rfl) (au hg rfl) rfl)) k.h
 |(with_reducible refine tS (.call _) (some (_,true)) ?_);exact gm rfl rfl rfl (fun hg=>Ry.yl (q6 (au hg rfl))) k.h):G:=h ⟨k⟩
theorem Gh{G G':Prop}(k:G')(h:Wr G'->G:=by
 intro k
 first
 |(with_reducible refine tQ (.move _) (some (_,false)) ?_);exact ie rfl rfl rfl (fun hg=>Ry.yl (ba rfl)) k.h
 |(with_reducible refine tQ (.fieldAddr _ _ _) (some (_,false)) ?_);exact ie rfl rfl rfl (fun hg=>Ry.yl (Ry.n rfl)) k.h
 |(with_reducible refine tQ (.load _ _) (some (_,false)) ?_);exact ie rfl rfl rfl (fun hg=>Ry.yl (bA (au hg rfl))) k.h
 |(with_reducible refine tQ (.binOp _ _ _ _ _) (some (_,false)) ?_);exact ie rfl rfl rfl (fun hg=>Ry.yl (da (au hg rfl) rfl rfl)) k.h
 |(with_reducible refine tQ (.binOp _ _ _ _ _) (some (_,false)) ?_);exact ie rfl rfl rfl (fun hg=>Ry.yl (da (au hg rfl) (au hg rfl) rfl)) k.h
 |(with_reducible refine tQ (.call _) (some (_,false)) ?_);exact ie rfl rfl rfl (fun hg=>Ry.yl (q6 (au hg rfl))) k.h
 |(with_reducible refine tQ (.move _) (some (_,true)) ?_);exact eZ rfl rfl rfl (fun hg=>Ry.yl (ba rfl)) k.h
 |(with_reducible refine tQ (.fieldAddr _ _ _) (some (_,true)) ?_);exact eZ rfl rfl rfl (fun hg=>Ry.yl (Ry.n rfl)) k.h
 |(with_reducible refine tQ (.load _ _) (some (_,true)) ?_);exact eZ rfl rfl rfl (fun hg=>Ry.yl (bA (au hg rfl))) k.h
 |(with_reducible refine tQ (.binOp _ _ _ _ _) (some (_,true)) ?_);exact eZ rfl rfl rfl (fun hg=>Ry.yl (da (au hg rfl) rfl rfl)) k.h
 |(with_reducible refine tQ (.binOp _ _ _ _ _) (some (_,true)) ?_);exact eZ rfl rfl rfl (fun hg=>Ry.yl (da (au hg rfl) (au hg rfl) rfl)) k.h
 |(with_reducible refine tQ (.call _) (some (_,true)) ?_);exact eZ rfl rfl rfl (fun hg=>Ry.yl (q6 (au hg rfl))) k.h):G:=h ⟨k⟩
theorem tR{P:Program}{N:cc}{w0:World}{Q:Exit->Act->World->Prop}{env:Env}{L:List ah}{id:Nat}{l:Array Oper}(h:Cw P N w0 Q (.region id l false) env L):Cw P N w0 Q (.region id l false) env L:=h
theorem Gc{G G':Prop}(k:G')(h:Wr G'->G:=by
 intro k
 repeat (first
  |(with_reducible refine BS ?_)
  |(with_reducible refine BW ?_)
  |(with_reducible refine BQ ?_)
  |(with_reducible refine JH ?_)
  |(with_reducible refine EI ?_)
  |(with_reducible refine JK ?_)
  |(with_reducible refine JJ ?_)
  |(with_reducible refine JG ?_)
  |(with_reducible refine JN ?_)
  |(with_reducible refine JM ?_)
  |(with_reducible refine JL ?_)
  |(with_reducible refine JI ?_)
  |(with_reducible refine Lb ?_)
  |(with_reducible refine JB ?_)
  |(with_reducible refine tR ?_);refine BT ?_)
 exact k.h):G:=h ⟨k⟩
theorem Gi{G G':Prop}(k:G')(h:Wr G'->G:=by
 intro k
 first
  |(with_reducible refine BS ?_)
  |(with_reducible refine BW ?_)
  |(with_reducible refine BQ ?_)
  |(with_reducible refine JH ?_)
  |(with_reducible refine EI ?_)
  |(with_reducible refine JK ?_)
  |(with_reducible refine JJ ?_)
  |(with_reducible refine JG ?_)
  |(with_reducible refine JN ?_)
  |(with_reducible refine JM ?_)
  |(with_reducible refine JL ?_)
  |(with_reducible refine JI ?_)
  |(with_reducible refine Lb ?_)
  |(with_reducible refine JB ?_)
  |(with_reducible refine tR ?_);refine BT ?_
 exact k.h):G:=h ⟨k⟩
theorem bz{p q:Prop}(h:p)(e:p=q:=by(try simp only[Z0,Z1,Z2,Z3,Z4,Z5,Z6,Z7,Z8,Z9]);exact rfl):q:=e▸h
theorem TX{P:Program}{N:cc}{w0:World}{l:List Oper}{Q:Exit->Act->World->Prop}{rest:List Oper}{env:Env}{L:List ah}{d:Option Tmp}{ty:TypeId}{ps:String}{af:Array Edge}{op:Op}(h:Sq P N w0 l Q (⟨d,op,ty,ps,af,none⟩::rest) env L):Sq P N w0 l Q (⟨d,op,ty,ps,af,none⟩::rest) env L:=h
theorem TY{P:Program}{N:cc}{w0:World}{l:List Oper}{Q:Exit->Act->World->Prop}{rest:List Oper}{env:Env}{L:List ah}{d:Option Tmp}{ty:TypeId}{ps:String}{af:Array Edge}{op:Op}{g:Nat×Bool}(h:Sq P N w0 l Q (⟨d,op,ty,ps,af,some g⟩::rest) env L):Sq P N w0 l Q (⟨d,op,ty,ps,af,some g⟩::rest) env L:=h
theorem TZ{P:Program}{N:cc}{w0:World}{l:List Oper}{fs:List Nat}{F:Act->Prop}{k:Nat}{rest:List Oper}{env:Env}{L:List ah}{d:Option Tmp}{ty:TypeId}{ps:String}{af:Array Edge}{op:Op}(h:Qt P N w0 l fs F k (⟨d,op,ty,ps,af,none⟩::rest) env L):Qt P N w0 l fs F k (⟨d,op,ty,ps,af,none⟩::rest) env L:=h
theorem T0{P:Program}{N:cc}{w0:World}{l:List Oper}{fs:List Nat}{F:Act->Prop}{k:Nat}{rest:List Oper}{env:Env}{L:List ah}{d:Option Tmp}{ty:TypeId}{ps:String}{af:Array Edge}{op:Op}{g:Nat×Bool}(h:Qt P N w0 l fs F k (⟨d,op,ty,ps,af,some g⟩::rest) env L):Qt P N w0 l fs F k (⟨d,op,ty,ps,af,some g⟩::rest) env L:=h
theorem Gz{G G':Prop}(k:G')(h:Wr G'->G:=by
 intro k
 first
 |(with_reducible refine TX ?_);refine Gs ?_;exact k.h
 |(with_reducible refine TY ?_);refine Gg ?_;exact k.h
 |(with_reducible refine TZ ?_);refine Gq ?_;exact k.h
 |(with_reducible refine T0 ?_);refine Gh ?_;exact k.h
 |refine Gc ?_;exact k.h):G:=h ⟨k⟩
theorem ao{G G':Prop}(k:G')(h:Wr G'->G:=by intro k;(iterate 2 (refine Gz ?_));exact k.h):G:=h ⟨k⟩
theorem aj{G G':Prop}(k:G')(h:Wr G'->G:=by intro k;(iterate 3 (refine Gz ?_));exact k.h):G:=h ⟨k⟩
theorem an{G G':Prop}(k:G')(h:Wr G'->G:=by intro k;(iterate 4 (refine Gz ?_));exact k.h):G:=h ⟨k⟩
theorem aG{G G':Prop}(k:G')(h:Wr G'->G:=by intro k;(iterate 5 (refine Gz ?_));exact k.h):G:=h ⟨k⟩
theorem aQ{G G':Prop}(k:G')(h:Wr G'->G:=by intro k;(iterate 6 (refine Gz ?_));exact k.h):G:=h ⟨k⟩
theorem ct{G G':Prop}(k:G')(h:Wr G'->G:=by intro k;(iterate 7 (refine Gz ?_));exact k.h):G:=h ⟨k⟩
theorem dV{G G':Prop}(k:G')(h:Wr G'->G:=by intro k;(iterate 8 (refine Gz ?_));exact k.h):G:=h ⟨k⟩
theorem fS{G G':Prop}(k:G')(h:Wr G'->G:=by intro k;(iterate 9 (refine Gz ?_));exact k.h):G:=h ⟨k⟩
theorem nO{G G':Prop}(k:G')(h:Wr G'->G:=by intro k;(iterate 10 (refine Gz ?_));exact k.h):G:=h ⟨k⟩
theorem ou{G G':Prop}(k:G')(h:Wr G'->G:=by intro k;(iterate 11 (refine Gz ?_));exact k.h):G:=h ⟨k⟩
theorem Ae{G G':Prop}(k:G')(h:Wr G'->G:=by intro k;(iterate 12 (refine Gz ?_));exact k.h):G:=h ⟨k⟩
theorem FX{G G':Prop}(k:G')(h:Wr G'->G:=by intro k;(iterate 13 (refine Gz ?_));exact k.h):G:=h ⟨k⟩
theorem T1{G G':Prop}(k:G')(h:Wr G'->G:=by intro k;(iterate 14 (refine Gz ?_));exact k.h):G:=h ⟨k⟩
theorem Lf{G G':Prop}(k:G')(h:Wr G'->G:=by intro k;(iterate 15 (refine Gz ?_));exact k.h):G:=h ⟨k⟩
theorem FY{G G':Prop}(k:G')(h:Wr G'->G:=by intro k;(iterate 16 (refine Gz ?_));exact k.h):G:=h ⟨k⟩
theorem Lg{G G':Prop}(k:G')(h:Wr G'->G:=by intro k;(iterate 17 (refine Gz ?_));exact k.h):G:=h ⟨k⟩
theorem Lh{G G':Prop}(k:G')(h:Wr G'->G:=by intro k;(iterate 18 (refine Gz ?_));exact k.h):G:=h ⟨k⟩
theorem T3{G G':Prop}(k:G')(h:Wr G'->G:=by intro k;(iterate 20 (refine Gz ?_));exact k.h):G:=h ⟨k⟩
theorem T4{G G':Prop}(k:G')(h:Wr G'->G:=by intro k;(iterate 21 (refine Gz ?_));exact k.h):G:=h ⟨k⟩
theorem T5{G G':Prop}(k:G')(h:Wr G'->G:=by intro k;(iterate 22 (refine Gz ?_));exact k.h):G:=h ⟨k⟩
theorem T6{G G':Prop}(k:G')(h:Wr G'->G:=by intro k;(iterate 24 (refine Gz ?_));exact k.h):G:=h ⟨k⟩
theorem T7{G G':Prop}(k:G')(h:Wr G'->G:=by intro k;(iterate 27 (refine Gz ?_));exact k.h):G:=h ⟨k⟩
theorem T8{G G':Prop}(k:G')(h:Wr G'->G:=by intro k;(iterate 28 (refine Gz ?_));exact k.h):G:=h ⟨k⟩
theorem Li{G G':Prop}(k:G')(h:Wr G'->G:=by intro k;(iterate 29 (refine Gz ?_));exact k.h):G:=h ⟨k⟩
theorem Lj{G G':Prop}(k:G')(h:Wr G'->G:=by intro k;(iterate 31 (refine Gz ?_));exact k.h):G:=h ⟨k⟩
theorem fb{G G':Prop}(k:G')(h:Wr G'->G:=by intro k;(iterate 2 (refine Gi ?_));exact k.h):G:=h ⟨k⟩
theorem iY{G G':Prop}(k:G')(h:Wr G'->G:=by intro k;(iterate 3 (refine Gi ?_));exact k.h):G:=h ⟨k⟩
theorem vY{G G':Prop}(k:G')(h:Wr G'->G:=by intro k;(iterate 4 (refine Gi ?_));exact k.h):G:=h ⟨k⟩
theorem FZ{G G':Prop}(k:G')(h:Wr G'->G:=by intro k;(iterate 5 (refine Gi ?_));exact k.h):G:=h ⟨k⟩
theorem kp{G G':Prop}(k:G')(h:Wr G'->G:=by intro k;(iterate 6 (refine Gi ?_));exact k.h):G:=h ⟨k⟩
theorem T9{G G':Prop}(k:G')(h:Wr G'->G:=by intro k;(iterate 7 (refine Gi ?_));exact k.h):G:=h ⟨k⟩
theorem Gb{G p q A B:Prop}(a:p->A)(b:q->B)(h:Wr (p->A)->Wr (q->B)->G:=by
 intro a b;refine ig rfl (fun h=>?_) (fun h=>?_)
 ·
  exact a.h (bz h)
 exact b.h (bz h)):G:=h ⟨a⟩ ⟨b⟩
theorem Gr{P:Program}{fn:Func}{w0:World}{L:List ah}{env:Env}{R:Ending->World->Prop}{n:Nat}{e:Exit}{v:Value}(h: ∀w,Mem w0 L w->R (.returned v) w)(he:e= .ret\/e= .normal:=by exact .inl rfl)(hr: ∀a w,cM ⟨n,[],none⟩ env a->Mem w0 L w->(results fn a.tmps).run P w= .ok v w:=by
 first
 |exact JW rfl (xq rfl)
 |exact RL rfl (by first|exact xq rfl|exact xr rfl) (by first|exact xq rfl|exact xr rfl)
 |exact RM rfl (by first|exact xq rfl|exact xr rfl) (by first|exact xq rfl|exact xr rfl) (by first|exact xq rfl|exact xr rfl)
 |exact JW rfl (xr rfl)):Ex ⟨n,[],none⟩ w0 (pT P fn R) e env L:=cY he hr h
theorem Ge{a b:Bool}{w0 w1:World}{L M:List ah}[hk:ag L M](h:a=b)(hw:Mem w0 L w1):Ending.returned (.bool a)= .returned (.bool b)/\Mem w0 M w1:=⟨by rw[h],ag.mem hw⟩
theorem Gf{a b:Int}{k:IntKind}{w0 w1:World}{L M:List ah}[hk:ag L M](h:a=b)(hw:Mem w0 L w1):Ending.returned (.int k a)= .returned (.int k b)/\Mem w0 M w1:=⟨by rw[h],ag.mem hw⟩
theorem Gk{P:Program}{f:FuncId}{a:Array Value}{w0 w:World}{L:List ah}{X:Type}{val:X->Value}{pr:X->Prop}(E:X->List ah)(hw:Mem w0 L w)(h:Calls P f a w fun e w'=> ∃x,e= .returned (val x)/\pr x/\Mem w (E x) w'):Calls P f a w fun e w'=> ∃x,e= .returned (val x)/\pr x/\Mem w0 (E x++L) w':=h.mono fun e w' ⟨x,h1,h2,h3⟩=>⟨x,h1,h2,hw.call h3⟩
theorem sb{e e':Env}(h:Sub e e':=by repeat (first|exact Sub.nil _|refine Sub.cons rfl ?_)):Sub e e':=h
theorem oM{p:Prop}(h:p:=by omega):p:=h
theorem oF{p:Prop}(h:p:=by first|omega|(simp only[];omega)):p:=h
theorem oK{p:Prop}(h:p:=by kernel_rfl):p:=h
theorem Ua{P:Program}{fn:Func}{R:Ending->World->Prop}{N:Nat}{f:FuncId}{c:Code}{w:World}(hf:P.funcs[f]? =some fn)(hb:fn.body=some c)(hN:fn.ntmps=N)(hle:Nat.ble 0 N=true)(h:Cw P ⟨N,[],none⟩ w (pT P fn R) c [] []):Calls P f #[] w R:=xn (args:=[]) hf hb hN hle h
theorem bQ{P:Program}{fn:Func}{R:Ending->World->Prop}{N:Nat}{f:FuncId}{c:Code}{w:World}{v0:Value}(hf:P.funcs[f]? =some fn)(hb:fn.body=some c)(hN:fn.ntmps=N)(hle:Nat.ble 1 N=true)(h:Cw P ⟨N,[],none⟩ w (pT P fn R) c [(0,v0)] []):Calls P f #[v0] w R:=xn (args:=[v0]) hf hb hN hle h
theorem cD{P:Program}{fn:Func}{R:Ending->World->Prop}{N:Nat}{f:FuncId}{c:Code}{w:World}{v0 v1:Value}(hf:P.funcs[f]? =some fn)(hb:fn.body=some c)(hN:fn.ntmps=N)(hle:Nat.ble 2 N=true)(h:Cw P ⟨N,[],none⟩ w (pT P fn R) c [(0,v0),(1,v1)] []):Calls P f #[v0,v1] w R:=xn (args:=[v0,v1]) hf hb hN hle h
theorem rr{P:Program}{fn:Func}{R:Ending->World->Prop}{N:Nat}{f:FuncId}{c:Code}{w:World}{v0 v1 v2:Value}(hf:P.funcs[f]? =some fn)(hb:fn.body=some c)(hN:fn.ntmps=N)(hle:Nat.ble 3 N=true)(h:Cw P ⟨N,[],none⟩ w (pT P fn R) c [(0,v0),(1,v1),(2,v2)] []):Calls P f #[v0,v1,v2] w R:=xn (args:=[v0,v1,v2]) hf hb hN hle h
theorem Lk{P:Program}{fn:Func}{R:Ending->World->Prop}{N:Nat}{f:FuncId}{c:Code}{w:World}{v0 v1 v2 v3:Value}(hf:P.funcs[f]? =some fn)(hb:fn.body=some c)(hN:fn.ntmps=N)(hle:Nat.ble 4 N=true)(h:Cw P ⟨N,[],none⟩ w (pT P fn R) c [(0,v0),(1,v1),(2,v2),(3,v3)] []):Calls P f #[v0,v1,v2,v3] w R:=xn (args:=[v0,v1,v2,v3]) hf hb hN hle h
end Go.ay
namespace Go.Kb
structure qj where
 len:Int
 eC:UInt16
 deriving DecidableEq
def qj.no:qj:=⟨0,0⟩
structure Nd where
 Ll:List qj
 Lm:List Int
 hs:Ll.length=16
 hn:Lm.length=16
 deriving DecidableEq
def Nd.sl(n:Nd)(b:Nat):qj:=n.Ll.getD b qj.no
def Nd.nx(n:Nd)(b:Nat):Int:=n.Lm.getD b 0
def Nd.mk'(f:Nat->qj)(g:Nat->Int):Nd:=⟨(List.range 16).map f,(List.range 16).map g,by simp,by simp⟩
def Nd.zero:Nd:=Nd.mk' (fun _=>qj.no) (fun _=>0)
theorem Nd.ext'{m n:Nd}(h1: ∀b,b<16->m.sl b=n.sl b)(h2: ∀b,b<16->m.nx b=n.nx b):m=n:=by
 obtain⟨a,b,ha,hb⟩:=m;obtain⟨c,d,hc,hd⟩:=n;have e1:a=c:=anq fun i=>by
  rcases amv i 16 with hi|hi
  ·
   have:=h1 i hi;simp only[Nd.sl,aot]at this;rw[amG (by omega),amG (by omega)]at this⊢;simpa using this
  rw[amD (by omega),amD (by omega)]
 have e2:b=d:=anq fun i=>by
  rcases amv i 16 with hi|hi
  ·
   have:=h2 i hi;simp only[Nd.nx,aot]at this;rw[amG (by omega),amG (by omega)]at this⊢;simpa using this
  rw[amD (by omega),amD (by omega)]
 subst e1;subst e2;rfl
def Lo(k:Key)(n b:Nat):Key:=if n%2=0 then zW k (n/2) (16*b%256)else zW k (n/2) ((aX k (n/2)+b)%256)
def Ub(p:cz):Nat:=((p.len -1)/4).toNat
structure Wy where
 steps:Nat
 key:Key
 deriving DecidableEq
def Uc(k:Key)(s:Nat):Wy:=⟨s,dE k ((4*s:Nat):Int)⟩
def root:Wy:=⟨0,0#128⟩
def child(w:Wy)(b:Nat):Wy:=⟨w.steps+1,Lo w.key w.steps b⟩
def hit(r:Rt)(bits:Int)(w:Wy)(b:Nat):Bool:=decide (r.p.bits=bits)&&decide (Ub r.p=w.steps)&&Sz r.p (Lo w.key w.steps b)
def Ud(bits:Int)(w:Wy)(b:Nat)(s:qj)(r:Rt):qj:=if hit r bits w b=true/\s.len<=r.p.len then⟨r.p.len+1,r.eC⟩else s
def Ue(bits:Int)(R:List Rt)(w:Wy)(b:Nat):qj:=R.foldl (Ud bits w b) qj.no
def Uf(W:List Wy)(w:Wy)(b:Nat):Int:=if child w b∈W then(W.idxOf (child w b):Nat)else 0
def Ug(bits:Int)(W:List Wy)(R:List Rt)(w:Wy):Nd:=Nd.mk' (Ue bits R w) (Uf W w)
def Uh(k:Key)(n:Nat):Nat:=(qb k n).toNat
section
variable {k:Key} {n b:Nat}
end
def Wy.ok(w:Wy):Prop:=w.steps<32/\dE w.key ((4*w.steps:Nat):Int)=w.key
def nodes(bits:Int)(W:List Wy)(R:List Rt):List Nd:=W.map (Ug bits W R)
section
variable {bits:Int} {W:List Wy} {R:List Rt} {w:Wy} {node b:Nat}
end
section
variable {bits:Int} {W:List Wy} {R:List Rt} {r:Rt} {f:Nat}
end
theorem Lp{t:List Rt}(h:iD t=true):t.length<=256:=by
 rcases amv 256 t.length with h1|h1
 ·
  rw[Kt h1]at h;cases h
 exact h1
open Go.ay
def bT(x:Int):Array Value:= #[.int .i64 x]
instance:bn bT 1:=⟨fun _=>rfl,fun _=>by simp[bT,Value.oneCell']⟩
instance (x:Int):bH (bT x) 0 (.int .i64 x):=⟨rfl⟩
instance:Deep Int:=Deep.flat bT 1
instance:ff Int bT 1:=⟨rfl,fun _=>rfl⟩
instance:Plain Int:=⟨fun _=>rfl⟩
end Go.Kb
namespace Go.ay
open Go.Kb
section
variable {P:Program} {N:cc} {w0:World} {env:Env} {L:List ah} {d:Option Tmp} {ty:TypeId} {ps:String} {af:Array Edge} {gd:Option (Nat×Bool)}
theorem fa{x:Operand}{a:Addr}(hx:ev env x=some (.pointer (some a))):Ry P N w0 env L ⟨d, .nilCheck x,ty,ps,af,gd⟩ (.pointer (some a)):=fun _ w ha _=>by
 simp only[execOp,ha.ev hx,Sem.run_pure]
variable {s:Sv} {xs:List Nd} {a:Nd}
end
section
variable {P:Program} {N:cc} {w0:World} {env:Env} {L:List ah} {l:List Oper} {Q:Exit->Act->World->Prop} {rest:List Oper} {ty:TypeId} {ps:String} {af:Array Edge}
variable {s:Sv} {xs:List Nd} {a:Nd}
end
open Go.RowKit
theorem CB{w0 w:World}{L R:List ah}{e:ah}{i:Nat}(q:L[i]? =some e)(d:L.eraseIdx i=R)(h:Mem w0 L w):Mem w0 (e::R) w:=by
 have:=h.perm (mH q);rwa [d]at this
theorem mM{w0 w:World}{L R1 R2:List ah}{e1 e2:ah}{i j:Nat}(h1:L[i]? =some e1)(d1:L.eraseIdx i=R1)(h2:R1[j]? =some e2)(d2:R1.eraseIdx j=R2)(h:Mem w0 L w):Mem w0 (e1::e2::R2) w:=by
 subst d1;subst d2;exact h.perm ((mH h1).trans ((mH h2).cons _))
instance (priority:=low) ag.drop {L L':List ah}{e:ah}[k:ag L L']:ag (e::L) L':=⟨by
 obtain⟨R,hR⟩:=k.h;exact⟨e::R,(hR.cons e).trans anX.symm⟩⟩
section
variable {P:Program} {N:cc} {w0:World} {env:Env} {L:List ah} {Q:Exit->Act->World->Prop} {d:Option Tmp} {ty:TypeId} {ps:String} {af:Array Edge} {gd:Option (Nat×Bool)} {K:Value->List ah->Prop}
theorem Ry.to{o:Oper}{v v':Value}(h:Ry P N w0 env L o v)(e:v=v'):Ry P N w0 env L o v':=e▸h
theorem CC{f:FuncId}{x:Operand}{j6:Array Value}{xs:List Operand}{ts:Array TypeId}{vs:List Value}{v:Value}[hf:aC P f](hx:ev env x=some (.func (.func f) #[] j6))(sW:gh env xs=some vs)
  (hc: ∀w,Mem w0 L w->Calls P f (vs++j6.toList).toArray w fun e w'=>e= .returned v/\Mem w [] w'):
  Yl P N w0 env L ⟨d, .call {callee:= .value x,args:=xs.toArray,argTypes:=ts},ty,ps,af,gd⟩ v:=fun a ha w hw=>by
 unfold Oper.quietAt;obtain⟨fn,h1,h2,h3⟩:=hf.fn;have Ey: ¬fn.body=none:=fun e=>by simp[e]at h2
 have xe: ¬fn.name= "runtime.NumGoroutine" :=by simpa using h3
 have e:(execOp a.eval ⟨d, .call {callee:= .value x,args:=xs.toArray,argTypes:=ts},ty,ps,af,gd⟩).run P w= .ok (.enter f (vs++j6.toList).toArray) w:=by
  have hm:=ha.gh sW;simp[execOp,resolve,ha.ev hx,Deferred.ofValue,invoke,callFunc,h1,Ey,xe,Result.andThen,←hm]
 rw[e];exact⟨rfl,hc w hw⟩
theorem F0{f:Fn}{xs:List Operand}{vs:List Value}(hx:gh env xs=some vs):Ry P N w0 env L ⟨d, .makeFunc f #[] xs.toArray,ty,ps,af,gd⟩ (.func f #[] vs.toArray):=fun a w ha _=>by
 have hm:=ha.gh hx;simp[execOp,Instr.makeFunc,Result.andThen,←hm]
instance (s:Sv):bH (qZ s) 0 s.val:=⟨rfl⟩
instance (s:Sv):bH s.val.cells 0 s.val:=⟨by rw[Sv.iC];rfl⟩
variable {s:Sv} {xs:List Nd} {a:Nd}
end
def c8(e:TypeId)(s:Sv)(xs:aB):ah:=
 ⟨fun k=>s.nil=false/\k=s.b,fun h=>(own aL 1 s xs).sat h/\(s.nil=false->s.o=0/\0<s.cap/\ ∃cs fz,h s.b=some (.cells cs e fz)),fun h h' e' st=>⟨(own aL 1 s xs).loc h h' e' st.1,fun hn=>by rw[e' s.b ⟨hn,rfl⟩];exact st.2 hn⟩⟩
class kr(L:List ah)(s:Sv)(e:outParam TypeId)(xs:outParam aB)(i:outParam Nat):Prop where
 h:L[i]? =some (c8 e s xs)
instance (priority:=high) kr.here {L:List ah}{s:Sv}{e:TypeId}{xs:aB}:kr (c8 e s xs::L) s e xs 0:=⟨rfl⟩
instance kr.there{L:List ah}{s:Sv}{e:TypeId}{xs:aB}{x:ah}{i:Nat}[q:kr L s e xs i]:kr (x::L) s e xs (i+1):=⟨by simpa using q.h⟩
variable {w0:World}{L:List ah}
instance kr.hd{s:Sv}{e:TypeId}{xs:aB}{i:Nat}[q:kr L s e xs i]:Hd w0 L s aL 1 xs:=⟨fun _ hw=>(hw.get q.h).1.1⟩
theorem Mem.Ui{w0 w:World}{L:List ah}(e:TypeId)(h:Mem w0 L w):Mem w0 (c8 e Sv.none []::L) w:=
 h.call (E:=[c8 e Sv.none []]) ⟨Below.refl _ _,fun x hx=>by
  obtain rfl:=amS.1 hx;exact⟨⟨dL.nil aL 1 _,(fun h=>by cases h)⟩,fun h=>by cases h⟩,fun x hx k hk=>by
  obtain rfl:=amS.1 hx;exact absurd hk.1 (by simp[Sv.none]),by simp⟩
theorem Lr{α:Type}{L:List α}{i:Nat}{x y:α}(h:L[i]? =some x):(L.set i y)[i]? =some y:=by
 rw[anD,if_pos rfl,if_pos (zz.1 h).1]
theorem Uj{P:Program}{t tx ty e:TypeId}{cf:Nat}(ht:dC P t e 1 cf){w0 w:World}{L:List ah}{i:Nat}{s:Sv}{xs ys:aB}{x:Value}
  (hw:Mem w0 L w) (hi:L[i]? =some (c8 e s xs)) (hs:Src P 1 tx x ys.length (aH aL ys) w) (hb:(xs.length+ys.length)*cf<=140737488355328) (fQ:xs.length+ys.length<=140737488355328):
  ∃s' w',(Builtin.append_ #[t,tx] ty #[s.val,x]).run P w= .ok (Sv.val s') w'/\Mem w0 (L.set i (c8 e s' (xs++ys))) w':=by
 have Ls:=hw.get hi;have nA:Mem w0 (L.set i (own aL 1 s xs)) w:=hw.change hi (fun k h=>h) (fun _ _=>rfl) rfl ⟨rfl,rfl,rfl⟩ Ls.1;obtain⟨s',w',h1,h2,h3,h4,h5⟩:=JR (ty:=ty) ht (by decide) nA (Lr hi) hs hb fQ;rw[List.set_set]at h4;have cI:=Lr (y:=own aL 1 s' (xs++ys)) hi;have h6:=h4.change (e':=c8 e s' (xs++ys)) cI (fun k h=>h) (fun _ _=>rfl) rfl ⟨rfl,rfl,rfl⟩ ⟨h4.get cI,fun hn=>by
  rcases h5 with⟨e1,e2,e3,e4,e5⟩|⟨e1,e2,e3,cs,e4⟩
  ·
   obtain⟨o0,c0,cs,fz,hb⟩:=Ls.2 (by rw[←e1];exact hn);obtain⟨cs',h⟩:=e5 cs e fz hb;exact⟨e3.trans o0,by rw[e4];exact c0,cs',fz,by rw[e2];exact h⟩
  ·
   exact⟨e2,e3,cs,(0,0),e4⟩⟩
 rw[List.set_set]at h6;exact⟨s',w',h1,h6⟩
section
variable {P:Program} {N:cc} {w0:World} {env:Env} {L:List ah} {l:List Oper} {Q:Exit->Act->World->Prop} {rest:List Oper} {d:Option Tmp} {ty:TypeId} {ps:String} {af:Array Edge} {gd:Option (Nat×Bool)} {s:Sv} {xs ys:aB}
theorem Lt{t tx e:TypeId}{x y:Operand}{yv:Value}{cf i:Nat}[ht:dC P t e 1 cf](hx:ev env x=some s.val)(hy:ev env y=some yv)[q:kr L s e xs i]
  (hs: ∀w,Mem w0 L w->Src P 1 tx yv ys.length (aH aL ys) w) (hb:(xs.length+ys.length)*cf<=140737488355328) (fQ:xs.length+ys.length<=140737488355328) {L':Sv->List ah} [hu: ∀s',eK L i (c8 e s' (xs++ys)) (L' s')]
  (hk: ∀s':Sv,Sq P N w0 l Q rest (bZ env d s'.val) (L' s')) (hd:cN N d=true:=by rfl):
  Sq P N w0 l Q (⟨d, .call {callee:= .builtin .append,args:= #[x,y],argTypes:= #[t,tx]},ty,ps,af,none⟩::rest) env L:=
 lj rfl hd fun a w ha hw=>by
  obtain⟨s',w',h1,h4⟩:=Uj (ty:=ty) ht hw q.h (hs w hw) hb fQ;refine⟨s'.val,w',L' s',?_,by rw[←(hu s').h];exact h4,hk s'⟩;simp[execOp,ha.ev hx,ha.ev hy,resolve,invoke,builtin,h1,Result.andThen]
theorem Uk{tx:TypeId}(hk:P.underlying tx=some .string)(s:aB)(w:World):Src P 1 tx (.string ⟨s.toArray⟩) s.length (aH aL s) w:=by
 have h:=Src.ofString w hk ⟨s.toArray⟩;rw[mI]at h;have e:byteCells ⟨s.toArray⟩=aH aL s:=by
  show(s.toArray.toList).map _=_;rw[List.toList_toArray]
  induction s with
  |nil=>rfl
  |cons a r ih=>rw[amR];exact congrArg (List.cons _) (ih (Src.ofString w hk ⟨r.toArray⟩|>fun q=>by rw[mI]at q;exact q))
 rw[←e];exact h
theorem Ul{src dst t:TypeId}{j:TypeInfo}{x:Operand}{b o i:Nat}{cs:Array Value}{T:TypeId}(hs:P.underlying src=some (.pointer t))(hd:P.underlying dst=some .unsafePointer)(ht:P.info? t=some j)(hj:j.size≠0)(hx:ev env x=some (.pointer (some ⟨b,o,none⟩)))[hh:Has L b cs T i](ho:o<cs.size):
  Ry P N w0 env L ⟨d, .convert src dst x,ty,ps,af,gd⟩ (.pointer (some ⟨b,o,none⟩)):=fun a w ha hw=>by
 have hb:=hw.block hh.h;have:=Lib.run_to_unsafe (P:=P) w (a:=⟨b,o,none⟩) (cells:=cs.size) (e:=T) hs hd ht hj (by simp[World.shape?,hb]) ho;simp only[execOp,ha.ev hx,this,Sem.run_bind,Result.andThen,Sem.run_pure]
theorem Um{src dst u:TypeId}{j:TypeInfo}{x:Operand}{b o i:Nat}{cs:Array Value}{T:TypeId}(hs:P.underlying src=some .unsafePointer)(hd:P.underlying dst=some (.pointer u))(hu:P.info? u=some j)(hx:ev env x=some (.pointer (some ⟨b,o,none⟩)))[hh:Has L b cs T i](hl:liesAt P P.depth T (cs.size/P.cellsOf T) o u 1=true):
  Ry P N w0 env L ⟨d, .convert src dst x,ty,ps,af,gd⟩ (.pointer (some ⟨b,o,none⟩)):=fun a w ha hw=>by
 have hb:=hw.block hh.h;have:=Lib.run_from_unsafe (P:=P) w (a:=⟨b,o,none⟩) (cells:=cs.size) (e:=T) hs hd hu (by simp[World.shape?,hb]) hl;simp only[execOp,ha.ev hx,this,Sem.run_bind,Result.andThen,Sem.run_pure]
def ur(s:Sv):Value:=if s.nil=true then .pointer none else .pointer (some ⟨s.b,0,none⟩)
theorem Un{t e:TypeId}{x:Operand}{i:Nat}(hx:ev env x=some s.val)[q:kr L s e xs i]:
  Ry P N w0 env L ⟨d, .call {callee:= .builtin .unsafeSliceData,args:= #[x],argTypes:= #[t]},ty,ps,af,gd⟩ (ur s):=fun a w ha hw=>by
 obtain⟨h1,h2⟩:=hw.get q.h;have hr:(Builtin.unsafeSliceData_ #[t] ty #[s.val]).run P w= .ok (ur s) w:=by
  cases hn:s.nil with
  |true=>rw[Sv.p0 hn,ur,if_pos hn];rfl
  |false=>
   obtain⟨o0,c0,_⟩:=h2 hn;rw[Sv.gn hn,ur,if_neg (by rw[hn];simp),(h1.2 hn).1,o0];exact Lib.run_unsafeSliceData_row w #[t] ty ⟨s.b,0,none⟩ s.len s.cap (by omega)
 simp[execOp,ha.ev hx,resolve,invoke,builtin,hr,Result.andThen]
theorem Uo{K:Value->List ah->Prop}{pt it e:TypeId}{x y:Operand}{i:Nat}{n:Int}{R:List ah}(hp:P.underlying pt=some (.pointer e))(hc:P.cellsOf e=1)(hx:ev env x=some (ur s))(hy:ev env y=some (.int .i64 n))[q:kr L s e xs i](en:n=(xs.length:Int))[dl:bW L i R]
  (hk:K (.string ⟨xs.toArray⟩) R):
  aO P N w0 env L ⟨d, .call {callee:= .builtin .unsafeString,args:= #[x,y],argTypes:= #[pt,it]},ty,ps,af,none⟩ K:=
 sS fun a w ha hw=>by
  subst en;obtain⟨h1,h2⟩:=hw.get q.h;have hr: ∃w',(Builtin.unsafeString_ #[pt,it] ty #[ur s, .int .i64 (xs.length:Nat)]).run P w= .ok (.string ⟨xs.toArray⟩) w'/\Mem w0 R w':=by
   have Up:Mem w0 R w:=by rw[←dl.h];exact hw.sub (List.eraseIdx_sublist L i)
   by_cases h0:xs=[]
   ·
    subst h0;refine⟨w,?_,Up⟩;rw[ur];split
    ·
     exact Lib.run_unsafeString_none w pt it ty none
    ·
     exact Lib.run_unsafeString_none w pt it ty _
   ·
    have hlen:0<xs.length:=anf.2 h0;have hn:=h1.1.some hlen;obtain⟨o0,c0,cs,fz,hb⟩:=h2 hn;obtain⟨_,B3,T2,RC,pq,dU,_⟩:=h1.2 hn;have fH:B3=cs:=by have:=pq.symm.trans hb;cases this;rfl
    subst fH;have hl:=h1.1.len;have hle:=h1.1.ok.le;have iZ:=h1.1.bd;rw[o0,amX,an0]at dU;have lq:w.heap[s.b]? =some (.cells B3 e fz):=hb;have EN: ∀j x,xs[j]? =some x->w.cell? ((⟨s.b,0,none⟩:Addr).add j)=some (.int .u8 x.toNat):=fun j x hj=>by
     have:=h1.1.row j x hj 0 (by decide);rw[o0,amX,an0,anA]at this;rw[Addr.gl,p6,amX];exact this
    have hr:=Lib.run_unsafeString_row (P:=P) w pt it ty e hp hc s.b B3.size (by simp[World.shape?,lq]) xs h0 (by omega) (by omega) EN;refine⟨_,by rw[ur,if_neg (by rw[hn];simp)];exact hr,?_⟩;have mA:=hw.change (w':=w.freeze ⟨s.b,0,none⟩ xs.length) (e':=⟨fun k=>s.nil=false/\k=s.b,fun _=>True,fun _ _ _ _=>trivial⟩) q.h (fun k h=>h) (fun k hk=>?_) ?_ ?_ trivial
    ·
     have h9:Mem w0 (List.eraseIdx (List.set L i _) i) (w.freeze ⟨s.b,0,none⟩ xs.length):=mA.sub (List.eraseIdx_sublist _ i);rw[List.eraseIdx_set_eq,dl.h]at h9;exact h9
    ·
     unfold World.freeze;split
     ·
      rfl
     ·
      simp only[Array.getElem?_modify];rw[if_neg (fun g=>hk ⟨hn,g.symm⟩)]
    ·
     unfold World.freeze;split
     ·
      rfl
     ·
      simp
    ·
     unfold World.freeze;split<;>exact⟨rfl,rfl,rfl⟩
  obtain⟨w',h3,h4⟩:=hr;refine⟨_,w',R,?_,h4,hk⟩;simp[execOp,ha.ev hx,ha.ev hy,resolve,invoke,builtin,h3,Result.andThen]
def Af:Option (TypeId×Value)->Value
 |none=> .nilIface
 |some (t,v)=> .iface t v
theorem Uq{t u:TypeId}{x:Operand}{ms:Array (String×TypeId)}{o:Option (TypeId×Value)}(ht:P.underlying t=some (.interface ms))(hx:ev env x=some (Af o)):
  Ry P N w0 env L ⟨d, .binOp .neq t x (.const .nilIface) u,ty,ps,af,gd⟩ (.bool o.isSome):=fun a w ha _=>by
 have h1:=ha.ev hx
 cases o with
 |none=>
  have h2:(binOp .neq t .nilIface .nilIface).run P w= .ok (.bool false) w:=by
   have h: ∀d:Nat,(Op.equalIn (d+1) t .nilIface .nilIface).run P w= .ok true w:=fun d=>by simp[Op.equalIn,run_underlying ht]
   simp only[binOp];simp[Op.equal,Op.maxDepth,h 9999]
  have h3:(eqGuard .neq t x (.const .nilIface) .nilIface .nilIface).run P w= .ok () w:=by cases x<;>rfl
  rw[Af]at h1;have hy:a.eval (.const .nilIface)= .nilIface:=rfl;simp only[execOp,h1,hy,Sem.run_bind,h3,Result.andThen,h2,Sem.run_pure,Option.isSome_none]
 |some q=>
  obtain⟨tq,vq⟩:=q;have h2:(binOp .neq t (.iface tq vq) .nilIface).run P w= .ok (.bool true) w:=by
   have h: ∀d:Nat,(Op.equalIn (d+1) t (.iface tq vq) .nilIface).run P w= .ok false w:=fun d=>by simp[Op.equalIn,run_underlying ht]
   simp only[binOp];simp[Op.equal,Op.maxDepth,h 9999]
  have h3:(eqGuard .neq t x (.const .nilIface) (.iface tq vq) .nilIface).run P w= .ok () w:=rfl;rw[Af]at h1;have hy:a.eval (.const .nilIface)= .nilIface:=rfl;simp only[execOp,h1,hy,Sem.run_bind,h3,Result.andThen,h2,Sem.run_pure,Option.isSome_some]
theorem Ur{t u e:TypeId}{x y:Operand}{o:Option Addr}(ht:P.underlying t=some (.pointer e))(hx:ev env x=some (.pointer o))(hy:ev env y=some (.pointer none)):
  Ry P N w0 env L ⟨d, .binOp .eql t x y u,ty,ps,af,gd⟩ (.bool o.isNone):=fun a w ha _=>by
 have h2:(binOp .eql t (.pointer o) (.pointer none)).run P w= .ok (.bool o.isNone) w:=by
  have h: ∀d:Nat,(Op.equalIn (d+1) t (.pointer o) (.pointer none)).run P w= .ok o.isNone w:=fun d=>by cases o<;>simp[Op.equalIn,run_underlying ht]
  simp only[binOp];simp[Op.equal,Op.maxDepth,h 9999]
 have h3:(eqGuard .eql t x y (.pointer o) (.pointer none)).run P w= .ok () w:=rfl;simp only[execOp,ha.ev hx,ha.ev hy,Sem.run_bind,h3,Result.andThen,h2,Sem.run_pure]
theorem Us{t u e:TypeId}{x y:Operand}{j:TypeInfo}{p:Addr}(ht:P.underlying t=some (.pointer e))(hj:P.info? e=some j)(hx:ev env x=some (.pointer (some p)))(hy:ev env y=some (.pointer (some p))):
  Ry P N w0 env L ⟨d, .binOp .neq t x y u,ty,ps,af,gd⟩ (.bool false):=fun a w ha _=>by
 have h2:=Lib.run_neq_ptr_same (P:=P) w p ht hj;have h3:(eqGuard .neq t x y (.pointer (some p)) (.pointer (some p))).run P w= .ok () w:=rfl;simp only[execOp,ha.ev hx,ha.ev hy,Sem.run_bind,h3,Result.andThen,h2,Sem.run_pure]
end
end Go.ay
namespace Go.Kb
open Go.ay
variable {k kk:Key} {i j n v:Nat} {s:aB} {c:UInt8}
def nP(k:Key)(i v:Nat):Key:=nD fun j=>if j=i then v else aX k j
theorem CD(k:Key)(i:Nat)(hv:v<256)(hj:j<16):aX (nP k i v) j=if j=i then v else aX k j:=by
 rw[nP,rb _ _ hj];have:=fJ k j;split<;>omega
theorem CE(k:Key)(i:Nat)(hi:i<16)(hv:v<256):(bw k).setIfInBounds i (.int .u8 ((v:Nat):Int))=bw (nP k i v):=by
 refine Fb (by simp[du]) fun j hj=>?_;rw[CD k i hv hj,amQ]
 by_cases e:i=j
 ·
  subst e;simp[du,hi]
 rw[if_neg e,if_neg (fun h=>e h.symm)];exact fK k j hj
theorem F1:aX (0#128) j=0:=by simp[aX]
def vZ(ps:List aB)(i:Nat)(k:Key):Prop:=(∀j,j<16->aX k j=if j<i then(bj (ps.getD j []) 255).getD 0 else 0)/\ ∀j,j<i->(bj (ps.getD j []) 255).isSome=true
theorem Lu(ps:List aB):vZ ps 0 (0#128):=⟨fun j _=>by rw[F1,if_neg (by omega)],fun j h=>absurd h (Nat.not_lt_zero j)⟩
theorem Ag(s:aB):(bj s 255).getD 0<256:=by
 cases e:bj s 255 with
 |none=>simp
 |some n=>have:=(gZ.1 e).2;simp;omega
theorem getD_at{α:Type}{xs:List α}{i:Nat}{x d:α}(h:xs[i]? =some x):xs.getD i d=x:=by simp[List.getD,h]
theorem vZ.step{ps:List aB}{x:aB}(h:vZ ps i k)(hx:ps[i]? =some x)(ho:(bj x 255).isSome=true)(hi:i<4):vZ ps (i+1) (nP k i ((bj x 255).getD 0)):=by
 have e:ps.getD i []=x:=getD_at hx;refine⟨fun j hj=>?_,fun j hj=>?_⟩
 ·
  rw[CD k i (Ag x) hj]
  by_cases ej:j=i
  ·
   subst ej;rw[if_pos rfl,if_pos (by omega),e]
  rw[if_neg ej,h.1 j hj]
  by_cases hl:j<i
  ·
   rw[if_pos hl,if_pos (by omega)]
  rw[if_neg hl,if_neg (by omega)]
 by_cases ej:j=i
 ·
  subst ej;rw[e];exact ho
 exact h.2 j (by omega)
theorem Lv{ps:List aB}(h:ps.length=4): ∃a b c d,ps=[a,b,c,d]:=by
 match ps,h with
 |[a,b,c,d],_=>exact⟨a,b,c,d,rfl⟩
theorem Lw(h:(aE 46 s).length≠4):iW s=none:=by
 unfold iW;split
 ·
  rename_i a b c d e;rw[e]at h;exact absurd rfl h
 rfl
theorem Ly{x:aB}(hl:(aE 46 s).length=4)(hx:(aE 46 s)[i]? =some x)(hn:(bj x 255).isSome=false):iW s=none:=by
 obtain⟨a,b,c,d,e⟩:=Lv hl;have F2:bj x 255=none:=by cases q:bj x 255 with
  |none=>rfl
  |some z=>rw[q]at hn;cases hn
 unfold iW;rw[e]at hx⊢;have hm:x∈[a,b,c,d]:=amm hx;simp only[amA,aoP,or_false]at hm;rcases hm with rfl|rfl|rfl|rfl
 all_goals simp only[F2]
 all_goals(split<;>first|rfl|(rename_i h1 h2 h3 h4;simp_all))
theorem Lz(hl:(aE 46 s).length=4)(h:vZ (aE 46 s) 4 k):iW s=some k:=by
 obtain⟨a,b,c,d,e⟩:=Lv hl;rw[e]at h;obtain⟨na,ha⟩:=amH.1 (h.2 0 (by decide));obtain⟨nb,hb⟩:=amH.1 (h.2 1 (by decide));obtain⟨nc,hc⟩:=amH.1 (h.2 2 (by decide));obtain⟨nd,hd⟩:=amH.1 (h.2 3 (by decide));simp only[List.getD_cons_zero,List.getD_cons_succ]at ha hb hc hd;unfold iW;rw[e];simp only[ha,hb,hc,hd];refine congrArg some (ra fun j hj=>?_);rw[vO (gZ.1 ha).2 (gZ.1 hb).2 (gZ.1 hc).2 (gZ.1 hd).2 hj,h.1 j hj];rcases amv j 4 with h4|h4
 ·
  have:j=0\/j=1\/j=2\/j=3:=by omega
  rcases this with rfl|rfl|rfl|rfl
  ·
   simp[ha]
  ·
   simp[hb]
  ·
   simp[hc]
  simp[hd]
 rw[if_neg (by omega),if_neg (by omega),if_neg (by omega),if_neg (by omega),if_neg (by omega)]
theorem F3(h: ¬qe (s.getD i 0)<0):qe (s.getD i 0)=((fR s i:Nat):Int)/\fR s i<16/\(iE (s.getD i 0)).isSome=true:=by
 unfold qe fR at*
 cases e:iE (s.getD i 0)with
 |none=>rw[e]at h;simp at h
 |some n=>exact⟨rfl,Fe e,rfl⟩
theorem F4(h:qe (s.getD i 0)<0)(hi:i<s.length):jD s=none:=by
 unfold jD;rw[if_neg];rintro⟨_,ha⟩;have:=amt.1 ha (s.getD i 0) (by simp[List.getD,hi]);unfold qe at h
 cases e:iE (s.getD i 0)with
 |none=>rw[e]at this;cases this
 |some n=>rw[e]at h;simp only at h;omega
theorem Ut(c:UInt8):Lib.indexByte ([48,49,50,51,52,53,54,55,56,57,97,98,99,100,101,102]:aB) c=qe c:=by
 have key: ∀n,n<256->Lib.indexByte ([48,49,50,51,52,53,54,55,56,57,97,98,99,100,101,102]:aB) (UInt8.ofNat n)=qe (UInt8.ofNat n):=by decide+kernel
 have:=key c.toNat c.toNat_lt;rwa [UInt8.ofNat_toNat]at this
def uu(s:aB)(i:Nat)(k:Key):Prop:=(∀j,j<16->aX k j=if 2*j+1<i then 16*fR s (2*j)+fR s (2*j+1)else if 2*j<i then fR s (2*j)else 0)/\ ∀j,j<i->(iE (s.getD j 0)).isSome=true
theorem Uu(s:aB):uu s 0 (0#128):=⟨fun j _=>by rw[F1,if_neg (by omega),if_neg (by omega)],fun j h=>absurd h (Nat.not_lt_zero j)⟩
theorem uv(h:(iE (s.getD i 0)).isSome=true):fR s i<16:=by
 unfold fR;obtain⟨n,e⟩:=amH.1 h;rw[e];exact Fe e
theorem uu.lt(h:uu s i k)(hi:i<32):aX k (i/2)<16:=by
 rw[h.1 (i/2) (by omega),if_neg (by omega)];split
 ·
  exact uv (h.2 _ (by omega))
 omega
theorem LA(hn:n<16):v*16|||n=v*16+n:=by
 have:=Nat.two_pow_add_eq_or_of_lt (i:=4) (show n<2^4 from hn) v;rw[anv v 16];exact this.symm
theorem uu.step(h:uu s i k)(hi:i<32)(ho:(iE (s.getD i 0)).isSome=true):uu s (i+1) (nP k (i/2) (aX k (i/2)*16|||fR s i)):=by
 have hl:=h.lt hi;have hx:=uv ho;rw[LA hx];refine⟨fun j hj=>?_,fun j hj=>?_⟩
 ·
  rw[CD k _ (by omega) hj]
  by_cases ej:j=i/2
  ·
   rw[if_pos ej,←ej,h.1 j hj,if_neg (by omega)];rcases Nat.mod_two_eq_zero_or_one i with e|e
   ·
    rw[if_neg (by omega),if_neg (by omega),if_pos (by omega),show 2*j=i by omega];omega
   rw[if_pos (by omega),if_pos (by omega),show 2*j+1=i by omega];omega
  rw[if_neg ej,h.1 j hj]
  by_cases h1:2*j+1<i
  ·
   rw[if_pos h1,if_pos (by omega)]
  rw[if_neg h1,if_neg (by omega),if_neg (by omega),if_neg (by omega)]
 by_cases ej:j=i
 ·
  subst ej;exact ho
 exact h.2 j (by omega)
theorem LB(h:s.length≠32):jD s=none:=by unfold jD;rw[if_neg (fun e=>h e.1)]
theorem LC(h: ∀j,j<s.length->(iE (s.getD j 0)).isSome=true):Ci s=true:=by
 refine amt.2 fun c hc=>?_;obtain⟨j,hj,rfl⟩:=an6 hc;have:=h j hj;simpa[List.getD,hj]using this
theorem Uv(hl:s.length=32)(h:uu s 32 k):jD s=some k:=by
 unfold jD;rw[if_pos ⟨hl,LC fun j hj=>h.2 j (by omega)⟩];refine congrArg some (ra fun j hj=>?_);rw[h.1 j hj,if_pos (by omega),vN,rb _ _ hj];have:=uv (h.2 (2*j) (by omega));have:=uv (h.2 (2*j+1) (by omega));omega
def xL(s:aB)(i:Nat)(k:Key):Prop:=(∀j,j<16->aX k j=if j<i then 16*fR s (2*j)+fR s (2*j+1)else 0)/\ ∀j,j<2*i->(iE (s.getD j 0)).isSome=true
theorem Uw(s:aB):xL s 0 (0#128):=⟨fun j _=>by rw[F1,if_neg (by omega)],fun j h=>by omega⟩
theorem xL.step(h:xL s i k)(hi:i<16)(h1:(iE (s.getD (2*i) 0)).isSome=true)(h2:(iE (s.getD (2*i+1) 0)).isSome=true):xL s (i+1) (nP k i (16*fR s (2*i)+fR s (2*i+1))):=by
 have:=uv h1;have:=uv h2;refine⟨fun j hj=>?_,fun j hj=>?_⟩
 ·
  rw[CD k i (by omega) hj]
  by_cases ej:j=i
  ·
   subst ej;rw[if_pos rfl,if_pos (by omega)]
  rw[if_neg ej,h.1 j hj]
  by_cases hl:j<i
  ·
   rw[if_pos hl,if_pos (by omega)]
  rw[if_neg hl,if_neg (by omega)]
 by_cases e1:j=2*i
 ·
  subst e1;exact h1
 by_cases e2:j=2*i+1
 ·
  subst e2;exact h2
 exact h.2 j (by omega)
theorem Ux(hl:s.length=32)(h:xL s 16 k):jD s=some k:=by
 unfold jD;rw[if_pos ⟨hl,LC fun j hj=>h.2 j (by omega)⟩];refine congrArg some (ra fun j hj=>?_);rw[h.1 j hj,if_pos hj,vN,rb _ _ hj];have:=uv (h.2 (2*j) (by omega));have:=uv (h.2 (2*j+1) (by omega));omega
theorem Uy(h:(aE 46 s).length=4):jD s=none:=by
 unfold jD;rw[if_neg];rintro⟨_,ha⟩;have hm:(46:UInt8)∈s:=by
  rcases Classical.em ((46:UInt8)∈s)with q|q
  ·
   exact q
  rw[vH q]at h;simp at h
 have:=amt.1 ha 46 hm;exact absurd this (by decide)
def eM(s:aB):Key:=if 60<s.length then 0#128 else match lR s with|some (k,_)=>k|none=>0#128
def dF(s:aB):Nat:=if 60<s.length then 0 else match lR s with|some (_,n)=>n.toNat|none=>0
def fy(s:aB):Int:=if 60<s.length then 3 else match lR s with|some _=>0|none=>2
theorem F5(h:60<s.length):eM s=0#128/\dF s=0/\fy s=3:=by simp[eM,dF,fy,h]
theorem LD(h: ¬60<s.length)(hs:iW s=some k):eM s=k/\dF s=32/\fy s=0:=by simp[eM,dF,fy,h,lR,hs]
theorem LF(h: ¬60<s.length)(hs:iW s=none)(hw:jD s=some k):eM s=k/\dF s=128/\fy s=0:=by simp[eM,dF,fy,h,lR,hs,hw]
theorem CF(h: ¬60<s.length)(hs:iW s=none)(hw:jD s=none):eM s=0#128/\dF s=0/\fy s=2:=by simp[eM,dF,fy,h,lR,hs,hw]
variable {s a b:aB} {c:UInt8} {n top:Nat}
theorem uw(c:UInt8)(s:aB):(∃a b,s=a++c::b/\aD c s=(a,b,true)/\aE c s=a::aE c b)\/(aD c s=(s,[],false)/\aE c s=[s]):=by
 rcases xz (c:=c) s with⟨h1,h2⟩|⟨a,b,h1,h2,h3⟩
 ·
  exact .inr ⟨Kg h1,h2⟩
 exact .inl ⟨a,b,h1,by rw[h1,Kh h2],h3⟩
theorem LG(hc:c∈b)(hd:jg c=false):bj b top=none:=by
 cases e:bj b top with
 |none=>rfl
 |some n=>
  obtain⟨rfl,_⟩:=gZ.1 e;exact absurd hc (xx hd)
theorem CG(c:UInt8)(s:aB):(aD c s).1.length<=s.length/\(aD c s).2.1.length<=s.length:=by
 rcases uw c s with⟨a,b,h1,h2,_⟩|⟨h2,_⟩
 ·
  rw[h2,h1];simp;omega
 rw[h2];simp
theorem Uz(h:(aD 47 s).2.2=false):jh s=none:=by
 rcases uw 47 s with⟨a,b,_,h2,_⟩|⟨_,h3⟩
 ·
  rw[h2]at h;cases h
 unfold jh;rw[h3]
def qk(a b:aB):Option cz:=match lR a,bj b 128 with
 |some (k,bits),some n=>if bO ⟨bits,(n:Int),k⟩=true then some ⟨bits,(n:Int),k⟩else none
 |_,_=>none
theorem F6(h:aE 47 s=[a,b]):jh s=qk a b:=by
 unfold jh;rw[h];rfl
theorem CH(h:(aD 47 s).2.2=true):jh s=qk (aD 47 s).1 (aD 47 s).2.1:=by
 rcases uw 47 s with⟨a,b,_,h2,h3⟩|⟨h2,_⟩
 ·
  rw[h2];rcases uw 47 b with⟨x,y,e1,_,e3⟩|⟨_,e3⟩
  ·
   have hn:bj b 128=none:=LG (c:=47) (by rw[e1];simp) (by decide);unfold jh qk;rw[h3,e3,hn];have:aE 47 y≠[]:=vG y
   cases q:aE 47 y with
   |nil=>exact absurd q this
   |cons z zs=>simp only;split<;>simp_all
  exact F6 (by rw[h3,e3])
 rw[h2]at h;cases h
def sX(a b:aB):Option Rt:=match jh a,bj b 65535 with
 |some p,some n=>some ⟨p,UInt16.ofNat n⟩
 |_,_=>none
theorem UA(h:(aD 32 s).2.2=false):lS s=none:=by
 rcases uw 32 s with⟨a,b,_,h2,_⟩|⟨_,h3⟩
 ·
  rw[h2]at h;cases h
 unfold lS;rw[h3]
theorem F7(h:aE 32 s=[a,b]):lS s=sX a b:=by
 unfold lS;rw[h];rfl
theorem F8(h:(aD 32 s).2.2=true):lS s=sX (aD 32 s).1 (aD 32 s).2.1:=by
 rcases uw 32 s with⟨a,b,_,h2,h3⟩|⟨h2,_⟩
 ·
  rw[h2];rcases uw 32 b with⟨x,y,e1,_,e3⟩|⟨_,e3⟩
  ·
   have hn:bj b 65535=none:=LG (c:=32) (by rw[e1];simp) (by decide);unfold lS sX;rw[h3,e3,hn];have:aE 32 y≠[]:=vG y
   cases q:aE 32 y with
   |nil=>exact absurd q this
   |cons z zs=>simp only;split<;>simp_all
  exact F7 (by rw[h3,e3])
 rw[h2]at h;cases h
theorem Ah(h:a.length<=60)(he:fy a=0):lR a=some (eM a,((dF a:Nat):Int))/\(dF a=32\/dF a=128):=by
 have hl: ¬60<a.length:=by omega
 unfold fy at he;rw[if_neg hl]at he
 cases e:lR a with
 |none=>rw[e]at he;cases he
 |some z=>
  obtain⟨k,m⟩:=z;have hm:=((vL _).1 (Cj.1 e).1).1;simp only at hm;unfold eM dF;rw[if_neg hl,if_neg hl,e];simp only;rcases hm with rfl|rfl
  ·
   exact⟨rfl, .inl rfl⟩
  exact⟨rfl, .inr rfl⟩
theorem UB(h:a.length<=60)(he: ¬fy a=0):lR a=none:=by
 unfold fy at he;rw[if_neg (show ¬60<a.length by omega)]at he
 cases e:lR a with
 |none=>rfl
 |some z=>rw[e]at he;exact absurd rfl he
def gQ(s:aB):cz:=if 60<s.length then⟨0,0,0#128⟩else(jh s).getD ⟨0,0,0#128⟩
def hO(s:aB):Int:=if 60<s.length then 3 else if(jh s).isSome=true then 0 else 2
theorem LH(h:60<s.length):gQ s=⟨0,0,0#128⟩/\hO s=3:=by simp[gQ,hO,h]
theorem xM(h: ¬60<s.length)(hp:jh s=none):gQ s=⟨0,0,0#128⟩/\hO s=2:=by simp[gQ,hO,h,hp]
theorem LK{p:cz}(h: ¬60<s.length)(hp:jh s=some p):gQ s=p/\hO s=0:=by simp[gQ,hO,h,hp]
theorem UC(h:a.length<=60)(he:hO a=0):jh a=some (gQ a):=by
 have hl: ¬60<a.length:=by omega
 unfold hO at he;rw[if_neg hl]at he
 cases e:jh a with
 |none=>rw[e]at he;simp at he
 |some z=>rw[gQ,if_neg hl,e];rfl
theorem UD(h:a.length<=60)(he: ¬hO a=0):jh a=none:=by
 unfold hO at he;rw[if_neg (show ¬60<a.length by omega)]at he
 cases e:jh a with
 |none=>rfl
 |some z=>rw[e]at he;exact absurd rfl he
def j7(s:aB):Rt:=if 60<s.length then bp else(lS s).getD bp
def kP(s:aB):Int:=if 60<s.length then 3 else if(lS s).isSome=true then 0 else 2
theorem F9(h:60<s.length):j7 s=bp/\kP s=3:=by simp[j7,kP,h]
theorem xN(h: ¬60<s.length)(hp:lS s=none):j7 s=bp/\kP s=2:=by simp[j7,kP,h,hp]
theorem Ga{r:Rt}(h: ¬60<s.length)(hp:lS s=some r):j7 s=r/\kP s=0:=by simp[j7,kP,h,hp]
theorem LL(h:a.length<=60)(he: ¬fy a=0):qk a b=none:=by unfold qk;rw[UB h he]
theorem UE(h:bj b n=none)(hn:n<=top){m:Nat}(e:bj b top=some m):n<m:=by
 obtain⟨rfl,h2⟩:=gZ.1 e;rcases amv n m with q|q
 ·
  exact q
 rw[zQ q]at h;cases h
theorem UF(h:a.length<=60)(he:fy a=0)(hn:(bj b (dF a)).isSome=false):qk a b=none:=by
 obtain⟨hk,hm⟩:=Ah h he;have F2:bj b (dF a)=none:=by simpa using hn
 unfold qk;rw[hk]
 cases e:bj b 128 with
 |none=>rfl
 |some m=>
  have:=UE F2 (by omega) e;simp only;rw[if_neg];intro hp;have:=((vL _).1 hp).2.2.1;simp only at this;omega
theorem LM(h:a.length<=60)(he:fy a=0)(hn:(bj b (dF a)).isSome=true):qk a b=if bO ⟨((dF a:Nat):Int),(((bj b (dF a)).getD 0:Nat):Int),eM a⟩=true then some ⟨((dF a:Nat):Int),(((bj b (dF a)).getD 0:Nat):Int),eM a⟩else none:=by
 obtain⟨hk,hm⟩:=Ah h he;obtain⟨m,e⟩:=amH.1 hn;obtain⟨rfl,h2⟩:=gZ.1 e;unfold qk;rw[hk,e,zQ (show m<=128 by omega)];rfl
theorem LN(h:a.length<=60):qk a b=if fy a=0/\bO ⟨((dF a:Nat):Int),fg b 128,eM a⟩=true then some ⟨((dF a:Nat):Int),fg b 128,eM a⟩else none:=by
 by_cases he:fy a=0
 ·
  obtain⟨hk,hm⟩:=Ah h he;unfold qk fg;rw[hk]
  cases e:bj b 128 with
  |none=>
   simp only;rw[if_neg];rintro⟨_,hp⟩;have:=((vL _).1 hp).2.1;simp only at this;omega
  |some m=>simp only[he,true_and]
 rw[LL h he,if_neg (fun q=>he q.1)]
theorem LO(h:a.length<=60)(he: ¬hO a=0):sX a b=none:=by unfold sX;rw[UD h he]
theorem LP(hn:bj b 65535=none):sX a b=none:=by
 unfold sX;rw[hn];cases jh a<;>rfl
theorem LQ(h:a.length<=60)(he:hO a=0)(hn:bj b 65535=some n):sX a b=some ⟨gQ a,UInt16.ofNat n⟩:=by
 unfold sX;rw[hn,UC h he]
theorem sY(h: ¬fg s top<0):fg s top=(((bj s top).getD 0:Nat):Int)/\(bj s top).isSome=true:=by
 unfold fg at*
 cases e:bj s top with
 |none=>rw[e]at h;simp at h
 |some n=>exact⟨rfl,rfl⟩
theorem xO(h:fg s top<0):bj s top=none:=by
 unfold fg at h
 cases e:bj s top with
 |none=>rfl
 |some n=>rw[e]at h;simp only at h;omega
theorem Ai(s:aB)(top:Nat):(bj s top).getD 0<=top:=by
 cases e:bj s top with
 |none=>simp
 |some n=>exact(gZ.1 e).2
theorem LR{n:Nat}(h:n<=65535):(Value.int .u16 ((n:Nat):Int))=Value.int .u16 (((UInt16.ofNat n).toNat:Nat):Int):=by
 rw[UInt16.toNat_ofNat',amY (show n<2^16 by omega)]
theorem CI{ps:List aB}(h:ps.length=2): ∃a b,ps=[a,b]:=by
 match ps,h with
 |[a,b],_=>exact⟨a,b,rfl⟩
theorem UG(h:(aE 47 s).length≠2):jh s=none:=by
 unfold jh;split
 ·
  rename_i a b e;rw[e]at h;exact absurd rfl h
 rfl
theorem UH(h:(aE 32 s).length≠2):lS s=none:=by
 unfold lS;split
 ·
  rename_i a b e;rw[e]at h;exact absurd rfl h
 rfl
theorem UI(h: ¬60<s.length)(h4:(aE 46 s).length=4)(hs:iW s=none):eM s=0#128/\dF s=0/\fy s=2:=CF h hs (Uy h4)
variable {s:aB} {k:Key} {n:Int} {a b r:Rt} {p:cz}
theorem CJ(r:Rt):(iG r).length<=42:=by
 unfold iG;split
 ·
  rename_i h;have hp:=Cm r.p;rw[iX,if_pos h]at hp;have hd:=iV 5 r.eC.toNat (ano (anN _) (by decide)) (by decide);simp only[vQ,adr,ad2];omega
 simp
theorem LS(he:kP s=0):bO (j7 s).p=true/\iG (j7 s)=s:=by
 by_cases hl:60<s.length
 ·
  rw[(F9 hl).2]at he;cases he
 cases e:lS s with
 |none=>rw[(xN hl e).2]at he;cases he
 |some r=>
  rw[(Ga hl e).1];obtain⟨h1,h2⟩:=SO.1 e;exact⟨h1,by rw[iG,if_pos h1,h2]⟩
theorem UJ(he:fy s=0):iF (eM s) ((dF s:Nat):Int)=true/\ik (eM s) ((dF s:Nat):Int)=s:=by
 have hl:s.length<=60:=by
  rcases amv 60 s.length with h|h
  ·
   rw[(F5 h).2.2]at he;cases he
  exact h
 obtain⟨e,_⟩:=Ah hl he;obtain⟨h1,h2⟩:=Cj.1 e;exact⟨h1,by rw[ik,if_pos (show iF (eM s) ((dF s:Nat):Int)=true from h1)];exact h2.symm⟩
theorem xP{b:Bool}:eo b=0↔b=true:=by cases b<;>simp[eo]
structure aO where
 kind:Int
 r:Rt
 key:Key
 bits:Int
 n:Int64
 deriving DecidableEq
def gC:aO:=⟨0,bp,0#128,0,0⟩
def gR(k:Int):aB:=
 if k=1 then[112,117,116]else if k=2 then[103,111,110,101]else if k=3 then[100,111,110,101]else if k=4 then[102,105,110,100]else if k=5 then[99,117,116]else if k=6 then[102,97,105,108]else if k=7 then[111,110]else if k=8 then[100,117,109,112]else[]
theorem UK(k:Int):(gR k).length<=4:=by unfold gR;(repeat' split)<;>decide
def bh(s:aB):Nat:=((List.range' 1 8).find? fun k:Nat=>decide (gR (k:Int)=s)).getD 0
theorem LU{k:Nat}(h1:1<=k)(h8:k<=8):k=1\/k=2\/k=3\/k=4\/k=5\/k=6\/k=7\/k=8:=by omega
theorem LV{k:Nat}{s:aB}(h1:1<=k)(h8:k<=8)(h:gR (k:Int)=s):bh s=k:=by
 subst h;rcases LU h1 h8 with rfl|rfl|rfl|rfl|rfl|rfl|rfl|rfl<;>decide
theorem LW{s:aB}(h: ∀j:Nat,1<=j->j<=8-> ¬gR (j:Int)=s):bh s=0:=by
 have:((List.range' 1 8).find? fun k:Nat=>decide (gR (k:Int)=s))=none:=List.find?_eq_none.2 fun j hj=>by
  have hm:=List.mem_range'_1.1 hj;simpa using h j (by omega) (by omega)
 rw[bh,this];rfl
theorem Aj(s:aB):bh s<=8/\(bh s≠0->gR (bh s:Int)=s):=by
 rw[bh]
 cases hf:(List.range' 1 8).find? fun k:Nat=>decide (gR (k:Int)=s)with
 |none=>exact⟨Nat.zero_le _,fun h=>absurd rfl h⟩
 |some k=>
  have hm:=List.mem_range'_1.1 (List.mem_of_find?_eq_some hf);have he:=List.find?_some hf;exact⟨by simp only[aok];omega,fun _=>by simpa using he⟩
def hQ(x:aO):aO:=
 if x.kind=1 then⟨x.kind,x.r,0#128,0,0⟩else if x.kind=2 then⟨x.kind,⟨x.r.p,0⟩,0#128,0,0⟩else if x.kind=4 then⟨x.kind,bp,x.key,x.bits,0⟩else if x.kind=5\/x.kind=6 then⟨x.kind,bp,0#128,0,x.n⟩else⟨x.kind,bp,0#128,0,0⟩
def gD(x:aO):Bool:=
 if x.kind=1\/x.kind=2 then bO x.r.p else if x.kind=4 then iF x.key x.bits else if x.kind=5\/x.kind=6 then decide (0<=x.n.toInt/\x.n.toInt<=999)else decide (x.kind=3\/x.kind=7\/x.kind=8)
def et(x:aO):Bool:=gD x&&decide (hQ x=x)
def iH(x:aO):aB:=if x.kind=1 then iG x.r else if x.kind=2 then iX x.r.p else if x.kind=4 then ik x.key x.bits else dec x.n.toInt.toNat
def jF(x:aO):aB:=if x.kind=3\/x.kind=7\/x.kind=8 then gR x.kind else gR x.kind++32::iH x
def ru(x:aO):aB:=if et x=true then jF x else[]
def ov(x:aO):Int:=eo (et x)
theorem jG{x:aO}(h:et x=true):ru x=jF x/\ov x=0:=by rw[ru,ov,eo,if_pos h,if_pos h];exact⟨rfl,rfl⟩
theorem nQ{x:aO}(h:et x=false):ru x=[]/\ov x=1:=by rw[ru,ov,eo,h];exact⟨rfl,rfl⟩
theorem lW{x:aO}:et x=true↔gD x=true/\hQ x=x:=by rw[et,alM,decide_eq_true_eq]
theorem Gd{n:Nat}(h:n<=999):(Int64.ofInt (n:Int)).toInt=(n:Int):=Int64.toInt_ofInt_of_le (by omega) (by omega)
theorem Ak{x:aO}(h:et x=true):(iH x).length<=42:=by
 rw[iH];split
 ·
  exact CJ _
 split
 ·
  have:=Cm x.r.p;omega
 split
 ·
  have:=Cl x.key x.bits;omega
 rename_i h1 h2 h4;have h0:=(lW.1 h).1;rw[gD,if_neg (by omega),if_neg h4]at h0
 by_cases h5:x.kind=5\/x.kind=6
 ·
  rw[if_pos h5,decide_eq_true_eq]at h0;have:=iV 3 x.n.toInt.toNat (by omega) (by decide);omega
 have h9:=(lW.1 h).2;rw[hQ,if_neg h1,if_neg h2,if_neg h4,if_neg h5]at h9;have hn:x.n=0:=(congrArg aO.n h9).symm;rw[hn];have:=iV 3 (Int64.toInt 0).toNat (by decide) (by decide);omega
def ji(s:aB):Option aO:=
 if bh (aD 32 s).1=1 then(if kP (aD 32 s).2.1=0 then some ⟨1,j7 (aD 32 s).2.1,0#128,0,0⟩else none)
 else if bh (aD 32 s).1=2 then(if hO (aD 32 s).2.1=0 then some ⟨2,⟨gQ (aD 32 s).2.1,0⟩,0#128,0,0⟩else none)
 else if bh (aD 32 s).1=4 then(if fy (aD 32 s).2.1=0 then some ⟨4,bp,eM (aD 32 s).2.1,(dF (aD 32 s).2.1:Nat),0⟩else none)
 else if bh (aD 32 s).1=5\/bh (aD 32 s).1=6 then(bj (aD 32 s).2.1 999).map fun n=>⟨(bh (aD 32 s).1:Nat),bp,0#128,0,Int64.ofInt (n:Nat)⟩
 else if bh (aD 32 s).1=0\/(aD 32 s).2.2=true then none else some ⟨(bh (aD 32 s).1:Nat),bp,0#128,0,0⟩
def dm(s:aB):aO:=(ji s).getD gC
def eu(s:aB):Int:=if bh (aD 32 s).1=0 then 8 else if(ji s).isSome=true then 0 else 2
theorem UL{s:aB}(he:hO s=0):bO (gQ s)=true/\iX (gQ s)=s:=by
 rw[hO]at he;split at he
 ·
  cases he
 rename_i UM;split at he
 ·
  rename_i h;obtain⟨p,hp⟩:=amH.1 h;obtain⟨q1,q2⟩:=Fg.1 hp;have:gQ s=p:=by rw[gQ,if_neg UM,hp];rfl
  rw[this];exact⟨q1,by rw[iX,if_pos q1];exact q2.symm⟩
 cases he
theorem LX(s:aB):((aD 32 s).2.2=true/\s=(aD 32 s).1++32::(aD 32 s).2.1)\/((aD 32 s).2.2=false/\(aD 32 s).1=s/\(aD 32 s).2.1=[]):=by
 rcases uw 32 s with⟨a,b,h1,h2,_⟩|⟨h,_⟩
 ·
  rw[h2];exact .inl ⟨rfl,h1⟩
 rw[h];exact .inr ⟨rfl,rfl,rfl⟩
theorem UN:kP []≠0:=by decide
theorem UO:hO []≠0:=by decide
theorem UP:fy []≠0:=by decide
theorem UQ:bj [] 999=none:=by decide
theorem LY{s:aB}{x:aO}(h:ji s=some x):et x=true/\jF x=s:=by
 have hw:=(Aj (aD 32 s).1).2;have Gj:=(Aj (aD 32 s).1).1;have hc:=LX s;unfold ji at h;generalize aD 32 s=C at h hw hc Gj;obtain⟨w,r,m⟩:=C;simp only at h hw hc Gj;have hs: ∀(_: ¬r=[]) (_:bh w≠0),gR (bh w:Int)++32::r=s:=fun hr hk=>by
  rcases hc with⟨_,h2⟩|⟨_,_,h2⟩
  ·
   rw[hw hk];exact h2.symm
  exact absurd h2 hr
 split at h
 ·
  rename_i k1;split at h
  ·
   rename_i e;obtain⟨q1,q2⟩:=LS e;have h3:=hs (fun g=>UN (g▸e)) (by omega);rw[k1]at h3;obtain rfl:=amn h;refine⟨lW.2 ⟨by rw[gD,if_pos (.inl rfl)];exact q1,by rw[hQ,if_pos rfl]⟩,?_⟩;rw[jF,if_neg (show ¬((1:Int)=3\/(1:Int)=7\/(1:Int)=8) by decide),iH,if_pos rfl];show _++32::iG (j7 r)=s;rw[q2];exact h3
  cases h
 split at h
 ·
  rename_i k1;split at h
  ·
   rename_i e;obtain⟨q1,q2⟩:=UL e;have h3:=hs (fun g=>UO (g▸e)) (by omega);rw[k1]at h3;obtain rfl:=amn h;refine⟨lW.2 ⟨by rw[gD,if_pos (.inr rfl)];exact q1,by rw[hQ,if_neg (show ¬((2:Int)=1) by decide),if_pos rfl]⟩,?_⟩;rw[jF,if_neg (show ¬((2:Int)=3\/(2:Int)=7\/(2:Int)=8) by decide),iH,if_neg (show ¬((2:Int)=1) by decide),if_pos rfl];show _++32::iX (gQ r)=s;rw[q2];exact h3
  cases h
 split at h
 ·
  rename_i k1;split at h
  ·
   rename_i e;obtain⟨q1,q2⟩:=UJ e;have h3:=hs (fun g=>UP (g▸e)) (by omega);rw[k1]at h3;obtain rfl:=amn h;refine⟨lW.2 ⟨by rw[gD,if_neg (show ¬((4:Int)=1\/(4:Int)=2) by decide),if_pos rfl];exact q1,by rw[hQ,if_neg (show ¬((4:Int)=1) by decide),if_neg (show ¬((4:Int)=2) by decide),if_pos rfl]⟩,?_⟩;rw[jF,if_neg (show ¬((4:Int)=3\/(4:Int)=7\/(4:Int)=8) by decide),iH,if_neg (show ¬((4:Int)=1) by decide),if_neg (show ¬((4:Int)=2) by decide),if_pos rfl];show _++32::ik (eM r) ((dF r:Nat):Int)=s;rw[q2];exact h3
  cases h
 split at h
 ·
  rename_i k1;obtain⟨n,hn,rfl⟩:=anH.1 h;obtain⟨q1,q2⟩:=gZ.1 hn;have h3:=hs (fun g=>by rw[g,UQ]at hn;cases hn) (by omega);have hi:=Gd q2;have h5:((bh w:Nat):Int)=5\/((bh w:Nat):Int)=6:=by omega
  have n1: ¬(((bh w:Nat):Int)=1):=by omega
  have n2: ¬(((bh w:Nat):Int)=2):=by omega
  have n4: ¬(((bh w:Nat):Int)=4):=by omega
  refine⟨lW.2 ⟨?_,?_⟩,?_⟩
  ·
   rw[gD,if_neg (fun g=>g.elim n1 n2),if_neg n4,if_pos h5,decide_eq_true_eq];show 0<=(Int64.ofInt (n:Int)).toInt/\(Int64.ofInt (n:Int)).toInt<=999;rw[hi];omega
  ·
   rw[hQ,if_neg n1,if_neg n2,if_neg n4,if_pos h5]
  rw[jF,if_neg (show ¬(((bh w:Nat):Int)=3\/((bh w:Nat):Int)=7\/((bh w:Nat):Int)=8) by omega),iH,if_neg n1,if_neg n2,if_neg n4];show _++32::dec (Int64.ofInt (n:Int)).toInt.toNat=s;rw[hi,am1,←q1];exact h3
 split at h
 ·
  cases h
 rename_i n1 n2 n4 n5 n0;obtain rfl:=amn h;have k0:bh w≠0:=fun g=>n0 (.inl g);have hm:m=false:=by
  cases m with
  |false=>rfl
  |true=>exact absurd (.inr rfl) n0
 have h3:w=s:=by
  rcases hc with⟨h1,_⟩|⟨_,h2,_⟩
  ·
   rw[hm]at h1;cases h1
  exact h2
 have h5:((bh w:Nat):Int)=3\/((bh w:Nat):Int)=7\/((bh w:Nat):Int)=8:=by omega
 have m1: ¬(((bh w:Nat):Int)=1):=by omega
 have m2: ¬(((bh w:Nat):Int)=2):=by omega
 have m4: ¬(((bh w:Nat):Int)=4):=by omega
 have m5: ¬(((bh w:Nat):Int)=5\/((bh w:Nat):Int)=6):=by omega
 refine⟨lW.2 ⟨?_,?_⟩,?_⟩
 ·
  rw[gD,if_neg (fun g=>g.elim m1 m2),if_neg m4,if_neg m5];exact decide_eq_true h5
 ·
  rw[hQ,if_neg m1,if_neg m2,if_neg m4,if_neg m5]
 rw[jF,if_pos h5];exact(hw k0).trans h3
def Gl(s:aB)(y:aO):Prop:=et y=true/\((jF y=s/\ji s=some y)\/(jF y≠s/\ji s=none))
theorem Al{s:aB}{y:aO}(h:ji s=some y):Gl s y:=⟨(LY h).1, .inl ⟨(LY h).2,h⟩⟩
theorem Gm{s:aB}(k:bh (aD 32 s).1=1):ji s=if kP (aD 32 s).2.1=0 then some ⟨(bh (aD 32 s).1:Nat),j7 (aD 32 s).2.1,0#128,0,0⟩else none:=by rw[ji,if_pos k,k];rfl
theorem Gn{s:aB}(k:bh (aD 32 s).1=2):ji s=if hO (aD 32 s).2.1=0 then some ⟨(bh (aD 32 s).1:Nat),⟨gQ (aD 32 s).2.1,0⟩,0#128,0,0⟩else none:=by rw[ji,if_neg (by omega),if_pos k,k];rfl
theorem Gp{s:aB}(k:bh (aD 32 s).1=4):ji s=if fy (aD 32 s).2.1=0 then some ⟨(bh (aD 32 s).1:Nat),bp,eM (aD 32 s).2.1,(dF (aD 32 s).2.1:Nat),0⟩else none:=by rw[ji,if_neg (by omega),if_neg (by omega),if_pos k,k];rfl
theorem Gt{s:aB}(k:bh (aD 32 s).1=5\/bh (aD 32 s).1=6):ji s=(bj (aD 32 s).2.1 999).map fun n=>⟨(bh (aD 32 s).1:Nat),bp,0#128,0,Int64.ofInt (n:Nat)⟩:=by rw[ji,if_neg (by omega),if_neg (by omega),if_neg (by omega),if_pos k]
theorem LZ{s:aB}(k0:bh (aD 32 s).1≠0)(k1:bh (aD 32 s).1≠1)(k2:bh (aD 32 s).1≠2)(k4:bh (aD 32 s).1≠4)(k5: ¬(bh (aD 32 s).1=5\/bh (aD 32 s).1=6)):ji s=if(aD 32 s).2.2=true then none else some ⟨(bh (aD 32 s).1:Nat),bp,0#128,0,0⟩:=by
 rw[ji,if_neg k1,if_neg k2,if_neg k4,if_neg k5]
 by_cases h:(aD 32 s).2.2=true
 ·
  rw[if_pos (.inr h),if_pos h]
 rw[if_neg (fun g=>g.elim k0 h),if_neg h]
theorem UR{s:aB}(k0:bh (aD 32 s).1≠0)(k1:bh (aD 32 s).1≠1)(k2:bh (aD 32 s).1≠2)(k4:bh (aD 32 s).1≠4)(k5: ¬(bh (aD 32 s).1=5\/bh (aD 32 s).1=6)):Gl s ⟨(bh (aD 32 s).1:Nat),bp,0#128,0,0⟩:=by
 have h:=LZ k0 k1 k2 k4 k5
 by_cases hm:(aD 32 s).2.2=true
 ·
  rw[if_pos hm]at h;have h8:=(Aj (aD 32 s).1).1;have hw:=(Aj (aD 32 s).1).2 k0;have h5:((bh (aD 32 s).1:Nat):Int)=3\/((bh (aD 32 s).1:Nat):Int)=7\/((bh (aD 32 s).1:Nat):Int)=8:=by omega
  have m1: ¬(((bh (aD 32 s).1:Nat):Int)=1):=by omega
  have m2: ¬(((bh (aD 32 s).1:Nat):Int)=2):=by omega
  have m4: ¬(((bh (aD 32 s).1:Nat):Int)=4):=by omega
  have m5: ¬(((bh (aD 32 s).1:Nat):Int)=5\/((bh (aD 32 s).1:Nat):Int)=6):=by omega
  refine⟨lW.2 ⟨?_,?_⟩, .inr ⟨fun g=>?_,h⟩⟩
  ·
   rw[gD,if_neg (fun g=>g.elim m1 m2),if_neg m4,if_neg m5];exact decide_eq_true h5
  ·
   rw[hQ,if_neg m1,if_neg m2,if_neg m4,if_neg m5]
  rw[jF,if_pos h5]at g;rcases LX s with⟨_,h2⟩|⟨h2,_⟩
  ·
   rw[show gR _=(aD 32 s).1 from hw]at g;have:=congrArg List.length (g.trans h2);rw[adr,ad2]at this;omega
  rw[hm]at h2;cases h2
 rw[if_neg hm]at h;exact Al h
theorem ow{s:aB}(k0:bh (aD 32 s).1≠0):(∀y,ji s=some y->dm s=y/\eu s=0)/\(ji s=none->dm s=gC/\eu s=2):=
 ⟨fun y h=>⟨by rw[dm,h];rfl,by rw[eu,if_neg k0,h];rfl⟩,fun h=>⟨by rw[dm,h];rfl,by rw[eu,if_neg k0,h];rfl⟩⟩
theorem Gu{s:aB}(k0:bh (aD 32 s).1=0):dm s=gC/\eu s=8:=by
 refine⟨?_,by rw[eu,if_pos k0]⟩;rw[dm,ji,if_neg (by omega),if_neg (by omega),if_neg (by omega),if_neg (by omega),if_pos (.inl k0)];rfl
structure ox where
 b:Int
 p:Int
 s:Int
 l:List aO
 deriving DecidableEq
def rv:ox:=⟨0,0,0,[]⟩
def ux:aB:=[99,104,105,112]
def jH(s:aB):Option (Nat×Nat×Nat):=match aE 32 s with
 |[a,b,c,d]=>if a=ux then(match bj b 999,bj c 999,bj d 999 with
  |some x,some y,some z=>some (x,y,z)
  |_,_,_=>none)else none
 |_=>none
def fA(t:aB):List aB:=((aE 10 t).drop 1).take ((aE 10 t).length -2)
def dq(t:aB):Nat:=(aE 10 t).length -1
def v7(l:List aB):Nat:=l.findIdx fun s=>decide (eu s≠0)
def ez(t:aB):ox×Int×Int:=
 if 16384<t.length then(rv,3,0)
 else if dq t=0\/(aE 10 t).getD (dq t) []≠[]then(rv,2,(dq t:Int)+1)
 else match jH ((aE 10 t).getD 0 [])with
  |none=>(rv,2,1)
  |some (b,p,s)=>
   if v7 (fA t)<(fA t).length then(rv,eu ((fA t).getD (v7 (fA t)) []),(v7 (fA t):Int)+2)
   else if 300<(fA t).length then(rv,3,0)
   else(⟨(b:Nat),(p:Nat),(s:Nat),(fA t).map dm⟩,0,0)
theorem US{l:List aB}{i:Nat}(h: ∀j,j<i->eu (l.getD j [])=0)(hi:i<l.length)(he: ¬eu (l.getD i [])=0):v7 l=i:=by
 rw[v7,List.findIdx_eq hi];refine⟨?_,fun j hj=>?_⟩
 ·
  rw[show l[i]=l.getD i [] by simp[List.getD,hi]];exact decide_eq_true he
 rw[show l[j]=l.getD j [] by simp[List.getD,show j<l.length by omega]];exact decide_eq_false fun g=>g (h j hj)
theorem UT{l:List aB}(h: ∀j,j<l.length->eu (l.getD j [])=0):v7 l=l.length:=by
 rw[v7,List.findIdx_eq_length];intro t ht;obtain⟨j,hj⟩:=am9 ht;have:=h j (zz.1 hj).1;rw[show l.getD j []=t by simp[List.getD,hj]]at this;exact decide_eq_false fun g=>g this
theorem L3{s:aB}(h:(aE 32 s).length≠4):jH s=none:=by
 rw[jH];split
 ·
  rename_i e;rw[e]at h;exact absurd rfl h
 rfl
def gE(ps:List aB)(j:Nat):Nat:=(bj (ps.getD (j+1) []) 999).getD 0
theorem Gw{s:aB}{a b c d:aB}(h:aE 32 s=[a,b,c,d]):jH s=if a=ux then(match bj b 999,bj c 999,bj d 999 with
  |some x,some y,some z=>some (x,y,z)
  |_,_,_=>none)else none:=by rw[jH,h]
theorem CK{α:Type}{l:List α}(h:l.length=4): ∃a b c d,l=[a,b,c,d]:=by
 match l,h with
 |[a,b,c,d],_=>exact⟨a,b,c,d,rfl⟩
theorem L4{s:aB}(h:(aE 32 s).length=4)(h0:(aE 32 s).getD 0 []≠ux):jH s=none:=by
 obtain⟨a,b,c,d,e⟩:=CK h;rw[Gw e,if_neg];rw[e]at h0;exact h0
theorem CL{s:aB}{i:Nat}(h:(aE 32 s).length=4)(hi:i<3)(h0:bj ((aE 32 s).getD (i+1) []) 999=none):jH s=none:=by
 obtain⟨a,b,c,d,e⟩:=CK h;rw[Gw e];rw[e]at h0;split
 ·
  match i,hi with
  |0,_=>rw[show bj b 999=none from h0]
  |1,_=>rw[show bj c 999=none from h0];split<;>simp_all
  |2,_=>rw[show bj d 999=none from h0];split<;>simp_all
 rfl
theorem L5{s:aB}(h:(aE 32 s).length=4)(h0:(aE 32 s).getD 0 []=ux)(hn: ∀j,j<3->(bj ((aE 32 s).getD (j+1) []) 999).isSome=true):jH s=some (gE (aE 32 s) 0,gE (aE 32 s) 1,gE (aE 32 s) 2):=by
 obtain⟨a,b,c,d,e⟩:=CK h;rw[Gw e,e];rw[e]at h0 hn;obtain⟨x,hx⟩:=amH.1 (hn 0 (by decide));obtain⟨y,hy⟩:=amH.1 (hn 1 (by decide));obtain⟨z,hz⟩:=amH.1 (hn 2 (by decide));have xH:bj b 999=some x:=hx;have uy:bj c 999=some y:=hy;have L6:bj d 999=some z:=hz;have ha:a=ux:=h0;rw[if_pos ha,xH,uy,L6];simp only[gE];rw[show bj ([a,b,c,d].getD (0+1) []) 999=some x from xH,show bj ([a,b,c,d].getD (1+1) []) 999=some y from uy,show bj ([a,b,c,d].getD (2+1) []) 999=some z from L6];rfl
theorem L7{t:aB}(h:16384<t.length):ez t=(rv,3,0):=by rw[ez,if_pos h]
theorem L8{t:aB}(h: ¬16384<t.length)(h2:dq t=0\/(aE 10 t).getD (dq t) []≠[]):ez t=(rv,2,(dq t:Int)+1):=by rw[ez,if_neg h,if_pos h2]
theorem L9{t:aB}(h: ¬16384<t.length)(h2: ¬(dq t=0\/(aE 10 t).getD (dq t) []≠[]))(h3:jH ((aE 10 t).getD 0 [])=none):ez t=(rv,2,1):=by rw[ez,if_neg h,if_neg h2,h3]
theorem Ma{t:aB}{q:Nat×Nat×Nat}{i:Nat}(h: ¬16384<t.length)(h2: ¬(dq t=0\/(aE 10 t).getD (dq t) []≠[]))(h3:jH ((aE 10 t).getD 0 [])=some q)(hj: ∀j,j<i->eu ((fA t).getD j [])=0)(hi:i<(fA t).length)(he: ¬eu ((fA t).getD i [])=0):ez t=(rv,eu ((fA t).getD i []),(i:Int)+2):=by
 obtain⟨b,p,s⟩:=q;have hb:=US hj hi he;rw[ez,if_neg h,if_neg h2,h3];simp only;rw[hb,if_pos hi]
theorem Mc{t:aB}{q:Nat×Nat×Nat}(h: ¬16384<t.length)(h2: ¬(dq t=0\/(aE 10 t).getD (dq t) []≠[]))(h3:jH ((aE 10 t).getD 0 [])=some q)(hj: ∀j,j<(fA t).length->eu ((fA t).getD j [])=0):ez t=if 300<(fA t).length then(rv,3,0)else(⟨(q.1:Nat),(q.2.1:Nat),(q.2.2:Nat),(fA t).map dm⟩,0,0):=by
 obtain⟨b,p,s⟩:=q;have hb:=UT hj;rw[ez,if_neg h,if_neg h2,h3];simp only;rw[hb,if_neg (Nat.lt_irrefl _)]
theorem Md(t:aB):(fA t).length=dq t -1:=by
 have h:=anf.2 (vG (c:=10) t);rw[fA,dq,amo,amu];omega
theorem UU{t:aB}{x:aB}(h:x∈fA t):x.length<=t.length:=ri t (List.mem_of_mem_drop (aov h))
end Go.Kb
namespace Go.Proofs.YtkggjjnhnjjokaaGreatDoor
open Go.ay Go.Kb Go.RowKit
class gS(w:World):Prop extends Tabs w where
 CM: ∃tp p,w.var? Tryz.prog "strconv.ErrSyntax" =some #[.iface tp p]
 CN: ∃tp p,w.var? Tryz.prog "strconv.ErrRange" =some #[.iface tp p]
instance {w:World}[t:gS w]:Tabs w:=t.toTabs
theorem Me{w0 w:World}{L:List ah}{P:Program}{n:String}{cs:Array Value}(hv:w0.var? P n=some cs)(h:Mem w0 L w):w.var? P n=some cs:=by
 unfold World.var? at hv⊢
 cases hg:P.globalNamed n with
 |none=>rw[hg]at hv;cases hv
 |some g=>
  simp only[hg,Option.bind_some]at hv⊢;have Fv:g<w0.heap.size:=by
   rcases amv g w0.heap.size with q|q
   ·
    exact q
   rw[amE q]at hv;cases hv
  rw[h.below.block g Fv];exact hv
theorem gS.at{w0 w:World}{L:List ah}(t:gS w0)(h:Mem w0 L w):gS w:=by
 obtain⟨a,b,h1⟩:=t.CM;obtain⟨c,d,h2⟩:=t.CN;exact{t.toTabs.at h with CM:=⟨a,b,Me h1 h⟩,CN:=⟨c,d,Me h2 h⟩}
variable {w0:World}{L:List ah}
instance ahQ[t:Tabs w0](n:Int64):bD Tryz.prog 86 w0 L [.int .i64 n.toInt] (.string ⟨(Lib.itoa n.toInt).toArray⟩) True:=⟨fun _ w hw=>by
 have h1:=Int64.le_toInt n;have h2:=Int64.toInt_lt n;refine(Tryz.strconv_Itoa n.toInt oM oM w (t.at hw).pow).mono ?_;rintro e w' ⟨he,k,os,rfl⟩;exact⟨he, .za ⟨rfl,rfl,rfl,by show w.heap.size<=(w.heap++os).size;rw[amT];omega,fun j hj=>by show(w.heap++os)[j]? =w.heap[j]?;exact amW hj⟩⟩⟩
theorem UW{z:Int}(h:0<=z):Lib.itoa z=dec z.toNat:=by
 obtain⟨n,rfl⟩: ∃n:Nat,z=(n:Int):=⟨z.toNat,by omega⟩;rw[KQ,am1]
instance ahR[t:gS w0](s:aB):bK Tryz.prog 207 w0 L [.string ⟨s.toArray⟩] (Int×Option (TypeId×Value)) (fun z=> .tuple #[.int .i64 z.1,Af z.2]) (fun _=>L) (fun z=>(z.2=none->Lib.atoiAll s= .ok z.1)/\(z.2≠none-> ∀v,Lib.atoiAll s≠ .ok v)) (s.length<=281474976710656):=⟨fun hs w hw=>by
 have tb:=t.at hw;obtain⟨tp,p,hv⟩:=tb.CM;obtain⟨tq,q,hr⟩:=tb.CN;have hz:(⟨s.toArray⟩:ByteArray).size<=281474976710656:=by rw[mI];exact hs
 cases h:Lib.atoiAll s
 ·
  rename_i v;refine(Tryz.strconv_Atoi_ok ⟨s.toArray⟩ oM v h w).mono ?_;rintro e w' ⟨he,fF⟩;refine⟨(v,none),he,⟨fun _=>rfl,fun g=>absurd rfl g⟩,hw.step ?_⟩;rcases fF with rfl|⟨t,rfl⟩
  ·
   exact Below.refl _ _
  exact Lib.bytesWorld_below _ _ _
 ·
  refine(Tryz.strconv_Atoi_syntax_var ⟨s.toArray⟩ hz h tp p w hv).mono ?_;rintro e w' ⟨N,he,_,_,hb⟩;refine⟨(0,some (_,_)),he,?_,hw.step hb⟩;constructor
  ·
   intro g;cases g
  intro _ v g;cases g
 refine(Tryz.strconv_Atoi_range_var ⟨s.toArray⟩ hz h tq q w hr).mono ?_;rintro e w' ⟨N,he,_,_,hb⟩;refine⟨(_,some (_,_)),he,?_,hw.step hb⟩;constructor
 ·
  intro g;cases g
 intro _ v g;cases g⟩
def CO(n:Nat):aB:=if n<10 then[UInt8.ofNat (48+n)]else if n<100 then[UInt8.ofNat (48+n/10),UInt8.ofNat (48+n%10)]else[UInt8.ofNat (48+n/10/10),UInt8.ofNat (48+n/10%10),UInt8.ofNat (48+n%10)]
theorem UX{n:Nat}(h:n<1000):dec n=CO n:=by
 rw[CO];split
 ·
  rename_i h1;exact oh h1
 split
 ·
  rename_i h1 h2;rw[q9 (n:=n) oM,oh (n:=n/10) oM];rfl
 rename_i h1 h2;rw[q9 (n:=n) oM,q9 (n:=n/10) oM,oh (n:=n/10/10) oM];rfl
def Mf(n:Nat):Bool:=match Lib.atoiAll (CO n)with
 | .ok v=>decide (v=(n:Int))
 |_=>false
theorem UY: ∀n,n<1000->Mf n=true:=by decide+kernel
theorem UZ(n:Nat)(h:n<1000):Lib.atoiAll (dec n)= .ok (n:Int):=by
 have h1:=UY n h;rw[Mf]at h1;rw[UX h]
 cases hq:Lib.atoiAll (CO n)
 ·
  rename_i v;rw[hq]at h1;rw[of_decide_eq_true h1]
 all_goals(rw[hq]at h1;cases h1)
theorem U0{s:aB}{z:Int}(h:Lib.atoiAll s= .ok z)(h0:0<=z)(h9:z<=999)(he:dec z.toNat=s):bj s 999=some z.toNat:=gZ.2 ⟨he.symm,by omega⟩
theorem U1{s:aB}{n:Nat}(h:bj s 999=some n):s=dec n/\n<=999/\Lib.atoiAll s= .ok (n:Int):=by
 obtain⟨h1,h2⟩:=gZ.1 h;exact⟨h1,h2,by rw[h1];exact UZ n oM⟩
instance ahS{k:Int}:bD Tryz.prog 87 w0 L [.int .i64 k] (.string ⟨(gR k).toArray⟩) (True):=⟨fun aw w hw=>by
 refine bQ Tryz.func87 rfl Tryz.ntmps87 rfl ?_;refine dV ?_;refine Gb ?_ ?_<;>intro h0
 ·
  refine aj ?_;refine Gr fun w1 hw=>?_;exact⟨(by rw[gR,if_pos h0]),ag.mem hw⟩
 refine an ?_;refine Gb ?_ ?_<;>intro h1
 ·
  refine aj ?_;refine Gr fun w1 hw=>?_;exact⟨(by rw[gR,if_neg h0,if_pos h1]),ag.mem hw⟩
 refine an ?_;refine Gb ?_ ?_<;>intro h2
 ·
  refine aj ?_;refine Gr fun w1 hw=>?_;exact⟨(by rw[gR,if_neg h0,if_neg h1,if_pos h2]),ag.mem hw⟩
 refine an ?_;refine Gb ?_ ?_<;>intro h3
 ·
  refine aj ?_;refine Gr fun w1 hw=>?_;exact⟨(by rw[gR,if_neg h0,if_neg h1,if_neg h2,if_pos h3]),ag.mem hw⟩
 refine an ?_;refine Gb ?_ ?_<;>intro h4
 ·
  refine aj ?_;refine Gr fun w1 hw=>?_;exact⟨(by rw[gR,if_neg h0,if_neg h1,if_neg h2,if_neg h3,if_pos h4]),ag.mem hw⟩
 refine an ?_;refine Gb ?_ ?_<;>intro h5
 ·
  refine aj ?_;refine Gr fun w1 hw=>?_;exact⟨(by rw[gR,if_neg h0,if_neg h1,if_neg h2,if_neg h3,if_neg h4,if_pos h5]),ag.mem hw⟩
 refine an ?_;refine Gb ?_ ?_<;>intro h6
 ·
  refine aj ?_;refine Gr fun w1 hw=>?_;exact⟨(by rw[gR,if_neg h0,if_neg h1,if_neg h2,if_neg h3,if_neg h4,if_neg h5,if_pos h6]),ag.mem hw⟩
 refine an ?_;refine Gb ?_ ?_<;>intro h7
 ·
  refine aj ?_;refine Gr fun w1 hw=>?_;exact⟨(by rw[gR,if_neg h0,if_neg h1,if_neg h2,if_neg h3,if_neg h4,if_neg h5,if_neg h6,if_pos h7]),ag.mem hw⟩
 refine aj ?_;refine Gr fun w1 hw=>?_;exact⟨(by rw[gR,if_neg h0,if_neg h1,if_neg h2,if_neg h3,if_neg h4,if_neg h5,if_neg h6,if_neg h7]),ag.mem hw⟩⟩
instance ahT{s:List UInt8}:bD Tryz.prog 148 w0 L [.string ⟨s.toArray⟩] (.int .i64 ((bh s):Nat)) (True):=⟨fun aw w hw=>by
 refine bQ Tryz.func148 rfl Tryz.ntmps148 rfl ?_;refine aG ?_;refine bI (X:=Nat) (fun U=>[(3, .int .i64 (U:Nat)),(0, .string ⟨s.toArray⟩)]) (fun U=>[]) (fun U=>1<=U/\U<=9/\ ∀j:Nat,1<=j->j<U-> ¬gR (j:Int)=s) (fun U=>9 -U) 1 ⟨Nat.le_refl _,by decide,fun j h1 h2=>by first|omega|(simp only[];omega)⟩ sb (fun w hw=>ag.mem hw) ?_;rintro k ⟨Gx,qa,CP⟩;refine an ?_;refine Gb ?_ ?_<;>intro h0
 ·
  refine an ?_;refine ae (nC rfl rfl) (Gc ?_);refine Gb ?_ ?_<;>intro h1
  ·
   refine an ?_;refine Gr fun w1 hw=>?_;exact Gf ((by rw[LV Gx oM h1])) hw
  have U2: ¬gR (k:Int)=s:=by simpa using h1
  refine an ?_;refine Gi ?_;exact bg (x:=(k)) (k+1) ⟨oF,oF,fun j h1 h2=>if e:j=k then(by subst e;exact U2)else CP j h1 oF⟩ oF sb (fun w hw=>ag.mem hw)
 refine aj ?_;refine Gr fun w1 hw=>?_;exact⟨congrArg (fun b=>Ending.returned (Value.int .i64 b)) ((by rw[LW fun j g1 g2=>CP j g1 oM];rfl)),ag.mem hw⟩⟩
end Go.Proofs.YtkggjjnhnjjokaaGreatDoor
