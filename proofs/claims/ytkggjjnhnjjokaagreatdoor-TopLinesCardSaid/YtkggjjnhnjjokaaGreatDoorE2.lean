/- Part of a proof. -/
import Derived.Test.YtkggjjnhnjjokaaGreatDoorE1
import Derived.Lib.Join
import Derived.Test.YtkggjjnhnjjokaaGreatDoorRows
import Derived.Shelf.Strings.Builder1
import Derived.Shelf.Strings.Builder2
import Derived.Shelf.Strings.OnBuilder
import Derived.Shelf.Small.Strs
import Derived.Shelf.Utf8.RuneCount
import Derived.Shelf.Strconv.Itoa0
import Derived.Shelf.Strconv.Itoa1
import Derived.Shelf.LaysM
import Derived.Shelf.Strconv.Itoa2
import Derived.Shelf.Strconv.Itoa3
import Derived.Shelf.Strings.Search1
import Derived.Shelf.Strings.Search2
import Derived.Shelf.Strings.Search3
import Derived.Shelf.Strings.Cut
import Derived.Shelf.Strings.Count
import Derived.Shelf.Strings.Shaped
import Derived.Shelf.Strings.Split
import Derived.Shelf.Strings.SplitShaped
import Derived.Shelf.Unicode.Decode
import Derived.Shelf.Strings.RuneCount
import Derived.Shelf.Strings.Explode
import Derived.Shelf.Unicode.DecodeSlow
import Derived.Shelf.Unicode.DecodeAny
import Derived.Test.YtkggjjnhnjjokaaGreatDoorProg
import Derived.Lib.AppendZerosOnto
import Derived.Lib.Overlaps
import Derived.Lib.AppendZeros
set_option maxRecDepth 20000
set_option linter.unusedSimpArgs false
set_option linter.unusedVariables false
namespace Go.Kb
open Go.ax
variable {s:bD} {i n top:Nat} {c:UInt8}
def rQ(c:UInt8):Int:=match kB c with
 |some n=>(n:Int)
 |none=> -1
def B2(s:bD)(top:Nat):Int:=match cV s top with
 |some n=>(n:Int)
 |none=> -1
theorem Ox(h:i<s.length):s.take (i+1)=s.take i++[s.getD i 0]:=by
 rw[asx h];simp[List.getD,h]
theorem EG(h:i<s.length):val (s.take (i+1))=10*val (s.take i)+((s.getD i 0).toNat -48):=by rw[Ox h,Et]
theorem Oy(h:i<s.length)(h1:(s.take i).all k7=true)(h2:48<=(s.getD i 0).toNat/\(s.getD i 0).toNat<=57):(s.take (i+1)).all k7=true:=by
 rw[Ox h,List.all_append,h1];simp only[asP,as4,k7];simpa using h2
theorem XF: ∀k (s:bD),s.length=k->s.all k7=true->val s<10^k:=by
 intro k
 induction k with
 |zero=>intro s hl _;rw[arb.1 hl];simp[val]
 |succ k ih=>
  intro s hl hd;obtain⟨t,c,rfl⟩: ∃t c,s=t++[c]:=by
   rcases List.eq_nil_or_concat s with h|⟨t,c,h⟩
   ·
    subst h;simp at hl
   exact⟨t,c,by simpa using h⟩
  rw[List.all_append,alM]at hd;have hc:48<=c.toNat/\c.toNat<=57:=by
   have:=hd.2;simpa[k7]using this
  have:=ih t (by simpa using hl) hd.1;rw[Et,Nat.pow_succ];omega
theorem XG(h:i<=5)(hi:i<=s.length)(h1:(s.take i).all k7=true):val (s.take i)<100000:=by
 have:=XF i (s.take i) (by simp;omega) h1;exact arM this (ar2 (by decide) h)
theorem XH(a b:bD):val a<=val (a++b):=by
 have key: ∀(b:bD) (m:Nat),m<=b.foldl (fun a c=>10*a+(c.toNat -48)) m:=by
  intro b
  induction b with
  |nil=>intro m;exact aqY _
  |cons x b ih=>intro m;exact atu (show m<=10*m+(x.toNat -48) by omega) (ih _)
 unfold val;rw[ato];exact key b _
theorem IM(h:0<s.length):s.head?=some (s.getD 0 0):=by
 cases s with
 |nil=>simp at h
 |cons x s=>rfl
theorem XI(ht:top<=65535)(h:s.length=0\/5<s.length\/(1<s.length/\(s.getD 0 0).toNat=48)):cV s top=none:=by
 cases e:cV s top with
 |none=>rfl
 |some n=>
  obtain⟨rfl,hn⟩:=kA.1 e;have hl:=uA 5 n (by omega) (by decide);have hp:=Ix n;have h0:=asU.2 hp.1;rcases h with h|h|⟨h,h2⟩
  ·
   omega
  ·
   omega
  rcases hp.2 with h3|h3
  ·
   omega
  rw[IM h0]at h3;exact absurd (congrArg some (atc.1 h2:(dec n).getD 0 0=48)) h3
theorem XJ(h:s=[]\/(1<s.length/\(s.getD 0 0).toNat=48)):cV s top=none:=by
 cases e:cV s top with
 |none=>rfl
 |some n=>
  obtain⟨rfl,hn⟩:=kA.1 e;have hp:=Ix n;have h0:=asU.2 hp.1;rcases h with h|⟨h,h2⟩
  ·
   exact absurd h hp.1
  rcases hp.2 with h3|h3
  ·
   omega
  rw[IM h0]at h3;exact absurd (congrArg some (atc.1 h2:(dec n).getD 0 0=48)) h3
theorem Oz(h:i<s.length)(h2:(s.getD i 0).toNat<48\/57<(s.getD i 0).toNat):cV s top=none:=by
 cases e:cV s top with
 |none=>rfl
 |some n=>
  obtain⟨rfl,hn⟩:=kA.1 e;have:=aq8.1 (Iv n) ((dec n).getD i 0) (by simp[List.getD,h]);simp only[k7,decide_eq_true_eq]at this;omega
theorem OA(h:top<val (s.take i)):cV s top=none:=by
 cases e:cV s top with
 |none=>rfl
 |some n=>
  obtain⟨rfl,hn⟩:=kA.1 e;have:=XH ((dec n).take i) ((dec n).drop i);rw[arC,Iw]at this;omega
theorem OB(h:s≠[])(h1: ¬(1<s.length/\(s.getD 0 0).toNat=48))(h2:s.all k7=true)(h3:val s<=top):cV s top=some (val s):=by
 unfold cV;rw[if_pos];refine⟨h,?_,h2,h3⟩;have h0:=asU.2 h;rcases aqX 1 s.length with h4|h4
 ·
  right;rw[IM h0];intro e;exact h1 ⟨h4,by rw[aqP e];rfl⟩
 exact .inl h4
variable {s:bD} {i n st:Nat} {c:UInt8}
variable {ps:List bD}
theorem XK{x:bD}: ∀(s:bD),x∈cM c s->x.length<=s.length:=by
 intro s;have key: ∀n (s:bD),s.length<=n->x∈cM c s->x.length<=s.length:=by
  intro n
  induction n with
  |zero=>
   intro s hs hx;obtain rfl:=arb.1 (Nat.le_zero.1 hs);simp[cM]at hx;simp[hx]
  |succ n ih=>
   intro s hs hx;rcases zH (c:=c) s with⟨_,h2⟩|⟨a,b,h1,_,h3⟩
   ·
    rw[h2,arp]at hx;rw[hx];exact aqY _
   rw[h3,aqW]at hx;have hl:s.length=a.length+(b.length+1):=by rw[h1];simp
   rcases hx with rfl|hx
   ·
    omega
   have:=ih b (by omega) hx;omega
 exact key s.length s (aqY _)
variable {k:Key} {i n:Nat} {s:bD} {c:UInt8}
def nA(k:Key):List UInt8:=(List.range 16).map fun i=>UInt8.ofNat (aW k i)
theorem XL(k:Key)(h:i<16):(nA k)[i]? =some (UInt8.ofNat (aW k i)):=by simp[nA,h]
theorem OC(k:Key)(i:Nat):(UInt8.ofNat (aW k i)).toNat=aW k i:=by
 have:=gR k i;rw[UInt8.toNat_ofNat'];omega
theorem EH(k:Key):((nA k).take 4).length=4:=by simp[nA]
variable {w0:World}{L:List aj}
instance aib{b j:Nat}{T:TypeId}[h:Has L b (bN k) T j]:Hd w0 L ⟨false,b,0,4,16,none⟩ aN 1 ((nA k).take 4):=⟨fun w hw=>by
 have hb:hp w b=some (.cells (bN k) T (0,0)):=hw.get h.h;refine⟨⟨(fun e=>Bool.noConfusion e),(by show 4<=16;decide),(by show 4<=140737488355328;decide),fun _=>rfl⟩,(EH k).symm,fun i x hx m hm=>?_⟩;obtain rfl:m=0:=by omega
 have hi:i<4:=by
  have:=(ad2.1 hx).1;rw[EH]at this;exact this
 rw[as1,if_pos hi,XL k (by omega)]at hx;obtain rfl:=aqP hx;have e:mQ (hp w) b (0+i*1+0)=(bN k)[i]? :=by
  unfold mQ;rw[hb];simp
 rw[e,jQ k i (by omega)];show some (Value.int .u8 ((aW k i:Nat):Int))=some (Value.int .u8 ((UInt8.ofNat (aW k i)).toNat:Nat));rw[OC]⟩
section
variable {P:Program} {N:ct} {w0:World} {env:Env} {L:List aj} {d:Option Tmp} {ty t u:TypeId} {ps:String} {af:Array Edge} {gd:Option (Nat×Bool)}
theorem XM{e:TypeId}{x ix:Operand}{kk:IntKind}{j:Int}(hu:P.underlying t=some (.array 16 e))[he:fK P e](hx:ev env x=some (.agg (bN k)))(hj:ev env ix=some (.int kk j))(b:Nat)(ej:j=(b:Int))(hb:b<16):
  Ry P N w0 env L ⟨d, .index t x ix,ty,ps,af,gd⟩ (.int .u8 ((aW k b:Nat):Int)):=fun ac w ha _=>by
 subst ej;obtain⟨⟨de,h1,h2⟩,h3⟩:=he;have g:(b:Int)<((16:Nat):Int):=by omega
 have hk:(bN k)[b]! = .int .u8 ((aW k b:Nat):Int):=by
  rw[getElem!_def,jQ k b hb]
 have oo:(bN k)[b]? =some (.int .u8 ((aW k b:Nat):Int)):=jQ k b hb;simp only[execOp,ha.ev hx,ha.ev hj,Instr.index,asIntOf,Sem.run_bind,run_underlying hu,Result.andThen,Sem.run_pure,Int.natCast_nonneg,true_and,g,if_true,arN,kY w h3,part,BC w h1,h2,ass,hk,oo];rfl
end
def th(sep:bD)(xs:List bD):bD:=Lib.join xs sep
theorem IN(c:UInt8)(a b:bD):th [c] [a,b]=a++c::b:=by simp[th,Lib.join,List.intercalate]
theorem OD(k:Key):th [46] (((nA k).take 4).map fun b=>dec b.toNat)=rP k:=by
 have e:(nA k).take 4=[UInt8.ofNat (aW k 0),UInt8.ofNat (aW k 1),UInt8.ofNat (aW k 2),UInt8.ofNat (aW k 3)]:=rfl;rw[e];simp only[arh,arZ,OC];simp[th,Lib.join,List.intercalate,rP]
def rR(k:Key)(n:Int):Bool:=bj ⟨n,n,k⟩
def ti(k:Key)(n:Int):bD:=if rR k n=true then qU k n else[]
def tj(b:Bool):Int:=if b=true then 0 else 1
theorem OE(k:Key)(h:i<32):(ny k).take (i+1)=(ny k).take i++[jx (gS k i)]:=by
 rw[aq0,IK k h];rfl
theorem OF{k:Key}{n:Int}:rR k n=true↔(n=32\/n=128)/\dB k n=k:=by
 unfold rR;simp only[bj,alM,ar4,decide_eq_true_eq];constructor
 ·
  intro h;exact⟨by omega,by simp_all⟩
 intro h;simp_all;omega
theorem XN{k:Key}{n:Int}(h: ¬(n=32\/n=128)):rR k n=false:=by
 rw[←Bool.not_eq_true,OF];exact fun e=>h e.1
theorem XO{k:Key}{n:Int}(h:n=32\/n=128):rR k n=decide (dB k n=k):=by
 rw[atx,OF,decide_eq_true_iff];exact⟨fun e=>e.2,fun e=>⟨h,e⟩⟩
variable {k:Key} {i:Nat}
theorem OG(n:Nat)(h:n<16):((⟨([48,49,50,51,52,53,54,55,56,57,97,98,99,100,101,102]:bD).toArray⟩:ByteArray)[n]?).map (·.toNat)=some (jx n).toNat:=by
 have key: ∀n,n<16->((⟨([48,49,50,51,52,53,54,55,56,57,97,98,99,100,101,102]:bD).toArray⟩:ByteArray)[n]?).map (·.toNat)=some (jx n).toNat:=by decide
 exact key n h
theorem XP(k:Key)(i:Nat):aW k i/2^4=gS k (2*i):=by
 rw[gS,if_pos (by omega),show 2*i/2=i by omega]
theorem XQ(k:Key)(i:Nat):aW k i&&&15=gS k (2*i+1):=by
 rw[gS,if_neg (by omega),show(2*i+1)/2=i by omega];exact Nat.and_two_pow_sub_one_eq_mod _ 4
theorem XR(k:Key)(i:Nat):((⟨([48,49,50,51,52,53,54,55,56,57,97,98,99,100,101,102]:bD).toArray⟩:ByteArray)[aW k i/2^4]?).map (·.toNat)=some (jx (gS k (2*i))).toNat:=by
 rw[XP];exact OG _ (BY k _)
theorem XS(k:Key)(i:Nat):((⟨([48,49,50,51,52,53,54,55,56,57,97,98,99,100,101,102]:bD).toArray⟩:ByteArray)[aW k i&&&15]?).map (·.toNat)=some (jx (gS k (2*i+1))).toNat:=by
 rw[XQ];exact OG _ (BY k _)
theorem XT(k:Key)(h:i<16):(ny k).take (2*(i+1))=(ny k).take (2*i)++[jx (gS k (2*i)),jx (gS k (2*i+1))]:=by
 rw[show 2*(i+1)=2*i+1+1 by omega,OE k (by omega),OE k (by omega),aq6];rfl
theorem XU(h:i<4){x:UInt8}(hx:((nA k).take 4)[i]? =some x):((((nA k).take 4).take (i+1)).map fun b=>dec b.toNat)=((((nA k).take 4).take i).map fun b=>dec b.toNat)++[dec x.toNat]:=by
 rw[aq0,hx,art];rfl
theorem OH(k:Key):(rP k).length<=15:=by
 have q0:=gR k 0;have q1:=gR k 1;have q2:=gR k 2;have q3:=gR k 3;have l0:=uA 3 (aW k 0) (by omega) (by decide);have l1:=uA 3 (aW k 1) (by omega) (by decide);have l2:=uA 3 (aW k 2) (by omega) (by decide);have l3:=uA 3 (aW k 3) (by omega) (by decide);simp only[rP,af0,aqQ];omega
theorem OI(k:Key)(n:Int):(ti k n).length<=32:=by
 have:=OH k;have:=BZ k;unfold ti qU;split
 ·
  split<;>omega
 simp
theorem XV(k:Key):(((nA k).take 4).map fun b=>dec b.toNat)≠[]/\(th [46] (((nA k).take 4).map fun b=>dec b.toNat)).length<=140737488355328:=by
 refine⟨fun e=>?_,by rw[OD];have:=OH k;omega⟩;have:=congrArg List.length e;rw[arA,EH]at this;cases this
def uE(p:bo):bD:=if bj p=true then uD p else[]
def ot(r:Rt):bD:=if bj r.p=true then zN r else[]
theorem OJ{p:bo}(h:bj p=true):rR p.key p.bits=true/\0<=p.len/\p.len<=128:=by
 obtain⟨h1,h2,h3,h4⟩:=(zK p).1 h;refine⟨?_,by omega,by omega⟩;rw[rR,zK];exact⟨h1,by show 0<=p.bits;omega,arU _,fun j hj eA=>h4 j hj (by have:p.bits<=(j:Int):=eA;omega)⟩
theorem OK(a b:bD)(c:UInt8)(h:a.length+b.length<=1000):[a,b]≠[]/\(th [c] [a,b]).length<=140737488355328:=by
 refine⟨by simp,?_⟩;rw[IN,af0,aqQ];omega
theorem OL(p:bo):(uE p).length<=36:=by
 unfold uE;split
 ·
  rename_i h;obtain⟨h1,h2,h3⟩:=OJ h;have hk:=OI p.key p.bits;rw[ti,if_pos h1]at hk;have:=uA 3 p.len.toNat (by omega) (by decide);simp only[uD,af0,aqQ];omega
 simp
end Go.Kb
namespace Go.Proofs.YtkggjjnhnjjokaaGreatDoor
open Go.ax
instance aic:fK Tryz.prog 3:=⟨⟨_,Tryz.underlying3,rfl⟩,by kernel_rfl⟩
instance aid:mi Tryz.prog 3 .i64:=⟨Tryz.underlying3⟩
instance aie:fK Tryz.prog 4:=⟨⟨_,Tryz.underlying4,rfl⟩,by kernel_rfl⟩
instance aif:fK Tryz.prog 5:=⟨⟨_,Tryz.underlying5,rfl⟩,by kernel_rfl⟩
instance aih:mi Tryz.prog 5 .u8:=⟨Tryz.underlying5⟩
instance aii:fK Tryz.prog 9:=⟨⟨_,Tryz.underlying9,rfl⟩,by kernel_rfl⟩
instance aij:fK Tryz.prog 22:=⟨⟨_,Tryz.underlying22,rfl⟩,by kernel_rfl⟩
instance aik:fh Tryz.prog 22 34 19:=⟨Tryz.underlying22,by kernel_rfl⟩
instance ail:fE Tryz.prog 25 16:=⟨⟨_,Tryz.underlying25,rfl⟩,by kernel_rfl⟩
instance aim:uj Tryz.prog 25 16 1:=⟨⟨_,Tryz.underlying25,by kernel_rfl⟩⟩
instance ain:mi Tryz.prog 26 .u32:=⟨Tryz.underlying26⟩
instance aio:fK Tryz.prog 27:=⟨⟨_,Tryz.underlying27,rfl⟩,by kernel_rfl⟩
instance aip:mi Tryz.prog 27 .u16:=⟨Tryz.underlying27⟩
instance aiq:fE Tryz.prog 32 18:=⟨⟨_,Tryz.underlying32,rfl⟩,by kernel_rfl⟩
instance air:dA Tryz.prog 32 0 0:=⟨⟨_,_,0,Tryz.underlying32,rfl,rfl,by kernel_rfl⟩⟩
instance ais:dA Tryz.prog 32 1 1:=⟨⟨_,_,0,Tryz.underlying32,rfl,rfl,by kernel_rfl⟩⟩
instance ait:dA Tryz.prog 32 2 2:=⟨⟨_,_,15,Tryz.underlying32,rfl,rfl,by kernel_rfl⟩⟩
instance aiu:fE Tryz.prog 34 19:=⟨⟨_,Tryz.underlying34,rfl⟩,by kernel_rfl⟩
instance aiv:dA Tryz.prog 34 0 0:=⟨⟨_,_,17,Tryz.underlying34,rfl,rfl,by kernel_rfl⟩⟩
instance aiw:dA Tryz.prog 34 1 18:=⟨⟨_,_,0,Tryz.underlying34,rfl,rfl,by kernel_rfl⟩⟩
instance aix:fh Tryz.prog 45 47 20:=⟨Tryz.underlying45,by kernel_rfl⟩
instance aiy:fE Tryz.prog 47 20:=⟨⟨_,Tryz.underlying47,rfl⟩,by kernel_rfl⟩
instance aiz:dA Tryz.prog 47 0 0:=⟨⟨_,_,18,Tryz.underlying47,rfl,rfl,by kernel_rfl⟩⟩
instance aiA:dA Tryz.prog 47 1 19:=⟨⟨_,_,0,Tryz.underlying47,rfl,rfl,by kernel_rfl⟩⟩
instance aiB:fK Tryz.prog 53:=⟨⟨_,Tryz.underlying53,rfl⟩,by kernel_rfl⟩
instance aiC:fh Tryz.prog 53 5 1:=⟨Tryz.underlying53,by kernel_rfl⟩
instance aiD:fK Tryz.prog 56:=⟨⟨_,Tryz.underlying56,rfl⟩,by kernel_rfl⟩
instance aiE:fh Tryz.prog 56 180 4:=⟨Tryz.underlying56,by kernel_rfl⟩
instance aiF:fK Tryz.prog 57:=⟨⟨_,Tryz.underlying57,rfl⟩,by kernel_rfl⟩
instance aiG:fh Tryz.prog 57 97 4:=⟨Tryz.underlying57,by kernel_rfl⟩
instance aiH:fE Tryz.prog 59 6:=⟨⟨_,Tryz.underlying59,rfl⟩,by kernel_rfl⟩
instance aiI:dA Tryz.prog 59 0 0:=⟨⟨_,_,0,Tryz.underlying59,rfl,rfl,by kernel_rfl⟩⟩
instance aiJ:dA Tryz.prog 59 1 1:=⟨⟨_,_,0,Tryz.underlying59,rfl,rfl,by kernel_rfl⟩⟩
instance aiK:dA Tryz.prog 59 2 2:=⟨⟨_,_,0,Tryz.underlying59,rfl,rfl,by kernel_rfl⟩⟩
instance aiL:dA Tryz.prog 59 3 3:=⟨⟨_,_,0,Tryz.underlying59,rfl,rfl,by kernel_rfl⟩⟩
instance aiM:dA Tryz.prog 59 4 4:=⟨⟨_,_,0,Tryz.underlying59,rfl,rfl,by kernel_rfl⟩⟩
instance aiN:dA Tryz.prog 59 5 5:=⟨⟨_,_,0,Tryz.underlying59,rfl,rfl,by kernel_rfl⟩⟩
instance aiO:fK Tryz.prog 60:=⟨⟨_,Tryz.underlying60,rfl⟩,by kernel_rfl⟩
instance aiP:fh Tryz.prog 60 3 1:=⟨Tryz.underlying60,by kernel_rfl⟩
instance aiQ:fK Tryz.prog 61:=⟨⟨_,Tryz.underlying61,rfl⟩,by kernel_rfl⟩
instance aiR:mi Tryz.prog 61 .u64:=⟨Tryz.underlying61⟩
instance aiS:fE Tryz.prog 63 9:=⟨⟨_,Tryz.underlying63,rfl⟩,by kernel_rfl⟩
instance aiT:dA Tryz.prog 63 0 0:=⟨⟨_,_,5,Tryz.underlying63,rfl,rfl,by kernel_rfl⟩⟩
instance aiU:dA Tryz.prog 63 1 6:=⟨⟨_,_,0,Tryz.underlying63,rfl,rfl,by kernel_rfl⟩⟩
instance aiV:dA Tryz.prog 63 2 7:=⟨⟨_,_,0,Tryz.underlying63,rfl,rfl,by kernel_rfl⟩⟩
instance aiW:dA Tryz.prog 63 3 8:=⟨⟨_,_,0,Tryz.underlying63,rfl,rfl,by kernel_rfl⟩⟩
instance aiX:fE Tryz.prog 65 10:=⟨⟨_,Tryz.underlying65,rfl⟩,by kernel_rfl⟩
instance aiY:dA Tryz.prog 65 0 0:=⟨⟨_,_,8,Tryz.underlying65,rfl,rfl,by kernel_rfl⟩⟩
instance aiZ:dA Tryz.prog 65 1 9:=⟨⟨_,_,0,Tryz.underlying65,rfl,rfl,by kernel_rfl⟩⟩
instance ai0:fE Tryz.prog 97 4:=⟨⟨_,Tryz.underlying97,rfl⟩,by kernel_rfl⟩
instance ai1:dA Tryz.prog 97 0 0:=⟨⟨_,_,0,Tryz.underlying97,rfl,rfl,by kernel_rfl⟩⟩
instance ai2:dA Tryz.prog 97 1 1:=⟨⟨_,_,0,Tryz.underlying97,rfl,rfl,by kernel_rfl⟩⟩
instance ai3:dA Tryz.prog 97 2 2:=⟨⟨_,_,0,Tryz.underlying97,rfl,rfl,by kernel_rfl⟩⟩
instance ai4:dA Tryz.prog 97 3 3:=⟨⟨_,_,0,Tryz.underlying97,rfl,rfl,by kernel_rfl⟩⟩
instance ai5:fK Tryz.prog 122:=⟨⟨_,Tryz.underlying122,rfl⟩,by kernel_rfl⟩
instance ai6:fh Tryz.prog 122 225 48:=⟨Tryz.underlying122,by kernel_rfl⟩
instance ai7:fE Tryz.prog 124 2:=⟨⟨_,Tryz.underlying124,rfl⟩,by kernel_rfl⟩
instance ai8:dA Tryz.prog 124 0 0:=⟨⟨_,_,0,Tryz.underlying124,rfl,rfl,by kernel_rfl⟩⟩
instance ai9:dA Tryz.prog 124 1 1:=⟨⟨_,_,0,Tryz.underlying124,rfl,rfl,by kernel_rfl⟩⟩
instance aja:fh Tryz.prog 155 9 1:=⟨Tryz.underlying155,by kernel_rfl⟩
instance ajb:fK Tryz.prog 178:=⟨⟨_,Tryz.underlying178,rfl⟩,by kernel_rfl⟩
instance ajc:fh Tryz.prog 178 53 1:=⟨Tryz.underlying178,by kernel_rfl⟩
instance ajd:fE Tryz.prog 180 4:=⟨⟨_,Tryz.underlying180,rfl⟩,by kernel_rfl⟩
instance aje:dA Tryz.prog 180 0 0:=⟨⟨_,_,0,Tryz.underlying180,rfl,rfl,by kernel_rfl⟩⟩
instance ajf:dA Tryz.prog 180 1 1:=⟨⟨_,_,0,Tryz.underlying180,rfl,rfl,by kernel_rfl⟩⟩
instance ajg:dA Tryz.prog 180 2 2:=⟨⟨_,_,0,Tryz.underlying180,rfl,rfl,by kernel_rfl⟩⟩
instance ajh:dA Tryz.prog 180 3 3:=⟨⟨_,_,0,Tryz.underlying180,rfl,rfl,by kernel_rfl⟩⟩
instance aji:fh Tryz.prog 191 269 2:=⟨Tryz.underlying191,by kernel_rfl⟩
instance ajj:fE Tryz.prog 217 2:=⟨⟨_,Tryz.underlying217,rfl⟩,by kernel_rfl⟩
instance ajk:dA Tryz.prog 217 0 0:=⟨⟨_,_,1,Tryz.underlying217,rfl,rfl,by kernel_rfl⟩⟩
instance ajl:fE Tryz.prog 221 2:=⟨⟨_,Tryz.underlying221,rfl⟩,by kernel_rfl⟩
instance ajm:dA Tryz.prog 221 0 0:=⟨⟨_,_,0,Tryz.underlying221,rfl,rfl,by kernel_rfl⟩⟩
instance ajn:dA Tryz.prog 221 1 1:=⟨⟨_,_,0,Tryz.underlying221,rfl,rfl,by kernel_rfl⟩⟩
instance ajo:uj Tryz.prog 222 16 2:=⟨⟨_,Tryz.underlying222,by kernel_rfl⟩⟩
instance ajp:uj Tryz.prog 223 16 1:=⟨⟨_,Tryz.underlying223,by kernel_rfl⟩⟩
instance ajq:fE Tryz.prog 225 48:=⟨⟨_,Tryz.underlying225,rfl⟩,by kernel_rfl⟩
instance ajr:dA Tryz.prog 225 0 0:=⟨⟨_,_,31,Tryz.underlying225,rfl,rfl,by kernel_rfl⟩⟩
instance ajs:dA Tryz.prog 225 1 32:=⟨⟨_,_,15,Tryz.underlying225,rfl,rfl,by kernel_rfl⟩⟩
instance ajt:mi Tryz.prog 253 .u64:=⟨Tryz.underlying253⟩
instance aju:fK Tryz.prog 259:=⟨⟨_,Tryz.underlying259,rfl⟩,by kernel_rfl⟩
instance ajv:dA Tryz.prog 261 0 0:=⟨⟨_,_,8,Tryz.underlying261,rfl,rfl,by kernel_rfl⟩⟩
instance ajw:dA Tryz.prog 261 1 9:=⟨⟨_,_,0,Tryz.underlying261,rfl,rfl,by kernel_rfl⟩⟩
instance ajx:fE Tryz.prog 269 2:=⟨⟨_,Tryz.underlying269,rfl⟩,by kernel_rfl⟩
instance ajy:dA Tryz.prog 269 0 0:=⟨⟨_,_,0,Tryz.underlying269,rfl,rfl,by kernel_rfl⟩⟩
instance ajz:dA Tryz.prog 269 1 1:=⟨⟨_,_,0,Tryz.underlying269,rfl,rfl,by kernel_rfl⟩⟩
instance ajA:fE Tryz.prog 314 2:=⟨⟨_,Tryz.underlying314,rfl⟩,by kernel_rfl⟩
instance ajB:dA Tryz.prog 314 0 0:=⟨⟨_,_,0,Tryz.underlying314,rfl,rfl,by kernel_rfl⟩⟩
instance ajC:dA Tryz.prog 314 1 1:=⟨⟨_,_,0,Tryz.underlying314,rfl,rfl,by kernel_rfl⟩⟩
instance ajD:uj Tryz.prog 317 20 1:=⟨⟨_,Tryz.underlying317,by kernel_rfl⟩⟩
instance ajE:fE Tryz.prog 319 0:=⟨⟨_,Tryz.underlying319,rfl⟩,by kernel_rfl⟩
instance ajF:fE Tryz.prog 324 4:=⟨⟨_,Tryz.underlying324,rfl⟩,by kernel_rfl⟩
instance ajG:dA Tryz.prog 324 0 0:=⟨⟨_,_,0,Tryz.underlying324,rfl,rfl,by kernel_rfl⟩⟩
instance ajH:dA Tryz.prog 324 1 1:=⟨⟨_,_,0,Tryz.underlying324,rfl,rfl,by kernel_rfl⟩⟩
instance ajI:dA Tryz.prog 324 2 2:=⟨⟨_,_,0,Tryz.underlying324,rfl,rfl,by kernel_rfl⟩⟩
instance ajJ:dA Tryz.prog 324 3 3:=⟨⟨_,_,0,Tryz.underlying324,rfl,rfl,by kernel_rfl⟩⟩
instance ajK:fh Tryz.prog 366 60 1:=⟨Tryz.underlying366,by kernel_rfl⟩
instance ajL:fh Tryz.prog 396 178 1:=⟨Tryz.underlying396,by kernel_rfl⟩
instance ajM:fh Tryz.prog 399 402 4:=⟨Tryz.underlying399,by kernel_rfl⟩
instance ajN:fE Tryz.prog 402 4:=⟨⟨_,Tryz.underlying402,rfl⟩,by kernel_rfl⟩
instance ajO:dA Tryz.prog 402 0 0:=⟨⟨_,_,0,Tryz.underlying402,rfl,rfl,by kernel_rfl⟩⟩
instance ajP:dA Tryz.prog 402 1 1:=⟨⟨_,_,0,Tryz.underlying402,rfl,rfl,by kernel_rfl⟩⟩
instance ajQ:dA Tryz.prog 402 2 2:=⟨⟨_,_,0,Tryz.underlying402,rfl,rfl,by kernel_rfl⟩⟩
instance ajR:dA Tryz.prog 402 3 3:=⟨⟨_,_,0,Tryz.underlying402,rfl,rfl,by kernel_rfl⟩⟩
instance ajS:fE Tryz.prog 432 5:=⟨⟨_,Tryz.underlying432,rfl⟩,by kernel_rfl⟩
instance ajT:dA Tryz.prog 432 0 0:=⟨⟨_,_,3,Tryz.underlying432,rfl,rfl,by kernel_rfl⟩⟩
instance ajU:dA Tryz.prog 432 1 4:=⟨⟨_,_,0,Tryz.underlying432,rfl,rfl,by kernel_rfl⟩⟩
instance ajV:fK Tryz.prog 433:=⟨⟨_,Tryz.underlying433,rfl⟩,by kernel_rfl⟩
instance ajW:fh Tryz.prog 443 433 1:=⟨Tryz.underlying443,by kernel_rfl⟩
instance ajX:aI Tryz.prog 12:=⟨⟨Tryz.f12,Tryz.func12,by kernel_rfl,by kernel_rfl⟩⟩
instance ajY:aI Tryz.prog 13:=⟨⟨Tryz.f13,Tryz.func13,by kernel_rfl,by kernel_rfl⟩⟩
instance ajZ:aI Tryz.prog 19:=⟨⟨Tryz.f19,Tryz.func19,by kernel_rfl,by kernel_rfl⟩⟩
instance aj0:aI Tryz.prog 20:=⟨⟨Tryz.f20,Tryz.func20,by kernel_rfl,by kernel_rfl⟩⟩
instance aj1:aI Tryz.prog 22:=⟨⟨Tryz.f22,Tryz.func22,by kernel_rfl,by kernel_rfl⟩⟩
instance aj2:aI Tryz.prog 25:=⟨⟨Tryz.f25,Tryz.func25,by kernel_rfl,by kernel_rfl⟩⟩
instance aj3:aI Tryz.prog 37:=⟨⟨Tryz.f37,Tryz.func37,by kernel_rfl,by kernel_rfl⟩⟩
instance aj4:aI Tryz.prog 38:=⟨⟨Tryz.f38,Tryz.func38,by kernel_rfl,by kernel_rfl⟩⟩
instance aj5:aI Tryz.prog 39:=⟨⟨Tryz.f39,Tryz.func39,by kernel_rfl,by kernel_rfl⟩⟩
instance aj6:aI Tryz.prog 41:=⟨⟨Tryz.f41,Tryz.func41,by kernel_rfl,by kernel_rfl⟩⟩
instance aj7:aI Tryz.prog 42:=⟨⟨Tryz.f42,Tryz.func42,by kernel_rfl,by kernel_rfl⟩⟩
instance aj8:aI Tryz.prog 43:=⟨⟨Tryz.f43,Tryz.func43,by kernel_rfl,by kernel_rfl⟩⟩
instance aj9:aI Tryz.prog 50:=⟨⟨Tryz.f50,Tryz.func50,by kernel_rfl,by kernel_rfl⟩⟩
instance aka:aI Tryz.prog 51:=⟨⟨Tryz.f51,Tryz.func51,by kernel_rfl,by kernel_rfl⟩⟩
instance akb:aI Tryz.prog 55:=⟨⟨Tryz.f55,Tryz.func55,by kernel_rfl,by kernel_rfl⟩⟩
instance akc:aI Tryz.prog 56:=⟨⟨Tryz.f56,Tryz.func56,by kernel_rfl,by kernel_rfl⟩⟩
instance akd:aI Tryz.prog 57:=⟨⟨Tryz.f57,Tryz.func57,by kernel_rfl,by kernel_rfl⟩⟩
instance ake:aI Tryz.prog 58:=⟨⟨Tryz.f58,Tryz.func58,by kernel_rfl,by kernel_rfl⟩⟩
instance akf:aI Tryz.prog 62:=⟨⟨Tryz.f62,Tryz.func62,by kernel_rfl,by kernel_rfl⟩⟩
instance akg:aI Tryz.prog 66:=⟨⟨Tryz.f66,Tryz.func66,by kernel_rfl,by kernel_rfl⟩⟩
instance akh:aI Tryz.prog 68:=⟨⟨Tryz.f68,Tryz.func68,by kernel_rfl,by kernel_rfl⟩⟩
instance aki:aI Tryz.prog 69:=⟨⟨Tryz.f69,Tryz.func69,by kernel_rfl,by kernel_rfl⟩⟩
instance akj:aI Tryz.prog 74:=⟨⟨Tryz.f74,Tryz.func74,by kernel_rfl,by kernel_rfl⟩⟩
instance akk:aI Tryz.prog 75:=⟨⟨Tryz.f75,Tryz.func75,by kernel_rfl,by kernel_rfl⟩⟩
instance akl:aI Tryz.prog 76:=⟨⟨Tryz.f76,Tryz.func76,by kernel_rfl,by kernel_rfl⟩⟩
instance akm:aI Tryz.prog 78:=⟨⟨Tryz.f78,Tryz.func78,by kernel_rfl,by kernel_rfl⟩⟩
instance akn:aI Tryz.prog 84:=⟨⟨Tryz.f84,Tryz.func84,by kernel_rfl,by kernel_rfl⟩⟩
instance ako:aI Tryz.prog 85:=⟨⟨Tryz.f85,Tryz.func85,by kernel_rfl,by kernel_rfl⟩⟩
instance akp:aI Tryz.prog 86:=⟨⟨Tryz.f86,Tryz.func86,by kernel_rfl,by kernel_rfl⟩⟩
instance akq:aI Tryz.prog 93:=⟨⟨Tryz.f93,Tryz.func93,by kernel_rfl,by kernel_rfl⟩⟩
instance akr:aI Tryz.prog 94:=⟨⟨Tryz.f94,Tryz.func94,by kernel_rfl,by kernel_rfl⟩⟩
instance aks:aI Tryz.prog 95:=⟨⟨Tryz.f95,Tryz.func95,by kernel_rfl,by kernel_rfl⟩⟩
instance akt:aI Tryz.prog 96:=⟨⟨Tryz.f96,Tryz.func96,by kernel_rfl,by kernel_rfl⟩⟩
instance aku:aI Tryz.prog 97:=⟨⟨Tryz.f97,Tryz.func97,by kernel_rfl,by kernel_rfl⟩⟩
instance akv:aI Tryz.prog 98:=⟨⟨Tryz.f98,Tryz.func98,by kernel_rfl,by kernel_rfl⟩⟩
instance akw:aI Tryz.prog 99:=⟨⟨Tryz.f99,Tryz.func99,by kernel_rfl,by kernel_rfl⟩⟩
instance akx:aI Tryz.prog 100:=⟨⟨Tryz.f100,Tryz.func100,by kernel_rfl,by kernel_rfl⟩⟩
instance aky:aI Tryz.prog 101:=⟨⟨Tryz.f101,Tryz.func101,by kernel_rfl,by kernel_rfl⟩⟩
instance akz:aI Tryz.prog 102:=⟨⟨Tryz.f102,Tryz.func102,by kernel_rfl,by kernel_rfl⟩⟩
instance akA:aI Tryz.prog 103:=⟨⟨Tryz.f103,Tryz.func103,by kernel_rfl,by kernel_rfl⟩⟩
instance akB:aI Tryz.prog 104:=⟨⟨Tryz.f104,Tryz.func104,by kernel_rfl,by kernel_rfl⟩⟩
instance akC:aI Tryz.prog 105:=⟨⟨Tryz.f105,Tryz.func105,by kernel_rfl,by kernel_rfl⟩⟩
instance akD:aI Tryz.prog 106:=⟨⟨Tryz.f106,Tryz.func106,by kernel_rfl,by kernel_rfl⟩⟩
instance akE:aI Tryz.prog 107:=⟨⟨Tryz.f107,Tryz.func107,by kernel_rfl,by kernel_rfl⟩⟩
instance akF:aI Tryz.prog 108:=⟨⟨Tryz.f108,Tryz.func108,by kernel_rfl,by kernel_rfl⟩⟩
instance akG:aI Tryz.prog 110:=⟨⟨Tryz.f110,Tryz.func110,by kernel_rfl,by kernel_rfl⟩⟩
instance akH:aI Tryz.prog 111:=⟨⟨Tryz.f111,Tryz.func111,by kernel_rfl,by kernel_rfl⟩⟩
instance akI:aI Tryz.prog 112:=⟨⟨Tryz.f112,Tryz.func112,by kernel_rfl,by kernel_rfl⟩⟩
instance akJ:aI Tryz.prog 113:=⟨⟨Tryz.f113,Tryz.func113,by kernel_rfl,by kernel_rfl⟩⟩
instance akK:aI Tryz.prog 115:=⟨⟨Tryz.f115,Tryz.func115,by kernel_rfl,by kernel_rfl⟩⟩
instance akL:aI Tryz.prog 116:=⟨⟨Tryz.f116,Tryz.func116,by kernel_rfl,by kernel_rfl⟩⟩
instance akM:aI Tryz.prog 117:=⟨⟨Tryz.f117,Tryz.func117,by kernel_rfl,by kernel_rfl⟩⟩
instance akN:aI Tryz.prog 122:=⟨⟨Tryz.f122,Tryz.func122,by kernel_rfl,by kernel_rfl⟩⟩
instance akO:aI Tryz.prog 123:=⟨⟨Tryz.f123,Tryz.func123,by kernel_rfl,by kernel_rfl⟩⟩
instance akP:aI Tryz.prog 124:=⟨⟨Tryz.f124,Tryz.func124,by kernel_rfl,by kernel_rfl⟩⟩
instance akQ:aI Tryz.prog 125:=⟨⟨Tryz.f125,Tryz.func125,by kernel_rfl,by kernel_rfl⟩⟩
instance akR:aI Tryz.prog 126:=⟨⟨Tryz.f126,Tryz.func126,by kernel_rfl,by kernel_rfl⟩⟩
instance akS:aI Tryz.prog 129:=⟨⟨Tryz.f129,Tryz.func129,by kernel_rfl,by kernel_rfl⟩⟩
instance akT:aI Tryz.prog 130:=⟨⟨Tryz.f130,Tryz.func130,by kernel_rfl,by kernel_rfl⟩⟩
instance akU:aI Tryz.prog 138:=⟨⟨Tryz.f138,Tryz.func138,by kernel_rfl,by kernel_rfl⟩⟩
instance akV:aI Tryz.prog 139:=⟨⟨Tryz.f139,Tryz.func139,by kernel_rfl,by kernel_rfl⟩⟩
instance akW:aI Tryz.prog 142:=⟨⟨Tryz.f142,Tryz.func142,by kernel_rfl,by kernel_rfl⟩⟩
instance akX:aI Tryz.prog 143:=⟨⟨Tryz.f143,Tryz.func143,by kernel_rfl,by kernel_rfl⟩⟩
instance akY:aI Tryz.prog 144:=⟨⟨Tryz.f144,Tryz.func144,by kernel_rfl,by kernel_rfl⟩⟩
instance akZ:aI Tryz.prog 149:=⟨⟨Tryz.f149,Tryz.func149,by kernel_rfl,by kernel_rfl⟩⟩
instance ak0:aI Tryz.prog 153:=⟨⟨Tryz.f153,Tryz.func153,by kernel_rfl,by kernel_rfl⟩⟩
instance ak1:aI Tryz.prog 162:=⟨⟨Tryz.f162,Tryz.func162,by kernel_rfl,by kernel_rfl⟩⟩
instance ak2:aI Tryz.prog 163:=⟨⟨Tryz.f163,Tryz.func163,by kernel_rfl,by kernel_rfl⟩⟩
instance ak3:aI Tryz.prog 164:=⟨⟨Tryz.f164,Tryz.func164,by kernel_rfl,by kernel_rfl⟩⟩
instance ak4:aI Tryz.prog 165:=⟨⟨Tryz.f165,Tryz.func165,by kernel_rfl,by kernel_rfl⟩⟩
instance ak5:aI Tryz.prog 166:=⟨⟨Tryz.f166,Tryz.func166,by kernel_rfl,by kernel_rfl⟩⟩
instance ak6:aI Tryz.prog 167:=⟨⟨Tryz.f167,Tryz.func167,by kernel_rfl,by kernel_rfl⟩⟩
instance ak7:aI Tryz.prog 168:=⟨⟨Tryz.f168,Tryz.func168,by kernel_rfl,by kernel_rfl⟩⟩
instance ak8:aI Tryz.prog 169:=⟨⟨Tryz.f169,Tryz.func169,by kernel_rfl,by kernel_rfl⟩⟩
instance ak9:aI Tryz.prog 170:=⟨⟨Tryz.f170,Tryz.func170,by kernel_rfl,by kernel_rfl⟩⟩
instance ala:aI Tryz.prog 171:=⟨⟨Tryz.f171,Tryz.func171,by kernel_rfl,by kernel_rfl⟩⟩
instance alb:aI Tryz.prog 172:=⟨⟨Tryz.f172,Tryz.func172,by kernel_rfl,by kernel_rfl⟩⟩
instance alc:aI Tryz.prog 173:=⟨⟨Tryz.f173,Tryz.func173,by kernel_rfl,by kernel_rfl⟩⟩
instance ald:aI Tryz.prog 174:=⟨⟨Tryz.f174,Tryz.func174,by kernel_rfl,by kernel_rfl⟩⟩
instance ale:aI Tryz.prog 175:=⟨⟨Tryz.f175,Tryz.func175,by kernel_rfl,by kernel_rfl⟩⟩
instance alf:aI Tryz.prog 176:=⟨⟨Tryz.f176,Tryz.func176,by kernel_rfl,by kernel_rfl⟩⟩
instance alg:aI Tryz.prog 177:=⟨⟨Tryz.f177,Tryz.func177,by kernel_rfl,by kernel_rfl⟩⟩
instance alh:aI Tryz.prog 178:=⟨⟨Tryz.f178,Tryz.func178,by kernel_rfl,by kernel_rfl⟩⟩
instance ali:aI Tryz.prog 179:=⟨⟨Tryz.f179,Tryz.func179,by kernel_rfl,by kernel_rfl⟩⟩
instance alj:aI Tryz.prog 180:=⟨⟨Tryz.f180,Tryz.func180,by kernel_rfl,by kernel_rfl⟩⟩
instance alk:aI Tryz.prog 181:=⟨⟨Tryz.f181,Tryz.func181,by kernel_rfl,by kernel_rfl⟩⟩
instance alm:aI Tryz.prog 182:=⟨⟨Tryz.f182,Tryz.func182,by kernel_rfl,by kernel_rfl⟩⟩
instance aln:aI Tryz.prog 185:=⟨⟨Tryz.f185,Tryz.func185,by kernel_rfl,by kernel_rfl⟩⟩
instance alo:aI Tryz.prog 197:=⟨⟨Tryz.f197,Tryz.func197,by kernel_rfl,by kernel_rfl⟩⟩
instance alp:aI Tryz.prog 198:=⟨⟨Tryz.f198,Tryz.func198,by kernel_rfl,by kernel_rfl⟩⟩
instance alq:aI Tryz.prog 208:=⟨⟨Tryz.f208,Tryz.func208,by kernel_rfl,by kernel_rfl⟩⟩
instance alr:aI Tryz.prog 209:=⟨⟨Tryz.f209,Tryz.func209,by kernel_rfl,by kernel_rfl⟩⟩
instance als:aI Tryz.prog 215:=⟨⟨Tryz.f215,Tryz.func215,by kernel_rfl,by kernel_rfl⟩⟩
instance alu:aI Tryz.prog 216:=⟨⟨Tryz.f216,Tryz.func216,by kernel_rfl,by kernel_rfl⟩⟩
instance alv:aI Tryz.prog 217:=⟨⟨Tryz.f217,Tryz.func217,by kernel_rfl,by kernel_rfl⟩⟩
instance alw:aI Tryz.prog 218:=⟨⟨Tryz.f218,Tryz.func218,by kernel_rfl,by kernel_rfl⟩⟩
instance alx:aI Tryz.prog 219:=⟨⟨Tryz.f219,Tryz.func219,by kernel_rfl,by kernel_rfl⟩⟩
instance aly:aI Tryz.prog 220:=⟨⟨Tryz.f220,Tryz.func220,by kernel_rfl,by kernel_rfl⟩⟩
instance alz:aI Tryz.prog 221:=⟨⟨Tryz.f221,Tryz.func221,by kernel_rfl,by kernel_rfl⟩⟩
instance alA:aI Tryz.prog 222:=⟨⟨Tryz.f222,Tryz.func222,by kernel_rfl,by kernel_rfl⟩⟩
instance alB:aI Tryz.prog 223:=⟨⟨Tryz.f223,Tryz.func223,by kernel_rfl,by kernel_rfl⟩⟩
instance alC:aI Tryz.prog 224:=⟨⟨Tryz.f224,Tryz.func224,by kernel_rfl,by kernel_rfl⟩⟩
instance alD:aI Tryz.prog 227:=⟨⟨Tryz.f227,Tryz.func227,by kernel_rfl,by kernel_rfl⟩⟩
instance alE:aI Tryz.prog 228:=⟨⟨Tryz.f228,Tryz.func228,by kernel_rfl,by kernel_rfl⟩⟩
instance alF:aI Tryz.prog 229:=⟨⟨Tryz.f229,Tryz.func229,by kernel_rfl,by kernel_rfl⟩⟩
instance alG:aI Tryz.prog 230:=⟨⟨Tryz.f230,Tryz.func230,by kernel_rfl,by kernel_rfl⟩⟩
instance alH:aI Tryz.prog 237:=⟨⟨Tryz.f237,Tryz.func237,by kernel_rfl,by kernel_rfl⟩⟩
instance alI:aI Tryz.prog 245:=⟨⟨Tryz.f245,Tryz.func245,by kernel_rfl,by kernel_rfl⟩⟩
instance alJ:aI Tryz.prog 251:=⟨⟨Tryz.f251,Tryz.func251,by kernel_rfl,by kernel_rfl⟩⟩
instance alK:aI Tryz.prog 252:=⟨⟨Tryz.f252,Tryz.func252,by kernel_rfl,by kernel_rfl⟩⟩
instance alL:aI Tryz.prog 253:=⟨⟨Tryz.f253,Tryz.func253,by kernel_rfl,by kernel_rfl⟩⟩
instance alN:aI Tryz.prog 254:=⟨⟨Tryz.f254,Tryz.func254,by kernel_rfl,by kernel_rfl⟩⟩
instance alO:aI Tryz.prog 255:=⟨⟨Tryz.f255,Tryz.func255,by kernel_rfl,by kernel_rfl⟩⟩
instance alP:aI Tryz.prog 256:=⟨⟨Tryz.f256,Tryz.func256,by kernel_rfl,by kernel_rfl⟩⟩
instance alQ:aI Tryz.prog 257:=⟨⟨Tryz.f257,Tryz.func257,by kernel_rfl,by kernel_rfl⟩⟩
instance alR:aI Tryz.prog 258:=⟨⟨Tryz.f258,Tryz.func258,by kernel_rfl,by kernel_rfl⟩⟩
instance alS:aI Tryz.prog 259:=⟨⟨Tryz.f259,Tryz.func259,by kernel_rfl,by kernel_rfl⟩⟩
instance alT:aI Tryz.prog 260:=⟨⟨Tryz.f260,Tryz.func260,by kernel_rfl,by kernel_rfl⟩⟩
instance alU:aI Tryz.prog 261:=⟨⟨Tryz.f261,Tryz.func261,by kernel_rfl,by kernel_rfl⟩⟩
instance alV:aI Tryz.prog 262:=⟨⟨Tryz.f262,Tryz.func262,by kernel_rfl,by kernel_rfl⟩⟩
instance alW:aI Tryz.prog 263:=⟨⟨Tryz.f263,Tryz.func263,by kernel_rfl,by kernel_rfl⟩⟩
instance alX:aI Tryz.prog 264:=⟨⟨Tryz.f264,Tryz.func264,by kernel_rfl,by kernel_rfl⟩⟩
instance alY:aI Tryz.prog 267:=⟨⟨Tryz.f267,Tryz.func267,by kernel_rfl,by kernel_rfl⟩⟩
instance alZ:aI Tryz.prog 268:=⟨⟨Tryz.f268,Tryz.func268,by kernel_rfl,by kernel_rfl⟩⟩
instance al0:aI Tryz.prog 269:=⟨⟨Tryz.f269,Tryz.func269,by kernel_rfl,by kernel_rfl⟩⟩
instance al1:aI Tryz.prog 297:=⟨⟨Tryz.f297,Tryz.func297,by kernel_rfl,by kernel_rfl⟩⟩
instance al2:aI Tryz.prog 298:=⟨⟨Tryz.f298,Tryz.func298,by kernel_rfl,by kernel_rfl⟩⟩
instance al3:aI Tryz.prog 299:=⟨⟨Tryz.f299,Tryz.func299,by kernel_rfl,by kernel_rfl⟩⟩
instance al4:aI Tryz.prog 300:=⟨⟨Tryz.f300,Tryz.func300,by kernel_rfl,by kernel_rfl⟩⟩
instance al5:aI Tryz.prog 301:=⟨⟨Tryz.f301,Tryz.func301,by kernel_rfl,by kernel_rfl⟩⟩
instance al6:aI Tryz.prog 302:=⟨⟨Tryz.f302,Tryz.func302,by kernel_rfl,by kernel_rfl⟩⟩
instance al7:aI Tryz.prog 303:=⟨⟨Tryz.f303,Tryz.func303,by kernel_rfl,by kernel_rfl⟩⟩
instance al8:aI Tryz.prog 304:=⟨⟨Tryz.f304,Tryz.func304,by kernel_rfl,by kernel_rfl⟩⟩
instance al9:aI Tryz.prog 305:=⟨⟨Tryz.f305,Tryz.func305,by kernel_rfl,by kernel_rfl⟩⟩
instance ama:aI Tryz.prog 306:=⟨⟨Tryz.f306,Tryz.func306,by kernel_rfl,by kernel_rfl⟩⟩
instance amb:aI Tryz.prog 307:=⟨⟨Tryz.f307,Tryz.func307,by kernel_rfl,by kernel_rfl⟩⟩
instance amc:aI Tryz.prog 308:=⟨⟨Tryz.f308,Tryz.func308,by kernel_rfl,by kernel_rfl⟩⟩
instance amd:aI Tryz.prog 309:=⟨⟨Tryz.f309,Tryz.func309,by kernel_rfl,by kernel_rfl⟩⟩
instance ame:aI Tryz.prog 310:=⟨⟨Tryz.f310,Tryz.func310,by kernel_rfl,by kernel_rfl⟩⟩
instance amf:aI Tryz.prog 311:=⟨⟨Tryz.f311,Tryz.func311,by kernel_rfl,by kernel_rfl⟩⟩
instance amg:aI Tryz.prog 312:=⟨⟨Tryz.f312,Tryz.func312,by kernel_rfl,by kernel_rfl⟩⟩
instance amh:aI Tryz.prog 313:=⟨⟨Tryz.f313,Tryz.func313,by kernel_rfl,by kernel_rfl⟩⟩
instance ami:aI Tryz.prog 314:=⟨⟨Tryz.f314,Tryz.func314,by kernel_rfl,by kernel_rfl⟩⟩
instance amj:aI Tryz.prog 315:=⟨⟨Tryz.f315,Tryz.func315,by kernel_rfl,by kernel_rfl⟩⟩
instance amk:aI Tryz.prog 326:=⟨⟨Tryz.f326,Tryz.func326,by kernel_rfl,by kernel_rfl⟩⟩
instance aml:aI Tryz.prog 327:=⟨⟨Tryz.f327,Tryz.func327,by kernel_rfl,by kernel_rfl⟩⟩
instance amm:aI Tryz.prog 328:=⟨⟨Tryz.f328,Tryz.func328,by kernel_rfl,by kernel_rfl⟩⟩
instance amn:aI Tryz.prog 329:=⟨⟨Tryz.f329,Tryz.func329,by kernel_rfl,by kernel_rfl⟩⟩
instance amo:aI Tryz.prog 330:=⟨⟨Tryz.f330,Tryz.func330,by kernel_rfl,by kernel_rfl⟩⟩
instance amp:aI Tryz.prog 331:=⟨⟨Tryz.f331,Tryz.func331,by kernel_rfl,by kernel_rfl⟩⟩
instance amq:aI Tryz.prog 332:=⟨⟨Tryz.f332,Tryz.func332,by kernel_rfl,by kernel_rfl⟩⟩
instance amr:aI Tryz.prog 333:=⟨⟨Tryz.f333,Tryz.func333,by kernel_rfl,by kernel_rfl⟩⟩
instance ams:aI Tryz.prog 334:=⟨⟨Tryz.f334,Tryz.func334,by kernel_rfl,by kernel_rfl⟩⟩
instance amt:aI Tryz.prog 335:=⟨⟨Tryz.f335,Tryz.func335,by kernel_rfl,by kernel_rfl⟩⟩
instance amu:aI Tryz.prog 336:=⟨⟨Tryz.f336,Tryz.func336,by kernel_rfl,by kernel_rfl⟩⟩
instance amv:aI Tryz.prog 340:=⟨⟨Tryz.f340,Tryz.func340,by kernel_rfl,by kernel_rfl⟩⟩
instance amw:aI Tryz.prog 341:=⟨⟨Tryz.f341,Tryz.func341,by kernel_rfl,by kernel_rfl⟩⟩
instance amx:aI Tryz.prog 342:=⟨⟨Tryz.f342,Tryz.func342,by kernel_rfl,by kernel_rfl⟩⟩
instance amy:aI Tryz.prog 343:=⟨⟨Tryz.f343,Tryz.func343,by kernel_rfl,by kernel_rfl⟩⟩
instance amz:aI Tryz.prog 344:=⟨⟨Tryz.f344,Tryz.func344,by kernel_rfl,by kernel_rfl⟩⟩
instance amA:aI Tryz.prog 345:=⟨⟨Tryz.f345,Tryz.func345,by kernel_rfl,by kernel_rfl⟩⟩
instance amB:aI Tryz.prog 346:=⟨⟨Tryz.f346,Tryz.func346,by kernel_rfl,by kernel_rfl⟩⟩
instance amC:aI Tryz.prog 347:=⟨⟨Tryz.f347,Tryz.func347,by kernel_rfl,by kernel_rfl⟩⟩
instance amD:aI Tryz.prog 348:=⟨⟨Tryz.f348,Tryz.func348,by kernel_rfl,by kernel_rfl⟩⟩
instance amE:aI Tryz.prog 349:=⟨⟨Tryz.f349,Tryz.func349,by kernel_rfl,by kernel_rfl⟩⟩
instance amF:aI Tryz.prog 350:=⟨⟨Tryz.f350,Tryz.func350,by kernel_rfl,by kernel_rfl⟩⟩
end Go.Proofs.YtkggjjnhnjjokaaGreatDoor
namespace Go.Proofs
open Go.Shelf
def Tryz.OM:Go.Shelf.Ren:=⟨fun|156=>178|165=>225|166=>226|169=>92|240=>265|241=>266|276=>316|277=>317|n=>n,fun|31=>155|9=>9|3=>3|4=>4|0=>0|20=>20|72=>172|76=>304|70=>170|37=>53|75=>303|127=>256|164=>333|5=>5|80=>176|n=>n,fun|n=>n⟩
theorem Tryz.XW:Go.Proofs.Lays.n156 Tryz.prog Tryz.OM:={
 mixed:=by kernel_rfl
 f156:=Tryz.func178.trans (congrArg some (by kernel_rfl))
 f165:=Tryz.func225.trans (congrArg some (by kernel_rfl))
 f166:=Tryz.func226.trans (congrArg some (by kernel_rfl))
 f169:=Tryz.func92.trans (congrArg some (by kernel_rfl))
 f240:=Tryz.func265.trans (congrArg some (by kernel_rfl))
 f241:=Tryz.func266.trans (congrArg some (by kernel_rfl))
 f276:=Tryz.func316.trans (congrArg some (by kernel_rfl))
 f277:=Tryz.func317.trans (congrArg some (by kernel_rfl))
 t0:=Tryz.underlying0
 a0:=Tryz.isAgg0
 z0:=Tryz.sizeOf0
 v0:=Tryz.zeroValue0
 t3:=Tryz.underlying3
 a3:=Tryz.isAgg3
 z3:=Tryz.sizeOf3
 v3:=Tryz.zeroValue3
 t4:=Tryz.underlying4
 a4:=Tryz.isAgg4
 z4:=Tryz.sizeOf4
 v4:=Tryz.zeroValue4
 t9:=Tryz.underlying9
 a9:=Tryz.isAgg9
 z9:=Tryz.sizeOf9
 v9:=Tryz.zeroValue9
 t20:=Tryz.underlying20
 a20:=Tryz.isAgg20
 z20:=Tryz.sizeOf20
 v20:=Tryz.zeroValue20
 t31:=Tryz.underlying155
 a31:=Tryz.isAgg155
 z31:=Tryz.sizeOf155
 v31:=Tryz.zeroValue155
 t37:=Tryz.underlying53
 a37:=Tryz.isAgg53
 z37:=Tryz.sizeOf53
 v37:=Tryz.zeroValue53
 t70:=Tryz.underlying170
 a70:=Tryz.isAgg170
 z70:=Tryz.sizeOf170
 v70:=Tryz.zeroValue170
 t72:=Tryz.underlying172
 a72:=Tryz.isAgg172
 z72:=Tryz.sizeOf172
 v72:=Tryz.zeroValue172
 t75:=Tryz.underlying303
 a75:=Tryz.isAgg303
 z75:=Tryz.sizeOf303
 v75:=Tryz.zeroValue303
 t76:=Tryz.underlying304
 a76:=Tryz.isAgg304
 z76:=Tryz.sizeOf304
 v76:=Tryz.zeroValue304
 t127:=Tryz.underlying256
 a127:=Tryz.isAgg256
 z127:=Tryz.sizeOf256
 v127:=Tryz.zeroValue256
 t164:=Tryz.underlying333
 a164:=Tryz.isAgg333
 z164:=Tryz.sizeOf333
 v164:=Tryz.zeroValue333}
theorem Tryz.XX:Builder.Extra Tryz.prog Tryz.OM:={
 sizeBuilder:=by kernel_rfl
 liesBuilder:=by kernel_rfl
 t5:=Tryz.underlying5
 a5:=Tryz.isAgg5
 z5:=Tryz.sizeOf5
 v5:=Tryz.zeroValue5
 infoByte:=by kernel_rfl
 cellsByte:=by kernel_rfl
 sizeByte:=by kernel_rfl
 neB5:=by decide}
open Go.RowKit in
theorem Tryz.strings_Join(bk o c:Nat)(xs:List ByteArray)(sep:ByteArray)(w:World)(EI: ∀(j:Nat) x,xs[j]? =some x->w.cell? ⟨bk,o+j,none⟩=some (.string x))(XY:bk<w.heap.size)(hN:xs.length<=140737488355328)(uw:xs.length<=c)(hlen:(Lib.join (xs.map (·.data.toList)) sep.data.toList).length<=140737488355328):
  Calls Tryz.prog 178 #[.slice (some ⟨bk,o,none⟩) xs.length c, .string sep] w fun e w'=>e= .returned (.string ⟨(Lib.join (xs.map (·.data.toList)) sep.data.toList).toArray⟩)/\Below w.heap.size w w':=Any.strings_Join Tryz.XW Tryz.XX bk o c xs sep w EI XY hN uw hlen
def Tryz.XZ:Go.Shelf.Ren:=⟨fun|137=>245|217=>270|266=>318|n=>n,fun|9=>9|5=>5|3=>3|n=>n,fun|n=>n⟩
theorem Tryz.X0:Go.Proofs.Lays.n137 Tryz.prog Tryz.XZ:={
 mixed:=by kernel_rfl
 f137:=Tryz.func245.trans (congrArg some (by kernel_rfl))
 f217:=Tryz.func270.trans (congrArg some (by kernel_rfl))
 f266:=Tryz.func318.trans (congrArg some (by kernel_rfl))
 t3:=Tryz.underlying3
 a3:=Tryz.isAgg3
 z3:=Tryz.sizeOf3
 v3:=Tryz.zeroValue3
 t5:=Tryz.underlying5
 a5:=Tryz.isAgg5
 z5:=Tryz.sizeOf5
 v5:=Tryz.zeroValue5
 t9:=Tryz.underlying9
 a9:=Tryz.isAgg9
 z9:=Tryz.sizeOf9
 v9:=Tryz.zeroValue9}
open Go.RowKit in
theorem Tryz.strings_IndexByte(s:ByteArray)(c:Int)(w:World):
  Calls Tryz.prog 245 #[.string s, .int .u8 c] w fun e w'=>e= .returned (.int .i64 (Lib.indexByte s.data.toList c.toNat.toUInt8))/\w'=w:=Any.strings_IndexByte Tryz.X0 s c w
def Tryz.amG:Go.Shelf.Ren:=⟨fun|246=>212|283=>246|284=>247|285=>248|286=>249|129=>293|317=>292|318=>294|319=>295|320=>296|337=>324|338=>325|n=>n,fun|2=>2|3=>3|9=>9|4=>4|171=>348|0=>0|53=>61|37=>53|5=>5|173=>351|212=>385|51=>26|20=>20|213=>386|46=>253|232=>440|233=>441|n=>n,fun|17=>1|18=>6|19=>7|n=>n⟩
def Tryz.amH:Go.Shelf.Ren:=⟨fun|243=>154|246=>212|283=>246|284=>247|285=>248|286=>249|129=>293|317=>292|318=>294|319=>295|320=>296|337=>324|338=>325|n=>n,fun|3=>3|9=>9|2=>2|4=>4|171=>348|0=>0|53=>61|37=>53|5=>5|173=>351|212=>385|51=>26|20=>20|213=>386|46=>253|232=>440|233=>441|n=>n,fun|17=>1|18=>6|19=>7|n=>n⟩
def Tryz.X1:Go.Shelf.Ren:=⟨fun|171=>86|243=>154|246=>212|283=>246|284=>247|285=>248|286=>249|129=>293|317=>292|318=>294|319=>295|320=>296|337=>324|338=>325|n=>n,fun|3=>3|9=>9|2=>2|4=>4|171=>348|0=>0|53=>61|37=>53|5=>5|173=>351|212=>385|51=>26|20=>20|213=>386|46=>253|232=>440|233=>441|n=>n,fun|17=>1|18=>6|19=>7|n=>n⟩
theorem Tryz.X2:Go.Proofs.LaysM.n171 Tryz.prog Tryz.X1:={
 mixed:=by kernel_rfl
 f129:=Tryz.func293.trans (congrArg some (by kernel_rfl))
 f171:=Tryz.func86.trans (congrArg some (by kernel_rfl))
 f243:=Tryz.func154.trans (congrArg some (by kernel_rfl))
 f246:=Tryz.func212.trans (congrArg some (by kernel_rfl))
 f283:=Tryz.func246.trans (congrArg some (by kernel_rfl))
 f284:=Tryz.func247.trans (congrArg some (by kernel_rfl))
 f285:=Tryz.func248.trans (congrArg some (by kernel_rfl))
 f286:=Tryz.func249.trans (congrArg some (by kernel_rfl))
 f317:=Tryz.func292.trans (congrArg some (by kernel_rfl))
 f318:=Tryz.func294.trans (congrArg some (by kernel_rfl))
 f319:=Tryz.func295.trans (congrArg some (by kernel_rfl))
 f320:=Tryz.func296.trans (congrArg some (by kernel_rfl))
 f337:=Tryz.func324.trans (congrArg some (by kernel_rfl))
 f338:=Tryz.func325.trans (congrArg some (by kernel_rfl))
 t0:=Tryz.underlying0
 a0:=Tryz.isAgg0
 z0:=Tryz.sizeOf0
 v0:=Tryz.zeroValue0
 t2:=Tryz.underlying2
 a2:=Tryz.isAgg2
 z2:=Tryz.sizeOf2
 v2:=Tryz.zeroValue2
 t3:=Tryz.underlying3
 a3:=Tryz.isAgg3
 z3:=Tryz.sizeOf3
 v3:=Tryz.zeroValue3
 t4:=Tryz.underlying4
 a4:=Tryz.isAgg4
 z4:=Tryz.sizeOf4
 v4:=Tryz.zeroValue4
 t5:=Tryz.underlying5
 a5:=Tryz.isAgg5
 z5:=Tryz.sizeOf5
 v5:=Tryz.zeroValue5
 t9:=Tryz.underlying9
 a9:=Tryz.isAgg9
 z9:=Tryz.sizeOf9
 v9:=Tryz.zeroValue9
 t20:=Tryz.underlying20
 a20:=Tryz.isAgg20
 z20:=Tryz.sizeOf20
 v20:=Tryz.zeroValue20
 t37:=Tryz.underlying53
 a37:=Tryz.isAgg53
 z37:=Tryz.sizeOf53
 v37:=Tryz.zeroValue53
 t46:=Tryz.underlying253
 a46:=Tryz.isAgg253
 z46:=Tryz.sizeOf253
 v46:=Tryz.zeroValue253
 t51:=Tryz.underlying26
 a51:=Tryz.isAgg26
 z51:=Tryz.sizeOf26
 v51:=Tryz.zeroValue26
 t53:=Tryz.underlying61
 a53:=Tryz.isAgg61
 z53:=Tryz.sizeOf61
 v53:=Tryz.zeroValue61
 t171:=Tryz.underlying348
 a171:=Tryz.isAgg348
 z171:=Tryz.sizeOf348
 v171:=Tryz.zeroValue348
 t173:=Tryz.underlying351
 a173:=Tryz.isAgg351
 z173:=Tryz.sizeOf351
 v173:=Tryz.zeroValue351
 t212:=Tryz.underlying385
 a212:=Tryz.isAgg385
 z212:=Tryz.sizeOf385
 v212:=Tryz.zeroValue385
 t213:=Tryz.underlying386
 a213:=Tryz.isAgg386
 z213:=Tryz.sizeOf386
 t232:=Tryz.underlying440
 a232:=Tryz.isAgg440
 z232:=Tryz.sizeOf440
 v232:=Tryz.zeroValue440
 t233:=Tryz.underlying441
 a233:=Tryz.isAgg441
 z233:=Tryz.sizeOf441
 v233:=Tryz.zeroValue441
 g17:=by kernel_rfl
 g18:=by kernel_rfl
 g19:=by kernel_rfl
 i0:=by kernel_rfl
 i2:=by kernel_rfl
 i3:=by kernel_rfl
 i4:=by kernel_rfl
 i5:=by kernel_rfl
 i9:=by kernel_rfl
 i20:=by kernel_rfl
 i37:=by kernel_rfl
 i46:=by kernel_rfl
 i51:=by kernel_rfl
 i53:=by kernel_rfl
 i171:=by kernel_rfl
 i173:=by kernel_rfl
 i212:=by kernel_rfl
 i232:=by kernel_rfl
 i233:=by kernel_rfl
 m17:=by kernel_rfl
 m18:=by kernel_rfl
 m19:=by kernel_rfl}
open Go.RowKit Go.Sort Go.Lib in
theorem Tryz.strconv_Itoa(n:Int)(h0: -9223372036854775808≤n)(h1:n≤9223372036854775807)(w:World)(X3:Lib.TabIs Tryz.prog w "internal/strconv.uint64pow10" .u64 Lib.pow10Tab):
  Calls Tryz.prog 86 #[.int .i64 n] w fun e w'=>e= .returned (.string ⟨(Lib.itoa n).toArray⟩)/\ ∃k os,w'=grow (w.drewN k) os:=Any.strconv_Itoa Tryz.X2 n h0 h1 w X3
def Tryz.amI:Go.Shelf.Ren:=⟨fun|219=>231|217=>270|225=>271|224=>272|267=>273|266=>318|314=>319|n=>n,fun|9=>9|3=>3|4=>4|5=>5|46=>253|146=>411|51=>26|n=>n,fun|1=>0|n=>n⟩
def Tryz.X4:Go.Shelf.Ren:=⟨fun|145=>115|220=>188|219=>231|217=>270|225=>271|224=>272|267=>273|266=>318|314=>319|n=>n,fun|9=>9|4=>4|59=>205|3=>3|5=>5|46=>253|146=>411|51=>26|n=>n,fun|1=>0|n=>n⟩
theorem Tryz.X5:Go.Proofs.Lays.n145 Tryz.prog Tryz.X4:={
 mixed:=by kernel_rfl
 f145:=Tryz.func115.trans (congrArg some (by kernel_rfl))
 f217:=Tryz.func270.trans (congrArg some (by kernel_rfl))
 f219:=Tryz.func231.trans (congrArg some (by kernel_rfl))
 f220:=Tryz.func188.trans (congrArg some (by kernel_rfl))
 f224:=Tryz.func272.trans (congrArg some (by kernel_rfl))
 f225:=Tryz.func271.trans (congrArg some (by kernel_rfl))
 f266:=Tryz.func318.trans (congrArg some (by kernel_rfl))
 f267:=Tryz.func273.trans (congrArg some (by kernel_rfl))
 f314:=Tryz.func319.trans (congrArg some (by kernel_rfl))
 t3:=Tryz.underlying3
 a3:=Tryz.isAgg3
 z3:=Tryz.sizeOf3
 v3:=Tryz.zeroValue3
 t4:=Tryz.underlying4
 a4:=Tryz.isAgg4
 z4:=Tryz.sizeOf4
 v4:=Tryz.zeroValue4
 t5:=Tryz.underlying5
 a5:=Tryz.isAgg5
 z5:=Tryz.sizeOf5
 v5:=Tryz.zeroValue5
 t9:=Tryz.underlying9
 a9:=Tryz.isAgg9
 z9:=Tryz.sizeOf9
 v9:=Tryz.zeroValue9
 t46:=Tryz.underlying253
 a46:=Tryz.isAgg253
 z46:=Tryz.sizeOf253
 v46:=Tryz.zeroValue253
 t51:=Tryz.underlying26
 a51:=Tryz.isAgg26
 z51:=Tryz.sizeOf26
 v51:=Tryz.zeroValue26
 t59:=Tryz.underlying205
 a59:=Tryz.isAgg205
 z59:=Tryz.sizeOf205
 v59:=Tryz.zeroValue205
 t146:=Tryz.underlying411
 a146:=Tryz.isAgg411
 z146:=Tryz.sizeOf411
 v146:=Tryz.zeroValue411
 g1:=by kernel_rfl}
open Go.RowKit Go.Lib in
theorem Tryz.strings_Cut(s sep:ByteArray)(m:Int)(w:World)(hs:s.size<4294967281)(hm:w.cell? ⟨0,0,none⟩=some (.int .i64 m)):
  Calls Tryz.prog 115 #[.string s, .string sep] w fun e w'=>e= .returned (.tuple #[.string ⟨(Lib.cut s.data.toList sep.data.toList).1.toArray⟩, .string ⟨(Lib.cut s.data.toList sep.data.toList).2.1.toArray⟩, .bool (Lib.cut s.data.toList sep.data.toList).2.2])/\ ∃n,w'=w.drewN n:=Any.strings_Cut Tryz.X5 s sep m w hs hm
def Tryz.amJ:Go.Shelf.Ren:=⟨fun|221=>146|268=>204|138=>205|143=>206|195=>240|197=>241|218=>242|219=>231|260=>286|217=>270|225=>271|224=>272|267=>273|266=>318|314=>319|n=>n,fun|9=>9|3=>3|31=>155|4=>4|0=>0|105=>344|21=>21|5=>5|46=>253|119=>413|139=>416|138=>415|146=>411|51=>26|n=>n,fun|1=>0|3=>2|4=>3|n=>n⟩
def Tryz.X6:Go.Shelf.Ren:=⟨fun|146=>78|221=>146|268=>204|138=>205|143=>206|195=>240|197=>241|218=>242|219=>231|260=>286|217=>270|225=>271|224=>272|267=>273|266=>318|314=>319|n=>n,fun|9=>9|31=>155|3=>3|4=>4|0=>0|105=>344|21=>21|5=>5|46=>253|119=>413|139=>416|138=>415|146=>411|51=>26|n=>n,fun|1=>0|3=>2|4=>3|n=>n⟩
theorem Tryz.X7:Go.Proofs.Lays.n146 Tryz.prog Tryz.X6:={
 mixed:=by kernel_rfl
 f138:=Tryz.func205.trans (congrArg some (by kernel_rfl))
 f143:=Tryz.func206.trans (congrArg some (by kernel_rfl))
 f146:=Tryz.func78.trans (congrArg some (by kernel_rfl))
 f195:=Tryz.func240.trans (congrArg some (by kernel_rfl))
 f197:=Tryz.func241.trans (congrArg some (by kernel_rfl))
 f217:=Tryz.func270.trans (congrArg some (by kernel_rfl))
 f218:=Tryz.func242.trans (congrArg some (by kernel_rfl))
 f219:=Tryz.func231.trans (congrArg some (by kernel_rfl))
 f221:=Tryz.func146.trans (congrArg some (by kernel_rfl))
 f224:=Tryz.func272.trans (congrArg some (by kernel_rfl))
 f225:=Tryz.func271.trans (congrArg some (by kernel_rfl))
 f260:=Tryz.func286.trans (congrArg some (by kernel_rfl))
 f266:=Tryz.func318.trans (congrArg some (by kernel_rfl))
 f267:=Tryz.func273.trans (congrArg some (by kernel_rfl))
 f268:=Tryz.func204.trans (congrArg some (by kernel_rfl))
 f314:=Tryz.func319.trans (congrArg some (by kernel_rfl))
 t0:=Tryz.underlying0
 a0:=Tryz.isAgg0
 z0:=Tryz.sizeOf0
 v0:=Tryz.zeroValue0
 t3:=Tryz.underlying3
 a3:=Tryz.isAgg3
 z3:=Tryz.sizeOf3
 v3:=Tryz.zeroValue3
 t4:=Tryz.underlying4
 a4:=Tryz.isAgg4
 z4:=Tryz.sizeOf4
 v4:=Tryz.zeroValue4
 t5:=Tryz.underlying5
 a5:=Tryz.isAgg5
 z5:=Tryz.sizeOf5
 v5:=Tryz.zeroValue5
 t9:=Tryz.underlying9
 a9:=Tryz.isAgg9
 z9:=Tryz.sizeOf9
 v9:=Tryz.zeroValue9
 t21:=Tryz.underlying21
 a21:=Tryz.isAgg21
 z21:=Tryz.sizeOf21
 v21:=Tryz.zeroValue21
 t31:=Tryz.underlying155
 a31:=Tryz.isAgg155
 z31:=Tryz.sizeOf155
 v31:=Tryz.zeroValue155
 t46:=Tryz.underlying253
 a46:=Tryz.isAgg253
 z46:=Tryz.sizeOf253
 v46:=Tryz.zeroValue253
 t51:=Tryz.underlying26
 a51:=Tryz.isAgg26
 z51:=Tryz.sizeOf26
 v51:=Tryz.zeroValue26
 t105:=Tryz.underlying344
 a105:=Tryz.isAgg344
 z105:=Tryz.sizeOf344
 v105:=Tryz.zeroValue344
 t119:=Tryz.underlying413
 a119:=Tryz.isAgg413
 z119:=Tryz.sizeOf413
 t138:=Tryz.underlying415
 a138:=Tryz.isAgg415
 z138:=Tryz.sizeOf415
 v138:=Tryz.zeroValue415
 t139:=Tryz.underlying416
 a139:=Tryz.isAgg416
 z139:=Tryz.sizeOf416
 v139:=Tryz.zeroValue416
 t146:=Tryz.underlying411
 a146:=Tryz.isAgg411
 z146:=Tryz.sizeOf411
 v146:=Tryz.zeroValue411
 g1:=by kernel_rfl
 g3:=by kernel_rfl
 g4:=by kernel_rfl}
open Go.RowKit Go.Lib in
theorem Tryz.strings_Split(s sep:ByteArray)(m:Int)(w:World)(hs:s.size<4294967281)(hm:w.cell? ⟨0,0,none⟩=some (.int .i64 m))(h1:1<=sep.size):
  Calls Tryz.prog 78 #[.string s, .string sep] w fun e w'=>
   e= .returned (.slice (some ⟨w.heap.size,0,none⟩) (Lib.countB s sep+1) (Lib.countB s sep+1))/\w'=w.alloc (.cells ((Lib.splitB sep 0 (Lib.countB s sep) s).map Value.string).toArray 9):=Any.strings_Split Tryz.X7 (by kernel_rfl) s sep m w hs hm h1
def Tryz.X8:Go.Shelf.Ren:=⟨fun|146=>78|221=>146|268=>204|138=>205|143=>206|195=>240|197=>241|218=>242|219=>231|260=>286|217=>270|225=>271|224=>272|267=>273|266=>318|314=>319|n=>n,fun|9=>9|31=>155|3=>3|4=>4|0=>0|105=>344|21=>21|5=>5|46=>253|119=>413|139=>416|138=>415|146=>411|51=>26|n=>n,fun|1=>0|3=>2|4=>3|n=>n⟩
theorem Tryz.X9:Go.Proofs.LaysM.n146 Tryz.prog Tryz.X8:={
 mixed:=by kernel_rfl
 f138:=Tryz.func205.trans (congrArg some (by kernel_rfl))
 f143:=Tryz.func206.trans (congrArg some (by kernel_rfl))
 f146:=Tryz.func78.trans (congrArg some (by kernel_rfl))
 f195:=Tryz.func240.trans (congrArg some (by kernel_rfl))
 f197:=Tryz.func241.trans (congrArg some (by kernel_rfl))
 f217:=Tryz.func270.trans (congrArg some (by kernel_rfl))
 f218:=Tryz.func242.trans (congrArg some (by kernel_rfl))
 f219:=Tryz.func231.trans (congrArg some (by kernel_rfl))
 f221:=Tryz.func146.trans (congrArg some (by kernel_rfl))
 f224:=Tryz.func272.trans (congrArg some (by kernel_rfl))
 f225:=Tryz.func271.trans (congrArg some (by kernel_rfl))
 f260:=Tryz.func286.trans (congrArg some (by kernel_rfl))
 f266:=Tryz.func318.trans (congrArg some (by kernel_rfl))
 f267:=Tryz.func273.trans (congrArg some (by kernel_rfl))
 f268:=Tryz.func204.trans (congrArg some (by kernel_rfl))
 f314:=Tryz.func319.trans (congrArg some (by kernel_rfl))
 t0:=Tryz.underlying0
 a0:=Tryz.isAgg0
 z0:=Tryz.sizeOf0
 v0:=Tryz.zeroValue0
 t3:=Tryz.underlying3
 a3:=Tryz.isAgg3
 z3:=Tryz.sizeOf3
 v3:=Tryz.zeroValue3
 t4:=Tryz.underlying4
 a4:=Tryz.isAgg4
 z4:=Tryz.sizeOf4
 v4:=Tryz.zeroValue4
 t5:=Tryz.underlying5
 a5:=Tryz.isAgg5
 z5:=Tryz.sizeOf5
 v5:=Tryz.zeroValue5
 t9:=Tryz.underlying9
 a9:=Tryz.isAgg9
 z9:=Tryz.sizeOf9
 v9:=Tryz.zeroValue9
 t21:=Tryz.underlying21
 a21:=Tryz.isAgg21
 z21:=Tryz.sizeOf21
 v21:=Tryz.zeroValue21
 t31:=Tryz.underlying155
 a31:=Tryz.isAgg155
 z31:=Tryz.sizeOf155
 v31:=Tryz.zeroValue155
 t46:=Tryz.underlying253
 a46:=Tryz.isAgg253
 z46:=Tryz.sizeOf253
 v46:=Tryz.zeroValue253
 t51:=Tryz.underlying26
 a51:=Tryz.isAgg26
 z51:=Tryz.sizeOf26
 v51:=Tryz.zeroValue26
 t105:=Tryz.underlying344
 a105:=Tryz.isAgg344
 z105:=Tryz.sizeOf344
 v105:=Tryz.zeroValue344
 t119:=Tryz.underlying413
 a119:=Tryz.isAgg413
 z119:=Tryz.sizeOf413
 t138:=Tryz.underlying415
 a138:=Tryz.isAgg415
 z138:=Tryz.sizeOf415
 v138:=Tryz.zeroValue415
 t139:=Tryz.underlying416
 a139:=Tryz.isAgg416
 z139:=Tryz.sizeOf416
 v139:=Tryz.zeroValue416
 t146:=Tryz.underlying411
 a146:=Tryz.isAgg411
 z146:=Tryz.sizeOf411
 v146:=Tryz.zeroValue411
 g1:=by kernel_rfl
 g3:=by kernel_rfl
 g4:=by kernel_rfl
 i0:=by kernel_rfl
 i3:=by kernel_rfl
 i4:=by kernel_rfl
 i5:=by kernel_rfl
 i9:=by kernel_rfl
 i21:=by kernel_rfl
 i31:=by kernel_rfl
 i46:=by kernel_rfl
 i51:=by kernel_rfl
 i105:=by kernel_rfl
 i138:=by kernel_rfl
 i139:=by kernel_rfl
 i146:=by kernel_rfl
 m1:=by kernel_rfl
 s1_3:=fun w h=>Go.Proofs.cell_of_shapedOpen_int (zero:= #[.int .i64 0]) (t:=3) h (of_decide_eq_true (by kernel_rfl)) (by kernel_rfl) rfl (by kernel_rfl) (by kernel_rfl) Tryz.underlying3
 m3:=by kernel_rfl
 m4:=by kernel_rfl}
end Go.Proofs
namespace Go.Proofs.YtkggjjnhnjjokaaGreatDoor
open Go.ax Go.Kb Go.RowKit
class qV(w:World):Prop where
 pow:Lib.TabIs Tryz.prog w "internal/strconv.uint64pow10" .u64 Lib.pow10Tab
 len: ∃m,w.cell? ⟨0,0,none⟩=some (.int .i64 m)
theorem qV.at{w0 w:World}{L:List aj}(t:qV w0)(h:Mem w0 L w):qV w:=by
 obtain⟨m,hm⟩:=t.len;have h0:(0:Nat)<w0.heap.size:=by
  rcases aqX 0 w0.heap.size with q|q
  ·
   exact q
  rw[World.cell?]at hm;rw[ar7 (show w0.heap.size<=(⟨0,0,none⟩:Addr).block by exact q)]at hm;simp at hm
 refine⟨?_,m,?_⟩
 ·
  have hv:=t.pow;unfold Lib.TabIs World.var? at hv⊢
  cases hg:Tryz.prog.globalNamed "internal/strconv.uint64pow10" with
  |none=>rw[hg]at hv;cases hv
  |some g=>
  simp only[hg,asd]at hv⊢;have Ya:g<w0.heap.size:=by
   rcases aqX g w0.heap.size with q|q
   ·
    exact q
   rw[ar7 q]at hv;cases hv
  rw[h.below.block g Ya];exact hv
 rw[h.below.cell h0];exact hm
class rS(w:World):Prop where
 len: ∃m,w.cell? ⟨0,0,none⟩=some (.int .i64 m)
instance {w:World}[t:qV w]:rS w:=⟨t.len⟩
theorem rS.at{w0 w:World}{L:List aj}(t:rS w0)(h:Mem w0 L w):rS w:=by
 obtain⟨m,hm⟩:=t.len;have h0:(0:Nat)<w0.heap.size:=by
  rcases aqX 0 w0.heap.size with q|q
  ·
   exact q
  rw[World.cell?]at hm;rw[ar7 (show w0.heap.size<=(⟨0,0,none⟩:Addr).block by exact q)]at hm;simp at hm
 exact⟨m,by rw[h.below.cell h0];exact hm⟩
theorem Yb(n:Nat):Lib.itoa (n:Int)=dec n:=by
 rw[Lib.itoa,if_neg (by omega),arN];rfl
variable {w0:World}{L:List aj}
theorem ON[t:qV w0](n:Nat)(h:n<9223372036854775808)(w:World)(hw:Mem w0 L w):Calls Tryz.prog 86 #[.int .i64 (n:Nat)] w fun e w'=>e= .returned (.string ⟨(dec n).toArray⟩)/\Mem w [] w':=by
 refine(Tryz.strconv_Itoa (n:Int) (by omega) (by omega) w (t.at hw).pow).mono ?_;rintro e w' ⟨he,k,os,rfl⟩;rw[Yb]at he;exact⟨he, .DM ⟨rfl,rfl,rfl,by show w.heap.size<=(w.heap++os).size;rw[atn];omega,fun j hj=>by show(w.heap++os)[j]? =w.heap[j]?;exact asO hj⟩⟩
instance[t:qV w0](n:Nat):cd Tryz.prog 86 w0 L [.int .i64 (n:Nat)] (.string ⟨(dec n).toArray⟩) (n<9223372036854775808):=⟨fun h w hw=>ON n h w hw⟩
instance (priority:=low)[t:qV w0](z:Int):cd Tryz.prog 86 w0 L [.int .i64 z] (.string ⟨(dec z.toNat).toArray⟩) (0<=z/\z<9223372036854775808):=⟨fun h w hw=>by
 have:=ON z.toNat (by omega) w hw;rwa [arY h.1]at this⟩
instance{s:Sv}{xs:List bD}[q:Hd w0 L s nv 1 xs](sep:bD):cd Tryz.prog 178 w0 L [s.val, .string ⟨sep.toArray⟩] (.string ⟨(th sep xs).toArray⟩) (xs≠[]/\(th sep xs).length<=140737488355328):=⟨fun hp w hw=>by
 have r:=q.h w hw;have hx:0<xs.length:=asU.2 hp.1;have gv:=r.ok.sp (by have:=r.len;have:=r.ok.le;omega);have e1:(xs.map fun x=>(⟨x.toArray⟩:ByteArray)).map (·.data.toList)=xs:=by
  rw[atT];exact(arT (fun x _=>by simp)).trans (List.map_id xs)
 have el:(xs.map fun x=>(⟨x.toArray⟩:ByteArray)).length=xs.length:=by simp
 have hc: ∀(j:Nat) x,(xs.map fun x=>(⟨x.toArray⟩:ByteArray))[j]? =some x->w.cell? ⟨s.b,s.o+j,none⟩=some (.string x):=by
  intro j x hj;rw[aq1]at hj;obtain⟨y,hy,rfl⟩:=asI.1 hj;have:=r.row j y hy 0 (by decide);simp only[ass,arP]at this;rw[rI,this];rfl
 have hb:s.b<w.heap.size:=by
  rcases aqX s.b w.heap.size with h|h
  ·
   exact h
  have:=hc 0 _ (by rw[aq1,aqR hx];rfl);rw[World.cell?,ar7 (show w.heap.size<=(⟨s.b,s.o+0,none⟩:Addr).block by exact h)]at this;simp at this
 have hj:=Tryz.strings_Join s.b s.o s.cap (xs.map fun x=>(⟨x.toArray⟩:ByteArray)) ⟨sep.toArray⟩ w hc hb (by rw[el];exact r.bd) (by rw[el];have:=r.len;have:=r.ok.le;omega) (by rw[e1];exact hp.2);rw[el]at hj;rw[Sv.ig (r.some hx),gv,r.len];refine hj.mono ?_;rintro e w' ⟨he,cU⟩;rw[e1]at he;exact⟨he, .DM cU⟩⟩
instance[t:rS w0](s:bD)(c:UInt8):cd Tryz.prog 115 w0 L [.string ⟨s.toArray⟩, .string ⟨[c].toArray⟩] (.tuple #[.string ⟨(eF c s).1.toArray⟩, .string ⟨(eF c s).2.1.toArray⟩, .bool (eF c s).2.2]) (s.length<4294967281):=⟨fun h w hw=>by
 obtain⟨m,hm⟩:=(t.at hw).len;refine(Tryz.strings_Cut ⟨s.toArray⟩ ⟨[c].toArray⟩ m w (by rw[zI];exact h) hm).mono ?_;rintro e w' ⟨he,n,rfl⟩;exact⟨he, .DM ⟨rfl,rfl,rfl,aqY _,fun _ _=>rfl⟩⟩⟩
instance(s:bD)(c:UInt8):cd Tryz.prog 245 w0 L [.string ⟨s.toArray⟩, .int .u8 (c.toNat:Nat)] (.int .i64 (Lib.indexByte s c)) True:=⟨fun _ w hw=>by
 refine(Tryz.strings_IndexByte ⟨s.toArray⟩ c.toNat w).mono ?_;rintro e w' ⟨he,rfl⟩;have e1:((c.toNat:Int)).toNat.toUInt8=c:=by simp
 rw[e1]at he;exact⟨he, .init _⟩⟩
instance[t:rS w0](s:bD)(c:UInt8):bZ Tryz.prog 78 w0 L [.string ⟨s.toArray⟩, .string ⟨[c].toArray⟩] Nat (fun b=>(⟨false,b,0,(cM c s).length,(cM c s).length,none⟩:Sv).val) (fun b=>own nv 1 ⟨false,b,0,(cM c s).length,(cM c s).length,none⟩ (cM c s)::L) (fun _=>True) (s.length<4294967281):=⟨fun h w hw=>by
 obtain⟨m,hm⟩:=(t.at hw).len;have hs:(⟨s.toArray⟩:ByteArray).size<4294967281:=by rw[zI];exact h
 have e0:(Lib.splitB ⟨[c].toArray⟩ 0 (Lib.countB ⟨s.toArray⟩ ⟨[c].toArray⟩) ⟨s.toArray⟩).map (·.data.toList)=cM c s:=N7 c s.length ⟨s.toArray⟩ (by rw[zI];exact aqY _);have el:(cM c s).length=Lib.countB ⟨s.toArray⟩ ⟨[c].toArray⟩+1:=by
  exact(Xe c ⟨s.toArray⟩).symm
 have hlen:(cM c s).length<=140737488355328:=by have:=N4 c s;omega
 refine(Tryz.strings_Split ⟨s.toArray⟩ ⟨[c].toArray⟩ m w hs hm (aqY 1)).mono ?_;rintro e w' ⟨he,rfl⟩;refine⟨w.heap.size,by rw[he,el];rfl,trivial,hw.call (E:=[_]) (vR (enc:=nv) (c:=1) (xs:=cM c s) rfl _ _ rfl (aqY _) hlen ?_ fun i x hx j hj=>?_)⟩
 ·
  have:=congrArg List.length e0;rw[arA]at this;simp[this]
 obtain rfl:j=0:=by omega
 rw[←e0,aq1]at hx;obtain⟨y,hy,rfl⟩:=asI.1 hx;simp only[ass,arP,aso,aq1,hy,arE,nv];rw[←Xa y];rfl⟩
end Go.Proofs.YtkggjjnhnjjokaaGreatDoor
namespace Go.Kb
open Go.ax
structure It where
 id:Int
 body:Sl UInt8
def pw(x:It):Array Value:= #[.int .i64 x.id,x.body.sv.val]
instance:bm pw 2:=⟨fun _=>rfl,fun x=>by
 have h1:(Value.int .i64 x.id).oneCell'=true:=rfl;simp only[pw,asJ,asP,as4,Sv.one,h1,asA]⟩
instance (x:It):cg (pw x) 0 (.int .i64 x.id):=⟨rfl⟩
instance (x:It):cg (pw x) 1 x.body.sv.val:=⟨rfl⟩
instance:Deep It where
 c:=2
 cells:=pw
 size:=bm.size
 one:=bm.one
 cF h x:=Deep.cF h x.body
 cc x:=Deep.cc x.body
 jg h x hs:=Deep.jg h x.body hs
 mono w w' x:=Deep.mono w w' x.body
instance:fZ It pw 2:=⟨rfl,fun _=>rfl⟩
variable {w0:World}{L:List aj}
instance{x:It}[q:aT w0 L x]:aT w0 L x.body:=⟨q.h⟩
instance {L R:List aj}{i:Int}{b:Sl UInt8}[k:Take L b R]:Take L (It.mk i b) R:=⟨k.h⟩
def zO(a:Sl It):List (Int×List UInt8):=a.xs.map fun x=>(x.id,x.body.xs)
end Go.Kb
namespace Go.ax
structure ou where
 X:Type
 v:X->Value
 e:X->aj
section
variable {P:Program} {l:List Oper} {Q:Exit->Act->World->Prop} {fs:List Nat} {mk:Nat->ou} {w0:World}
def uF(P:Program)(o:Oper)(ρ:Operand->Value)(m:ou):Prop:= ∀(w0 w:World) (L:List aj),Mem w0 L w-> ∃(x:m.X) (w':World),(execOp ρ o).run P w= .ok (.value (m.v x)) w'/\Mem w0 (m.e x::L) w'
def upon(P:Program)(w:World)(R:Value->World->Prop):Result Next->Prop
 | .ok (.value v) w'=>R v w'
 | .ok .skip w'=>R undef w'
 | .ok (.enter f args) w'=>w'=w/\Calls P f args w fun e pZ=> ∃v,e= .returned v/\R v pZ
 |_=>False
def rT(P:Program)(l:List Oper)(fs:List Nat)(mk:Nat->ou)(Q:Exit->Act->World->Prop)(w0:World):List Nat->Act->List aj->List aj->Prop
 |[],af,L,_=> ∀w,Mem w0 L w->Q .normal af w
 |k::ord,af,L,Lq=> ∃o,l[k]? =some o/\(if fs.contains k=true then(∀i∈ord,fs.contains (i+2000)=true-> ∃oi,l[i]? =some oi/\oi.guard=none/\uF P oi af.eval (mk i))/\(if fs.contains (k+2000)=true then
  o.guard=none/\uF P o af.eval (mk k)/\ ∀x:(mk k).X,rT P l fs mk Q w0 ord (af.put o.dst ((mk k).v x)) ((mk k).e x::L) Lq
  else
   Region.wanted o (yielded l.toArray af.tmps)=true/\(∀w,Mem w0 L w->upon P w (fun v w'=> ∃L' gw,Mem w0 L' w'/\(∀w,Mem w0 L' w->Mem w0 gw w)/\(∀w,Mem w0 gw w->Mem w0 Lq w)/\(fs.contains (k+5000)=true-> ∀w,Mem w0 L' w->Mem w0 L w)/\rT P l fs mk Q w0 ord (af.put o.dst v) L' gw) ((execOp af.eval o).run P w))/\
   (fs.contains (k+4000)=true-> ∀e w,Mem w0 (e::L) w->upon P w (fun v w'=> ∃L' gw,Mem w0 (e::L') w'/\(∀w,Mem w0 L' w->Mem w0 gw w)/\(∀w,Mem w0 gw w->Mem w0 Lq w)/\(fs.contains (k+5000)=true-> ∀w,Mem w0 L' w->Mem w0 L w)/\rT P l fs mk Q w0 ord (af.put o.dst v) L' gw) ((execOp af.eval o).run P w)))
  else∃v,(Region.wanted o (yielded l.toArray af.tmps)=true->ug P o af (Mem w0 (if fs.contains (k+1000)=true then L else Lq)) v)/\(Region.wanted o (yielded l.toArray af.tmps)=false->v=undef)/\rT P l fs mk Q w0 ord (af.put o.dst v) L Lq)
def B3(o:Oper):List Nat:=(o.after.toList.filter fun e=>Region.binds .any e).map (·.on)
def IP(l:List Oper)(fs:List Nat)(A:List (List Nat))(prev seen:List Nat)(k:Nat)(o:Oper):Bool:=
 (!fs.contains k||fs.contains (k+2000)||fs.contains (k+5000)||(prev.all fun j=> !fs.contains (j+1000)||(A.getD k []).contains j))&&
 (match o.op with| .select .. =>false|_=>true)&&
 ((B3 o).all fun j=>decide (j<k))&&
 (fs.contains (k+2000)||seen.all fun f=>(A.getD k []).contains f)&&
 ((A.getD k []).all fun f=>(B3 o).any fun j=>j==f||(A.getD j []).contains f)&&
 ((List.range l.length).all fun j=>match dQ l j with
  |none=>true
  |some d=>(!(o.looksAt l.toArray).contains d||(prev.contains j&&(B3 o).contains j&&(!fs.contains (k+2000)|| !fs.contains j)))&&(j==k||o.dst !=some d))
def uG(l:List Oper)(fs:List Nat)(A:List (List Nat)):List Nat->List Nat->List Nat->Bool
 |_,_,[]=>true
 |prev,seen,k::ord=>(match l[k]?with|none=>false|some o=>IP l fs A prev seen k o)&&(!fs.contains k||fs.contains (k+2000)||(ord.all fun j=> !fs.contains (j+2000))||(fs.contains (k+4000)&&decide ((ord.filter fun j=>fs.contains (j+2000)).length<=1)))&&uG l fs A (k::prev) (if fs.contains k then k::seen else seen) ord
def EJ(l:List Oper)(fs:List Nat)(A:List (List Nat))(ord:List Nat):Bool:=
 ((List.range l.length).all fun j=>ord.contains j)&&decide ord.Nodup&&(ord.all fun j=>decide (j<l.length))&&(fs.all fun j=>decide (j<2000))&&uG l fs A [] [] ord
def EK(l:List Oper)(fs:List Nat)(A:List (List Nat))(ord:List Nat):Bool:=
 ((List.range l.length).all fun j=>ord.contains j)&&decide ord.Nodup&&(ord.all fun j=>decide (j<l.length))&&uG l fs A [] [] ord
structure IQ(l:List Oper)(fs:List Nat)(A:List (List Nat))(prev seen:List Nat)(k:Nat)(o:Oper):Prop where
 tmp:fs.contains k=true->fs.contains (k+2000)=false->fs.contains (k+5000)=false-> ∀j∈prev,fs.contains (j+1000)=true->j∈A.getD k []
 vF: ∀cs b,o.op≠ .select cs b
 back: ∀e∈o.after,Region.binds .any e=true->e.on<k
 Yc:fs.contains (k+2000)=false-> ∀f∈seen,f∈A.getD k []
 cert: ∀f∈A.getD k [],∃e∈o.after,Region.binds .any e=true/\(e.on=f\/f∈A.getD e.on [])
 reads: ∀j d,j<l.length->dQ l j=some d->d∈o.looksAt l.toArray->j∈prev/\ ∃e∈o.after,Region.binds .any e=true/\e.on=j
 one: ∀j d,j<l.length->dQ l j=some d->j≠k->o.dst≠some d
 Yd:fs.contains (k+2000)=true-> ∀j d,j<l.length->dQ l j=some d->d∈o.looksAt l.toArray->fs.contains j=false
theorem IS{o:Oper}{j:Nat}:j∈B3 o↔ ∃e∈o.after,Region.binds .any e=true/\e.on=j:=by
 unfold B3;simp only[ar0,ari];constructor
 ·
  rintro⟨e,⟨h1,h2⟩,h3⟩;exact⟨e,by simpa using h1,h2,h3⟩
 rintro⟨e,h1,h2,h3⟩;exact⟨e,⟨by simpa using h1,h2⟩,h3⟩
theorem Ye{A:List (List Nat)}{prev seen:List Nat}{k:Nat}{o:Oper}(h:IP l fs A prev seen k o=true):IQ l fs A prev seen k o:=by
 simp only[IP,alM]at h;obtain⟨⟨⟨⟨⟨h0,h1⟩,h2⟩,h3⟩,h4⟩,h5⟩:=h;refine⟨fun hk oo Yf j hj ht=>by
  rw[hk,oo,Yf,Bool.not_true,atp,atp,atp]at h0;have:=aq8.1 h0 j hj;rw[ht]at this;simpa using this,fun cs b e=>by rw[e]at h1;simp at h1,fun e he hb=>?_,fun dS f hf=>?_,fun f hf=>?_,fun j d hj hd hl=>?_,fun j d hj hd bM=>?_,fun hk j d hj hd hl=>?_⟩
 ·
  have:=aq8.1 h2 e.on (IS.2 ⟨e,he,hb,rfl⟩);simpa using this
 ·
  rw[dS,atp]at h3;have:=aq8.1 h3 f hf;simpa using this
 ·
  have:=aq8.1 h4 f hf;obtain⟨j,hj,eA⟩:=List.any_eq_true.1 this;obtain⟨e,he,hb,rfl⟩:=IS.1 hj;exact⟨e,he,hb,by simpa using eA⟩
 ·
  have:=aq8.1 h5 j (arw.2 hj);rw[hd]at this;simp only[alM,ar4,arX]at this;rcases this.1 with h6|h6
  ·
   exact absurd hl (by simpa using h6)
  exact⟨by simpa using h6.1.1,IS.1 (by simpa using h6.1.2)⟩
 ·
  have:=aq8.1 h5 j (arw.2 hj);rw[hd]at this;simp only[alM,ar4,beq_iff_eq]at this;rcases this.2 with h6|h6
  ·
   exact absurd h6 bM
  simpa using h6
 have:=aq8.1 h5 j (arw.2 hj);rw[hd]at this;simp only[alM,ar4,arX]at this;rcases this.1 with h6|h6
 ·
  exact absurd hl (by simpa using h6)
 rcases h6.2 with h7|h7
 ·
  rw[hk]at h7;cases h7
 exact h7
theorem v8{A:List (List Nat)}: ∀(ord prev seen:List Nat),uG l fs A prev seen ord=true-> ∀(x:List Nat) (k:Nat) (y:List Nat),ord=x++k::y->
  ∃o,l[k]? =some o/\IQ l fs A (x.reverse++prev) ((x.filter fun j=>fs.contains j).reverse++seen) k o/\(fs.contains k=true->fs.contains (k+2000)=false->(∀j∈y,fs.contains (j+2000)=false)\/(fs.contains (k+4000)=true/\(y.filter fun j=>fs.contains (j+2000)).length<=1))
 |[],_,_,_,x,k,y,e=>by simp at e
 |k0::ord,prev,seen,h,x,k,y,e=>by
  simp only[uG,alM]at h
  cases x with
  |nil=>
   simp only[arJ,atw]at e;obtain⟨rfl,rfl⟩:=e
   cases ho:l[k0]?with
   |none=>rw[ho]at h;simp at h
   |some o=>
    rw[ho]at h;refine⟨o,rfl,by simpa using Ye h.1.1,fun h1 h2=>?_⟩;have h3:=h.1.2;rw[h1,h2]at h3;simp only[Bool.not_true,atp,ar4,alM,decide_eq_true_eq]at h3;refine h3.imp (fun h4 j hj=>?_) id;have:=aq8.1 h4 j hj;simpa using this
  |cons x0 x=>
   simp only[asc,atw]at e;obtain⟨rfl,rfl⟩:=e;obtain⟨o,ho,hk,hy⟩:=v8 _ _ _ h.2 x k y rfl;refine⟨o,ho,?_,hy⟩;have e1:(k0::x).reverse++prev=x.reverse++(k0::prev):=by simp
   have e2:(((k0::x).filter fun j=>fs.contains j).reverse++seen)=(x.filter fun j=>fs.contains j).reverse++(if fs.contains k0 then k0::seen else seen):=by
    cases hc:fs.contains k0 with
    |true=>
     rw[arG,if_pos hc,List.reverse_cons,aq6];rfl
    |false=>
     rw[arG,if_neg (by rw[hc];exact ar5)];rfl
   rw[e1,e2];exact hk
def px(N0 d:Nat)(v:Value)(a:Act):Prop:=a.tmps[d]? =if d<N0 then some v else none
theorem zP{N0 d:Nat}{v:Value}{a:Act}(h:a.tmps.size=N0):px N0 d v (a.put (some d) v):=by
 subst h;unfold px;simp[Act.put,arW]
def IT(P:Program)(l:List Oper)(w0:World)(N0 k:Nat)(af:Act)(Lq:List aj):Prop:=
 ∃o v,l[k]? =some o/\(∀d,o.dst=some d->px N0 d v af)/\(Region.wanted o (yielded l.toArray af.tmps)=true->ug P o af (Mem w0 Lq) v)/\(Region.wanted o (yielded l.toArray af.tmps)=false->v=undef)
def Early(l:List Oper)(fs:List Nat)(mk:Nat->ou)(N0:Nat)(hK:List Nat)(listed:Array Bool)(a:Act)(e:Nat×aj):Prop:=
 e.1∈hK/\listed.getD e.1 true=true/\fs.contains e.1=true/\fs.contains (e.1+2000)=true/\ ∃o,∃x:(mk e.1).X,l[e.1]? =some o/\e.2=(mk e.1).e x/\ ∀d,o.dst=some d->px N0 d ((mk e.1).v x) a
structure Core(P:Program)(l:List Oper)(fs:List Nat)(mk:Nat->ou)(Q:Exit->Act->World->Prop)(w0:World)(ord:List Nat)(a0:Act)(pre hK:List Nat)(af:Act)(L Lq:List aj)(E:List (Nat×aj))(listed:Array Bool)(a:Act)(w:World):Prop where
 ord:ord=pre++hK
 inv:HeadInv .any l.toArray l.length listed
 mem:Mem w0 (E.map (·.2)++L) w
 qf: ∀e∈E,Early l fs mk a0.tmps.size hK listed a e
 keys:(E.map (·.1)).Nodup
 zQ: ∀w,Mem w0 L w->Mem w0 Lq w
 xI:rT P l fs mk Q w0 hK af L Lq
 size:a.tmps.size=a0.tmps.size
 qK:af.tmps.size=a0.tmps.size
 defers:a.defers=a0.defers
 sU:af.defers=a0.defers
 sub: ∀j,j<l.length->listed.getD j true=true->j∈pre\/j∈E.map (·.1)
 fresh: ∀j∈pre,fs.contains j=true->listed.getD j true=true
 wa: ∀j∈pre,listed.getD j true=false->IT P l w0 a0.tmps.size j af (if fs.contains (j+1000)=true then L else Lq)
 done: ∀j d,j<l.length->listed.getD j true=true->j∈pre->dQ l j=some d->a.tmps[d]? =af.tmps[d]?
 rest: ∀d,(∀j,j<l.length->listed.getD j true=true->dQ l j≠some d)->a.tmps[d]? =a0.tmps[d]?
 full: ∀d,(∀j∈pre,dQ l j≠some d)->af.tmps[d]? =a0.tmps[d]?
variable {A:List (List Nat)} {ord:List Nat} {a0:Act}
theorem B4{o:Oper}(hn: ∀cs b,o.op≠ .select cs b){a b:Act}(h: ∀t∈o.looksAt l.toArray,a.tmps[t]? =b.tmps[t]?):
  execOp a.eval o=execOp b.eval o/\Region.wanted o (yielded l.toArray a.tmps)=Region.wanted o (yielded l.toArray b.tmps):=
 ⟨execOp_congr o hn (HO h),Ng h⟩
theorem OO{o:Oper}{a b:Act}{C D:World->Prop}{v:Value}(e:execOp a.eval o=execOp b.eval o)(hD: ∀w,D w->C w)(h:ug P o a C v):ug P o b D v:=fun w hw=>by
 have:=h w (hD w hw);unfold Oper.quietAt at this⊢;rw[←e];exact this
theorem zR{pre hK:List Nat}{i k N0:Nat}{af:Act}{Lq gw:List aj}{oi:Oper}{u:Value}(hB:uG l fs A [] [] ord=true)(cy:ord.Nodup)(bb: ∀j∈ord,j<l.length)(ho:ord=pre++i::hK)(xu:l[i]? =some oi)(hk:k∈pre)(hq: ∀w,Mem w0 gw w->Mem w0 Lq w)
  (h:IT P l w0 N0 k af Lq):IT P l w0 N0 k (af.put oi.dst u) gw:=by
 obtain⟨o,v,h1,h2,h3,h4⟩:=h;obtain⟨x,y,rfl⟩:=ati hk;have po:ord=x++k::(y++i::hK):=by rw[ho];simp
 obtain⟨o',py,bF,-⟩:=v8 ord [] [] hB x k _ po;have:o'=o:=by rw[h1]at py;exact(aqP py).symm
 subst this;have dD:i<l.length:=(ad2.1 xu).1;have kX:dQ l i=oi.dst:=by simp[dQ,xu]
 have nB:i≠k:=fun e=>by
  subst e;rw[po]at cy;have:=(asz.1 cy).2.1;exact(as9.1 this).1 (by simp)
 have uH:i∉x:=fun hx=>by
  rw[po]at cy;exact(asz.1 cy).2.2 i hx i (by simp) rfl
 have IU: ∀t∈o'.looksAt l.toArray,af.tmps[t]? =(af.put oi.dst u).tmps[t]? :=fun t ht=>by
  refine(jM _ _ _ _ fun e=>?_).symm;obtain⟨hp,_⟩:=bF.reads i t dD (by rw[kX];exact e) ht;rw[arL,atV]at hp;exact uH hp
 obtain⟨e1,e2⟩:=B4 bF.vF IU;refine⟨o',v,h1,fun d hd=>?_,fun hw=>OO e1 hq (h3 (by rw[e2];exact hw)),fun hw=>h4 (by rw[e2];exact hw)⟩;have:=h2 d hd;unfold px at this⊢;rw[jM _ _ _ _ fun e=>?_]
 ·
  exact this
 ·
  exact bF.one i d dD (by rw[kX];exact e) nB hd
theorem Yg{E:List (Nat×aj)}{k:Nat}(h:k∈E.map (·.1)): ∃E1 x E2,E=E1++(k,x)::E2:=by
 obtain⟨e,he,rfl⟩:=ar0.1 h;obtain⟨E1,E2,rfl⟩:=ati he;exact⟨E1,e.2,E2,rfl⟩
theorem EL(hB:uG l fs A [] [] ord=true)(cy:ord.Nodup)(bb: ∀j∈ord,j<l.length): ∀(hK pre:List Nat) (af:Act) {L Lq:List aj} {E:List (Nat×aj)} {listed:Array Bool} {a:Act} {w:World},Core P l fs mk Q w0 ord a0 pre hK af L Lq E listed a w->
  ∃Yh IV Yi L' E',Core P l fs mk Q w0 ord a0 Yh IV Yi L' Lq E' listed a w/\(IV=[]\/ ∃f r,IV=f::r/\fs.contains f=true/\f∉E'.map (·.1))
 |[],pre,af,L,_,E,_,_,_,H=>⟨pre,[],af,L,E,H, .inl rfl⟩
 |k::hK,pre,af,L,Lq,E,listed,a,w,H=>by
  have nC:k∉pre:=fun h=>by
   have pz:=cy;rw[H.ord]at pz;exact(asz.1 pz).2.2 k h k (by simp) rfl
  have iF: ∀j,j∈pre->j≠k:=fun j hj e=>nC (e▸hj);have hks:k∉hK:=fun h=>by
   have pz:=cy;rw[H.ord]at pz;exact(as9.1 (asz.1 pz).2.1).1 h
  obtain⟨o',rU,bF,-⟩:=v8 ord [] [] hB pre k hK H.ord;have wb:k<l.length:=(ad2.1 rU).1;have EM:dQ l k=o'.dst:=by simp[dQ,rU]
  cases hf:fs.contains k with
  |true=>
   by_cases hE:k∈E.map (·.1)
   ·
    obtain⟨E1,x,E2,rfl⟩:=Yg hE;obtain⟨_,fk,_,dS,oe,b,OP,hx,nD⟩:=H.qf (k,x) (by simp);simp only at fk dS OP hx nD;have e0:oe=o':=by rw[OP]at rU;exact aqP rU
    subst e0;obtain⟨o,py,hl⟩:=H.xI;rw[if_pos hf,if_pos dS]at hl;have e1:o=oe:=by rw[py]at rU;exact aqP rU
    subst e1;obtain⟨_,_,_,zS⟩:=hl;have Yj:(((E1++(k,x)::E2).map (·.2))++L).Perm (((E1++E2).map (·.2))++x::L):=by
     simp only[art,arh,aq6,asc];exact List.Perm.append_left _ (as2.symm)
    have IW:=H.keys;simp only[art,arh]at IW;have Yk: ∀e∈E1++E2,e.1≠k:=fun e he e2=>by
     obtain⟨n1,n2,n3⟩:=asz.1 IW;rcases aqZ.1 he with h|h
     ·
      exact n3 e.1 (ard h) k (by simp) e2
     ·
      exact(as9.1 n2).1 (e2▸ard h)
    refine EL hB cy bb hK (pre++[k]) (af.put o.dst ((mk k).v b)) (L:=x::L) (E:=E1++E2) ⟨by rw[H.ord];simp,H.inv,H.mem.perm Yj,fun e he=>?_,?_,fun w hw=>H.zQ w (hw.sub (arQ _ _)),by rw[hx];exact zS b,H.size,by rw[sQ];exact H.qK,H.defers,by rw[sR];exact H.sU,fun j hj hl=>?_,fun j hj rF=>?_,fun j hj hl=>?_,fun j d hj hl tl hd=>?_,H.rest,fun d hd=>?_⟩
    ·
     have hm:e∈E1++(k,x)::E2:=by
      rcases aqZ.1 he with h|h
      ·
       exact aro _ h
      ·
       exact asg _ (aq2 _ h)
     obtain⟨g1,g2⟩:=H.qf e hm;exact⟨(aqW.1 g1).resolve_left (Yk e he),g2⟩
    ·
     rw[art];exact IW.sublist (List.Sublist.append_left (arQ _ _) _)
    ·
     rcases H.sub j hj hl with h|h
     ·
      exact .inl (aro _ h)
     ·
      simp only[art,arh,aqZ,aqW]at h;rcases h with h|h|h
      ·
       exact .inr (by simp only[art,aqZ];exact .inl h)
      ·
       exact .inl (by rw[h];simp)
      ·
       exact .inr (by simp only[art,aqZ];exact .inr h)
    ·
     rcases aqZ.1 hj with h|h
     ·
      exact H.fresh j h rF
     ·
      obtain rfl:=arp.1 h;exact fk
    ·
     rcases aqZ.1 hj with h|h
     ·
      have hp:=H.wa j h hl
      cases xJ:fs.contains (j+1000)with
      |true=>
       rw[xJ]at hp;simp only[if_true]at hp⊢;exact zR hB cy bb H.ord py h (fun w hw=>hw.sub (arQ _ _)) hp
      |false=>
       rw[xJ]at hp;simp only[arv,if_false]at hp⊢;exact zR hB cy bb H.ord py h (fun _ h=>h) hp
     ·
      obtain rfl:=arp.1 h;rw[fk]at hl;cases hl
    ·
     rcases aqZ.1 tl with h|h
     ·
      rw[jM _ _ _ _ (bF.one j d hj hd (iF j h))];exact H.done j d hj hl h hd
     ·
      obtain rfl:=arp.1 h;rw[EM]at hd;have h3:=nD d hd;rw[hd];have h4:px a0.tmps.size d ((mk j).v b) (af.put (some d) ((mk j).v b)):=zP H.qK;unfold px at h3 h4;rw[h3,h4]
    ·
     rw[jM _ _ _ _ (by have:=hd k (by simp);rwa [EM]at this)];exact H.full d fun j hj=>hd j (aro _ hj)
   ·
    exact⟨pre,k::hK,af,L,E,H, .inr ⟨k,hK,rfl,hf,hE⟩⟩
  |false=>
   obtain⟨o,py,hl⟩:=H.xI;rw[if_neg (by rw[hf];exact ar5)]at hl;obtain⟨v,h1,h2,h3⟩:=hl;have:o'=o:=by rw[py]at rU;exact(aqP rU).symm
   subst this;have IU: ∀t∈o'.looksAt l.toArray,af.tmps[t]? =(af.put o'.dst v).tmps[t]? :=fun t ht=>by
    refine(jM _ _ _ _ fun e=>?_).symm;obtain⟨hp,_⟩:=bF.reads k t wb (by rw[EM];exact e) ht;rw[arL,atV]at hp;exact nC hp
   obtain⟨e1,e2⟩:=B4 bF.vF IU;refine EL hB cy bb hK (pre++[k]) (af.put o'.dst v) ⟨by rw[H.ord];simp,H.inv,H.mem,fun e he=>?_,H.keys,H.zQ,h3,H.size,by rw[sQ];exact H.qK,H.defers,by rw[sR];exact H.sU,fun j hj hl=>(H.sub j hj hl).imp_left fun h=>aro _ h,fun j hj rF=>?_,fun j hj hl=>?_,fun j d hj hl tl hd=>?_,H.rest,fun d hd=>?_⟩
   ·
    obtain⟨g1,g2,g3,g4⟩:=H.qf e he;exact⟨(aqW.1 g1).resolve_left (fun e2=>by rw[e2,hf]at g3;cases g3),g2,g3,g4⟩
   ·
    rcases aqZ.1 hj with h|h
    ·
     exact H.fresh j h rF
    ·
     obtain rfl:=arp.1 h;rw[hf]at rF;cases rF
   ·
    rcases aqZ.1 hj with h|h
    ·
     exact zR hB cy bb H.ord py h (fun _ h=>h) (H.wa j h hl)
    ·
     obtain rfl:=arp.1 h;refine⟨o',v,py,fun d hd=>by rw[hd];exact zP H.qK,fun hw=>OO e1 (fun _ h=>h) (h1 (by rw[e2];exact hw)),fun hw=>h2 (by rw[e2];exact hw)⟩
   ·
    rcases aqZ.1 tl with h|h
    ·
     rw[jM _ _ _ _ (bF.one j d hj hd (iF j h))];exact H.done j d hj hl h hd
    ·
     obtain rfl:=arp.1 h;rcases H.sub j hj hl with h5|h5
     ·
      exact absurd h5 nC
     ·
      obtain⟨e,he,Ym⟩:=ar0.1 h5;obtain⟨_,_,g3,_⟩:=H.qf e he;rw[Ym,hf]at g3;cases g3
   ·
    rw[jM _ _ _ _ (by have:=hd k (by simp);rwa [EM]at this)];exact H.full d fun j hj=>hd j (aro _ hj)
theorem OQ{x p1 y y':List Nat}{i:Nat}(hn:(p1++i::y').Nodup)(h:x++i::y=p1++i::y'):x=p1:=by
 induction x generalizing p1 with
 |nil=>
  cases p1 with
  |nil=>rfl
  |cons q p1=>
   simp only[arJ,asc,atw]at h;obtain⟨rfl,_⟩:=h;exact absurd (by simp) (as9.1 hn).1
 |cons c x ih=>
  cases p1 with
  |nil=>
   simp only[arJ,asc,atw]at h;obtain⟨rfl,h2⟩:=h;rw[←h2]at hn;exact absurd (by simp) (as9.1 hn).1
  |cons q p1=>
   simp only[asc,atw]at h;obtain⟨rfl,h2⟩:=h;rw[ih (as9.1 hn).2 h2]
theorem OR{listed:Array Bool}(hB:uG l fs A [] [] ord=true)(ic: ∀j,j<l.length->j∈ord)(inv:HeadInv .any l.toArray l.length listed): ∀(k:Nat) (o:Oper),l[k]? =some o->(∀e∈o.after,Region.binds .any e=true->listed.getD e.on false=true)->
  ∀f∈A.getD k [],listed.getD f false=true:=by
 intro k
 induction k using Nat.strongRecOn with
 |_ k ih=>
  intro o py hd f hf;obtain⟨x,y,hx⟩:=ati (ic k (ad2.1 py).1);obtain⟨o',rU,bF,-⟩:=v8 ord [] [] hB x k y hx;have:o'=o:=by rw[py]at rU;exact(aqP rU).symm
  subst this;obtain⟨e,he,hb,h⟩:=bF.cert f hf;have hl:=hd e he hb;rcases h with rfl|h
  ·
   exact hl
  ·
   have bb:=bF.back e he hb;have EN:e.on<l.length:=by have:=(ad2.1 py).1;omega
   exact ih e.on bb l[e.on] (by simp[EN]) (inv.closed e.on _ (by simp[EN]) hl) f h
theorem EO{listed:Array Bool}{i:Nat}(hi:i<listed.size)(h:listed.getD i false=true):listed.getD i true=true:=by
 simp[hi]at h⊢;exact h
theorem EP(hB:uG l fs A [] [] ord=true)(cy:ord.Nodup)(bb: ∀j∈ord,j<l.length)(ic: ∀j,j<l.length->j∈ord)(zT: ∀k,k<l.length->fs.contains k=false->fs.contains (k+2000)=false):
  ∀(m:Nat) (pre hK:List Nat) (af:Act) (L Lq:List aj) (E:List (Nat×aj)) (listed:Array Bool) (a:Act) (w:World),left l.length listed=m->Core P l fs mk Q w0 ord a0 pre hK af L Lq E listed a w->wpAny P .any l.toArray Q m listed a w
 |0,IX,IY,IZ,L0,Lq,E0,listed,a,w,hm,H0=>by
  obtain⟨pre,hK,af,L,E,H,I0⟩:=EL hB cy bb IY IX IZ H0;have iG: ∀j,j<l.length->listed.getD j true=true:=fun j hj=>by
   cases h:listed.getD j true with
   |true=>rfl
   |false=>
    have:j∈(List.range l.length).filter fun i=> !listed.getD i true:=ari.2 ⟨List.mem_range.2 hj,by rw[h];rfl⟩;rw[arb.1 hm]at this
    cases this
  have hr:Region.ready .any l.toArray listed=[]:=by
   refine List.eq_nil_iff_forall_not_mem.2 fun i hi=>?_;obtain⟨h1,o,h2,_⟩:=mem_ready.1 hi;rw[iG i (by have:=(asB.1 h2).1;simpa using this)]at h1;cases h1
  have I1:hK=[]:=by
   rcases I0 with h|⟨k,r,hs,_,hE⟩
   ·
    exact h
   ·
    exfalso;have hk:k∈ord:=by rw[H.ord,hs];simp
    rcases H.sub k (bb k hk) (iG k (bb k hk))with this|this
    ·
     have pz:=cy;rw[H.ord,hs]at pz;exact absurd rfl ((asz.1 pz).2.2 k this k (by simp))
    ·
     exact hE this
  have hE:E=[]:=List.eq_nil_iff_forall_not_mem.2 fun e he=>by
   have:=(H.qf e he).1;rw[I1]at this;cases this
  have zS:=H.xI;rw[I1]at zS;have I2:=H.ord;rw[I1,arL]at I2;have e1:a=af:=by
   have:a.tmps=af.tmps:=by
    apply asv;intro d
    by_cases hw: ∃j,j<l.length/\dQ l j=some d
    ·
     obtain⟨j,hj,hd⟩:=hw;exact H.done j d hj (iG j hj) (by rw[←I2];exact ic j hj) hd
    ·
     have h1: ∀j,j<l.length->dQ l j≠some d:=fun j hj hd=>hw ⟨j,hj,hd⟩;rw[H.rest d fun j hj _=>h1 j hj,H.full d fun j hj=>h1 j (bb j (by rw[I2];exact hj))]
   have h2:a.defers=af.defers:=by rw[H.defers,H.sU]
   cases a;cases af
   simp_all
  subst e1;have kg:=H.mem;rw[hE]at kg;exact⟨hr,zS w (by simpa using kg)⟩
 |m+1,IX,IY,IZ,L0,Lq,E0,listed,a,w,hm,H0=>by
  obtain⟨pre,hK,af,L,E,H,I0⟩:=EL hB cy bb IY IX IZ H0;have OS:Mem w0 L w:=H.mem.sub (List.sublist_append_right _ _);obtain⟨i0,By,DW,Bz⟩: ∃i,i<l.length/\listed.getD i true=false/\ ∀j,j<i->listed.getD j true=true:=by
   have bM: ∃i,i<l.length/\listed.getD i true=false:=by
    cases hf:(List.range l.length).filter fun i=> !listed.getD i true with
    |nil=>rw[left,hf]at hm;cases hm
    |cons i r=>
     have:i∈(List.range l.length).filter fun i=> !listed.getD i true:=by rw[hf];simp
     obtain⟨h1,h2⟩:=ari.1 this;exact⟨i,arw.1 h1,by simpa using h2⟩
   obtain⟨i,h1,h2⟩:=bM
   induction i using Nat.strongRecOn with
   |_ i ih=>
    by_cases h: ∃j,j<i/\listed.getD j true=false
    ·
     obtain⟨j,hj,eA⟩:=h;exact ih j hj (by omega) eA
    ·
     refine⟨i,h1,h2,fun j hj=>?_⟩
     cases hh:listed.getD j true with
     |true=>rfl
     |false=>exact absurd ⟨j,hj,hh⟩ h
  have eZ:listed.size=l.length:=by simpa using H.inv.size
  have ok: ∀k,k<l.length-> ∃x y o,ord=x++k::y/\l[k]? =some o/\IQ l fs A (x.reverse++[]) ((x.filter fun j=>fs.contains j).reverse++[]) k o:=fun k hk=>by
   obtain⟨x,y,hx⟩:=ati (ic k hk);obtain⟨o,ho,bF,-⟩:=v8 ord [] [] hB x k y hx;exact⟨x,y,o,hx,ho,bF⟩
  have BA:i0∈Region.ready .any l.toArray listed:=by
   obtain⟨x,y,o,_,ho,bF⟩:=ok i0 By;refine mem_ready.2 ⟨DW,o,by simpa using ho,fun e he hb=>?_⟩;have h1:=bF.back e he hb;have h2:=Bz e.on h1;have h3:e.on<listed.size:=by omega
   simp[h3]at h2⊢;exact h2
  refine⟨fun h=>(by rw[h]at BA;cases BA),fun i hi=>?_⟩;obtain⟨iF,o',po,qL⟩:=mem_ready.1 hi;have uI:i<l.length:=by have:=(asB.1 po).1;simpa using this
  obtain⟨x,y,o,hx,ho,bF⟩:=ok i uI;have:o'=o:=by simpa[ho]using po.symm
  subst this;have sV:left l.length (listed.setIfInBounds i true)=m:=by have:=Nh uI iF;omega
  have kX:dQ l i=o'.dst:=by simp[dQ,ho]
  have hO: ∀j,j≠i->(listed.setIfInBounds i true).getD j true=listed.getD j true:=fun j cw=>getD_set_ne true (Ne.symm cw);have p0:(listed.setIfInBounds i true).getD i true=true:=by simp[show i<listed.size by omega]
  have tm: ∀j d,j<l.length->dQ l j=some d->j≠i->o'.dst≠some d:=bF.one;have OT:(∀j∈x,j∈pre)-> ∀t∈o'.looksAt l.toArray,a.tmps[t]? =af.tmps[t]? :=fun kD t ht=>by
   by_cases hw: ∃j,j<l.length/\dQ l j=some t
   ·
    obtain⟨j,hj,hd⟩:=hw;obtain⟨n9,e,he,hb,fJ⟩:=bF.reads j t hj hd ht;have hl:=qL e he hb;rw[fJ]at hl;rw[arL,atV]at n9;exact H.done j t hj (EO (by omega) hl) (kD j n9) hd
   ·
    have h1: ∀j,j<l.length->dQ l j≠some t:=fun j hj hd=>hw ⟨j,hj,hd⟩;rw[H.rest t fun j hj _=>h1 j hj,H.full t fun j hj=>h1 j (bb j (by rw[H.ord];exact aro _ hj))]
  by_cases rV:i∈pre
  ·
   have kD: ∀j∈x,j∈pre:=fun j hj=>by
    obtain⟨p1,p2,hp⟩:=ati rV;have h1:=H.ord;rw[hp,hx,aq6,asc]at h1;have B5:=cy;rw[hx]at B5;have h2:x=p1:=OQ (h1▸B5) h1;rw[hp,←h2];exact aro _ hj
   obtain⟨ee,ew⟩:=B4 bF.vF (OT kD);obtain⟨op,v,cx,Yn,ER,Yo⟩:=H.wa i rV iF;have:op=o':=by rw[ho]at cx;exact(aqP cx).symm
   subst this;have jN:fs.contains i=false:=by
    cases h:fs.contains i with
    |false=>rfl
    |true=>have:=H.fresh i rV h;rw[iF]at this;cases this
   have next: ∀w',Mem w [] w'->wpAny P .any l.toArray Q m (listed.setIfInBounds i true) (a.put op.dst v) w':=fun w' gp=>by
    refine EP hB cy bb ic zT m pre hK af L Lq E _ _ w' sV ⟨H.ord,H.inv.set hi uI,by simpa using H.mem.call gp,fun e he=>?_,H.keys,H.zQ,H.xI,by rw[sQ];exact H.size,H.qK,by rw[sR];exact H.defers,H.sU,fun j hj hl=>?_,fun j hj hf=>?_,fun j hj hl=>?_,fun j d hj hl tl hd=>?_,fun d hd=>?_,H.full⟩
    ·
     obtain⟨g1,g2,g3,g4,oe,b,g5,g7,g8⟩:=H.qf e he;have B6:e.1≠i:=fun e2=>by
      have pz:=cy;rw[H.ord]at pz;exact(asz.1 pz).2.2 i rV e.1 g1 e2.symm
     refine⟨g1,by rw[hO _ B6];exact g2,g3,g4,oe,b,g5,g7,fun d hd=>?_⟩;have:=g8 d hd;unfold px at this⊢;rw[jM _ _ _ _ (tm e.1 d (ad2.1 g5).1 (by simp[dQ,g5,hd]) B6)];exact this
    ·
     by_cases cw:j=i
     ·
      subst cw;exact .inl rV
     ·
      exact H.sub j hj (by rw[←hO j cw];exact hl)
    ·
     rw[hO j (fun e=>by subst e;rw[jN]at hf;cases hf)];exact H.fresh j hj hf
    ·
     exact H.wa j hj (by rw[←hO j (fun e=>by subst e;rw[p0]at hl;cases hl)];exact hl)
    ·
     by_cases cw:j=i
     ·
      subst cw;rw[kX]at hd;have h2:=Yn d hd;rw[hd];have h3:px a0.tmps.size d v (a.put (some d) v):=zP H.size;unfold px at h2 h3;rw[h2,h3]
     ·
      rw[hO j cw]at hl;rw[jM _ _ _ _ (tm j d hj hd cw)];exact H.done j d hj hl tl hd
    ·
     have h1:op.dst≠some d:=by
      have:=hd i uI p0;rwa [kX]at this
     rw[jM _ _ _ _ h1];refine H.rest d fun j hj hl=>?_
     by_cases cw:j=i
     ·
      subst cw;rw[kX];exact h1
     ·
      exact hd j hj (by rw[hO j cw];exact hl)
   unfold wpOp;simp only[po];rw[ew];split
   ·
    rename_i qM;have h1:=ER qM w (by
     split
     ·
      exact OS
     ·
      exact H.zQ w OS)
    refine .inl ?_;unfold Oper.wp;rw[ee];unfold Oper.quietAt at h1;generalize(execOp af.eval op).run P w=r at h1;unfold Oper.quietUpon at h1;split at h1
    ·
     obtain⟨rfl,rfl⟩:=h1;exact next _ (Mem.init _)
    ·
     obtain⟨rfl,e⟩:=h1;rw[e]at next;exact next _ (Mem.init _)
    ·
     obtain⟨rfl,ui⟩:=h1;exact ui.mono fun e pZ ⟨he,hm⟩=>by subst he;exact next _ hm
    ·
     exact h1.elim
   ·
    rename_i qM;have:=Yo (by simpa using qM);rw[this]at next;exact next w (Mem.init _)
  ·
   have I3:i∈hK:=by
    have:=ic i uI;rw[H.ord]at this;exact(aqZ.1 this).resolve_left rV
   rcases I0 with rfl|⟨f,r,rfl,qg,B7⟩
   ·
    cases I3
   have Yp: ∀(v:Value) (j d:Nat),j<l.length->(listed.setIfInBounds i true).getD j true=true->j∈pre->dQ l j=some d->(a.put o'.dst v).tmps[d]? =af.tmps[d]? :=fun v j d hj hl tl hd=>by
    have cw:j≠i:=fun e=>rV (e▸tl);rw[hO j cw]at hl;rw[jM _ _ _ _ (tm j d hj hd cw)];exact H.done j d hj hl tl hd
   have ES: ∀(v:Value) (d:Nat),(∀j,j<l.length->(listed.setIfInBounds i true).getD j true=true->dQ l j≠some d)->(a.put o'.dst v).tmps[d]? =a0.tmps[d]? :=fun v d hd=>by
    have h1:o'.dst≠some d:=by
     have:=hd i uI p0;rwa [kX]at this
    rw[jM _ _ _ _ h1];refine H.rest d fun j hj hl=>?_
    by_cases cw:j=i
    ·
     subst cw;rw[kX];exact h1
    ·
     exact hd j hj (by rw[hO j cw];exact hl)
   have I4:i∉E.map (·.1):=fun h=>by
    obtain⟨e,he,rfl⟩:=ar0.1 h;have:=(H.qf e he).2.1;rw[iF]at this;cases this
   have OU: ∀(v:Value),∀e∈E,Early l fs mk a0.tmps.size (f::r) (listed.setIfInBounds i true) (a.put o'.dst v) e:=fun v e he=>by
    obtain⟨g1,g2,g3,g4,oe,b,g5,g7,g8⟩:=H.qf e he;have B6:e.1≠i:=fun e2=>I4 (e2▸ard he);refine⟨g1,by rw[hO _ B6];exact g2,g3,g4,oe,b,g5,g7,fun d hd=>?_⟩;have:=g8 d hd;unfold px at this⊢;rw[jM _ _ _ _ (tm e.1 d (ad2.1 g5).1 (by simp[dQ,g5,hd]) B6)];exact this
   by_cases OV:i=f
   ·
    subst OV;have kD: ∀j∈x,j∈pre:=fun j hj=>by
     have h1:=H.ord;rw[hx]at h1;have B5:=cy;rw[hx]at B5;have h2:x=pre:=OQ (h1▸B5) h1;rw[←h2];exact hj
    obtain⟨ee,ew⟩:=B4 bF.vF (OT kD);obtain⟨of,qN,hl⟩:=H.xI;have:of=o':=by rw[ho]at qN;exact(aqP qN).symm
    subst this;rw[if_pos qg]at hl;replace hl:=hl.2;have next: ∀v w' E' L' gw,E'=E->(∀e∈E,e.1∈r)->Mem w0 (E'.map (·.2)++L') w'->(∀w,Mem w0 L' w->Mem w0 gw w)->(∀w,Mem w0 gw w->Mem w0 Lq w)->(fs.contains (i+2000)=true\/fs.contains (i+5000)=true-> ∀w,Mem w0 L' w->Mem w0 L w)->rT P l fs mk Q w0 r (af.put of.dst v) L' gw->wpAny P .any l.toArray Q m (listed.setIfInBounds i true) (a.put of.dst v) w':=fun v w' E' L' gw xK xL g1 g2 g3 OW g4=>by
     subst xK;refine EP hB cy bb ic zT m (pre++[i]) r (af.put of.dst v) L' gw E' _ _ w' sV ⟨by rw[H.ord];simp,H.inv.set hi uI,g1,fun e he=>?_,H.keys,g2,g4,by rw[sQ];exact H.size,by rw[sQ];exact H.qK,by rw[sR];exact H.defers,by rw[sR];exact H.sU,fun j hj nE=>?_,fun j hj hf=>?_,fun j hj nE=>?_,fun j d hj nE tl hd=>?_,ES v,fun d hd=>?_⟩
     ·
      obtain⟨g1',Yq⟩:=OU v e he;exact⟨xL e he,Yq⟩
     ·
      by_cases cw:j=i
      ·
       subst cw;exact .inl (by simp)
      ·
       exact(H.sub j hj (by rw[←hO j cw];exact nE)).imp_left fun h=>aro _ h
     ·
      rcases aqZ.1 hj with h|h
      ·
       by_cases cw:j=i
       ·
        subst cw;exact p0
       ·
        rw[hO j cw];exact H.fresh j h hf
      ·
       obtain rfl:=arp.1 h;exact p0
     ·
      rcases aqZ.1 hj with h|h
      ·
       have cw:j≠i:=fun e=>rV (e▸h)
       cases xJ:fs.contains (j+1000)with
       |true=>
        cases qh:fs.contains (i+2000)with
        |true=>
         have hp:=H.wa j h (by rw[←hO j cw];exact nE);rw[xJ]at hp;simp only[if_true]at hp⊢;exact zR hB cy bb H.ord ho h (OW (.inl qh)) hp
        |false=>
         cases h5:fs.contains (i+5000)with
         |true=>
          have hp:=H.wa j h (by rw[←hO j cw];exact nE);rw[xJ]at hp;simp only[if_true]at hp⊢;exact zR hB cy bb H.ord ho h (OW (.inr h5)) hp
         |false=>
          exfalso;obtain⟨oi,vH,ET,-⟩:=v8 ord [] [] hB pre i r H.ord;have e1:oi=of:=by rw[ho]at vH;exact(aqP vH).symm
          subst e1;have Yr:=ET.tmp qg qh h5 j (by rw[arL,atV];exact h) xJ;have iO:=OR hB ic H.inv i oi ho qL j Yr;have Ys:j∈ord:=by rw[H.ord];exact aro _ h
          have:=EO (by have:=bb j Ys;omega) iO;rw[hO j cw]at nE;rw[this]at nE;cases nE
       |false=>
        have hp:=H.wa j h (by rw[←hO j cw];exact nE);rw[xJ]at hp;simp only[arv,if_false]at hp⊢;exact zR hB cy bb H.ord ho h g3 hp
      ·
       obtain rfl:=arp.1 h;rw[p0]at nE;cases nE
     ·
      rcases aqZ.1 tl with h|h
      ·
       have cw:j≠i:=fun e=>rV (e▸h);rw[jM _ _ _ _ (tm j d hj hd cw),jM _ _ _ _ (tm j d hj hd cw)];rw[hO j cw]at nE;exact H.done j d hj nE h hd
      ·
       obtain rfl:=arp.1 h;rw[kX]at hd;rw[hd];have h3:px a0.tmps.size d v (a.put (some d) v):=zP H.size;have h4:px a0.tmps.size d v (af.put (some d) v):=zP H.qK;unfold px at h3 h4;rw[h3,h4]
     ·
      have h1:of.dst≠some d:=by
       have:=hd i (by simp);rwa [kX]at this
      rw[jM _ _ _ _ h1];exact H.full d fun j hj=>hd j (aro _ hj)
    have xL: ∀e∈E,e.1∈r:=fun e he=>by
     have:=(H.qf e he).1;exact(aqW.1 this).resolve_left fun e2=>I4 (e2▸ard he)
    cases qh:fs.contains (i+2000)with
    |true=>
     rw[if_pos qh]at hl;obtain⟨hg,I5,zS⟩:=hl;obtain⟨mx,w',gq,I6⟩:=I5 w0 w (E.map (·.2)++L) H.mem;unfold wpOp;simp only[po];rw[if_pos (by simp[Region.wanted,hg])];refine .inl ?_;unfold Oper.wp;rw[ee,gq];refine next _ _ E ((mk i).e mx::L) Lq rfl xL ?_ (fun w hw=>H.zQ w (hw.sub (arQ _ _))) (fun _ h=>h) (fun _ w hw=>hw.sub (arQ _ _)) (zS _);exact I6.perm (as2.symm)
    |false=>
     rw[if_neg (by rw[qh];exact ar5)]at hl;obtain⟨hg,gq,Yt⟩:=hl;have EU:E=[]\/ ∃x,E=[x]/\fs.contains (i+4000)=true:=by
      obtain⟨oi,vH,ET,Yu⟩:=v8 ord [] [] hB pre i r H.ord;rcases Yu qg qh with h|⟨h4,h5⟩
      ·
       refine .inl (List.eq_nil_iff_forall_not_mem.2 fun e he=>?_);have h1:=h e.1 (xL e he);rw[(H.qf e he).2.2.2.1]at h1;cases h1
      ·
       rcases xK:E with _|⟨x,_|⟨y,E'⟩⟩
       ·
        exact .inl rfl
       ·
        exact .inr ⟨x,rfl,h4⟩
       ·
        exfalso;have m1:x.1∈r.filter fun j=>fs.contains (j+2000):=ari.2 ⟨xL x (by rw[xK];simp),(H.qf x (by rw[xK];simp)).2.2.2.1⟩;have m2:y.1∈r.filter fun j=>fs.contains (j+2000):=ari.2 ⟨xL y (by rw[xK];simp),(H.qf y (by rw[xK];simp)).2.2.2.1⟩;have OX:=H.keys;rw[xK]at OX;have bM:x.1≠y.1:=fun e=>(as9.1 OX).1 (by simp[e]);rcases eO:(r.filter fun j=>fs.contains (j+2000))with _|⟨z,_|⟨z2,fl⟩⟩
        ·
         rw[eO]at m1;cases m1
        ·
         rw[eO,arp]at m1 m2;exact bM (m1.trans m2.symm)
        ·
         rw[eO]at h5;simp at h5
     have h1:upon P w (fun v w'=> ∃L' gw,Mem w0 (E.map (·.2)++L') w'/\(∀w,Mem w0 L' w->Mem w0 gw w)/\(∀w,Mem w0 gw w->Mem w0 Lq w)/\(fs.contains (i+5000)=true-> ∀w,Mem w0 L' w->Mem w0 L w)/\rT P l fs mk Q w0 r (af.put of.dst v) L' gw) ((execOp af.eval of).run P w):=by
      have uJ:=H.mem;rcases EU with hE|⟨x,hE,h4⟩
      ·
       rw[hE]at uJ⊢;exact gq w (by simpa using uJ)
      ·
       rw[hE]at uJ⊢;exact Yt h4 x.2 w (by simpa using uJ)
     have I7: ∀v w',(∃L' gw,Mem w0 (E.map (·.2)++L') w'/\(∀w,Mem w0 L' w->Mem w0 gw w)/\(∀w,Mem w0 gw w->Mem w0 Lq w)/\(fs.contains (i+5000)=true-> ∀w,Mem w0 L' w->Mem w0 L w)/\rT P l fs mk Q w0 r (af.put of.dst v) L' gw)->wpAny P .any l.toArray Q m (listed.setIfInBounds i true) (a.put of.dst v) w':=fun v w' ⟨L',gw,g1,g2,g3,g5,g4⟩=>
      next v w' E L' gw rfl xL g1 g2 g3 (fun h=>h.elim (fun h=>by rw[qh]at h;cases h) g5) g4
     unfold wpOp;simp only[po];rw[if_pos (by rw[ew];exact hg)];refine .inl ?_;unfold Oper.wp;rw[ee];generalize(execOp af.eval of).run P w=r' at h1;unfold upon at h1;split at h1
     ·
      exact I7 _ _ h1
     ·
      exact I7 _ _ h1
     ·
      obtain⟨rfl,ui⟩:=h1;exact ui.mono fun e pZ ⟨u,he,hR⟩=>by subst he;exact I7 u _ hR
     ·
      exact h1.elim
   ·
    have BB:i∈r:=(aqW.1 I3).resolve_left OV
    cases qh:fs.contains (i+2000)with
    |false=>
     exfalso;obtain⟨r1,r2,rfl⟩:=ati BB;have qi:ord=(pre++f::r1)++i::r2:=by rw[H.ord];simp
     obtain⟨oi,vH,ET,-⟩:=v8 ord [] [] hB _ i r2 qi;have e1:oi=o':=by rw[ho]at vH;exact(aqP vH).symm
     subst e1;have B8:=ET.Yc qh f (by
      rw[arL,atV,ari];exact⟨by simp,qg⟩)
     have eO:=OR hB ic H.inv i oi ho qL f B8;have rF:f∈ord:=by rw[H.ord];simp
     rcases H.sub f (bb f rF) (EO (by have:=bb f rF;omega) eO)with uf|uf
     ·
      have pz:=cy;rw[H.ord]at pz;exact(asz.1 pz).2.2 f uf f (by simp) rfl
     ·
      exact B7 uf
    |true=>
     obtain⟨of,qN,hl⟩:=H.xI;rw[if_pos qg]at hl;obtain⟨oa,OY,Yv,I5⟩:=hl.1 i BB qh;have e1:oa=o':=by rw[ho]at OY;exact(aqP OY).symm
     subst e1;have Yw: ∀t∈oa.looksAt l.toArray,a.tmps[t]? =af.tmps[t]? :=fun t ht=>by
      by_cases hw: ∃j,j<l.length/\dQ l j=some t
      ·
       obtain⟨j,hj,hd⟩:=hw;obtain⟨_,e,he,hb,fJ⟩:=bF.reads j t hj hd ht;have nE:=qL e he hb;rw[fJ]at nE;have OZ:=EO (by omega) nE;rcases H.sub j hj OZ with hp|hp
       ·
        exact H.done j t hj OZ hp hd
       ·
        obtain⟨e2,qW,rfl⟩:=ar0.1 hp;have g3:=(H.qf e2 qW).2.2.1;rw[bF.Yd qh e2.1 t hj hd ht]at g3;cases g3
      ·
       have h1: ∀j,j<l.length->dQ l j≠some t:=fun j hj hd=>hw ⟨j,hj,hd⟩;rw[H.rest t fun j hj _=>h1 j hj,H.full t fun j hj=>h1 j (bb j (by rw[H.ord];exact aro _ hj))]
     obtain⟨ee,_⟩:=B4 bF.vF Yw;obtain⟨mx,w',gq,I6⟩:=I5 w0 w (E.map (·.2)++L) H.mem;have jN:fs.contains i=true:=by
      cases jN:fs.contains i with
      |true=>rfl
      |false=>
       exfalso;obtain⟨r1,r2,rfl⟩:=ati BB;exact absurd qh (by rw[zT i uI jN];exact ar5)
     unfold wpOp;simp only[po];rw[if_pos (by simp[Region.wanted,Yv])];refine .inl ?_;unfold Oper.wp;rw[ee,gq];refine EP hB cy bb ic zT m pre (f::r) af L Lq ((i,(mk i).e mx)::E) _ _ _ sV ⟨H.ord,H.inv.set hi uI,I6,fun e he=>?_,as9.2 ⟨I4,H.keys⟩,H.zQ,H.xI,by rw[sQ];exact H.size,H.qK,by rw[sR];exact H.defers,H.sU,fun j hj hl=>?_,fun j hj hf=>?_,fun j hj hl=>?_,Yp _,ES _,H.full⟩
     ·
      rcases aqW.1 he with rfl|he
      ·
       exact⟨I3,p0,jN,qh,oa,mx,ho,rfl,fun d hd=>by rw[hd];exact zP H.size⟩
      ·
       exact OU _ e he
     ·
      by_cases cw:j=i
      ·
       subst cw;exact .inr (by simp)
      ·
       exact(H.sub j hj (by rw[←hO j cw];exact hl)).imp_right fun h=>aq2 _ h
     ·
      have cw:j≠i:=fun e=>rV (e▸hj);rw[hO j cw];exact H.fresh j hj hf
     ·
      have cw:j≠i:=fun e=>rV (e▸hj);exact H.wa j hj (by rw[←hO j cw];exact hl)
theorem O0{id:Nat}{ro:Option Nat}[ky Q]{a:Act}{w:World}{L Lq:List aj}(A:List (List Nat))(ord:List Nat)(cy:pY l=true)(hm:P.follows .mixedOrders=true)(hB:EK l fs A ord=true)(hC:Mem w0 L {w with drawn:=w.drawn+1})(mN: ∀w,Mem w0 L w->Mem w0 Lq w)
  (zT: ∀k,k<l.length->fs.contains k=false->fs.contains (k+2000)=false)
  (h:rT P l fs mk Q w0 ord a L Lq):(Code.region id l.toArray true).wpIn (mh ro) 0 P Q a w:=by
 simp only[EK,alM,decide_eq_true_eq]at hB;obtain⟨⟨⟨h1,h2⟩,h3⟩,h4⟩:=hB;have ic: ∀j,j<l.length->j∈ord:=fun j hj=>by have:=aq8.1 h1 j (arw.2 hj);simpa using this
 have bb: ∀j∈ord,j<l.length:=fun j hj=>by have:=aq8.1 h3 j hj;simpa using this
 refine HK cy hm ?_;have HS:HeadInv .any l.toArray l.length (Array.replicate l.toArray.size false):=
  ⟨by simp,fun j oj _ hl=>(by rw[getD_replicate_false]at hl;cases hl),fun t h1 h2=>by simp at h2;omega⟩
 have iF: ∀j,j<l.length->(Array.replicate l.toArray.size false).getD j true=false:=fun j hj=>by simp[hj]
 have sV:left l.length (Array.replicate l.toArray.size false)=l.length:=by
  unfold left;rw[List.filter_eq_self.2 (fun j hj=>?_),atQ];rw[iF j (arw.1 hj)];rfl
 have:=EP (P:=P) (Q:=Q) (w0:=w0) (a0:=a) h4 h2 bb ic zT l.length [] ord a L Lq [] (Array.replicate l.toArray.size false) a _ sV
  ⟨rfl,HS,hC,fun e he=>(by cases he),List.nodup_nil,mN,h,rfl,rfl,rfl,rfl,fun j hj hl=>(by rw[iF j hj]at hl;cases hl),fun j hj=>(by cases hj),fun j hj=>(by cases hj),fun j d hj hl=>(by rw[iF j hj]at hl;cases hl),fun _ _=>rfl,fun _ _=>rfl⟩
 simpa using this
theorem Yx{id:Nat}{ro:Option Nat}[ky Q]{a:Act}{w:World}{L Lq:List aj}(A:List (List Nat))(ord:List Nat)(cy:pY l=true)(hm:P.follows .mixedOrders=true)(hB:EJ l fs A ord=true)(hC:Mem w0 L {w with drawn:=w.drawn+1})(mN: ∀w,Mem w0 L w->Mem w0 Lq w)
  (h:rT P l fs mk Q w0 ord a L Lq):(Code.region id l.toArray true).wpIn (mh ro) 0 P Q a w:=by
 have h5: ∀k,fs.contains (k+2000)=false:=fun k=>by
  simp only[EJ,alM]at hB
  cases hk:fs.contains (k+2000)with
  |false=>rfl
  |true=>
   have:=aq8.1 hB.1.2 (k+2000) (by simpa using hk);have:=of_decide_eq_true this;omega
 refine O0 A ord cy hm ?_ hC mN (fun k _ _=>h5 k) h;simp only[EJ,EK,alM]at hB⊢;exact⟨hB.1.1,hB.2⟩
end
open Go.RowKit
section
variable {P:Program} {N:ct} {w0:World} {env:Env} {L R R1 R2:List aj} {Q:Exit->Act->World->Prop} {d:Option Tmp} {ty:TypeId} {ps:String} {af:Array Edge} {gd:Option (Nat×Bool)} {K:Value->List aj->Prop}
def ij(P:Program)(N:ct)(w0:World)(env:Env)(L:List aj)(o:Oper)(K:Value->List aj->Prop):Prop:=
 ∀a w,dh N env a->Mem w0 L w->upon P w (fun v w'=> ∃L',Mem w0 L' w'/\K v L') ((execOp a.eval o).run P w)
theorem wc{o:Oper}(h: ∀a w,dh N env a->Mem w0 L w-> ∃v w' L',(execOp a.eval o).run P w= .ok (.value v) w'/\Mem w0 L' w'/\K v L'):ij P N w0 env L o K:=fun a w ha hw=>by
 obtain⟨v,w',L',h1,h2,h3⟩:=h a w ha hw;rw[h1];exact⟨L',h2,h3⟩
theorem I8{o:Oper}(h: ∀a w,dh N env a->Mem w0 L w-> ∃w' L',(execOp a.eval o).run P w= .ok .skip w'/\Mem w0 L' w'/\K undef L'):ij P N w0 env L o K:=fun a w ha hw=>by
 obtain⟨w',L',h1,h2,h3⟩:=h a w ha hw;rw[h1];exact⟨L',h2,h3⟩
theorem B9{w:World}{R R':Value->World->Prop}(h: ∀v w,R v w->R' v w){r:Result Next}(hr:upon P w R r):upon P w R' r:=by
 unfold upon at hr⊢;split at hr
 ·
  exact h _ _ hr
 ·
  exact h _ _ hr
 ·
  exact⟨hr.1,hr.2.mono fun e pZ ⟨v,he,hv⟩=>⟨v,he,h _ _ hv⟩⟩
 exact hr.elim
theorem O1{o:Oper}{K':Value->List aj->Prop}(h:ij P N w0 env L o K')(hk: ∀v L',K' v L'-> ∃EV,(∀w,Mem w0 L' w->Mem w0 EV w)/\K v EV):ij P N w0 env L o K:=fun a w ha hw=>
 B9 (fun v _ ⟨L',h1,h2⟩=>by obtain⟨EV,h3,h4⟩:=hk v L' h2;exact⟨EV,h3 _ h1,h4⟩) (h a w ha hw)
theorem pA{X:Type}{val:X->Value}{L':X->List aj}{pr:X->Prop}{pre:Prop}{f:FuncId}{xs:List Operand}{ts:Array TypeId}{vs:List Value}[hf:aI P f](hx:iH env xs=some vs)
  [hc:bZ P f w0 L vs X val L' pr pre] (hp:pre) (hk: ∀x,pr x->K (val x) (L' x)):
  ij P N w0 env L ⟨d, .call {callee:= .value (.func f),args:=xs.toArray,argTypes:=ts},ty,ps,af,gd⟩ K:=fun a w ha hw=>by
 rw[D2 hf w rfl,ha.iH hx];exact⟨rfl,(hc.h hp w hw).mono fun e w' ⟨x,he,kD,hm⟩=>⟨val x,he,L' x,hm,hk x kD⟩⟩
section
variable {α:Type} {enc:α->Array Value} {c:Nat} {s:Sv} {xs ys:List α}
theorem Yy{t:TypeId}{z:Value}[hz:eI P t z](hk: ∀b,K ((.pointer (some ⟨b,0,none⟩))) ((ar b z.cells t::L))):
  ij P N w0 env L ⟨d, .alloc t,ty,ps,af,none⟩ K:=
 wc fun a w ha hw=>⟨_,_,_,by simp only[execOp,Instr.alloc,newVar,newRow,Sem.run_bind,D1 w hz,newObj,Sem.run,Result.andThen,Sem.run_pure];rfl,hw.alloc z.cells t,hk _⟩
theorem O2{t:TypeId}{cs:Array Value}[hz:eI P t (.agg cs)](hk: ∀b,K ((.pointer (some ⟨b,0,none⟩))) ((ar b cs t::L))):
  ij P N w0 env L ⟨d, .alloc t,ty,ps,af,none⟩ K:=Yy (z:= .agg cs) hk
theorem zU{t:TypeId}{x y:Operand}{i b o:Nat}{cs:Array Value}{T:TypeId}{v:Value}(hx:ev env x=some (.pointer (some ⟨b,o,none⟩)))(hy:ev env y=some v)[ht:fK P t][hh:Has L b cs T i](ho:o<cs.size)(hv:v.oneCell'=true){cs':Array Value}{L':List aj}(hQ:cs.setIfInBounds o v=cs')[hu:fu L i (ar b cs' T) L'](hk:K undef (L')):
  ij P N w0 env L ⟨none, .store t x y,ty,ps,af,none⟩ K:=
 I8 fun a w ha hw=>by
  have hi:=hh.h;have hb:=hw.block hi;have hc:w.cell? ⟨b,o,none⟩=some cs[o]:=by rw[hw.cell hi];simp[ho]
  have hf:w.frozen? ⟨b,o,none⟩=false:=frozen_of_row w b o cs T hb;subst hQ;refine⟨w.setCell ⟨b,o,none⟩ v,_,?_,?_,hk⟩
  ·
   have h1:(storeCells ⟨b,o,none⟩ [v]).run P w= .ok () (w.setCell ⟨b,o,none⟩ v):=by
    have:=run_storeCells_at (P:=P) b o T [v] 0 cs w hb (by simp;omega) (by simpa using hv);rw[this,setCell_eq_setRow w b o cs T (0,0) v hb];congr 2;apply atF;simp[List.set_eq_take_append_cons_drop,ho]
   have hQ:v.cells= #[v]:=by cases v<;>simp_all[Value.oneCell',Value.cells]
   simp only[execOp,ha.ev hx,ha.ev hy,Instr.storeAt,Instr.sureAddr,storeVar,Sem.run_bind,Sem.run_pure,Result.andThen,kY w ht.size,hQ];simp[h1]
  ·
   rw[setCell_eq_setRow w b o cs T (0,0) v hb];rw[←hu.h];exact hw.setRow hi _
theorem O3{t:TypeId}{x y:Operand}{i b o n:Nat}{cs vs:Array Value}{T:TypeId}(hx:ev env x=some (.pointer (some ⟨b,o,none⟩)))(hy:ev env y=some (.agg vs))[ht:fE P t n][hh:Has L b cs T i][hs:fP vs n](ho:o+n<=cs.size){cs':Array Value}{L':List aj}(hQ:over cs o vs=cs')[hu:fu L i (ar b cs' T) L'](hk:K undef (L')):
  ij P N w0 env L ⟨none, .store t x y,ty,ps,af,none⟩ K:=
 I8 fun a w ha hw=>by
  have hi:=hh.h;have hn:=hs.h;have hv:=hs.one;have hb:=hw.block hi;subst hQ;refine⟨_,_,?_,by rw[←hu.h];exact hw.setRow hi _,hk⟩;have h1:=run_storeCells_at (P:=P) b o T vs.toList 0 cs w hb (by simp;omega) (fun v lM=>(arx.1 hv) v (by simpa using lM));simp only[execOp,ha.ev hx,ha.ev hy,Instr.storeAt,Instr.sureAddr,storeVar,Value.cells,Sem.run_bind,Sem.run_pure,Result.andThen,kY w ht.size,hn];simp[h1,over]
theorem qX{t:TypeId}{x y:Operand}{i b n:Nat}{cs vs:Array Value}{T:TypeId}(hx:ev env x=some (.pointer (some ⟨b,0,none⟩)))(hy:ev env y=some (.agg vs))[ht:fE P t n][hh:Has L b cs T i][hs:fP vs n][hc:fP cs n]{L':List aj}[hu:fu L i (ar b vs T) L'](hk:K undef (L')):
  ij P N w0 env L ⟨none, .store t x y,ty,ps,af,none⟩ K:=by
 have hn:=hs.h;have Wq:=hc.h;refine O3 hx hy (by omega) (?_:over cs 0 vs=vs) hk;apply atF;simp[over];omega
theorem Yz{x y:Operand}{tx gu e:TypeId}{i b o dl dc sl sc:Nat}{a:Addr}{cs vs:Array Value}{T:TypeId}(hx:ev env x=some (.slice (some ⟨b,o,none⟩) dl dc))(hy:ev env y=some (.slice (some a) sl sc))
  [ht:fh P tx e 1] [hh:Has L b cs T i] (hn:vs.size=Nat.min sl dl) (mO: ∀w,Mem w0 L w-> ∀j,j<vs.size->w.cell? (a.add j)=vs[j]?) (hv:vs.all (·.oneCell')=true) (ho:o+vs.size<=cs.size)
  {cs':Array Value} {L':List aj} (hQ:over cs o vs=cs') [hu:fu L i (ar b cs' T) L'] (hk:K ((.int .i64 vs.size)) (L')):
  ij P N w0 env L ⟨d, .call {callee:= .builtin .copy,args:= #[x,y],argTypes:= #[tx,gu]},ty,ps,af,none⟩ K:=
 wc fun aa w ha hw=>by
  have hi:=hh.h;have hb:=hw.block hi;subst hQ;have gq:=run_copy_row (P:=P) w tx gu ty e b o dl dc a sl sc cs T vs.toList ht.eU ht.size hb (by simpa using hn)
   (fun j v lM=>by
    have hj:j<vs.size:=by simpa using(ad2.1 lM).1
    rw[mO w hw j hj];simpa using lM) (by simpa using ho) (fun v lM=>(arx.1 hv) v (by simpa using lM))
  refine⟨_,w.setRow b (over cs o vs),_,?_,by rw[←hu.h];exact hw.setRow hi _,hk⟩;simp[execOp,ha.ev hx,ha.ev hy,resolve,invoke,builtin,gq,Result.andThen,goInt,over]
theorem YA{t tx e:TypeId}{x y:Operand}{yv:Value}{cE i:Nat}[ht:fa P t e c cE][he:bm enc c](hx:ev env x=some s.val)(hy:ev env y=some yv)[q:fw L s enc c xs i](hc:0<c)
  (hs: ∀w,Mem w0 L w->Src P c tx yv ys.length (aJ enc ys) w) (hb:(xs.length+ys.length)*cE<=140737488355328) (ju:xs.length+ys.length<=140737488355328) {L':Sv->List aj} [hu: ∀s',fu L i (own enc c s' (xs++ys)) (L' s')]
  (hk: ∀s':Sv,s'.Ok->s'.len=(xs++ys).length->K (s'.val) ((L' s'))):
  ij P N w0 env L ⟨d, .call {callee:= .builtin .append,args:= #[x,y],argTypes:= #[t,tx]},ty,ps,af,none⟩ K:=
 wc fun a w ha hw=>by
  obtain⟨s',w',h1,h2,h3,h4⟩:=Il (ty:=ty) ht hc hw q.h (hs w hw) hb ju;refine⟨s'.val,w',L' s',?_,by rw[←(hu s').h];exact h4,hk s' h2 h3⟩;simp[execOp,ha.ev hx,ha.ev hy,resolve,invoke,builtin,h1,Result.andThen]
theorem O4{t e:TypeId}{cE n:Nat}[ht:fa P t e c cE][he:bm enc c]{ops:List (Nat×Operand)}{vals:List Value}(xs:List α)(hx:jP env ops=some (idx vals 0))(hv:vals.map Value.cells=xs.map enc)(hn:xs.length=n)(hc:0<n*c)(qQ:n*c<=16777216)
  (hk: ∀b,K ((Sv.val ⟨false,b,0,n,n,none⟩)) ((own enc c ⟨false,b,0,n,n,none⟩ xs::L))):
  ij P N w0 env L ⟨d, .buildSlice t n ops.toArray,ty,ps,af,none⟩ K:=
 wc fun a w ha hw=>by
  subst hn;have e1:(ops.toArray.map fun(p:Nat×Operand)=>match p with|(i,x)=>(i,a.eval x))=(idx vals 0).toArray:=by
   rw[←ha.jP hx];simp
  refine⟨_,_,_,?_,hw.call (vR (enc:=enc) (c:=c) (xs:=xs) (cs:=(aJ enc xs).toArray) (e:=e) rfl xs.length xs.length rfl (aqY _) (Ej hc qQ) (by simp[gQ]) fun i x hx j hj=>by rw[←np (enc:=enc) xs i x hx j hj];simp),hk _⟩;simp only[execOp,e1,Sem.run_bind,Ek ht hv hc qQ w,Result.andThen,Sem.run_pure];rfl
theorem O5{t e:TypeId}{cE n cap:Nat}{z:Value}{x y:Operand}{k k':IntKind}{ix iy:Int}[ht:fa P t e c cE][hz:eI P e z](x0:α)(h0:enc x0=z.cells)(hx:ev env x=some (.int k ix))(hy:ev env y=some (.int k' iy))(ex:ix=(n:Int))(ey:iy=(cap:Int))(hle:n<=cap)(hb:cE*cap<=281474976710656)(ju:cap<=140737488355328)
  (hk: ∀b,K ((Sv.val ⟨false,b,0,n,cap,none⟩)) ((own enc c ⟨false,b,0,n,cap,none⟩ (List.replicate n x0)::L))):
  ij P N w0 env L ⟨d, .makeSlice t x y,ty,ps,af,none⟩ K:=
 wc fun a w ha hw=>by
  subst ex ey;obtain⟨w',h1,h2⟩:=Im ht hz (k:=k) (k':=k') (n:=n) x0 h0 hle hb ju w;exact⟨_,w',_,by simp only[execOp,ha.ev hx,ha.ev hy,Sem.run_bind,h1,Result.andThen,Sem.run_pure],hw.call h2,hk _⟩
theorem we{t:TypeId}{x y:Operand}{i k j n p:Nat}{a a':α}{v:Value}(sz:(P.info? t).map (·.size)=some n)[he:bm enc c](hx:ev env x=some (.pointer (some ⟨s.b,p,none⟩)))(hy:ev env y=some v)[q:fw L s enc c xs i](fv:p=s.o+k*c+j)
  (ha:xs[k]? =some a) (hv:v.cells.all (·.oneCell')=true) (hn:v.cells.size=n) (hj:j+n<=c) (qc:over (enc a) j v.cells=enc a') {L':List aj} [hu:fu L i (own enc c s (xs.set k a')) L'] (hk:K undef (L')):
  ij P N w0 env L ⟨none, .store t x y,ty,ps,af,none⟩ K:=
 I8 fun aa w BM hw=>by
  subst fv hn;obtain⟨w',h1,h2⟩:=NJ (P:=P) hw q ha hv hj qc hu;refine⟨w',_,?_,h2,hk⟩;simp only[execOp,BM.ev hx,BM.ev hy,Instr.storeAt,Instr.sureAddr,storeVar,Sem.run_bind,Sem.run_pure,Result.andThen,kY w sz];simp[h1]
theorem YB{P:Program}{N:ct}{w0:World}{env:Env}{L:List aj}{ty:TypeId}{ps:String}{af:Array Edge}{τ:Type}{t:TypeId}{x y:Operand}{i k p:Nat}{s:Sv}{xs:List (Sl τ)}{a:Sl τ}(a':Sl τ)
  (sz:(P.info? t).map (·.size)=some 1) (hx:ev env x=some (.pointer (some ⟨s.b,p,none⟩))) (hy:ev env y=some a'.sv.val) [q:fw L s (ca (τ:=τ)) 1 xs i] (fv:p=s.o+k*1) (ha:xs[k]? =some a) {L':List aj} [hu:fu L i (own ca 1 s (xs.set k a')) L'] (hk:K undef (L')):
  ij P N w0 env L ⟨none, .store t x y,ty,ps,af,none⟩ K:=
 we (j:=0) (a':=a') sz hx hy (q:=q) fv ha (by rw[Sv.jw];simp[Sv.one]) (by rw[Sv.jw];rfl) (by decide) (by rw[Sv.jw];rfl) hk
theorem YC{α:Type}{enc:α->Array Value}{x y:Operand}{tx gu e:TypeId}{i b o dl dc:Nat}{sv:Sv}{ys:List α}{cs:Array Value}{T:TypeId}(hx:ev env x=some (.slice (some ⟨b,o,none⟩) dl dc))(hy:ev env y=some sv.val)
  [ht:fh P tx e 1] [hh:Has L b cs T i] [q:Hd w0 L sv enc 1 ys] [he:bm enc 1] (h0:0<ys.length) (hl:ys.length<=dl) (ho:o+ys.length<=cs.size)
  {cs':Array Value} {L':List aj} (hQ:over cs o (aJ enc ys).toArray=cs') [hu:fu L i (ar b cs' T) L'] (hk:K ((.int .i64 (ys.length:Nat))) (L')):
  ij P N w0 env L ⟨d, .call {callee:= .builtin .copy,args:= #[x,y],argTypes:= #[tx,gu]},ty,ps,af,none⟩ K:=fun a w ha hw=>by
 have r:=q.h w hw;have hn:=r.some (i:=0) h0;have hlen:=r.len;rw[Sv.ig hn,r.ok.sp (by have:=r.ok.le;omega)]at hy;have hs:(aJ enc ys).toArray.size=ys.length:=by rw[arO,gQ,ass]
 have ka:=hk;rw[←hs]at ka;refine Yz (vs:=(aJ enc ys).toArray) hx hy ?_ (fun w hw j hj=>?_) ?_ (by rw[hs];exact ho) hQ ka a w ha hw
 ·
  rw[hs];simp only[Nat.min_def];split<;>omega
 ·
  rw[hs]at hj;have:=np (enc:=enc) ys j ys[j] (by simp[hj]) 0 (by decide);have r2:=(q.h w hw).row j ys[j] (by simp[hj]) 0 (by decide);simp only[ass,arP]at this r2;rw[Addr.gN,rI,r2,←this];simp
 ·
  rw[arx];intro v hv;exact uv (enc:=enc) ys v (by simpa using hv)
end
section
variable {τ:Type} [dp:Deep τ] {enc:τ->Array Value} {c:Nat}
end
theorem O6{l:List Oper}{rest:List Oper}{o:Oper}(hg:o.guard=none)(hd:dn N o.dst=true)(h:ij P N w0 env L o (fun v L'=>Sq P N w0 l Q rest (cB env o.dst v) L')):Sq P N w0 l Q (o::rest) env L:=fun a w ha hw=>by
 unfold wpList;rw[if_pos (rH hg)];refine .inl ?_;have h1:=h a w ha hw;unfold Oper.wp;generalize(execOp a.eval o).run P w=r at h1;unfold upon at h1;split at h1
 ·
  obtain⟨L',h2,h3⟩:=h1;exact h3 _ _ (ha.put hd _) h2
 ·
  obtain⟨L',h2,h3⟩:=h1;exact h3 _ _ (ha.put hd _) h2
 ·
  obtain⟨rfl,hc⟩:=h1;exact hc.mono fun e pZ ⟨v,he,L',h2,h3⟩=>by subst he;exact h3 _ _ (ha.put hd _) h2
 exact h1.elim
end
section
variable {P:Program} {N:ct} {w0:World} {env:Env} {L Lq:List aj} {l:List Oper} {fs ord:List Nat} {mk:Nat->ou} {Q:Exit->Act->World->Prop} {k:Nat} {o:Oper}
def Ln(P:Program)(N:ct)(w0:World)(l:List Oper)(fs:List Nat)(mk:Nat->ou)(Q:Exit->Act->World->Prop)(ord:List Nat)(env:Env)(L Lq:List aj):Prop:= ∀a,dh N env a->rT P l fs mk Q w0 ord a L Lq
def Cert(P:Program)(N:ct)(env:Env)(l:List Oper)(fs:List Nat)(mk:Nat->ou)(ord:List Nat):Prop:=
 ∀i∈ord,fs.contains (i+2000)=true-> ∃oi,l[i]? =some oi/\oi.guard=none/\ ∀a,dh N env a->uF P oi a.eval (mk i)
theorem Cert.none(h:(ord.all fun i=> !fs.contains (i+2000))=true):Cert P N env l fs mk ord:=fun i hi hf=>by
 have:=aq8.1 h i hi;rw[hf]at this;cases this
theorem Cert.one{i:Nat}{m:ou}(ho:l[i]? =some o)(hg:o.guard=Option.none)(hm:mk i=m)(h: ∀a,dh N env a->uF P o a.eval m)(hr:Cert P N env l fs mk (ord.filter fun j=> !(j==i))):Cert P N env l fs mk ord:=fun j hj hf=>by
 by_cases e:j=i
 ·
  subst e;exact⟨o,ho,hg,by rw[hm];exact h⟩
 exact hr j (ari.2 ⟨hj,by simpa using e⟩) hf
theorem Cert.at(h:Cert P N env l fs mk ord){a:Act}(ha:dh N env a): ∀i∈ord,fs.contains (i+2000)=true-> ∃oi,l[i]? =some oi/\oi.guard=Option.none/\uF P oi a.eval (mk i):=fun i hi hf=>by
 obtain⟨oi,h1,h2,h3⟩:=h i hi hf;exact⟨oi,h1,h2,h3 a ha⟩
theorem O7(h:Ex N w0 Q .normal env L):Ln P N w0 l fs mk Q [] env L Lq:=fun a ha w hw=>h a w ha hw
theorem O8{v:Value}(ho:l[k]? =some o)(hf:fs.contains k=false)(hd:dn N o.dst=true)(h1: ∀a,dh N env a->Region.wanted o (yielded l.toArray a.tmps)=true->ug P o a (Mem w0 Lq) v)(h2: ∀a,dh N env a->Region.wanted o (yielded l.toArray a.tmps)=false->v=undef)
  (hk:Ln P N w0 l fs mk Q ord (cB env o.dst v) L Lq) (lg:fs.contains (k+1000)=false:=by rfl):Ln P N w0 l fs mk Q (k::ord) env L Lq:=fun a ha=>
 ⟨o,ho,by
  rw[if_neg (by rw[hf];exact ar5)];exact⟨v,by rw[if_neg (by rw[lg];exact ar5)];exact h1 a ha,h2 a ha,hk _ (ha.put hd v)⟩⟩
theorem YD{v:Value}(ho:l[k]? =some o)(h:Yl P N w0 env L o v)(hk:Ln P N w0 l fs mk Q ord (cB env o.dst v) L Lq)(hg:o.guard=none:=by rfl)(hd:dn N o.dst=true:=by rfl)(hf:fs.contains k=false:=by rfl)(lg:fs.contains (k+1000)=true:=by rfl):Ln P N w0 l fs mk Q (k::ord) env L Lq:=fun a ha=>
 ⟨o,ho,by
  rw[if_neg (by rw[hf];exact ar5)];exact⟨v,fun _=>by rw[if_pos lg];exact h a ha,(fun hw=>by rw[rH hg]at hw;cases hw),hk _ (ha.put hd v)⟩⟩
theorem lh{v:Value}(ho:l[k]? =some o)(h:Ry P N w0 env L o v)(hk:Ln P N w0 l fs mk Q ord (cB env o.dst v) L Lq)(hg:o.guard=none:=by rfl)(hd:dn N o.dst=true:=by rfl)(hf:fs.contains k=false:=by rfl)(lg:fs.contains (k+1000)=true:=by rfl):Ln P N w0 l fs mk Q (k::ord) env L Lq:=YD ho h.yl hk hg hd hf lg
theorem xM{v:Value}(ho:l[k]? =some o)(h:Yl P N w0 env Lq o v)(hk:Ln P N w0 l fs mk Q ord (cB env o.dst v) L Lq)(hg:o.guard=none:=by rfl)(hd:dn N o.dst=true:=by rfl)(hf:fs.contains k=false:=by rfl)(lg:fs.contains (k+1000)=false:=by rfl):Ln P N w0 l fs mk Q (k::ord) env L Lq:=
 O8 (lg:=lg) ho hf hd (fun a ha _=>h a ha) (fun a ha hw=>by rw[rH hg]at hw;cases hw) hk
theorem an{v:Value}(ho:l[k]? =some o)(h:Ry P N w0 env Lq o v)(hk:Ln P N w0 l fs mk Q ord (cB env o.dst v) L Lq)(hg:o.guard=none:=by rfl)(hd:dn N o.dst=true:=by rfl)(hf:fs.contains k=false:=by rfl)(lg:fs.contains (k+1000)=false:=by rfl):Ln P N w0 l fs mk Q (k::ord) env L Lq:=xM ho h.yl hk hg hd hf lg
theorem O9{v:Value}{j t:Nat}{g:Bool}(ho:l[k]? =some o)(hg:o.guard=some (j,false))(hj:(l[j]?).bind (·.dst)=some t)(hv:look env t=some (.bool g))(h:(!g)=true->Yl P N w0 env Lq o v)
  (hk:Ln P N w0 l fs mk Q ord (cB env o.dst (if(!g)=true then v else undef)) L Lq) (hd:dn N o.dst=true:=by rfl) (hf:fs.contains k=false:=by rfl) (lg:fs.contains (k+1000)=false:=by rfl):Ln P N w0 l fs mk Q (k::ord) env L Lq:=
 O8 (lg:=lg) ho hf hd (fun a ha hw=>by
  rw[xA ha hg hj hv]at hw
  cases g
  ·
   exact h rfl a ha
  ·
   cases hw) (fun a ha hw=>by
  rw[xA ha hg hj hv]at hw
  cases g
  ·
   cases hw
  ·
   rfl) hk
theorem YE(ho:l[k]? =some o)(h:ij P N w0 env L o fun v L'=> ∃gw,(∀w,Mem w0 L' w->Mem w0 gw w)/\(∀w,Mem w0 gw w->Mem w0 Lq w)/\Ln P N w0 l fs mk Q ord (cB env o.dst v) L' gw)(hg:o.guard=none:=by rfl)(hd:dn N o.dst=true:=by rfl)(hf:fs.contains k=true:=by rfl)(tn:fs.contains (k+2000)=false:=by rfl)(zV:fs.contains (k+4000)=false:=by rfl)(uK:fs.contains (k+5000)=false:=by rfl)(hC:Cert P N env l fs mk ord:=by exact Cert.none rfl):Ln P N w0 l fs mk Q (k::ord) env L Lq:=fun a ha=>
 ⟨o,ho,by
  rw[if_pos hf,if_neg (by rw[tn];exact ar5)];exact⟨hC.at ha,rH hg,fun w hw=>B9 (fun v w' ⟨L',h1,gw,h2,h3,h4⟩=>⟨L',gw,h1,h2,h3,(fun h=>by rw[uK]at h;cases h),h4 _ (ha.put hd v)⟩) (h a w ha hw),fun h=>by rw[zV]at h;cases h⟩⟩
theorem Pa(ho:l[k]? =some o)(h:ij P N w0 env L o fun v L'=>(∀w,Mem w0 L' w->Mem w0 Lq w)/\(∀w,Mem w0 L' w->Mem w0 L w)/\Ln P N w0 l fs mk Q ord (cB env o.dst v) L' Lq)(hg:o.guard=none:=by rfl)(hd:dn N o.dst=true:=by rfl)(hf:fs.contains k=true:=by rfl)(tn:fs.contains (k+2000)=false:=by rfl)(zV:fs.contains (k+4000)=false:=by rfl)(hC:Cert P N env l fs mk ord:=by exact Cert.none rfl):Ln P N w0 l fs mk Q (k::ord) env L Lq:=fun a ha=>
 ⟨o,ho,by
  rw[if_pos hf,if_neg (by rw[tn];exact ar5)];exact⟨hC.at ha,rH hg,fun w hw=>B9 (fun v w' ⟨L',h1,h2,h3,h4⟩=>⟨L',Lq,h1,h2,fun _ h=>h,(fun _=>h3),h4 _ (ha.put hd v)⟩) (h a w ha hw),fun h=>by rw[zV]at h;cases h⟩⟩
theorem YF(K:Value->List aj->Prop)(ho:l[k]? =some o)(h:ij P N w0 env L o K)(hF: ∀e,ij P N w0 env (e::L) o fun v L'=> ∃L1,(∀w,Mem w0 L' w->Mem w0 (e::L1) w)/\K v L1)(hk: ∀v L',K v L'->(∀w,Mem w0 L' w->Mem w0 Lq w)/\Ln P N w0 l fs mk Q ord (cB env o.dst v) L' Lq)(hC:Cert P N env l fs mk ord)(hg:o.guard=none:=by rfl)(hd:dn N o.dst=true:=by rfl)(hf:fs.contains k=true:=by rfl)(tn:fs.contains (k+2000)=false:=by rfl)(uK:fs.contains (k+5000)=false:=by rfl):Ln P N w0 l fs mk Q (k::ord) env L Lq:=fun a ha=>
 ⟨o,ho,by
  rw[if_pos hf,if_neg (by rw[tn];exact ar5)];exact⟨hC.at ha,rH hg,fun w hw=>B9 (fun v w' ⟨L',h1,h2⟩=>⟨L',Lq,h1,(hk v L' h2).1,fun _ h=>h,(fun h=>by rw[uK]at h;cases h),(hk v L' h2).2 _ (ha.put hd v)⟩) (h a w ha hw),fun _ e w hw=>B9 (fun v w' ⟨L',h1,L1,h2,h3⟩=>⟨L1,Lq,h2 _ h1,(hk v L1 h3).1,fun _ h=>h,(fun h=>by rw[uK]at h;cases h),(hk v L1 h3).2 _ (ha.put hd v)⟩) (hF e a w ha hw)⟩⟩
theorem xN{X:Type}{val:X->Value}{L':X->List aj}{L2:aj->X->List aj}{pr:X->Prop}{pre:Prop}{f:FuncId}{xs:List Operand}{ts:Array TypeId}{vs:List Value}{d:Option Tmp}{ty:TypeId}{ps:String}{af:Array Edge}[hf:aI P f](ho:l[k]? =some ⟨d, .call {callee:= .value (.func f),args:=xs.toArray,argTypes:=ts},ty,ps,af,none⟩)(hx:iH env xs=some vs)
  [hc:bZ P f w0 L vs X val L' pr pre] [I9: ∀e,bZ P f w0 (e::L) vs X val (L2 e) pr pre] (hp:pre) (hP: ∀e x w,Mem w0 (L2 e x) w->Mem w0 (e::L' x) w) (hC:Cert P N env l fs mk ord) (hk: ∀x,pr x->(∀w,Mem w0 (L' x) w->Mem w0 Lq w)/\Ln P N w0 l fs mk Q ord (cB env d (val x)) (L' x) Lq)
  (hd:dn N d=true:=by rfl) (wg:fs.contains k=true:=by rfl) (tn:fs.contains (k+2000)=false:=by rfl) (uK:fs.contains (k+5000)=false:=by rfl):Ln P N w0 l fs mk Q (k::ord) env L Lq:=
 YF (fun v L1=> ∃x,v=val x/\L1=L' x/\pr x) ho (pA hx hp fun x kD=>⟨x,rfl,rfl,kD⟩) (fun e=>O1 (pA (K:=fun v L1=> ∃x,v=val x/\L1=L2 e x/\pr x) hx hp fun x kD=>⟨x,rfl,rfl,kD⟩) fun v L1 ⟨x,h1,h2,h3⟩=>⟨L1,fun _ h=>h,L' x,fun w hw=>hP e x w (by rw[←h2];exact hw),x,h1,rfl,h3⟩)
  (fun v L1 ⟨x,h1,h2,h3⟩=>by subst h1;subst h2;exact hk x h3) hC rfl hd wg tn uK
theorem tp{m:ou}(ho:l[k]? =some o)(hm:mk k=m)(h: ∀a,dh N env a->uF P o a.eval m)(hC:Cert P N env l fs mk ord)(hk: ∀x:m.X,Ln P N w0 l fs mk Q ord (cB env o.dst (m.v x)) (m.e x::L) Lq)(hg:o.guard=none:=by rfl)(hd:dn N o.dst=true:=by rfl)(hf:fs.contains k=true:=by rfl)(lg:fs.contains (k+2000)=true:=by rfl):Ln P N w0 l fs mk Q (k::ord) env L Lq:=fun a ha=>by
 subst hm;refine⟨o,ho,?_⟩;rw[if_pos hf,if_pos lg];exact⟨hC.at ha,hg,h a ha,fun x=>hk x _ (ha.put hd _)⟩
theorem dN(ho:l[k]? =some o)(h:ij P N w0 env L o fun v L'=>(∀w,Mem w0 L' w->Mem w0 Lq w)/\Ln P N w0 l fs mk Q ord (cB env o.dst v) L' Lq)(hg:o.guard=none:=by rfl)(hd:dn N o.dst=true:=by rfl)(hf:fs.contains k=true:=by rfl)(tn:fs.contains (k+2000)=false:=by rfl)(zV:fs.contains (k+4000)=false:=by rfl)(uK:fs.contains (k+5000)=false:=by rfl)(hC:Cert P N env l fs mk ord:=by exact Cert.none rfl):Ln P N w0 l fs mk Q (k::ord) env L Lq:=
 YE (tn:=tn) (zV:=zV) (uK:=uK) (hC:=hC) ho (O1 h fun v L' ⟨h1,h2⟩=>⟨L',fun _ h=>h,Lq,h1,fun _ h=>h,h2⟩) hg hd hf
def Ja:List (Nat×ou)->Nat->ou
 |[],_=>⟨Unit,fun _=>undef,fun _=> .emp⟩
 |(i,m)::r,k=>match Nat.beq i k with
  |true=>m
  |false=>Ja r k
@[reducible] def ov (P:Program)(t:TypeId){z:Value}[_hz:eI P t z]:ou:=⟨Nat,fun b=> .pointer (some ⟨b,0,none⟩),fun b=>ar b z.cells t⟩
theorem nF{t:TypeId}{z:Value}[hz:eI P t z]{d:Option Tmp}{ty:TypeId}{ps:String}{af:Array Edge}{gd:Option (Nat×Bool)}: ∀a,dh N env a->uF P ⟨d, .alloc t,ty,ps,af,gd⟩ a.eval (ov P t):=fun a _ w0 w L hw=>by
 refine⟨w.heap.size,w.alloc (.cells z.cells t),?_,hw.alloc z.cells t⟩;simp only[execOp,Instr.alloc,newVar,newRow,Sem.run_bind,D1 w hz,newObj,Sem.run,Result.andThen,Sem.run_pure];rfl
@[reducible] def wh {α:Type}(enc:α->Array Value)(c n:Nat)(xs:List α):ou:=⟨Nat,fun b=>Sv.val ⟨false,b,0,n,n,none⟩,fun b=>own enc c ⟨false,b,0,n,n,none⟩ xs⟩
theorem Pb{α:Type}{enc:α->Array Value}{c:Nat}{t e:TypeId}{cE n:Nat}{d:Option Tmp}{ty:TypeId}{ps:String}{af:Array Edge}{gd:Option (Nat×Bool)}[ht:fa P t e c cE][he:bm enc c]{ops:List (Nat×Operand)}{vals:List Value}(xs:List α)(hx:jP env ops=some (idx vals 0))(hv:vals.map Value.cells=xs.map enc)(hn:xs.length=n)(hc:0<n*c)(qQ:n*c<=16777216):
  ∀a,dh N env a->uF P ⟨d, .buildSlice t n ops.toArray,ty,ps,af,gd⟩ a.eval (wh enc c n xs):=fun a ha w0 w L hw=>by
 subst hn;have e1:(ops.toArray.map fun(p:Nat×Operand)=>match p with|(i,x)=>(i,a.eval x))=(idx vals 0).toArray:=by
  rw[←ha.jP hx];simp
 refine⟨w.heap.size,_,?_,hw.call (vR (enc:=enc) (c:=c) (xs:=xs) (cs:=(aJ enc xs).toArray) (e:=e) rfl xs.length xs.length rfl (aqY _) (Ej hc qQ) (by simp[gQ]) fun i x hx j hj=>by rw[←np (enc:=enc) xs i x hx j hj];simp)⟩;simp only[execOp,e1,Sem.run_bind,Ek ht hv hc qQ w,Result.andThen,Sem.run_pure];rfl
theorem uL{id:Nat}[ky Q](fs:List Nat)(A:List (List Nat))(ord:List Nat)(Lq:List aj)(mk:List (Nat×ou))(Ca:(fs.all fun j=>decide (j<2000)||decide (4000<=j)||fs.contains (j -2000))=true)(mN: ∀w,Mem w0 L w->Mem w0 Lq w)(hm:P.follows .mixedOrders=true)(hB:EK l fs A ord=true)(h:Ln P N w0 l fs (Ja mk) Q ord env L Lq)(bb:l.length<=1000:=by decide)(cy:pY l=true:=by kernel_rfl):Cw P N w0 Q (.region id l.toArray true) env L:=fun a _ ha hw=>by
 refine O0 A ord cy hm hB hw.DN mN (fun k wb hk=>?_) (h a ha)
 cases h2:fs.contains (k+2000)with
 |false=>rfl
 |true=>
  have:=aq8.1 Ca (k+2000) (by simpa using h2);rw[ar4,ar4,decide_eq_true_eq,decide_eq_true_eq]at this;rcases this with(h|h)|h
  ·
   omega
  ·
   omega
  rw[Nat.add_sub_cancel,hk]at h;cases h
theorem jh{id:Nat}[ky Q](fs:List Nat)(A:List (List Nat))(ord:List Nat)(Lq:List aj)(mN: ∀w,Mem w0 L w->Mem w0 Lq w)(hm:P.follows .mixedOrders=true)(hB:EJ l fs A ord=true)(h:Ln P N w0 l fs (Ja []) Q ord env L Lq)(cy:pY l=true:=by kernel_rfl):Cw P N w0 Q (.region id l.toArray true) env L:=fun a _ ha hw=>
 Yx A ord cy hm hB hw.DN mN (h a ha)
end
theorem Ry.n{P:Program}{N:ct}{w0:World}{env:Env}{L:List aj}{d:Option Tmp}{ty:TypeId}{ps:String}{af:Array Edge}{gd:Option (Nat×Bool)}{s:TypeId}{x:Operand}{fi off b o o':Nat}[hf:dA P s fi off](hx:ev env x=some (.pointer (some ⟨b,o,none⟩)))(ho:Nat.add o off=o':=by(simp only[atE,Nat.reduceAdd];exact rfl)):
  Ry P N w0 env L ⟨d, .fieldAddr s x fi,ty,ps,af,gd⟩ (.pointer (some ⟨b,o',none⟩)):=aP hx ho
theorem tS{P:Program}{N:ct}{w0:World}{l:List Oper}{Q:Exit->Act->World->Prop}{rest:List Oper}{env:Env}{L:List aj}{d:Option Tmp}{ty:TypeId}{ps:String}{af:Array Edge}(op:Op)(gd:Option (Nat×Bool))(h:Sq P N w0 l Q (⟨d,op,ty,ps,af,gd⟩::rest) env L):Sq P N w0 l Q (⟨d,op,ty,ps,af,gd⟩::rest) env L:=h
theorem tQ{P:Program}{N:ct}{w0:World}{l:List Oper}{fs:List Nat}{F:Act->Prop}{k:Nat}{rest:List Oper}{env:Env}{L:List aj}{d:Option Tmp}{ty:TypeId}{ps:String}{af:Array Edge}(op:Op)(gd:Option (Nat×Bool))(h:Qt P N w0 l fs F k (⟨d,op,ty,ps,af,gd⟩::rest) env L):Qt P N w0 l fs F k (⟨d,op,ty,ps,af,gd⟩::rest) env L:=h
structure Wr(p:Prop):Prop where
 h:p
theorem Gs{G G':Prop}(k:G')(h:Wr G'->G:=by
 intro k
 first
 |(with_reducible refine tS (.move _) none ?_);exact ag (bl rfl) k.h
 |(with_reducible refine tS (.assign _) none ?_);exact ag (ie rfl) k.h
 |(with_reducible refine tS (.fieldAddr _ _ _) none ?_);exact ag (Ry.n rfl) k.h
 |(with_reducible refine tS (.load _ _) none ?_);exact ag (bW rfl) k.h
 |(with_reducible refine tS (.load _ _) none ?_);exact ag (jO rfl) k.h
 |(with_reducible refine tS (.binOp .add _ _ _ _) none ?_);exact ag (zj rfl rfl (by omega)) k.h
 |(with_reducible refine tS (.binOp .sub _ _ _ _) none ?_);exact ag (zk rfl rfl (by omega)) k.h
 |(with_reducible refine tS (.pick _ _ _) none ?_);exact ag (zb rfl rfl rfl) k.h
 |(with_reducible refine tS (.pick _ _ _) none ?_);exact ag (za rfl rfl rfl) k.h
 |(with_reducible refine tS (.unOp _ _ _) none ?_);exact ag (nj rfl) k.h
 |(with_reducible refine tS (.binOp _ _ _ _ _) none ?_);exact ag (et rfl rfl rfl) k.h
 |(with_reducible refine tS (.nilCheck _) none ?_);exact ag (jy rfl) k.h
 |(with_reducible refine tS (.call _) none ?_);exact ag (uy rfl) k.h
 |(with_reducible refine tS (.store _ _ _) none ?_);exact Wp rfl rfl k.h
 |(with_reducible refine tS (.call _) none ?_);exact dR (cj rfl trivial) k.h):G:=h ⟨k⟩
theorem Gq{G G':Prop}(k:G')(h:Wr G'->G:=by
 intro k
 first
 |(with_reducible refine tQ (.move _) none ?_);exact bH (bl rfl) k.h
 |(with_reducible refine tQ (.assign _) none ?_);exact bH (ie rfl) k.h
 |(with_reducible refine tQ (.fieldAddr _ _ _) none ?_);exact bH (Ry.n rfl) k.h
 |(with_reducible refine tQ (.load _ _) none ?_);exact bH (bW rfl) k.h
 |(with_reducible refine tQ (.load _ _) none ?_);exact bH (jO rfl) k.h
 |(with_reducible refine tQ (.binOp .add _ _ _ _) none ?_);exact bH (zj rfl rfl (by omega)) k.h
 |(with_reducible refine tQ (.binOp .sub _ _ _ _) none ?_);exact bH (zk rfl rfl (by omega)) k.h
 |(with_reducible refine tQ (.pick _ _ _) none ?_);exact bH (zb rfl rfl rfl) k.h
 |(with_reducible refine tQ (.pick _ _ _) none ?_);exact bH (za rfl rfl rfl) k.h
 |(with_reducible refine tQ (.unOp _ _ _) none ?_);exact bH (nj rfl) k.h
 |(with_reducible refine tQ (.binOp _ _ _ _ _) none ?_);exact bH (et rfl rfl rfl) k.h
 |(with_reducible refine tQ (.nilCheck _) none ?_);exact bH (jy rfl) k.h
 |(with_reducible refine tQ (.call _) none ?_);exact bH (uy rfl) k.h):G:=h ⟨k⟩
theorem Gg{G G':Prop}(k:G')(h:Wr G'->G:=by
 intro k
 first
 |(with_reducible refine tS (.move _) (some (_,false)) ?_);exact bP rfl rfl rfl (fun hg=>Ry.yl (bl rfl)) k.h
 |(with_reducible refine tS (.fieldAddr _ _ _) (some (_,false)) ?_);exact bP rfl rfl rfl (fun hg=>Ry.yl (Ry.n rfl)) k.h
 |(with_reducible refine tS (.load _ _) (some (_,false)) ?_);exact bP rfl rfl rfl (fun hg=>Ry.yl (bW (aE hg rfl))) k.h
 |(with_reducible refine tS (.binOp _ _ _ _ _) (some (_,false)) ?_);exact bP rfl rfl rfl (fun hg=>Ry.yl (et (aE hg rfl) rfl rfl)) k.h
 |(with_reducible refine tS (.binOp _ _ _ _ _) (some (_,false)) ?_);exact bP rfl rfl rfl (fun hg=>Ry.yl (et (aE hg rfl) (aE hg rfl) rfl)) k.h
 |(with_reducible refine tS (.call _) (some (_,false)) ?_);exact bP rfl rfl rfl (fun hg=>Ry.yl (uy (aE hg rfl))) k.h
 |(with_reducible refine tS (.move _) (some (_,true)) ?_);exact gE rfl rfl rfl (fun hg=>Ry.yl (bl rfl)) k.h
 |(with_reducible refine tS (.fieldAddr _ _ _) (some (_,true)) ?_);exact gE rfl rfl rfl (fun hg=>Ry.yl (Ry.n rfl)) k.h
 |(with_reducible refine tS (.load _ _) (some (_,true)) ?_);exact gE rfl rfl rfl (fun hg=>Ry.yl (bW (aE hg rfl))) k.h
 |(with_reducible refine tS (.binOp _ _ _ _ _) (some (_,true)) ?_);exact gE rfl rfl rfl (fun hg=>Ry.yl (et (aE hg rfl) rfl rfl)) k.h
 |(with_reducible refine tS (.binOp _ _ _ _ _) (some (_,true)) ?_);exact gE rfl rfl rfl (fun hg=>Ry.yl (et (aE hg rfl) (aE hg rfl) rfl)) k.h
 |(with_reducible refine tS (.call _) (some (_,true)) ?_);exact gE rfl rfl rfl (fun hg=>Ry.yl (uy (aE hg rfl))) k.h):G:=h ⟨k⟩
theorem Gh{G G':Prop}(k:G')(h:Wr G'->G:=by
 intro k
 first
 |(with_reducible refine tQ (.move _) (some (_,false)) ?_);exact fL rfl rfl rfl (fun hg=>Ry.yl (bl rfl)) k.h
 |(with_reducible refine tQ (.fieldAddr _ _ _) (some (_,false)) ?_);exact fL rfl rfl rfl (fun hg=>Ry.yl (Ry.n rfl)) k.h
 |(with_reducible refine tQ (.load _ _) (some (_,false)) ?_);exact fL rfl rfl rfl (fun hg=>Ry.yl (bW (aE hg rfl))) k.h
 |(with_reducible refine tQ (.binOp _ _ _ _ _) (some (_,false)) ?_);exact fL rfl rfl rfl (fun hg=>Ry.yl (et (aE hg rfl) rfl rfl)) k.h
 |(with_reducible refine tQ (.binOp _ _ _ _ _) (some (_,false)) ?_);exact fL rfl rfl rfl (fun hg=>Ry.yl (et (aE hg rfl) (aE hg rfl) rfl)) k.h
 |(with_reducible refine tQ (.call _) (some (_,false)) ?_);exact fL rfl rfl rfl (fun hg=>Ry.yl (uy (aE hg rfl))) k.h
 |(with_reducible refine tQ (.move _) (some (_,true)) ?_);exact fQ rfl rfl rfl (fun hg=>Ry.yl (bl rfl)) k.h
 |(with_reducible refine tQ (.fieldAddr _ _ _) (some (_,true)) ?_);exact fQ rfl rfl rfl (fun hg=>Ry.yl (Ry.n rfl)) k.h
 |(with_reducible refine tQ (.load _ _) (some (_,true)) ?_);exact fQ rfl rfl rfl (fun hg=>Ry.yl (bW (aE hg rfl))) k.h
 |(with_reducible refine tQ (.binOp _ _ _ _ _) (some (_,true)) ?_);exact fQ rfl rfl rfl (fun hg=>Ry.yl (et (aE hg rfl) rfl rfl)) k.h
 |(with_reducible refine tQ (.binOp _ _ _ _ _) (some (_,true)) ?_);exact fQ rfl rfl rfl (fun hg=>Ry.yl (et (aE hg rfl) (aE hg rfl) rfl)) k.h
 |(with_reducible refine tQ (.call _) (some (_,true)) ?_);exact fQ rfl rfl rfl (fun hg=>Ry.yl (uy (aE hg rfl))) k.h):G:=h ⟨k⟩
theorem tR{P:Program}{N:ct}{w0:World}{Q:Exit->Act->World->Prop}{env:Env}{L:List aj}{id:Nat}{l:Array Oper}(h:Cw P N w0 Q (.region id l false) env L):Cw P N w0 Q (.region id l false) env L:=h
theorem Gc{G G':Prop}(k:G')(h:Wr G'->G:=by
 intro k
 repeat (first
  |(with_reducible refine D8 ?_)
  |(with_reducible refine Ed ?_)
  |(with_reducible refine D6 ?_)
  |(with_reducible refine Nx ?_)
  |(with_reducible refine Ib ?_)
  |(with_reducible refine NA ?_)
  |(with_reducible refine Nz ?_)
  |(with_reducible refine Nw ?_)
  |(with_reducible refine NF ?_)
  |(with_reducible refine NC ?_)
  |(with_reducible refine NB ?_)
  |(with_reducible refine Ny ?_)
  |(with_reducible refine O7 ?_)
  |(with_reducible refine Nr ?_)
  |(with_reducible refine tR ?_);refine D9 ?_)
 exact k.h):G:=h ⟨k⟩
theorem Gi{G G':Prop}(k:G')(h:Wr G'->G:=by
 intro k
 first
  |(with_reducible refine D8 ?_)
  |(with_reducible refine Ed ?_)
  |(with_reducible refine D6 ?_)
  |(with_reducible refine Nx ?_)
  |(with_reducible refine Ib ?_)
  |(with_reducible refine NA ?_)
  |(with_reducible refine Nz ?_)
  |(with_reducible refine Nw ?_)
  |(with_reducible refine NF ?_)
  |(with_reducible refine NC ?_)
  |(with_reducible refine NB ?_)
  |(with_reducible refine Ny ?_)
  |(with_reducible refine O7 ?_)
  |(with_reducible refine Nr ?_)
  |(with_reducible refine tR ?_);refine D9 ?_
 exact k.h):G:=h ⟨k⟩
theorem bz{p q:Prop}(h:p)(e:p=q:=by(try simp only[Z0,Z1,Z2,Z3,Z4,Z5,Z6,Z7,Z8,Z9]);exact rfl):q:=e▸h
theorem YG{P:Program}{N:ct}{w0:World}{l:List Oper}{Q:Exit->Act->World->Prop}{rest:List Oper}{env:Env}{L:List aj}{d:Option Tmp}{ty:TypeId}{ps:String}{af:Array Edge}{op:Op}(h:Sq P N w0 l Q (⟨d,op,ty,ps,af,none⟩::rest) env L):Sq P N w0 l Q (⟨d,op,ty,ps,af,none⟩::rest) env L:=h
theorem YH{P:Program}{N:ct}{w0:World}{l:List Oper}{Q:Exit->Act->World->Prop}{rest:List Oper}{env:Env}{L:List aj}{d:Option Tmp}{ty:TypeId}{ps:String}{af:Array Edge}{op:Op}{g:Nat×Bool}(h:Sq P N w0 l Q (⟨d,op,ty,ps,af,some g⟩::rest) env L):Sq P N w0 l Q (⟨d,op,ty,ps,af,some g⟩::rest) env L:=h
theorem YI{P:Program}{N:ct}{w0:World}{l:List Oper}{fs:List Nat}{F:Act->Prop}{k:Nat}{rest:List Oper}{env:Env}{L:List aj}{d:Option Tmp}{ty:TypeId}{ps:String}{af:Array Edge}{op:Op}(h:Qt P N w0 l fs F k (⟨d,op,ty,ps,af,none⟩::rest) env L):Qt P N w0 l fs F k (⟨d,op,ty,ps,af,none⟩::rest) env L:=h
theorem YJ{P:Program}{N:ct}{w0:World}{l:List Oper}{fs:List Nat}{F:Act->Prop}{k:Nat}{rest:List Oper}{env:Env}{L:List aj}{d:Option Tmp}{ty:TypeId}{ps:String}{af:Array Edge}{op:Op}{g:Nat×Bool}(h:Qt P N w0 l fs F k (⟨d,op,ty,ps,af,some g⟩::rest) env L):Qt P N w0 l fs F k (⟨d,op,ty,ps,af,some g⟩::rest) env L:=h
theorem Gz{G G':Prop}(k:G')(h:Wr G'->G:=by
 intro k
 first
 |(with_reducible refine YG ?_);refine Gs ?_;exact k.h
 |(with_reducible refine YH ?_);refine Gg ?_;exact k.h
 |(with_reducible refine YI ?_);refine Gq ?_;exact k.h
 |(with_reducible refine YJ ?_);refine Gh ?_;exact k.h
 |refine Gc ?_;exact k.h):G:=h ⟨k⟩
theorem ay{G G':Prop}(k:G')(h:Wr G'->G:=by intro k;(iterate 2 (refine Gz ?_));exact k.h):G:=h ⟨k⟩
theorem al{G G':Prop}(k:G')(h:Wr G'->G:=by intro k;(iterate 3 (refine Gz ?_));exact k.h):G:=h ⟨k⟩
theorem au{G G':Prop}(k:G')(h:Wr G'->G:=by intro k;(iterate 4 (refine Gz ?_));exact k.h):G:=h ⟨k⟩
theorem aO{G G':Prop}(k:G')(h:Wr G'->G:=by intro k;(iterate 5 (refine Gz ?_));exact k.h):G:=h ⟨k⟩
theorem aY{G G':Prop}(k:G')(h:Wr G'->G:=by intro k;(iterate 6 (refine Gz ?_));exact k.h):G:=h ⟨k⟩
theorem c6{G G':Prop}(k:G')(h:Wr G'->G:=by intro k;(iterate 7 (refine Gz ?_));exact k.h):G:=h ⟨k⟩
theorem fx{G G':Prop}(k:G')(h:Wr G'->G:=by intro k;(iterate 8 (refine Gz ?_));exact k.h):G:=h ⟨k⟩
theorem ik{G G':Prop}(k:G')(h:Wr G'->G:=by intro k;(iterate 9 (refine Gz ?_));exact k.h):G:=h ⟨k⟩
theorem rW{G G':Prop}(k:G')(h:Wr G'->G:=by intro k;(iterate 10 (refine Gz ?_));exact k.h):G:=h ⟨k⟩
theorem pB{G G':Prop}(k:G')(h:Wr G'->G:=by intro k;(iterate 11 (refine Gz ?_));exact k.h):G:=h ⟨k⟩
theorem Cb{G G':Prop}(k:G')(h:Wr G'->G:=by intro k;(iterate 12 (refine Gz ?_));exact k.h):G:=h ⟨k⟩
theorem Jb{G G':Prop}(k:G')(h:Wr G'->G:=by intro k;(iterate 13 (refine Gz ?_));exact k.h):G:=h ⟨k⟩
theorem Pc{G G':Prop}(k:G')(h:Wr G'->G:=by intro k;(iterate 14 (refine Gz ?_));exact k.h):G:=h ⟨k⟩
theorem YK{G G':Prop}(k:G')(h:Wr G'->G:=by intro k;(iterate 15 (refine Gz ?_));exact k.h):G:=h ⟨k⟩
theorem Jc{G G':Prop}(k:G')(h:Wr G'->G:=by intro k;(iterate 16 (refine Gz ?_));exact k.h):G:=h ⟨k⟩
theorem Pd{G G':Prop}(k:G')(h:Wr G'->G:=by intro k;(iterate 17 (refine Gz ?_));exact k.h):G:=h ⟨k⟩
theorem Pe{G G':Prop}(k:G')(h:Wr G'->G:=by intro k;(iterate 18 (refine Gz ?_));exact k.h):G:=h ⟨k⟩
theorem YL{G G':Prop}(k:G')(h:Wr G'->G:=by intro k;(iterate 19 (refine Gz ?_));exact k.h):G:=h ⟨k⟩
theorem YM{G G':Prop}(k:G')(h:Wr G'->G:=by intro k;(iterate 20 (refine Gz ?_));exact k.h):G:=h ⟨k⟩
theorem YN{G G':Prop}(k:G')(h:Wr G'->G:=by intro k;(iterate 21 (refine Gz ?_));exact k.h):G:=h ⟨k⟩
theorem YO{G G':Prop}(k:G')(h:Wr G'->G:=by intro k;(iterate 22 (refine Gz ?_));exact k.h):G:=h ⟨k⟩
theorem YP{G G':Prop}(k:G')(h:Wr G'->G:=by intro k;(iterate 24 (refine Gz ?_));exact k.h):G:=h ⟨k⟩
theorem YQ{G G':Prop}(k:G')(h:Wr G'->G:=by intro k;(iterate 27 (refine Gz ?_));exact k.h):G:=h ⟨k⟩
theorem YR{G G':Prop}(k:G')(h:Wr G'->G:=by intro k;(iterate 28 (refine Gz ?_));exact k.h):G:=h ⟨k⟩
theorem Pf{G G':Prop}(k:G')(h:Wr G'->G:=by intro k;(iterate 29 (refine Gz ?_));exact k.h):G:=h ⟨k⟩
theorem YS{G G':Prop}(k:G')(h:Wr G'->G:=by intro k;(iterate 31 (refine Gz ?_));exact k.h):G:=h ⟨k⟩
theorem lj{G G':Prop}(k:G')(h:Wr G'->G:=by intro k;(iterate 2 (refine Gi ?_));exact k.h):G:=h ⟨k⟩
theorem kE{G G':Prop}(k:G')(h:Wr G'->G:=by intro k;(iterate 3 (refine Gi ?_));exact k.h):G:=h ⟨k⟩
theorem Jd{G G':Prop}(k:G')(h:Wr G'->G:=by intro k;(iterate 4 (refine Gi ?_));exact k.h):G:=h ⟨k⟩
theorem YT{G G':Prop}(k:G')(h:Wr G'->G:=by intro k;(iterate 5 (refine Gi ?_));exact k.h):G:=h ⟨k⟩
theorem mo{G G':Prop}(k:G')(h:Wr G'->G:=by intro k;(iterate 6 (refine Gi ?_));exact k.h):G:=h ⟨k⟩
theorem YU{G G':Prop}(k:G')(h:Wr G'->G:=by intro k;(iterate 7 (refine Gi ?_));exact k.h):G:=h ⟨k⟩
theorem Gb{G p q A B:Prop}(a:p->A)(b:q->B)(h:Wr (p->A)->Wr (q->B)->G:=by
 intro a b;refine je rfl (fun h=>?_) (fun h=>?_)
 ·
  exact a.h (bz h)
 exact b.h (bz h)):G:=h ⟨a⟩ ⟨b⟩
theorem Gr{P:Program}{fn:Func}{w0:World}{L:List aj}{env:Env}{R:Ending->World->Prop}{n:Nat}{e:Exit}{v:Value}(h: ∀w,Mem w0 L w->R (.returned v) w)(he:e= .ret\/e= .normal:=by exact .inl rfl)(hr: ∀a w,dh ⟨n,[],none⟩ env a->Mem w0 L w->(results fn a.tmps).run P w= .ok v w:=by
 first
 |exact NL rfl (zv rfl)
 |exact WM rfl (by first|exact zv rfl|exact zw rfl) (by first|exact zv rfl|exact zw rfl)
 |exact WN rfl (by first|exact zv rfl|exact zw rfl) (by first|exact zv rfl|exact zw rfl) (by first|exact zv rfl|exact zw rfl)
 |exact NL rfl (zw rfl)):Ex ⟨n,[],none⟩ w0 (rE P fn R) e env L:=gP he hr h
theorem Ge{a b:Bool}{w0 w1:World}{L M:List aj}[hk:ai L M](h:a=b)(hw:Mem w0 L w1):Ending.returned (.bool a)= .returned (.bool b)/\Mem w0 M w1:=⟨by rw[h],ai.mem hw⟩
theorem Gf{a b:Int}{k:IntKind}{w0 w1:World}{L M:List aj}[hk:ai L M](h:a=b)(hw:Mem w0 L w1):Ending.returned (.int k a)= .returned (.int k b)/\Mem w0 M w1:=⟨by rw[h],ai.mem hw⟩
theorem Gk{P:Program}{f:FuncId}{a:Array Value}{w0 w:World}{L:List aj}{X:Type}{val:X->Value}{pr:X->Prop}(E:X->List aj)(hw:Mem w0 L w)(h:Calls P f a w fun e w'=> ∃x,e= .returned (val x)/\pr x/\Mem w (E x) w'):Calls P f a w fun e w'=> ∃x,e= .returned (val x)/\pr x/\Mem w0 (E x++L) w':=h.mono fun e w' ⟨x,h1,h2,h3⟩=>⟨x,h1,h2,hw.call h3⟩
theorem sb{e e':Env}(h:Sub e e':=by repeat (first|exact Sub.nil _|refine Sub.cons rfl ?_)):Sub e e':=h
theorem oM{p:Prop}(h:p:=by omega):p:=h
theorem oF{p:Prop}(h:p:=by first|omega|(simp only[];omega)):p:=h
theorem oK{p:Prop}(h:p:=by kernel_rfl):p:=h
theorem YV{P:Program}{fn:Func}{R:Ending->World->Prop}{N:Nat}{f:FuncId}{c:Code}{w:World}(hf:P.funcs[f]? =some fn)(hb:fn.body=some c)(hN:fn.ntmps=N)(hle:Nat.ble 0 N=true)(h:Cw P ⟨N,[],none⟩ w (rE P fn R) c [] []):Calls P f #[] w R:=zq (args:=[]) hf hb hN hle h
theorem cC{P:Program}{fn:Func}{R:Ending->World->Prop}{N:Nat}{f:FuncId}{c:Code}{w:World}{v0:Value}(hf:P.funcs[f]? =some fn)(hb:fn.body=some c)(hN:fn.ntmps=N)(hle:Nat.ble 1 N=true)(h:Cw P ⟨N,[],none⟩ w (rE P fn R) c [(0,v0)] []):Calls P f #[v0] w R:=zq (args:=[v0]) hf hb hN hle h
theorem cQ{P:Program}{fn:Func}{R:Ending->World->Prop}{N:Nat}{f:FuncId}{c:Code}{w:World}{v0 v1:Value}(hf:P.funcs[f]? =some fn)(hb:fn.body=some c)(hN:fn.ntmps=N)(hle:Nat.ble 2 N=true)(h:Cw P ⟨N,[],none⟩ w (rE P fn R) c [(0,v0),(1,v1)] []):Calls P f #[v0,v1] w R:=zq (args:=[v0,v1]) hf hb hN hle h
theorem wi{P:Program}{fn:Func}{R:Ending->World->Prop}{N:Nat}{f:FuncId}{c:Code}{w:World}{v0 v1 v2:Value}(hf:P.funcs[f]? =some fn)(hb:fn.body=some c)(hN:fn.ntmps=N)(hle:Nat.ble 3 N=true)(h:Cw P ⟨N,[],none⟩ w (rE P fn R) c [(0,v0),(1,v1),(2,v2)] []):Calls P f #[v0,v1,v2] w R:=zq (args:=[v0,v1,v2]) hf hb hN hle h
theorem Je{P:Program}{fn:Func}{R:Ending->World->Prop}{N:Nat}{f:FuncId}{c:Code}{w:World}{v0 v1 v2 v3:Value}(hf:P.funcs[f]? =some fn)(hb:fn.body=some c)(hN:fn.ntmps=N)(hle:Nat.ble 4 N=true)(h:Cw P ⟨N,[],none⟩ w (rE P fn R) c [(0,v0),(1,v1),(2,v2),(3,v3)] []):Calls P f #[v0,v1,v2,v3] w R:=zq (args:=[v0,v1,v2,v3]) hf hb hN hle h
theorem zW{A X V:List Value}{o:Nat}(h:o=A.length):over (A++X).toArray o V.toArray=(A++(V++X.drop V.length)).toArray:=by
 subst h;unfold over;simp only[arO,aq6];rw[List.take_left,List.drop_append];simp
section
variable {α:Type} {enc:α->Array Value} {c:Nat} {s:Sv} {xs:List α}
theorem xO(xs ys:List α):aJ enc (xs++ys)=aJ enc xs++aJ enc ys:=by simp[aJ]
theorem YW[he:bm enc c](hc:0<c){cs:Array Value}{o:Nat}(eZ:o+xs.length*c<=cs.size)(hr: ∀i x,xs[i]? =some x-> ∀j,j<c->cs[o+i*c+j]? =(enc x)[j]?):
  cs=(cs.toList.take o++(aJ enc xs++cs.toList.drop (o+xs.length*c))).toArray:=by
 have key:(cs.toList.drop o).take (xs.length*c)=aJ enc xs:=by
  refine arS fun k=>?_;rcases aqX k (xs.length*c)with hk|hk
  ·
   rw[List.getElem?_take_of_lt hk,asa,Array.getElem?_toList];have hd:k/c<xs.length:=atG (by rwa [asj]);have hm:=asX k hc;have e:k/c*c+k%c=k:=by rw[asj];exact asY k c
   have h1:=hr (k/c) xs[k/c] (by simp[hd]) (k%c) hm;have h2:=np (enc:=enc) xs (k/c) xs[k/c] (by simp[hd]) (k%c) hm;rw[e]at h2;rw[h2,←h1];congr 1;omega
  ·
   rw[aqV (by simp;omega),aqV (by rw[gQ];omega)]
 apply atF;simp only;rw[←key,←aq6,show o+xs.length*c=o+xs.length*c from rfl,←asS,aq6,arC,arC]
theorem Jf{a b:Nat}(h:a<=b):a=Nat.min a b:=(atb h).symm
theorem YX{a b:Nat}(h:b<=a):b=Nat.min a b:=(Nat.min_eq_right h).symm
theorem YY[he:bm enc c](hc:1<c){w0 w:World}{L:List aj}{i:Nat}(hw:Mem w0 L w)(hi:L[i]? =some (own enc c s xs))(hn:s.nil=false):
  ∃pre mid T,pre.length=s.o/\s.o+s.cap*c<=pre.length+(xs.length*c+mid.length)/\s.sp=none/\s.Ok/\s.len=xs.length/\Mem w0 (L.set i (ar s.b (pre++(aJ enc xs++mid)).toArray T)) w:=by
 obtain⟨r,oh⟩:=hw.get hi;obtain⟨gv,cs,T,fz,fj,eZ,mR,nt⟩:=oh hn;obtain rfl:=nt hc;have hle:=r.ok.le;have hlen:=r.len;have hm:xs.length*c<=s.cap*c:=ara _ (by omega);have e:=YW (enc:=enc) (c:=c) (xs:=xs) (cs:=cs) (o:=s.o) (by omega) (by omega) fun i x hx j hj=>by
  rw[←r.row i x hx j hj];unfold mQ;rw[fj]
 refine⟨cs.toList.take s.o,cs.toList.drop (s.o+xs.length*c),T,by simp;omega,by simp;omega,gv,r.ok,hlen,?_⟩;rw[←e];exact hw.change hi (fun k (hk:k=s.b)=>⟨hn,hk⟩) (fun _ _=>rfl) rfl ⟨rfl,rfl,rfl⟩ fj
theorem Jg[he:bm enc c]{w0 w:World}{L:List aj}{i b:Nat}{pre mid:List Value}{T:TypeId}(hw:Mem w0 L w)(hi:L[i]? =some (ar b (pre++(aJ enc xs++mid)).toArray T))(s':Sv)(bF:s'.Ok)(hn:s'.nil=false)(hb:s'.b=b)(gv:s'.sp=none)(ho:s'.o=pre.length)(hl:s'.len=xs.length)
  (uw:s'.o+s'.cap*c<=pre.length+(xs.length*c+mid.length)):Mem w0 (L.set i (own enc c s' xs)) w:=by
 subst hb;have fj:hp w s'.b=some (.cells (pre++(aJ enc xs++mid)).toArray T (0,0)):=hw.block hi;refine hw.change hi (fun k hk=>hk.2) (fun _ _=>rfl) rfl ⟨rfl,rfl,rfl⟩ ⟨vQ bF hl fj fun k y hy j hj=>?_,fun _=>⟨gv,_,_,_,fj,by simp[gQ];omega,Ie _,fun _=>rfl⟩⟩;have bb:k*c+j<(aJ enc xs).length:=by
  rw[gQ];have h1:=(ad2.1 hy).1
  calc k*c+j<k*c+c:=by omega
   _=(k+1)*c:=by rw[ars];omega
   _<=_:=ara _ h1
 rw[aso,aq3 (by omega),aq4 (by omega),←np (enc:=enc) xs k y hy j hj];congr 1;omega
theorem Sv.wj{lo hi:Nat}(h:lo<s.cap):(s.sub c lo hi).o=s.o+lo*c:=by simp only[Sv.sub];rw[if_neg (by omega)]
theorem Sv.Cc{hi:Nat}:(s.sub c 0 hi).o=s.o:=by simp only[Sv.sub];split<;>simp
theorem Sv.sub_eq{hi:Nat}(hn:s.nil=false)(gv:s.sp= .none):s.sub c 0 hi=⟨false,s.b,s.o,hi,s.cap, .none⟩:=by
 have h0:=Sv.Cc (s:=s) (c:=c) (hi:=hi);obtain⟨sn,sb,so,sl,sc,ss⟩:=s;simp only[Sv.sub]at h0 hn gv⊢;subst hn gv;rw[h0];rfl
end
section
variable {P:Program} {N:ct} {w0:World} {env:Env} {L:List aj} {Q:Exit->Act->World->Prop} {l rest:List Oper} {d:Option Tmp} {ty:TypeId} {ps:String} {af:Array Edge} {gd:Option (Nat×Bool)} {K:Value->List aj->Prop}
variable {α:Type} {enc:α->Array Value} {c:Nat} {s:Sv} {xs:List α}
theorem YZ{w:World}{pre A mid:List Value}{T:TypeId}{b o:Nat}{L':List aj}(hw:Mem w0 (ar b (pre++(A++mid)).toArray T::L') w)(ho:pre.length=o){j:Nat}{u:Value}(hj:A[j]? =some u):w.cell? ⟨b,o+j,none⟩=some u:=by
 have iO:=(ad2.1 hj).1;have h0:(ar b (pre++(A++mid)).toArray T::L')[0]? =some (ar b (pre++(A++mid)).toArray T):=rfl;rw[hw.cell h0,aso,aq3 (by omega),aq4 (by omega),←hj];congr 1;omega
theorem Pg{code:Code}[he:bm enc c]{i:Nat}(q:fw L s enc c xs i)(hc:1<c)(hn:0<xs.length){L':List Value->List Value->TypeId->List aj}[hu: ∀pre mid T,fu L i (ar s.b (pre++(aJ enc xs++mid)).toArray T) (L' pre mid T)]
  (h: ∀pre mid T,pre.length=s.o->s.o+s.cap*c<=pre.length+(xs.length*c+mid.length)->s.nil=false->s.sp=none->s.Ok->s.len=xs.length->Cw P N w0 Q code env (L' pre mid T)):Cw P N w0 Q code env L:=fun a w ha hw=>by
 have ow:=(hw.get q.h).1.some hn;obtain⟨pre,mid,T,h1,h2,h3,h4,h5,h6⟩:=YY hc hw q.h ow;rw[(hu pre mid T).h]at h6;exact h pre mid T h1 h2 ow h3 h4 h5 a w ha h6
theorem EW{code:Code}{i:Nat}(q:fw L s enc c xs i)(hn:0<xs.length)(h:s.nil=false->s.sp=none->s.Ok->s.len=xs.length->Cw P N w0 Q code env L):Cw P N w0 Q code env L:=fun a w ha hw=>by
 obtain⟨r,oh⟩:=hw.get q.h;have ow:=r.some hn;exact h ow (oh ow).1 r.ok r.len a w ha hw
theorem Ph[he:bm enc c](hc:0<c){i:Nat}(q:fw L s enc c xs i){w:World}(hw:Mem w0 L w){j:Nat}{v:Value}(hj:(aJ enc xs)[j]? =some v):w.cell? ⟨s.b,s.o+j,none⟩=some v:=by
 obtain⟨x,hx,hv⟩:=Ei hc hj;have r:=(hw.get q.h).1;rw[rI,←hv,←r.row _ x hx (j%c) (asX _ hc)];congr 1;have:=asY j c;rw[asj]at this;omega
theorem Y0(w:World)(dT sT ty elem:TypeId)(b o Pj Y1:Nat)(a:Addr)(Pk Y2 n:Nat)(cur:Array Value)(t:TypeId)(vs:List Value)
  (hu:P.underlying dT=some (.slice elem)) (hs:(P.info? elem).map (·.size)=some c) (hg:w.heap[b]? =some (.cells cur t (0,0))) (hn:n=Nat.min Pk Pj) (hv:vs.length=n*c)
  (mO: ∀j v,vs[j]? =some v->w.cell? (a.add j)=some v) (jf:o+vs.length<=cur.size) (h1: ∀v∈vs,v.oneCell'=true):
  (Builtin.copy_ #[dT,sT] ty #[.slice (some ⟨b,o,none⟩) Pj Y1, .slice (some a) Pk Y2]).run P w= .ok (goInt n) (w.setRow b (over cur o vs.toArray)):=by
 have hl:=run_loadCells_list (P:=P) w a vs mO;have bu:=run_storeCells_at P b o t vs 0 cur w hg (by simpa using jf) h1;rw[hv]at hl
 cases hq:P.info? elem with
 |none=>simp[hq]at hs
 |some i=>
  have hi:i.size=c:=by simpa[hq]using hs
  simp[Builtin.copy_,run_underlying hu,Builtin.lenOf,Builtin.firstCells,sizeOf,typeInfo,hq,hi,←hn,hl,bu,over]
theorem EX{D S:Sv}{x y:Operand}{tx gu e:TypeId}{i b o n:Nat}{cs:Array Value}{T:TypeId}{vs:List Value}(hx:ev env x=some D.val)(hy:ev env y=some S.val)
  (mU:D.nil=false) (ox:D.sp=none) (qj:D.b=b) (rX:D.o=o) (Cd:S.nil=false) (Ce:S.sp=none) [ht:fh P tx e c] [hh:Has L b cs T i] (hn:n=Nat.min S.len D.len) (hv:vs.length=n*c)
  (mO: ∀w,Mem w0 L w-> ∀j v,vs[j]? =some v->w.cell? ⟨S.b,S.o+j,none⟩=some v) (h1: ∀v∈vs,v.oneCell'=true) (ho:o+vs.length<=cs.size) {cs':Array Value} {L':List aj} (hQ:over cs o vs.toArray=cs') [hu:fu L i (ar b cs' T) L']
  (hk:Sq P N w0 l Q rest (cB env d (.int .i64 n)) L') (hd:dn N d=true:=by rfl):
  Sq P N w0 l Q (⟨d, .call {callee:= .builtin .copy,args:= #[x,y],argTypes:= #[tx,gu]},ty,ps,af,none⟩::rest) env L:=
 oc rfl hd fun aa w ha hw=>by
  rw[Sv.ig mU,ox,qj,rX]at hx;rw[Sv.ig Cd,Ce]at hy;have hb:=hw.block hh.h;have gq:=Y0 (P:=P) w tx gu ty e b o D.len D.cap ⟨S.b,S.o,none⟩ S.len S.cap n cs T vs ht.eU ht.size hb hn hv (fun j v hj=>by rw[Addr.gN];exact mO w hw j v hj) ho h1;refine⟨_,_,_,?_,by rw[←hu.h,←hQ];exact hw.setRow hh.h _,hk⟩;simp[execOp,ha.ev hx,ha.ev hy,resolve,invoke,builtin,gq,Result.andThen,goInt]
theorem Y3{D S:Sv}{x y:Operand}{tx gu e e':TypeId}{cE i b o n:Nat}{cs:Array Value}{T:TypeId}{vs:List Value}(hx:ev env x=some D.val)(hy:ev env y=some S.val)
  (mU:D.nil=false) (ox:D.sp=none) (qj:D.b=b) (rX:D.o+D.len*c=o) (Cd:S.nil=false) (Ce:S.sp=none) [ht:fa P tx e c cE] (zX:P.underlying gu=some (.slice e')) [hh:Has L b cs T i] (hn:S.len=n) (hv:vs.length=n*c) (om:D.len+n<=D.cap)
  (mO: ∀w,Mem w0 L w-> ∀j v,vs[j]? =some v->w.cell? ⟨S.b,S.o+j,none⟩=some v) (h1: ∀v∈vs,v.oneCell'=true) (ho:o+vs.length<=cs.size) {cs':Array Value} {L':List aj} (hQ:over cs o vs.toArray=cs') [hu:fu L i (ar b cs' T) L']
  {R:Sv} (hR:R=⟨false,b,D.o,D.len+n,D.cap,none⟩) (hk:Sq P N w0 l Q rest (cB env d R.val) L') (hd:dn N d=true:=by rfl):
  Sq P N w0 l Q (⟨d, .call {callee:= .builtin .append,args:= #[x,y],argTypes:= #[tx,gu]},ty,ps,af,none⟩::rest) env L:=
 oc rfl hd fun aa w ha hw=>by
  subst hR rX qj;rw[Sv.ig mU,ox]at hx;rw[Sv.ig Cd,Ce,hn]at hy;have hb:=hw.block hh.h;obtain⟨i',z,bc,aH,bB,cT,nq⟩:=ht.info;have hs:=Src.ofSlice (P:=P) (size:=c) w zX ⟨S.b,S.o,none⟩ n S.cap vs hv (fun j v hj=>by rw[Addr.gN];exact mO w hw j v hj) h1;have bu:=run_storeCells_at P D.b (D.o+D.len*c) T vs 0 cs w hb (by simpa using ho) h1;have gq:(Builtin.append_ #[tx,gu] ty #[.slice (some ⟨D.b,D.o,none⟩) D.len D.cap, .slice (some ⟨S.b,S.o,none⟩) n S.cap]).run P w= .ok (.slice (some ⟨D.b,D.o,none⟩) (D.len+n) D.cap) (w.setRow D.b (over cs (D.o+D.len*c) vs.toArray)):=by
   subst bB;rcases hs.kind with⟨e',hk⟩|hk<;>simp[Builtin.append_,run_underlying ht.eU,run_underlying hk,sizeOf,typeInfo,bc,hs.len,om,hs.cells,Addr.gN,bu,over]
  refine⟨_,_,_,?_,by rw[←hu.h,←hQ];exact hw.setRow hh.h _,hk⟩;simp[execOp,ha.ev hx,ha.ev hy,resolve,invoke,builtin,gq,Result.andThen,Sv.val]
theorem Y4{D:Sv}{x y:Operand}{tx gu e:TypeId}{cE k:Nat}{z:Value}{olds:List Value}{kn kq:IntKind}{iy:Int}{p m:Nat}(hp:D.len=p)(hm:p+k=m)(hx:ev env x=some D.val)(hy:ev env y=some (.int kq iy))(nG:iy=(k:Int))(h0:0<k)
  (mU:D.nil=false) (ox:D.sp=none) [ht:fa P tx e c cE] (hc:0<c) [hz:eI P e z] (Jh:P.underlying gu=some (.int kn)) (holds:olds.length=D.len*c) (mO: ∀w,Mem w0 L w-> ∀j v,olds[j]? =some v->w.cell? ⟨D.b,D.o+j,none⟩=some v)
  (hg:D.cap<D.len+k) (hb:(D.len+k)*cE<=140737488355328) (ju:D.len+k<=140737488355328)
  (hk: ∀(b C:Nat) (Z:List Value),m<=C->p*c+Z.length=C*c->Sq P N w0 l Q rest (cB env d (Sv.val ⟨false,b,0,m,C,none⟩)) (ar b (olds++Z).toArray e::L)) (hd:dn N d=true:=by rfl):
  Sq P N w0 l Q (⟨d, .call {callee:= .builtin .append,args:= #[x,y],argTypes:= #[tx,gu]},ty,ps,af,none⟩::rest) env L:=
 oc rfl hd fun aa w ha hw=>by
  subst nG hp hm;rw[Sv.ig mU,ox]at hx;obtain⟨i',z',bc,aH,bB,cT,nq⟩:=ht.info;subst bB cT;have uw:=nextslicecap_le hg;have jf:Builtin.nextslicecap (D.len+k) D.cap*i'.bytes<=281474976710656:=by
   have h2:Builtin.nextslicecap (D.len+k) D.cap*i'.bytes<=2*(D.len+k)*i'.bytes:=ara _ uw;rw[Nat.mul_assoc]at h2;omega
  have Ji:k*i'.bytes<=281474976710656:=by
   have:k*i'.bytes<=(D.len+k)*i'.bytes:=ara _ (by omega);omega
  have hold:=run_firstCells_some (P:=P) w.drew i'.size D.len ⟨D.b,D.o,none⟩ D.len D.cap olds holds (fun j v hj=>by rw[Addr.gN];exact mO w hw j v hj);have gq:=Lib.run_append_grow_zeros (P:=P) w tx gu ty e i' z' kq kn ht.eU Jh bc aH (some ⟨D.b,D.o,none⟩) D.len D.cap olds hold k h0 hc hg (by omega) Ji jf;have s0:=grownCap_ge w (D.len+k) D.cap e;generalize grownCap w (D.len+k) D.cap e=C at gq s0;have Cf:=size_zeroCells z'.cells k;have EY:=size_zeroCells z'.cells (C -(D.len+k));rw[nq]at Cf EY;have hZ:D.len*i'.size+(Builtin.zeroCells z'.cells k++Builtin.zeroCells z'.cells (C -(D.len+k))).toList.length=C*i'.size:=by
   rw[asT,atn,Cf,EY,←ars,←ars];congr 1;omega
  have e1:olds.toArray++Builtin.zeroCells z'.cells k++Builtin.zeroCells z'.cells (C -(D.len+k))=(olds++(Builtin.zeroCells z'.cells k++Builtin.zeroCells z'.cells (C -(D.len+k))).toList).toArray:=by apply atF;simp
  rw[e1]at gq;refine⟨_,_,_,?_,hw.drew.alloc _ e,hk w.heap.size C _ s0 hZ⟩;simp[execOp,ha.ev hx,ha.ev hy,resolve,invoke,builtin,gq,Result.andThen,Sv.val]
theorem Y5{D:Sv}{x:Operand}{tx e:TypeId}{cE i b o n:Nat}{z:Value}{cs:Array Value}{T:TypeId}(hx:ev env x=some D.val)(mU:D.nil=false)(ox:D.sp=none)(qj:D.b=b)(rX:D.o=o)(hn:D.len=n)(h0:0<n)[ht:fa P tx e c cE][hz:eI P e z](h1:z.cells.all (·.oneCell')=true)[hh:Has L b cs T i](ho:o+n*c<=cs.size)
  {L':List Value->List aj} [hu: ∀Z,fu L i (ar b (over cs o Z.toArray) T) (L' Z)] (hk: ∀Z:List Value,Z.length=n*c->Sq P N w0 l Q rest env (L' Z)):
  Sq P N w0 l Q (⟨none, .call {callee:= .builtin .clear,args:= #[x],argTypes:= #[tx]},ty,ps,af,none⟩::rest) env L:=
 oc rfl rfl fun aa w ha hw=>by
  rw[Sv.ig mU,ox,qj,rX,hn]at hx;have hb:=hw.block hh.h;obtain⟨i',z',bc,aH,bB,cT,nq⟩:=ht.info;obtain rfl:z'=z:=by
   have:=hz.zero;rw[bc,arE,aH]at this;exact aqP (aqP this)
  subst bB;have hZ:=size_zeroCells z'.cells n;rw[nq]at hZ;have tm: ∀v∈(Builtin.zeroCells z'.cells n).toList,v.oneCell'=true:=fun v hv=>by
   simp only[Builtin.zeroCells,Array.toList_map,ar0]at hv;obtain⟨j,hj,rfl⟩:=hv;have qY:0<z'.cells.size:=by
    rcases asm z'.cells.size with h|h
    ·
     rw[h]at hj;simp at hj
    ·
     exact h
   rw[getElem!_pos z'.cells _ (asX _ qY)];exact(arx.1 h1) _ (Array.getElem_mem _)
  have bu:=run_storeCells_at P b o T (Builtin.zeroCells z'.cells n).toList 0 cs w hb (by simp[hZ];omega) tm;have gq:(Builtin.clear_ #[tx] ty #[.slice (some ⟨b,o,none⟩) n D.cap]).run P w= .ok (.tuple #[]) (w.setRow b (over cs o (Builtin.zeroCells z'.cells n))):=by
   obtain⟨m,rfl⟩: ∃m,n=m+1:=⟨n -1,by omega⟩;simp[Builtin.clear_,run_underlying ht.eU,zeroValue,typeInfo,bc,aH,bu,over]
  refine⟨.tuple #[],w.setRow b (over cs o (Builtin.zeroCells z'.cells n)),L' (Builtin.zeroCells z'.cells n).toList,?_,?_,hk _ (by rw[asT,hZ])⟩
  ·
   simp[execOp,ha.ev hx,resolve,invoke,builtin,gq,Result.andThen]
  ·
   have h9:=hw.setRow hh.h (over cs o (Builtin.zeroCells z'.cells n));rw[←(hu _).h];simpa using h9
def Sv.top(s:Sv)(m:Nat):Sv:=⟨s.nil,s.b,s.o,s.len,m,s.sp⟩
theorem Pm{t e:TypeId}{x lo hi mx:Operand}{l h m:Nat}{k k' Pn:IntKind}{il ih im:Int}[ht:fh P t e c](hx:ev env x=some s.val)[q:Hd w0 L s enc c xs](hl:ev env lo=some (.int k il))(hh:ev env hi=some (.int k' ih))(hm:ev env mx=some (.int Pn im))(el:il=(l:Int))(eh:ih=(h:Int))(em:im=(m:Int))(h1:l<=h)(h2:h<=m)(h3:m<=xs.length):
  Ry P N w0 env L ⟨d, .slice t x (some lo) (some hi) (some mx),ty,ps,af,gd⟩ ((s.top m).sub c l h).val:=fun a w ha hw=>by
 subst el eh em;have r:=q.h w hw;have hs:=r.ok;have hlen:=r.len;have hle:=hs.le;have ee:=zr ht.eU;have hu:P.underlying t=some (.slice (P.elem t)):=by rw[ee];exact ht.eU
 obtain⟨ad,len,cap,od⟩:=s.ex;have e3:len=s.len/\cap=s.cap/\sliced ad l h m c=((s.top m).sub c l h).val:=by
  cases hn:s.nil with
  |true=>
   rw[Sv.sX hn]at od;obtain⟨rfl,rfl,rfl⟩:=by simpa using od
   have:=hs.nil hn;have e2:((s.top m).sub c l h).nil=true:=hn;rw[Sv.sX e2];have:l=0:=by omega
   have:h=0:=by omega
   have:m=0:=by omega
   subst l h m;exact⟨by omega,by omega,by simp[sliced]⟩
  |false=>
   rw[Sv.ig hn]at od;obtain⟨rfl,rfl,rfl⟩:=by simpa using od
   have e2:((s.top m).sub c l h).nil=false:=hn;rw[Sv.ig e2];refine⟨rfl,rfl,?_⟩;simp only[sliced,Sv.sub,Sv.top]
   by_cases hc:m=l
   ·
    simp[hc]
   ·
    have gv:=hs.sp (by omega);simp[hc,gv,Addr.gN]
 obtain⟨e1,e2,e3⟩:=e3;have hr:=run_slice_lhm (P:=P) (w:=w) t ad len cap hu k k' Pn (l:Int) (h:Int) (m:Int) (by omega) (by omega) (by omega) (by omega);rw[ee,kY w ht.size]at hr;simp only[Result.andThen,arN,e3]at hr;simp only[execOp,ha.ev hx,ha.ev hl,ha.ev hh,ha.ev hm,od,arE,run_sliceAt_slice (h:=hu),hr,Sem.run_bind,Result.andThen,Sem.run_pure]
theorem Y6{t e:TypeId}{x:Operand}{m n:Nat}[ht:fh P t e m](hx:ev env x=some s.val)(ow:s.nil=false)(hn:s.cap=n):
  Ry P N w0 env L ⟨d, .call {callee:= .builtin .cap,args:= #[x],argTypes:= #[t]},ty,ps,af,gd⟩ (.int .i64 n):=fun a w ha _=>by
 subst hn;rw[Sv.ig ow]at hx;have hu:P.underlying t=some (.slice (P.elem t)):=by rw[zr ht.eU];exact ht.eU
 have:=run_cap_slice (P:=P) (w:=w) t ty (some ⟨s.b,s.o,s.sp⟩) s.len s.cap hu;simp[execOp,ha.ev hx,resolve,invoke,builtin,this,Result.andThen,goInt]
class Po(P:Program)(f:FuncId)(tS tR:outParam TypeId):Prop where
 fn: ∃fn,P.funcs[f]? =some fn∧(fn.name== "runtime.NumGoroutine")=false∧fn.body.isNone=true∧Extern.findNext fn=none∧Extern.find fn=some (Extern.SlicesOverlaps.overlaps #[tS,tS] #[tR])
theorem Mem.apart{w:World}{i j k:Nat}{e e':aj}(h:Mem w0 L w)(hi:L[i]? =some e)(hj:L[j]? =some e')(ni:i≠j)(hk:e.fp k): ¬e'.fp k:=by
 obtain⟨gi,rfl⟩:=ad2.1 hi;obtain⟨gj,rfl⟩:=ad2.1 hj;have hd:=ar3.1 h.pj;rcases atL ni with h1|h1
 ·
  exact hd i j gi gj h1 k hk
 exact fun h2=>hd j i gj gi h1 k h2 hk
theorem Y7{V D:Sv}{x y:Operand}{f:FuncId}{ts:Array TypeId}{tS tR e T:TypeId}{i j b:Nat}{cs:Array Value}(hx:ev env x=some V.val)(hy:ev env y=some D.val)[hf:Po P f tS tR][ht:fh P tS e c](hc:1<c)[q:fw L V enc c xs i](hv:0<xs.length)[hh:Has L b cs T j](mU:D.nil=false)(ox:D.sp=none)(qj:D.b=b)(hQ:0<cs.size)(ni:i≠j:=by decide):
  Ry P N w0 env L ⟨d, .call {callee:= .value (.func f),args:= #[x,y],argTypes:=ts},ty,ps,af,gd⟩ (.bool false):=fun a w ha hw=>by
 obtain⟨r,oh⟩:=hw.get q.h;have Jj:=r.some hv;obtain⟨Y8,cv,Tv,fz,fj,eZ,mR,nt⟩:=oh Jj;obtain rfl:=nt hc;have hb:=hw.block hh.h;have bM:V.b≠b:=fun e0=>hw.apart q.h hh.h ni (k:=V.b) ⟨Jj,rfl⟩ e0;subst qj;rw[Sv.ig Jj,Y8]at hx;rw[Sv.ig mU,ox]at hy;obtain⟨fn,h1,h2,h3,h4,h5⟩:=hf.fn;have gq:=Lib.run_overlaps_apart (P:=P) w tS tR e ht.eU c (fun w=>kY w ht.size) ⟨V.b,V.o,none⟩ ⟨D.b,D.o,none⟩ V.len V.cap D.len D.cap bM Tv T cv.size cs.size (by simp[World.shape?,fj]) (by simp[World.shape?,hb]) (by omega) (by simp[World.frozen?,fj]) (by simp[World.frozen?,fj]);have Pp:=run_callFunc_extern (P:=P) h1 h2 h3 h4 h5 #[.slice (some ⟨V.b,V.o,none⟩) V.len V.cap, .slice (some ⟨D.b,D.o,none⟩) D.len D.cap] w;rw[gq]at Pp;have e1:a.eval (.func f)= .func (.func f) #[] #[]:=rfl;simp[execOp,ha.ev hx,ha.ev hy,resolve,e1,Deferred.ofValue,invoke,Pp,Result.andThen]
end
end Go.ax
namespace Go.Kb
def Y9:Nat:=3988292384
def Jk(n:Nat):Nat:=(n/2)^^^(if n%2=1 then Y9 else 0)
theorem Za{n:Nat}(h:n<2^32):Jk n<2^32:=by
 refine atM (by omega) ?_;split
 ·
  decide
 decide
def oy(n:Nat):Nat->Nat
 |0=>n
 |k+1=>Jk (oy n k)
theorem Jl{n:Nat}(h:n<2^32): ∀k,oy n k<2^32
 |0=>h
 |k+1=>Za (Jl h k)
def Jm(n:Nat)(b:UInt8):Nat:=oy (n^^^b.toNat) 8
theorem Zb{n:Nat}{b:UInt8}(h:n<2^32):Jm n b<2^32:=Jl (atM h (by have:=b.toNat_lt;omega)) 8
def kF(n:Nat)(l:List UInt8):Nat:=l.foldl Jm n
theorem EZ{n:Nat}(h:n<2^32): ∀l,kF n l<2^32
 |[]=>h
 |b::l=>EZ (Zb h) l
theorem Zc{n:Nat}{l:List UInt8}{i:Nat}{b:UInt8}(h:l[i]? =some b):kF n (l.take (i+1))=Jm (kF n (l.take i)) b:=by
 rw[aq0,h,kF,kF,ato];rfl
def nH(l:List UInt8):Nat:=4294967295 -kF 4294967295 l
theorem Jn(l:List UInt8):nH l<2^32:=by unfold nH;omega
end Go.Kb
namespace Go.ax
open Go.RowKit
section
variable {α:Type} {enc:α->Array Value} {c:Nat} {s:Sv} {xs:List α}
theorem Mem.Pq{w0 w:World}{L:List aj}{i k:Nat}(hw:Mem w0 L w)(hi:L[i]? =some (own enc c s xs))(hk:k<=xs.length):Mem w0 (L.set i (own enc c (s.sub c 0 k) (xs.take k))) w:=by
 obtain⟨r,oh⟩:=hw.get hi;have r2:=r.sub (lo:=0) (hi:=k) (arn _) hk;rw[ase,Nat.sub_zero]at r2;refine hw.change hi (fun k hk=>hk) (fun _ _=>rfl) rfl ⟨rfl,rfl,rfl⟩ ⟨r2,fun hn=>?_⟩;obtain⟨h1,cs,T,fz,h2,h3,h4,h5⟩:=oh hn;refine⟨h1,cs,T,fz,h2,?_,h4,h5⟩;rw[Sv.Cc];exact h3
end
section
variable {P:Program} {N:ct} {w0:World} {env:Env} {L:List aj} {Q:Exit->Act->World->Prop} {l rest:List Oper} {d:Option Tmp} {ty:TypeId} {ps:String} {af:Array Edge} {gd:Option (Nat×Bool)}
variable {α:Type} {enc:α->Array Value} {c:Nat} {xs:List α}
theorem Pr{x y:Operand}{tx gu e:TypeId}{cE k:Nat}{z:Value}{kn kq:IntKind}{iy:Int}(x0:α)(hx:ev env x=some (.slice none 0 0))(hy:ev env y=some (.int kq iy))(nG:iy=(k:Int))(h0:0<k)
  [ht:fa P tx e c cE] [he:bm enc c] (hc:0<c) [hz:eI P e z] (Ps:enc x0=z.cells) (Jh:P.underlying gu=some (.int kn)) (hb:k*cE<=140737488355328) (ju:k<=140737488355328)
  (hk: ∀b C:Nat,k<=C->Sq P N w0 l Q rest (cB env d (Sv.val ⟨false,b,0,k,C,none⟩)) (own enc c ⟨false,b,0,k,C,none⟩ (List.replicate k x0)::L)) (hd:dn N d=true:=by rfl):
  Sq P N w0 l Q (⟨d, .call {callee:= .builtin .append,args:= #[x,y],argTypes:= #[tx,gu]},ty,ps,af,none⟩::rest) env L:=
 oc rfl hd fun aa w ha hw=>by
  subst nG;obtain⟨i',z',bc,aH,bB,cT,nq⟩:=ht.info;obtain rfl:z'=z:=by
   have:=hz.zero;rw[bc,arE,aH]at this;exact aqP (aqP this)
  subst bB cT;have gq:=Lib.run_append_nil_zeros (P:=P) w tx gu ty e i' z' kq kn ht.eU Jh bc aH k h0 hc (by omega) (by omega);have s0:=grownCap_ge w k 0 e;generalize grownCap w k 0 e=C at gq s0;have Cf:=size_zeroCells z'.cells k;have EY:=size_zeroCells z'.cells (C -k);have Zd: ∀m i j,i<m->j<i'.size->(Builtin.zeroCells z'.cells m)[i*i'.size+j]? =z'.cells[j]? :=fun m i j hi hj=>by
   have bb:i*i'.size+j<m*z'.cells.size:=by
    rw[nq];have:(i+1)*i'.size<=m*i'.size:=ara _ hi;rw[ars]at this;omega
   have e1:(i*i'.size+j)%z'.cells.size=j:=by rw[nq,asj,Nat.mul_add_mod];exact arF hj
   have Ze:j<z'.cells.size:=by omega
   simp[Builtin.zeroCells,bb,e1,Ze]
  refine⟨_,_,_,?_,hw.drew.call (vR (enc:=enc) (c:=i'.size) (xs:=List.replicate k x0) (cs:=Builtin.zeroCells z'.cells k++Builtin.zeroCells z'.cells (C -k)) (e:=e) rfl k C (by simp) s0 ju ?_ fun i x hx j hj=>?_),hk _ C s0⟩
  ·
   simp[execOp,ha.ev hx,ha.ev hy,resolve,invoke,builtin,gq,Result.andThen,Sv.val]
  ·
   rw[atn,Cf,EY,nq,←ars];exact ara _ (by omega)
  ·
   have hi:i<k:=by
    have:=(ad2.1 hx).1;simpa using this
   obtain rfl:x0=x:=by rw[atq,if_pos hi]at hx;exact aqP hx
   rw[Ps,←Zd k i j hi hj,asO];rw[Cf,nq];have:(i+1)*i'.size<=k*i'.size:=ara _ hi;rw[ars]at this;omega
theorem E3{t e:TypeId}{x:Operand}{m:Nat}[ht:fh P t e m](hx:ev env x=some (.slice none 0 0)):
  Ry P N w0 env L ⟨d, .call {callee:= .builtin .cap,args:= #[x],argTypes:= #[t]},ty,ps,af,gd⟩ (.int .i64 (0:Nat)):=fun a w ha _=>by
 have hu:P.underlying t=some (.slice (P.elem t)):=by rw[zr ht.eU];exact ht.eU
 have:=run_cap_slice (P:=P) (w:=w) t ty none 0 0 hu;simp[execOp,ha.ev hx,resolve,invoke,builtin,this,Result.andThen,goInt]
class mq(w0:World)(L:List aj){τ:Type}[Deep τ](xs:List τ):Prop where
 h: ∀w,Mem w0 L w-> ∀x∈xs,Deep.cF (hp w) x
instance mq.nil{τ:Type}[Deep τ]:mq w0 L ([]:List τ):=⟨fun _ _ _ h=>by cases h⟩
instance mq.cons{τ:Type}[Deep τ]{x:τ}{xs:List τ}[a:aT w0 L x][b:mq w0 L xs]:mq w0 L (x::xs):=⟨fun w hw y hy=>by
 rcases aqW.1 hy with rfl|hy
 ·
  exact a.h w hw
 exact b.h w hw y hy⟩
instance (priority:=low) aT.flat {τ:Type}[Deep τ][Plain τ]{enc:τ->Array Value}{c:Nat}[fZ τ enc c]{s:Sv}{xs:List τ}[q:di w0 L enc c s xs]:aT w0 L (⟨s,xs⟩:Sl τ):=⟨fun w hw=>by
 have hl:=q.h w hw;have e1:Deep.cells (τ:=τ)=enc:=funext (fZ.h (c:=c));have e2:Deep.c τ=c:=fZ.hc (enc:=enc);refine⟨?_,fun x _=>Deep.jg _ x (by rw[Plain.h x];exact trivial)⟩;subst e1 e2;exact hl⟩
instance (priority:=low) aT.rows {τ:Type}[Deep τ]{enc:τ->Array Value}{c:Nat}[fZ τ enc c]{s:Sv}{xs:List τ}[q:di w0 L enc c s xs][g:mq w0 L xs]:aT w0 L (⟨s,xs⟩:Sl τ):=⟨fun w hw=>by
 have hl:=q.h w hw;have e1:Deep.cells (τ:=τ)=enc:=funext (fZ.h (c:=c));have e2:Deep.c τ=c:=fZ.hc (enc:=enc);refine⟨?_,g.h w hw⟩;subst e1 e2;exact hl⟩
theorem Zf{τ:Type}[Deep τ]{s:Sv}{xs:List τ}[g:aT w0 L (⟨s,xs⟩:Sl τ)](h: ∀a:Sl τ,a=⟨s,xs⟩->aT w0 L a->Sq P N w0 l Q rest (cB env d a.sv.val) L):Sq P N w0 l Q rest (cB env d s.val) L:=h _ rfl g
def kG(l:List (Sl UInt8)):List UInt8:=(l.map Sl.xs).flatten
theorem E4{l:List (Sl UInt8)}{i:Nat}{x:Sl UInt8}(h:l[i]? =some x):kG (l.take (i+1))=kG (l.take i)++x.xs:=by
 rw[kG,aq0,h];simp[kG]
theorem Zg(l:List (Sl UInt8))(i:Nat):(kG (l.take i)).length<=(kG l).length:=by
 have e:kG l=kG (l.take i)++kG (l.drop i):=by
  unfold kG;rw[←List.flatten_append,←art,arC]
 rw[e,af0];omega
end
def Zh(l:List UInt8):List UInt8:=l++be (Kb.nH l) 4
theorem Zi(l:List UInt8): ∀n,l.foldl (fun a b=>a*256+b.toNat) n=n*256^l.length+de l:=by
 induction l with
 |nil=>intro n;simp[de]
 |cons x l ih=>
  intro n;rw[asw,ih,show de (x::l)=l.foldl (fun a b=>a*256+b.toNat) (0*256+x.toNat)from rfl,ih,aqQ,Nat.pow_succ];simp only[Nat.zero_mul,ary,ars];rw[Nat.mul_assoc n,asj 256,ast]
theorem Zj(x:UInt8)(l:List UInt8):de (x::l)=x.toNat*256^l.length+de l:=by
 rw[show de (x::l)=l.foldl (fun a b=>a*256+b.toNat) (0*256+x.toNat)from rfl,Zi];simp
theorem Pt(l:List UInt8):de l<256^l.length:=by
 have:=Ip l l.length (aqY _);rwa [ark]at this
theorem Zk(m n:Nat): ∀k,be (m*256^k+n) k=be n k
 |0=>rfl
 |k+1=>by
  have e:m*256^(k+1)+n=(m*256)*256^k+n:=by rw[Nat.pow_succ,Nat.mul_assoc,asj 256]
  rw[be,be,e,Zk (m*256) n k,atS,Nat.add_mul_div_right _ _ (Nat.pow_pos (by decide))];congr 1;apply atc.1;rw[rK,rK];omega
theorem E5(n:Nat): ∀k,de (be n k)=n%256^k
 |0=>by simp[be,de,Nat.mod_one]
 |k+1=>by
  rw[be,Zj,jv,E5 n k,rK,Nat.pow_succ,Nat.mod_mul,asj,atS]
section
variable {w0:World} {L:List aj} {α:Type} {enc:α->Array Value} {c:Nat} {xs ys:List α} {s t:Sv} {g:Bool}
end
section
variable {P:Program} {N:ct} {w0:World} {env:Env} {L:List aj} {l:List Oper} {Q:Exit->Act->World->Prop} {rest:List Oper} {d:Option Tmp} {ty:TypeId} {ps:String} {af:Array Edge}
end
section
variable {w0:World} {L:List aj} {τ:Type} [Deep τ]
instance (priority:=low) mq.of {a:Sl τ}[q:aT w0 L a]:mq w0 L a.xs:=⟨fun w hw=>(q.h w hw).2⟩
instance mq.append{xs ys:List τ}[a:mq w0 L xs][b:mq w0 L ys]:mq w0 L (xs++ys):=⟨fun w hw x hx=>by
 rcases aqZ.1 hx with h|h
 ·
  exact a.h w hw x h
 exact b.h w hw x h⟩
end
section
variable {w0:World} {L:List aj} {τ:Type} [Deep τ]
instance mq.take{xs:List τ}{n:Nat}[q:mq w0 L xs]:mq w0 L (xs.take n):=⟨fun w hw x hx=>q.h w hw x (asN hx)⟩
instance mq.drop{xs:List τ}{n:Nat}[q:mq w0 L xs]:mq w0 L (xs.drop n):=⟨fun w hw x hx=>q.h w hw x (List.mem_of_mem_drop hx)⟩
class Zl(a:Sl τ)(s:outParam Sv)(xs:outParam (List τ)):Prop where
 h:a=⟨s,xs⟩
instance (priority:=low) aT.named {a:Sl τ}{s:Sv}{xs:List τ}[n:Zl a s xs][q:aT w0 L (⟨s,xs⟩:Sl τ)]:aT w0 L a:=⟨by rw[n.h];exact q.h⟩
end
class fS(τ:Type)[d:Deep τ] where
 reach:τ->Nat->Prop
 congr: ∀(h h':Nat->Option Obj) (x:τ),(∀k,reach x k->h' k=h k)->d.cF h x->d.cF h' x
theorem eJ.congr{α:Type}{enc:α->Array Value}{c:Nat}{h h':Nat->Option Obj}{s:Sv}{xs:List α}(e:xs≠[]->h' s.b=h s.b)(r:eJ enc c h s xs):eJ enc c h' s xs:=
 ⟨r.ok,r.len,fun i x hi j hj=>by
  have bM:xs≠[]:=fun he=>by rw[he]at hi;simp at hi
  rw[←r.row i x hi j hj];unfold mQ;rw[e bM]⟩
@[reducible] def fS.flat {τ:Type}[d:Deep τ](hg: ∀h x,d.cF h x):fS τ:=⟨fun _ _=>False,fun _ h' x _ _=>hg h' x⟩
instance fS.slice{τ:Type}[d:Deep τ][r:fS τ]:fS (Sl τ) where
 reach a k:=(a.xs≠[]/\k=a.sv.b)\/ ∃x∈a.xs,r.reach x k
 congr h h' a e g:=⟨g.1.congr fun bM=>e _ (.inl ⟨bM,rfl⟩),fun x hx=>r.congr h h' x (fun k hk=>e k (.inr ⟨x,hx,hk⟩)) (g.2 x hx)⟩
instance:fS UInt8:=fS.flat fun _ _=>trivial
def fz{τ:Type}[d:Deep τ][r:fS τ](x:τ):aj:=⟨r.reach x,fun h=>d.cF h x,fun h h' e s=>r.congr h h' x e s⟩
section
variable {w0:World} {L:List aj} {τ:Type} [d:Deep τ] [r:fS τ]
instance (priority:=high) aT.frozen {a:τ}{i:Nat}[q:At L (fz a) i]:aT w0 L a:=⟨fun _ hw=>hw.get q.h⟩
theorem Mem.freeze{w:World}{es:List aj}(x:τ)(hg:d.cF (hp w) x)(hr: ∀k,r.reach x k-> ∃e∈es,e.fp k)(h:Mem w0 (es++L) w):Mem w0 (fz x::L) w:=by
 have hd:=as6.1 h.pj;refine⟨h.below,fun e he=>?_,fun e he k hk=>?_,arl.2 ⟨fun y hy k hk ka=>?_,hd.2.1⟩⟩
 ·
  rcases aqW.1 he with rfl|he
  ·
   exact hg
  exact h.sat e (aqZ.2 (.inr he))
 ·
  rcases aqW.1 he with rfl|he
  ·
   obtain⟨e',qc,ka⟩:=hr k hk;exact h.jL e' (aqZ.2 (.inl qc)) k ka
  exact h.jL e (aqZ.2 (.inr he)) k hk
 obtain⟨e',qc,oo⟩:=hr k hk;exact hd.2.2 e' qc y hy k oo ka
theorem Mem.Zm{w:World}{e:aj}(x:τ)(hg:d.cF (hp w) x)(hr: ∀k,r.reach x k->e.fp k)(h:Mem w0 (e::L) w):Mem w0 (fz x::L) w:=
 Mem.freeze (es:=[e]) x hg (fun k hk=>⟨e,by simp,hr k hk⟩) h
end
open Go.Kb
section
variable {w0:World} {L:List aj} {τ:Type} [Deep τ] {xs:List τ} {es:List aj}
theorem Mem.xP{w:World}(h:Mem w0 L w):Mem w0 (aj.all []::L) w:=Mem.BO.2 h
theorem Mem.Zn{w:World}{e:aj}(h:Mem w0 (e::aj.all es::L) w):Mem w0 (aj.all (e::es)::L) w:=Mem.xD.2 h
theorem Mem.Pu{w:World}{s:Sv}{enc:τ->Array Value}{c:Nat}[f:fZ τ enc c][Plain τ](h:Mem w0 (own enc c s xs::L) w):Mem w0 (Deep.cc (⟨s,xs⟩:Sl τ)::L) w:=Tr.Eo.mem h
end
end Go.ax
namespace Go.Kb
structure gf where
 len:Int
 cx:UInt16
 deriving DecidableEq
def gf.no:gf:=⟨0,0⟩
structure Nd where
 E6:List gf
 E7:List Int
 hs:E6.length=16
 hn:E7.length=16
 deriving DecidableEq
def Nd.sl(n:Nd)(b:Nat):gf:=n.E6.getD b gf.no
def Nd.nx(n:Nd)(b:Nat):Int:=n.E7.getD b 0
def Nd.mk'(f:Nat->gf)(g:Nat->Int):Nd:=⟨(List.range 16).map f,(List.range 16).map g,by simp,by simp⟩
def Nd.zero:Nd:=Nd.mk' (fun _=>gf.no) (fun _=>0)
def Nd.wm(n:Nd)(b:Nat)(s:gf):Nd:=⟨n.E6.set b s,n.E7,by simp[n.hs],n.hn⟩
def Nd.wo(n:Nd)(b:Nat)(x:Int):Nd:=⟨n.E6,n.E7.set b x,n.hs,by simp[n.hn]⟩
theorem Nd.ll{f:Nat->gf}{g:Nat->Int}{b:Nat}(h:b<16):(Nd.mk' f g).sl b=f b:=by simp[Nd.sl,Nd.mk',h]
theorem Nd.lp{f:Nat->gf}{g:Nat->Int}{b:Nat}(h:b<16):(Nd.mk' f g).nx b=g b:=by simp[Nd.nx,Nd.mk',h]
theorem Nd.Zo{n:Nd}{b:Nat}(h:16<=b):n.sl b=gf.no:=by
 have:=n.hs;rw[Nd.sl,arI,aqV (by omega)];rfl
theorem Nd.Zp{n:Nd}{b:Nat}(h:16<=b):n.nx b=0:=by
 have:=n.hn;rw[Nd.nx,arI,aqV (by omega)];rfl
theorem Nd.Pv(b:Nat):Nd.zero.sl b=gf.no:=by
 rcases aqX b 16 with h|h
 ·
  exact Nd.ll h
 exact Nd.Zo h
theorem Nd.Pw(b:Nat):Nd.zero.nx b=0:=by
 rcases aqX b 16 with h|h
 ·
  exact Nd.lp h
 exact Nd.Zp h
theorem Nd.E8{n:Nd}{b c:Nat}{s:gf}(h:b<16):(n.wm b s).sl c=if b=c then s else n.sl c:=by
 have:=n.hs;simp only[Nd.sl,Nd.wm,arI,arD];split
 ·
  rename_i e;subst e;rw[if_pos (by omega)];rfl
 rfl
theorem Nd.Jo{n:Nd}{b c:Nat}{x:Int}(h:b<16):(n.wo b x).nx c=if b=c then x else n.nx c:=by
 have:=n.hn;simp only[Nd.nx,Nd.wo,arI,arD];split
 ·
  rename_i e;subst e;rw[if_pos (by omega)];rfl
 rfl
@[simp] theorem Nd.Px {n:Nd}{b c:Nat}{s:gf}:(n.wm b s).nx c=n.nx c:=rfl
@[simp] theorem Nd.Py {n:Nd}{b c:Nat}{x:Int}:(n.wo b x).sl c=n.sl c:=rfl
theorem Nd.ext'{m n:Nd}(h1: ∀b,b<16->m.sl b=n.sl b)(h2: ∀b,b<16->m.nx b=n.nx b):m=n:=by
 obtain⟨a,b,ha,hb⟩:=m;obtain⟨c,d,hc,hd⟩:=n;have e1:a=c:=arS fun i=>by
  rcases aqX i 16 with hi|hi
  ·
   have:=h1 i hi;simp only[Nd.sl,arI]at this;rw[aqR (by omega),aqR (by omega)]at this⊢;simpa using this
  rw[aqV (by omega),aqV (by omega)]
 have e2:b=d:=arS fun i=>by
  rcases aqX i 16 with hi|hi
  ·
   have:=h2 i hi;simp only[Nd.nx,arI]at this;rw[aqR (by omega),aqR (by omega)]at this⊢;simpa using this
  rw[aqV (by omega),aqV (by omega)]
 subst e1;subst e2;rfl
def rY(k:Key)(n b:Nat):Key:=if n%2=0 then zJ k (n/2) (16*b%256)else zJ k (n/2) ((aW k (n/2)+b)%256)
def bI(p:bo):Nat:=((p.len -1)/4).toNat
structure Wy where
 steps:Nat
 key:Key
 deriving DecidableEq
def cW(k:Key)(s:Nat):Wy:=⟨s,dB k ((4*s:Nat):Int)⟩
def root:Wy:=⟨0,0#128⟩
theorem zY(k:Key):cW k 0=root:=by rw[cW,root,Ez _ _ (by decide)]
def child(w:Wy)(b:Nat):Wy:=⟨w.steps+1,rY w.key w.steps b⟩
def jR(W:List Wy)(w:Wy):List Wy:=if w∈W then W else W++[w]
def dI(W:List Wy)(p:bo)(n:Nat):List Wy:=(List.range n).foldl (fun W i=>jR W (cW p.key (i+1))) W
def nI(W:List Wy)(r:Rt)(bits:Int):List Wy:=if r.p.bits=bits then dI W r.p (bI r.p)else W
def lq(bits:Int)(t:List Rt):List Wy:=t.foldl (fun W r=>nI W r bits) [root]
def hit(r:Rt)(bits:Int)(w:Wy)(b:Nat):Bool:=decide (r.p.bits=bits)&&decide (bI r.p=w.steps)&&IF r.p (rY w.key w.steps b)
def xQ(bits:Int)(w:Wy)(b:Nat)(s:gf)(r:Rt):gf:=if hit r bits w b=true/\s.len<=r.p.len then⟨r.p.len+1,r.cx⟩else s
def mV(bits:Int)(R:List Rt)(w:Wy)(b:Nat):gf:=R.foldl (xQ bits w b) gf.no
def qZ(W:List Wy)(w:Wy)(b:Nat):Int:=if child w b∈W then(W.idxOf (child w b):Nat)else 0
def gT(bits:Int)(W:List Wy)(R:List Rt)(w:Wy):Nd:=Nd.mk' (mV bits R w) (qZ W w)
theorem Jp(W:List Wy)(p:bo):dI W p 0=W:=rfl
theorem uM(W:List Wy)(p:bo)(n:Nat):dI W p (n+1)=jR (dI W p n) (cW p.key (n+1)):=by simp[dI,ar1]
theorem Jq(bits:Int)(t:List Rt)(r:Rt):lq bits (t++[r])=nI (lq bits t) r bits:=by simp[lq]
theorem Jr(bits:Int)(R:List Rt)(r:Rt)(w:Wy)(b:Nat):mV bits (R++[r]) w b=xQ bits w b (mV bits R w b) r:=by simp[mV]
theorem zZ{k:Key}{n b:Nat}(hn:n<32)(hb:b<16)(hk:dB k ((4*n:Nat):Int)=k)(i:Nat)(hi:i<128):
  (rY k n b).getMsbD i=if i<4*n then k.getMsbD i else if i<4*n+4 then b.testBit (4*n+3 -i)else false:=by
 have hz: ∀j,j<128->4*n<=j->k.getMsbD j=false:=fun j hj h=>(EA k _).1 hk j hj (by omega);have qk: ∀(x:Nat),x<256->(zJ k (n/2) x).getMsbD i=if i/8=n/2 then x.testBit (7 -i%8)else k.getMsbD i:=fun x hx=>by
  rw[uC _ i hi,IC k _ x _ (by omega) hx];split
  ·
   rfl
  ·
   rw[uC k i hi]
 unfold rY;split
 ·
  rename_i he;rw[qk _ (by omega)]
  by_cases h1:i/8=n/2
  ·
   rw[if_pos h1,if_neg (by omega)];have e:16*b%256=b*2^4:=by omega
   rw[e,Nat.testBit_mul_two_pow]
   by_cases h2:i<4*n+4
   ·
    rw[if_pos h2,decide_eq_true (by omega),arH];congr 1;omega
   ·
    rw[if_neg h2,decide_eq_false (by omega),as7]
  ·
   rw[if_neg h1]
   by_cases h2:i<4*n
   ·
    rw[if_pos h2]
   ·
    rw[if_neg h2,if_neg (by omega)];exact hz i hi (by omega)
 ·
  rename_i ho;have amK:aW k (n/2)%16=0:=by
   have: ∀j,(aW k (n/2)%2^4).testBit j=false:=fun j=>by
    rw[Nat.testBit_mod_two_pow]
    by_cases hj:j<4
    ·
     have:=uC k (8*(n/2)+(7 -j)) (by omega);rw[show(8*(n/2)+(7 -j))/8=n/2 by omega,show 7 -(8*(n/2)+(7 -j))%8=j by omega,hz _ (by omega) (by omega)]at this;simp[←this]
    ·
     simp[hj]
   have:=atl (x:=aW k (n/2)%2^4) (y:=0) (fun j=>by rw[this j];simp);simpa using this
  have bb:=gR k (n/2);have e:(aW k (n/2)+b)%256=aW k (n/2)|||b:=by
   obtain⟨q,hq⟩: ∃q,aW k (n/2)=2^4*q:=⟨aW k (n/2)/16,by omega⟩;rw[hq,←Nat.two_pow_add_eq_or_of_lt (i:=4) (by omega) q];omega
  rw[qk _ (by omega),e]
  by_cases h1:i/8=n/2
  ·
   rw[if_pos h1,Nat.testBit_or];have hm:=uC k i hi;rw[h1]at hm;rw[←hm]
   by_cases h2:i<4*n
   ·
    rw[if_pos h2,asH (x:=b) (arM (show b<2^4 by omega) (ar2 (by decide) (by omega)))];simp
   ·
    rw[if_neg h2,if_pos (by omega),hz i hi (by omega),atp];congr 1;omega
  ·
   rw[if_neg h1]
   by_cases h2:i<4*n
   ·
    rw[if_pos h2]
   ·
    rw[if_neg h2,if_neg (by omega)];exact hz i hi (by omega)
def gx(k:Key)(n:Nat):Nat:=(iR k n).toNat
theorem uN(k:Key)(n:Nat):gx k n<16:=by
 unfold gx iR;have h1:=vY k (4*n);have h2:=vY k (4*n+1);have h3:=vY k (4*n+2);have h4:=vY k (4*n+3);split<;>omega
theorem Cg(k:Key)(n:Nat):iR k n=(gx k n:Int):=by
 unfold gx iR;have h1:=vY k (4*n);have h2:=vY k (4*n+1);have h3:=vY k (4*n+2);have h4:=vY k (4*n+3);split<;>omega
theorem Ci(k:Key)(n j:Nat)(hn:n<32)(hj:j<4):(gx k n).testBit j=k.getMsbD (4*n+3 -j):=by
 have e:=Cg k n;rw[iR,if_pos (by omega)]at e;have b0:=EB k (4*n);have b1:=EB k (4*n+1);have b2:=EB k (4*n+2);have b3:=EB k (4*n+3);simp only[Int.natCast_add,Int.natCast_mul,Int.cast_ofNat_Int]at b0 b1 b2 b3;rw[b0,b1,b2,b3]at e;have key: ∀(a0 a1 a2 a3:Bool) (x:Nat),(8*(if a0 then 1 else 0)+4*(if a1 then 1 else 0)+2*(if a2 then 1 else 0)+(if a3 then 1 else 0):Int)=(x:Int)->x.testBit 0=a3/\x.testBit 1=a2/\x.testBit 2=a1/\x.testBit 3=a0:=by
  intro a0 a1 a2 a3 x hx;have qi:x=(8*(if a0 then 1 else 0)+4*(if a1 then 1 else 0)+2*(if a2 then 1 else 0)+(if a3 then 1 else 0):Nat):=by
   cases a0<;>cases a1<;>cases a2<;>cases a3<;>simp at hx⊢ <;>omega
  subst qi
  cases a0<;>cases a1<;>cases a2<;>cases a3<;>decide
 obtain⟨h0,h1,h2,h3⟩:=key _ _ _ _ _ e
 match j,hj with
 |0,_=>exact h0
 |1,_=>exact h1
 |2,_=>exact h2
 |3,_=>exact h3
theorem Zq{x y:Nat}(hx:x<16)(hy:y<16)(h: ∀j,j<4->x.testBit j=y.testBit j):x=y:=by
 refine atl fun j=>?_;rcases aqX j 4 with hj|hj
 ·
  exact h j hj
 have hp:2^4<=2^j:=ar2 (by decide) hj;rw[asH (arM hx hp),asH (arM hy hp)]
theorem z8(k:Key)(n i:Nat):(dB k (n:Int)).getMsbD i=(decide (i<n)&&k.getMsbD i):=by
 rw[tg];congr 1;simp
section
variable {k:Key} {n b:Nat}
theorem Pz(hn:n<32)(hb:b<16)(hk:dB k ((4*n:Nat):Int)=k):gx (rY k n b) n=b:=
 Zq (uN _ _) hb fun j hj=>by
  rw[Ci _ _ _ hn hj,zZ hn hb hk _ (by omega),if_neg (by omega),if_pos (by omega)];congr 1;omega
theorem E9(hn:n<32)(hb:b<16)(hk:dB k ((4*n:Nat):Int)=k):dB (rY k n b) ((4*n:Nat):Int)=k:=
 vX fun i hi=>by
  have h2:=z8 k (4*n) i;rw[hk]at h2;rw[z8,zZ hn hb hk i hi]
  by_cases h:i<4*n
  ·
   simp[h]
  simp[h]at h2⊢;exact h2
theorem PA(hn:n<32)(hb:b<16)(hk:dB k ((4*n:Nat):Int)=k):dB (rY k n b) ((4*(n+1):Nat):Int)=rY k n b:=
 vX fun i hi=>by
  rw[z8,zZ hn hb hk i hi]
  by_cases h:i<4*(n+1)
  ·
   simp[h]
  rw[if_neg (by omega),if_neg (by omega)];simp
end
theorem PB(k:Key)(n m:Nat):dB (dB k (n:Int)) (m:Int)=dB k ((min n m:Nat):Int):=by
 rw[IE];congr 1;omega
theorem Cj(k:Key)(s:Nat):dB (cW k s).key ((4*s:Nat):Int)=(cW k s).key:=by
 simp only[cW];rw[PB,Nat.min_self]
theorem Fa(k:Key)(n:Nat)(hn:n<32):child (cW k n) (gx k n)=cW k (n+1):=by
 have e:rY (dB k ((4*n:Nat):Int)) n (gx k n)=dB k ((4*(n+1):Nat):Int):=vX fun i hi=>by
  have hm:=zZ (k:=dB k ((4*n:Nat):Int)) hn (uN k n) (Cj k n) i hi;rw[hm,z8,z8]
  by_cases h:i<4*n
  ·
   simp[h,show i<4*(n+1) by omega]
  rw[if_neg h]
  by_cases h2:i<4*n+4
  ·
   rw[if_pos h2,Ci _ _ _ hn (by omega),decide_eq_true (show i<4*(n+1) by omega),arH];congr 1;omega
  rw[if_neg h2,decide_eq_false (show ¬i<4*(n+1) by omega),as7]
 simp only[child,cW,e]
def Wy.ok(w:Wy):Prop:=w.steps<32/\dB w.key ((4*w.steps:Nat):Int)=w.key
theorem PC{w v:Wy}{b c:Nat}(hw:w.ok)(hv:v.ok)(hb:b<16)(hc:c<16)(e:child w b=child v c):w=v/\b=c:=by
 obtain⟨ws,wk⟩:=w;obtain⟨vs,vk⟩:=v;simp only[child,Wy.mk.injEq]at e;obtain⟨e1,e2⟩:=e;have e3:ws=vs:=by omega
 subst e3;have h1:=E9 hw.1 hb hw.2;have h2:=Pz hw.1 hb hw.2;simp only at h1 h2;rw[e2,Pz hv.1 hc hv.2]at h2;rw[e2,E9 hv.1 hc hv.2]at h1;have Fb:vk=wk:=h1;exact⟨by rw[Fb],h2.symm⟩
theorem Zr(k:Key)(s:Nat)(h:s<32):(cW k s).ok:=⟨h,Cj k s⟩
theorem PD(k:Key)(s n:Nat)(h:s<=n):cW (cW k n).key s=cW k s:=by
 simp only[cW];rw[PB,Nat.min_eq_right (by omega)]
theorem Zs:root.ok:=⟨by decide,by rw[root];exact Ez _ _ (by decide)⟩
theorem Zt{W:List Wy}{w v:Wy}:v∈jR W w↔v∈W\/v=w:=by
 unfold jR;split
 ·
  rename_i h;exact⟨.inl,fun| .inl h=>h| .inr e=>e▸h⟩
 simp
theorem PE{W:List Wy}{w:Wy}(h:W.Nodup):(jR W w).Nodup:=by
 unfold jR;split
 ·
  exact h
 rename_i hw;rw[asz];exact⟨h,by simp,fun a ha b hb=>by simp at hb;subst hb;intro e;subst e;exact hw ha⟩
theorem PF{W:List Wy}{w:Wy}:W<+:jR W w:=by
 unfold jR;split
 ·
  exact atm
 exact List.prefix_append _ _
theorem uO{W:List Wy}{p:bo}{v:Wy}: ∀{n:Nat},v∈dI W p n↔v∈W\/ ∃s,1<=s/\s<=n/\v=cW p.key s
 |0=>by simp[Jp];omega
 |n+1=>by
  rw[uM,Zt,uO (n:=n)];constructor
  ·
   rintro((h|⟨s,h1,h2,h3⟩)|h)
   ·
    exact .inl h
   ·
    exact .inr ⟨s,h1,by omega,h3⟩
   exact .inr ⟨n+1,by omega,by omega,h⟩
  rintro(h|⟨s,h1,h2,h3⟩)
  ·
   exact .inl (.inl h)
  rcases aqX n s with h4|h4
  ·
   obtain rfl:s=n+1:=by omega
   exact .inr h3
  exact .inl (.inr ⟨s,h1,h4,h3⟩)
theorem PG{W:List Wy}{p:bo}(h:W.Nodup): ∀n,(dI W p n).Nodup
 |0=>h
 |n+1=>by rw[uM];exact PE (PG h n)
theorem Fc{W:List Wy}{p:bo}: ∀n,W<+:dI W p n
 |0=>atm
 |n+1=>by rw[uM];exact(Fc n).trans PF
theorem Zu{W:List Wy}{p:bo}{n m:Nat}(h:n<=m):dI W p n<+:dI W p m:=by
 induction m with
 |zero=>obtain rfl:n=0:=by omega
        exact atm
 |succ m ih=>
  rcases aqX m n with h'|h'
  ·
   obtain rfl:n=m+1:=by omega
   exact atm
  rw[uM];exact(ih h').trans PF
theorem PH{W:List Wy}{r:Rt}{bits:Int}:W<+:nI W r bits:=by
 unfold nI;split
 ·
  exact Fc _
 exact atm
structure iT(W:List Wy):Prop where
 nodup:W.Nodup
 root:W[0]? =some root
 ok: ∀w∈W,w.ok
 up: ∀w∈W,∀s,s<=w.steps->cW w.key s∈W
 ord: ∀(i:Nat) (w:Wy),W[i]? =some w-> ∀s,s<w.steps-> ∃j,j<i/\W[j]? =some (cW w.key s)
theorem iT.ne{W:List Wy}(h:iT W):0<W.length:=by
 have:=h.root;rcases asm W.length with e|e
 ·
  rw[aqV (by omega)]at this;simp at this
 exact e
theorem iT.one:iT [Kb.root]:=⟨by simp,rfl,fun w hw=>by simp at hw;subst hw;exact Zs,fun w hw s hs=>by
 simp at hw;subst hw;have:s=0:=by simpa[Kb.root]using hs
 subst this;rw[zY];simp,fun i w hi s hs=>by
 have hw:=anc hi;simp at hw;subst hw;exact absurd hs (by simp[Kb.root])⟩
theorem iT.add{W:List Wy}(h:iT W){p:bo}: ∀{n:Nat},n<32->iT (dI W p n)
 |0,_=>h
 |n+1,hn=>by
  have ih:=h.add (p:=p) (n:=n) (by omega);refine⟨PG h.nodup _,?_,fun w hw=>?_,fun w hw s hs=>?_,fun i w hi s hs=>?_⟩
  ·
   have:=Fc (W:=W) (p:=p) (n+1);obtain⟨t,ht⟩:=this;rw[←ht,aq4 h.ne];exact h.root
  ·
   rcases uO.1 hw with hw|⟨s,h1,h2,rfl⟩
   ·
    exact h.ok w hw
   exact Zr _ _ (by omega)
  ·
   rcases uO.1 hw with hw|⟨s',h1,h2,rfl⟩
   ·
    exact uO.2 (.inl (h.up w hw s hs))
   have y8:s<=s':=hs;rw[PD _ _ _ y8];rcases asm s with e|e
   ·
    subst e;rw[zY];exact uO.2 (.inl (anc h.root))
   exact uO.2 (.inr ⟨s,e,by omega,rfl⟩)
  rw[uM]at hi⊢;unfold jR at hi⊢;split at hi
  ·
   rename_i hm;rw[if_pos hm];exact ih.ord i w hi s hs
  rename_i hm;rw[if_neg hm];rcases aqX i (dI W p n).length with bb|hge
  ·
   rw[aq4 bb]at hi;obtain⟨j,hj,e⟩:=ih.ord i w hi s hs;exact⟨j,hj,by rw[aq4 (by omega)];exact e⟩
  have aH:=(ad2.1 hi).1;simp only[af0,aqQ,aqS]at aH;obtain rfl:i=(dI W p n).length:=by omega
  rw[aq3 (aqY _),asy,List.getElem?_cons_zero]at hi;obtain rfl:=aqP hi;have y8:s<n+1:=hs;have kg:cW p.key s∈dI W p n:=by
   rcases asm s with e|e
   ·
    subst e;rw[zY];exact anc ih.root
   exact uO.2 (.inr ⟨s,e,by omega,rfl⟩)
  obtain⟨j,hj⟩:=ash.1 kg;have iO:=(ad2.1 hj).1;exact⟨j,iO,by rw[PD _ _ _ (by omega),aq4 iO];exact hj⟩
theorem Fe{p:bo}(h:bj p=true):bI p<32:=by
 obtain⟨h1,h2,h3,_⟩:=(rM p).1 h;unfold bI;omega
theorem iT.nI{W:List Wy}(h:iT W){r:Rt}{bits:Int}(hr:bj r.p=true):iT (nI W r bits):=by
 unfold Kb.nI;split
 ·
  exact h.add (Fe hr)
 exact h
theorem PI{bits:Int}: ∀{t:List Rt} {W:List Wy},iT W->(∀r∈t,bj r.p=true)->iT (t.foldl (fun W r=>Kb.nI W r bits) W)
 |[],_,h,_=>h
 |r::t,_,h,ha=>PI (t:=t) (h.nI (ha r (by simp))) fun x hx=>ha x (by simp[hx])
theorem Zv{bits:Int}{t:List Rt}(h: ∀r∈t,bj r.p=true):iT (lq bits t):=PI iT.one h
def uP(bits:Int)(W:List Wy)(R:List Rt):Prop:= ∀r∈R,r.p.bits=bits-> ∀s,1<=s->s<=bI r.p->cW r.p.key s∈W
theorem PJ{W:List Wy}{w:Wy}(h:w∈W):W[W.idxOf w]? =some w:=by
 have hl:=List.idxOf_lt_length_iff.2 h;rw[aqR hl,List.getElem_idxOf]
theorem Zw{W:List Wy}{w:Wy}(h:w∈W):W.idxOf w<W.length:=List.idxOf_lt_length_iff.2 h
theorem Js{W:List Wy}(hn:W.Nodup){i:Nat}{w:Wy}(h:W[i]? =some w):W.idxOf w=i:=by
 obtain⟨hi,rfl⟩:=ad2.1 h;exact List.Nodup.idxOf_getElem hn i hi
theorem get_inj{W:List Wy}(hn:W.Nodup){i j:Nat}{w:Wy}(h:W[i]? =some w)(h':W[j]? =some w):i=j:=by
 rw[←Js hn h,Js hn h']
def uQ(ns:List Nd)(node four:Nat):Bool:=decide (0<(ns.getD node Nd.zero).nx four)||decide (ns.length<512)
def uR(ns:List Nd)(node four:Nat):Int:=if 0<(ns.getD node Nd.zero).nx four then(ns.getD node Nd.zero).nx four else if 512<=ns.length then 0 else ns.length
def uS(ns:List Nd)(node four:Nat):List Nd:=if 0<(ns.getD node Nd.zero).nx four\/512<=ns.length then ns else(ns++[Nd.zero]).set node ((ns.getD node Nd.zero).wo four ns.length)
def nodes(bits:Int)(W:List Wy)(R:List Rt):List Nd:=W.map (gT bits W R)
@[simp] theorem Aa (bits:Int)(W:List Wy)(R:List Rt):(nodes bits W R).length=W.length:=by simp[nodes]
theorem Ff{bits:Int}{W:List Wy}{R:List Rt}{i:Nat}{w:Wy}(h:W[i]? =some w):(nodes bits W R)[i]? =some (gT bits W R w):=by simp[nodes,h]
theorem PK{bits:Int}{W:List Wy}{R:List Rt}{i:Nat}{w:Wy}(h:W[i]? =some w):(nodes bits W R).getD i Nd.zero=gT bits W R w:=by
 rw[arI,Ff h];rfl
theorem Ab{W:List Wy}(hW:iT W){w:Wy}{b:Nat}:0<qZ W w b↔child w b∈W:=by
 unfold qZ;split
 ·
  rename_i h;refine⟨fun _=>h,fun _=>?_⟩;rcases asm (W.idxOf (child w b))with e|e
  ·
   have h1:=PJ h;rw[e,hW.root]at h1;have:=congrArg Wy.steps (aqP h1);simp[child,root]at this
  exact_mod_cast e
 rename_i h;exact⟨fun h'=>absurd h' (by decide),fun h'=>absurd h' h⟩
theorem Zx{bits:Int}{w:Wy}{b:Nat}: ∀{R:List Rt},(∀r∈R,hit r bits w b=false)->mV bits R w b=gf.no:=by
 intro R
 suffices h: ∀(R:List Rt) (s:gf),(∀r∈R,hit r bits w b=false)->R.foldl (xQ bits w b) s=s from fun hR=>h R _ hR
 intro R
 induction R with
 |nil=>intro s _;rfl
 |cons r R ih=>
  intro s hR;rw[asw,xQ,if_neg (by rw[hR r (by simp)];simp)];exact ih s fun x hx=>hR x (by simp[hx])
theorem PL{r:Rt}{bits:Int}{w:Wy}{b:Nat}(hw:w.ok)(hb:b<16)(h:hit r bits w b=true)(hl:0<r.p.len):w=cW r.p.key w.steps:=by
 simp only[hit,alM,decide_eq_true_eq]at h;obtain⟨⟨h1,h2⟩,h3⟩:=h;obtain⟨_,_,h4⟩:=(IG _ _).1 h3;have hle:4*(w.steps:Int)<=r.p.len:=by rw[←h2];unfold bI;omega
 obtain⟨s,k⟩:=w;have hk:=E9 hw.1 hb hw.2;simp only at hk h4 hle⊢;rw[cW,←h4,IE,show min r.p.len ((4*s:Nat):Int)=((4*s:Nat):Int) by omega,hk]
theorem PM{p:bo}(h:p.len<=0):bI p=0:=by unfold bI;omega
theorem Zy{bits:Int}{W:List Wy}{R:List Rt}(hh:uP bits W R){w:Wy}{b:Nat}(hw:w.ok)(hb:b<16)(hs:0<w.steps)(hn:w∉W):mV bits R w b=gf.no:=
 Zx fun r hr=>by
  cases he:hit r bits w b with
  |false=>rfl
  |true=>
   have h':=he;simp only[hit,alM,decide_eq_true_eq]at h';obtain⟨⟨h1,h2⟩,h3⟩:=h';have hl:0<r.p.len:=by
    rcases Int.lt_or_le 0 r.p.len with h|h
    ·
     exact h
    rw[PM h]at h2;omega
   have e:=PL hw hb he hl;exact absurd (e▸hh r hr h1 w.steps hs (by omega)) hn
section
variable {bits:Int} {W:List Wy} {R:List Rt} {w:Wy} {node b:Nat}
theorem Jt(hw:W[node]? =some w)(hb:b<16):((nodes bits W R).getD node Nd.zero).nx b=qZ W w b:=by
 rw[PK hw,gT,Nd.lp hb]
theorem Zz(hW:iT W)(hw:W[node]? =some w)(hb:b<16)(hl:W.length<=512):uQ (nodes bits W R) node b=decide ((jR W (child w b)).length<=512):=by
 rw[uQ,Jt hw hb,Aa]
 by_cases h:child w b∈W
 ·
  rw[decide_eq_true ((Ab hW).2 h),Bool.true_or,jR,if_pos h,decide_eq_true hl]
 rw[decide_eq_false (fun h'=>h ((Ab hW).1 h')),atp,jR,if_neg h,af0];simp;omega
theorem ZA(hW:iT W)(hw:W[node]? =some w)(hb:b<16)(hl:(jR W (child w b)).length<=512):uR (nodes bits W R) node b=((jR W (child w b)).idxOf (child w b):Nat):=by
 rw[uR,Jt hw hb,Aa]
 by_cases h:child w b∈W
 ·
  rw[if_pos ((Ab hW).2 h),jR,if_pos h,qZ,if_pos h]
 rw[jR,if_neg h,af0]at hl;simp only[aqQ,aqS]at hl;rw[if_neg (fun h'=>h ((Ab hW).1 h')),if_neg (by omega),jR,if_neg h,List.idxOf_append,if_neg h];simp
theorem ZB(hW:iT W)(hw:W[node]? =some w)(hb:b<16)(hs:w.steps<31)(hh:uP bits W R)(hl:(jR W (child w b)).length<=512):uS (nodes bits W R) node b=nodes bits (jR W (child w b)) R:=by
 have Ju:=anc hw;have Fg:=hW.ok w Ju;rw[uS,Jt hw hb,Aa,PK hw]
 by_cases h:child w b∈W
 ·
  rw[if_pos (.inl ((Ab hW).2 h)),jR,if_pos h]
 rw[jR,if_neg h]at hl;simp only[af0,aqQ,aqS]at hl;rw[if_neg (by rw[Ab hW];intro h';rcases h' with h'|h';exact h h';omega),jR,if_neg h]
 have Ca:(child w b).ok:=⟨by simp only[child];omega,PA (by omega) hb Fg.2⟩;have cy:(W++[child w b]).Nodup:=by have:=PE (w:=child w b) hW.nodup;rwa [jR,if_neg h]at this
 have nlt:node<W.length:=(ad2.1 hw).1;refine arS fun i=>?_;rcases atC i W.length with hi|hi|hi
 ·
  obtain⟨v,hv⟩: ∃v,W[i]? =some v:=⟨W[i],by simp[hi]⟩;have ZC:=anc hv;have e2:(W++[child w b])[i]? =some v:=by rw[aq4 hi];exact hv
  rw[Ff e2,arD];have nx: ∀c,c<16->qZ (W++[child w b]) v c=if child v c=child w b then(W.length:Int)else qZ W v c:=fun c hc=>by
   unfold qZ
   by_cases h1:child v c=child w b
   ·
    rw[if_pos (by rw[h1];simp),if_pos h1,h1,List.idxOf_append,if_neg h];simp
   rw[if_neg h1]
   by_cases h2:child v c∈W
   ·
    rw[if_pos (by simp[h2]),if_pos h2,List.idxOf_append,if_pos h2]
   rw[if_neg (by simp[h1,h2]),if_neg h2]
  split
  ·
   rename_i e;subst e;rw[if_pos (by simp;omega)];obtain rfl:w=v:=aqP (hw.symm.trans hv);refine congrArg some (Nd.ext' (fun c hc=>?_) fun c hc=>?_)
   ·
    rw[Nd.Py,gT,gT,Nd.ll hc,Nd.ll hc]
   rw[Nd.Jo hb,gT,gT,Nd.lp hc,Nd.lp hc,nx c hc]
   by_cases Ac:b=c
   ·
    subst Ac;rw[if_pos rfl,if_pos rfl]
   rw[if_neg Ac,if_neg fun e=>Ac (PC Fg Fg hc hb e).2.symm]
  rename_i e;rw[aq4 (by simpa using hi),Ff hv];refine congrArg some (Nd.ext' (fun c hc=>?_) fun c hc=>?_)
  ·
   rw[gT,gT,Nd.ll hc,Nd.ll hc]
  rw[gT,gT,Nd.lp hc,Nd.lp hc,nx c hc,if_neg fun e'=>?_];obtain⟨rfl,_⟩:=PC (hW.ok v ZC) Fg hc hb e';exact e (get_inj hW.nodup hw hv)
 ·
  have e2:(W++[child w b])[i]? =some (child w b):=by rw[hi];simp
  rw[Ff e2,arD,if_neg (by omega),aq3 (by simp[hi])];simp only[Aa,hi,asy,List.getElem?_cons_zero];refine congrArg some (Nd.ext' (fun c hc=>?_) fun c hc=>?_)
  ·
   rw[Nd.Pv,gT,Nd.ll hc,Zy hh Ca hc (by simp[child]) h]
  rw[Nd.Pw,gT,Nd.lp hc,qZ,if_neg];intro hm;rcases aqZ.1 hm with hm|hm
  ·
   have:=hW.up _ hm (w.steps+1) (by simp only[child];omega);refine h ?_;have e3:cW (child (child w b) c).key (w.steps+1)=child w b:=by
    have:=E9 (k:=(child w b).key) (n:=w.steps+1) (b:=c) Ca.1 hc Ca.2;simp only[child,cW]at this⊢;rw[this]
   rwa [e3]at this
  have:=congrArg Wy.steps (arp.1 hm);simp[child]at this
 rw[aqV (by simp;omega),aqV (by simp;omega)]
end
def lP(p:bo):Nat:=(4 -(p.len -4*(bI p:Int))).toNat
theorem Ck{p:bo}(h:bj p=true):lP p<=4/\(p.len:Int)=4*(bI p:Int)+4 -(lP p:Int):=by
 obtain⟨_,h2,h3,_⟩:=(rM p).1 h;unfold lP bI;omega
theorem ZD{x y e:Nat}(hx:x<16)(hy:y<16)(he:e<=4)(h0:x%2^e=0):(x<=y/\y<x+2^e)↔ ∀j,e<=j->j<4->y.testBit j=x.testBit j:=by
 have hp:0<2^e:=Nat.two_pow_pos e;have hq:=asY x (2^e);have hr:=asY y (2^e);have hm:=asX y hp;have key:(x<=y/\y<x+2^e)↔y/2^e=x/2^e:=by
  constructor
  ·
   rintro⟨h1,h2⟩;apply Nat.le_antisymm
   ·
    apply Nat.le_of_lt_succ;apply atG;rw[Nat.mul_succ];omega
   exact Nat.div_le_div_right h1
  intro h;rw[h]at hr;omega
 rw[key];constructor
 ·
  intro h j h1 h2;have:=congrArg (fun z=>z.testBit (j -e)) h;simp only[as8]at this;rwa [show j -e+e=j by omega]at this
 intro h;refine atl fun j=>?_;rw[as8,as8];rcases aqX (j+e) 4 with hj|hj
 ·
  exact h _ (by omega) hj
 have hp:2^4<=2^(j+e):=ar2 (by decide) hj;rw[asH (arM hx hp),asH (arM hy hp)]
theorem PN{p:bo}(h:bj p=true):gx p.key (bI p)%2^lP p=0:=by
 obtain⟨h1,h2⟩:=Ck h;have hb:=(zK p).1 h;have hl:=Fe h;refine atl fun j=>?_;rw[Nat.testBit_mod_two_pow,Nat.zero_testBit]
 by_cases hj:j<lP p
 ·
  rw[Ci _ _ _ hl (by omega),hb.2.2.2 _ (by omega) (by omega)];simp
 simp[hj]
theorem PO{p:bo}(h:bj p=true):gx p.key (bI p)+2^lP p<=16:=by
 have h0:=PN h;have bb:=uN p.key (bI p);obtain⟨h1,_⟩:=Ck h;have:=asY (gx p.key (bI p)) (2^lP p);generalize gx p.key (bI p)=x at*;generalize lP p=e at*
 match e,h1 with
 |0,_=>simp;omega
 |1,_=>simp at*;omega
 |2,_=>simp at*;omega
 |3,_=>simp at*;omega
 |4,_=>simp at*;omega
theorem Fh{r:Rt}{bits:Int}{w:Wy}{b:Nat}(hr:bj r.p=true)(PQ:r.p.bits=bits)(hw:w.ok)(hb:b<16):
  hit r bits w b=true↔w=cW r.p.key (bI r.p)/\gx r.p.key (bI r.p)<=b/\b<gx r.p.key (bI r.p)+2^lP r.p:=by
 obtain⟨xR,qW⟩:=Ck hr;have pC:=(zK r.p).1 hr;have hl:=Fe hr;rw[ZD (uN _ _) hb xR (PN hr)];constructor
 ·
  intro h;have gp:w=cW r.p.key (bI r.p):=by
   have h':=h;simp only[hit,alM,decide_eq_true_eq]at h';obtain⟨⟨h1,h2⟩,h3⟩:=h';rcases Int.lt_or_le 0 r.p.len with hl|hl
   ·
    rw[h2];exact PL hw hb h hl
   ·
    have h0:=PM hl;rw[h0,zY];obtain⟨s,k⟩:=w;have hs:s=0:=by rw[h0]at h2;exact h2.symm
    subst hs;have:=hw.2;simp only[Nat.mul_zero]at this;rw[Ez _ _ (by decide)]at this;rw[root,←this]
  refine⟨gp,fun j h1 h2=>?_⟩;subst gp;simp only[hit,alM,decide_eq_true_eq]at h;obtain⟨_,_,h4⟩:=(IG _ _).1 h.2;have hm:=congrArg (fun k:Key=>k.getMsbD (4*bI r.p+3 -j)) h4;simp only[tg]at hm;rw[decide_eq_true (by omega),arH]at hm;rw[Ci _ _ _ hl h2,←hm];have e:=zZ (k:=(cW r.p.key (bI r.p)).key) (n:=bI r.p) hl hb (Cj _ _) (4*bI r.p+3 -j) (by omega);rw[if_neg (by omega),if_pos (by omega)]at e;have e':(rY (cW r.p.key (bI r.p)).key (cW r.p.key (bI r.p)).steps b).getMsbD (4*bI r.p+3 -j)=b.testBit (4*bI r.p+3 -(4*bI r.p+3 -j)):=e;rw[e'];congr 1;omega
 ·
  rintro⟨rfl,h⟩;simp only[hit,alM,decide_eq_true_eq];refine⟨⟨PQ,rfl⟩,(IG _ _).2 ⟨hr,?_,?_⟩⟩
  ·
   have hf:=PA (k:=(cW r.p.key (bI r.p)).key) (n:=bI r.p) hl hb (Cj _ _);refine(EA _ _).2 fun i hi h2=>?_;refine(EA _ _).1 hf i hi ?_;have:=pC.1;have h3:=pC.2.2.1;have h4:=pC.2.1;have:(bI r.p:Int)<=(r.p.bits -1)/4:=by unfold bI;omega
   omega
  ·
   refine vX fun i hi=>?_;have hm:=zZ (k:=(cW r.p.key (bI r.p)).key) (n:=bI r.p) hl hb (Cj _ _) i hi;have Jv:(rY (cW r.p.key (bI r.p)).key (cW r.p.key (bI r.p)).steps b).getMsbD i=_:=hm;rw[tg,Jv]
   by_cases h1:(i:Int)<r.p.len
   ·
    rw[decide_eq_true h1,arH]
    by_cases h2:i<4*bI r.p
    ·
     rw[if_pos h2];simp only[cW];rw[z8,decide_eq_true h2,arH]
    ·
     rw[if_neg h2,if_pos (by omega),h _ (by omega) (by omega),Ci _ _ _ hl (by omega)];congr 1;omega
   ·
    rw[decide_eq_false h1,as7,pC.2.2.2 i hi (by omega)]
def nJ(bits:Int)(W:List Wy)(R:List Rt)(r:Rt)(f:Nat):List Nd:=W.map fun w=>
 if w=cW r.p.key (bI r.p)then Nd.mk' (fun b=>if b<f then mV bits (R++[r]) w b else mV bits R w b) (qZ W w)else gT bits W R w
@[simp] theorem PR (bits:Int)(W:List Wy)(R:List Rt)(r:Rt)(f:Nat):(nJ bits W R r f).length=W.length:=by simp[nJ]
section
variable {bits:Int} {W:List Wy} {R:List Rt} {r:Rt} {f:Nat}
theorem Fi{w:Wy}{b:Nat}(h:hit r bits w b=false):mV bits (R++[r]) w b=mV bits R w b:=by
 rw[Jr,xQ,if_neg (by rw[h];simp)]
theorem ZE(hW:iT W)(hr:bj r.p=true)(hb:r.p.bits=bits):nJ bits W R r (gx r.p.key (bI r.p))=nodes bits W R:=by
 refine arT fun w hw=>?_;split
 ·
  rename_i e;refine Nd.ext' (fun b cU=>?_) fun b cU=>by rw[gT,Nd.lp cU,Nd.lp cU]
  rw[gT,Nd.ll cU,Nd.ll cU];split
  ·
   rename_i bb;refine Fi ?_
   cases hh:hit r bits w b with
   |false=>rfl
   |true=>have:=(Fh hr hb (hW.ok w hw) cU).1 hh;omega
  rfl
 rfl
theorem ZF(hW:iT W)(hr:bj r.p=true)(hb:r.p.bits=bits):nJ bits W R r (gx r.p.key (bI r.p)+2^lP r.p)=nodes bits W (R++[r]):=by
 refine arT fun w hw=>?_;split
 ·
  rename_i e;refine Nd.ext' (fun b cU=>?_) fun b cU=>by rw[gT,Nd.lp cU,Nd.lp cU]
  rw[gT,Nd.ll cU,Nd.ll cU];split
  ·
   rfl
  rename_i bb;refine(Fi ?_).symm
  cases hh:hit r bits w b with
  |false=>rfl
  |true=>have:=(Fh hr hb (hW.ok w hw) cU).1 hh;omega
 rename_i e;refine Nd.ext' (fun b cU=>?_) fun b cU=>by rw[gT,gT,Nd.lp cU,Nd.lp cU]
 rw[gT,gT,Nd.ll cU,Nd.ll cU];refine(Fi ?_).symm
 cases hh:hit r bits w b with
 |false=>rfl
 |true=>exact absurd ((Fh hr hb (hW.ok w hw) cU).1 hh).1 e
theorem Jw(f:Nat){i:Nat}(hi:W[i]? =some (cW r.p.key (bI r.p))):(nJ bits W R r f)[i]? =some (Nd.mk' (fun b=>if b<f then mV bits (R++[r]) (cW r.p.key (bI r.p)) b else mV bits R (cW r.p.key (bI r.p)) b) (qZ W (cW r.p.key (bI r.p)))):=by
 simp[nJ,hi]
theorem PS{i:Nat}(hi:W[i]? =some (cW r.p.key (bI r.p)))(hf:f<16){n:Nd}(hn:(nJ bits W R r f)[i]? =some n):n.sl f=mV bits R (cW r.p.key (bI r.p)) f:=by
 rw[Jw f hi]at hn;obtain rfl:=(aqP hn).symm;rw[Nd.ll hf,if_neg (by omega)]
theorem ZG(hW:iT W)(hf: ¬(mV bits R (cW r.p.key (bI r.p)) f).len<=r.p.len):nJ bits W R r (f+1)=nJ bits W R r f:=by
 refine arT fun w hw=>?_;split
 ·
  rename_i e;refine Nd.ext' (fun b cU=>?_) fun b cU=>by rw[Nd.lp cU,Nd.lp cU]
  rw[Nd.ll cU,Nd.ll cU]
  by_cases h1:b=f
  ·
   subst h1;rw[if_pos (by omega),if_neg (by omega),Jr,xQ,if_neg];subst e;intro h;exact hf h.2
  by_cases h2:b<f
  ·
   rw[if_pos (by omega),if_pos h2]
  rw[if_neg (by omega),if_neg h2]
 rfl
theorem ZH(hW:iT W)(hr:bj r.p=true)(hb:r.p.bits=bits){i:Nat}(hi:W[i]? =some (cW r.p.key (bI r.p))){n:Nd}(hn:(nJ bits W R r f)[i]? =some n)
  (h1:gx r.p.key (bI r.p)<=f) (h2:f<gx r.p.key (bI r.p)+2^lP r.p) (hf:(mV bits R (cW r.p.key (bI r.p)) f).len<=r.p.len):
  (nJ bits W R r f).set i (n.wm f ⟨r.p.len+1,r.cx⟩)=nJ bits W R r (f+1):=by
 have Of:=PO hr;have Ju:=anc hi;rw[Jw f hi]at hn;obtain rfl:=(aqP hn).symm;refine arS fun j=>?_;rw[arD];split
 ·
  rename_i e;subst e;have dD:=(ad2.1 hi).1;rw[if_pos (by simpa using dD),Jw (f+1) hi];refine congrArg some (Nd.ext' (fun b cU=>?_) fun b cU=>by rw[Nd.Px,Nd.lp cU,Nd.lp cU]);rw[Nd.E8 (by omega),Nd.ll cU,Nd.ll cU]
  by_cases h3:f=b
  ·
   subst h3;rw[if_pos rfl,if_pos (by omega),Jr,xQ,if_pos ⟨(Fh hr hb (hW.ok _ Ju) cU).2 ⟨rfl,h1,h2⟩,hf⟩]
  ·
   rw[if_neg h3]
   by_cases h4:b<f
   ·
    rw[if_pos h4,if_pos (by omega)]
   ·
    rw[if_neg h4,if_neg (by omega)]
 ·
  rename_i e;rcases aqX j W.length with hj|hj
  ·
   obtain⟨v,hv⟩: ∃v,W[j]? =some v:=⟨W[j],by simp[hj]⟩;have bM:v≠cW r.p.key (bI r.p):=fun e'=>by subst e';exact e (get_inj hW.nodup hi hv)
   simp[nJ,hv,bM]
  ·
   rw[aqV (by simpa using hj),aqV (by simpa using hj)]
end
theorem ZI{p:bo}(h:0<=p.len):max (0:Int) ((p.len -1).tdiv 4)=((bI p:Nat):Int):=by
 unfold bI;rcases Int.lt_or_le 0 p.len with h1|h1
 ·
  rw[Int.tdiv_eq_ediv_of_nonneg (by omega)];omega
 obtain h2:p.len=0:=by omega
 rw[h2];decide
theorem ZJ{l:Int}(h0:0<=l)(h1:l<=128):0<=(l -1).tdiv 4/\(l -1).tdiv 4<=31:=by
 rcases Int.lt_or_le 0 l with h|h
 ·
  rw[Int.tdiv_eq_ediv_of_nonneg (by omega)];omega
 obtain h2:l=0:=by omega
 rw[h2];decide
theorem PT{W:List Wy}(hW:iT W)(p:bo)(i:Nat):cW p.key i∈dI W p i:=by
 rcases asm i with e|e
 ·
  subst e;rw[zY,Jp];exact anc hW.root
 exact uO.2 (.inr ⟨i,e,aqY _,rfl⟩)
theorem uP.mono{bits:Int}{W W':List Wy}{R:List Rt}(h:uP bits W R)(hp:W<+:W'):uP bits W' R:=fun r hr hb s h1 h2=>hp.subset (h r hr hb s h1 h2)
theorem Jx{bits:Int}: ∀(n:Nat) (t:List Rt),uP bits (lq bits (t.take n)) (t.take n)
 |0,t=>by simp[uP]
 |n+1,t=>by
  rcases aqX n t.length with h|h
  ·
   rw[asx h,Jq];intro r hr hb s h1 h2;rcases aqZ.1 hr with hr|hr
   ·
    exact(Jx n t).mono PH r hr hb s h1 h2
   obtain rfl:=arp.1 hr;rw[nI,if_pos hb];exact uO.2 (.inr ⟨s,h1,h2,rfl⟩)
  rw[aq5 (by omega)];have:=Jx (bits:=bits) n t;rwa [aq5 h]at this
theorem Cl{bits:Int}{t:List Rt}{i:Nat}{r:Rt}(h:t[i]? =some r):lq bits (t.take (i+1))=nI (lq bits (t.take i)) r bits:=by
 obtain⟨hi,rfl⟩:=ad2.1 h;rw[asx hi,Jq]
theorem ZK{bits:Int}{t:List Rt}: ∀{i j:Nat},i<=j->lq bits (t.take i)<+:lq bits (t.take j):=by
 intro i j ni
 induction j with
 |zero=>obtain rfl:i=0:=by omega
        exact atm
 |succ j ih=>
  rcases aqX j i with h|h
  ·
   obtain rfl:i=j+1:=by omega
   exact atm
  refine(ih h).trans ?_;rcases aqX j t.length with h'|h'
  ·
   rw[asx h',Jq];exact PH
  rw[aq5 (by omega),aq5 (by omega)];exact atm
theorem ZL{bits:Int}{W:List Wy}{R:List Rt}{r:Rt}(h:r.p.bits≠bits):nodes bits W (R++[r])=nodes bits W R:=by
 refine arT fun w hw=>?_;refine Nd.ext' (fun b cU=>?_) fun b cU=>by rw[gT,gT,Nd.lp cU,Nd.lp cU]
 rw[gT,gT,Nd.ll cU,Nd.ll cU,Fi];simp[hit,h]
theorem ZM(bits:Int):nodes bits [root] []=[Nd.zero]:=by
 have e:gT bits [root] [] root=Nd.zero:=Nd.ext' (fun b hb=>by rw[gT,Nd.ll hb,Nd.Pv];rfl) fun b hb=>by
  rw[gT,Nd.lp hb,Nd.Pw,qZ,if_neg];intro h;have:=congrArg Wy.steps (arp.1 h);simp[child,root]at this
 simp[nodes,e]
theorem tq{t:List Rt}(h:bJ t=true){r:Rt}(hr:r∈t):bj r.p=true:=by
 obtain⟨i,hi⟩:=ash.1 hr;have bb:=(ad2.1 hi).1
 cases hm:bj r.p with
 |true=>rfl
 |false=>rw[EC bb (Ol hi hm)]at h;cases h
theorem xS{t:List Rt}(h:bJ t=true):t.length<=256:=by
 rcases aqX 256 t.length with h1|h1
 ·
  rw[Oi h1]at h;cases h
 exact h1
def oz(t:List Rt)(bits:Int):Int:=if bJ t=true/\(bits=32\/bits=128)then(if(lq bits t).length<=512 then 0 else 5)else 1
def tr(t:List Rt)(bits:Int):Int:=if oz t bits=0 then bits else 0
def tt(t:List Rt)(bits:Int):List Nd:=if oz t bits=0 then nodes bits (lq bits t) t else[]
theorem ZN{t:List Rt}{bits:Int}(h: ¬(bJ t=true/\(bits=32\/bits=128))):oz t bits=1/\tr t bits=0/\tt t bits=[]:=by
 have e:oz t bits=1:=by rw[oz,if_neg h]
 exact⟨e,by rw[tr,e];rfl,by rw[tt,e];rfl⟩
theorem ZO{t:List Rt}{bits:Int}(h:bJ t=true/\(bits=32\/bits=128))(h2: ¬(lq bits t).length<=512):oz t bits=5/\tr t bits=0/\tt t bits=[]:=by
 have e:oz t bits=5:=by rw[oz,if_pos h,if_neg h2]
 exact⟨e,by rw[tr,e];rfl,by rw[tt,e];rfl⟩
theorem ZP{t:List Rt}{bits:Int}(h:bJ t=true/\(bits=32\/bits=128))(h2:(lq bits t).length<=512):oz t bits=0/\tr t bits=bits/\tt t bits=nodes bits (lq bits t) t:=by
 have e:oz t bits=0:=by rw[oz,if_pos h,if_pos h2]
 exact⟨e,by rw[tr,e];rfl,by rw[tt,e];rfl⟩
open Go.ax
def bw(x:Int):Array Value:= #[.int .i64 x]
instance:bm bw 1:=⟨fun _=>rfl,fun _=>by simp[bw,Value.oneCell']⟩
instance (x:Int):cg (bw x) 0 (.int .i64 x):=⟨rfl⟩
instance:Deep Int:=Deep.flat bw 1
instance:fZ Int bw 1:=⟨rfl,fun _=>rfl⟩
instance:Plain Int:=⟨fun _=>rfl⟩
def pD(s:gf):Array Value:= #[.int .i64 s.len, .int .u16 s.cx.toNat]
instance:bm pD 2:=⟨fun _=>rfl,fun _=>by simp[pD,Value.oneCell']⟩
instance (s:gf):fP (pD s) 2:=⟨rfl,bm.one s⟩
instance (s:gf):cg (pD s) 0 (.int .i64 s.len):=⟨rfl⟩
instance (s:gf):cg (pD s) 1 (.int .u16 s.cx.toNat):=⟨rfl⟩
def q8(n:Nd)(j:Nat):Value:=if j<32 then(if j%2=0 then .int .i64 (n.sl (j/2)).len else .int .u16 (n.sl (j/2)).cx.toNat)else .int .i64 (n.nx (j -32))
def dw(n:Nd):Array Value:=((List.range 48).map (q8 n)).toArray
theorem Fj(n:Nd):(dw n).size=48:=by simp[dw]
theorem xT(n:Nd)(j:Nat)(h:j<48):(dw n)[j]? =some (q8 n j):=by simp[dw,h]
theorem Fk(n:Nd)(j:Nat)(h:48<=j):(dw n)[j]? =none:=by simp[dw];omega
instance:bm dw 48:=⟨Fj,fun n=>by
 rw[arx];intro v hv;simp only[dw,List.mem_toArray,ar0]at hv;obtain⟨j,_,rfl⟩:=hv;unfold q8;split
 ·
  split<;>rfl
 rfl⟩
instance (n:Nd):fP (dw n) 48:=⟨Fj n,bm.one n⟩
instance:Deep Nd:=Deep.flat dw 48
instance:fZ Nd dw 48:=⟨rfl,fun _=>rfl⟩
instance:Plain Nd:=⟨fun _=>rfl⟩
theorem Jy(n:Nd){b:Nat}(h:b<16):(dw n)[b*2]? =some (.int .i64 (n.sl b).len):=by
 rw[xT _ _ (by omega),q8,if_pos (by omega),if_pos (by omega),show b*2/2=b by omega]
theorem ZQ(n:Nd){b:Nat}(h:b<16):(dw n)[b*2+1]? =some (.int .u16 (n.sl b).cx.toNat):=by
 rw[xT _ _ (by omega),q8,if_pos (by omega),if_neg (by omega),show(b*2+1)/2=b by omega]
theorem PU(n:Nd){b:Nat}(h:b<16):(dw n)[32+b]? =some (.int .i64 (n.nx b)):=by
 rw[xT _ _ (by omega),q8,if_neg (by omega),show 32+b -32=b by omega]
theorem ZR(n:Nd){b:Nat}(h:b<16):nk (dw n) (b*2) 2 (pD (n.sl b)):=⟨rfl,fun j hj=>by
 match j,hj with
 |0,_=>exact Jy n h
 |1,_=>exact ZQ n h⟩
theorem ZS(n:Nd){b:Nat}(h:b<16)(x:Int):over (dw n) (32+b) #[.int .i64 x]=dw (n.wo b x):=asv fun j=>by
 rw[uu (by rw[Fj];simp;omega)];rcases aqX j 48 with hj|hj
 ·
  rw[xT n j hj,xT (n.wo b x) j hj];split
  ·
   rename_i h2;have e:j=32+b:=by simp at h2;omega
   subst e;rw[asy,q8,if_neg (by omega),show 32+b -32=b by omega,Nd.Jo h,if_pos rfl];rfl
  rename_i h2;rw[q8,q8]
  by_cases h3:j<32
  ·
   rw[if_pos h3,if_pos h3,Nd.Py]
  rw[if_neg h3,if_neg h3,Nd.Jo h,if_neg];simp at h2;omega
 rw[if_neg (by simp;omega),Fk _ _ hj,Fk _ _ hj]
theorem ZT(n:Nd){b:Nat}(h:b<16)(s:gf):over (dw n) (b*2) (pD s)=dw (n.wm b s):=asv fun j=>by
 have hs:(pD s).size=2:=rfl;rw[uu (by rw[Fj,hs];omega),hs];rcases aqX j 48 with hj|hj
 ·
  rw[xT n j hj,xT (n.wm b s) j hj];split
  ·
   rename_i h2;rw[q8,if_pos (by omega)];rcases aqX j (b*2+1)with h3|h3
   ·
    obtain rfl:j=b*2:=by omega
    rw[if_pos (by omega),show b*2/2=b by omega,Nd.E8 h,if_pos rfl,asy];rfl
   obtain rfl:j=b*2+1:=by omega
   rw[if_neg (by omega),show(b*2+1)/2=b by omega,Nd.E8 h,if_pos rfl,show b*2+1 -b*2=1 by omega];rfl
  rename_i h2;rw[q8,q8]
  by_cases h3:j<32
  ·
   have bM: ¬b=j/2:=by omega
   rw[if_pos h3,if_pos h3,Nd.E8 h];simp only[if_neg bM]
  rw[if_neg h3,if_neg h3,Nd.Px]
 rw[if_neg (by omega),Fk _ _ hj,Fk _ _ hj]
structure lQ where
 bits:Int
 ns:Sl Nd
def dJ(t:lQ):Array Value:= #[.int .i64 t.bits,t.ns.sv.val]
instance:bm dJ 2:=⟨fun _=>rfl,fun t=>by
 have h1:(Value.int .i64 t.bits).oneCell'=true:=rfl;simp only[dJ,asJ,asP,as4,Sv.one,h1,asA]⟩
instance (t:lQ):fP (dJ t) 2:=⟨rfl,bm.one t⟩
instance (t:lQ):nk (dJ t) 0 2 (dJ t):=⟨rfl,fun j _=>by rw[ary]⟩
instance (t:lQ):cg (dJ t) 0 (.int .i64 t.bits):=⟨rfl⟩
instance (t:lQ):cg (dJ t) 1 t.ns.sv.val:=⟨rfl⟩
instance:Deep lQ where
 c:=2
 cells:=dJ
 size:=bm.size
 one:=bm.one
 cF h x:=Deep.cF h x.ns
 cc x:=Deep.cc x.ns
 jg h x hs:=Deep.jg h x.ns hs
 mono w w' x:=Deep.mono w w' x.ns
variable {w0:World}{L:List aj}
instance{x:lQ}[q:aT w0 L x]:aT w0 L x.ns:=⟨q.h⟩
instance{x:lQ}[q:aT w0 L x]:Hd w0 L x.ns.sv dw 48 x.ns.xs:=(inferInstance:Hd w0 L x.ns.sv dw 48 x.ns.xs)
end Go.Kb
namespace Go.ax
open Go.Kb
section
variable {P:Program} {N:ct} {w0:World} {env:Env} {L:List aj} {d:Option Tmp} {ty:TypeId} {ps:String} {af:Array Edge} {gd:Option (Nat×Bool)}
theorem jy{x:Operand}{a:Addr}(hx:ev env x=some (.pointer (some a))):Ry P N w0 env L ⟨d, .nilCheck x,ty,ps,af,gd⟩ (.pointer (some a)):=fun _ w ha _=>by
 simp only[execOp,ha.ev hx,Sem.run_pure]
variable {s:Sv} {xs:List Nd} {a:Nd}
theorem PW{t:TypeId}{x:Operand}{p:Nat}[ht:fK P t][q:Hd w0 L s dw 48 xs](hx:ev env x=some (.pointer (some ⟨s.b,p,none⟩)))(i:Nat)(hi:xs[i]? =some a)(b:Nat)(hb:b<16)(fv:p=s.o+i*48+32+b):
  Ry P N w0 env L ⟨d, .load t x,ty,ps,af,gd⟩ (.int .i64 (a.nx b)):=Ig (j:=32+b) hx q.h hi (by omega) (by omega) (PU a hb)
theorem ZU{t:TypeId}{x:Operand}{p:Nat}[ht:fK P t][q:Hd w0 L s dw 48 xs](hx:ev env x=some (.pointer (some ⟨s.b,p,none⟩)))(i:Nat)(hi:xs[i]? =some a)(b:Nat)(hb:b<16)(fv:p=s.o+i*48+b*2):
  Ry P N w0 env L ⟨d, .load t x,ty,ps,af,gd⟩ (.int .i64 (a.sl b).len):=Ig (j:=b*2) hx q.h hi (by omega) (by omega) (Jy a hb)
theorem ZV{t:TypeId}{x:Operand}{p:Nat}[ht:fE P t 2][q:Hd w0 L s dw 48 xs](hx:ev env x=some (.pointer (some ⟨s.b,p,none⟩)))(i:Nat)(hi:xs[i]? =some a)(b:Nat)(hb:b<16)(fv:p=s.o+i*48+b*2):
  Ry P N w0 env L ⟨d, .load t x,ty,ps,af,gd⟩ (.agg (pD (a.sl b))):=
 have:=ZR a hb
 Ih (j:=b*2) hx q.h hi (by omega) (by omega)
theorem ZW{t T:TypeId}{x:Operand}{p k i:Nat}[ht:fK P t][q:Has L k (dw a) T i](hx:ev env x=some (.pointer (some ⟨k,p,none⟩)))(b:Nat)(hb:b<16)(fv:p=32+b):
  Ry P N w0 env L ⟨d, .load t x,ty,ps,af,gd⟩ (.int .i64 (a.nx b)):=zf hx (by rw[fv];exact PU a hb)
theorem ZX{t T:TypeId}{x:Operand}{p k i:Nat}[ht:fK P t][q:Has L k (dw a) T i](hx:ev env x=some (.pointer (some ⟨k,p,none⟩)))(b:Nat)(hb:b<16)(fv:p=b*2):
  Ry P N w0 env L ⟨d, .load t x,ty,ps,af,gd⟩ (.int .i64 (a.sl b).len):=zf hx (by rw[fv];exact Jy a hb)
end
section
variable {P:Program} {N:ct} {w0:World} {env:Env} {L:List aj} {l:List Oper} {Q:Exit->Act->World->Prop} {rest:List Oper} {ty:TypeId} {ps:String} {af:Array Edge}
variable {s:Sv} {xs:List Nd} {a:Nd}
theorem ZY{t:TypeId}{x y:Operand}{i k p:Nat}{v:gf}[ht:fE P t 2](hx:ev env x=some (.pointer (some ⟨s.b,p,none⟩)))(hy:ev env y=some (.agg (pD v)))[q:fw L s dw 48 xs i](ha:xs[k]? =some a)(b:Nat)(hb:b<16)(fv:p=s.o+k*48+b*2){L':List aj}[hu:fu L i (own dw 48 s (xs.set k (a.wm b v))) L'](hk:Sq P N w0 l Q rest env L'):
  Sq P N w0 l Q (⟨none, .store t x y,ty,ps,af,none⟩::rest) env L:=
 kz (j:=b*2) (n:=2) (a':=a.wm b v) ht.size hx hy (q:=q) (by omega) ha (bm.one v) rfl (by omega) (ZT a hb v) hk
theorem PX{t:TypeId}{x y:Operand}{i k p:Nat}{s:Sv}{xs:List Int}{a v:Int}[ht:fK P t](hx:ev env x=some (.pointer (some ⟨s.b,p,none⟩)))(hy:ev env y=some (.int .i64 v))[q:fw L s bw 1 xs i](ha:xs[k]? =some a)(fv:p=s.o+k*1){L':List aj}[hu:fu L i (own bw 1 s (xs.set k v)) L'](hk:Sq P N w0 l Q rest env L'):
  Sq P N w0 l Q (⟨none, .store t x y,ty,ps,af,none⟩::rest) env L:=
 kz (j:=0) (n:=1) (a':=v) ht.size hx hy (q:=q) (by omega) ha (by simp[Value.cells,Value.oneCell']) rfl (by omega) (by rfl) hk
end
end Go.ax
