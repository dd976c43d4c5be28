/- Part of a proof. -/
import Derived.Test.YtkggjjnhnjjokaaGreatDoorF1
import Derived.Lib.Join
import Derived.Test.YtkggjjnhnjjokaaGreatDoorRows
import Derived.Shelf.Strings.Builder1
import Derived.Shelf.Strings.Builder2
import Derived.Shelf.Strings.OnBuilder
import Derived.Shelf.Small.Strs
import Derived.Shelf.Utf8.RuneCount
import Derived.Shelf.Strconv.Itoa0
import Derived.Shelf.Strconv.Itoa1
import Derived.Shelf.LaysM
import Derived.Shelf.Strconv.Itoa2
import Derived.Shelf.Strconv.Itoa3
import Derived.Shelf.Strings.Search1
import Derived.Shelf.Strings.Search2
import Derived.Shelf.Strings.Search3
import Derived.Shelf.Strings.Cut
import Derived.Shelf.Strings.Count
import Derived.Shelf.Strings.Shaped
import Derived.Shelf.Strings.Split
import Derived.Shelf.Strings.SplitShaped
import Derived.Shelf.Unicode.Decode
import Derived.Shelf.Strings.RuneCount
import Derived.Shelf.Strings.Explode
import Derived.Shelf.Unicode.DecodeSlow
import Derived.Shelf.Unicode.DecodeAny
import Derived.Test.YtkggjjnhnjjokaaGreatDoorProg
import Derived.Lib.AppendZerosOnto
import Derived.Lib.Overlaps
import Derived.Lib.AppendZeros
set_option maxRecDepth 20000
set_option linter.unusedSimpArgs false
set_option linter.unusedVariables false
namespace Go.Kb
open Go.au
variable {s:bR} {i n top:Nat} {c:UInt8}
def ql(c:UInt8):Int:=match jV c with
 |some n=>(n:Int)
 |none=> -1
def AE(s:bR)(top:Nat):Int:=match cB s top with
 |some n=>(n:Int)
 |none=> -1
theorem LF(h:i<s.length):s.take (i+1)=s.take i++[s.getD i 0]:=by
 rw[aoH h];simp[List.getD,h]
theorem C9(h:i<s.length):val (s.take (i+1))=10*val (s.take i)+((s.getD i 0).toNat -48):=by rw[LF h,CS]
theorem LG(h:i<s.length)(h1:(s.take i).all kr=true)(h2:48<=(s.getD i 0).toNat/\(s.getD i 0).toNat<=57):(s.take (i+1)).all kr=true:=by
 rw[LF h,List.all_append,h1];simp only[aoZ,ao8,kr];simpa using h2
theorem TR: ∀k (s:bR),s.length=k->s.all kr=true->val s<10^k:=by
 intro k
 induction k with
 |zero=>intro s hl _;rw[anB.1 hl];simp[val]
 |succ k ih=>
  intro s hl hd;obtain⟨t,c,rfl⟩: ∃t c,s=t++[c]:=by
   rcases List.eq_nil_or_concat s with h|⟨t,c,h⟩
   ·
    subst h;simp at hl
   exact⟨t,c,by simpa using h⟩
  rw[List.all_append,anc]at hd;have hc:48<=c.toNat/\c.toNat<=57:=by
   have:=hd.2;simpa[kr]using this
  have:=ih t (by simpa using hl) hd.1;rw[CS,Nat.pow_succ];omega
theorem TS(h:i<=5)(hi:i<=s.length)(h1:(s.take i).all kr=true):val (s.take i)<100000:=by
 have:=TR i (s.take i) (by simp;omega) h1;exact anW this (an9 (by decide) h)
theorem TT(a b:bR):val a<=val (a++b):=by
 have key: ∀(b:bR) (m:Nat),m<=b.foldl (fun a c=>10*a+(c.toNat -48)) m:=by
  intro b
  induction b with
  |nil=>intro m;exact anm _
  |cons x b ih=>intro m;exact Nat.le_trans (show m<=10*m+(x.toNat -48) by omega) (ih _)
 unfold val;rw[apo];exact key b _
theorem GK(h:0<s.length):s.head?=some (s.getD 0 0):=by
 cases s with
 |nil=>simp at h
 |cons x s=>rfl
theorem TU(ht:top<=65535)(h:s.length=0\/5<s.length\/(1<s.length/\(s.getD 0 0).toNat=48)):cB s top=none:=by
 cases e:cB s top with
 |none=>rfl
 |some n=>
  obtain⟨rfl,hn⟩:=kt.1 e;have hl:=Tg 5 n (by omega) (by decide);have hp:=Gw n;have h0:=apd.2 hp.1;rcases h with h|h|⟨h,h2⟩
  ·
   omega
  ·
   omega
  rcases hp.2 with h3|h3
  ·
   omega
  rw[GK h0]at h3;exact absurd (congrArg some (apl.1 h2:(dec n).getD 0 0=48)) h3
theorem TV(h:s=[]\/(1<s.length/\(s.getD 0 0).toNat=48)):cB s top=none:=by
 cases e:cB s top with
 |none=>rfl
 |some n=>
  obtain⟨rfl,hn⟩:=kt.1 e;have hp:=Gw n;have h0:=apd.2 hp.1;rcases h with h|⟨h,h2⟩
  ·
   exact absurd h hp.1
  rcases hp.2 with h3|h3
  ·
   omega
  rw[GK h0]at h3;exact absurd (congrArg some (apl.1 h2:(dec n).getD 0 0=48)) h3
theorem LH(h:i<s.length)(h2:(s.getD i 0).toNat<48\/57<(s.getD i 0).toNat):cB s top=none:=by
 cases e:cB s top with
 |none=>rfl
 |some n=>
  obtain⟨rfl,hn⟩:=kt.1 e;have:=anw.1 (Gt n) ((dec n).getD i 0) (by simp[List.getD,h]);simp only[kr,decide_eq_true_eq]at this;omega
theorem LK(h:top<val (s.take i)):cB s top=none:=by
 cases e:cB s top with
 |none=>rfl
 |some n=>
  obtain⟨rfl,hn⟩:=kt.1 e;have:=TT ((dec n).take i) ((dec n).drop i);rw[anO,Gu]at this;omega
theorem LL(h:s≠[])(h1: ¬(1<s.length/\(s.getD 0 0).toNat=48))(h2:s.all kr=true)(h3:val s<=top):cB s top=some (val s):=by
 unfold cB;rw[if_pos];refine⟨h,?_,h2,h3⟩;have h0:=apd.2 h;rcases anl 1 s.length with h4|h4
 ·
  right;rw[GK h0];intro e;exact h1 ⟨h4,by rw[ani e];rfl⟩
 exact .inl h4
variable {s:bR} {i n st:Nat} {c:UInt8}
variable {ps:List bR}
theorem TW{x:bR}: ∀(s:bR),x∈cw c s->x.length<=s.length:=by
 intro s;have key: ∀n (s:bR),s.length<=n->x∈cw c s->x.length<=s.length:=by
  intro n
  induction n with
  |zero=>
   intro s hs hx;obtain rfl:=anB.1 (Nat.le_zero.1 hs);simp[cw]at hx;simp[hx]
  |succ n ih=>
   intro s hs hx;rcases yp (c:=c) s with⟨_,h2⟩|⟨a,b,h1,_,h3⟩
   ·
    rw[h2,anE]at hx;rw[hx];exact anm _
   rw[h3,ank]at hx;have hl:s.length=a.length+(b.length+1):=by rw[h1];simp
   rcases hx with rfl|hx
   ·
    omega
   have:=ih b (by omega) hx;omega
 exact key s.length s (anm _)
variable {k:Key} {i n:Nat} {s:bR} {c:UInt8}
section
variable {P:Program} {N:bO} {w0:World} {env:Env} {L:List ai} {d:Option Tmp} {ty t u:TypeId} {ps:String} {af:Array Edge} {gd:Option (Nat×Bool)}
end
variable {k:Key} {i:Nat}
end Go.Kb
namespace Go.Proofs.YtkggjjnhnjjokaaGreatDoor
open Go.au
instance aej:eY Tryz.prog 3:=⟨⟨_,Tryz.underlying3,rfl⟩,by kernel_rfl⟩
instance aek:lP Tryz.prog 3 .i64:=⟨Tryz.underlying3⟩
instance ael:eY Tryz.prog 4:=⟨⟨_,Tryz.underlying4,rfl⟩,by kernel_rfl⟩
instance aem:eY Tryz.prog 5:=⟨⟨_,Tryz.underlying5,rfl⟩,by kernel_rfl⟩
instance aen:lP Tryz.prog 5 .u8:=⟨Tryz.underlying5⟩
instance aeo:eY Tryz.prog 9:=⟨⟨_,Tryz.underlying9,rfl⟩,by kernel_rfl⟩
instance aep:eY Tryz.prog 22:=⟨⟨_,Tryz.underlying22,rfl⟩,by kernel_rfl⟩
instance aeq:ez Tryz.prog 22 34 19:=⟨Tryz.underlying22,by kernel_rfl⟩
instance aer:eu Tryz.prog 25 16:=⟨⟨_,Tryz.underlying25,rfl⟩,by kernel_rfl⟩
instance aes:sJ Tryz.prog 25 16 1:=⟨⟨_,Tryz.underlying25,by kernel_rfl⟩⟩
instance aet:lP Tryz.prog 26 .u32:=⟨Tryz.underlying26⟩
instance aeu:eY Tryz.prog 27:=⟨⟨_,Tryz.underlying27,rfl⟩,by kernel_rfl⟩
instance aev:lP Tryz.prog 27 .u16:=⟨Tryz.underlying27⟩
instance aew:eu Tryz.prog 32 18:=⟨⟨_,Tryz.underlying32,rfl⟩,by kernel_rfl⟩
instance aex:cY Tryz.prog 32 0 0:=⟨⟨_,_,0,Tryz.underlying32,rfl,rfl,by kernel_rfl⟩⟩
instance aey:cY Tryz.prog 32 1 1:=⟨⟨_,_,0,Tryz.underlying32,rfl,rfl,by kernel_rfl⟩⟩
instance aez:cY Tryz.prog 32 2 2:=⟨⟨_,_,15,Tryz.underlying32,rfl,rfl,by kernel_rfl⟩⟩
instance aeA:eu Tryz.prog 34 19:=⟨⟨_,Tryz.underlying34,rfl⟩,by kernel_rfl⟩
instance aeB:cY Tryz.prog 34 0 0:=⟨⟨_,_,17,Tryz.underlying34,rfl,rfl,by kernel_rfl⟩⟩
instance aeC:cY Tryz.prog 34 1 18:=⟨⟨_,_,0,Tryz.underlying34,rfl,rfl,by kernel_rfl⟩⟩
instance aeD:ez Tryz.prog 42 32 18:=⟨Tryz.underlying42,by kernel_rfl⟩
instance aeE:ez Tryz.prog 45 47 20:=⟨Tryz.underlying45,by kernel_rfl⟩
instance aeF:eu Tryz.prog 47 20:=⟨⟨_,Tryz.underlying47,rfl⟩,by kernel_rfl⟩
instance aeG:cY Tryz.prog 47 0 0:=⟨⟨_,_,18,Tryz.underlying47,rfl,rfl,by kernel_rfl⟩⟩
instance aeH:cY Tryz.prog 47 1 19:=⟨⟨_,_,0,Tryz.underlying47,rfl,rfl,by kernel_rfl⟩⟩
instance aeI:eY Tryz.prog 53:=⟨⟨_,Tryz.underlying53,rfl⟩,by kernel_rfl⟩
instance aeJ:ez Tryz.prog 53 5 1:=⟨Tryz.underlying53,by kernel_rfl⟩
instance aeK:eY Tryz.prog 56:=⟨⟨_,Tryz.underlying56,rfl⟩,by kernel_rfl⟩
instance aeL:ez Tryz.prog 56 180 4:=⟨Tryz.underlying56,by kernel_rfl⟩
instance aeM:eY Tryz.prog 57:=⟨⟨_,Tryz.underlying57,rfl⟩,by kernel_rfl⟩
instance aeN:ez Tryz.prog 57 97 4:=⟨Tryz.underlying57,by kernel_rfl⟩
instance aeO:eu Tryz.prog 59 6:=⟨⟨_,Tryz.underlying59,rfl⟩,by kernel_rfl⟩
instance aeP:cY Tryz.prog 59 0 0:=⟨⟨_,_,0,Tryz.underlying59,rfl,rfl,by kernel_rfl⟩⟩
instance aeQ:cY Tryz.prog 59 1 1:=⟨⟨_,_,0,Tryz.underlying59,rfl,rfl,by kernel_rfl⟩⟩
instance aeR:cY Tryz.prog 59 2 2:=⟨⟨_,_,0,Tryz.underlying59,rfl,rfl,by kernel_rfl⟩⟩
instance aeS:cY Tryz.prog 59 3 3:=⟨⟨_,_,0,Tryz.underlying59,rfl,rfl,by kernel_rfl⟩⟩
instance aeT:cY Tryz.prog 59 4 4:=⟨⟨_,_,0,Tryz.underlying59,rfl,rfl,by kernel_rfl⟩⟩
instance aeU:cY Tryz.prog 59 5 5:=⟨⟨_,_,0,Tryz.underlying59,rfl,rfl,by kernel_rfl⟩⟩
instance aeV:eY Tryz.prog 60:=⟨⟨_,Tryz.underlying60,rfl⟩,by kernel_rfl⟩
instance aeW:ez Tryz.prog 60 3 1:=⟨Tryz.underlying60,by kernel_rfl⟩
instance aeX:eY Tryz.prog 61:=⟨⟨_,Tryz.underlying61,rfl⟩,by kernel_rfl⟩
instance aeY:lP Tryz.prog 61 .u64:=⟨Tryz.underlying61⟩
instance aeZ:eu Tryz.prog 63 9:=⟨⟨_,Tryz.underlying63,rfl⟩,by kernel_rfl⟩
instance ae0:cY Tryz.prog 63 0 0:=⟨⟨_,_,5,Tryz.underlying63,rfl,rfl,by kernel_rfl⟩⟩
instance ae1:cY Tryz.prog 63 1 6:=⟨⟨_,_,0,Tryz.underlying63,rfl,rfl,by kernel_rfl⟩⟩
instance ae2:cY Tryz.prog 63 2 7:=⟨⟨_,_,0,Tryz.underlying63,rfl,rfl,by kernel_rfl⟩⟩
instance ae3:cY Tryz.prog 63 3 8:=⟨⟨_,_,0,Tryz.underlying63,rfl,rfl,by kernel_rfl⟩⟩
instance ae4:eu Tryz.prog 65 10:=⟨⟨_,Tryz.underlying65,rfl⟩,by kernel_rfl⟩
instance ae5:cY Tryz.prog 65 0 0:=⟨⟨_,_,8,Tryz.underlying65,rfl,rfl,by kernel_rfl⟩⟩
instance ae6:cY Tryz.prog 65 1 9:=⟨⟨_,_,0,Tryz.underlying65,rfl,rfl,by kernel_rfl⟩⟩
instance ae7:eu Tryz.prog 97 4:=⟨⟨_,Tryz.underlying97,rfl⟩,by kernel_rfl⟩
instance ae8:cY Tryz.prog 97 0 0:=⟨⟨_,_,0,Tryz.underlying97,rfl,rfl,by kernel_rfl⟩⟩
instance ae9:cY Tryz.prog 97 1 1:=⟨⟨_,_,0,Tryz.underlying97,rfl,rfl,by kernel_rfl⟩⟩
instance afa:cY Tryz.prog 97 2 2:=⟨⟨_,_,0,Tryz.underlying97,rfl,rfl,by kernel_rfl⟩⟩
instance afb:cY Tryz.prog 97 3 3:=⟨⟨_,_,0,Tryz.underlying97,rfl,rfl,by kernel_rfl⟩⟩
instance afc:eY Tryz.prog 122:=⟨⟨_,Tryz.underlying122,rfl⟩,by kernel_rfl⟩
instance afd:ez Tryz.prog 122 225 48:=⟨Tryz.underlying122,by kernel_rfl⟩
instance afe:eu Tryz.prog 124 2:=⟨⟨_,Tryz.underlying124,rfl⟩,by kernel_rfl⟩
instance aff:cY Tryz.prog 124 0 0:=⟨⟨_,_,0,Tryz.underlying124,rfl,rfl,by kernel_rfl⟩⟩
instance afg:cY Tryz.prog 124 1 1:=⟨⟨_,_,0,Tryz.underlying124,rfl,rfl,by kernel_rfl⟩⟩
instance afh:ez Tryz.prog 155 9 1:=⟨Tryz.underlying155,by kernel_rfl⟩
instance afi:eY Tryz.prog 178:=⟨⟨_,Tryz.underlying178,rfl⟩,by kernel_rfl⟩
instance afj:ez Tryz.prog 178 53 1:=⟨Tryz.underlying178,by kernel_rfl⟩
instance afk:eu Tryz.prog 180 4:=⟨⟨_,Tryz.underlying180,rfl⟩,by kernel_rfl⟩
instance afl:cY Tryz.prog 180 0 0:=⟨⟨_,_,0,Tryz.underlying180,rfl,rfl,by kernel_rfl⟩⟩
instance afm:cY Tryz.prog 180 1 1:=⟨⟨_,_,0,Tryz.underlying180,rfl,rfl,by kernel_rfl⟩⟩
instance afn:cY Tryz.prog 180 2 2:=⟨⟨_,_,0,Tryz.underlying180,rfl,rfl,by kernel_rfl⟩⟩
instance afo:cY Tryz.prog 180 3 3:=⟨⟨_,_,0,Tryz.underlying180,rfl,rfl,by kernel_rfl⟩⟩
instance afp:ez Tryz.prog 191 269 2:=⟨Tryz.underlying191,by kernel_rfl⟩
instance afq:eu Tryz.prog 217 2:=⟨⟨_,Tryz.underlying217,rfl⟩,by kernel_rfl⟩
instance afr:cY Tryz.prog 217 0 0:=⟨⟨_,_,1,Tryz.underlying217,rfl,rfl,by kernel_rfl⟩⟩
instance afs:eu Tryz.prog 221 2:=⟨⟨_,Tryz.underlying221,rfl⟩,by kernel_rfl⟩
instance aft:cY Tryz.prog 221 0 0:=⟨⟨_,_,0,Tryz.underlying221,rfl,rfl,by kernel_rfl⟩⟩
instance afu:cY Tryz.prog 221 1 1:=⟨⟨_,_,0,Tryz.underlying221,rfl,rfl,by kernel_rfl⟩⟩
instance afv:sJ Tryz.prog 222 16 2:=⟨⟨_,Tryz.underlying222,by kernel_rfl⟩⟩
instance afw:sJ Tryz.prog 223 16 1:=⟨⟨_,Tryz.underlying223,by kernel_rfl⟩⟩
instance afx:eu Tryz.prog 225 48:=⟨⟨_,Tryz.underlying225,rfl⟩,by kernel_rfl⟩
instance afy:cY Tryz.prog 225 0 0:=⟨⟨_,_,31,Tryz.underlying225,rfl,rfl,by kernel_rfl⟩⟩
instance afz:cY Tryz.prog 225 1 32:=⟨⟨_,_,15,Tryz.underlying225,rfl,rfl,by kernel_rfl⟩⟩
instance afA:lP Tryz.prog 253 .u64:=⟨Tryz.underlying253⟩
instance afB:eY Tryz.prog 259:=⟨⟨_,Tryz.underlying259,rfl⟩,by kernel_rfl⟩
instance afC:cY Tryz.prog 261 0 0:=⟨⟨_,_,8,Tryz.underlying261,rfl,rfl,by kernel_rfl⟩⟩
instance afD:cY Tryz.prog 261 1 9:=⟨⟨_,_,0,Tryz.underlying261,rfl,rfl,by kernel_rfl⟩⟩
instance afE:eu Tryz.prog 269 2:=⟨⟨_,Tryz.underlying269,rfl⟩,by kernel_rfl⟩
instance afF:cY Tryz.prog 269 0 0:=⟨⟨_,_,0,Tryz.underlying269,rfl,rfl,by kernel_rfl⟩⟩
instance afG:cY Tryz.prog 269 1 1:=⟨⟨_,_,0,Tryz.underlying269,rfl,rfl,by kernel_rfl⟩⟩
instance afH:eu Tryz.prog 314 2:=⟨⟨_,Tryz.underlying314,rfl⟩,by kernel_rfl⟩
instance afI:cY Tryz.prog 314 0 0:=⟨⟨_,_,0,Tryz.underlying314,rfl,rfl,by kernel_rfl⟩⟩
instance afJ:cY Tryz.prog 314 1 1:=⟨⟨_,_,0,Tryz.underlying314,rfl,rfl,by kernel_rfl⟩⟩
instance afK:sJ Tryz.prog 317 20 1:=⟨⟨_,Tryz.underlying317,by kernel_rfl⟩⟩
instance afL:eu Tryz.prog 319 0:=⟨⟨_,Tryz.underlying319,rfl⟩,by kernel_rfl⟩
instance afM:eu Tryz.prog 324 4:=⟨⟨_,Tryz.underlying324,rfl⟩,by kernel_rfl⟩
instance afN:cY Tryz.prog 324 0 0:=⟨⟨_,_,0,Tryz.underlying324,rfl,rfl,by kernel_rfl⟩⟩
instance afO:cY Tryz.prog 324 1 1:=⟨⟨_,_,0,Tryz.underlying324,rfl,rfl,by kernel_rfl⟩⟩
instance afP:cY Tryz.prog 324 2 2:=⟨⟨_,_,0,Tryz.underlying324,rfl,rfl,by kernel_rfl⟩⟩
instance afQ:cY Tryz.prog 324 3 3:=⟨⟨_,_,0,Tryz.underlying324,rfl,rfl,by kernel_rfl⟩⟩
instance afR:ez Tryz.prog 366 60 1:=⟨Tryz.underlying366,by kernel_rfl⟩
instance afS:ez Tryz.prog 396 178 1:=⟨Tryz.underlying396,by kernel_rfl⟩
instance afT:ez Tryz.prog 399 402 4:=⟨Tryz.underlying399,by kernel_rfl⟩
instance afU:eu Tryz.prog 402 4:=⟨⟨_,Tryz.underlying402,rfl⟩,by kernel_rfl⟩
instance afV:cY Tryz.prog 402 0 0:=⟨⟨_,_,0,Tryz.underlying402,rfl,rfl,by kernel_rfl⟩⟩
instance afW:cY Tryz.prog 402 1 1:=⟨⟨_,_,0,Tryz.underlying402,rfl,rfl,by kernel_rfl⟩⟩
instance afX:cY Tryz.prog 402 2 2:=⟨⟨_,_,0,Tryz.underlying402,rfl,rfl,by kernel_rfl⟩⟩
instance afY:cY Tryz.prog 402 3 3:=⟨⟨_,_,0,Tryz.underlying402,rfl,rfl,by kernel_rfl⟩⟩
instance afZ:eu Tryz.prog 432 5:=⟨⟨_,Tryz.underlying432,rfl⟩,by kernel_rfl⟩
instance af1:cY Tryz.prog 432 0 0:=⟨⟨_,_,3,Tryz.underlying432,rfl,rfl,by kernel_rfl⟩⟩
instance af2:cY Tryz.prog 432 1 4:=⟨⟨_,_,0,Tryz.underlying432,rfl,rfl,by kernel_rfl⟩⟩
instance af3:eY Tryz.prog 433:=⟨⟨_,Tryz.underlying433,rfl⟩,by kernel_rfl⟩
instance af4:ez Tryz.prog 443 433 1:=⟨Tryz.underlying443,by kernel_rfl⟩
instance af5:aD Tryz.prog 12:=⟨⟨Tryz.f12,Tryz.func12,by kernel_rfl,by kernel_rfl⟩⟩
instance af6:aD Tryz.prog 13:=⟨⟨Tryz.f13,Tryz.func13,by kernel_rfl,by kernel_rfl⟩⟩
instance af7:aD Tryz.prog 15:=⟨⟨Tryz.f15,Tryz.func15,by kernel_rfl,by kernel_rfl⟩⟩
instance af8:aD Tryz.prog 18:=⟨⟨Tryz.f18,Tryz.func18,by kernel_rfl,by kernel_rfl⟩⟩
instance af9:aD Tryz.prog 19:=⟨⟨Tryz.f19,Tryz.func19,by kernel_rfl,by kernel_rfl⟩⟩
instance aga:aD Tryz.prog 20:=⟨⟨Tryz.f20,Tryz.func20,by kernel_rfl,by kernel_rfl⟩⟩
instance agb:aD Tryz.prog 21:=⟨⟨Tryz.f21,Tryz.func21,by kernel_rfl,by kernel_rfl⟩⟩
instance agc:aD Tryz.prog 22:=⟨⟨Tryz.f22,Tryz.func22,by kernel_rfl,by kernel_rfl⟩⟩
instance agd:aD Tryz.prog 23:=⟨⟨Tryz.f23,Tryz.func23,by kernel_rfl,by kernel_rfl⟩⟩
instance age:aD Tryz.prog 25:=⟨⟨Tryz.f25,Tryz.func25,by kernel_rfl,by kernel_rfl⟩⟩
instance agf:aD Tryz.prog 37:=⟨⟨Tryz.f37,Tryz.func37,by kernel_rfl,by kernel_rfl⟩⟩
instance agh:aD Tryz.prog 38:=⟨⟨Tryz.f38,Tryz.func38,by kernel_rfl,by kernel_rfl⟩⟩
instance agi:aD Tryz.prog 39:=⟨⟨Tryz.f39,Tryz.func39,by kernel_rfl,by kernel_rfl⟩⟩
instance agj:aD Tryz.prog 42:=⟨⟨Tryz.f42,Tryz.func42,by kernel_rfl,by kernel_rfl⟩⟩
instance agk:aD Tryz.prog 43:=⟨⟨Tryz.f43,Tryz.func43,by kernel_rfl,by kernel_rfl⟩⟩
instance agl:aD Tryz.prog 50:=⟨⟨Tryz.f50,Tryz.func50,by kernel_rfl,by kernel_rfl⟩⟩
instance agm:aD Tryz.prog 55:=⟨⟨Tryz.f55,Tryz.func55,by kernel_rfl,by kernel_rfl⟩⟩
instance agn:aD Tryz.prog 56:=⟨⟨Tryz.f56,Tryz.func56,by kernel_rfl,by kernel_rfl⟩⟩
instance ago:aD Tryz.prog 57:=⟨⟨Tryz.f57,Tryz.func57,by kernel_rfl,by kernel_rfl⟩⟩
instance agp:aD Tryz.prog 58:=⟨⟨Tryz.f58,Tryz.func58,by kernel_rfl,by kernel_rfl⟩⟩
instance agq:aD Tryz.prog 62:=⟨⟨Tryz.f62,Tryz.func62,by kernel_rfl,by kernel_rfl⟩⟩
instance agr:aD Tryz.prog 66:=⟨⟨Tryz.f66,Tryz.func66,by kernel_rfl,by kernel_rfl⟩⟩
instance ags:aD Tryz.prog 67:=⟨⟨Tryz.f67,Tryz.func67,by kernel_rfl,by kernel_rfl⟩⟩
instance agt:aD Tryz.prog 68:=⟨⟨Tryz.f68,Tryz.func68,by kernel_rfl,by kernel_rfl⟩⟩
instance agu:aD Tryz.prog 69:=⟨⟨Tryz.f69,Tryz.func69,by kernel_rfl,by kernel_rfl⟩⟩
instance agv:aD Tryz.prog 70:=⟨⟨Tryz.f70,Tryz.func70,by kernel_rfl,by kernel_rfl⟩⟩
instance agw:aD Tryz.prog 71:=⟨⟨Tryz.f71,Tryz.func71,by kernel_rfl,by kernel_rfl⟩⟩
instance agx:aD Tryz.prog 72:=⟨⟨Tryz.f72,Tryz.func72,by kernel_rfl,by kernel_rfl⟩⟩
instance agy:aD Tryz.prog 73:=⟨⟨Tryz.f73,Tryz.func73,by kernel_rfl,by kernel_rfl⟩⟩
instance agz:aD Tryz.prog 74:=⟨⟨Tryz.f74,Tryz.func74,by kernel_rfl,by kernel_rfl⟩⟩
instance agA:aD Tryz.prog 75:=⟨⟨Tryz.f75,Tryz.func75,by kernel_rfl,by kernel_rfl⟩⟩
instance agB:aD Tryz.prog 76:=⟨⟨Tryz.f76,Tryz.func76,by kernel_rfl,by kernel_rfl⟩⟩
instance agC:aD Tryz.prog 77:=⟨⟨Tryz.f77,Tryz.func77,by kernel_rfl,by kernel_rfl⟩⟩
instance agD:aD Tryz.prog 78:=⟨⟨Tryz.f78,Tryz.func78,by kernel_rfl,by kernel_rfl⟩⟩
instance agE:aD Tryz.prog 93:=⟨⟨Tryz.f93,Tryz.func93,by kernel_rfl,by kernel_rfl⟩⟩
instance agF:aD Tryz.prog 94:=⟨⟨Tryz.f94,Tryz.func94,by kernel_rfl,by kernel_rfl⟩⟩
instance agG:aD Tryz.prog 95:=⟨⟨Tryz.f95,Tryz.func95,by kernel_rfl,by kernel_rfl⟩⟩
instance agH:aD Tryz.prog 96:=⟨⟨Tryz.f96,Tryz.func96,by kernel_rfl,by kernel_rfl⟩⟩
instance agI:aD Tryz.prog 97:=⟨⟨Tryz.f97,Tryz.func97,by kernel_rfl,by kernel_rfl⟩⟩
instance agJ:aD Tryz.prog 98:=⟨⟨Tryz.f98,Tryz.func98,by kernel_rfl,by kernel_rfl⟩⟩
instance agK:aD Tryz.prog 99:=⟨⟨Tryz.f99,Tryz.func99,by kernel_rfl,by kernel_rfl⟩⟩
instance agL:aD Tryz.prog 100:=⟨⟨Tryz.f100,Tryz.func100,by kernel_rfl,by kernel_rfl⟩⟩
instance agM:aD Tryz.prog 101:=⟨⟨Tryz.f101,Tryz.func101,by kernel_rfl,by kernel_rfl⟩⟩
instance agN:aD Tryz.prog 102:=⟨⟨Tryz.f102,Tryz.func102,by kernel_rfl,by kernel_rfl⟩⟩
instance agO:aD Tryz.prog 103:=⟨⟨Tryz.f103,Tryz.func103,by kernel_rfl,by kernel_rfl⟩⟩
instance agP:aD Tryz.prog 105:=⟨⟨Tryz.f105,Tryz.func105,by kernel_rfl,by kernel_rfl⟩⟩
instance agQ:aD Tryz.prog 106:=⟨⟨Tryz.f106,Tryz.func106,by kernel_rfl,by kernel_rfl⟩⟩
instance agR:aD Tryz.prog 107:=⟨⟨Tryz.f107,Tryz.func107,by kernel_rfl,by kernel_rfl⟩⟩
instance agS:aD Tryz.prog 108:=⟨⟨Tryz.f108,Tryz.func108,by kernel_rfl,by kernel_rfl⟩⟩
instance agT:aD Tryz.prog 110:=⟨⟨Tryz.f110,Tryz.func110,by kernel_rfl,by kernel_rfl⟩⟩
instance agU:aD Tryz.prog 111:=⟨⟨Tryz.f111,Tryz.func111,by kernel_rfl,by kernel_rfl⟩⟩
instance agV:aD Tryz.prog 112:=⟨⟨Tryz.f112,Tryz.func112,by kernel_rfl,by kernel_rfl⟩⟩
instance agW:aD Tryz.prog 113:=⟨⟨Tryz.f113,Tryz.func113,by kernel_rfl,by kernel_rfl⟩⟩
instance agX:aD Tryz.prog 115:=⟨⟨Tryz.f115,Tryz.func115,by kernel_rfl,by kernel_rfl⟩⟩
instance agY:aD Tryz.prog 116:=⟨⟨Tryz.f116,Tryz.func116,by kernel_rfl,by kernel_rfl⟩⟩
instance agZ:aD Tryz.prog 117:=⟨⟨Tryz.f117,Tryz.func117,by kernel_rfl,by kernel_rfl⟩⟩
instance ag0:aD Tryz.prog 122:=⟨⟨Tryz.f122,Tryz.func122,by kernel_rfl,by kernel_rfl⟩⟩
instance ag1:aD Tryz.prog 123:=⟨⟨Tryz.f123,Tryz.func123,by kernel_rfl,by kernel_rfl⟩⟩
instance ag2:aD Tryz.prog 124:=⟨⟨Tryz.f124,Tryz.func124,by kernel_rfl,by kernel_rfl⟩⟩
instance ag3:aD Tryz.prog 125:=⟨⟨Tryz.f125,Tryz.func125,by kernel_rfl,by kernel_rfl⟩⟩
instance ag4:aD Tryz.prog 126:=⟨⟨Tryz.f126,Tryz.func126,by kernel_rfl,by kernel_rfl⟩⟩
instance ag5:aD Tryz.prog 129:=⟨⟨Tryz.f129,Tryz.func129,by kernel_rfl,by kernel_rfl⟩⟩
instance ag6:aD Tryz.prog 130:=⟨⟨Tryz.f130,Tryz.func130,by kernel_rfl,by kernel_rfl⟩⟩
instance ag7:aD Tryz.prog 137:=⟨⟨Tryz.f137,Tryz.func137,by kernel_rfl,by kernel_rfl⟩⟩
instance ag8:aD Tryz.prog 138:=⟨⟨Tryz.f138,Tryz.func138,by kernel_rfl,by kernel_rfl⟩⟩
instance ag9:aD Tryz.prog 139:=⟨⟨Tryz.f139,Tryz.func139,by kernel_rfl,by kernel_rfl⟩⟩
instance aha:aD Tryz.prog 140:=⟨⟨Tryz.f140,Tryz.func140,by kernel_rfl,by kernel_rfl⟩⟩
instance ahb:aD Tryz.prog 141:=⟨⟨Tryz.f141,Tryz.func141,by kernel_rfl,by kernel_rfl⟩⟩
instance ahc:aD Tryz.prog 142:=⟨⟨Tryz.f142,Tryz.func142,by kernel_rfl,by kernel_rfl⟩⟩
instance ahd:aD Tryz.prog 143:=⟨⟨Tryz.f143,Tryz.func143,by kernel_rfl,by kernel_rfl⟩⟩
instance ahe:aD Tryz.prog 144:=⟨⟨Tryz.f144,Tryz.func144,by kernel_rfl,by kernel_rfl⟩⟩
instance ahf:aD Tryz.prog 145:=⟨⟨Tryz.f145,Tryz.func145,by kernel_rfl,by kernel_rfl⟩⟩
instance ahg:aD Tryz.prog 149:=⟨⟨Tryz.f149,Tryz.func149,by kernel_rfl,by kernel_rfl⟩⟩
instance ahh:aD Tryz.prog 162:=⟨⟨Tryz.f162,Tryz.func162,by kernel_rfl,by kernel_rfl⟩⟩
instance ahi:aD Tryz.prog 163:=⟨⟨Tryz.f163,Tryz.func163,by kernel_rfl,by kernel_rfl⟩⟩
instance ahj:aD Tryz.prog 164:=⟨⟨Tryz.f164,Tryz.func164,by kernel_rfl,by kernel_rfl⟩⟩
instance ahk:aD Tryz.prog 165:=⟨⟨Tryz.f165,Tryz.func165,by kernel_rfl,by kernel_rfl⟩⟩
instance ahl:aD Tryz.prog 166:=⟨⟨Tryz.f166,Tryz.func166,by kernel_rfl,by kernel_rfl⟩⟩
instance ahm:aD Tryz.prog 167:=⟨⟨Tryz.f167,Tryz.func167,by kernel_rfl,by kernel_rfl⟩⟩
instance ahn:aD Tryz.prog 168:=⟨⟨Tryz.f168,Tryz.func168,by kernel_rfl,by kernel_rfl⟩⟩
instance aho:aD Tryz.prog 169:=⟨⟨Tryz.f169,Tryz.func169,by kernel_rfl,by kernel_rfl⟩⟩
instance ahp:aD Tryz.prog 170:=⟨⟨Tryz.f170,Tryz.func170,by kernel_rfl,by kernel_rfl⟩⟩
instance ahq:aD Tryz.prog 171:=⟨⟨Tryz.f171,Tryz.func171,by kernel_rfl,by kernel_rfl⟩⟩
instance ahr:aD Tryz.prog 172:=⟨⟨Tryz.f172,Tryz.func172,by kernel_rfl,by kernel_rfl⟩⟩
instance ahs:aD Tryz.prog 173:=⟨⟨Tryz.f173,Tryz.func173,by kernel_rfl,by kernel_rfl⟩⟩
instance aht:aD Tryz.prog 174:=⟨⟨Tryz.f174,Tryz.func174,by kernel_rfl,by kernel_rfl⟩⟩
instance ahu:aD Tryz.prog 175:=⟨⟨Tryz.f175,Tryz.func175,by kernel_rfl,by kernel_rfl⟩⟩
instance ahv:aD Tryz.prog 176:=⟨⟨Tryz.f176,Tryz.func176,by kernel_rfl,by kernel_rfl⟩⟩
instance ahw:aD Tryz.prog 177:=⟨⟨Tryz.f177,Tryz.func177,by kernel_rfl,by kernel_rfl⟩⟩
instance ahx:aD Tryz.prog 179:=⟨⟨Tryz.f179,Tryz.func179,by kernel_rfl,by kernel_rfl⟩⟩
instance ahy:aD Tryz.prog 180:=⟨⟨Tryz.f180,Tryz.func180,by kernel_rfl,by kernel_rfl⟩⟩
instance ahz:aD Tryz.prog 181:=⟨⟨Tryz.f181,Tryz.func181,by kernel_rfl,by kernel_rfl⟩⟩
instance ahA:aD Tryz.prog 182:=⟨⟨Tryz.f182,Tryz.func182,by kernel_rfl,by kernel_rfl⟩⟩
instance ahB:aD Tryz.prog 185:=⟨⟨Tryz.f185,Tryz.func185,by kernel_rfl,by kernel_rfl⟩⟩
instance ahC:aD Tryz.prog 197:=⟨⟨Tryz.f197,Tryz.func197,by kernel_rfl,by kernel_rfl⟩⟩
instance ahD:aD Tryz.prog 198:=⟨⟨Tryz.f198,Tryz.func198,by kernel_rfl,by kernel_rfl⟩⟩
instance ahE:aD Tryz.prog 202:=⟨⟨Tryz.f202,Tryz.func202,by kernel_rfl,by kernel_rfl⟩⟩
instance ahF:aD Tryz.prog 203:=⟨⟨Tryz.f203,Tryz.func203,by kernel_rfl,by kernel_rfl⟩⟩
instance ahG:aD Tryz.prog 208:=⟨⟨Tryz.f208,Tryz.func208,by kernel_rfl,by kernel_rfl⟩⟩
instance ahH:aD Tryz.prog 209:=⟨⟨Tryz.f209,Tryz.func209,by kernel_rfl,by kernel_rfl⟩⟩
instance ahI:aD Tryz.prog 215:=⟨⟨Tryz.f215,Tryz.func215,by kernel_rfl,by kernel_rfl⟩⟩
instance ahJ:aD Tryz.prog 216:=⟨⟨Tryz.f216,Tryz.func216,by kernel_rfl,by kernel_rfl⟩⟩
instance ahK:aD Tryz.prog 217:=⟨⟨Tryz.f217,Tryz.func217,by kernel_rfl,by kernel_rfl⟩⟩
instance ahL:aD Tryz.prog 218:=⟨⟨Tryz.f218,Tryz.func218,by kernel_rfl,by kernel_rfl⟩⟩
instance ahM:aD Tryz.prog 219:=⟨⟨Tryz.f219,Tryz.func219,by kernel_rfl,by kernel_rfl⟩⟩
instance ahN:aD Tryz.prog 220:=⟨⟨Tryz.f220,Tryz.func220,by kernel_rfl,by kernel_rfl⟩⟩
instance ahO:aD Tryz.prog 221:=⟨⟨Tryz.f221,Tryz.func221,by kernel_rfl,by kernel_rfl⟩⟩
instance ahP:aD Tryz.prog 222:=⟨⟨Tryz.f222,Tryz.func222,by kernel_rfl,by kernel_rfl⟩⟩
instance ahQ:aD Tryz.prog 223:=⟨⟨Tryz.f223,Tryz.func223,by kernel_rfl,by kernel_rfl⟩⟩
instance ahR:aD Tryz.prog 224:=⟨⟨Tryz.f224,Tryz.func224,by kernel_rfl,by kernel_rfl⟩⟩
instance ahS:aD Tryz.prog 227:=⟨⟨Tryz.f227,Tryz.func227,by kernel_rfl,by kernel_rfl⟩⟩
instance ahT:aD Tryz.prog 228:=⟨⟨Tryz.f228,Tryz.func228,by kernel_rfl,by kernel_rfl⟩⟩
instance ahU:aD Tryz.prog 229:=⟨⟨Tryz.f229,Tryz.func229,by kernel_rfl,by kernel_rfl⟩⟩
instance ahV:aD Tryz.prog 230:=⟨⟨Tryz.f230,Tryz.func230,by kernel_rfl,by kernel_rfl⟩⟩
instance ahW:aD Tryz.prog 237:=⟨⟨Tryz.f237,Tryz.func237,by kernel_rfl,by kernel_rfl⟩⟩
instance ahX:aD Tryz.prog 239:=⟨⟨Tryz.f239,Tryz.func239,by kernel_rfl,by kernel_rfl⟩⟩
instance ahY:aD Tryz.prog 245:=⟨⟨Tryz.f245,Tryz.func245,by kernel_rfl,by kernel_rfl⟩⟩
instance ahZ:aD Tryz.prog 251:=⟨⟨Tryz.f251,Tryz.func251,by kernel_rfl,by kernel_rfl⟩⟩
instance ah0:aD Tryz.prog 252:=⟨⟨Tryz.f252,Tryz.func252,by kernel_rfl,by kernel_rfl⟩⟩
instance ah1:aD Tryz.prog 253:=⟨⟨Tryz.f253,Tryz.func253,by kernel_rfl,by kernel_rfl⟩⟩
instance ah2:aD Tryz.prog 254:=⟨⟨Tryz.f254,Tryz.func254,by kernel_rfl,by kernel_rfl⟩⟩
instance ah3:aD Tryz.prog 255:=⟨⟨Tryz.f255,Tryz.func255,by kernel_rfl,by kernel_rfl⟩⟩
instance ah4:aD Tryz.prog 256:=⟨⟨Tryz.f256,Tryz.func256,by kernel_rfl,by kernel_rfl⟩⟩
instance ah5:aD Tryz.prog 257:=⟨⟨Tryz.f257,Tryz.func257,by kernel_rfl,by kernel_rfl⟩⟩
instance ah6:aD Tryz.prog 258:=⟨⟨Tryz.f258,Tryz.func258,by kernel_rfl,by kernel_rfl⟩⟩
instance ah7:aD Tryz.prog 259:=⟨⟨Tryz.f259,Tryz.func259,by kernel_rfl,by kernel_rfl⟩⟩
instance ah8:aD Tryz.prog 260:=⟨⟨Tryz.f260,Tryz.func260,by kernel_rfl,by kernel_rfl⟩⟩
instance ah9:aD Tryz.prog 261:=⟨⟨Tryz.f261,Tryz.func261,by kernel_rfl,by kernel_rfl⟩⟩
instance aia:aD Tryz.prog 262:=⟨⟨Tryz.f262,Tryz.func262,by kernel_rfl,by kernel_rfl⟩⟩
instance aib:aD Tryz.prog 263:=⟨⟨Tryz.f263,Tryz.func263,by kernel_rfl,by kernel_rfl⟩⟩
instance aic:aD Tryz.prog 264:=⟨⟨Tryz.f264,Tryz.func264,by kernel_rfl,by kernel_rfl⟩⟩
instance aid:aD Tryz.prog 267:=⟨⟨Tryz.f267,Tryz.func267,by kernel_rfl,by kernel_rfl⟩⟩
instance aie:aD Tryz.prog 268:=⟨⟨Tryz.f268,Tryz.func268,by kernel_rfl,by kernel_rfl⟩⟩
instance aif:aD Tryz.prog 269:=⟨⟨Tryz.f269,Tryz.func269,by kernel_rfl,by kernel_rfl⟩⟩
instance aih:aD Tryz.prog 297:=⟨⟨Tryz.f297,Tryz.func297,by kernel_rfl,by kernel_rfl⟩⟩
instance aii:aD Tryz.prog 298:=⟨⟨Tryz.f298,Tryz.func298,by kernel_rfl,by kernel_rfl⟩⟩
instance aij:aD Tryz.prog 299:=⟨⟨Tryz.f299,Tryz.func299,by kernel_rfl,by kernel_rfl⟩⟩
instance aik:aD Tryz.prog 300:=⟨⟨Tryz.f300,Tryz.func300,by kernel_rfl,by kernel_rfl⟩⟩
instance ail:aD Tryz.prog 301:=⟨⟨Tryz.f301,Tryz.func301,by kernel_rfl,by kernel_rfl⟩⟩
instance aim:aD Tryz.prog 302:=⟨⟨Tryz.f302,Tryz.func302,by kernel_rfl,by kernel_rfl⟩⟩
instance ain:aD Tryz.prog 303:=⟨⟨Tryz.f303,Tryz.func303,by kernel_rfl,by kernel_rfl⟩⟩
instance aio:aD Tryz.prog 304:=⟨⟨Tryz.f304,Tryz.func304,by kernel_rfl,by kernel_rfl⟩⟩
instance aip:aD Tryz.prog 305:=⟨⟨Tryz.f305,Tryz.func305,by kernel_rfl,by kernel_rfl⟩⟩
instance aiq:aD Tryz.prog 306:=⟨⟨Tryz.f306,Tryz.func306,by kernel_rfl,by kernel_rfl⟩⟩
instance air:aD Tryz.prog 307:=⟨⟨Tryz.f307,Tryz.func307,by kernel_rfl,by kernel_rfl⟩⟩
instance ais:aD Tryz.prog 308:=⟨⟨Tryz.f308,Tryz.func308,by kernel_rfl,by kernel_rfl⟩⟩
instance ait:aD Tryz.prog 309:=⟨⟨Tryz.f309,Tryz.func309,by kernel_rfl,by kernel_rfl⟩⟩
instance aiu:aD Tryz.prog 310:=⟨⟨Tryz.f310,Tryz.func310,by kernel_rfl,by kernel_rfl⟩⟩
instance aiv:aD Tryz.prog 311:=⟨⟨Tryz.f311,Tryz.func311,by kernel_rfl,by kernel_rfl⟩⟩
instance aiw:aD Tryz.prog 312:=⟨⟨Tryz.f312,Tryz.func312,by kernel_rfl,by kernel_rfl⟩⟩
instance aix:aD Tryz.prog 313:=⟨⟨Tryz.f313,Tryz.func313,by kernel_rfl,by kernel_rfl⟩⟩
instance aiy:aD Tryz.prog 314:=⟨⟨Tryz.f314,Tryz.func314,by kernel_rfl,by kernel_rfl⟩⟩
instance aiz:aD Tryz.prog 315:=⟨⟨Tryz.f315,Tryz.func315,by kernel_rfl,by kernel_rfl⟩⟩
instance aiA:aD Tryz.prog 326:=⟨⟨Tryz.f326,Tryz.func326,by kernel_rfl,by kernel_rfl⟩⟩
instance aiB:aD Tryz.prog 327:=⟨⟨Tryz.f327,Tryz.func327,by kernel_rfl,by kernel_rfl⟩⟩
instance aiC:aD Tryz.prog 328:=⟨⟨Tryz.f328,Tryz.func328,by kernel_rfl,by kernel_rfl⟩⟩
instance aiD:aD Tryz.prog 329:=⟨⟨Tryz.f329,Tryz.func329,by kernel_rfl,by kernel_rfl⟩⟩
instance aiE:aD Tryz.prog 330:=⟨⟨Tryz.f330,Tryz.func330,by kernel_rfl,by kernel_rfl⟩⟩
instance aiF:aD Tryz.prog 331:=⟨⟨Tryz.f331,Tryz.func331,by kernel_rfl,by kernel_rfl⟩⟩
instance aiG:aD Tryz.prog 332:=⟨⟨Tryz.f332,Tryz.func332,by kernel_rfl,by kernel_rfl⟩⟩
instance aiH:aD Tryz.prog 333:=⟨⟨Tryz.f333,Tryz.func333,by kernel_rfl,by kernel_rfl⟩⟩
instance aiI:aD Tryz.prog 334:=⟨⟨Tryz.f334,Tryz.func334,by kernel_rfl,by kernel_rfl⟩⟩
instance aiJ:aD Tryz.prog 335:=⟨⟨Tryz.f335,Tryz.func335,by kernel_rfl,by kernel_rfl⟩⟩
instance aiK:aD Tryz.prog 336:=⟨⟨Tryz.f336,Tryz.func336,by kernel_rfl,by kernel_rfl⟩⟩
instance aiL:aD Tryz.prog 340:=⟨⟨Tryz.f340,Tryz.func340,by kernel_rfl,by kernel_rfl⟩⟩
instance aiM:aD Tryz.prog 341:=⟨⟨Tryz.f341,Tryz.func341,by kernel_rfl,by kernel_rfl⟩⟩
instance aiN:aD Tryz.prog 342:=⟨⟨Tryz.f342,Tryz.func342,by kernel_rfl,by kernel_rfl⟩⟩
instance aiO:aD Tryz.prog 343:=⟨⟨Tryz.f343,Tryz.func343,by kernel_rfl,by kernel_rfl⟩⟩
instance aiP:aD Tryz.prog 344:=⟨⟨Tryz.f344,Tryz.func344,by kernel_rfl,by kernel_rfl⟩⟩
instance aiQ:aD Tryz.prog 345:=⟨⟨Tryz.f345,Tryz.func345,by kernel_rfl,by kernel_rfl⟩⟩
instance aiR:aD Tryz.prog 346:=⟨⟨Tryz.f346,Tryz.func346,by kernel_rfl,by kernel_rfl⟩⟩
instance aiS:aD Tryz.prog 347:=⟨⟨Tryz.f347,Tryz.func347,by kernel_rfl,by kernel_rfl⟩⟩
instance aiT:aD Tryz.prog 348:=⟨⟨Tryz.f348,Tryz.func348,by kernel_rfl,by kernel_rfl⟩⟩
instance aiU:aD Tryz.prog 349:=⟨⟨Tryz.f349,Tryz.func349,by kernel_rfl,by kernel_rfl⟩⟩
instance aiV:aD Tryz.prog 350:=⟨⟨Tryz.f350,Tryz.func350,by kernel_rfl,by kernel_rfl⟩⟩
end Go.Proofs.YtkggjjnhnjjokaaGreatDoor
namespace Go.Proofs
open Go.Shelf
def Tryz.TX:Go.Shelf.Ren:=⟨fun|137=>245|217=>270|266=>318|n=>n,fun|9=>9|5=>5|3=>3|n=>n,fun|n=>n⟩
theorem Tryz.TY:Go.Proofs.Lays.n137 Tryz.prog Tryz.TX:={
 mixed:=by kernel_rfl
 f137:=Tryz.func245.trans (congrArg some (by kernel_rfl))
 f217:=Tryz.func270.trans (congrArg some (by kernel_rfl))
 f266:=Tryz.func318.trans (congrArg some (by kernel_rfl))
 t3:=Tryz.underlying3
 a3:=Tryz.isAgg3
 z3:=Tryz.sizeOf3
 v3:=Tryz.zeroValue3
 t5:=Tryz.underlying5
 a5:=Tryz.isAgg5
 z5:=Tryz.sizeOf5
 v5:=Tryz.zeroValue5
 t9:=Tryz.underlying9
 a9:=Tryz.isAgg9
 z9:=Tryz.sizeOf9
 v9:=Tryz.zeroValue9}
open Go.RowKit in
theorem Tryz.strings_IndexByte(s:ByteArray)(c:Int)(w:World):
  Calls Tryz.prog 245 #[.string s, .int .u8 c] w fun e w'=>e= .returned (.int .i64 (Lib.indexByte s.data.toList c.toNat.toUInt8))/\w'=w:=Any.strings_IndexByte Tryz.TY s c w
def Tryz.aiW:Go.Shelf.Ren:=⟨fun|219=>231|217=>270|225=>271|224=>272|267=>273|266=>318|314=>319|n=>n,fun|9=>9|3=>3|4=>4|5=>5|46=>253|146=>411|51=>26|n=>n,fun|1=>0|n=>n⟩
def Tryz.TZ:Go.Shelf.Ren:=⟨fun|145=>115|220=>188|219=>231|217=>270|225=>271|224=>272|267=>273|266=>318|314=>319|n=>n,fun|9=>9|4=>4|59=>205|3=>3|5=>5|46=>253|146=>411|51=>26|n=>n,fun|1=>0|n=>n⟩
theorem Tryz.T0:Go.Proofs.Lays.n145 Tryz.prog Tryz.TZ:={
 mixed:=by kernel_rfl
 f145:=Tryz.func115.trans (congrArg some (by kernel_rfl))
 f217:=Tryz.func270.trans (congrArg some (by kernel_rfl))
 f219:=Tryz.func231.trans (congrArg some (by kernel_rfl))
 f220:=Tryz.func188.trans (congrArg some (by kernel_rfl))
 f224:=Tryz.func272.trans (congrArg some (by kernel_rfl))
 f225:=Tryz.func271.trans (congrArg some (by kernel_rfl))
 f266:=Tryz.func318.trans (congrArg some (by kernel_rfl))
 f267:=Tryz.func273.trans (congrArg some (by kernel_rfl))
 f314:=Tryz.func319.trans (congrArg some (by kernel_rfl))
 t3:=Tryz.underlying3
 a3:=Tryz.isAgg3
 z3:=Tryz.sizeOf3
 v3:=Tryz.zeroValue3
 t4:=Tryz.underlying4
 a4:=Tryz.isAgg4
 z4:=Tryz.sizeOf4
 v4:=Tryz.zeroValue4
 t5:=Tryz.underlying5
 a5:=Tryz.isAgg5
 z5:=Tryz.sizeOf5
 v5:=Tryz.zeroValue5
 t9:=Tryz.underlying9
 a9:=Tryz.isAgg9
 z9:=Tryz.sizeOf9
 v9:=Tryz.zeroValue9
 t46:=Tryz.underlying253
 a46:=Tryz.isAgg253
 z46:=Tryz.sizeOf253
 v46:=Tryz.zeroValue253
 t51:=Tryz.underlying26
 a51:=Tryz.isAgg26
 z51:=Tryz.sizeOf26
 v51:=Tryz.zeroValue26
 t59:=Tryz.underlying205
 a59:=Tryz.isAgg205
 z59:=Tryz.sizeOf205
 v59:=Tryz.zeroValue205
 t146:=Tryz.underlying411
 a146:=Tryz.isAgg411
 z146:=Tryz.sizeOf411
 v146:=Tryz.zeroValue411
 g1:=by kernel_rfl}
open Go.RowKit Go.Lib in
theorem Tryz.strings_Cut(s sep:ByteArray)(m:Int)(w:World)(hs:s.size<4294967281)(hm:w.cell? ⟨0,0,none⟩=some (.int .i64 m)):
  Calls Tryz.prog 115 #[.string s, .string sep] w fun e w'=>e= .returned (.tuple #[.string ⟨(Lib.cut s.data.toList sep.data.toList).1.toArray⟩, .string ⟨(Lib.cut s.data.toList sep.data.toList).2.1.toArray⟩, .bool (Lib.cut s.data.toList sep.data.toList).2.2])/\ ∃n,w'=w.drewN n:=Any.strings_Cut Tryz.T0 s sep m w hs hm
def Tryz.aiX:Go.Shelf.Ren:=⟨fun|221=>146|268=>204|138=>205|143=>206|195=>240|197=>241|218=>242|219=>231|260=>286|217=>270|225=>271|224=>272|267=>273|266=>318|314=>319|n=>n,fun|9=>9|3=>3|31=>155|4=>4|0=>0|105=>344|21=>21|5=>5|46=>253|119=>413|139=>416|138=>415|146=>411|51=>26|n=>n,fun|1=>0|3=>2|4=>3|n=>n⟩
def Tryz.T1:Go.Shelf.Ren:=⟨fun|146=>78|221=>146|268=>204|138=>205|143=>206|195=>240|197=>241|218=>242|219=>231|260=>286|217=>270|225=>271|224=>272|267=>273|266=>318|314=>319|n=>n,fun|9=>9|31=>155|3=>3|4=>4|0=>0|105=>344|21=>21|5=>5|46=>253|119=>413|139=>416|138=>415|146=>411|51=>26|n=>n,fun|1=>0|3=>2|4=>3|n=>n⟩
theorem Tryz.T2:Go.Proofs.Lays.n146 Tryz.prog Tryz.T1:={
 mixed:=by kernel_rfl
 f138:=Tryz.func205.trans (congrArg some (by kernel_rfl))
 f143:=Tryz.func206.trans (congrArg some (by kernel_rfl))
 f146:=Tryz.func78.trans (congrArg some (by kernel_rfl))
 f195:=Tryz.func240.trans (congrArg some (by kernel_rfl))
 f197:=Tryz.func241.trans (congrArg some (by kernel_rfl))
 f217:=Tryz.func270.trans (congrArg some (by kernel_rfl))
 f218:=Tryz.func242.trans (congrArg some (by kernel_rfl))
 f219:=Tryz.func231.trans (congrArg some (by kernel_rfl))
 f221:=Tryz.func146.trans (congrArg some (by kernel_rfl))
 f224:=Tryz.func272.trans (congrArg some (by kernel_rfl))
 f225:=Tryz.func271.trans (congrArg some (by kernel_rfl))
 f260:=Tryz.func286.trans (congrArg some (by kernel_rfl))
 f266:=Tryz.func318.trans (congrArg some (by kernel_rfl))
 f267:=Tryz.func273.trans (congrArg some (by kernel_rfl))
 f268:=Tryz.func204.trans (congrArg some (by kernel_rfl))
 f314:=Tryz.func319.trans (congrArg some (by kernel_rfl))
 t0:=Tryz.underlying0
 a0:=Tryz.isAgg0
 z0:=Tryz.sizeOf0
 v0:=Tryz.zeroValue0
 t3:=Tryz.underlying3
 a3:=Tryz.isAgg3
 z3:=Tryz.sizeOf3
 v3:=Tryz.zeroValue3
 t4:=Tryz.underlying4
 a4:=Tryz.isAgg4
 z4:=Tryz.sizeOf4
 v4:=Tryz.zeroValue4
 t5:=Tryz.underlying5
 a5:=Tryz.isAgg5
 z5:=Tryz.sizeOf5
 v5:=Tryz.zeroValue5
 t9:=Tryz.underlying9
 a9:=Tryz.isAgg9
 z9:=Tryz.sizeOf9
 v9:=Tryz.zeroValue9
 t21:=Tryz.underlying21
 a21:=Tryz.isAgg21
 z21:=Tryz.sizeOf21
 v21:=Tryz.zeroValue21
 t31:=Tryz.underlying155
 a31:=Tryz.isAgg155
 z31:=Tryz.sizeOf155
 v31:=Tryz.zeroValue155
 t46:=Tryz.underlying253
 a46:=Tryz.isAgg253
 z46:=Tryz.sizeOf253
 v46:=Tryz.zeroValue253
 t51:=Tryz.underlying26
 a51:=Tryz.isAgg26
 z51:=Tryz.sizeOf26
 v51:=Tryz.zeroValue26
 t105:=Tryz.underlying344
 a105:=Tryz.isAgg344
 z105:=Tryz.sizeOf344
 v105:=Tryz.zeroValue344
 t119:=Tryz.underlying413
 a119:=Tryz.isAgg413
 z119:=Tryz.sizeOf413
 t138:=Tryz.underlying415
 a138:=Tryz.isAgg415
 z138:=Tryz.sizeOf415
 v138:=Tryz.zeroValue415
 t139:=Tryz.underlying416
 a139:=Tryz.isAgg416
 z139:=Tryz.sizeOf416
 v139:=Tryz.zeroValue416
 t146:=Tryz.underlying411
 a146:=Tryz.isAgg411
 z146:=Tryz.sizeOf411
 v146:=Tryz.zeroValue411
 g1:=by kernel_rfl
 g3:=by kernel_rfl
 g4:=by kernel_rfl}
open Go.RowKit Go.Lib in
theorem Tryz.strings_Split(s sep:ByteArray)(m:Int)(w:World)(hs:s.size<4294967281)(hm:w.cell? ⟨0,0,none⟩=some (.int .i64 m))(h1:1<=sep.size):
  Calls Tryz.prog 78 #[.string s, .string sep] w fun e w'=>
   e= .returned (.slice (some ⟨w.heap.size,0,none⟩) (Lib.countB s sep+1) (Lib.countB s sep+1))/\w'=w.alloc (.cells ((Lib.splitB sep 0 (Lib.countB s sep) s).map Value.string).toArray 9):=Any.strings_Split Tryz.T2 (by kernel_rfl) s sep m w hs hm h1
def Tryz.T3:Go.Shelf.Ren:=⟨fun|146=>78|221=>146|268=>204|138=>205|143=>206|195=>240|197=>241|218=>242|219=>231|260=>286|217=>270|225=>271|224=>272|267=>273|266=>318|314=>319|n=>n,fun|9=>9|31=>155|3=>3|4=>4|0=>0|105=>344|21=>21|5=>5|46=>253|119=>413|139=>416|138=>415|146=>411|51=>26|n=>n,fun|1=>0|3=>2|4=>3|n=>n⟩
theorem Tryz.T4:Go.Proofs.LaysM.n146 Tryz.prog Tryz.T3:={
 mixed:=by kernel_rfl
 f138:=Tryz.func205.trans (congrArg some (by kernel_rfl))
 f143:=Tryz.func206.trans (congrArg some (by kernel_rfl))
 f146:=Tryz.func78.trans (congrArg some (by kernel_rfl))
 f195:=Tryz.func240.trans (congrArg some (by kernel_rfl))
 f197:=Tryz.func241.trans (congrArg some (by kernel_rfl))
 f217:=Tryz.func270.trans (congrArg some (by kernel_rfl))
 f218:=Tryz.func242.trans (congrArg some (by kernel_rfl))
 f219:=Tryz.func231.trans (congrArg some (by kernel_rfl))
 f221:=Tryz.func146.trans (congrArg some (by kernel_rfl))
 f224:=Tryz.func272.trans (congrArg some (by kernel_rfl))
 f225:=Tryz.func271.trans (congrArg some (by kernel_rfl))
 f260:=Tryz.func286.trans (congrArg some (by kernel_rfl))
 f266:=Tryz.func318.trans (congrArg some (by kernel_rfl))
 f267:=Tryz.func273.trans (congrArg some (by kernel_rfl))
 f268:=Tryz.func204.trans (congrArg some (by kernel_rfl))
 f314:=Tryz.func319.trans (congrArg some (by kernel_rfl))
 t0:=Tryz.underlying0
 a0:=Tryz.isAgg0
 z0:=Tryz.sizeOf0
 v0:=Tryz.zeroValue0
 t3:=Tryz.underlying3
 a3:=Tryz.isAgg3
 z3:=Tryz.sizeOf3
 v3:=Tryz.zeroValue3
 t4:=Tryz.underlying4
 a4:=Tryz.isAgg4
 z4:=Tryz.sizeOf4
 v4:=Tryz.zeroValue4
 t5:=Tryz.underlying5
 a5:=Tryz.isAgg5
 z5:=Tryz.sizeOf5
 v5:=Tryz.zeroValue5
 t9:=Tryz.underlying9
 a9:=Tryz.isAgg9
 z9:=Tryz.sizeOf9
 v9:=Tryz.zeroValue9
 t21:=Tryz.underlying21
 a21:=Tryz.isAgg21
 z21:=Tryz.sizeOf21
 v21:=Tryz.zeroValue21
 t31:=Tryz.underlying155
 a31:=Tryz.isAgg155
 z31:=Tryz.sizeOf155
 v31:=Tryz.zeroValue155
 t46:=Tryz.underlying253
 a46:=Tryz.isAgg253
 z46:=Tryz.sizeOf253
 v46:=Tryz.zeroValue253
 t51:=Tryz.underlying26
 a51:=Tryz.isAgg26
 z51:=Tryz.sizeOf26
 v51:=Tryz.zeroValue26
 t105:=Tryz.underlying344
 a105:=Tryz.isAgg344
 z105:=Tryz.sizeOf344
 v105:=Tryz.zeroValue344
 t119:=Tryz.underlying413
 a119:=Tryz.isAgg413
 z119:=Tryz.sizeOf413
 t138:=Tryz.underlying415
 a138:=Tryz.isAgg415
 z138:=Tryz.sizeOf415
 v138:=Tryz.zeroValue415
 t139:=Tryz.underlying416
 a139:=Tryz.isAgg416
 z139:=Tryz.sizeOf416
 v139:=Tryz.zeroValue416
 t146:=Tryz.underlying411
 a146:=Tryz.isAgg411
 z146:=Tryz.sizeOf411
 v146:=Tryz.zeroValue411
 g1:=by kernel_rfl
 g3:=by kernel_rfl
 g4:=by kernel_rfl
 i0:=by kernel_rfl
 i3:=by kernel_rfl
 i4:=by kernel_rfl
 i5:=by kernel_rfl
 i9:=by kernel_rfl
 i21:=by kernel_rfl
 i31:=by kernel_rfl
 i46:=by kernel_rfl
 i51:=by kernel_rfl
 i105:=by kernel_rfl
 i138:=by kernel_rfl
 i139:=by kernel_rfl
 i146:=by kernel_rfl
 m1:=by kernel_rfl
 s1_3:=fun w h=>Go.Proofs.cell_of_shapedOpen_int (zero:= #[.int .i64 0]) (t:=3) h (of_decide_eq_true (by kernel_rfl)) (by kernel_rfl) rfl (by kernel_rfl) (by kernel_rfl) Tryz.underlying3
 m3:=by kernel_rfl
 m4:=by kernel_rfl}
end Go.Proofs
namespace Go.Proofs.YtkggjjnhnjjokaaGreatDoor
open Go.au Go.Kb Go.RowKit
class pB(w:World):Prop where
 len: ∃m,w.cell? ⟨0,0,none⟩=some (.int .i64 m)
theorem pB.at{w0 w:World}{L:List ai}(t:pB w0)(h:Mem w0 L w):pB w:=by
 obtain⟨m,hm⟩:=t.len;have h0:(0:Nat)<w0.heap.size:=by
  rcases anl 0 w0.heap.size with q|q
  ·
   exact q
  rw[World.cell?]at hm;rw[aoF (show w0.heap.size<=(⟨0,0,none⟩:Addr).block by exact q)]at hm;simp at hm
 exact⟨m,by rw[h.below.cell h0];exact hm⟩
variable {w0:World}{L:List ai}
instance[t:pB w0](s:bR)(c:UInt8):bW Tryz.prog 115 w0 L [.string ⟨s.toArray⟩, .string ⟨[c].toArray⟩] (.tuple #[.string ⟨(dF c s).1.toArray⟩, .string ⟨(dF c s).2.1.toArray⟩, .bool (dF c s).2.2]) (s.length<4294967281):=⟨fun h w hw=>by
 obtain⟨m,hm⟩:=(t.at hw).len;refine(Tryz.strings_Cut ⟨s.toArray⟩ ⟨[c].toArray⟩ m w (by rw[yq];exact h) hm).mono ?_;rintro e w' ⟨he,n,rfl⟩;exact⟨he, .Kf ⟨rfl,rfl,rfl,anm _,fun _ _=>rfl⟩⟩⟩
instance(s:bR)(c:UInt8):bW Tryz.prog 245 w0 L [.string ⟨s.toArray⟩, .int .u8 (c.toNat:Nat)] (.int .i64 (Lib.indexByte s c)) True:=⟨fun _ w hw=>by
 refine(Tryz.strings_IndexByte ⟨s.toArray⟩ c.toNat w).mono ?_;rintro e w' ⟨he,rfl⟩;have e1:((c.toNat:Int)).toNat.toUInt8=c:=by simp
 rw[e1]at he;exact⟨he, .init _⟩⟩
instance[t:pB w0](s:bR)(c:UInt8):bK Tryz.prog 78 w0 L [.string ⟨s.toArray⟩, .string ⟨[c].toArray⟩] Nat (fun b=>(⟨false,b,0,(cw c s).length,(cw c s).length,none⟩:Sv).val) (fun b=>own Az 1 ⟨false,b,0,(cw c s).length,(cw c s).length,none⟩ (cw c s)::L) (fun _=>True) (s.length<4294967281):=⟨fun h w hw=>by
 obtain⟨m,hm⟩:=(t.at hw).len;have hs:(⟨s.toArray⟩:ByteArray).size<4294967281:=by rw[yq];exact h
 have e0:(Lib.splitB ⟨[c].toArray⟩ 0 (Lib.countB ⟨s.toArray⟩ ⟨[c].toArray⟩) ⟨s.toArray⟩).map (·.data.toList)=cw c s:=La c s.length ⟨s.toArray⟩ (by rw[yq];exact anm _);have el:(cw c s).length=Lib.countB ⟨s.toArray⟩ ⟨[c].toArray⟩+1:=by
  exact(Tn c ⟨s.toArray⟩).symm
 have hlen:(cw c s).length<=140737488355328:=by have:=K7 c s;omega
 refine(Tryz.strings_Split ⟨s.toArray⟩ ⟨[c].toArray⟩ m w hs hm (anm 1)).mono ?_;rintro e w' ⟨he,rfl⟩;refine⟨w.heap.size,by rw[he,el];rfl,trivial,hw.call (E:=[_]) (wv (enc:=Az) (c:=1) (xs:=cw c s) rfl _ _ rfl (anm _) hlen ?_ fun i x hx j hj=>?_)⟩
 ·
  have:=congrArg List.length e0;rw[anJ]at this;simp[this]
 obtain rfl:j=0:=by omega
 rw[←e0,anA]at hx;obtain⟨y,hy,rfl⟩:=apv.1 hx;simp only[aoy,an3,aol,anA,hy,an8,Az];rw[←Tj y];rfl⟩
end Go.Proofs.YtkggjjnhnjjokaaGreatDoor
namespace Go.Kb
open Go.au
structure It where
 id:Int
 body:Sl UInt8
def nK(x:It):Array Value:= #[.int .i64 x.id,x.body.sv.val]
instance:bo nK 2:=⟨fun _=>rfl,fun x=>by
 have h1:(Value.int .i64 x.id).oneCell'=true:=rfl;simp only[nK,aoR,aoZ,ao8,Sv.one,h1,aoT]⟩
instance (x:It):bT (nK x) 0 (.int .i64 x.id):=⟨rfl⟩
instance (x:It):bT (nK x) 1 x.body.sv.val:=⟨rfl⟩
instance:Deep It where
 c:=2
 cells:=nK
 size:=bo.size
 one:=bo.one
 dO h x:=Deep.dO h x.body
 bU x:=Deep.bU x.body
 iW h x hs:=Deep.iW h x.body hs
 mono w w' x:=Deep.mono w w' x.body
instance:fw It nK 2:=⟨rfl,fun _=>rfl⟩
variable {w0:World}{L:List ai}
instance{x:It}[q:aS w0 L x]:aS w0 L x.body:=⟨q.h⟩
instance {L R:List ai}{i:Int}{b:Sl UInt8}[k:Take L b R]:Take L (It.mk i b) R:=⟨k.h⟩
def yw(a:Sl It):List (Int×List UInt8):=a.xs.map fun x=>(x.id,x.body.xs)
end Go.Kb
namespace Go.au
structure mP where
 X:Type
 v:X->Value
 e:X->ai
section
variable {P:Program} {l:List Oper} {Q:Exit->Act->World->Prop} {fs:List Nat} {mk:Nat->mP} {w0:World}
def sV(P:Program)(o:Oper)(ρ:Operand->Value)(m:mP):Prop:= ∀(w0 w:World) (L:List ai),Mem w0 L w-> ∃(x:m.X) (w':World),(execOp ρ o).run P w= .ok (.value (m.v x)) w'/\Mem w0 (m.e x::L) w'
def upon(P:Program)(w:World)(R:Value->World->Prop):Result Next->Prop
 | .ok (.value v) w'=>R v w'
 | .ok .skip w'=>R undef w'
 | .ok (.enter f args) w'=>w'=w/\Calls P f args w fun e ob=> ∃v,e= .returned v/\R v ob
 |_=>False
def qm(P:Program)(l:List Oper)(fs:List Nat)(mk:Nat->mP)(Q:Exit->Act->World->Prop)(w0:World):List Nat->Act->List ai->List ai->Prop
 |[],af,L,_=> ∀w,Mem w0 L w->Q .normal af w
 |k::ord,af,L,Lq=> ∃o,l[k]? =some o/\(if fs.contains k=true then(∀i∈ord,fs.contains (i+2000)=true-> ∃oi,l[i]? =some oi/\oi.guard=none/\sV P oi af.eval (mk i))/\(if fs.contains (k+2000)=true then
  o.guard=none/\sV P o af.eval (mk k)/\ ∀x:(mk k).X,qm P l fs mk Q w0 ord (af.put o.dst ((mk k).v x)) ((mk k).e x::L) Lq
  else
   Region.wanted o (yielded l.toArray af.tmps)=true/\(∀w,Mem w0 L w->upon P w (fun v w'=> ∃L' fF,Mem w0 L' w'/\(∀w,Mem w0 L' w->Mem w0 fF w)/\(∀w,Mem w0 fF w->Mem w0 Lq w)/\(fs.contains (k+5000)=true-> ∀w,Mem w0 L' w->Mem w0 L w)/\qm P l fs mk Q w0 ord (af.put o.dst v) L' fF) ((execOp af.eval o).run P w))/\
   (fs.contains (k+4000)=true-> ∀e w,Mem w0 (e::L) w->upon P w (fun v w'=> ∃L' fF,Mem w0 (e::L') w'/\(∀w,Mem w0 L' w->Mem w0 fF w)/\(∀w,Mem w0 fF w->Mem w0 Lq w)/\(fs.contains (k+5000)=true-> ∀w,Mem w0 L' w->Mem w0 L w)/\qm P l fs mk Q w0 ord (af.put o.dst v) L' fF) ((execOp af.eval o).run P w)))
  else∃v,(Region.wanted o (yielded l.toArray af.tmps)=true->sF P o af (Mem w0 (if fs.contains (k+1000)=true then L else Lq)) v)/\(Region.wanted o (yielded l.toArray af.tmps)=false->v=undef)/\qm P l fs mk Q w0 ord (af.put o.dst v) L Lq)
def AF(o:Oper):List Nat:=(o.after.toList.filter fun e=>Region.binds .any e).map (·.on)
def GL(l:List Oper)(fs:List Nat)(A:List (List Nat))(prev seen:List Nat)(k:Nat)(o:Oper):Bool:=
 (!fs.contains k||fs.contains (k+2000)||fs.contains (k+5000)||(prev.all fun j=> !fs.contains (j+1000)||(A.getD k []).contains j))&&
 (match o.op with| .select .. =>false|_=>true)&&
 ((AF o).all fun j=>decide (j<k))&&
 (fs.contains (k+2000)||seen.all fun f=>(A.getD k []).contains f)&&
 ((A.getD k []).all fun f=>(AF o).any fun j=>j==f||(A.getD j []).contains f)&&
 ((List.range l.length).all fun j=>match dt l j with
  |none=>true
  |some d=>(!(o.looksAt l.toArray).contains d||(prev.contains j&&(AF o).contains j&&(!fs.contains (k+2000)|| !fs.contains j)))&&(j==k||o.dst !=some d))
def sW(l:List Oper)(fs:List Nat)(A:List (List Nat)):List Nat->List Nat->List Nat->Bool
 |_,_,[]=>true
 |prev,seen,k::ord=>(match l[k]?with|none=>false|some o=>GL l fs A prev seen k o)&&(!fs.contains k||fs.contains (k+2000)||(ord.all fun j=> !fs.contains (j+2000))||(fs.contains (k+4000)&&decide ((ord.filter fun j=>fs.contains (j+2000)).length<=1)))&&sW l fs A (k::prev) (if fs.contains k then k::seen else seen) ord
def Da(l:List Oper)(fs:List Nat)(A:List (List Nat))(ord:List Nat):Bool:=
 ((List.range l.length).all fun j=>ord.contains j)&&decide ord.Nodup&&(ord.all fun j=>decide (j<l.length))&&(fs.all fun j=>decide (j<2000))&&sW l fs A [] [] ord
def Db(l:List Oper)(fs:List Nat)(A:List (List Nat))(ord:List Nat):Bool:=
 ((List.range l.length).all fun j=>ord.contains j)&&decide ord.Nodup&&(ord.all fun j=>decide (j<l.length))&&sW l fs A [] [] ord
structure GM(l:List Oper)(fs:List Nat)(A:List (List Nat))(prev seen:List Nat)(k:Nat)(o:Oper):Prop where
 tmp:fs.contains k=true->fs.contains (k+2000)=false->fs.contains (k+5000)=false-> ∀j∈prev,fs.contains (j+1000)=true->j∈A.getD k []
 uq: ∀cs b,o.op≠ .select cs b
 back: ∀e∈o.after,Region.binds .any e=true->e.on<k
 T5:fs.contains (k+2000)=false-> ∀f∈seen,f∈A.getD k []
 cert: ∀f∈A.getD k [],∃e∈o.after,Region.binds .any e=true/\(e.on=f\/f∈A.getD e.on [])
 reads: ∀j d,j<l.length->dt l j=some d->d∈o.looksAt l.toArray->j∈prev/\ ∃e∈o.after,Region.binds .any e=true/\e.on=j
 one: ∀j d,j<l.length->dt l j=some d->j≠k->o.dst≠some d
 T6:fs.contains (k+2000)=true-> ∀j d,j<l.length->dt l j=some d->d∈o.looksAt l.toArray->fs.contains j=false
theorem GN{o:Oper}{j:Nat}:j∈AF o↔ ∃e∈o.after,Region.binds .any e=true/\e.on=j:=by
 unfold AF;simp only[aoC,anQ];constructor
 ·
  rintro⟨e,⟨h1,h2⟩,h3⟩;exact⟨e,by simpa using h1,h2,h3⟩
 rintro⟨e,h1,h2,h3⟩;exact⟨e,⟨by simpa using h1,h2⟩,h3⟩
theorem T7{A:List (List Nat)}{prev seen:List Nat}{k:Nat}{o:Oper}(h:GL l fs A prev seen k o=true):GM l fs A prev seen k o:=by
 simp only[GL,anc]at h;obtain⟨⟨⟨⟨⟨h0,h1⟩,h2⟩,h3⟩,h4⟩,h5⟩:=h;refine⟨fun hk uL T8 j hj ht=>by
  rw[hk,uL,T8,Bool.not_true,apP,apP,apP]at h0;have:=anw.1 h0 j hj;rw[ht]at this;simpa using this,fun cs b e=>by rw[e]at h1;simp at h1,fun e he hb=>?_,fun jA f hf=>?_,fun f hf=>?_,fun j d hj hd hl=>?_,fun j d hj hd cc=>?_,fun hk j d hj hd hl=>?_⟩
 ·
  have:=anw.1 h2 e.on (GN.2 ⟨e,he,hb,rfl⟩);simpa using this
 ·
  rw[jA,apP]at h3;have:=anw.1 h3 f hf;simpa using this
 ·
  have:=anw.1 h4 f hf;obtain⟨j,hj,fk⟩:=List.any_eq_true.1 this;obtain⟨e,he,hb,rfl⟩:=GN.1 hj;exact⟨e,he,hb,by simpa using fk⟩
 ·
  have:=anw.1 h5 j (an5.2 hj);rw[hd]at this;simp only[anc,aog,aov]at this;rcases this.1 with h6|h6
  ·
   exact absurd hl (by simpa using h6)
  exact⟨by simpa using h6.1.1,GN.1 (by simpa using h6.1.2)⟩
 ·
  have:=anw.1 h5 j (an5.2 hj);rw[hd]at this;simp only[anc,aog,beq_iff_eq]at this;rcases this.2 with h6|h6
  ·
   exact absurd h6 cc
  simpa using h6
 have:=anw.1 h5 j (an5.2 hj);rw[hd]at this;simp only[anc,aog,aov]at this;rcases this.1 with h6|h6
 ·
  exact absurd hl (by simpa using h6)
 rcases h6.2 with h7|h7
 ·
  rw[hk]at h7;cases h7
 exact h7
theorem uU{A:List (List Nat)}: ∀(ord prev seen:List Nat),sW l fs A prev seen ord=true-> ∀(x:List Nat) (k:Nat) (y:List Nat),ord=x++k::y->
  ∃o,l[k]? =some o/\GM l fs A (x.reverse++prev) ((x.filter fun j=>fs.contains j).reverse++seen) k o/\(fs.contains k=true->fs.contains (k+2000)=false->(∀j∈y,fs.contains (j+2000)=false)\/(fs.contains (k+4000)=true/\(y.filter fun j=>fs.contains (j+2000)).length<=1))
 |[],_,_,_,x,k,y,e=>by simp at e
 |k0::ord,prev,seen,h,x,k,y,e=>by
  simp only[sW,anc]at h
  cases x with
  |nil=>
   simp only[anR,apC]at e;obtain⟨rfl,rfl⟩:=e
   cases ho:l[k0]?with
   |none=>rw[ho]at h;simp at h
   |some o=>
    rw[ho]at h;refine⟨o,rfl,by simpa using T7 h.1.1,fun h1 h2=>?_⟩;have h3:=h.1.2;rw[h1,h2]at h3;simp only[Bool.not_true,apP,aog,anc,decide_eq_true_eq]at h3;refine h3.imp (fun h4 j hj=>?_) id;have:=anw.1 h4 j hj;simpa using this
  |cons x0 x=>
   simp only[aoq,apC]at e;obtain⟨rfl,rfl⟩:=e;obtain⟨o,ho,hk,hy⟩:=uU _ _ _ h.2 x k y rfl;refine⟨o,ho,?_,hy⟩;have e1:(k0::x).reverse++prev=x.reverse++(k0::prev):=by simp
   have e2:(((k0::x).filter fun j=>fs.contains j).reverse++seen)=(x.filter fun j=>fs.contains j).reverse++(if fs.contains k0 then k0::seen else seen):=by
    cases hc:fs.contains k0 with
    |true=>
     rw[aoj,if_pos hc,List.reverse_cons,anv];rfl
    |false=>
     rw[aoj,if_neg (by rw[hc];exact aoh)];rfl
   rw[e1,e2];exact hk
def nL(N0 d:Nat)(v:Value)(a:Act):Prop:=a.tmps[d]? =if d<N0 then some v else none
theorem yx{N0 d:Nat}{v:Value}{a:Act}(h:a.tmps.size=N0):nL N0 d v (a.put (some d) v):=by
 subst h;unfold nL;simp[Act.put,anY]
def GO(P:Program)(l:List Oper)(w0:World)(N0 k:Nat)(af:Act)(Lq:List ai):Prop:=
 ∃o v,l[k]? =some o/\(∀d,o.dst=some d->nL N0 d v af)/\(Region.wanted o (yielded l.toArray af.tmps)=true->sF P o af (Mem w0 Lq) v)/\(Region.wanted o (yielded l.toArray af.tmps)=false->v=undef)
def Early(l:List Oper)(fs:List Nat)(mk:Nat->mP)(N0:Nat)(gq:List Nat)(listed:Array Bool)(a:Act)(e:Nat×ai):Prop:=
 e.1∈gq/\listed.getD e.1 true=true/\fs.contains e.1=true/\fs.contains (e.1+2000)=true/\ ∃o,∃x:(mk e.1).X,l[e.1]? =some o/\e.2=(mk e.1).e x/\ ∀d,o.dst=some d->nL N0 d ((mk e.1).v x) a
structure Core(P:Program)(l:List Oper)(fs:List Nat)(mk:Nat->mP)(Q:Exit->Act->World->Prop)(w0:World)(ord:List Nat)(a0:Act)(pre gq:List Nat)(af:Act)(L Lq:List ai)(E:List (Nat×ai))(listed:Array Bool)(a:Act)(w:World):Prop where
 ord:ord=pre++gq
 inv:HeadInv .any l.toArray l.length listed
 mem:Mem w0 (E.map (·.2)++L) w
 oA: ∀e∈E,Early l fs mk a0.tmps.size gq listed a e
 keys:(E.map (·.1)).Nodup
 yz: ∀w,Mem w0 L w->Mem w0 Lq w
 wJ:qm P l fs mk Q w0 gq af L Lq
 size:a.tmps.size=a0.tmps.size
 pj:af.tmps.size=a0.tmps.size
 defers:a.defers=a0.defers
 q6:af.defers=a0.defers
 sub: ∀j,j<l.length->listed.getD j true=true->j∈pre\/j∈E.map (·.1)
 fresh: ∀j∈pre,fs.contains j=true->listed.getD j true=true
 uV: ∀j∈pre,listed.getD j true=false->GO P l w0 a0.tmps.size j af (if fs.contains (j+1000)=true then L else Lq)
 done: ∀j d,j<l.length->listed.getD j true=true->j∈pre->dt l j=some d->a.tmps[d]? =af.tmps[d]?
 rest: ∀d,(∀j,j<l.length->listed.getD j true=true->dt l j≠some d)->a.tmps[d]? =a0.tmps[d]?
 full: ∀d,(∀j∈pre,dt l j≠some d)->af.tmps[d]? =a0.tmps[d]?
variable {A:List (List Nat)} {ord:List Nat} {a0:Act}
theorem AG{o:Oper}(hn: ∀cs b,o.op≠ .select cs b){a b:Act}(h: ∀t∈o.looksAt l.toArray,a.tmps[t]? =b.tmps[t]?):
  execOp a.eval o=execOp b.eval o/\Region.wanted o (yielded l.toArray a.tmps)=Region.wanted o (yielded l.toArray b.tmps):=
 ⟨execOp_congr o hn (FD h),Kp h⟩
theorem LM{o:Oper}{a b:Act}{C D:World->Prop}{v:Value}(e:execOp a.eval o=execOp b.eval o)(hD: ∀w,D w->C w)(h:sF P o a C v):sF P o b D v:=fun w hw=>by
 have:=h w (hD w hw);unfold Oper.quietAt at this⊢;rw[←e];exact this
theorem yA{pre gq:List Nat}{i k N0:Nat}{af:Act}{Lq fF:List ai}{oi:Oper}{u:Value}(hB:sW l fs A [] [] ord=true)(ca:ord.Nodup)(aZ: ∀j∈ord,j<l.length)(ho:ord=pre++i::gq)(wc:l[i]? =some oi)(hk:k∈pre)(hq: ∀w,Mem w0 fF w->Mem w0 Lq w)
  (h:GO P l w0 N0 k af Lq):GO P l w0 N0 k (af.put oi.dst u) fF:=by
 obtain⟨o,v,h1,h2,h3,h4⟩:=h;obtain⟨x,y,rfl⟩:=api hk;have nE:ord=x++k::(y++i::gq):=by rw[ho];simp
 obtain⟨o',nM,bu,-⟩:=uU ord [] [] hB x k _ nE;have:o'=o:=by rw[h1]at nM;exact(ani nM).symm
 subst this;have dP:i<l.length:=(ad2.1 wc).1;have jS:dt l i=oi.dst:=by simp[dt,wc]
 have nN:i≠k:=fun e=>by
  subst e;rw[nE]at ca;have:=(aoL.1 ca).2.1;exact(apc.1 this).1 (by simp)
 have uW:i∉x:=fun hx=>by
  rw[nE]at ca;exact(aoL.1 ca).2.2 i hx i (by simp) rfl
 have GP: ∀t∈o'.looksAt l.toArray,af.tmps[t]? =(af.put oi.dst u).tmps[t]? :=fun t ht=>by
  refine(iU _ _ _ _ fun e=>?_).symm;obtain⟨hp,_⟩:=bu.reads i t dP (by rw[jS];exact e) ht;rw[anN,ap4]at hp;exact uW hp
 obtain⟨e1,e2⟩:=AG bu.uq GP;refine⟨o',v,h1,fun d hd=>?_,fun hw=>LM e1 hq (h3 (by rw[e2];exact hw)),fun hw=>h4 (by rw[e2];exact hw)⟩;have:=h2 d hd;unfold nL at this⊢;rw[iU _ _ _ _ fun e=>?_]
 ·
  exact this
 ·
  exact bu.one i d dP (by rw[jS];exact e) nN hd
theorem T9{E:List (Nat×ai)}{k:Nat}(h:k∈E.map (·.1)): ∃E1 x E2,E=E1++(k,x)::E2:=by
 obtain⟨e,he,rfl⟩:=aoC.1 h;obtain⟨E1,E2,rfl⟩:=api he;exact⟨E1,e.2,E2,rfl⟩
theorem Dc(hB:sW l fs A [] [] ord=true)(ca:ord.Nodup)(aZ: ∀j∈ord,j<l.length): ∀(gq pre:List Nat) (af:Act) {L Lq:List ai} {E:List (Nat×ai)} {listed:Array Bool} {a:Act} {w:World},Core P l fs mk Q w0 ord a0 pre gq af L Lq E listed a w->
  ∃Ua GQ Ub L' E',Core P l fs mk Q w0 ord a0 Ua GQ Ub L' Lq E' listed a w/\(GQ=[]\/ ∃f r,GQ=f::r/\fs.contains f=true/\f∉E'.map (·.1))
 |[],pre,af,L,_,E,_,_,_,H=>⟨pre,[],af,L,E,H, .inl rfl⟩
 |k::gq,pre,af,L,Lq,E,listed,a,w,H=>by
  have GR:k∉pre:=fun h=>by
   have nO:=ca;rw[H.ord]at nO;exact(aoL.1 nO).2.2 k h k (by simp) rfl
  have gR: ∀j,j∈pre->j≠k:=fun j hj e=>GR (e▸hj);have hks:k∉gq:=fun h=>by
   have nO:=ca;rw[H.ord]at nO;exact(apc.1 (aoL.1 nO).2.1).1 h
  obtain⟨o',qn,bu,-⟩:=uU ord [] [] hB pre k gq H.ord;have wK:k<l.length:=(ad2.1 qn).1;have Dd:dt l k=o'.dst:=by simp[dt,qn]
  cases hf:fs.contains k with
  |true=>
   by_cases hE:k∈E.map (·.1)
   ·
    obtain⟨E1,x,E2,rfl⟩:=T9 hE;obtain⟨_,GS,_,jA,oe,b,LN,hx,kQ⟩:=H.oA (k,x) (by simp);simp only at GS jA LN hx kQ;have e0:oe=o':=by rw[LN]at qn;exact ani qn
    subst e0;obtain⟨o,nM,hl⟩:=H.wJ;rw[if_pos hf,if_pos jA]at hl;have e1:o=oe:=by rw[nM]at qn;exact ani qn
    subst e1;obtain⟨_,_,_,yB⟩:=hl;have Uc:(((E1++(k,x)::E2).map (·.2))++L).Perm (((E1++E2).map (·.2))++x::L):=by
     simp only[an2,anX,anv,aoq];exact List.Perm.append_left _ (ao7.symm)
    have GU:=H.keys;simp only[an2,anX]at GU;have Ud: ∀e∈E1++E2,e.1≠k:=fun e he e2=>by
     obtain⟨n1,n2,n3⟩:=aoL.1 GU;rcases anu.1 he with h|h
     ·
      exact n3 e.1 (an6 h) k (by simp) e2
     ·
      exact(apc.1 n2).1 (e2▸an6 h)
    refine Dc hB ca aZ gq (pre++[k]) (af.put o.dst ((mk k).v b)) (L:=x::L) (E:=E1++E2) ⟨by rw[H.ord];simp,H.inv,H.mem.perm Uc,fun e he=>?_,?_,fun w hw=>H.yz w (hw.sub (anT _ _)),by rw[hx];exact yB b,H.size,by rw[qX];exact H.pj,H.defers,by rw[qY];exact H.q6,fun j hj hl=>?_,fun j hj qc=>?_,fun j hj hl=>?_,fun j d hj hl rv hd=>?_,H.rest,fun d hd=>?_⟩
    ·
     have hm:e∈E1++(k,x)::E2:=by
      rcases anu.1 he with h|h
      ·
       exact an7 _ h
      ·
       exact apA _ (anI _ h)
     obtain⟨g1,g2⟩:=H.oA e hm;exact⟨(ank.1 g1).resolve_left (Ud e he),g2⟩
    ·
     rw[an2];exact GU.sublist (List.Sublist.append_left (anT _ _) _)
    ·
     rcases H.sub j hj hl with h|h
     ·
      exact .inl (an7 _ h)
     ·
      simp only[an2,anX,anu,ank]at h;rcases h with h|h|h
      ·
       exact .inr (by simp only[an2,anu];exact .inl h)
      ·
       exact .inl (by rw[h];simp)
      ·
       exact .inr (by simp only[an2,anu];exact .inr h)
    ·
     rcases anu.1 hj with h|h
     ·
      exact H.fresh j h qc
     ·
      obtain rfl:=anE.1 h;exact GS
    ·
     rcases anu.1 hj with h|h
     ·
      have hp:=H.uV j h hl
      cases wL:fs.contains (j+1000)with
      |true=>
       rw[wL]at hp;simp only[if_true]at hp⊢;exact yA hB ca aZ H.ord nM h (fun w hw=>hw.sub (anT _ _)) hp
      |false=>
       rw[wL]at hp;simp only[aon,if_false]at hp⊢;exact yA hB ca aZ H.ord nM h (fun _ h=>h) hp
     ·
      obtain rfl:=anE.1 h;rw[GS]at hl;cases hl
    ·
     rcases anu.1 rv with h|h
     ·
      rw[iU _ _ _ _ (bu.one j d hj hd (gR j h))];exact H.done j d hj hl h hd
     ·
      obtain rfl:=anE.1 h;rw[Dd]at hd;have h3:=kQ d hd;rw[hd];have h4:nL a0.tmps.size d ((mk j).v b) (af.put (some d) ((mk j).v b)):=yx H.pj;unfold nL at h3 h4;rw[h3,h4]
    ·
     rw[iU _ _ _ _ (by have:=hd k (by simp);rwa [Dd]at this)];exact H.full d fun j hj=>hd j (an7 _ hj)
   ·
    exact⟨pre,k::gq,af,L,E,H, .inr ⟨k,gq,rfl,hf,hE⟩⟩
  |false=>
   obtain⟨o,nM,hl⟩:=H.wJ;rw[if_neg (by rw[hf];exact aoh)]at hl;obtain⟨v,h1,h2,h3⟩:=hl;have:o'=o:=by rw[nM]at qn;exact(ani qn).symm
   subst this;have GP: ∀t∈o'.looksAt l.toArray,af.tmps[t]? =(af.put o'.dst v).tmps[t]? :=fun t ht=>by
    refine(iU _ _ _ _ fun e=>?_).symm;obtain⟨hp,_⟩:=bu.reads k t wK (by rw[Dd];exact e) ht;rw[anN,ap4]at hp;exact GR hp
   obtain⟨e1,e2⟩:=AG bu.uq GP;refine Dc hB ca aZ gq (pre++[k]) (af.put o'.dst v) ⟨by rw[H.ord];simp,H.inv,H.mem,fun e he=>?_,H.keys,H.yz,h3,H.size,by rw[qX];exact H.pj,H.defers,by rw[qY];exact H.q6,fun j hj hl=>(H.sub j hj hl).imp_left fun h=>an7 _ h,fun j hj qc=>?_,fun j hj hl=>?_,fun j d hj hl rv hd=>?_,H.rest,fun d hd=>?_⟩
   ·
    obtain⟨g1,g2,g3,g4⟩:=H.oA e he;exact⟨(ank.1 g1).resolve_left (fun e2=>by rw[e2,hf]at g3;cases g3),g2,g3,g4⟩
   ·
    rcases anu.1 hj with h|h
    ·
     exact H.fresh j h qc
    ·
     obtain rfl:=anE.1 h;rw[hf]at qc;cases qc
   ·
    rcases anu.1 hj with h|h
    ·
     exact yA hB ca aZ H.ord nM h (fun _ h=>h) (H.uV j h hl)
    ·
     obtain rfl:=anE.1 h;refine⟨o',v,nM,fun d hd=>by rw[hd];exact yx H.pj,fun hw=>LM e1 (fun _ h=>h) (h1 (by rw[e2];exact hw)),fun hw=>h2 (by rw[e2];exact hw)⟩
   ·
    rcases anu.1 rv with h|h
    ·
     rw[iU _ _ _ _ (bu.one j d hj hd (gR j h))];exact H.done j d hj hl h hd
    ·
     obtain rfl:=anE.1 h;rcases H.sub j hj hl with h5|h5
     ·
      exact absurd h5 GR
     ·
      obtain⟨e,he,Ue⟩:=aoC.1 h5;obtain⟨_,_,g3,_⟩:=H.oA e he;rw[Ue,hf]at g3;cases g3
   ·
    rw[iU _ _ _ _ (by have:=hd k (by simp);rwa [Dd]at this)];exact H.full d fun j hj=>hd j (an7 _ hj)
theorem LO{x p1 y y':List Nat}{i:Nat}(hn:(p1++i::y').Nodup)(h:x++i::y=p1++i::y'):x=p1:=by
 induction x generalizing p1 with
 |nil=>
  cases p1 with
  |nil=>rfl
  |cons q p1=>
   simp only[anR,aoq,apC]at h;obtain⟨rfl,_⟩:=h;exact absurd (by simp) (apc.1 hn).1
 |cons c x ih=>
  cases p1 with
  |nil=>
   simp only[anR,aoq,apC]at h;obtain⟨rfl,h2⟩:=h;rw[←h2]at hn;exact absurd (by simp) (apc.1 hn).1
  |cons q p1=>
   simp only[aoq,apC]at h;obtain⟨rfl,h2⟩:=h;rw[ih (apc.1 hn).2 h2]
theorem LP{listed:Array Bool}(hB:sW l fs A [] [] ord=true)(iF: ∀j,j<l.length->j∈ord)(inv:HeadInv .any l.toArray l.length listed): ∀(k:Nat) (o:Oper),l[k]? =some o->(∀e∈o.after,Region.binds .any e=true->listed.getD e.on false=true)->
  ∀f∈A.getD k [],listed.getD f false=true:=by
 intro k
 induction k using Nat.strongRecOn with
 |_ k ih=>
  intro o nM hd f hf;obtain⟨x,y,hx⟩:=api (iF k (ad2.1 nM).1);obtain⟨o',qn,bu,-⟩:=uU ord [] [] hB x k y hx;have:o'=o:=by rw[nM]at qn;exact(ani qn).symm
  subst this;obtain⟨e,he,hb,h⟩:=bu.cert f hf;have hl:=hd e he hb;rcases h with rfl|h
  ·
   exact hl
  ·
   have aZ:=bu.back e he hb;have LQ:e.on<l.length:=by have:=(ad2.1 nM).1;omega
   exact ih e.on aZ l[e.on] (by simp[LQ]) (inv.closed e.on _ (by simp[LQ]) hl) f h
theorem De{listed:Array Bool}{i:Nat}(hi:i<listed.size)(h:listed.getD i false=true):listed.getD i true=true:=by
 simp[hi]at h⊢;exact h
theorem Df(hB:sW l fs A [] [] ord=true)(ca:ord.Nodup)(aZ: ∀j∈ord,j<l.length)(iF: ∀j,j<l.length->j∈ord)(yC: ∀k,k<l.length->fs.contains k=false->fs.contains (k+2000)=false):
  ∀(m:Nat) (pre gq:List Nat) (af:Act) (L Lq:List ai) (E:List (Nat×ai)) (listed:Array Bool) (a:Act) (w:World),left l.length listed=m->Core P l fs mk Q w0 ord a0 pre gq af L Lq E listed a w->wpAny P .any l.toArray Q m listed a w
 |0,GV,GW,GX,L0,Lq,E0,listed,a,w,hm,H0=>by
  obtain⟨pre,gq,af,L,E,H,GY⟩:=Dc hB ca aZ GW GV GX H0;have mD: ∀j,j<l.length->listed.getD j true=true:=fun j hj=>by
   cases h:listed.getD j true with
   |true=>rfl
   |false=>
    have:j∈(List.range l.length).filter fun i=> !listed.getD i true:=anQ.2 ⟨List.mem_range.2 hj,by rw[h];rfl⟩;rw[anB.1 hm]at this
    cases this
  have hr:Region.ready .any l.toArray listed=[]:=by
   refine List.eq_nil_iff_forall_not_mem.2 fun i hi=>?_;obtain⟨h1,o,h2,_⟩:=mem_ready.1 hi;rw[mD i (by have:=(aoN.1 h2).1;simpa using this)]at h1;cases h1
  have GZ:gq=[]:=by
   rcases GY with h|⟨k,r,hs,_,hE⟩
   ·
    exact h
   ·
    exfalso;have hk:k∈ord:=by rw[H.ord,hs];simp
    rcases H.sub k (aZ k hk) (mD k (aZ k hk))with this|this
    ·
     have nO:=ca;rw[H.ord,hs]at nO;exact absurd rfl ((aoL.1 nO).2.2 k this k (by simp))
    ·
     exact hE this
  have hE:E=[]:=List.eq_nil_iff_forall_not_mem.2 fun e he=>by
   have:=(H.oA e he).1;rw[GZ]at this;cases this
  have yB:=H.wJ;rw[GZ]at yB;have AH:=H.ord;rw[GZ,anN]at AH;have e1:a=af:=by
   have:a.tmps=af.tmps:=by
    apply aoG;intro d
    by_cases hw: ∃j,j<l.length/\dt l j=some d
    ·
     obtain⟨j,hj,hd⟩:=hw;exact H.done j d hj (mD j hj) (by rw[←AH];exact iF j hj) hd
    ·
     have h1: ∀j,j<l.length->dt l j≠some d:=fun j hj hd=>hw ⟨j,hj,hd⟩;rw[H.rest d fun j hj _=>h1 j hj,H.full d fun j hj=>h1 j (aZ j (by rw[AH];exact hj))]
   have h2:a.defers=af.defers:=by rw[H.defers,H.q6]
   cases a;cases af
   simp_all
  subst e1;have sX:=H.mem;rw[hE]at sX;exact⟨hr,yB w (by simpa using sX)⟩
 |m+1,GV,GW,GX,L0,Lq,E0,listed,a,w,hm,H0=>by
  obtain⟨pre,gq,af,L,E,H,GY⟩:=Dc hB ca aZ GW GV GX H0;have LR:Mem w0 L w:=H.mem.sub (List.sublist_append_right _ _);obtain⟨i0,wh,Cs,Ad⟩: ∃i,i<l.length/\listed.getD i true=false/\ ∀j,j<i->listed.getD j true=true:=by
   have cc: ∃i,i<l.length/\listed.getD i true=false:=by
    cases hf:(List.range l.length).filter fun i=> !listed.getD i true with
    |nil=>rw[left,hf]at hm;cases hm
    |cons i r=>
     have:i∈(List.range l.length).filter fun i=> !listed.getD i true:=by rw[hf];simp
     obtain⟨h1,h2⟩:=anQ.1 this;exact⟨i,an5.1 h1,by simpa using h2⟩
   obtain⟨i,h1,h2⟩:=cc
   induction i using Nat.strongRecOn with
   |_ i ih=>
    by_cases h: ∃j,j<i/\listed.getD j true=false
    ·
     obtain⟨j,hj,fk⟩:=h;exact ih j hj (by omega) fk
    ·
     refine⟨i,h1,h2,fun j hj=>?_⟩
     cases hh:listed.getD j true with
     |true=>rfl
     |false=>exact absurd ⟨j,hj,hh⟩ h
  have eL:listed.size=l.length:=by simpa using H.inv.size
  have ok: ∀k,k<l.length-> ∃x y o,ord=x++k::y/\l[k]? =some o/\GM l fs A (x.reverse++[]) ((x.filter fun j=>fs.contains j).reverse++[]) k o:=fun k hk=>by
   obtain⟨x,y,hx⟩:=api (iF k hk);obtain⟨o,ho,bu,-⟩:=uU ord [] [] hB x k y hx;exact⟨x,y,o,hx,ho,bu⟩
  have Ae:i0∈Region.ready .any l.toArray listed:=by
   obtain⟨x,y,o,_,ho,bu⟩:=ok i0 wh;refine mem_ready.2 ⟨Cs,o,by simpa using ho,fun e he hb=>?_⟩;have h1:=bu.back e he hb;have h2:=Ad e.on h1;have h3:e.on<listed.size:=by omega
   simp[h3]at h2⊢;exact h2
  refine⟨fun h=>(by rw[h]at Ae;cases Ae),fun i hi=>?_⟩;obtain⟨gR,o',nE,pn⟩:=mem_ready.1 hi;have sY:i<l.length:=by have:=(aoN.1 nE).1;simpa using this
  obtain⟨x,y,o,hx,ho,bu⟩:=ok i sY;have:o'=o:=by simpa[ho]using nE.symm
  subst this;have q7:left l.length (listed.setIfInBounds i true)=m:=by have:=Kq sY gR;omega
  have jS:dt l i=o'.dst:=by simp[dt,ho]
  have gu: ∀j,j≠i->(listed.setIfInBounds i true).getD j true=listed.getD j true:=fun j cg=>getD_set_ne true (Ne.symm cg);have oc:(listed.setIfInBounds i true).getD i true=true:=by simp[show i<listed.size by omega]
  have ry: ∀j d,j<l.length->dt l j=some d->j≠i->o'.dst≠some d:=bu.one;have LS:(∀j∈x,j∈pre)-> ∀t∈o'.looksAt l.toArray,a.tmps[t]? =af.tmps[t]? :=fun iw t ht=>by
   by_cases hw: ∃j,j<l.length/\dt l j=some t
   ·
    obtain⟨j,hj,hd⟩:=hw;obtain⟨mB,e,he,hb,kg⟩:=bu.reads j t hj hd ht;have hl:=pn e he hb;rw[kg]at hl;rw[anN,ap4]at mB;exact H.done j t hj (De (by omega) hl) (iw j mB) hd
   ·
    have h1: ∀j,j<l.length->dt l j≠some t:=fun j hj hd=>hw ⟨j,hj,hd⟩;rw[H.rest t fun j hj _=>h1 j hj,H.full t fun j hj=>h1 j (aZ j (by rw[H.ord];exact an7 _ hj))]
  by_cases qo:i∈pre
  ·
   have iw: ∀j∈x,j∈pre:=fun j hj=>by
    obtain⟨p1,p2,hp⟩:=api qo;have h1:=H.ord;rw[hp,hx,anv,aoq]at h1;have AI:=ca;rw[hx]at AI;have h2:x=p1:=LO (h1▸AI) h1;rw[hp,←h2];exact an7 _ hj
   obtain⟨ee,ew⟩:=AG bu.uq (LS iw);obtain⟨op,v,hop,Uf,Ug,Uh⟩:=H.uV i qo gR;have:op=o':=by rw[ho]at hop;exact(ani hop).symm
   subst this;have iV:fs.contains i=false:=by
    cases h:fs.contains i with
    |false=>rfl
    |true=>have:=H.fresh i qo h;rw[gR]at this;cases this
   have next: ∀w',Mem w [] w'->wpAny P .any l.toArray Q m (listed.setIfInBounds i true) (a.put op.dst v) w':=fun w' fB=>by
    refine Df hB ca aZ iF yC m pre gq af L Lq E _ _ w' q7 ⟨H.ord,H.inv.set hi sY,by simpa using H.mem.call fB,fun e he=>?_,H.keys,H.yz,H.wJ,by rw[qX];exact H.size,H.pj,by rw[qY];exact H.defers,H.q6,fun j hj hl=>?_,fun j hj hf=>?_,fun j hj hl=>?_,fun j d hj hl rv hd=>?_,fun d hd=>?_,H.full⟩
    ·
     obtain⟨g1,g2,g3,g4,oe,b,g5,g7,g8⟩:=H.oA e he;have AJ:e.1≠i:=fun e2=>by
      have nO:=ca;rw[H.ord]at nO;exact(aoL.1 nO).2.2 i qo e.1 g1 e2.symm
     refine⟨g1,by rw[gu _ AJ];exact g2,g3,g4,oe,b,g5,g7,fun d hd=>?_⟩;have:=g8 d hd;unfold nL at this⊢;rw[iU _ _ _ _ (ry e.1 d (ad2.1 g5).1 (by simp[dt,g5,hd]) AJ)];exact this
    ·
     by_cases cg:j=i
     ·
      subst cg;exact .inl qo
     ·
      exact H.sub j hj (by rw[←gu j cg];exact hl)
    ·
     rw[gu j (fun e=>by subst e;rw[iV]at hf;cases hf)];exact H.fresh j hj hf
    ·
     exact H.uV j hj (by rw[←gu j (fun e=>by subst e;rw[oc]at hl;cases hl)];exact hl)
    ·
     by_cases cg:j=i
     ·
      subst cg;rw[jS]at hd;have h2:=Uf d hd;rw[hd];have h3:nL a0.tmps.size d v (a.put (some d) v):=yx H.size;unfold nL at h2 h3;rw[h2,h3]
     ·
      rw[gu j cg]at hl;rw[iU _ _ _ _ (ry j d hj hd cg)];exact H.done j d hj hl rv hd
    ·
     have h1:op.dst≠some d:=by
      have:=hd i sY oc;rwa [jS]at this
     rw[iU _ _ _ _ h1];refine H.rest d fun j hj hl=>?_
     by_cases cg:j=i
     ·
      subst cg;rw[jS];exact h1
     ·
      exact hd j hj (by rw[gu j cg];exact hl)
   unfold wpOp;simp only[nE];rw[ew];split
   ·
    rename_i po;have h1:=Ug po w (by
     split
     ·
      exact LR
     ·
      exact H.yz w LR)
    refine .inl ?_;unfold Oper.wp;rw[ee];unfold Oper.quietAt at h1;generalize(execOp af.eval op).run P w=r at h1;unfold Oper.quietUpon at h1;split at h1
    ·
     obtain⟨rfl,rfl⟩:=h1;exact next _ (Mem.init _)
    ·
     obtain⟨rfl,e⟩:=h1;rw[e]at next;exact next _ (Mem.init _)
    ·
     obtain⟨rfl,sH⟩:=h1;exact sH.mono fun e ob ⟨he,hm⟩=>by subst he;exact next _ hm
    ·
     exact h1.elim
   ·
    rename_i po;have:=Uh (by simpa using po);rw[this]at next;exact next w (Mem.init _)
  ·
   have G0:i∈gq:=by
    have:=iF i sY;rw[H.ord]at this;exact(anu.1 this).resolve_left qo
   rcases GY with rfl|⟨f,r,rfl,AK,AL⟩
   ·
    cases G0
   have G1: ∀(v:Value) (j d:Nat),j<l.length->(listed.setIfInBounds i true).getD j true=true->j∈pre->dt l j=some d->(a.put o'.dst v).tmps[d]? =af.tmps[d]? :=fun v j d hj hl rv hd=>by
    have cg:j≠i:=fun e=>qo (e▸rv);rw[gu j cg]at hl;rw[iU _ _ _ _ (ry j d hj hd cg)];exact H.done j d hj hl rv hd
   have Dg: ∀(v:Value) (d:Nat),(∀j,j<l.length->(listed.setIfInBounds i true).getD j true=true->dt l j≠some d)->(a.put o'.dst v).tmps[d]? =a0.tmps[d]? :=fun v d hd=>by
    have h1:o'.dst≠some d:=by
     have:=hd i sY oc;rwa [jS]at this
    rw[iU _ _ _ _ h1];refine H.rest d fun j hj hl=>?_
    by_cases cg:j=i
    ·
     subst cg;rw[jS];exact h1
    ·
     exact hd j hj (by rw[gu j cg];exact hl)
   have G2:i∉E.map (·.1):=fun h=>by
    obtain⟨e,he,rfl⟩:=aoC.1 h;have:=(H.oA e he).2.1;rw[gR]at this;cases this
   have LU: ∀(v:Value),∀e∈E,Early l fs mk a0.tmps.size (f::r) (listed.setIfInBounds i true) (a.put o'.dst v) e:=fun v e he=>by
    obtain⟨g1,g2,g3,g4,oe,b,g5,g7,g8⟩:=H.oA e he;have AJ:e.1≠i:=fun e2=>G2 (e2▸an6 he);refine⟨g1,by rw[gu _ AJ];exact g2,g3,g4,oe,b,g5,g7,fun d hd=>?_⟩;have:=g8 d hd;unfold nL at this⊢;rw[iU _ _ _ _ (ry e.1 d (ad2.1 g5).1 (by simp[dt,g5,hd]) AJ)];exact this
   by_cases LV:i=f
   ·
    subst LV;have iw: ∀j∈x,j∈pre:=fun j hj=>by
     have h1:=H.ord;rw[hx]at h1;have AI:=ca;rw[hx]at AI;have h2:x=pre:=LO (h1▸AI) h1;rw[←h2];exact hj
    obtain⟨ee,ew⟩:=AG bu.uq (LS iw);obtain⟨of,pq,hl⟩:=H.wJ;have:of=o':=by rw[ho]at pq;exact(ani pq).symm
    subst this;rw[if_pos AK]at hl;replace hl:=hl.2;have next: ∀v w' E' L' fF,E'=E->(∀e∈E,e.1∈r)->Mem w0 (E'.map (·.2)++L') w'->(∀w,Mem w0 L' w->Mem w0 fF w)->(∀w,Mem w0 fF w->Mem w0 Lq w)->(fs.contains (i+2000)=true\/fs.contains (i+5000)=true-> ∀w,Mem w0 L' w->Mem w0 L w)->qm P l fs mk Q w0 r (af.put of.dst v) L' fF->wpAny P .any l.toArray Q m (listed.setIfInBounds i true) (a.put of.dst v) w':=fun v w' E' L' fF wM wN g1 g2 g3 LW g4=>by
     subst wM;refine Df hB ca aZ iF yC m (pre++[i]) r (af.put of.dst v) L' fF E' _ _ w' q7 ⟨by rw[H.ord];simp,H.inv.set hi sY,g1,fun e he=>?_,H.keys,g2,g4,by rw[qX];exact H.size,by rw[qX];exact H.pj,by rw[qY];exact H.defers,by rw[qY];exact H.q6,fun j hj lW=>?_,fun j hj hf=>?_,fun j hj lW=>?_,fun j d hj lW rv hd=>?_,Dg v,fun d hd=>?_⟩
     ·
      obtain⟨g1',Ui⟩:=LU v e he;exact⟨wN e he,Ui⟩
     ·
      by_cases cg:j=i
      ·
       subst cg;exact .inl (by simp)
      ·
       exact(H.sub j hj (by rw[←gu j cg];exact lW)).imp_left fun h=>an7 _ h
     ·
      rcases anu.1 hj with h|h
      ·
       by_cases cg:j=i
       ·
        subst cg;exact oc
       ·
        rw[gu j cg];exact H.fresh j h hf
      ·
       obtain rfl:=anE.1 h;exact oc
     ·
      rcases anu.1 hj with h|h
      ·
       have cg:j≠i:=fun e=>qo (e▸h)
       cases wL:fs.contains (j+1000)with
       |true=>
        cases oB:fs.contains (i+2000)with
        |true=>
         have hp:=H.uV j h (by rw[←gu j cg];exact lW);rw[wL]at hp;simp only[if_true]at hp⊢;exact yA hB ca aZ H.ord ho h (LW (.inl oB)) hp
        |false=>
         cases h5:fs.contains (i+5000)with
         |true=>
          have hp:=H.uV j h (by rw[←gu j cg];exact lW);rw[wL]at hp;simp only[if_true]at hp⊢;exact yA hB ca aZ H.ord ho h (LW (.inr h5)) hp
         |false=>
          exfalso;obtain⟨oi,uu,Dh,-⟩:=uU ord [] [] hB pre i r H.ord;have e1:oi=of:=by rw[ho]at uu;exact(ani uu).symm
          subst e1;have Uj:=Dh.tmp AK oB h5 j (by rw[anN,ap4];exact h) wL;have gO:=LP hB iF H.inv i oi ho pn j Uj;have Uk:j∈ord:=by rw[H.ord];exact an7 _ h
          have:=De (by have:=aZ j Uk;omega) gO;rw[gu j cg]at lW;rw[this]at lW;cases lW
       |false=>
        have hp:=H.uV j h (by rw[←gu j cg];exact lW);rw[wL]at hp;simp only[aon,if_false]at hp⊢;exact yA hB ca aZ H.ord ho h g3 hp
      ·
       obtain rfl:=anE.1 h;rw[oc]at lW;cases lW
     ·
      rcases anu.1 rv with h|h
      ·
       have cg:j≠i:=fun e=>qo (e▸h);rw[iU _ _ _ _ (ry j d hj hd cg),iU _ _ _ _ (ry j d hj hd cg)];rw[gu j cg]at lW;exact H.done j d hj lW h hd
      ·
       obtain rfl:=anE.1 h;rw[jS]at hd;rw[hd];have h3:nL a0.tmps.size d v (a.put (some d) v):=yx H.size;have h4:nL a0.tmps.size d v (af.put (some d) v):=yx H.pj;unfold nL at h3 h4;rw[h3,h4]
     ·
      have h1:of.dst≠some d:=by
       have:=hd i (by simp);rwa [jS]at this
      rw[iU _ _ _ _ h1];exact H.full d fun j hj=>hd j (an7 _ hj)
    have wN: ∀e∈E,e.1∈r:=fun e he=>by
     have:=(H.oA e he).1;exact(ank.1 this).resolve_left fun e2=>G2 (e2▸an6 he)
    cases oB:fs.contains (i+2000)with
    |true=>
     rw[if_pos oB]at hl;obtain⟨hg,G3,yB⟩:=hl;obtain⟨mx,w',fC,G4⟩:=G3 w0 w (E.map (·.2)++L) H.mem;unfold wpOp;simp only[nE];rw[if_pos (by simp[Region.wanted,hg])];refine .inl ?_;unfold Oper.wp;rw[ee,fC];refine next _ _ E ((mk i).e mx::L) Lq rfl wN ?_ (fun w hw=>H.yz w (hw.sub (anT _ _))) (fun _ h=>h) (fun _ w hw=>hw.sub (anT _ _)) (yB _);exact G4.perm (ao7.symm)
    |false=>
     rw[if_neg (by rw[oB];exact aoh)]at hl;obtain⟨hg,fC,Ul⟩:=hl;have Di:E=[]\/ ∃x,E=[x]/\fs.contains (i+4000)=true:=by
      obtain⟨oi,uu,Dh,Um⟩:=uU ord [] [] hB pre i r H.ord;rcases Um AK oB with h|⟨h4,h5⟩
      ·
       refine .inl (List.eq_nil_iff_forall_not_mem.2 fun e he=>?_);have h1:=h e.1 (wN e he);rw[(H.oA e he).2.2.2.1]at h1;cases h1
      ·
       rcases wM:E with _|⟨x,_|⟨y,E'⟩⟩
       ·
        exact .inl rfl
       ·
        exact .inr ⟨x,rfl,h4⟩
       ·
        exfalso;have m1:x.1∈r.filter fun j=>fs.contains (j+2000):=anQ.2 ⟨wN x (by rw[wM];simp),(H.oA x (by rw[wM];simp)).2.2.2.1⟩;have m2:y.1∈r.filter fun j=>fs.contains (j+2000):=anQ.2 ⟨wN y (by rw[wM];simp),(H.oA y (by rw[wM];simp)).2.2.2.1⟩;have LX:=H.keys;rw[wM]at LX;have cc:x.1≠y.1:=fun e=>(apc.1 LX).1 (by simp[e]);rcases dD:(r.filter fun j=>fs.contains (j+2000))with _|⟨z,_|⟨z2,fl⟩⟩
        ·
         rw[dD]at m1;cases m1
        ·
         rw[dD,anE]at m1 m2;exact cc (m1.trans m2.symm)
        ·
         rw[dD]at h5;simp at h5
     have h1:upon P w (fun v w'=> ∃L' fF,Mem w0 (E.map (·.2)++L') w'/\(∀w,Mem w0 L' w->Mem w0 fF w)/\(∀w,Mem w0 fF w->Mem w0 Lq w)/\(fs.contains (i+5000)=true-> ∀w,Mem w0 L' w->Mem w0 L w)/\qm P l fs mk Q w0 r (af.put of.dst v) L' fF) ((execOp af.eval of).run P w):=by
      have AM:=H.mem;rcases Di with hE|⟨x,hE,h4⟩
      ·
       rw[hE]at AM⊢;exact fC w (by simpa using AM)
      ·
       rw[hE]at AM⊢;exact Ul h4 x.2 w (by simpa using AM)
     have G5: ∀v w',(∃L' fF,Mem w0 (E.map (·.2)++L') w'/\(∀w,Mem w0 L' w->Mem w0 fF w)/\(∀w,Mem w0 fF w->Mem w0 Lq w)/\(fs.contains (i+5000)=true-> ∀w,Mem w0 L' w->Mem w0 L w)/\qm P l fs mk Q w0 r (af.put of.dst v) L' fF)->wpAny P .any l.toArray Q m (listed.setIfInBounds i true) (a.put of.dst v) w':=fun v w' ⟨L',fF,g1,g2,g3,g5,g4⟩=>
      next v w' E L' fF rfl wN g1 g2 g3 (fun h=>h.elim (fun h=>by rw[oB]at h;cases h) g5) g4
     unfold wpOp;simp only[nE];rw[if_pos (by rw[ew];exact hg)];refine .inl ?_;unfold Oper.wp;rw[ee];generalize(execOp af.eval of).run P w=r' at h1;unfold upon at h1;split at h1
     ·
      exact G5 _ _ h1
     ·
      exact G5 _ _ h1
     ·
      obtain⟨rfl,sH⟩:=h1;exact sH.mono fun e ob ⟨u,he,hR⟩=>by subst he;exact G5 u _ hR
     ·
      exact h1.elim
   ·
    have Af:i∈r:=(ank.1 G0).resolve_left LV
    cases oB:fs.contains (i+2000)with
    |false=>
     exfalso;obtain⟨r1,r2,rfl⟩:=api Af;have qp:ord=(pre++f::r1)++i::r2:=by rw[H.ord];simp
     obtain⟨oi,uu,Dh,-⟩:=uU ord [] [] hB _ i r2 qp;have e1:oi=o':=by rw[ho]at uu;exact(ani uu).symm
     subst e1;have AN:=Dh.T5 oB f (by
      rw[anN,ap4,anQ];exact⟨by simp,AK⟩)
     have dD:=LP hB iF H.inv i oi ho pn f AN;have qc:f∈ord:=by rw[H.ord];simp
     rcases H.sub f (aZ f qc) (De (by have:=aZ f qc;omega) dD)with sE|sE
     ·
      have nO:=ca;rw[H.ord]at nO;exact(aoL.1 nO).2.2 f sE f (by simp) rfl
     ·
      exact AL sE
    |true=>
     obtain⟨of,pq,hl⟩:=H.wJ;rw[if_pos AK]at hl;obtain⟨oa,LY,Un,G3⟩:=hl.1 i Af oB;have e1:oa=o':=by rw[ho]at LY;exact(ani LY).symm
     subst e1;have Uo: ∀t∈oa.looksAt l.toArray,a.tmps[t]? =af.tmps[t]? :=fun t ht=>by
      by_cases hw: ∃j,j<l.length/\dt l j=some t
      ·
       obtain⟨j,hj,hd⟩:=hw;obtain⟨_,e,he,hb,kg⟩:=bu.reads j t hj hd ht;have lW:=pn e he hb;rw[kg]at lW;have LZ:=De (by omega) lW;rcases H.sub j hj LZ with hp|hp
       ·
        exact H.done j t hj LZ hp hd
       ·
        obtain⟨e2,pC,rfl⟩:=aoC.1 hp;have g3:=(H.oA e2 pC).2.2.1;rw[bu.T6 oB e2.1 t hj hd ht]at g3;cases g3
      ·
       have h1: ∀j,j<l.length->dt l j≠some t:=fun j hj hd=>hw ⟨j,hj,hd⟩;rw[H.rest t fun j hj _=>h1 j hj,H.full t fun j hj=>h1 j (aZ j (by rw[H.ord];exact an7 _ hj))]
     obtain⟨ee,_⟩:=AG bu.uq Uo;obtain⟨mx,w',fC,G4⟩:=G3 w0 w (E.map (·.2)++L) H.mem;have iV:fs.contains i=true:=by
      cases iV:fs.contains i with
      |true=>rfl
      |false=>
       exfalso;obtain⟨r1,r2,rfl⟩:=api Af;exact absurd oB (by rw[yC i sY iV];exact aoh)
     unfold wpOp;simp only[nE];rw[if_pos (by simp[Region.wanted,Un])];refine .inl ?_;unfold Oper.wp;rw[ee,fC];refine Df hB ca aZ iF yC m pre (f::r) af L Lq ((i,(mk i).e mx)::E) _ _ _ q7 ⟨H.ord,H.inv.set hi sY,G4,fun e he=>?_,apc.2 ⟨G2,H.keys⟩,H.yz,H.wJ,by rw[qX];exact H.size,H.pj,by rw[qY];exact H.defers,H.q6,fun j hj hl=>?_,fun j hj hf=>?_,fun j hj hl=>?_,G1 _,Dg _,H.full⟩
     ·
      rcases ank.1 he with rfl|he
      ·
       exact⟨G0,oc,iV,oB,oa,mx,ho,rfl,fun d hd=>by rw[hd];exact yx H.size⟩
      ·
       exact LU _ e he
     ·
      by_cases cg:j=i
      ·
       subst cg;exact .inr (by simp)
      ·
       exact(H.sub j hj (by rw[←gu j cg];exact hl)).imp_right fun h=>anI _ h
     ·
      have cg:j≠i:=fun e=>qo (e▸hj);rw[gu j cg];exact H.fresh j hj hf
     ·
      have cg:j≠i:=fun e=>qo (e▸hj);exact H.uV j hj (by rw[←gu j cg];exact hl)
theorem L3{id:Nat}{ro:Option Nat}[ir Q]{a:Act}{w:World}{L Lq:List ai}(A:List (List Nat))(ord:List Nat)(ca:n8 l=true)(hm:P.follows .mixedOrders=true)(hB:Db l fs A ord=true)(hC:Mem w0 L {w with drawn:=w.drawn+1})(mC: ∀w,Mem w0 L w->Mem w0 Lq w)
  (yC: ∀k,k<l.length->fs.contains k=false->fs.contains (k+2000)=false)
  (h:qm P l fs mk Q w0 ord a L Lq):(Code.region id l.toArray true).wpIn (gQ ro) 0 P Q a w:=by
 simp only[Db,anc,decide_eq_true_eq]at hB;obtain⟨⟨⟨h1,h2⟩,h3⟩,h4⟩:=hB;have iF: ∀j,j<l.length->j∈ord:=fun j hj=>by have:=anw.1 h1 j (an5.2 hj);simpa using this
 have aZ: ∀j∈ord,j<l.length:=fun j hj=>by have:=anw.1 h3 j hj;simpa using this
 refine Fz ca hm ?_;have FH:HeadInv .any l.toArray l.length (Array.replicate l.toArray.size false):=
  ⟨by simp,fun j oj _ hl=>(by rw[getD_replicate_false]at hl;cases hl),fun t h1 h2=>by simp at h2;omega⟩
 have gR: ∀j,j<l.length->(Array.replicate l.toArray.size false).getD j true=false:=fun j hj=>by simp[hj]
 have q7:left l.length (Array.replicate l.toArray.size false)=l.length:=by
  unfold left;rw[List.filter_eq_self.2 (fun j hj=>?_),List.length_range];rw[gR j (an5.1 hj)];rfl
 have:=Df (P:=P) (Q:=Q) (w0:=w0) (a0:=a) h4 h2 aZ iF yC l.length [] ord a L Lq [] (Array.replicate l.toArray.size false) a _ q7
  ⟨rfl,FH,hC,fun e he=>(by cases he),List.nodup_nil,mC,h,rfl,rfl,rfl,rfl,fun j hj hl=>(by rw[gR j hj]at hl;cases hl),fun j hj=>(by cases hj),fun j hj=>(by cases hj),fun j d hj hl=>(by rw[gR j hj]at hl;cases hl),fun _ _=>rfl,fun _ _=>rfl⟩
 simpa using this
theorem Up{id:Nat}{ro:Option Nat}[ir Q]{a:Act}{w:World}{L Lq:List ai}(A:List (List Nat))(ord:List Nat)(ca:n8 l=true)(hm:P.follows .mixedOrders=true)(hB:Da l fs A ord=true)(hC:Mem w0 L {w with drawn:=w.drawn+1})(mC: ∀w,Mem w0 L w->Mem w0 Lq w)
  (h:qm P l fs mk Q w0 ord a L Lq):(Code.region id l.toArray true).wpIn (gQ ro) 0 P Q a w:=by
 have h5: ∀k,fs.contains (k+2000)=false:=fun k=>by
  simp only[Da,anc]at hB
  cases hk:fs.contains (k+2000)with
  |false=>rfl
  |true=>
   have:=anw.1 hB.1.2 (k+2000) (by simpa using hk);have:=of_decide_eq_true this;omega
 refine L3 A ord ca hm ?_ hC mC (fun k _ _=>h5 k) h;simp only[Da,Db,anc]at hB⊢;exact⟨hB.1.1,hB.2⟩
end
open Go.RowKit
section
variable {P:Program} {N:bO} {w0:World} {env:Env} {L R R1 R2:List ai} {Q:Exit->Act->World->Prop} {d:Option Tmp} {ty:TypeId} {ps:String} {af:Array Edge} {gd:Option (Nat×Bool)} {K:Value->List ai->Prop}
def gG(P:Program)(N:bO)(w0:World)(env:Env)(L:List ai)(o:Oper)(K:Value->List ai->Prop):Prop:=
 ∀a w,cm N env a->Mem w0 L w->upon P w (fun v w'=> ∃L',Mem w0 L' w'/\K v L') ((execOp a.eval o).run P w)
theorem uX{o:Oper}(h: ∀a w,cm N env a->Mem w0 L w-> ∃v w' L',(execOp a.eval o).run P w= .ok (.value v) w'/\Mem w0 L' w'/\K v L'):gG P N w0 env L o K:=fun a w ha hw=>by
 obtain⟨v,w',L',h1,h2,h3⟩:=h a w ha hw;rw[h1];exact⟨L',h2,h3⟩
theorem G6{o:Oper}(h: ∀a w,cm N env a->Mem w0 L w-> ∃w' L',(execOp a.eval o).run P w= .ok .skip w'/\Mem w0 L' w'/\K undef L'):gG P N w0 env L o K:=fun a w ha hw=>by
 obtain⟨w',L',h1,h2,h3⟩:=h a w ha hw;rw[h1];exact⟨L',h2,h3⟩
theorem AO{w:World}{R R':Value->World->Prop}(h: ∀v w,R v w->R' v w){r:Result Next}(hr:upon P w R r):upon P w R' r:=by
 unfold upon at hr⊢;split at hr
 ·
  exact h _ _ hr
 ·
  exact h _ _ hr
 ·
  exact⟨hr.1,hr.2.mono fun e ob ⟨v,he,hv⟩=>⟨v,he,h _ _ hv⟩⟩
 exact hr.elim
theorem L4{o:Oper}{K':Value->List ai->Prop}(h:gG P N w0 env L o K')(hk: ∀v L',K' v L'-> ∃Dj,(∀w,Mem w0 L' w->Mem w0 Dj w)/\K v Dj):gG P N w0 env L o K:=fun a w ha hw=>
 AO (fun v _ ⟨L',h1,h2⟩=>by obtain⟨Dj,h3,h4⟩:=hk v L' h2;exact⟨Dj,h3 _ h1,h4⟩) (h a w ha hw)
theorem lX{X:Type}{val:X->Value}{L':X->List ai}{pr:X->Prop}{pre:Prop}{f:FuncId}{xs:List Operand}{ts:Array TypeId}{vs:List Value}[hf:aD P f](hx:ff env xs=some vs)
  [hc:bK P f w0 L vs X val L' pr pre] (hp:pre) (hk: ∀x,pr x->K (val x) (L' x)):
  gG P N w0 env L ⟨d, .call {callee:= .value (.func f),args:=xs.toArray,argTypes:=ts},ty,ps,af,gd⟩ K:=fun a w ha hw=>by
 rw[x7 hf w rfl,ha.ff hx];exact⟨rfl,(hc.h hp w hw).mono fun e w' ⟨x,he,iw,hm⟩=>⟨val x,he,L' x,hm,hk x iw⟩⟩
section
variable {α:Type} {enc:α->Array Value} {c:Nat} {s:Sv} {xs ys:List α}
theorem Uq{t:TypeId}{z:Value}[hz:dB P t z](hk: ∀b,K ((.pointer (some ⟨b,0,none⟩))) ((an b z.cells t::L))):
  gG P N w0 env L ⟨d, .alloc t,ty,ps,af,none⟩ K:=
 uX fun a w ha hw=>⟨_,_,_,by simp only[execOp,Instr.alloc,newVar,newRow,Sem.run_bind,Cz w hz,newObj,Sem.run,Result.andThen,Sem.run_pure];rfl,hw.alloc z.cells t,hk _⟩
theorem L5{t:TypeId}{cs:Array Value}[hz:dB P t (.agg cs)](hk: ∀b,K ((.pointer (some ⟨b,0,none⟩))) ((an b cs t::L))):
  gG P N w0 env L ⟨d, .alloc t,ty,ps,af,none⟩ K:=Uq (z:= .agg cs) hk
theorem wO{t:TypeId}{x y:Operand}{i b o:Nat}{cs:Array Value}{T:TypeId}{v:Value}(hx:ev env x=some (.pointer (some ⟨b,o,none⟩)))(hy:ev env y=some v)[ht:eY P t][hh:Has L b cs T i](ho:o<cs.size)(hv:v.oneCell'=true){cs':Array Value}{L':List ai}(gv:cs.setIfInBounds o v=cs')[hu:eM L i (an b cs' T) L'](hk:K undef (L')):
  gG P N w0 env L ⟨none, .store t x y,ty,ps,af,none⟩ K:=
 G6 fun a w ha hw=>by
  have hi:=hh.h;have hb:=hw.block hi;have hc:w.cell? ⟨b,o,none⟩=some cs[o]:=by rw[hw.cell hi];simp[ho]
  have hf:w.frozen? ⟨b,o,none⟩=false:=frozen_of_row w b o cs T hb;subst gv;refine⟨w.setCell ⟨b,o,none⟩ v,_,?_,?_,hk⟩
  ·
   have h1:(storeCells ⟨b,o,none⟩ [v]).run P w= .ok () (w.setCell ⟨b,o,none⟩ v):=by
    have:=run_storeCells_at (P:=P) b o T [v] 0 cs w hb (by simp;omega) (by simpa using hv);rw[this,setCell_eq_setRow w b o cs T (0,0) v hb];congr 2;apply apI;simp[List.set_eq_take_append_cons_drop,ho]
   have gv:v.cells= #[v]:=by cases v<;>simp_all[Value.oneCell',Value.cells]
   simp only[execOp,ha.ev hx,ha.ev hy,Instr.storeAt,Instr.sureAddr,storeVar,Sem.run_bind,Sem.run_pure,Result.andThen,ki w ht.size,gv];simp[h1]
  ·
   rw[setCell_eq_setRow w b o cs T (0,0) v hb];rw[←hu.h];exact hw.setRow hi _
theorem L6{t:TypeId}{x y:Operand}{i b o n:Nat}{cs vs:Array Value}{T:TypeId}(hx:ev env x=some (.pointer (some ⟨b,o,none⟩)))(hy:ev env y=some (.agg vs))[ht:eu P t n][hh:Has L b cs T i][hs:eZ vs n](ho:o+n<=cs.size){cs':Array Value}{L':List ai}(gv:over cs o vs=cs')[hu:eM L i (an b cs' T) L'](hk:K undef (L')):
  gG P N w0 env L ⟨none, .store t x y,ty,ps,af,none⟩ K:=
 G6 fun a w ha hw=>by
  have hi:=hh.h;have hn:=hs.h;have hv:=hs.one;have hb:=hw.block hi;subst gv;refine⟨_,_,?_,by rw[←hu.h];exact hw.setRow hi _,hk⟩;have h1:=run_storeCells_at (P:=P) b o T vs.toList 0 cs w hb (by simp;omega) (fun v kp=>(anS.1 hv) v (by simpa using kp));simp only[execOp,ha.ev hx,ha.ev hy,Instr.storeAt,Instr.sureAddr,storeVar,Value.cells,Sem.run_bind,Sem.run_pure,Result.andThen,ki w ht.size,hn];simp[h1,over]
theorem mQ{t:TypeId}{x y:Operand}{i b n:Nat}{cs vs:Array Value}{T:TypeId}(hx:ev env x=some (.pointer (some ⟨b,0,none⟩)))(hy:ev env y=some (.agg vs))[ht:eu P t n][hh:Has L b cs T i][hs:eZ vs n][hc:eZ cs n]{L':List ai}[hu:eM L i (an b vs T) L'](hk:K undef (L')):
  gG P N w0 env L ⟨none, .store t x y,ty,ps,af,none⟩ K:=by
 have hn:=hs.h;have SH:=hc.h;refine L6 hx hy (by omega) (?_:over cs 0 vs=vs) hk;apply apI;simp[over];omega
theorem Ur{x y:Operand}{tx fD e:TypeId}{i b o dl dc sl sc:Nat}{a:Addr}{cs vs:Array Value}{T:TypeId}(hx:ev env x=some (.slice (some ⟨b,o,none⟩) dl dc))(hy:ev env y=some (.slice (some a) sl sc))
  [ht:ez P tx e 1] [hh:Has L b cs T i] (hn:vs.size=Nat.min sl dl) (qf: ∀w,Mem w0 L w-> ∀j,j<vs.size->w.cell? (a.add j)=vs[j]?) (hv:vs.all (·.oneCell')=true) (ho:o+vs.size<=cs.size)
  {cs':Array Value} {L':List ai} (gv:over cs o vs=cs') [hu:eM L i (an b cs' T) L'] (hk:K ((.int .i64 vs.size)) (L')):
  gG P N w0 env L ⟨d, .call {callee:= .builtin .copy,args:= #[x,y],argTypes:= #[tx,fD]},ty,ps,af,none⟩ K:=
 uX fun aa w ha hw=>by
  have hi:=hh.h;have hb:=hw.block hi;subst gv;have fC:=run_copy_row (P:=P) w tx fD ty e b o dl dc a sl sc cs T vs.toList ht.dU ht.size hb (by simpa using hn)
   (fun j v kp=>by
    have hj:j<vs.size:=by simpa using(ad2.1 kp).1
    rw[qf w hw j hj];simpa using kp) (by simpa using ho) (fun v kp=>(anS.1 hv) v (by simpa using kp))
  refine⟨_,w.setRow b (over cs o vs),_,?_,by rw[←hu.h];exact hw.setRow hi _,hk⟩;simp[execOp,ha.ev hx,ha.ev hy,resolve,invoke,builtin,fC,Result.andThen,goInt,over]
theorem Us{t tx e:TypeId}{x y:Operand}{yv:Value}{ct i:Nat}[ht:eF P t e c ct][he:bo enc c](hx:ev env x=some s.val)(hy:ev env y=some yv)[q:dV L s enc c xs i](hc:0<c)
  (hs: ∀w,Mem w0 L w->Src P c tx yv ys.length (aI enc ys) w) (hb:(xs.length+ys.length)*ct<=140737488355328) (iG:xs.length+ys.length<=140737488355328) {L':Sv->List ai} [hu: ∀s',eM L i (own enc c s' (xs++ys)) (L' s')]
  (hk: ∀s':Sv,s'.Ok->s'.len=(xs++ys).length->K (s'.val) ((L' s'))):
  gG P N w0 env L ⟨d, .call {callee:= .builtin .append,args:= #[x,y],argTypes:= #[t,tx]},ty,ps,af,none⟩ K:=
 uX fun a w ha hw=>by
  obtain⟨s',w',h1,h2,h3,h4⟩:=F8 (ty:=ty) ht hc hw q.h (hs w hw) hb iG;refine⟨s'.val,w',L' s',?_,by rw[←(hu s').h];exact h4,hk s' h2 h3⟩;simp[execOp,ha.ev hx,ha.ev hy,resolve,invoke,builtin,h1,Result.andThen]
theorem L7{t e:TypeId}{ct n:Nat}[ht:eF P t e c ct][he:bo enc c]{ops:List (Nat×Operand)}{vals:List Value}(xs:List α)(hx:km env ops=some (idx vals 0))(hv:vals.map Value.cells=xs.map enc)(hn:xs.length=n)(hc:0<n*c)(sP:n*c<=16777216)
  (hk: ∀b,K ((Sv.val ⟨false,b,0,n,n,none⟩)) ((own enc c ⟨false,b,0,n,n,none⟩ xs::L))):
  gG P N w0 env L ⟨d, .buildSlice t n ops.toArray,ty,ps,af,none⟩ K:=
 uX fun a w ha hw=>by
  subst hn;have e1:(ops.toArray.map fun(p:Nat×Operand)=>match p with|(i,x)=>(i,a.eval x))=(idx vals 0).toArray:=by
   rw[←ha.km hx];simp
  refine⟨_,_,_,?_,hw.call (wv (enc:=enc) (c:=c) (xs:=xs) (cs:=(aI enc xs).toArray) (e:=e) rfl xs.length xs.length rfl (anm _) (F9 hc sP) (by simp[gE]) fun i x hx j hj=>by rw[←mI (enc:=enc) xs i x hx j hj];simp),hk _⟩;simp only[execOp,e1,Sem.run_bind,Ga ht hv hc sP w,Result.andThen,Sem.run_pure];rfl
theorem L8{t e:TypeId}{ct n cap:Nat}{z:Value}{x y:Operand}{k k':IntKind}{ix iy:Int}[ht:eF P t e c ct][hz:dB P e z](x0:α)(h0:enc x0=z.cells)(hx:ev env x=some (.int k ix))(hy:ev env y=some (.int k' iy))(ex:ix=(n:Int))(ey:iy=(cap:Int))(hle:n<=cap)(hb:ct*cap<=281474976710656)(iG:cap<=140737488355328)
  (hk: ∀b,K ((Sv.val ⟨false,b,0,n,cap,none⟩)) ((own enc c ⟨false,b,0,n,cap,none⟩ (List.replicate n x0)::L))):
  gG P N w0 env L ⟨d, .makeSlice t x y,ty,ps,af,none⟩ K:=
 uX fun a w ha hw=>by
  subst ex ey;obtain⟨w',h1,h2⟩:=Gd ht hz (k:=k) (k':=k') (n:=n) x0 h0 hle hb iG w;exact⟨_,w',_,by simp only[execOp,ha.ev hx,ha.ev hy,Sem.run_bind,h1,Result.andThen,Sem.run_pure],hw.call h2,hk _⟩
theorem rz{t:TypeId}{x y:Operand}{i k j n p:Nat}{a a':α}{v:Value}(sz:(P.info? t).map (·.size)=some n)[he:bo enc c](hx:ev env x=some (.pointer (some ⟨s.b,p,none⟩)))(hy:ev env y=some v)[q:dV L s enc c xs i](fb:p=s.o+k*c+j)
  (ha:xs[k]? =some a) (hv:v.cells.all (·.oneCell')=true) (hn:v.cells.size=n) (hj:j+n<=c) (ow:over (enc a) j v.cells=enc a') {L':List ai} [hu:eM L i (own enc c s (xs.set k a')) L'] (hk:K undef (L')):
  gG P N w0 env L ⟨none, .store t x y,ty,ps,af,none⟩ K:=
 G6 fun aa w Aq hw=>by
  subst fb hn;obtain⟨w',h1,h2⟩:=KK (P:=P) hw q ha hv hj ow hu;refine⟨w',_,?_,h2,hk⟩;simp only[execOp,Aq.ev hx,Aq.ev hy,Instr.storeAt,Instr.sureAddr,storeVar,Sem.run_bind,Sem.run_pure,Result.andThen,ki w sz];simp[h1]
theorem Ut{P:Program}{N:bO}{w0:World}{env:Env}{L:List ai}{ty:TypeId}{ps:String}{af:Array Edge}{τ:Type}{t:TypeId}{x y:Operand}{i k p:Nat}{s:Sv}{xs:List (Sl τ)}{a:Sl τ}(a':Sl τ)
  (sz:(P.info? t).map (·.size)=some 1) (hx:ev env x=some (.pointer (some ⟨s.b,p,none⟩))) (hy:ev env y=some a'.sv.val) [q:dV L s (bQ (τ:=τ)) 1 xs i] (fb:p=s.o+k*1) (ha:xs[k]? =some a) {L':List ai} [hu:eM L i (own bQ 1 s (xs.set k a')) L'] (hk:K undef (L')):
  gG P N w0 env L ⟨none, .store t x y,ty,ps,af,none⟩ K:=
 rz (j:=0) (a':=a') sz hx hy (q:=q) fb ha (by rw[Sv.iz];simp[Sv.one]) (by rw[Sv.iz];rfl) (by decide) (by rw[Sv.iz];rfl) hk
theorem Uu{α:Type}{enc:α->Array Value}{x y:Operand}{tx fD e:TypeId}{i b o dl dc:Nat}{sv:Sv}{ys:List α}{cs:Array Value}{T:TypeId}(hx:ev env x=some (.slice (some ⟨b,o,none⟩) dl dc))(hy:ev env y=some sv.val)
  [ht:ez P tx e 1] [hh:Has L b cs T i] [q:Hd w0 L sv enc 1 ys] [he:bo enc 1] (h0:0<ys.length) (hl:ys.length<=dl) (ho:o+ys.length<=cs.size)
  {cs':Array Value} {L':List ai} (gv:over cs o (aI enc ys).toArray=cs') [hu:eM L i (an b cs' T) L'] (hk:K ((.int .i64 (ys.length:Nat))) (L')):
  gG P N w0 env L ⟨d, .call {callee:= .builtin .copy,args:= #[x,y],argTypes:= #[tx,fD]},ty,ps,af,none⟩ K:=fun a w ha hw=>by
 have r:=q.h w hw;have hn:=r.some (i:=0) h0;have hlen:=r.len;rw[Sv.gT hn,r.ok.sp (by have:=r.ok.le;omega)]at hy;have hs:(aI enc ys).toArray.size=ys.length:=by rw[an1,gE,aoy]
 have ji:=hk;rw[←hs]at ji;refine Ur (vs:=(aI enc ys).toArray) hx hy ?_ (fun w hw j hj=>?_) ?_ (by rw[hs];exact ho) gv ji a w ha hw
 ·
  rw[hs];simp only[Nat.min_def];split<;>omega
 ·
  rw[hs]at hj;have:=mI (enc:=enc) ys j ys[j] (by simp[hj]) 0 (by decide);have r2:=(q.h w hw).row j ys[j] (by simp[hj]) 0 (by decide);simp only[aoy,an3]at this r2;rw[Addr.fS,sN,r2,←this];simp
 ·
  rw[anS];intro v hv;exact uJ (enc:=enc) ys v (by simpa using hv)
end
section
variable {τ:Type} [dp:Deep τ] {enc:τ->Array Value} {c:Nat}
end
theorem L9{l:List Oper}{rest:List Oper}{o:Oper}(hg:o.guard=none)(hd:cL N o.dst=true)(h:gG P N w0 env L o (fun v L'=>Sq P N w0 l Q rest (bZ env o.dst v) L')):Sq P N w0 l Q (o::rest) env L:=fun a w ha hw=>by
 unfold wpList;rw[if_pos (oh hg)];refine .inl ?_;have h1:=h a w ha hw;unfold Oper.wp;generalize(execOp a.eval o).run P w=r at h1;unfold upon at h1;split at h1
 ·
  obtain⟨L',h2,h3⟩:=h1;exact h3 _ _ (ha.put hd _) h2
 ·
  obtain⟨L',h2,h3⟩:=h1;exact h3 _ _ (ha.put hd _) h2
 ·
  obtain⟨rfl,hc⟩:=h1;exact hc.mono fun e ob ⟨v,he,L',h2,h3⟩=>by subst he;exact h3 _ _ (ha.put hd _) h2
 exact h1.elim
end
section
variable {P:Program} {N:bO} {w0:World} {env:Env} {L Lq:List ai} {l:List Oper} {fs ord:List Nat} {mk:Nat->mP} {Q:Exit->Act->World->Prop} {k:Nat} {o:Oper}
def Ln(P:Program)(N:bO)(w0:World)(l:List Oper)(fs:List Nat)(mk:Nat->mP)(Q:Exit->Act->World->Prop)(ord:List Nat)(env:Env)(L Lq:List ai):Prop:= ∀a,cm N env a->qm P l fs mk Q w0 ord a L Lq
def Cert(P:Program)(N:bO)(env:Env)(l:List Oper)(fs:List Nat)(mk:Nat->mP)(ord:List Nat):Prop:=
 ∀i∈ord,fs.contains (i+2000)=true-> ∃oi,l[i]? =some oi/\oi.guard=none/\ ∀a,cm N env a->sV P oi a.eval (mk i)
theorem Cert.none(h:(ord.all fun i=> !fs.contains (i+2000))=true):Cert P N env l fs mk ord:=fun i hi hf=>by
 have:=anw.1 h i hi;rw[hf]at this;cases this
theorem Cert.one{i:Nat}{m:mP}(ho:l[i]? =some o)(hg:o.guard=Option.none)(hm:mk i=m)(h: ∀a,cm N env a->sV P o a.eval m)(hr:Cert P N env l fs mk (ord.filter fun j=> !(j==i))):Cert P N env l fs mk ord:=fun j hj hf=>by
 by_cases e:j=i
 ·
  subst e;exact⟨o,ho,hg,by rw[hm];exact h⟩
 exact hr j (anQ.2 ⟨hj,by simpa using e⟩) hf
theorem Cert.at(h:Cert P N env l fs mk ord){a:Act}(ha:cm N env a): ∀i∈ord,fs.contains (i+2000)=true-> ∃oi,l[i]? =some oi/\oi.guard=Option.none/\sV P oi a.eval (mk i):=fun i hi hf=>by
 obtain⟨oi,h1,h2,h3⟩:=h i hi hf;exact⟨oi,h1,h2,h3 a ha⟩
theorem Ma(h:Ex N w0 Q .normal env L):Ln P N w0 l fs mk Q [] env L Lq:=fun a ha w hw=>h a w ha hw
theorem Mc{v:Value}(ho:l[k]? =some o)(hf:fs.contains k=false)(hd:cL N o.dst=true)(h1: ∀a,cm N env a->Region.wanted o (yielded l.toArray a.tmps)=true->sF P o a (Mem w0 Lq) v)(h2: ∀a,cm N env a->Region.wanted o (yielded l.toArray a.tmps)=false->v=undef)
  (hk:Ln P N w0 l fs mk Q ord (bZ env o.dst v) L Lq) (jX:fs.contains (k+1000)=false:=by rfl):Ln P N w0 l fs mk Q (k::ord) env L Lq:=fun a ha=>
 ⟨o,ho,by
  rw[if_neg (by rw[hf];exact aoh)];exact⟨v,by rw[if_neg (by rw[jX];exact aoh)];exact h1 a ha,h2 a ha,hk _ (ha.put hd v)⟩⟩
theorem Uv{v:Value}(ho:l[k]? =some o)(h:Yl P N w0 env L o v)(hk:Ln P N w0 l fs mk Q ord (bZ env o.dst v) L Lq)(hg:o.guard=none:=by rfl)(hd:cL N o.dst=true:=by rfl)(hf:fs.contains k=false:=by rfl)(jX:fs.contains (k+1000)=true:=by rfl):Ln P N w0 l fs mk Q (k::ord) env L Lq:=fun a ha=>
 ⟨o,ho,by
  rw[if_neg (by rw[hf];exact aoh)];exact⟨v,fun _=>by rw[if_pos jX];exact h a ha,(fun hw=>by rw[oh hg]at hw;cases hw),hk _ (ha.put hd v)⟩⟩
theorem gw{v:Value}(ho:l[k]? =some o)(h:Ry P N w0 env L o v)(hk:Ln P N w0 l fs mk Q ord (bZ env o.dst v) L Lq)(hg:o.guard=none:=by rfl)(hd:cL N o.dst=true:=by rfl)(hf:fs.contains k=false:=by rfl)(jX:fs.contains (k+1000)=true:=by rfl):Ln P N w0 l fs mk Q (k::ord) env L Lq:=Uv ho h.yl hk hg hd hf jX
theorem uY{v:Value}(ho:l[k]? =some o)(h:Yl P N w0 env Lq o v)(hk:Ln P N w0 l fs mk Q ord (bZ env o.dst v) L Lq)(hg:o.guard=none:=by rfl)(hd:cL N o.dst=true:=by rfl)(hf:fs.contains k=false:=by rfl)(jX:fs.contains (k+1000)=false:=by rfl):Ln P N w0 l fs mk Q (k::ord) env L Lq:=
 Mc (jX:=jX) ho hf hd (fun a ha _=>h a ha) (fun a ha hw=>by rw[oh hg]at hw;cases hw) hk
theorem al{v:Value}(ho:l[k]? =some o)(h:Ry P N w0 env Lq o v)(hk:Ln P N w0 l fs mk Q ord (bZ env o.dst v) L Lq)(hg:o.guard=none:=by rfl)(hd:cL N o.dst=true:=by rfl)(hf:fs.contains k=false:=by rfl)(jX:fs.contains (k+1000)=false:=by rfl):Ln P N w0 l fs mk Q (k::ord) env L Lq:=uY ho h.yl hk hg hd hf jX
theorem Md{v:Value}{j t:Nat}{g:Bool}(ho:l[k]? =some o)(hg:o.guard=some (j,false))(hj:(l[j]?).bind (·.dst)=some t)(hv:look env t=some (.bool g))(h:(!g)=true->Yl P N w0 env Lq o v)
  (hk:Ln P N w0 l fs mk Q ord (bZ env o.dst (if(!g)=true then v else undef)) L Lq) (hd:cL N o.dst=true:=by rfl) (hf:fs.contains k=false:=by rfl) (jX:fs.contains (k+1000)=false:=by rfl):Ln P N w0 l fs mk Q (k::ord) env L Lq:=
 Mc (jX:=jX) ho hf hd (fun a ha hw=>by
  rw[q8 ha hg hj hv]at hw
  cases g
  ·
   exact h rfl a ha
  ·
   cases hw) (fun a ha hw=>by
  rw[q8 ha hg hj hv]at hw
  cases g
  ·
   cases hw
  ·
   rfl) hk
theorem Uw(ho:l[k]? =some o)(h:gG P N w0 env L o fun v L'=> ∃fF,(∀w,Mem w0 L' w->Mem w0 fF w)/\(∀w,Mem w0 fF w->Mem w0 Lq w)/\Ln P N w0 l fs mk Q ord (bZ env o.dst v) L' fF)(hg:o.guard=none:=by rfl)(hd:cL N o.dst=true:=by rfl)(hf:fs.contains k=true:=by rfl)(rA:fs.contains (k+2000)=false:=by rfl)(yD:fs.contains (k+4000)=false:=by rfl)(sZ:fs.contains (k+5000)=false:=by rfl)(hC:Cert P N env l fs mk ord:=by exact Cert.none rfl):Ln P N w0 l fs mk Q (k::ord) env L Lq:=fun a ha=>
 ⟨o,ho,by
  rw[if_pos hf,if_neg (by rw[rA];exact aoh)];exact⟨hC.at ha,oh hg,fun w hw=>AO (fun v w' ⟨L',h1,fF,h2,h3,h4⟩=>⟨L',fF,h1,h2,h3,(fun h=>by rw[sZ]at h;cases h),h4 _ (ha.put hd v)⟩) (h a w ha hw),fun h=>by rw[yD]at h;cases h⟩⟩
theorem Me(ho:l[k]? =some o)(h:gG P N w0 env L o fun v L'=>(∀w,Mem w0 L' w->Mem w0 Lq w)/\(∀w,Mem w0 L' w->Mem w0 L w)/\Ln P N w0 l fs mk Q ord (bZ env o.dst v) L' Lq)(hg:o.guard=none:=by rfl)(hd:cL N o.dst=true:=by rfl)(hf:fs.contains k=true:=by rfl)(rA:fs.contains (k+2000)=false:=by rfl)(yD:fs.contains (k+4000)=false:=by rfl)(hC:Cert P N env l fs mk ord:=by exact Cert.none rfl):Ln P N w0 l fs mk Q (k::ord) env L Lq:=fun a ha=>
 ⟨o,ho,by
  rw[if_pos hf,if_neg (by rw[rA];exact aoh)];exact⟨hC.at ha,oh hg,fun w hw=>AO (fun v w' ⟨L',h1,h2,h3,h4⟩=>⟨L',Lq,h1,h2,fun _ h=>h,(fun _=>h3),h4 _ (ha.put hd v)⟩) (h a w ha hw),fun h=>by rw[yD]at h;cases h⟩⟩
theorem Ux(K:Value->List ai->Prop)(ho:l[k]? =some o)(h:gG P N w0 env L o K)(hF: ∀e,gG P N w0 env (e::L) o fun v L'=> ∃L1,(∀w,Mem w0 L' w->Mem w0 (e::L1) w)/\K v L1)(hk: ∀v L',K v L'->(∀w,Mem w0 L' w->Mem w0 Lq w)/\Ln P N w0 l fs mk Q ord (bZ env o.dst v) L' Lq)(hC:Cert P N env l fs mk ord)(hg:o.guard=none:=by rfl)(hd:cL N o.dst=true:=by rfl)(hf:fs.contains k=true:=by rfl)(rA:fs.contains (k+2000)=false:=by rfl)(sZ:fs.contains (k+5000)=false:=by rfl):Ln P N w0 l fs mk Q (k::ord) env L Lq:=fun a ha=>
 ⟨o,ho,by
  rw[if_pos hf,if_neg (by rw[rA];exact aoh)];exact⟨hC.at ha,oh hg,fun w hw=>AO (fun v w' ⟨L',h1,h2⟩=>⟨L',Lq,h1,(hk v L' h2).1,fun _ h=>h,(fun h=>by rw[sZ]at h;cases h),(hk v L' h2).2 _ (ha.put hd v)⟩) (h a w ha hw),fun _ e w hw=>AO (fun v w' ⟨L',h1,L1,h2,h3⟩=>⟨L1,Lq,h2 _ h1,(hk v L1 h3).1,fun _ h=>h,(fun h=>by rw[sZ]at h;cases h),(hk v L1 h3).2 _ (ha.put hd v)⟩) (hF e a w ha hw)⟩⟩
theorem wP{X:Type}{val:X->Value}{L':X->List ai}{L2:ai->X->List ai}{pr:X->Prop}{pre:Prop}{f:FuncId}{xs:List Operand}{ts:Array TypeId}{vs:List Value}{d:Option Tmp}{ty:TypeId}{ps:String}{af:Array Edge}[hf:aD P f](ho:l[k]? =some ⟨d, .call {callee:= .value (.func f),args:=xs.toArray,argTypes:=ts},ty,ps,af,none⟩)(hx:ff env xs=some vs)
  [hc:bK P f w0 L vs X val L' pr pre] [G7: ∀e,bK P f w0 (e::L) vs X val (L2 e) pr pre] (hp:pre) (hP: ∀e x w,Mem w0 (L2 e x) w->Mem w0 (e::L' x) w) (hC:Cert P N env l fs mk ord) (hk: ∀x,pr x->(∀w,Mem w0 (L' x) w->Mem w0 Lq w)/\Ln P N w0 l fs mk Q ord (bZ env d (val x)) (L' x) Lq)
  (hd:cL N d=true:=by rfl) (uZ:fs.contains k=true:=by rfl) (rA:fs.contains (k+2000)=false:=by rfl) (sZ:fs.contains (k+5000)=false:=by rfl):Ln P N w0 l fs mk Q (k::ord) env L Lq:=
 Ux (fun v L1=> ∃x,v=val x/\L1=L' x/\pr x) ho (lX hx hp fun x iw=>⟨x,rfl,rfl,iw⟩) (fun e=>L4 (lX (K:=fun v L1=> ∃x,v=val x/\L1=L2 e x/\pr x) hx hp fun x iw=>⟨x,rfl,rfl,iw⟩) fun v L1 ⟨x,h1,h2,h3⟩=>⟨L1,fun _ h=>h,L' x,fun w hw=>hP e x w (by rw[←h2];exact hw),x,h1,rfl,h3⟩)
  (fun v L1 ⟨x,h1,h2,h3⟩=>by subst h1;subst h2;exact hk x h3) hC rfl hd uZ rA sZ
theorem qq{m:mP}(ho:l[k]? =some o)(hm:mk k=m)(h: ∀a,cm N env a->sV P o a.eval m)(hC:Cert P N env l fs mk ord)(hk: ∀x:m.X,Ln P N w0 l fs mk Q ord (bZ env o.dst (m.v x)) (m.e x::L) Lq)(hg:o.guard=none:=by rfl)(hd:cL N o.dst=true:=by rfl)(hf:fs.contains k=true:=by rfl)(jX:fs.contains (k+2000)=true:=by rfl):Ln P N w0 l fs mk Q (k::ord) env L Lq:=fun a ha=>by
 subst hm;refine⟨o,ho,?_⟩;rw[if_pos hf,if_pos jX];exact⟨hC.at ha,hg,h a ha,fun x=>hk x _ (ha.put hd _)⟩
theorem cO(ho:l[k]? =some o)(h:gG P N w0 env L o fun v L'=>(∀w,Mem w0 L' w->Mem w0 Lq w)/\Ln P N w0 l fs mk Q ord (bZ env o.dst v) L' Lq)(hg:o.guard=none:=by rfl)(hd:cL N o.dst=true:=by rfl)(hf:fs.contains k=true:=by rfl)(rA:fs.contains (k+2000)=false:=by rfl)(yD:fs.contains (k+4000)=false:=by rfl)(sZ:fs.contains (k+5000)=false:=by rfl)(hC:Cert P N env l fs mk ord:=by exact Cert.none rfl):Ln P N w0 l fs mk Q (k::ord) env L Lq:=
 Uw (rA:=rA) (yD:=yD) (sZ:=sZ) (hC:=hC) ho (L4 h fun v L' ⟨h1,h2⟩=>⟨L',fun _ h=>h,Lq,h1,fun _ h=>h,h2⟩) hg hd hf
def G8:List (Nat×mP)->Nat->mP
 |[],_=>⟨Unit,fun _=>undef,fun _=> .emp⟩
 |(i,m)::r,k=>match Nat.beq i k with
  |true=>m
  |false=>G8 r k
@[reducible] def lA (P:Program)(t:TypeId){z:Value}[_hz:dB P t z]:mP:=⟨Nat,fun b=> .pointer (some ⟨b,0,none⟩),fun b=>an b z.cells t⟩
theorem lB{t:TypeId}{z:Value}[hz:dB P t z]{d:Option Tmp}{ty:TypeId}{ps:String}{af:Array Edge}{gd:Option (Nat×Bool)}: ∀a,cm N env a->sV P ⟨d, .alloc t,ty,ps,af,gd⟩ a.eval (lA P t):=fun a _ w0 w L hw=>by
 refine⟨w.heap.size,w.alloc (.cells z.cells t),?_,hw.alloc z.cells t⟩;simp only[execOp,Instr.alloc,newVar,newRow,Sem.run_bind,Cz w hz,newObj,Sem.run,Result.andThen,Sem.run_pure];rfl
@[reducible] def u4 {α:Type}(enc:α->Array Value)(c n:Nat)(xs:List α):mP:=⟨Nat,fun b=>Sv.val ⟨false,b,0,n,n,none⟩,fun b=>own enc c ⟨false,b,0,n,n,none⟩ xs⟩
theorem Mf{α:Type}{enc:α->Array Value}{c:Nat}{t e:TypeId}{ct n:Nat}{d:Option Tmp}{ty:TypeId}{ps:String}{af:Array Edge}{gd:Option (Nat×Bool)}[ht:eF P t e c ct][he:bo enc c]{ops:List (Nat×Operand)}{vals:List Value}(xs:List α)(hx:km env ops=some (idx vals 0))(hv:vals.map Value.cells=xs.map enc)(hn:xs.length=n)(hc:0<n*c)(sP:n*c<=16777216):
  ∀a,cm N env a->sV P ⟨d, .buildSlice t n ops.toArray,ty,ps,af,gd⟩ a.eval (u4 enc c n xs):=fun a ha w0 w L hw=>by
 subst hn;have e1:(ops.toArray.map fun(p:Nat×Operand)=>match p with|(i,x)=>(i,a.eval x))=(idx vals 0).toArray:=by
  rw[←ha.km hx];simp
 refine⟨w.heap.size,_,?_,hw.call (wv (enc:=enc) (c:=c) (xs:=xs) (cs:=(aI enc xs).toArray) (e:=e) rfl xs.length xs.length rfl (anm _) (F9 hc sP) (by simp[gE]) fun i x hx j hj=>by rw[←mI (enc:=enc) xs i x hx j hj];simp)⟩;simp only[execOp,e1,Sem.run_bind,Ga ht hv hc sP w,Result.andThen,Sem.run_pure];rfl
theorem rB{id:Nat}[ir Q](fs:List Nat)(A:List (List Nat))(ord:List Nat)(Lq:List ai)(mk:List (Nat×mP))(AP:(fs.all fun j=>decide (j<2000)||decide (4000<=j)||fs.contains (j -2000))=true)(mC: ∀w,Mem w0 L w->Mem w0 Lq w)(hm:P.follows .mixedOrders=true)(hB:Db l fs A ord=true)(h:Ln P N w0 l fs (G8 mk) Q ord env L Lq)(aZ:l.length<=1000:=by decide)(ca:n8 l=true:=by kernel_rfl):Cw P N w0 Q (.region id l.toArray true) env L:=fun a _ ha hw=>by
 refine L3 A ord ca hm hB hw.Ci mC (fun k wK hk=>?_) (h a ha)
 cases h2:fs.contains (k+2000)with
 |false=>rfl
 |true=>
  have:=anw.1 AP (k+2000) (by simpa using h2);rw[aog,aog,decide_eq_true_eq,decide_eq_true_eq]at this;rcases this with(h|h)|h
  ·
   omega
  ·
   omega
  rw[Nat.add_sub_cancel,hk]at h;cases h
theorem gx{id:Nat}[ir Q](fs:List Nat)(A:List (List Nat))(ord:List Nat)(Lq:List ai)(mC: ∀w,Mem w0 L w->Mem w0 Lq w)(hm:P.follows .mixedOrders=true)(hB:Da l fs A ord=true)(h:Ln P N w0 l fs (G8 []) Q ord env L Lq)(ca:n8 l=true:=by kernel_rfl):Cw P N w0 Q (.region id l.toArray true) env L:=fun a _ ha hw=>
 Up A ord ca hm hB hw.Ci mC (h a ha)
end
theorem Ry.n{P:Program}{N:bO}{w0:World}{env:Env}{L:List ai}{d:Option Tmp}{ty:TypeId}{ps:String}{af:Array Edge}{gd:Option (Nat×Bool)}{s:TypeId}{x:Operand}{fi off b o o':Nat}[hf:cY P s fi off](hx:ev env x=some (.pointer (some ⟨b,o,none⟩)))(ho:Nat.add o off=o':=by(simp only[apH,Nat.reduceAdd];exact rfl)):
  Ry P N w0 env L ⟨d, .fieldAddr s x fi,ty,ps,af,gd⟩ (.pointer (some ⟨b,o',none⟩)):=aH hx ho
theorem tS{P:Program}{N:bO}{w0:World}{l:List Oper}{Q:Exit->Act->World->Prop}{rest:List Oper}{env:Env}{L:List ai}{d:Option Tmp}{ty:TypeId}{ps:String}{af:Array Edge}(op:Op)(gd:Option (Nat×Bool))(h:Sq P N w0 l Q (⟨d,op,ty,ps,af,gd⟩::rest) env L):Sq P N w0 l Q (⟨d,op,ty,ps,af,gd⟩::rest) env L:=h
theorem tQ{P:Program}{N:bO}{w0:World}{l:List Oper}{fs:List Nat}{F:Act->Prop}{k:Nat}{rest:List Oper}{env:Env}{L:List ai}{d:Option Tmp}{ty:TypeId}{ps:String}{af:Array Edge}(op:Op)(gd:Option (Nat×Bool))(h:Qt P N w0 l fs F k (⟨d,op,ty,ps,af,gd⟩::rest) env L):Qt P N w0 l fs F k (⟨d,op,ty,ps,af,gd⟩::rest) env L:=h
structure Wr(p:Prop):Prop where
 h:p
theorem Gs{G G':Prop}(k:G')(h:Wr G'->G:=by
 intro k
 first
 |(with_reducible refine tS (.move _) none ?_);exact ae (aK rfl) k.h
 |(with_reducible refine tS (.assign _) none ?_);exact ae (c0 rfl) k.h
 |(with_reducible refine tS (.fieldAddr _ _ _) none ?_);exact ae (Ry.n rfl) k.h
 |(with_reducible refine tS (.load _ _) none ?_);exact ae (bC rfl) k.h
 |(with_reducible refine tS (.load _ _) none ?_);exact ae (dw rfl) k.h
 |(with_reducible refine tS (.binOp .add _ _ _ _) none ?_);exact ae (pv rfl rfl (by omega)) k.h
 |(with_reducible refine tS (.binOp .sub _ _ _ _) none ?_);exact ae (uB rfl rfl (by omega)) k.h
 |(with_reducible refine tS (.pick _ _ _) none ?_);exact ae (wi rfl rfl rfl) k.h
 |(with_reducible refine tS (.pick _ _ _) none ?_);exact ae (sI rfl rfl rfl) k.h
 |(with_reducible refine tS (.unOp _ _ _) none ?_);exact ae (gS rfl) k.h
 |(with_reducible refine tS (.binOp _ _ _ _ _) none ?_);exact ae (cQ rfl rfl rfl) k.h
 |(with_reducible refine tS (.nilCheck _) none ?_);exact ae (iJ rfl) k.h
 |(with_reducible refine tS (.call _) none ?_);exact ae (oy rfl) k.h
 |(with_reducible refine tS (.store _ _ _) none ?_);exact q9 rfl rfl k.h
 |(with_reducible refine tS (.call _) none ?_);exact c6 (bF rfl trivial) k.h):G:=h ⟨k⟩
theorem Gq{G G':Prop}(k:G')(h:Wr G'->G:=by
 intro k
 first
 |(with_reducible refine tQ (.move _) none ?_);exact bn (aK rfl) k.h
 |(with_reducible refine tQ (.assign _) none ?_);exact bn (c0 rfl) k.h
 |(with_reducible refine tQ (.fieldAddr _ _ _) none ?_);exact bn (Ry.n rfl) k.h
 |(with_reducible refine tQ (.load _ _) none ?_);exact bn (bC rfl) k.h
 |(with_reducible refine tQ (.load _ _) none ?_);exact bn (dw rfl) k.h
 |(with_reducible refine tQ (.binOp .add _ _ _ _) none ?_);exact bn (pv rfl rfl (by omega)) k.h
 |(with_reducible refine tQ (.binOp .sub _ _ _ _) none ?_);exact bn (uB rfl rfl (by omega)) k.h
 |(with_reducible refine tQ (.pick _ _ _) none ?_);exact bn (wi rfl rfl rfl) k.h
 |(with_reducible refine tQ (.pick _ _ _) none ?_);exact bn (sI rfl rfl rfl) k.h
 |(with_reducible refine tQ (.unOp _ _ _) none ?_);exact bn (gS rfl) k.h
 |(with_reducible refine tQ (.binOp _ _ _ _ _) none ?_);exact bn (cQ rfl rfl rfl) k.h
 |(with_reducible refine tQ (.nilCheck _) none ?_);exact bn (iJ rfl) k.h
 |(with_reducible refine tQ (.call _) none ?_);exact bn (oy rfl) k.h):G:=h ⟨k⟩
theorem Gg{G G':Prop}(k:G')(h:Wr G'->G:=by
 intro k
 first
 |(with_reducible refine tS (.move _) (some (_,false)) ?_);exact bk rfl rfl rfl (fun hg=>Ry.yl (aK rfl)) k.h
 |(with_reducible refine tS (.fieldAddr _ _ _) (some (_,false)) ?_);exact bk rfl rfl rfl (fun hg=>Ry.yl (Ry.n rfl)) k.h
 |(with_reducible refine tS (.load _ _) (some (_,false)) ?_);exact bk rfl rfl rfl (fun hg=>Ry.yl (bC (aw hg rfl))) k.h
 |(with_reducible refine tS (.binOp _ _ _ _ _) (some (_,false)) ?_);exact bk rfl rfl rfl (fun hg=>Ry.yl (cQ (aw hg rfl) rfl rfl)) k.h
 |(with_reducible refine tS (.binOp _ _ _ _ _) (some (_,false)) ?_);exact bk rfl rfl rfl (fun hg=>Ry.yl (cQ (aw hg rfl) (aw hg rfl) rfl)) k.h
 |(with_reducible refine tS (.call _) (some (_,false)) ?_);exact bk rfl rfl rfl (fun hg=>Ry.yl (oy (aw hg rfl))) k.h
 |(with_reducible refine tS (.move _) (some (_,true)) ?_);exact fv rfl rfl rfl (fun hg=>Ry.yl (aK rfl)) k.h
 |(with_reducible refine tS (.fieldAddr _ _ _) (some (_,true)) ?_);exact fv rfl rfl rfl (fun hg=>Ry.yl (Ry.n rfl)) k.h
 |(with_reducible refine tS (.load _ _) (some (_,true)) ?_);exact fv rfl rfl rfl (fun hg=>Ry.yl (bC (aw hg rfl))) k.h
 |(with_reducible refine tS (.binOp _ _ _ _ _) (some (_,true)) ?_);exact fv rfl rfl rfl (fun hg=>Ry.yl (cQ (aw hg rfl) rfl rfl)) k.h
 |(with_reducible refine tS (.binOp _ _ _ _ _) (some (_,true)) ?_);exact fv rfl rfl rfl (fun hg=>Ry.yl (cQ (aw hg rfl) (aw hg rfl) rfl)) k.h
 |(with_reducible refine tS (.call _) (some (_,true)) ?_);exact fv rfl rfl rfl (fun hg=>Ry.yl (oy (aw hg rfl))) k.h):G:=h ⟨k⟩
theorem Gh{G G':Prop}(k:G')(h:Wr G'->G:=by
 intro k
 first
 |(with_reducible refine tQ (.move _) (some (_,false)) ?_);exact dm rfl rfl rfl (fun hg=>Ry.yl (aK rfl)) k.h
 |(with_reducible refine tQ (.fieldAddr _ _ _) (some (_,false)) ?_);exact dm rfl rfl rfl (fun hg=>Ry.yl (Ry.n rfl)) k.h
 |(with_reducible refine tQ (.load _ _) (some (_,false)) ?_);exact dm rfl rfl rfl (fun hg=>Ry.yl (bC (aw hg rfl))) k.h
 |(with_reducible refine tQ (.binOp _ _ _ _ _) (some (_,false)) ?_);exact dm rfl rfl rfl (fun hg=>Ry.yl (cQ (aw hg rfl) rfl rfl)) k.h
 |(with_reducible refine tQ (.binOp _ _ _ _ _) (some (_,false)) ?_);exact dm rfl rfl rfl (fun hg=>Ry.yl (cQ (aw hg rfl) (aw hg rfl) rfl)) k.h
 |(with_reducible refine tQ (.call _) (some (_,false)) ?_);exact dm rfl rfl rfl (fun hg=>Ry.yl (oy (aw hg rfl))) k.h
 |(with_reducible refine tQ (.move _) (some (_,true)) ?_);exact dM rfl rfl rfl (fun hg=>Ry.yl (aK rfl)) k.h
 |(with_reducible refine tQ (.fieldAddr _ _ _) (some (_,true)) ?_);exact dM rfl rfl rfl (fun hg=>Ry.yl (Ry.n rfl)) k.h
 |(with_reducible refine tQ (.load _ _) (some (_,true)) ?_);exact dM rfl rfl rfl (fun hg=>Ry.yl (bC (aw hg rfl))) k.h
 |(with_reducible refine tQ (.binOp _ _ _ _ _) (some (_,true)) ?_);exact dM rfl rfl rfl (fun hg=>Ry.yl (cQ (aw hg rfl) rfl rfl)) k.h
 |(with_reducible refine tQ (.binOp _ _ _ _ _) (some (_,true)) ?_);exact dM rfl rfl rfl (fun hg=>Ry.yl (cQ (aw hg rfl) (aw hg rfl) rfl)) k.h
 |(with_reducible refine tQ (.call _) (some (_,true)) ?_);exact dM rfl rfl rfl (fun hg=>Ry.yl (oy (aw hg rfl))) k.h):G:=h ⟨k⟩
theorem tR{P:Program}{N:bO}{w0:World}{Q:Exit->Act->World->Prop}{env:Env}{L:List ai}{id:Nat}{l:Array Oper}(h:Cw P N w0 Q (.region id l false) env L):Cw P N w0 Q (.region id l false) env L:=h
theorem Gc{G G':Prop}(k:G')(h:Wr G'->G:=by
 intro k
 repeat (first
  |(with_reducible refine cH ?_)
  |(with_reducible refine cn ?_)
  |(with_reducible refine cR ?_)
  |(with_reducible refine nG ?_)
  |(with_reducible refine om ?_)
  |(with_reducible refine uH ?_)
  |(with_reducible refine ra ?_)
  |(with_reducible refine px ?_)
  |(with_reducible refine yh ?_)
  |(with_reducible refine yg ?_)
  |(with_reducible refine qg ?_)
  |(with_reducible refine ye ?_)
  |(with_reducible refine Ma ?_)
  |(with_reducible refine KD ?_)
  |(with_reducible refine tR ?_);refine cS ?_)
 exact k.h):G:=h ⟨k⟩
theorem Gi{G G':Prop}(k:G')(h:Wr G'->G:=by
 intro k
 first
  |(with_reducible refine cH ?_)
  |(with_reducible refine cn ?_)
  |(with_reducible refine cR ?_)
  |(with_reducible refine nG ?_)
  |(with_reducible refine om ?_)
  |(with_reducible refine uH ?_)
  |(with_reducible refine ra ?_)
  |(with_reducible refine px ?_)
  |(with_reducible refine yh ?_)
  |(with_reducible refine yg ?_)
  |(with_reducible refine qg ?_)
  |(with_reducible refine ye ?_)
  |(with_reducible refine Ma ?_)
  |(with_reducible refine KD ?_)
  |(with_reducible refine tR ?_);refine cS ?_
 exact k.h):G:=h ⟨k⟩
theorem bz{p q:Prop}(h:p)(e:p=q:=by(try simp only[Z0,Z1,Z2,Z3,Z4,Z5,Z6,Z7,Z8,Z9]);exact rfl):q:=e▸h
theorem Uy{P:Program}{N:bO}{w0:World}{l:List Oper}{Q:Exit->Act->World->Prop}{rest:List Oper}{env:Env}{L:List ai}{d:Option Tmp}{ty:TypeId}{ps:String}{af:Array Edge}{op:Op}(h:Sq P N w0 l Q (⟨d,op,ty,ps,af,none⟩::rest) env L):Sq P N w0 l Q (⟨d,op,ty,ps,af,none⟩::rest) env L:=h
theorem Uz{P:Program}{N:bO}{w0:World}{l:List Oper}{Q:Exit->Act->World->Prop}{rest:List Oper}{env:Env}{L:List ai}{d:Option Tmp}{ty:TypeId}{ps:String}{af:Array Edge}{op:Op}{g:Nat×Bool}(h:Sq P N w0 l Q (⟨d,op,ty,ps,af,some g⟩::rest) env L):Sq P N w0 l Q (⟨d,op,ty,ps,af,some g⟩::rest) env L:=h
theorem UA{P:Program}{N:bO}{w0:World}{l:List Oper}{fs:List Nat}{F:Act->Prop}{k:Nat}{rest:List Oper}{env:Env}{L:List ai}{d:Option Tmp}{ty:TypeId}{ps:String}{af:Array Edge}{op:Op}(h:Qt P N w0 l fs F k (⟨d,op,ty,ps,af,none⟩::rest) env L):Qt P N w0 l fs F k (⟨d,op,ty,ps,af,none⟩::rest) env L:=h
theorem UB{P:Program}{N:bO}{w0:World}{l:List Oper}{fs:List Nat}{F:Act->Prop}{k:Nat}{rest:List Oper}{env:Env}{L:List ai}{d:Option Tmp}{ty:TypeId}{ps:String}{af:Array Edge}{op:Op}{g:Nat×Bool}(h:Qt P N w0 l fs F k (⟨d,op,ty,ps,af,some g⟩::rest) env L):Qt P N w0 l fs F k (⟨d,op,ty,ps,af,some g⟩::rest) env L:=h
theorem Gz{G G':Prop}(k:G')(h:Wr G'->G:=by
 intro k
 first
 |(with_reducible refine Uy ?_);refine Gs ?_;exact k.h
 |(with_reducible refine Uz ?_);refine Gg ?_;exact k.h
 |(with_reducible refine UA ?_);refine Gq ?_;exact k.h
 |(with_reducible refine UB ?_);refine Gh ?_;exact k.h
 |refine Gc ?_;exact k.h):G:=h ⟨k⟩
theorem ar{G G':Prop}(k:G')(h:Wr G'->G:=by intro k;(iterate 2 (refine Gz ?_));exact k.h):G:=h ⟨k⟩
theorem ak{G G':Prop}(k:G')(h:Wr G'->G:=by intro k;(iterate 3 (refine Gz ?_));exact k.h):G:=h ⟨k⟩
theorem aq{G G':Prop}(k:G')(h:Wr G'->G:=by intro k;(iterate 4 (refine Gz ?_));exact k.h):G:=h ⟨k⟩
theorem aM{G G':Prop}(k:G')(h:Wr G'->G:=by intro k;(iterate 5 (refine Gz ?_));exact k.h):G:=h ⟨k⟩
theorem aX{G G':Prop}(k:G')(h:Wr G'->G:=by intro k;(iterate 6 (refine Gz ?_));exact k.h):G:=h ⟨k⟩
theorem cx{G G':Prop}(k:G')(h:Wr G'->G:=by intro k;(iterate 7 (refine Gz ?_));exact k.h):G:=h ⟨k⟩
theorem eO{G G':Prop}(k:G')(h:Wr G'->G:=by intro k;(iterate 8 (refine Gz ?_));exact k.h):G:=h ⟨k⟩
theorem gV{G G':Prop}(k:G')(h:Wr G'->G:=by intro k;(iterate 9 (refine Gz ?_));exact k.h):G:=h ⟨k⟩
theorem pD{G G':Prop}(k:G')(h:Wr G'->G:=by intro k;(iterate 10 (refine Gz ?_));exact k.h):G:=h ⟨k⟩
theorem lY{G G':Prop}(k:G')(h:Wr G'->G:=by intro k;(iterate 11 (refine Gz ?_));exact k.h):G:=h ⟨k⟩
theorem AQ{G G':Prop}(k:G')(h:Wr G'->G:=by intro k;(iterate 12 (refine Gz ?_));exact k.h):G:=h ⟨k⟩
theorem G9{G G':Prop}(k:G')(h:Wr G'->G:=by intro k;(iterate 13 (refine Gz ?_));exact k.h):G:=h ⟨k⟩
theorem Mg{G G':Prop}(k:G')(h:Wr G'->G:=by intro k;(iterate 14 (refine Gz ?_));exact k.h):G:=h ⟨k⟩
theorem UC{G G':Prop}(k:G')(h:Wr G'->G:=by intro k;(iterate 15 (refine Gz ?_));exact k.h):G:=h ⟨k⟩
theorem Ha{G G':Prop}(k:G')(h:Wr G'->G:=by intro k;(iterate 16 (refine Gz ?_));exact k.h):G:=h ⟨k⟩
theorem Mh{G G':Prop}(k:G')(h:Wr G'->G:=by intro k;(iterate 17 (refine Gz ?_));exact k.h):G:=h ⟨k⟩
theorem Mi{G G':Prop}(k:G')(h:Wr G'->G:=by intro k;(iterate 18 (refine Gz ?_));exact k.h):G:=h ⟨k⟩
theorem UD{G G':Prop}(k:G')(h:Wr G'->G:=by intro k;(iterate 19 (refine Gz ?_));exact k.h):G:=h ⟨k⟩
theorem UE{G G':Prop}(k:G')(h:Wr G'->G:=by intro k;(iterate 20 (refine Gz ?_));exact k.h):G:=h ⟨k⟩
theorem UF{G G':Prop}(k:G')(h:Wr G'->G:=by intro k;(iterate 21 (refine Gz ?_));exact k.h):G:=h ⟨k⟩
theorem UG{G G':Prop}(k:G')(h:Wr G'->G:=by intro k;(iterate 22 (refine Gz ?_));exact k.h):G:=h ⟨k⟩
theorem UH{G G':Prop}(k:G')(h:Wr G'->G:=by intro k;(iterate 24 (refine Gz ?_));exact k.h):G:=h ⟨k⟩
theorem UI{G G':Prop}(k:G')(h:Wr G'->G:=by intro k;(iterate 27 (refine Gz ?_));exact k.h):G:=h ⟨k⟩
theorem UJ{G G':Prop}(k:G')(h:Wr G'->G:=by intro k;(iterate 28 (refine Gz ?_));exact k.h):G:=h ⟨k⟩
theorem Mj{G G':Prop}(k:G')(h:Wr G'->G:=by intro k;(iterate 29 (refine Gz ?_));exact k.h):G:=h ⟨k⟩
theorem UK{G G':Prop}(k:G')(h:Wr G'->G:=by intro k;(iterate 31 (refine Gz ?_));exact k.h):G:=h ⟨k⟩
theorem jB{G G':Prop}(k:G')(h:Wr G'->G:=by intro k;(iterate 2 (refine Gi ?_));exact k.h):G:=h ⟨k⟩
theorem jC{G G':Prop}(k:G')(h:Wr G'->G:=by intro k;(iterate 3 (refine Gi ?_));exact k.h):G:=h ⟨k⟩
theorem Dk{G G':Prop}(k:G')(h:Wr G'->G:=by intro k;(iterate 4 (refine Gi ?_));exact k.h):G:=h ⟨k⟩
theorem UL{G G':Prop}(k:G')(h:Wr G'->G:=by intro k;(iterate 5 (refine Gi ?_));exact k.h):G:=h ⟨k⟩
theorem lZ{G G':Prop}(k:G')(h:Wr G'->G:=by intro k;(iterate 6 (refine Gi ?_));exact k.h):G:=h ⟨k⟩
theorem UM{G G':Prop}(k:G')(h:Wr G'->G:=by intro k;(iterate 7 (refine Gi ?_));exact k.h):G:=h ⟨k⟩
theorem Gb{G p q A B:Prop}(a:p->A)(b:q->B)(h:Wr (p->A)->Wr (q->B)->G:=by
 intro a b;refine dJ rfl (fun h=>?_) (fun h=>?_)
 ·
  exact a.h (bz h)
 exact b.h (bz h)):G:=h ⟨a⟩ ⟨b⟩
theorem Gr{P:Program}{fn:Func}{w0:World}{L:List ai}{env:Env}{R:Ending->World->Prop}{n:Nat}{e:Exit}{v:Value}(h: ∀w,Mem w0 L w->R (.returned v) w)(he:e= .ret\/e= .normal:=by exact .inl rfl)(hr: ∀a w,cm ⟨n,[],none⟩ env a->Mem w0 L w->(results fn a.tmps).run P w= .ok v w:=by
 first
 |exact sQ rfl (ox rfl)
 |exact Gl rfl (by first|exact ox rfl|exact uM rfl) (by first|exact ox rfl|exact uM rfl)
 |exact SU rfl (by first|exact ox rfl|exact uM rfl) (by first|exact ox rfl|exact uM rfl) (by first|exact ox rfl|exact uM rfl)
 |exact sQ rfl (uM rfl)):Ex ⟨n,[],none⟩ w0 (n9 P fn R) e env L:=dn he hr h
theorem Ge{a b:Bool}{w0 w1:World}{L M:List ai}[hk:ag L M](h:a=b)(hw:Mem w0 L w1):Ending.returned (.bool a)= .returned (.bool b)/\Mem w0 M w1:=⟨by rw[h],ag.mem hw⟩
theorem Gf{a b:Int}{k:IntKind}{w0 w1:World}{L M:List ai}[hk:ag L M](h:a=b)(hw:Mem w0 L w1):Ending.returned (.int k a)= .returned (.int k b)/\Mem w0 M w1:=⟨by rw[h],ag.mem hw⟩
theorem Gk{P:Program}{f:FuncId}{a:Array Value}{w0 w:World}{L:List ai}{X:Type}{val:X->Value}{pr:X->Prop}(E:X->List ai)(hw:Mem w0 L w)(h:Calls P f a w fun e w'=> ∃x,e= .returned (val x)/\pr x/\Mem w (E x) w'):Calls P f a w fun e w'=> ∃x,e= .returned (val x)/\pr x/\Mem w0 (E x++L) w':=h.mono fun e w' ⟨x,h1,h2,h3⟩=>⟨x,h1,h2,hw.call h3⟩
theorem sb{e e':Env}(h:Sub e e':=by repeat (first|exact Sub.nil _|refine Sub.cons rfl ?_)):Sub e e':=h
theorem oM{p:Prop}(h:p:=by omega):p:=h
theorem oF{p:Prop}(h:p:=by first|omega|(simp only[];omega)):p:=h
theorem oK{p:Prop}(h:p:=by kernel_rfl):p:=h
theorem UN{P:Program}{fn:Func}{R:Ending->World->Prop}{N:Nat}{f:FuncId}{c:Code}{w:World}(hf:P.funcs[f]? =some fn)(hb:fn.body=some c)(hN:fn.ntmps=N)(hle:Nat.ble 0 N=true)(h:Cw P ⟨N,[],none⟩ w (n9 P fn R) c [] []):Calls P f #[] w R:=ou (args:=[]) hf hb hN hle h
theorem cd{P:Program}{fn:Func}{R:Ending->World->Prop}{N:Nat}{f:FuncId}{c:Code}{w:World}{v0:Value}(hf:P.funcs[f]? =some fn)(hb:fn.body=some c)(hN:fn.ntmps=N)(hle:Nat.ble 1 N=true)(h:Cw P ⟨N,[],none⟩ w (n9 P fn R) c [(0,v0)] []):Calls P f #[v0] w R:=ou (args:=[v0]) hf hb hN hle h
theorem cq{P:Program}{fn:Func}{R:Ending->World->Prop}{N:Nat}{f:FuncId}{c:Code}{w:World}{v0 v1:Value}(hf:P.funcs[f]? =some fn)(hb:fn.body=some c)(hN:fn.ntmps=N)(hle:Nat.ble 2 N=true)(h:Cw P ⟨N,[],none⟩ w (n9 P fn R) c [(0,v0),(1,v1)] []):Calls P f #[v0,v1] w R:=ou (args:=[v0,v1]) hf hb hN hle h
theorem rC{P:Program}{fn:Func}{R:Ending->World->Prop}{N:Nat}{f:FuncId}{c:Code}{w:World}{v0 v1 v2:Value}(hf:P.funcs[f]? =some fn)(hb:fn.body=some c)(hN:fn.ntmps=N)(hle:Nat.ble 3 N=true)(h:Cw P ⟨N,[],none⟩ w (n9 P fn R) c [(0,v0),(1,v1),(2,v2)] []):Calls P f #[v0,v1,v2] w R:=ou (args:=[v0,v1,v2]) hf hb hN hle h
theorem Mk{P:Program}{fn:Func}{R:Ending->World->Prop}{N:Nat}{f:FuncId}{c:Code}{w:World}{v0 v1 v2 v3:Value}(hf:P.funcs[f]? =some fn)(hb:fn.body=some c)(hN:fn.ntmps=N)(hle:Nat.ble 4 N=true)(h:Cw P ⟨N,[],none⟩ w (n9 P fn R) c [(0,v0),(1,v1),(2,v2),(3,v3)] []):Calls P f #[v0,v1,v2,v3] w R:=ou (args:=[v0,v1,v2,v3]) hf hb hN hle h
theorem UO{P:Program}{fn:Func}{R:Ending->World->Prop}{N:Nat}{f:FuncId}{c:Code}{w:World}{v0 v1 v2 v3 v4:Value}(hf:P.funcs[f]? =some fn)(hb:fn.body=some c)(hN:fn.ntmps=N)(hle:Nat.ble 5 N=true)(h:Cw P ⟨N,[],none⟩ w (n9 P fn R) c [(0,v0),(1,v1),(2,v2),(3,v3),(4,v4)] []):Calls P f #[v0,v1,v2,v3,v4] w R:=ou (args:=[v0,v1,v2,v3,v4]) hf hb hN hle h
theorem yE{A X V:List Value}{o:Nat}(h:o=A.length):over (A++X).toArray o V.toArray=(A++(V++X.drop V.length)).toArray:=by
 subst h;unfold over;simp only[an1,anv];rw[List.take_left,List.drop_append];simp
section
variable {α:Type} {enc:α->Array Value} {c:Nat} {s:Sv} {xs:List α}
theorem wQ(xs ys:List α):aI enc (xs++ys)=aI enc xs++aI enc ys:=by simp[aI]
theorem UP[he:bo enc c](hc:0<c){cs:Array Value}{o:Nat}(eL:o+xs.length*c<=cs.size)(hr: ∀i x,xs[i]? =some x-> ∀j,j<c->cs[o+i*c+j]? =(enc x)[j]?):
  cs=(cs.toList.take o++(aI enc xs++cs.toList.drop (o+xs.length*c))).toArray:=by
 have key:(cs.toList.drop o).take (xs.length*c)=aI enc xs:=by
  refine aok fun k=>?_;rcases anl k (xs.length*c)with hk|hk
  ·
   rw[List.getElem?_take_of_lt hk,aom,Array.getElem?_toList];have hd:k/c<xs.length:=apJ (by rwa [an0]);have hm:=aoP k hc;have e:k/c*c+k%c=k:=by rw[an0];exact aoW k c
   have h1:=hr (k/c) xs[k/c] (by simp[hd]) (k%c) hm;have h2:=mI (enc:=enc) xs (k/c) xs[k/c] (by simp[hd]) (k%c) hm;rw[e]at h2;rw[h2,←h1];congr 1;omega
  ·
   rw[ans (by simp;omega),ans (by rw[gE];omega)]
 apply apI;simp only;rw[←key,←anv,show o+xs.length*c=o+xs.length*c from rfl,←ap0,anv,anO,anO]
theorem Hb{a b:Nat}(h:a<=b):a=Nat.min a b:=(apB h).symm
theorem UQ{a b:Nat}(h:b<=a):b=Nat.min a b:=(Nat.min_eq_right h).symm
theorem UR[he:bo enc c](hc:1<c){w0 w:World}{L:List ai}{i:Nat}(hw:Mem w0 L w)(hi:L[i]? =some (own enc c s xs))(hn:s.nil=false):
  ∃pre mid T,pre.length=s.o/\s.o+s.cap*c<=pre.length+(xs.length*c+mid.length)/\s.sp=none/\s.Ok/\s.len=xs.length/\Mem w0 (L.set i (an s.b (pre++(aI enc xs++mid)).toArray T)) w:=by
 obtain⟨r,mJ⟩:=hw.get hi;obtain⟨fU,cs,T,fz,fm,eL,ln,nH⟩:=mJ hn;obtain rfl:=nH hc;have hle:=r.ok.le;have hlen:=r.len;have hm:xs.length*c<=s.cap*c:=anp _ (by omega);have e:=UP (enc:=enc) (c:=c) (xs:=xs) (cs:=cs) (o:=s.o) (by omega) (by omega) fun i x hx j hj=>by
  rw[←r.row i x hx j hj];unfold mF;rw[fm]
 refine⟨cs.toList.take s.o,cs.toList.drop (s.o+xs.length*c),T,by simp;omega,by simp;omega,fU,r.ok,hlen,?_⟩;rw[←e];exact hw.change hi (fun k (hk:k=s.b)=>⟨hn,hk⟩) (fun _ _=>rfl) rfl ⟨rfl,rfl,rfl⟩ fm
theorem Hc[he:bo enc c]{w0 w:World}{L:List ai}{i b:Nat}{pre mid:List Value}{T:TypeId}(hw:Mem w0 L w)(hi:L[i]? =some (an b (pre++(aI enc xs++mid)).toArray T))(s':Sv)(bu:s'.Ok)(hn:s'.nil=false)(hb:s'.b=b)(fU:s'.sp=none)(ho:s'.o=pre.length)(hl:s'.len=xs.length)
  (yj:s'.o+s'.cap*c<=pre.length+(xs.length*c+mid.length)):Mem w0 (L.set i (own enc c s' xs)) w:=by
 subst hb;have fm:hp w s'.b=some (.cells (pre++(aI enc xs++mid)).toArray T (0,0)):=hw.block hi;refine hw.change hi (fun k hk=>hk.2) (fun _ _=>rfl) rfl ⟨rfl,rfl,rfl⟩ ⟨uK bu hl fm fun k y hy j hj=>?_,fun _=>⟨fU,_,_,_,fm,by simp[gE];omega,F3 _,fun _=>rfl⟩⟩;have aZ:k*c+j<(aI enc xs).length:=by
  rw[gE];have h1:=(ad2.1 hy).1
  calc k*c+j<k*c+c:=by omega
   _=(k+1)*c:=by rw[anF];omega
   _<=_:=anp _ h1
 rw[aol,anr (by omega),ann (by omega),←mI (enc:=enc) xs k y hy j hj];congr 1;omega
theorem Sv.u5{lo hi:Nat}(h:lo<s.cap):(s.sub c lo hi).o=s.o+lo*c:=by simp only[Sv.sub];rw[if_neg (by omega)]
theorem Sv.AR{hi:Nat}:(s.sub c 0 hi).o=s.o:=by simp only[Sv.sub];split<;>simp
theorem Sv.sub_eq{hi:Nat}(hn:s.nil=false)(fU:s.sp= .none):s.sub c 0 hi=⟨false,s.b,s.o,hi,s.cap, .none⟩:=by
 have h0:=Sv.AR (s:=s) (c:=c) (hi:=hi);obtain⟨sn,sb,so,sl,sc,ss⟩:=s;simp only[Sv.sub]at h0 hn fU⊢;subst hn fU;rw[h0];rfl
end
section
variable {P:Program} {N:bO} {w0:World} {env:Env} {L:List ai} {Q:Exit->Act->World->Prop} {l rest:List Oper} {d:Option Tmp} {ty:TypeId} {ps:String} {af:Array Edge} {gd:Option (Nat×Bool)} {K:Value->List ai->Prop}
variable {α:Type} {enc:α->Array Value} {c:Nat} {s:Sv} {xs:List α}
theorem US{w:World}{pre A mid:List Value}{T:TypeId}{b o:Nat}{L':List ai}(hw:Mem w0 (an b (pre++(A++mid)).toArray T::L') w)(ho:pre.length=o){j:Nat}{u:Value}(hj:A[j]? =some u):w.cell? ⟨b,o+j,none⟩=some u:=by
 have gO:=(ad2.1 hj).1;have h0:(an b (pre++(A++mid)).toArray T::L')[0]? =some (an b (pre++(A++mid)).toArray T):=rfl;rw[hw.cell h0,aol,anr (by omega),ann (by omega),←hj];congr 1;omega
theorem Ml{code:Code}[he:bo enc c]{i:Nat}(q:dV L s enc c xs i)(hc:1<c)(hn:0<xs.length){L':List Value->List Value->TypeId->List ai}[hu: ∀pre mid T,eM L i (an s.b (pre++(aI enc xs++mid)).toArray T) (L' pre mid T)]
  (h: ∀pre mid T,pre.length=s.o->s.o+s.cap*c<=pre.length+(xs.length*c+mid.length)->s.nil=false->s.sp=none->s.Ok->s.len=xs.length->Cw P N w0 Q code env (L' pre mid T)):Cw P N w0 Q code env L:=fun a w ha hw=>by
 have mR:=(hw.get q.h).1.some hn;obtain⟨pre,mid,T,h1,h2,h3,h4,h5,h6⟩:=UR hc hw q.h mR;rw[(hu pre mid T).h]at h6;exact h pre mid T h1 h2 mR h3 h4 h5 a w ha h6
theorem Dl{code:Code}{i:Nat}(q:dV L s enc c xs i)(hn:0<xs.length)(h:s.nil=false->s.sp=none->s.Ok->s.len=xs.length->Cw P N w0 Q code env L):Cw P N w0 Q code env L:=fun a w ha hw=>by
 obtain⟨r,mJ⟩:=hw.get q.h;have mR:=r.some hn;exact h mR (mJ mR).1 r.ok r.len a w ha hw
theorem Mm[he:bo enc c](hc:0<c){i:Nat}(q:dV L s enc c xs i){w:World}(hw:Mem w0 L w){j:Nat}{v:Value}(hj:(aI enc xs)[j]? =some v):w.cell? ⟨s.b,s.o+j,none⟩=some v:=by
 obtain⟨x,hx,hv⟩:=CJ hc hj;have r:=(hw.get q.h).1;rw[sN,←hv,←r.row _ x hx (j%c) (aoP _ hc)];congr 1;have:=aoW j c;rw[an0]at this;omega
theorem UT(w:World)(dT sT ty elem:TypeId)(b o Mn UU:Nat)(a:Addr)(Mo UW n:Nat)(cur:Array Value)(t:TypeId)(vs:List Value)
  (hu:P.underlying dT=some (.slice elem)) (hs:(P.info? elem).map (·.size)=some c) (hg:w.heap[b]? =some (.cells cur t (0,0))) (hn:n=Nat.min Mo Mn) (hv:vs.length=n*c)
  (qf: ∀j v,vs[j]? =some v->w.cell? (a.add j)=some v) (iu:o+vs.length<=cur.size) (h1: ∀v∈vs,v.oneCell'=true):
  (Builtin.copy_ #[dT,sT] ty #[.slice (some ⟨b,o,none⟩) Mn UU, .slice (some a) Mo UW]).run P w= .ok (goInt n) (w.setRow b (over cur o vs.toArray)):=by
 have hl:=run_loadCells_list (P:=P) w a vs qf;have bw:=run_storeCells_at P b o t vs 0 cur w hg (by simpa using iu) h1;rw[hv]at hl
 cases hq:P.info? elem with
 |none=>simp[hq]at hs
 |some i=>
  have hi:i.size=c:=by simpa[hq]using hs
  simp[Builtin.copy_,run_underlying hu,Builtin.lenOf,Builtin.firstCells,sizeOf,typeInfo,hq,hi,←hn,hl,bw,over]
theorem Dm{D S:Sv}{x y:Operand}{tx fD e:TypeId}{i b o n:Nat}{cs:Array Value}{T:TypeId}{vs:List Value}(hx:ev env x=some D.val)(hy:ev env y=some S.val)
  (mS:D.nil=false) (mT:D.sp=none) (oC:D.b=b) (qt:D.o=o) (AS:S.nil=false) (AT:S.sp=none) [ht:ez P tx e c] [hh:Has L b cs T i] (hn:n=Nat.min S.len D.len) (hv:vs.length=n*c)
  (qf: ∀w,Mem w0 L w-> ∀j v,vs[j]? =some v->w.cell? ⟨S.b,S.o+j,none⟩=some v) (h1: ∀v∈vs,v.oneCell'=true) (ho:o+vs.length<=cs.size) {cs':Array Value} {L':List ai} (gv:over cs o vs.toArray=cs') [hu:eM L i (an b cs' T) L']
  (hk:Sq P N w0 l Q rest (bZ env d (.int .i64 n)) L') (hd:cL N d=true:=by rfl):
  Sq P N w0 l Q (⟨d, .call {callee:= .builtin .copy,args:= #[x,y],argTypes:= #[tx,fD]},ty,ps,af,none⟩::rest) env L:=
 mE rfl hd fun aa w ha hw=>by
  rw[Sv.gT mS,mT,oC,qt]at hx;rw[Sv.gT AS,AT]at hy;have hb:=hw.block hh.h;have fC:=UT (P:=P) w tx fD ty e b o D.len D.cap ⟨S.b,S.o,none⟩ S.len S.cap n cs T vs ht.dU ht.size hb hn hv (fun j v hj=>by rw[Addr.fS];exact qf w hw j v hj) ho h1;refine⟨_,_,_,?_,by rw[←hu.h,←gv];exact hw.setRow hh.h _,hk⟩;simp[execOp,ha.ev hx,ha.ev hy,resolve,invoke,builtin,fC,Result.andThen,goInt]
theorem UX{D S:Sv}{x y:Operand}{tx fD e e':TypeId}{ct i b o n:Nat}{cs:Array Value}{T:TypeId}{vs:List Value}(hx:ev env x=some D.val)(hy:ev env y=some S.val)
  (mS:D.nil=false) (mT:D.sp=none) (oC:D.b=b) (qt:D.o+D.len*c=o) (AS:S.nil=false) (AT:S.sp=none) [ht:eF P tx e c ct] (He:P.underlying fD=some (.slice e')) [hh:Has L b cs T i] (hn:S.len=n) (hv:vs.length=n*c) (mK:D.len+n<=D.cap)
  (qf: ∀w,Mem w0 L w-> ∀j v,vs[j]? =some v->w.cell? ⟨S.b,S.o+j,none⟩=some v) (h1: ∀v∈vs,v.oneCell'=true) (ho:o+vs.length<=cs.size) {cs':Array Value} {L':List ai} (gv:over cs o vs.toArray=cs') [hu:eM L i (an b cs' T) L']
  {R:Sv} (hR:R=⟨false,b,D.o,D.len+n,D.cap,none⟩) (hk:Sq P N w0 l Q rest (bZ env d R.val) L') (hd:cL N d=true:=by rfl):
  Sq P N w0 l Q (⟨d, .call {callee:= .builtin .append,args:= #[x,y],argTypes:= #[tx,fD]},ty,ps,af,none⟩::rest) env L:=
 mE rfl hd fun aa w ha hw=>by
  subst hR qt oC;rw[Sv.gT mS,mT]at hx;rw[Sv.gT AS,AT,hn]at hy;have hb:=hw.block hh.h;obtain⟨i',z,aW,aB,bm,cJ,lT⟩:=ht.info;have hs:=Src.ofSlice (P:=P) (size:=c) w He ⟨S.b,S.o,none⟩ n S.cap vs hv (fun j v hj=>by rw[Addr.fS];exact qf w hw j v hj) h1;have bw:=run_storeCells_at P D.b (D.o+D.len*c) T vs 0 cs w hb (by simpa using ho) h1;have fC:(Builtin.append_ #[tx,fD] ty #[.slice (some ⟨D.b,D.o,none⟩) D.len D.cap, .slice (some ⟨S.b,S.o,none⟩) n S.cap]).run P w= .ok (.slice (some ⟨D.b,D.o,none⟩) (D.len+n) D.cap) (w.setRow D.b (over cs (D.o+D.len*c) vs.toArray)):=by
   subst bm;rcases hs.kind with⟨e',hk⟩|hk<;>simp[Builtin.append_,run_underlying ht.dU,run_underlying hk,sizeOf,typeInfo,aW,hs.len,mK,hs.cells,Addr.fS,bw,over]
  refine⟨_,_,_,?_,by rw[←hu.h,←gv];exact hw.setRow hh.h _,hk⟩;simp[execOp,ha.ev hx,ha.ev hy,resolve,invoke,builtin,fC,Result.andThen,Sv.val]
theorem UY{D:Sv}{x y:Operand}{tx fD e:TypeId}{ct k:Nat}{z:Value}{olds:List Value}{kn kq:IntKind}{iy:Int}{p m:Nat}(hp:D.len=p)(hm:p+k=m)(hx:ev env x=some D.val)(hy:ev env y=some (.int kq iy))(wR:iy=(k:Int))(h0:0<k)
  (mS:D.nil=false) (mT:D.sp=none) [ht:eF P tx e c ct] (hc:0<c) [hz:dB P e z] (Hf:P.underlying fD=some (.int kn)) (holds:olds.length=D.len*c) (qf: ∀w,Mem w0 L w-> ∀j v,olds[j]? =some v->w.cell? ⟨D.b,D.o+j,none⟩=some v)
  (hg:D.cap<D.len+k) (hb:(D.len+k)*ct<=140737488355328) (iG:D.len+k<=140737488355328)
  (hk: ∀(b C:Nat) (Z:List Value),m<=C->p*c+Z.length=C*c->Sq P N w0 l Q rest (bZ env d (Sv.val ⟨false,b,0,m,C,none⟩)) (an b (olds++Z).toArray e::L)) (hd:cL N d=true:=by rfl):
  Sq P N w0 l Q (⟨d, .call {callee:= .builtin .append,args:= #[x,y],argTypes:= #[tx,fD]},ty,ps,af,none⟩::rest) env L:=
 mE rfl hd fun aa w ha hw=>by
  subst wR hp hm;rw[Sv.gT mS,mT]at hx;obtain⟨i',z',aW,aB,bm,cJ,lT⟩:=ht.info;subst bm cJ;have yj:=nextslicecap_le hg;have iu:Builtin.nextslicecap (D.len+k) D.cap*i'.bytes<=281474976710656:=by
   have h2:Builtin.nextslicecap (D.len+k) D.cap*i'.bytes<=2*(D.len+k)*i'.bytes:=anp _ yj;rw[Nat.mul_assoc]at h2;omega
  have Hg:k*i'.bytes<=281474976710656:=by
   have:k*i'.bytes<=(D.len+k)*i'.bytes:=anp _ (by omega);omega
  have hold:=run_firstCells_some (P:=P) w.drew i'.size D.len ⟨D.b,D.o,none⟩ D.len D.cap olds holds (fun j v hj=>by rw[Addr.fS];exact qf w hw j v hj);have fC:=Lib.run_append_grow_zeros (P:=P) w tx fD ty e i' z' kq kn ht.dU Hf aW aB (some ⟨D.b,D.o,none⟩) D.len D.cap olds hold k h0 hc hg (by omega) Hg iu;have rh:=grownCap_ge w (D.len+k) D.cap e;generalize grownCap w (D.len+k) D.cap e=C at fC rh;have AU:=size_zeroCells z'.cells k;have Dn:=size_zeroCells z'.cells (C -(D.len+k));rw[lT]at AU Dn;have hZ:D.len*i'.size+(Builtin.zeroCells z'.cells k++Builtin.zeroCells z'.cells (C -(D.len+k))).toList.length=C*i'.size:=by
   rw[ao0,apF,AU,Dn,←anF,←anF];congr 1;omega
  have e1:olds.toArray++Builtin.zeroCells z'.cells k++Builtin.zeroCells z'.cells (C -(D.len+k))=(olds++(Builtin.zeroCells z'.cells k++Builtin.zeroCells z'.cells (C -(D.len+k))).toList).toArray:=by apply apI;simp
  rw[e1]at fC;refine⟨_,_,_,?_,hw.drew.alloc _ e,hk w.heap.size C _ rh hZ⟩;simp[execOp,ha.ev hx,ha.ev hy,resolve,invoke,builtin,fC,Result.andThen,Sv.val]
theorem UZ{D:Sv}{x:Operand}{tx e:TypeId}{ct i b o n:Nat}{z:Value}{cs:Array Value}{T:TypeId}(hx:ev env x=some D.val)(mS:D.nil=false)(mT:D.sp=none)(oC:D.b=b)(qt:D.o=o)(hn:D.len=n)(h0:0<n)[ht:eF P tx e c ct][hz:dB P e z](h1:z.cells.all (·.oneCell')=true)[hh:Has L b cs T i](ho:o+n*c<=cs.size)
  {L':List Value->List ai} [hu: ∀Z,eM L i (an b (over cs o Z.toArray) T) (L' Z)] (hk: ∀Z:List Value,Z.length=n*c->Sq P N w0 l Q rest env (L' Z)):
  Sq P N w0 l Q (⟨none, .call {callee:= .builtin .clear,args:= #[x],argTypes:= #[tx]},ty,ps,af,none⟩::rest) env L:=
 mE rfl rfl fun aa w ha hw=>by
  rw[Sv.gT mS,mT,oC,qt,hn]at hx;have hb:=hw.block hh.h;obtain⟨i',z',aW,aB,bm,cJ,lT⟩:=ht.info;obtain rfl:z'=z:=by
   have:=hz.zero;rw[aW,an8,aB]at this;exact ani (ani this)
  subst bm;have hZ:=size_zeroCells z'.cells n;rw[lT]at hZ;have ry: ∀v∈(Builtin.zeroCells z'.cells n).toList,v.oneCell'=true:=fun v hv=>by
   simp only[Builtin.zeroCells,Array.toList_map,aoC]at hv;obtain⟨j,hj,rfl⟩:=hv;have s0:0<z'.cells.size:=by
    rcases aor z'.cells.size with h|h
    ·
     rw[h]at hj;simp at hj
    ·
     exact h
   rw[getElem!_pos z'.cells _ (aoP _ s0)];exact(anS.1 h1) _ (Array.getElem_mem _)
  have bw:=run_storeCells_at P b o T (Builtin.zeroCells z'.cells n).toList 0 cs w hb (by simp[hZ];omega) ry;have fC:(Builtin.clear_ #[tx] ty #[.slice (some ⟨b,o,none⟩) n D.cap]).run P w= .ok (.tuple #[]) (w.setRow b (over cs o (Builtin.zeroCells z'.cells n))):=by
   obtain⟨m,rfl⟩: ∃m,n=m+1:=⟨n -1,by omega⟩;simp[Builtin.clear_,run_underlying ht.dU,zeroValue,typeInfo,aW,aB,bw,over]
  refine⟨.tuple #[],w.setRow b (over cs o (Builtin.zeroCells z'.cells n)),L' (Builtin.zeroCells z'.cells n).toList,?_,?_,hk _ (by rw[ao0,hZ])⟩
  ·
   simp[execOp,ha.ev hx,resolve,invoke,builtin,fC,Result.andThen]
  ·
   have h9:=hw.setRow hh.h (over cs o (Builtin.zeroCells z'.cells n));rw[←(hu _).h];simpa using h9
def Sv.top(s:Sv)(m:Nat):Sv:=⟨s.nil,s.b,s.o,s.len,m,s.sp⟩
theorem Mp{t e:TypeId}{x lo hi mx:Operand}{l h m:Nat}{k k' Mq:IntKind}{il ih im:Int}[ht:ez P t e c](hx:ev env x=some s.val)[q:Hd w0 L s enc c xs](hl:ev env lo=some (.int k il))(hh:ev env hi=some (.int k' ih))(hm:ev env mx=some (.int Mq im))(el:il=(l:Int))(eh:ih=(h:Int))(em:im=(m:Int))(h1:l<=h)(h2:h<=m)(h3:m<=xs.length):
  Ry P N w0 env L ⟨d, .slice t x (some lo) (some hi) (some mx),ty,ps,af,gd⟩ ((s.top m).sub c l h).val:=fun a w ha hw=>by
 subst el eh em;have r:=q.h w hw;have hs:=r.ok;have hlen:=r.len;have hle:=hs.le;have ee:=yi ht.dU;have hu:P.underlying t=some (.slice (P.elem t)):=by rw[ee];exact ht.dU
 obtain⟨ad,len,cap,mG⟩:=s.ex;have e3:len=s.len/\cap=s.cap/\sliced ad l h m c=((s.top m).sub c l h).val:=by
  cases hn:s.nil with
  |true=>
   rw[Sv.rb hn]at mG;obtain⟨rfl,rfl,rfl⟩:=by simpa using mG
   have:=hs.nil hn;have e2:((s.top m).sub c l h).nil=true:=hn;rw[Sv.rb e2];have:l=0:=by omega
   have:h=0:=by omega
   have:m=0:=by omega
   subst l h m;exact⟨by omega,by omega,by simp[sliced]⟩
  |false=>
   rw[Sv.gT hn]at mG;obtain⟨rfl,rfl,rfl⟩:=by simpa using mG
   have e2:((s.top m).sub c l h).nil=false:=hn;rw[Sv.gT e2];refine⟨rfl,rfl,?_⟩;simp only[sliced,Sv.sub,Sv.top]
   by_cases hc:m=l
   ·
    simp[hc]
   ·
    have fU:=hs.sp (by omega);simp[hc,fU,Addr.fS]
 obtain⟨e1,e2,e3⟩:=e3;have hr:=run_slice_lhm (P:=P) (w:=w) t ad len cap hu k k' Mq (l:Int) (h:Int) (m:Int) (by omega) (by omega) (by omega) (by omega);rw[ee,ki w ht.size]at hr;simp only[Result.andThen,aoe,e3]at hr;simp only[execOp,ha.ev hx,ha.ev hl,ha.ev hh,ha.ev hm,mG,an8,run_sliceAt_slice (h:=hu),hr,Sem.run_bind,Result.andThen,Sem.run_pure]
theorem U0{t e:TypeId}{x:Operand}{m n:Nat}[ht:ez P t e m](hx:ev env x=some s.val)(mR:s.nil=false)(hn:s.cap=n):
  Ry P N w0 env L ⟨d, .call {callee:= .builtin .cap,args:= #[x],argTypes:= #[t]},ty,ps,af,gd⟩ (.int .i64 n):=fun a w ha _=>by
 subst hn;rw[Sv.gT mR]at hx;have hu:P.underlying t=some (.slice (P.elem t)):=by rw[yi ht.dU];exact ht.dU
 have:=run_cap_slice (P:=P) (w:=w) t ty (some ⟨s.b,s.o,s.sp⟩) s.len s.cap hu;simp[execOp,ha.ev hx,resolve,invoke,builtin,this,Result.andThen,goInt]
class Mr(P:Program)(f:FuncId)(tS tR:outParam TypeId):Prop where
 fn: ∃fn,P.funcs[f]? =some fn∧(fn.name== "runtime.NumGoroutine")=false∧fn.body.isNone=true∧Extern.findNext fn=none∧Extern.find fn=some (Extern.SlicesOverlaps.overlaps #[tS,tS] #[tR])
theorem Mem.apart{w:World}{i j k:Nat}{e e':ai}(h:Mem w0 L w)(hi:L[i]? =some e)(hj:L[j]? =some e')(lN:i≠j)(hk:e.fp k): ¬e'.fp k:=by
 obtain⟨gi,rfl⟩:=ad2.1 hi;obtain⟨gj,rfl⟩:=ad2.1 hj;have hd:=aod.1 h.nD;rcases apQ lN with h1|h1
 ·
  exact hd i j gi gj h1 k hk
 exact fun h2=>hd j i gj gi h1 k h2 hk
theorem U1{V D:Sv}{x y:Operand}{f:FuncId}{ts:Array TypeId}{tS tR e T:TypeId}{i j b:Nat}{cs:Array Value}(hx:ev env x=some V.val)(hy:ev env y=some D.val)[hf:Mr P f tS tR][ht:ez P tS e c](hc:1<c)[q:dV L V enc c xs i](hv:0<xs.length)[hh:Has L b cs T j](mS:D.nil=false)(mT:D.sp=none)(oC:D.b=b)(gv:0<cs.size)(lN:i≠j:=by decide):
  Ry P N w0 env L ⟨d, .call {callee:= .value (.func f),args:= #[x,y],argTypes:=ts},ty,ps,af,gd⟩ (.bool false):=fun a w ha hw=>by
 obtain⟨r,mJ⟩:=hw.get q.h;have Hh:=r.some hv;obtain⟨U2,cv,Tv,fz,fm,eL,ln,nH⟩:=mJ Hh;obtain rfl:=nH hc;have hb:=hw.block hh.h;have cc:V.b≠b:=fun e0=>hw.apart q.h hh.h lN (k:=V.b) ⟨Hh,rfl⟩ e0;subst oC;rw[Sv.gT Hh,U2]at hx;rw[Sv.gT mS,mT]at hy;obtain⟨fn,h1,h2,h3,h4,h5⟩:=hf.fn;have fC:=Lib.run_overlaps_apart (P:=P) w tS tR e ht.dU c (fun w=>ki w ht.size) ⟨V.b,V.o,none⟩ ⟨D.b,D.o,none⟩ V.len V.cap D.len D.cap cc Tv T cv.size cs.size (by simp[World.shape?,fm]) (by simp[World.shape?,hb]) (by omega) (by simp[World.frozen?,fm]) (by simp[World.frozen?,fm]);have Ms:=run_callFunc_extern (P:=P) h1 h2 h3 h4 h5 #[.slice (some ⟨V.b,V.o,none⟩) V.len V.cap, .slice (some ⟨D.b,D.o,none⟩) D.len D.cap] w;rw[fC]at Ms;have e1:a.eval (.func f)= .func (.func f) #[] #[]:=rfl;simp[execOp,ha.ev hx,ha.ev hy,resolve,e1,Deferred.ofValue,invoke,Ms,Result.andThen]
end
end Go.au
namespace Go.Kb
def U3:Nat:=3988292384
def Hi(n:Nat):Nat:=(n/2)^^^(if n%2=1 then U3 else 0)
theorem U4{n:Nat}(h:n<2^32):Hi n<2^32:=by
 refine ao5 (by omega) ?_;split
 ·
  decide
 decide
def mU(n:Nat):Nat->Nat
 |0=>n
 |k+1=>Hi (mU n k)
theorem Hj{n:Nat}(h:n<2^32): ∀k,mU n k<2^32
 |0=>h
 |k+1=>U4 (Hj h k)
def Hk(n:Nat)(b:UInt8):Nat:=mU (n^^^b.toNat) 8
theorem U5{n:Nat}{b:UInt8}(h:n<2^32):Hk n b<2^32:=Hj (ao5 h (by have:=b.toNat_lt;omega)) 8
def jD(n:Nat)(l:List UInt8):Nat:=l.foldl Hk n
theorem Dp{n:Nat}(h:n<2^32): ∀l,jD n l<2^32
 |[]=>h
 |b::l=>Dp (U5 h) l
theorem U6{n:Nat}{l:List UInt8}{i:Nat}{b:UInt8}(h:l[i]? =some b):jD n (l.take (i+1))=Hk (jD n (l.take i)) b:=by
 rw[anq,h,jD,jD,apo];rfl
def pF(l:List UInt8):Nat:=4294967295 -jD 4294967295 l
theorem Mt(l:List UInt8):pF l<2^32:=by unfold pF;omega
end Go.Kb
namespace Go.au
open Go.RowKit
section
variable {α:Type} {enc:α->Array Value} {c:Nat} {s:Sv} {xs:List α}
theorem Mem.Mu{w0 w:World}{L:List ai}{i k:Nat}(hw:Mem w0 L w)(hi:L[i]? =some (own enc c s xs))(hk:k<=xs.length):Mem w0 (L.set i (own enc c (s.sub c 0 k) (xs.take k))) w:=by
 obtain⟨r,mJ⟩:=hw.get hi;have r2:=r.sub (lo:=0) (hi:=k) (anH _) hk;rw[aoO,Nat.sub_zero]at r2;refine hw.change hi (fun k hk=>hk) (fun _ _=>rfl) rfl ⟨rfl,rfl,rfl⟩ ⟨r2,fun hn=>?_⟩;obtain⟨h1,cs,T,fz,h2,h3,h4,h5⟩:=mJ hn;refine⟨h1,cs,T,fz,h2,?_,h4,h5⟩;rw[Sv.AR];exact h3
end
section
variable {P:Program} {N:bO} {w0:World} {env:Env} {L:List ai} {Q:Exit->Act->World->Prop} {l rest:List Oper} {d:Option Tmp} {ty:TypeId} {ps:String} {af:Array Edge} {gd:Option (Nat×Bool)}
variable {α:Type} {enc:α->Array Value} {c:Nat} {xs:List α}
theorem Mv{x y:Operand}{tx fD e:TypeId}{ct k:Nat}{z:Value}{kn kq:IntKind}{iy:Int}(x0:α)(hx:ev env x=some (.slice none 0 0))(hy:ev env y=some (.int kq iy))(wR:iy=(k:Int))(h0:0<k)
  [ht:eF P tx e c ct] [he:bo enc c] (hc:0<c) [hz:dB P e z] (Mw:enc x0=z.cells) (Hf:P.underlying fD=some (.int kn)) (hb:k*ct<=140737488355328) (iG:k<=140737488355328)
  (hk: ∀b C:Nat,k<=C->Sq P N w0 l Q rest (bZ env d (Sv.val ⟨false,b,0,k,C,none⟩)) (own enc c ⟨false,b,0,k,C,none⟩ (List.replicate k x0)::L)) (hd:cL N d=true:=by rfl):
  Sq P N w0 l Q (⟨d, .call {callee:= .builtin .append,args:= #[x,y],argTypes:= #[tx,fD]},ty,ps,af,none⟩::rest) env L:=
 mE rfl hd fun aa w ha hw=>by
  subst wR;obtain⟨i',z',aW,aB,bm,cJ,lT⟩:=ht.info;obtain rfl:z'=z:=by
   have:=hz.zero;rw[aW,an8,aB]at this;exact ani (ani this)
  subst bm cJ;have fC:=Lib.run_append_nil_zeros (P:=P) w tx fD ty e i' z' kq kn ht.dU Hf aW aB k h0 hc (by omega) (by omega);have rh:=grownCap_ge w k 0 e;generalize grownCap w k 0 e=C at fC rh;have AU:=size_zeroCells z'.cells k;have Dn:=size_zeroCells z'.cells (C -k);have U7: ∀m i j,i<m->j<i'.size->(Builtin.zeroCells z'.cells m)[i*i'.size+j]? =z'.cells[j]? :=fun m i j hi hj=>by
   have aZ:i*i'.size+j<m*z'.cells.size:=by
    rw[lT];have:(i+1)*i'.size<=m*i'.size:=anp _ hi;rw[anF]at this;omega
   have e1:(i*i'.size+j)%z'.cells.size=j:=by rw[lT,an0,Nat.mul_add_mod];exact anL hj
   have U8:j<z'.cells.size:=by omega
   simp[Builtin.zeroCells,aZ,e1,U8]
  refine⟨_,_,_,?_,hw.drew.call (wv (enc:=enc) (c:=i'.size) (xs:=List.replicate k x0) (cs:=Builtin.zeroCells z'.cells k++Builtin.zeroCells z'.cells (C -k)) (e:=e) rfl k C (by simp) rh iG ?_ fun i x hx j hj=>?_),hk _ C rh⟩
  ·
   simp[execOp,ha.ev hx,ha.ev hy,resolve,invoke,builtin,fC,Result.andThen,Sv.val]
  ·
   rw[apF,AU,Dn,lT,←anF];exact anp _ (by omega)
  ·
   have hi:i<k:=by
    have:=(ad2.1 hx).1;simpa using this
   obtain rfl:x0=x:=by rw[apq,if_pos hi]at hx;exact ani hx
   rw[Mw,←U7 k i j hi hj,ape];rw[AU,lT];have:(i+1)*i'.size<=k*i'.size:=anp _ hi;rw[anF]at this;omega
theorem Dq{t e:TypeId}{x:Operand}{m:Nat}[ht:ez P t e m](hx:ev env x=some (.slice none 0 0)):
  Ry P N w0 env L ⟨d, .call {callee:= .builtin .cap,args:= #[x],argTypes:= #[t]},ty,ps,af,gd⟩ (.int .i64 (0:Nat)):=fun a w ha _=>by
 have hu:P.underlying t=some (.slice (P.elem t)):=by rw[yi ht.dU];exact ht.dU
 have:=run_cap_slice (P:=P) (w:=w) t ty none 0 0 hu;simp[execOp,ha.ev hx,resolve,invoke,builtin,this,Result.andThen,goInt]
class kR(w0:World)(L:List ai){τ:Type}[Deep τ](xs:List τ):Prop where
 h: ∀w,Mem w0 L w-> ∀x∈xs,Deep.dO (hp w) x
instance kR.nil{τ:Type}[Deep τ]:kR w0 L ([]:List τ):=⟨fun _ _ _ h=>by cases h⟩
instance kR.cons{τ:Type}[Deep τ]{x:τ}{xs:List τ}[a:aS w0 L x][b:kR w0 L xs]:kR w0 L (x::xs):=⟨fun w hw y hy=>by
 rcases ank.1 hy with rfl|hy
 ·
  exact a.h w hw
 exact b.h w hw y hy⟩
instance (priority:=low) aS.flat {τ:Type}[Deep τ][Plain τ]{enc:τ->Array Value}{c:Nat}[fw τ enc c]{s:Sv}{xs:List τ}[q:cA w0 L enc c s xs]:aS w0 L (⟨s,xs⟩:Sl τ):=⟨fun w hw=>by
 have hl:=q.h w hw;have e1:Deep.cells (τ:=τ)=enc:=funext (fw.h (c:=c));have e2:Deep.c τ=c:=fw.hc (enc:=enc);refine⟨?_,fun x _=>Deep.iW _ x (by rw[Plain.h x];exact trivial)⟩;subst e1 e2;exact hl⟩
instance (priority:=low) aS.rows {τ:Type}[Deep τ]{enc:τ->Array Value}{c:Nat}[fw τ enc c]{s:Sv}{xs:List τ}[q:cA w0 L enc c s xs][g:kR w0 L xs]:aS w0 L (⟨s,xs⟩:Sl τ):=⟨fun w hw=>by
 have hl:=q.h w hw;have e1:Deep.cells (τ:=τ)=enc:=funext (fw.h (c:=c));have e2:Deep.c τ=c:=fw.hc (enc:=enc);refine⟨?_,g.h w hw⟩;subst e1 e2;exact hl⟩
theorem U9{τ:Type}[Deep τ]{s:Sv}{xs:List τ}[g:aS w0 L (⟨s,xs⟩:Sl τ)](h: ∀a:Sl τ,a=⟨s,xs⟩->aS w0 L a->Sq P N w0 l Q rest (bZ env d a.sv.val) L):Sq P N w0 l Q rest (bZ env d s.val) L:=h _ rfl g
def jE(l:List (Sl UInt8)):List UInt8:=(l.map Sl.xs).flatten
theorem Dr{l:List (Sl UInt8)}{i:Nat}{x:Sl UInt8}(h:l[i]? =some x):jE (l.take (i+1))=jE (l.take i)++x.xs:=by
 rw[jE,anq,h];simp[jE]
theorem Va(l:List (Sl UInt8))(i:Nat):(jE (l.take i)).length<=(jE l).length:=by
 have e:jE l=jE (l.take i)++jE (l.drop i):=by
  unfold jE;rw[←List.flatten_append,←an2,anO]
 rw[e,af0];omega
end
theorem Mx(l:List UInt8):de l<256^l.length:=by
 have:=Gm l l.length (anm _);rwa [anD]at this
section
variable {w0:World} {L:List ai} {α:Type} {enc:α->Array Value} {c:Nat} {xs ys:List α} {s t:Sv} {g:Bool}
end
section
variable {P:Program} {N:bO} {w0:World} {env:Env} {L:List ai} {l:List Oper} {Q:Exit->Act->World->Prop} {rest:List Oper} {d:Option Tmp} {ty:TypeId} {ps:String} {af:Array Edge}
end
section
variable {w0:World} {L:List ai} {τ:Type} [Deep τ]
instance (priority:=low) kR.of {a:Sl τ}[q:aS w0 L a]:kR w0 L a.xs:=⟨fun w hw=>(q.h w hw).2⟩
instance kR.append{xs ys:List τ}[a:kR w0 L xs][b:kR w0 L ys]:kR w0 L (xs++ys):=⟨fun w hw x hx=>by
 rcases anu.1 hx with h|h
 ·
  exact a.h w hw x h
 exact b.h w hw x h⟩
end
section
variable {w0:World} {L:List ai} {τ:Type} [Deep τ]
instance kR.take{xs:List τ}{n:Nat}[q:kR w0 L xs]:kR w0 L (xs.take n):=⟨fun w hw x hx=>q.h w hw x (apj hx)⟩
instance kR.drop{xs:List τ}{n:Nat}[q:kR w0 L xs]:kR w0 L (xs.drop n):=⟨fun w hw x hx=>q.h w hw x (List.mem_of_mem_drop hx)⟩
class Vb(a:Sl τ)(s:outParam Sv)(xs:outParam (List τ)):Prop where
 h:a=⟨s,xs⟩
instance (priority:=low) aS.named {a:Sl τ}{s:Sv}{xs:List τ}[n:Vb a s xs][q:aS w0 L (⟨s,xs⟩:Sl τ)]:aS w0 L a:=⟨by rw[n.h];exact q.h⟩
end
class fq(τ:Type)[d:Deep τ] where
 reach:τ->Nat->Prop
 congr: ∀(h h':Nat->Option Obj) (x:τ),(∀k,reach x k->h' k=h k)->d.dO h x->d.dO h' x
theorem dq.congr{α:Type}{enc:α->Array Value}{c:Nat}{h h':Nat->Option Obj}{s:Sv}{xs:List α}(e:xs≠[]->h' s.b=h s.b)(r:dq enc c h s xs):dq enc c h' s xs:=
 ⟨r.ok,r.len,fun i x hi j hj=>by
  have cc:xs≠[]:=fun he=>by rw[he]at hi;simp at hi
  rw[←r.row i x hi j hj];unfold mF;rw[e cc]⟩
@[reducible] def fq.flat {τ:Type}[d:Deep τ](hg: ∀h x,d.dO h x):fq τ:=⟨fun _ _=>False,fun _ h' x _ _=>hg h' x⟩
instance fq.slice{τ:Type}[d:Deep τ][r:fq τ]:fq (Sl τ) where
 reach a k:=(a.xs≠[]/\k=a.sv.b)\/ ∃x∈a.xs,r.reach x k
 congr h h' a e g:=⟨g.1.congr fun cc=>e _ (.inl ⟨cc,rfl⟩),fun x hx=>r.congr h h' x (fun k hk=>e k (.inr ⟨x,hx,hk⟩)) (g.2 x hx)⟩
instance:fq UInt8:=fq.flat fun _ _=>trivial
def fz{τ:Type}[d:Deep τ][r:fq τ](x:τ):ai:=⟨r.reach x,fun h=>d.dO h x,fun h h' e s=>r.congr h h' x e s⟩
section
variable {w0:World} {L:List ai} {τ:Type} [d:Deep τ] [r:fq τ]
instance (priority:=high) aS.frozen {a:τ}{i:Nat}[q:At L (fz a) i]:aS w0 L a:=⟨fun _ hw=>hw.get q.h⟩
theorem Mem.freeze{w:World}{es:List ai}(x:τ)(hg:d.dO (hp w) x)(hr: ∀k,r.reach x k-> ∃e∈es,e.fp k)(h:Mem w0 (es++L) w):Mem w0 (fz x::L) w:=by
 have hd:=apG.1 h.nD;refine⟨h.below,fun e he=>?_,fun e he k hk=>?_,anM.2 ⟨fun y hy k hk ji=>?_,hd.2.1⟩⟩
 ·
  rcases ank.1 he with rfl|he
  ·
   exact hg
  exact h.sat e (anu.2 (.inr he))
 ·
  rcases ank.1 he with rfl|he
  ·
   obtain⟨e',ow,ji⟩:=hr k hk;exact h.iT e' (anu.2 (.inl ow)) k ji
  exact h.iT e (anu.2 (.inr he)) k hk
 obtain⟨e',ow,uL⟩:=hr k hk;exact hd.2.2 e' ow y hy k uL ji
theorem Mem.Vc{w:World}{e:ai}(x:τ)(hg:d.dO (hp w) x)(hr: ∀k,r.reach x k->e.fp k)(h:Mem w0 (e::L) w):Mem w0 (fz x::L) w:=
 Mem.freeze (es:=[e]) x hg (fun k hk=>⟨e,by simp,hr k hk⟩) h
end
open Go.Kb
section
variable {w0:World} {L:List ai} {τ:Type} [Deep τ] {xs:List τ} {es:List ai}
theorem Mem.wS{w:World}(h:Mem w0 L w):Mem w0 (ai.all []::L) w:=Mem.As.2 h
theorem Mem.Vd{w:World}{e:ai}(h:Mem w0 (e::ai.all es::L) w):Mem w0 (ai.all (e::es)::L) w:=Mem.wz.2 h
theorem Mem.My{w:World}{s:Sv}{enc:τ->Array Value}{c:Nat}[f:fw τ enc c][Plain τ](h:Mem w0 (own enc c s xs::L) w):Mem w0 (Deep.bU (⟨s,xs⟩:Sl τ)::L) w:=Tr.CO.mem h
end
end Go.au
namespace Go.Kb
structure fx where
 len:Int
 hop:UInt16
 deriving DecidableEq
def fx.no:fx:=⟨0,0⟩
structure Nd where
 Ds:List fx
 Dt:List Int
 hs:Ds.length=16
 hn:Dt.length=16
 deriving DecidableEq
def Nd.sl(n:Nd)(b:Nat):fx:=n.Ds.getD b fx.no
def Nd.nx(n:Nd)(b:Nat):Int:=n.Dt.getD b 0
def Nd.mk'(f:Nat->fx)(g:Nat->Int):Nd:=⟨(List.range 16).map f,(List.range 16).map g,by simp,by simp⟩
def Nd.zero:Nd:=Nd.mk' (fun _=>fx.no) (fun _=>0)
def Nd.u6(n:Nd)(b:Nat)(s:fx):Nd:=⟨n.Ds.set b s,n.Dt,by simp[n.hs],n.hn⟩
def Nd.u7(n:Nd)(b:Nat)(x:Int):Nd:=⟨n.Ds,n.Dt.set b x,n.hs,by simp[n.hn]⟩
theorem Nd.jY{f:Nat->fx}{g:Nat->Int}{b:Nat}(h:b<16):(Nd.mk' f g).sl b=f b:=by simp[Nd.sl,Nd.mk',h]
theorem Nd.jZ{f:Nat->fx}{g:Nat->Int}{b:Nat}(h:b<16):(Nd.mk' f g).nx b=g b:=by simp[Nd.nx,Nd.mk',h]
theorem Nd.Ve{n:Nd}{b:Nat}(h:16<=b):n.sl b=fx.no:=by
 have:=n.hs;rw[Nd.sl,anU,ans (by omega)];rfl
theorem Nd.Vf{n:Nd}{b:Nat}(h:16<=b):n.nx b=0:=by
 have:=n.hn;rw[Nd.nx,anU,ans (by omega)];rfl
theorem Nd.Mz(b:Nat):Nd.zero.sl b=fx.no:=by
 rcases anl b 16 with h|h
 ·
  exact Nd.jY h
 exact Nd.Ve h
theorem Nd.MA(b:Nat):Nd.zero.nx b=0:=by
 rcases anl b 16 with h|h
 ·
  exact Nd.jZ h
 exact Nd.Vf h
theorem Nd.Du{n:Nd}{b c:Nat}{s:fx}(h:b<16):(n.u6 b s).sl c=if b=c then s else n.sl c:=by
 have:=n.hs;simp only[Nd.sl,Nd.u6,anU,aof];split
 ·
  rename_i e;subst e;rw[if_pos (by omega)];rfl
 rfl
theorem Nd.Hl{n:Nd}{b c:Nat}{x:Int}(h:b<16):(n.u7 b x).nx c=if b=c then x else n.nx c:=by
 have:=n.hn;simp only[Nd.nx,Nd.u7,anU,aof];split
 ·
  rename_i e;subst e;rw[if_pos (by omega)];rfl
 rfl
@[simp] theorem Nd.MB {n:Nd}{b c:Nat}{s:fx}:(n.u6 b s).nx c=n.nx c:=rfl
@[simp] theorem Nd.MC {n:Nd}{b c:Nat}{x:Int}:(n.u7 b x).sl c=n.sl c:=rfl
theorem Nd.ext'{m n:Nd}(h1: ∀b,b<16->m.sl b=n.sl b)(h2: ∀b,b<16->m.nx b=n.nx b):m=n:=by
 obtain⟨a,b,ha,hb⟩:=m;obtain⟨c,d,hc,hd⟩:=n;have e1:a=c:=aok fun i=>by
  rcases anl i 16 with hi|hi
  ·
   have:=h1 i hi;simp only[Nd.sl,anU]at this;rw[anC (by omega),anC (by omega)]at this⊢;simpa using this
  rw[ans (by omega),ans (by omega)]
 have e2:b=d:=aok fun i=>by
  rcases anl i 16 with hi|hi
  ·
   have:=h2 i hi;simp only[Nd.nx,anU]at this;rw[anC (by omega),anC (by omega)]at this⊢;simpa using this
  rw[ans (by omega),ans (by omega)]
 subst e1;subst e2;rfl
def qu(k:Key)(n b:Nat):Key:=if n%2=0 then wD k (n/2) (16*b%256)else wD k (n/2) ((aU k (n/2)+b)%256)
def bD(p:aJ):Nat:=((p.len -1)/4).toNat
structure Wy where
 steps:Nat
 key:Key
 deriving DecidableEq
def cC(k:Key)(s:Nat):Wy:=⟨s,bA k ((4*s:Nat):Int)⟩
def root:Wy:=⟨0,0#128⟩
theorem yF(k:Key):cC k 0=root:=by rw[cC,root,AA _ _ (by decide)]
def child(w:Wy)(b:Nat):Wy:=⟨w.steps+1,qu w.key w.steps b⟩
def iY(W:List Wy)(w:Wy):List Wy:=if w∈W then W else W++[w]
def df(W:List Wy)(p:aJ)(n:Nat):List Wy:=(List.range n).foldl (fun W i=>iY W (cC p.key (i+1))) W
def l0(W:List Wy)(r:Rt)(bits:Int):List Wy:=if r.p.bits=bits then df W r.p (bD r.p)else W
def j6(bits:Int)(t:List Rt):List Wy:=t.foldl (fun W r=>l0 W r bits) [root]
def hit(r:Rt)(bits:Int)(w:Wy)(b:Nat):Bool:=decide (r.p.bits=bits)&&decide (bD r.p=w.steps)&&lu r.p (qu w.key w.steps b)
def wT(bits:Int)(w:Wy)(b:Nat)(s:fx)(r:Rt):fx:=if hit r bits w b=true/\s.len<=r.p.len then⟨r.p.len+1,r.hop⟩else s
def lC(bits:Int)(R:List Rt)(w:Wy)(b:Nat):fx:=R.foldl (wT bits w b) fx.no
def pG(W:List Wy)(w:Wy)(b:Nat):Int:=if child w b∈W then(W.idxOf (child w b):Nat)else 0
def fV(bits:Int)(W:List Wy)(R:List Rt)(w:Wy):Nd:=Nd.mk' (lC bits R w) (pG W w)
theorem Hm(W:List Wy)(p:aJ):df W p 0=W:=rfl
theorem s8(W:List Wy)(p:aJ)(n:Nat):df W p (n+1)=iY (df W p n) (cC p.key (n+1)):=by simp[df,aoV]
theorem Hn(bits:Int)(t:List Rt)(r:Rt):j6 bits (t++[r])=l0 (j6 bits t) r bits:=by simp[j6]
theorem Ho(bits:Int)(R:List Rt)(r:Rt)(w:Wy)(b:Nat):lC bits (R++[r]) w b=wT bits w b (lC bits R w b) r:=by simp[lC]
theorem yG{k:Key}{n b:Nat}(hn:n<32)(hb:b<16)(hk:bA k ((4*n:Nat):Int)=k)(i:Nat)(hi:i<128):
  (qu k n b).getMsbD i=if i<4*n then k.getMsbD i else if i<4*n+4 then b.testBit (4*n+3 -i)else false:=by
 have hz: ∀j,j<128->4*n<=j->k.getMsbD j=false:=fun j hj h=>(wE k _).1 hk j hj (by omega);have AV: ∀(x:Nat),x<256->(wD k (n/2) x).getMsbD i=if i/8=n/2 then x.testBit (7 -i%8)else k.getMsbD i:=fun x hx=>by
  rw[mM _ i hi,CZ k _ x _ (by omega) hx];split
  ·
   rfl
  ·
   rw[mM k i hi]
 unfold qu;split
 ·
  rename_i he;rw[AV _ (by omega)]
  by_cases h1:i/8=n/2
  ·
   rw[if_pos h1,if_neg (by omega)];have e:16*b%256=b*2^4:=by omega
   rw[e,Nat.testBit_mul_two_pow]
   by_cases h2:i<4*n+4
   ·
    rw[if_pos h2,decide_eq_true (by omega),aos];congr 1;omega
   ·
    rw[if_neg h2,decide_eq_false (by omega),ao9]
  ·
   rw[if_neg h1]
   by_cases h2:i<4*n
   ·
    rw[if_pos h2]
   ·
    rw[if_neg h2,if_neg (by omega)];exact hz i hi (by omega)
 ·
  rename_i ho;have aiY:aU k (n/2)%16=0:=by
   have: ∀j,(aU k (n/2)%2^4).testBit j=false:=fun j=>by
    rw[Nat.testBit_mod_two_pow]
    by_cases hj:j<4
    ·
     have:=mM k (8*(n/2)+(7 -j)) (by omega);rw[show(8*(n/2)+(7 -j))/8=n/2 by omega,show 7 -(8*(n/2)+(7 -j))%8=j by omega,hz _ (by omega) (by omega)]at this;simp[←this]
    ·
     simp[hj]
   have:=aoY (x:=aU k (n/2)%2^4) (y:=0) (fun j=>by rw[this j];simp);simpa using this
  have aZ:=fE k (n/2);have e:(aU k (n/2)+b)%256=aU k (n/2)|||b:=by
   obtain⟨q,hq⟩: ∃q,aU k (n/2)=2^4*q:=⟨aU k (n/2)/16,by omega⟩;rw[hq,←apx (i:=4) (by omega) q];omega
  rw[AV _ (by omega),e]
  by_cases h1:i/8=n/2
  ·
   rw[if_pos h1,Nat.testBit_or];have hm:=mM k i hi;rw[h1]at hm;rw[←hm]
   by_cases h2:i<4*n
   ·
    rw[if_pos h2,aoz (x:=b) (anW (show b<2^4 by omega) (an9 (by decide) (by omega)))];simp
   ·
    rw[if_neg h2,if_pos (by omega),hz i hi (by omega),apP];congr 1;omega
  ·
   rw[if_neg h1]
   by_cases h2:i<4*n
   ·
    rw[if_pos h2]
   ·
    rw[if_neg h2,if_neg (by omega)];exact hz i hi (by omega)
def fG(k:Key)(n:Nat):Nat:=(hO k n).toNat
theorem s9(k:Key)(n:Nat):fG k n<16:=by
 unfold fG hO;have h1:=uQ k (4*n);have h2:=uQ k (4*n+1);have h3:=uQ k (4*n+2);have h4:=uQ k (4*n+3);split<;>omega
theorem AW(k:Key)(n:Nat):hO k n=(fG k n:Int):=by
 unfold fG hO;have h1:=uQ k (4*n);have h2:=uQ k (4*n+1);have h3:=uQ k (4*n+2);have h4:=uQ k (4*n+3);split<;>omega
theorem AX(k:Key)(n j:Nat)(hn:n<32)(hj:j<4):(fG k n).testBit j=k.getMsbD (4*n+3 -j):=by
 have e:=AW k n;rw[hO,if_pos (by omega)]at e;have b0:=C1 k (4*n);have b1:=C1 k (4*n+1);have b2:=C1 k (4*n+2);have b3:=C1 k (4*n+3);simp only[Int.natCast_add,Int.natCast_mul,Int.cast_ofNat_Int]at b0 b1 b2 b3;rw[b0,b1,b2,b3]at e;have key: ∀(a0 a1 a2 a3:Bool) (x:Nat),(8*(if a0 then 1 else 0)+4*(if a1 then 1 else 0)+2*(if a2 then 1 else 0)+(if a3 then 1 else 0):Int)=(x:Int)->x.testBit 0=a3/\x.testBit 1=a2/\x.testBit 2=a1/\x.testBit 3=a0:=by
  intro a0 a1 a2 a3 x hx;have qp:x=(8*(if a0 then 1 else 0)+4*(if a1 then 1 else 0)+2*(if a2 then 1 else 0)+(if a3 then 1 else 0):Nat):=by
   cases a0<;>cases a1<;>cases a2<;>cases a3<;>simp at hx⊢ <;>omega
  subst qp
  cases a0<;>cases a1<;>cases a2<;>cases a3<;>decide
 obtain⟨h0,h1,h2,h3⟩:=key _ _ _ _ _ e
 match j,hj with
 |0,_=>exact h0
 |1,_=>exact h1
 |2,_=>exact h2
 |3,_=>exact h3
theorem Vg{x y:Nat}(hx:x<16)(hy:y<16)(h: ∀j,j<4->x.testBit j=y.testBit j):x=y:=by
 refine aoY fun j=>?_;rcases anl j 4 with hj|hj
 ·
  exact h j hj
 have hp:2^4<=2^j:=an9 (by decide) hj;rw[aoz (anW hx hp),aoz (anW hy hp)]
theorem yH(k:Key)(n i:Nat):(bA k (n:Int)).getMsbD i=(decide (i<n)&&k.getMsbD i):=by
 rw[mN];congr 1;simp
section
variable {k:Key} {n b:Nat}
theorem MD(hn:n<32)(hb:b<16)(hk:bA k ((4*n:Nat):Int)=k):fG (qu k n b) n=b:=
 Vg (s9 _ _) hb fun j hj=>by
  rw[AX _ _ _ hn hj,yG hn hb hk _ (by omega),if_neg (by omega),if_pos (by omega)];congr 1;omega
theorem Dv(hn:n<32)(hb:b<16)(hk:bA k ((4*n:Nat):Int)=k):bA (qu k n b) ((4*n:Nat):Int)=k:=
 rn fun i hi=>by
  have h2:=yH k (4*n) i;rw[hk]at h2;rw[yH,yG hn hb hk i hi]
  by_cases h:i<4*n
  ·
   simp[h]
  simp[h]at h2⊢;exact h2
theorem ME(hn:n<32)(hb:b<16)(hk:bA k ((4*n:Nat):Int)=k):bA (qu k n b) ((4*(n+1):Nat):Int)=qu k n b:=
 rn fun i hi=>by
  rw[yH,yG hn hb hk i hi]
  by_cases h:i<4*(n+1)
  ·
   simp[h]
  rw[if_neg (by omega),if_neg (by omega)];simp
end
theorem MF(k:Key)(n m:Nat):bA (bA k (n:Int)) (m:Int)=bA k ((min n m:Nat):Int):=by
 rw[C0];congr 1;omega
theorem AY(k:Key)(s:Nat):bA (cC k s).key ((4*s:Nat):Int)=(cC k s).key:=by
 simp only[cC];rw[MF,Nat.min_self]
theorem Dw(k:Key)(n:Nat)(hn:n<32):child (cC k n) (fG k n)=cC k (n+1):=by
 have e:qu (bA k ((4*n:Nat):Int)) n (fG k n)=bA k ((4*(n+1):Nat):Int):=rn fun i hi=>by
  have hm:=yG (k:=bA k ((4*n:Nat):Int)) hn (s9 k n) (AY k n) i hi;rw[hm,yH,yH]
  by_cases h:i<4*n
  ·
   simp[h,show i<4*(n+1) by omega]
  rw[if_neg h]
  by_cases h2:i<4*n+4
  ·
   rw[if_pos h2,AX _ _ _ hn (by omega),decide_eq_true (show i<4*(n+1) by omega),aos];congr 1;omega
  rw[if_neg h2,decide_eq_false (show ¬i<4*(n+1) by omega),ao9]
 simp only[child,cC,e]
def Wy.ok(w:Wy):Prop:=w.steps<32/\bA w.key ((4*w.steps:Nat):Int)=w.key
theorem MG{w v:Wy}{b c:Nat}(hw:w.ok)(hv:v.ok)(hb:b<16)(hc:c<16)(e:child w b=child v c):w=v/\b=c:=by
 obtain⟨ws,wk⟩:=w;obtain⟨vs,vk⟩:=v;simp only[child,Wy.mk.injEq]at e;obtain⟨e1,e2⟩:=e;have e3:ws=vs:=by omega
 subst e3;have h1:=Dv hw.1 hb hw.2;have h2:=MD hw.1 hb hw.2;simp only at h1 h2;rw[e2,MD hv.1 hc hv.2]at h2;rw[e2,Dv hv.1 hc hv.2]at h1;have Vh:vk=wk:=h1;exact⟨by rw[Vh],h2.symm⟩
theorem Vi(k:Key)(s:Nat)(h:s<32):(cC k s).ok:=⟨h,AY k s⟩
theorem MH(k:Key)(s n:Nat)(h:s<=n):cC (cC k n).key s=cC k s:=by
 simp only[cC];rw[MF,Nat.min_eq_right (by omega)]
theorem Vj:root.ok:=⟨by decide,by rw[root];exact AA _ _ (by decide)⟩
theorem Vk{W:List Wy}{w v:Wy}:v∈iY W w↔v∈W\/v=w:=by
 unfold iY;split
 ·
  rename_i h;exact⟨.inl,fun| .inl h=>h| .inr e=>e▸h⟩
 simp
theorem MI{W:List Wy}{w:Wy}(h:W.Nodup):(iY W w).Nodup:=by
 unfold iY;split
 ·
  exact h
 rename_i hw;rw[aoL];exact⟨h,by simp,fun a ha b hb=>by simp at hb;subst hb;intro e;subst e;exact hw ha⟩
theorem MJ{W:List Wy}{w:Wy}:W<+:iY W w:=by
 unfold iY;split
 ·
  exact apm
 exact List.prefix_append _ _
theorem ta{W:List Wy}{p:aJ}{v:Wy}: ∀{n:Nat},v∈df W p n↔v∈W\/ ∃s,1<=s/\s<=n/\v=cC p.key s
 |0=>by simp[Hm];omega
 |n+1=>by
  rw[s8,Vk,ta (n:=n)];constructor
  ·
   rintro((h|⟨s,h1,h2,h3⟩)|h)
   ·
    exact .inl h
   ·
    exact .inr ⟨s,h1,by omega,h3⟩
   exact .inr ⟨n+1,by omega,by omega,h⟩
  rintro(h|⟨s,h1,h2,h3⟩)
  ·
   exact .inl (.inl h)
  rcases anl n s with h4|h4
  ·
   obtain rfl:s=n+1:=by omega
   exact .inr h3
  exact .inl (.inr ⟨s,h1,h4,h3⟩)
theorem MK{W:List Wy}{p:aJ}(h:W.Nodup): ∀n,(df W p n).Nodup
 |0=>h
 |n+1=>by rw[s8];exact MI (MK h n)
theorem Dx{W:List Wy}{p:aJ}: ∀n,W<+:df W p n
 |0=>apm
 |n+1=>by rw[s8];exact(Dx n).trans MJ
theorem Vl{W:List Wy}{p:aJ}{n m:Nat}(h:n<=m):df W p n<+:df W p m:=by
 induction m with
 |zero=>obtain rfl:n=0:=by omega
        exact apm
 |succ m ih=>
  rcases anl m n with h'|h'
  ·
   obtain rfl:n=m+1:=by omega
   exact apm
  rw[s8];exact(ih h').trans MJ
theorem ML{W:List Wy}{r:Rt}{bits:Int}:W<+:l0 W r bits:=by
 unfold l0;split
 ·
  exact Dx _
 exact apm
structure hQ(W:List Wy):Prop where
 nodup:W.Nodup
 root:W[0]? =some root
 ok: ∀w∈W,w.ok
 up: ∀w∈W,∀s,s<=w.steps->cC w.key s∈W
 ord: ∀(i:Nat) (w:Wy),W[i]? =some w-> ∀s,s<w.steps-> ∃j,j<i/\W[j]? =some (cC w.key s)
theorem hQ.ne{W:List Wy}(h:hQ W):0<W.length:=by
 have:=h.root;rcases aor W.length with e|e
 ·
  rw[ans (by omega)]at this;simp at this
 exact e
theorem hQ.one:hQ [Kb.root]:=⟨by simp,rfl,fun w hw=>by simp at hw;subst hw;exact Vj,fun w hw s hs=>by
 simp at hw;subst hw;have:s=0:=by simpa[Kb.root]using hs
 subst this;rw[yF];simp,fun i w hi s hs=>by
 have hw:=alM hi;simp at hw;subst hw;exact absurd hs (by simp[Kb.root])⟩
theorem hQ.add{W:List Wy}(h:hQ W){p:aJ}: ∀{n:Nat},n<32->hQ (df W p n)
 |0,_=>h
 |n+1,hn=>by
  have ih:=h.add (p:=p) (n:=n) (by omega);refine⟨MK h.nodup _,?_,fun w hw=>?_,fun w hw s hs=>?_,fun i w hi s hs=>?_⟩
  ·
   have:=Dx (W:=W) (p:=p) (n+1);obtain⟨t,ht⟩:=this;rw[←ht,ann h.ne];exact h.root
  ·
   rcases ta.1 hw with hw|⟨s,h1,h2,rfl⟩
   ·
    exact h.ok w hw
   exact Vi _ _ (by omega)
  ·
   rcases ta.1 hw with hw|⟨s',h1,h2,rfl⟩
   ·
    exact ta.2 (.inl (h.up w hw s hs))
   have xW:s<=s':=hs;rw[MH _ _ _ xW];rcases aor s with e|e
   ·
    subst e;rw[yF];exact ta.2 (.inl (alM h.root))
   exact ta.2 (.inr ⟨s,e,by omega,rfl⟩)
  rw[s8]at hi⊢;unfold iY at hi⊢;split at hi
  ·
   rename_i hm;rw[if_pos hm];exact ih.ord i w hi s hs
  rename_i hm;rw[if_neg hm];rcases anl i (df W p n).length with aZ|hge
  ·
   rw[ann aZ]at hi;obtain⟨j,hj,e⟩:=ih.ord i w hi s hs;exact⟨j,hj,by rw[ann (by omega)];exact e⟩
  have aB:=(ad2.1 hi).1;simp only[af0,ang,anh]at aB;obtain rfl:i=(df W p n).length:=by omega
  rw[anr (anm _),aoI,List.getElem?_cons_zero]at hi;obtain rfl:=ani hi;have xW:s<n+1:=hs;have sX:cC p.key s∈df W p n:=by
   rcases aor s with e|e
   ·
    subst e;rw[yF];exact alM ih.root
   exact ta.2 (.inr ⟨s,e,by omega,rfl⟩)
  obtain⟨j,hj⟩:=aot.1 sX;have gO:=(ad2.1 hj).1;exact⟨j,gO,by rw[MH _ _ _ (by omega),ann gO];exact hj⟩
theorem Dy{p:aJ}(h:bg p=true):bD p<32:=by
 obtain⟨h1,h2,h3,_⟩:=(dW p).1 h;unfold bD;omega
theorem hQ.l0{W:List Wy}(h:hQ W){r:Rt}{bits:Int}(hr:bg r.p=true):hQ (l0 W r bits):=by
 unfold Kb.l0;split
 ·
  exact h.add (Dy hr)
 exact h
theorem MM{bits:Int}: ∀{t:List Rt} {W:List Wy},hQ W->(∀r∈t,bg r.p=true)->hQ (t.foldl (fun W r=>Kb.l0 W r bits) W)
 |[],_,h,_=>h
 |r::t,_,h,ha=>MM (t:=t) (h.l0 (ha r (by simp))) fun x hx=>ha x (by simp[hx])
theorem Vm{bits:Int}{t:List Rt}(h: ∀r∈t,bg r.p=true):hQ (j6 bits t):=MM hQ.one h
def tc(bits:Int)(W:List Wy)(R:List Rt):Prop:= ∀r∈R,r.p.bits=bits-> ∀s,1<=s->s<=bD r.p->cC r.p.key s∈W
theorem MN{W:List Wy}{w:Wy}(h:w∈W):W[W.idxOf w]? =some w:=by
 have hl:=List.idxOf_lt_length_iff.2 h;rw[anC hl,List.getElem_idxOf]
theorem Vn{W:List Wy}{w:Wy}(h:w∈W):W.idxOf w<W.length:=List.idxOf_lt_length_iff.2 h
theorem Hp{W:List Wy}(hn:W.Nodup){i:Nat}{w:Wy}(h:W[i]? =some w):W.idxOf w=i:=by
 obtain⟨hi,rfl⟩:=ad2.1 h;exact List.Nodup.idxOf_getElem hn i hi
theorem get_inj{W:List Wy}(hn:W.Nodup){i j:Nat}{w:Wy}(h:W[i]? =some w)(h':W[j]? =some w):i=j:=by
 rw[←Hp hn h,Hp hn h']
def td(ns:List Nd)(node four:Nat):Bool:=decide (0<(ns.getD node Nd.zero).nx four)||decide (ns.length<512)
def te(ns:List Nd)(node four:Nat):Int:=if 0<(ns.getD node Nd.zero).nx four then(ns.getD node Nd.zero).nx four else if 512<=ns.length then 0 else ns.length
def tf(ns:List Nd)(node four:Nat):List Nd:=if 0<(ns.getD node Nd.zero).nx four\/512<=ns.length then ns else(ns++[Nd.zero]).set node ((ns.getD node Nd.zero).u7 four ns.length)
def nodes(bits:Int)(W:List Wy)(R:List Rt):List Nd:=W.map (fV bits W R)
@[simp] theorem yI (bits:Int)(W:List Wy)(R:List Rt):(nodes bits W R).length=W.length:=by simp[nodes]
theorem Dz{bits:Int}{W:List Wy}{R:List Rt}{i:Nat}{w:Wy}(h:W[i]? =some w):(nodes bits W R)[i]? =some (fV bits W R w):=by simp[nodes,h]
theorem MO{bits:Int}{W:List Wy}{R:List Rt}{i:Nat}{w:Wy}(h:W[i]? =some w):(nodes bits W R).getD i Nd.zero=fV bits W R w:=by
 rw[anU,Dz h];rfl
theorem yJ{W:List Wy}(hW:hQ W){w:Wy}{b:Nat}:0<pG W w b↔child w b∈W:=by
 unfold pG;split
 ·
  rename_i h;refine⟨fun _=>h,fun _=>?_⟩;rcases aor (W.idxOf (child w b))with e|e
  ·
   have h1:=MN h;rw[e,hW.root]at h1;have:=congrArg Wy.steps (ani h1);simp[child,root]at this
  exact_mod_cast e
 rename_i h;exact⟨fun h'=>absurd h' (by decide),fun h'=>absurd h' h⟩
theorem Vo{bits:Int}{w:Wy}{b:Nat}: ∀{R:List Rt},(∀r∈R,hit r bits w b=false)->lC bits R w b=fx.no:=by
 intro R
 suffices h: ∀(R:List Rt) (s:fx),(∀r∈R,hit r bits w b=false)->R.foldl (wT bits w b) s=s from fun hR=>h R _ hR
 intro R
 induction R with
 |nil=>intro s _;rfl
 |cons r R ih=>
  intro s hR;rw[apS,wT,if_neg (by rw[hR r (by simp)];simp)];exact ih s fun x hx=>hR x (by simp[hx])
theorem MP{r:Rt}{bits:Int}{w:Wy}{b:Nat}(hw:w.ok)(hb:b<16)(h:hit r bits w b=true)(hl:0<r.p.len):w=cC r.p.key w.steps:=by
 simp only[hit,anc,decide_eq_true_eq]at h;obtain⟨⟨h1,h2⟩,h3⟩:=h;obtain⟨_,_,h4⟩:=(kv _ _).1 h3;have hle:4*(w.steps:Int)<=r.p.len:=by rw[←h2];unfold bD;omega
 obtain⟨s,k⟩:=w;have hk:=Dv hw.1 hb hw.2;simp only at hk h4 hle⊢;rw[cC,←h4,C0,show min r.p.len ((4*s:Nat):Int)=((4*s:Nat):Int) by omega,hk]
theorem MQ{p:aJ}(h:p.len<=0):bD p=0:=by unfold bD;omega
theorem Vp{bits:Int}{W:List Wy}{R:List Rt}(hh:tc bits W R){w:Wy}{b:Nat}(hw:w.ok)(hb:b<16)(hs:0<w.steps)(hn:w∉W):lC bits R w b=fx.no:=
 Vo fun r hr=>by
  cases he:hit r bits w b with
  |false=>rfl
  |true=>
   have h':=he;simp only[hit,anc,decide_eq_true_eq]at h';obtain⟨⟨h1,h2⟩,h3⟩:=h';have hl:0<r.p.len:=by
    rcases Int.lt_or_le 0 r.p.len with h|h
    ·
     exact h
    rw[MQ h]at h2;omega
   have e:=MP hw hb he hl;exact absurd (e▸hh r hr h1 w.steps hs (by omega)) hn
section
variable {bits:Int} {W:List Wy} {R:List Rt} {w:Wy} {node b:Nat}
theorem Hq(hw:W[node]? =some w)(hb:b<16):((nodes bits W R).getD node Nd.zero).nx b=pG W w b:=by
 rw[MO hw,fV,Nd.jZ hb]
theorem Vq(hW:hQ W)(hw:W[node]? =some w)(hb:b<16)(hl:W.length<=512):td (nodes bits W R) node b=decide ((iY W (child w b)).length<=512):=by
 rw[td,Hq hw hb,yI]
 by_cases h:child w b∈W
 ·
  rw[decide_eq_true ((yJ hW).2 h),Bool.true_or,iY,if_pos h,decide_eq_true hl]
 rw[decide_eq_false (fun h'=>h ((yJ hW).1 h')),apP,iY,if_neg h,af0];simp;omega
theorem Vr(hW:hQ W)(hw:W[node]? =some w)(hb:b<16)(hl:(iY W (child w b)).length<=512):te (nodes bits W R) node b=((iY W (child w b)).idxOf (child w b):Nat):=by
 rw[te,Hq hw hb,yI]
 by_cases h:child w b∈W
 ·
  rw[if_pos ((yJ hW).2 h),iY,if_pos h,pG,if_pos h]
 rw[iY,if_neg h,af0]at hl;simp only[ang,anh]at hl;rw[if_neg (fun h'=>h ((yJ hW).1 h')),if_neg (by omega),iY,if_neg h,List.idxOf_append,if_neg h];simp
theorem Vs(hW:hQ W)(hw:W[node]? =some w)(hb:b<16)(hs:w.steps<31)(hh:tc bits W R)(hl:(iY W (child w b)).length<=512):tf (nodes bits W R) node b=nodes bits (iY W (child w b)) R:=by
 have Hr:=alM hw;have DA:=hW.ok w Hr;rw[tf,Hq hw hb,yI,MO hw]
 by_cases h:child w b∈W
 ·
  rw[if_pos (.inl ((yJ hW).2 h)),iY,if_pos h]
 rw[iY,if_neg h]at hl;simp only[af0,ang,anh]at hl;rw[if_neg (by rw[yJ hW];intro h';rcases h' with h'|h';exact h h';omega),iY,if_neg h]
 have AP:(child w b).ok:=⟨by simp only[child];omega,ME (by omega) hb DA.2⟩;have ca:(W++[child w b]).Nodup:=by have:=MI (w:=child w b) hW.nodup;rwa [iY,if_neg h]at this
 have nlt:node<W.length:=(ad2.1 hw).1;refine aok fun i=>?_;rcases apb i W.length with hi|hi|hi
 ·
  obtain⟨v,hv⟩: ∃v,W[i]? =some v:=⟨W[i],by simp[hi]⟩;have Vt:=alM hv;have e2:(W++[child w b])[i]? =some v:=by rw[ann hi];exact hv
  rw[Dz e2,aof];have nx: ∀c,c<16->pG (W++[child w b]) v c=if child v c=child w b then(W.length:Int)else pG W v c:=fun c hc=>by
   unfold pG
   by_cases h1:child v c=child w b
   ·
    rw[if_pos (by rw[h1];simp),if_pos h1,h1,List.idxOf_append,if_neg h];simp
   rw[if_neg h1]
   by_cases h2:child v c∈W
   ·
    rw[if_pos (by simp[h2]),if_pos h2,List.idxOf_append,if_pos h2]
   rw[if_neg (by simp[h1,h2]),if_neg h2]
  split
  ·
   rename_i e;subst e;rw[if_pos (by simp;omega)];obtain rfl:w=v:=ani (hw.symm.trans hv);refine congrArg some (Nd.ext' (fun c hc=>?_) fun c hc=>?_)
   ·
    rw[Nd.MC,fV,fV,Nd.jY hc,Nd.jY hc]
   rw[Nd.Hl hb,fV,fV,Nd.jZ hc,Nd.jZ hc,nx c hc]
   by_cases DB:b=c
   ·
    subst DB;rw[if_pos rfl,if_pos rfl]
   rw[if_neg DB,if_neg fun e=>DB (MG DA DA hc hb e).2.symm]
  rename_i e;rw[ann (by simpa using hi),Dz hv];refine congrArg some (Nd.ext' (fun c hc=>?_) fun c hc=>?_)
  ·
   rw[fV,fV,Nd.jY hc,Nd.jY hc]
  rw[fV,fV,Nd.jZ hc,Nd.jZ hc,nx c hc,if_neg fun e'=>?_];obtain⟨rfl,_⟩:=MG (hW.ok v Vt) DA hc hb e';exact e (get_inj hW.nodup hw hv)
 ·
  have e2:(W++[child w b])[i]? =some (child w b):=by rw[hi];simp
  rw[Dz e2,aof,if_neg (by omega),anr (by simp[hi])];simp only[yI,hi,aoI,List.getElem?_cons_zero];refine congrArg some (Nd.ext' (fun c hc=>?_) fun c hc=>?_)
  ·
   rw[Nd.Mz,fV,Nd.jY hc,Vp hh AP hc (by simp[child]) h]
  rw[Nd.MA,fV,Nd.jZ hc,pG,if_neg];intro hm;rcases anu.1 hm with hm|hm
  ·
   have:=hW.up _ hm (w.steps+1) (by simp only[child];omega);refine h ?_;have e3:cC (child (child w b) c).key (w.steps+1)=child w b:=by
    have:=Dv (k:=(child w b).key) (n:=w.steps+1) (b:=c) AP.1 hc AP.2;simp only[child,cC]at this⊢;rw[this]
   rwa [e3]at this
  have:=congrArg Wy.steps (anE.1 hm);simp[child]at this
 rw[ans (by simp;omega),ans (by simp;omega)]
end
def kx(p:aJ):Nat:=(4 -(p.len -4*(bD p:Int))).toNat
theorem AZ{p:aJ}(h:bg p=true):kx p<=4/\(p.len:Int)=4*(bD p:Int)+4 -(kx p:Int):=by
 obtain⟨_,h2,h3,_⟩:=(dW p).1 h;unfold kx bD;omega
theorem Vu{x y e:Nat}(hx:x<16)(hy:y<16)(he:e<=4)(h0:x%2^e=0):(x<=y/\y<x+2^e)↔ ∀j,e<=j->j<4->y.testBit j=x.testBit j:=by
 have hp:0<2^e:=Nat.two_pow_pos e;have hq:=aoW x (2^e);have hr:=aoW y (2^e);have hm:=aoP y hp;have key:(x<=y/\y<x+2^e)↔y/2^e=x/2^e:=by
  constructor
  ·
   rintro⟨h1,h2⟩;apply Nat.le_antisymm
   ·
    apply Nat.le_of_lt_succ;apply apJ;rw[Nat.mul_succ];omega
   exact Nat.div_le_div_right h1
  intro h;rw[h]at hr;omega
 rw[key];constructor
 ·
  intro h j h1 h2;have:=congrArg (fun z=>z.testBit (j -e)) h;simp only[apa]at this;rwa [show j -e+e=j by omega]at this
 intro h;refine aoY fun j=>?_;rw[apa,apa];rcases anl (j+e) 4 with hj|hj
 ·
  exact h _ (by omega) hj
 have hp:2^4<=2^(j+e):=an9 (by decide) hj;rw[aoz (anW hx hp),aoz (anW hy hp)]
theorem MR{p:aJ}(h:bg p=true):fG p.key (bD p)%2^kx p=0:=by
 obtain⟨h1,h2⟩:=AZ h;have hb:=(C5 p).1 h;have hl:=Dy h;refine aoY fun j=>?_;rw[Nat.testBit_mod_two_pow,Nat.zero_testBit]
 by_cases hj:j<kx p
 ·
  rw[AX _ _ _ hl (by omega),hb.2.2.2 _ (by omega) (by omega)];simp
 simp[hj]
theorem MS{p:aJ}(h:bg p=true):fG p.key (bD p)+2^kx p<=16:=by
 have h0:=MR h;have aZ:=s9 p.key (bD p);obtain⟨h1,_⟩:=AZ h;have:=aoW (fG p.key (bD p)) (2^kx p);generalize fG p.key (bD p)=x at*;generalize kx p=e at*
 match e,h1 with
 |0,_=>simp;omega
 |1,_=>simp at*;omega
 |2,_=>simp at*;omega
 |3,_=>simp at*;omega
 |4,_=>simp at*;omega
theorem DC{r:Rt}{bits:Int}{w:Wy}{b:Nat}(hr:bg r.p=true)(DD:r.p.bits=bits)(hw:w.ok)(hb:b<16):
  hit r bits w b=true↔w=cC r.p.key (bD r.p)/\fG r.p.key (bD r.p)<=b/\b<fG r.p.key (bD r.p)+2^kx r.p:=by
 obtain⟨wU,pC⟩:=AZ hr;have nP:=(C5 r.p).1 hr;have hl:=Dy hr;rw[Vu (s9 _ _) hb wU (MR hr)];constructor
 ·
  intro h;have fB:w=cC r.p.key (bD r.p):=by
   have h':=h;simp only[hit,anc,decide_eq_true_eq]at h';obtain⟨⟨h1,h2⟩,h3⟩:=h';rcases Int.lt_or_le 0 r.p.len with hl|hl
   ·
    rw[h2];exact MP hw hb h hl
   ·
    have h0:=MQ hl;rw[h0,yF];obtain⟨s,k⟩:=w;have hs:s=0:=by rw[h0]at h2;exact h2.symm
    subst hs;have:=hw.2;simp only[Nat.mul_zero]at this;rw[AA _ _ (by decide)]at this;rw[root,←this]
  refine⟨fB,fun j h1 h2=>?_⟩;subst fB;simp only[hit,anc,decide_eq_true_eq]at h;obtain⟨_,_,h4⟩:=(kv _ _).1 h.2;have hm:=congrArg (fun k:Key=>k.getMsbD (4*bD r.p+3 -j)) h4;simp only[mN]at hm;rw[decide_eq_true (by omega),aos]at hm;rw[AX _ _ _ hl h2,←hm];have e:=yG (k:=(cC r.p.key (bD r.p)).key) (n:=bD r.p) hl hb (AY _ _) (4*bD r.p+3 -j) (by omega);rw[if_neg (by omega),if_pos (by omega)]at e;have e':(qu (cC r.p.key (bD r.p)).key (cC r.p.key (bD r.p)).steps b).getMsbD (4*bD r.p+3 -j)=b.testBit (4*bD r.p+3 -(4*bD r.p+3 -j)):=e;rw[e'];congr 1;omega
 ·
  rintro⟨rfl,h⟩;simp only[hit,anc,decide_eq_true_eq];refine⟨⟨DD,rfl⟩,(kv _ _).2 ⟨hr,?_,?_⟩⟩
  ·
   have hf:=ME (k:=(cC r.p.key (bD r.p)).key) (n:=bD r.p) hl hb (AY _ _);refine(wE _ _).2 fun i hi h2=>?_;refine(wE _ _).1 hf i hi ?_;have:=nP.1;have h3:=nP.2.2.1;have h4:=nP.2.1;have:(bD r.p:Int)<=(r.p.bits -1)/4:=by unfold bD;omega
   omega
  ·
   refine rn fun i hi=>?_;have hm:=yG (k:=(cC r.p.key (bD r.p)).key) (n:=bD r.p) hl hb (AY _ _) i hi;have MT:(qu (cC r.p.key (bD r.p)).key (cC r.p.key (bD r.p)).steps b).getMsbD i=_:=hm;rw[mN,MT]
   by_cases h1:(i:Int)<r.p.len
   ·
    rw[decide_eq_true h1,aos]
    by_cases h2:i<4*bD r.p
    ·
     rw[if_pos h2];simp only[cC];rw[yH,decide_eq_true h2,aos]
    ·
     rw[if_neg h2,if_pos (by omega),h _ (by omega) (by omega),AX _ _ _ hl (by omega)];congr 1;omega
   ·
    rw[decide_eq_false h1,ao9,nP.2.2.2 i hi (by omega)]
def l4(bits:Int)(W:List Wy)(R:List Rt)(r:Rt)(f:Nat):List Nd:=W.map fun w=>
 if w=cC r.p.key (bD r.p)then Nd.mk' (fun b=>if b<f then lC bits (R++[r]) w b else lC bits R w b) (pG W w)else fV bits W R w
@[simp] theorem MU (bits:Int)(W:List Wy)(R:List Rt)(r:Rt)(f:Nat):(l4 bits W R r f).length=W.length:=by simp[l4]
section
variable {bits:Int} {W:List Wy} {R:List Rt} {r:Rt} {f:Nat}
theorem DE{w:Wy}{b:Nat}(h:hit r bits w b=false):lC bits (R++[r]) w b=lC bits R w b:=by
 rw[Ho,wT,if_neg (by rw[h];simp)]
theorem Vv(hW:hQ W)(hr:bg r.p=true)(hb:r.p.bits=bits):l4 bits W R r (fG r.p.key (bD r.p))=nodes bits W R:=by
 refine aoS fun w hw=>?_;split
 ·
  rename_i e;refine Nd.ext' (fun b cN=>?_) fun b cN=>by rw[fV,Nd.jZ cN,Nd.jZ cN]
  rw[fV,Nd.jY cN,Nd.jY cN];split
  ·
   rename_i aZ;refine DE ?_
   cases hh:hit r bits w b with
   |false=>rfl
   |true=>have:=(DC hr hb (hW.ok w hw) cN).1 hh;omega
  rfl
 rfl
theorem Vw(hW:hQ W)(hr:bg r.p=true)(hb:r.p.bits=bits):l4 bits W R r (fG r.p.key (bD r.p)+2^kx r.p)=nodes bits W (R++[r]):=by
 refine aoS fun w hw=>?_;split
 ·
  rename_i e;refine Nd.ext' (fun b cN=>?_) fun b cN=>by rw[fV,Nd.jZ cN,Nd.jZ cN]
  rw[fV,Nd.jY cN,Nd.jY cN];split
  ·
   rfl
  rename_i aZ;refine(DE ?_).symm
  cases hh:hit r bits w b with
  |false=>rfl
  |true=>have:=(DC hr hb (hW.ok w hw) cN).1 hh;omega
 rename_i e;refine Nd.ext' (fun b cN=>?_) fun b cN=>by rw[fV,fV,Nd.jZ cN,Nd.jZ cN]
 rw[fV,fV,Nd.jY cN,Nd.jY cN];refine(DE ?_).symm
 cases hh:hit r bits w b with
 |false=>rfl
 |true=>exact absurd ((DC hr hb (hW.ok w hw) cN).1 hh).1 e
theorem Hs(f:Nat){i:Nat}(hi:W[i]? =some (cC r.p.key (bD r.p))):(l4 bits W R r f)[i]? =some (Nd.mk' (fun b=>if b<f then lC bits (R++[r]) (cC r.p.key (bD r.p)) b else lC bits R (cC r.p.key (bD r.p)) b) (pG W (cC r.p.key (bD r.p)))):=by
 simp[l4,hi]
theorem MW{i:Nat}(hi:W[i]? =some (cC r.p.key (bD r.p)))(hf:f<16){n:Nd}(hn:(l4 bits W R r f)[i]? =some n):n.sl f=lC bits R (cC r.p.key (bD r.p)) f:=by
 rw[Hs f hi]at hn;obtain rfl:=(ani hn).symm;rw[Nd.jY hf,if_neg (by omega)]
theorem Vx(hW:hQ W)(hf: ¬(lC bits R (cC r.p.key (bD r.p)) f).len<=r.p.len):l4 bits W R r (f+1)=l4 bits W R r f:=by
 refine aoS fun w hw=>?_;split
 ·
  rename_i e;refine Nd.ext' (fun b cN=>?_) fun b cN=>by rw[Nd.jZ cN,Nd.jZ cN]
  rw[Nd.jY cN,Nd.jY cN]
  by_cases h1:b=f
  ·
   subst h1;rw[if_pos (by omega),if_neg (by omega),Ho,wT,if_neg];subst e;intro h;exact hf h.2
  by_cases h2:b<f
  ·
   rw[if_pos (by omega),if_pos h2]
  rw[if_neg (by omega),if_neg h2]
 rfl
theorem Vy(hW:hQ W)(hr:bg r.p=true)(hb:r.p.bits=bits){i:Nat}(hi:W[i]? =some (cC r.p.key (bD r.p))){n:Nd}(hn:(l4 bits W R r f)[i]? =some n)
  (h1:fG r.p.key (bD r.p)<=f) (h2:f<fG r.p.key (bD r.p)+2^kx r.p) (hf:(lC bits R (cC r.p.key (bD r.p)) f).len<=r.p.len):
  (l4 bits W R r f).set i (n.u6 f ⟨r.p.len+1,r.hop⟩)=l4 bits W R r (f+1):=by
 have Lo:=MS hr;have Hr:=alM hi;rw[Hs f hi]at hn;obtain rfl:=(ani hn).symm;refine aok fun j=>?_;rw[aof];split
 ·
  rename_i e;subst e;have dP:=(ad2.1 hi).1;rw[if_pos (by simpa using dP),Hs (f+1) hi];refine congrArg some (Nd.ext' (fun b cN=>?_) fun b cN=>by rw[Nd.MB,Nd.jZ cN,Nd.jZ cN]);rw[Nd.Du (by omega),Nd.jY cN,Nd.jY cN]
  by_cases h3:f=b
  ·
   subst h3;rw[if_pos rfl,if_pos (by omega),Ho,wT,if_pos ⟨(DC hr hb (hW.ok _ Hr) cN).2 ⟨rfl,h1,h2⟩,hf⟩]
  ·
   rw[if_neg h3]
   by_cases h4:b<f
   ·
    rw[if_pos h4,if_pos (by omega)]
   ·
    rw[if_neg h4,if_neg (by omega)]
 ·
  rename_i e;rcases anl j W.length with hj|hj
  ·
   obtain⟨v,hv⟩: ∃v,W[j]? =some v:=⟨W[j],by simp[hj]⟩;have cc:v≠cC r.p.key (bD r.p):=fun e'=>by subst e';exact e (get_inj hW.nodup hi hv)
   simp[l4,hv,cc]
  ·
   rw[ans (by simpa using hj),ans (by simpa using hj)]
end
theorem Vz{p:aJ}(h:0<=p.len):max (0:Int) ((p.len -1).tdiv 4)=((bD p:Nat):Int):=by
 unfold bD;rcases Int.lt_or_le 0 p.len with h1|h1
 ·
  rw[Int.tdiv_eq_ediv_of_nonneg (by omega)];omega
 obtain h2:p.len=0:=by omega
 rw[h2];decide
theorem VA{l:Int}(h0:0<=l)(h1:l<=128):0<=(l -1).tdiv 4/\(l -1).tdiv 4<=31:=by
 rcases Int.lt_or_le 0 l with h|h
 ·
  rw[Int.tdiv_eq_ediv_of_nonneg (by omega)];omega
 obtain h2:l=0:=by omega
 rw[h2];decide
theorem MX{W:List Wy}(hW:hQ W)(p:aJ)(i:Nat):cC p.key i∈df W p i:=by
 rcases aor i with e|e
 ·
  subst e;rw[yF,Hm];exact alM hW.root
 exact ta.2 (.inr ⟨i,e,anm _,rfl⟩)
theorem tc.mono{bits:Int}{W W':List Wy}{R:List Rt}(h:tc bits W R)(hp:W<+:W'):tc bits W' R:=fun r hr hb s h1 h2=>hp.subset (h r hr hb s h1 h2)
theorem Ht{bits:Int}: ∀(n:Nat) (t:List Rt),tc bits (j6 bits (t.take n)) (t.take n)
 |0,t=>by simp[tc]
 |n+1,t=>by
  rcases anl n t.length with h|h
  ·
   rw[aoH h,Hn];intro r hr hb s h1 h2;rcases anu.1 hr with hr|hr
   ·
    exact(Ht n t).mono ML r hr hb s h1 h2
   obtain rfl:=anE.1 hr;rw[l0,if_pos hb];exact ta.2 (.inr ⟨s,h1,h2,rfl⟩)
  rw[anx (by omega)];have:=Ht (bits:=bits) n t;rwa [anx h]at this
theorem A0{bits:Int}{t:List Rt}{i:Nat}{r:Rt}(h:t[i]? =some r):j6 bits (t.take (i+1))=l0 (j6 bits (t.take i)) r bits:=by
 obtain⟨hi,rfl⟩:=ad2.1 h;rw[aoH hi,Hn]
theorem VB{bits:Int}{t:List Rt}: ∀{i j:Nat},i<=j->j6 bits (t.take i)<+:j6 bits (t.take j):=by
 intro i j lN
 induction j with
 |zero=>obtain rfl:i=0:=by omega
        exact apm
 |succ j ih=>
  rcases anl j i with h|h
  ·
   obtain rfl:i=j+1:=by omega
   exact apm
  refine(ih h).trans ?_;rcases anl j t.length with h'|h'
  ·
   rw[aoH h',Hn];exact ML
  rw[anx (by omega),anx (by omega)];exact apm
theorem VC{bits:Int}{W:List Wy}{R:List Rt}{r:Rt}(h:r.p.bits≠bits):nodes bits W (R++[r])=nodes bits W R:=by
 refine aoS fun w hw=>?_;refine Nd.ext' (fun b cN=>?_) fun b cN=>by rw[fV,fV,Nd.jZ cN,Nd.jZ cN]
 rw[fV,fV,Nd.jY cN,Nd.jY cN,DE];simp[hit,h]
theorem VD(bits:Int):nodes bits [root] []=[Nd.zero]:=by
 have e:fV bits [root] [] root=Nd.zero:=Nd.ext' (fun b hb=>by rw[fV,Nd.jY hb,Nd.Mz];rfl) fun b hb=>by
  rw[fV,Nd.jZ hb,Nd.MA,pG,if_neg];intro h;have:=congrArg Wy.steps (anE.1 h);simp[child,root]at this
 simp[nodes,e]
theorem rD{t:List Rt}(h:bM t=true){r:Rt}(hr:r∈t):bg r.p=true:=by
 obtain⟨i,hi⟩:=aot.1 hr;have aZ:=(ad2.1 hi).1
 cases hm:bg r.p with
 |true=>rfl
 |false=>rw[C6 aZ (Lu hi hm)]at h;cases h
theorem u9{t:List Rt}(h:bM t=true):t.length<=256:=by
 rcases anl 256 t.length with h1|h1
 ·
  rw[GG h1]at h;cases h
 exact h1
def mV(t:List Rt)(bits:Int):Int:=if bM t=true/\(bits=32\/bits=128)then(if(j6 bits t).length<=512 then 0 else 5)else 1
def rE(t:List Rt)(bits:Int):Int:=if mV t bits=0 then bits else 0
def rF(t:List Rt)(bits:Int):List Nd:=if mV t bits=0 then nodes bits (j6 bits t) t else[]
theorem VE{t:List Rt}{bits:Int}(h: ¬(bM t=true/\(bits=32\/bits=128))):mV t bits=1/\rE t bits=0/\rF t bits=[]:=by
 have e:mV t bits=1:=by rw[mV,if_neg h]
 exact⟨e,by rw[rE,e];rfl,by rw[rF,e];rfl⟩
theorem VF{t:List Rt}{bits:Int}(h:bM t=true/\(bits=32\/bits=128))(h2: ¬(j6 bits t).length<=512):mV t bits=5/\rE t bits=0/\rF t bits=[]:=by
 have e:mV t bits=5:=by rw[mV,if_pos h,if_neg h2]
 exact⟨e,by rw[rE,e];rfl,by rw[rF,e];rfl⟩
theorem VG{t:List Rt}{bits:Int}(h:bM t=true/\(bits=32\/bits=128))(h2:(j6 bits t).length<=512):mV t bits=0/\rE t bits=bits/\rF t bits=nodes bits (j6 bits t) t:=by
 have e:mV t bits=0:=by rw[mV,if_pos h,if_pos h2]
 exact⟨e,by rw[rE,e];rfl,by rw[rF,e];rfl⟩
open Go.au
def bt(x:Int):Array Value:= #[.int .i64 x]
instance:bo bt 1:=⟨fun _=>rfl,fun _=>by simp[bt,Value.oneCell']⟩
instance (x:Int):bT (bt x) 0 (.int .i64 x):=⟨rfl⟩
instance:Deep Int:=Deep.flat bt 1
instance:fw Int bt 1:=⟨rfl,fun _=>rfl⟩
instance:Plain Int:=⟨fun _=>rfl⟩
def nQ(s:fx):Array Value:= #[.int .i64 s.len, .int .u16 s.hop.toNat]
instance:bo nQ 2:=⟨fun _=>rfl,fun _=>by simp[nQ,Value.oneCell']⟩
instance (s:fx):eZ (nQ s) 2:=⟨rfl,bo.one s⟩
instance (s:fx):bT (nQ s) 0 (.int .i64 s.len):=⟨rfl⟩
instance (s:fx):bT (nQ s) 1 (.int .u16 s.hop.toNat):=⟨rfl⟩
def pH(n:Nd)(j:Nat):Value:=if j<32 then(if j%2=0 then .int .i64 (n.sl (j/2)).len else .int .u16 (n.sl (j/2)).hop.toNat)else .int .i64 (n.nx (j -32))
def cU(n:Nd):Array Value:=((List.range 48).map (pH n)).toArray
theorem DF(n:Nd):(cU n).size=48:=by simp[cU]
theorem wV(n:Nd)(j:Nat)(h:j<48):(cU n)[j]? =some (pH n j):=by simp[cU,h]
theorem DG(n:Nd)(j:Nat)(h:48<=j):(cU n)[j]? =none:=by simp[cU];omega
instance:bo cU 48:=⟨DF,fun n=>by
 rw[anS];intro v hv;simp only[cU,List.mem_toArray,aoC]at hv;obtain⟨j,_,rfl⟩:=hv;unfold pH;split
 ·
  split<;>rfl
 rfl⟩
instance (n:Nd):eZ (cU n) 48:=⟨DF n,bo.one n⟩
instance:Deep Nd:=Deep.flat cU 48
instance:fw Nd cU 48:=⟨rfl,fun _=>rfl⟩
instance:Plain Nd:=⟨fun _=>rfl⟩
theorem Hu(n:Nd){b:Nat}(h:b<16):(cU n)[b*2]? =some (.int .i64 (n.sl b).len):=by
 rw[wV _ _ (by omega),pH,if_pos (by omega),if_pos (by omega),show b*2/2=b by omega]
theorem VH(n:Nd){b:Nat}(h:b<16):(cU n)[b*2+1]? =some (.int .u16 (n.sl b).hop.toNat):=by
 rw[wV _ _ (by omega),pH,if_pos (by omega),if_neg (by omega),show(b*2+1)/2=b by omega]
theorem MY(n:Nd){b:Nat}(h:b<16):(cU n)[32+b]? =some (.int .i64 (n.nx b)):=by
 rw[wV _ _ (by omega),pH,if_neg (by omega),show 32+b -32=b by omega]
theorem VI(n:Nd){b:Nat}(h:b<16):lQ (cU n) (b*2) 2 (nQ (n.sl b)):=⟨rfl,fun j hj=>by
 match j,hj with
 |0,_=>exact Hu n h
 |1,_=>exact VH n h⟩
theorem VJ(n:Nd){b:Nat}(h:b<16)(x:Int):over (cU n) (32+b) #[.int .i64 x]=cU (n.u7 b x):=aoG fun j=>by
 rw[sO (by rw[DF];simp;omega)];rcases anl j 48 with hj|hj
 ·
  rw[wV n j hj,wV (n.u7 b x) j hj];split
  ·
   rename_i h2;have e:j=32+b:=by simp at h2;omega
   subst e;rw[aoI,pH,if_neg (by omega),show 32+b -32=b by omega,Nd.Hl h,if_pos rfl];rfl
  rename_i h2;rw[pH,pH]
  by_cases h3:j<32
  ·
   rw[if_pos h3,if_pos h3,Nd.MC]
  rw[if_neg h3,if_neg h3,Nd.Hl h,if_neg];simp at h2;omega
 rw[if_neg (by simp;omega),DG _ _ hj,DG _ _ hj]
theorem VK(n:Nd){b:Nat}(h:b<16)(s:fx):over (cU n) (b*2) (nQ s)=cU (n.u6 b s):=aoG fun j=>by
 have hs:(nQ s).size=2:=rfl;rw[sO (by rw[DF,hs];omega),hs];rcases anl j 48 with hj|hj
 ·
  rw[wV n j hj,wV (n.u6 b s) j hj];split
  ·
   rename_i h2;rw[pH,if_pos (by omega)];rcases anl j (b*2+1)with h3|h3
   ·
    obtain rfl:j=b*2:=by omega
    rw[if_pos (by omega),show b*2/2=b by omega,Nd.Du h,if_pos rfl,aoI];rfl
   obtain rfl:j=b*2+1:=by omega
   rw[if_neg (by omega),show(b*2+1)/2=b by omega,Nd.Du h,if_pos rfl,show b*2+1 -b*2=1 by omega];rfl
  rename_i h2;rw[pH,pH]
  by_cases h3:j<32
  ·
   have cc: ¬b=j/2:=by omega
   rw[if_pos h3,if_pos h3,Nd.Du h];simp only[if_neg cc]
  rw[if_neg h3,if_neg h3,Nd.MB]
 rw[if_neg (by omega),DG _ _ hj,DG _ _ hj]
structure ky where
 bits:Int
 ns:Sl Nd
def dh(t:ky):Array Value:= #[.int .i64 t.bits,t.ns.sv.val]
instance:bo dh 2:=⟨fun _=>rfl,fun t=>by
 have h1:(Value.int .i64 t.bits).oneCell'=true:=rfl;simp only[dh,aoR,aoZ,ao8,Sv.one,h1,aoT]⟩
instance (t:ky):eZ (dh t) 2:=⟨rfl,bo.one t⟩
instance (t:ky):lQ (dh t) 0 2 (dh t):=⟨rfl,fun j _=>by rw[anG]⟩
instance (t:ky):bT (dh t) 0 (.int .i64 t.bits):=⟨rfl⟩
instance (t:ky):bT (dh t) 1 t.ns.sv.val:=⟨rfl⟩
instance:Deep ky where
 c:=2
 cells:=dh
 size:=bo.size
 one:=bo.one
 dO h x:=Deep.dO h x.ns
 bU x:=Deep.bU x.ns
 iW h x hs:=Deep.iW h x.ns hs
 mono w w' x:=Deep.mono w w' x.ns
variable {w0:World}{L:List ai}
instance{x:ky}[q:aS w0 L x]:aS w0 L x.ns:=⟨q.h⟩
instance{x:ky}[q:aS w0 L x]:Hd w0 L x.ns.sv cU 48 x.ns.xs:=(inferInstance:Hd w0 L x.ns.sv cU 48 x.ns.xs)
end Go.Kb
namespace Go.au
open Go.Kb
section
variable {P:Program} {N:bO} {w0:World} {env:Env} {L:List ai} {d:Option Tmp} {ty:TypeId} {ps:String} {af:Array Edge} {gd:Option (Nat×Bool)}
theorem iJ{x:Operand}{a:Addr}(hx:ev env x=some (.pointer (some a))):Ry P N w0 env L ⟨d, .nilCheck x,ty,ps,af,gd⟩ (.pointer (some a)):=fun _ w ha _=>by
 simp only[execOp,ha.ev hx,Sem.run_pure]
variable {s:Sv} {xs:List Nd} {a:Nd}
theorem MZ{t:TypeId}{x:Operand}{p:Nat}[ht:eY P t][q:Hd w0 L s cU 48 xs](hx:ev env x=some (.pointer (some ⟨s.b,p,none⟩)))(i:Nat)(hi:xs[i]? =some a)(b:Nat)(hb:b<16)(fb:p=s.o+i*48+32+b):
  Ry P N w0 env L ⟨d, .load t x,ty,ps,af,gd⟩ (.int .i64 (a.nx b)):=F4 (j:=32+b) hx q.h hi (by omega) (by omega) (MY a hb)
theorem VL{t:TypeId}{x:Operand}{p:Nat}[ht:eY P t][q:Hd w0 L s cU 48 xs](hx:ev env x=some (.pointer (some ⟨s.b,p,none⟩)))(i:Nat)(hi:xs[i]? =some a)(b:Nat)(hb:b<16)(fb:p=s.o+i*48+b*2):
  Ry P N w0 env L ⟨d, .load t x,ty,ps,af,gd⟩ (.int .i64 (a.sl b).len):=F4 (j:=b*2) hx q.h hi (by omega) (by omega) (Hu a hb)
theorem VM{t:TypeId}{x:Operand}{p:Nat}[ht:eu P t 2][q:Hd w0 L s cU 48 xs](hx:ev env x=some (.pointer (some ⟨s.b,p,none⟩)))(i:Nat)(hi:xs[i]? =some a)(b:Nat)(hb:b<16)(fb:p=s.o+i*48+b*2):
  Ry P N w0 env L ⟨d, .load t x,ty,ps,af,gd⟩ (.agg (nQ (a.sl b))):=
 have:=VI a hb
 F5 (j:=b*2) hx q.h hi (by omega) (by omega)
theorem VN{t T:TypeId}{x:Operand}{p k i:Nat}[ht:eY P t][q:Has L k (cU a) T i](hx:ev env x=some (.pointer (some ⟨k,p,none⟩)))(b:Nat)(hb:b<16)(fb:p=32+b):
  Ry P N w0 env L ⟨d, .load t x,ty,ps,af,gd⟩ (.int .i64 (a.nx b)):=qe hx (by rw[fb];exact MY a hb)
theorem VO{t T:TypeId}{x:Operand}{p k i:Nat}[ht:eY P t][q:Has L k (cU a) T i](hx:ev env x=some (.pointer (some ⟨k,p,none⟩)))(b:Nat)(hb:b<16)(fb:p=b*2):
  Ry P N w0 env L ⟨d, .load t x,ty,ps,af,gd⟩ (.int .i64 (a.sl b).len):=qe hx (by rw[fb];exact Hu a hb)
end
section
variable {P:Program} {N:bO} {w0:World} {env:Env} {L:List ai} {l:List Oper} {Q:Exit->Act->World->Prop} {rest:List Oper} {ty:TypeId} {ps:String} {af:Array Edge}
variable {s:Sv} {xs:List Nd} {a:Nd}
theorem VP{t:TypeId}{x y:Operand}{i k p:Nat}{v:fx}[ht:eu P t 2](hx:ev env x=some (.pointer (some ⟨s.b,p,none⟩)))(hy:ev env y=some (.agg (nQ v)))[q:dV L s cU 48 xs i](ha:xs[k]? =some a)(b:Nat)(hb:b<16)(fb:p=s.o+k*48+b*2){L':List ai}[hu:eM L i (own cU 48 s (xs.set k (a.u6 b v))) L'](hk:Sq P N w0 l Q rest env L'):
  Sq P N w0 l Q (⟨none, .store t x y,ty,ps,af,none⟩::rest) env L:=
 jy (j:=b*2) (n:=2) (a':=a.u6 b v) ht.size hx hy (q:=q) (by omega) ha (bo.one v) rfl (by omega) (VK a hb v) hk
theorem M0{t:TypeId}{x y:Operand}{i k p:Nat}{s:Sv}{xs:List Int}{a v:Int}[ht:eY P t](hx:ev env x=some (.pointer (some ⟨s.b,p,none⟩)))(hy:ev env y=some (.int .i64 v))[q:dV L s bt 1 xs i](ha:xs[k]? =some a)(fb:p=s.o+k*1){L':List ai}[hu:eM L i (own bt 1 s (xs.set k v)) L'](hk:Sq P N w0 l Q rest env L'):
  Sq P N w0 l Q (⟨none, .store t x y,ty,ps,af,none⟩::rest) env L:=
 jy (j:=0) (n:=1) (a':=v) ht.size hx hy (q:=q) (by omega) ha (by simp[Value.cells,Value.oneCell']) rfl (by omega) (by rfl) hk
end
end Go.au
namespace Go.Kb
open Go.au
theorem tg(k:IntKind)(n:Int):(Value.int k n).oneCell'=true:=rfl
theorem th(b:Bool):(Value.bool b).oneCell'=true:=rfl
instance:fq Int:=fq.flat fun _ _=>trivial
structure Ft where
 op:Int
 fail:Bool
 cut:Bool
 mask:UInt8
 deriving DecidableEq
def dG(x:Ft):Array Value:= #[.int .i64 x.op, .bool x.fail, .bool x.cut, .int .u8 x.mask.toNat]
instance:bo dG 4:=⟨fun _=>rfl,fun x=>by
 simp only[dG,aoR,aoZ,ao8,Sv.one,tg,th,aoT]⟩
instance (x:Ft):eZ (dG x) 4:=⟨rfl,bo.one x⟩
instance (x:Ft):bT (dG x) 0 (.int .i64 x.op):=⟨rfl⟩
instance (x:Ft):bT (dG x) 1 (.bool x.fail):=⟨rfl⟩
instance (x:Ft):bT (dG x) 2 (.bool x.cut):=⟨rfl⟩
instance (x:Ft):bT (dG x) 3 (.int .u8 x.mask.toNat):=⟨rfl⟩
instance:Deep Ft:=Deep.flat dG 4
instance:Plain Ft:=⟨fun _=>rfl⟩
instance:fq Ft:=fq.flat fun _ _=>trivial
instance:fw Ft dG 4:=⟨rfl,fun _=>rfl⟩
def yK:Ft:=⟨0,false,false,0⟩
structure Bk where
 ab:Sl (Sl UInt8)
 used:Int
 bj:Int
 bad:Bool
def bP(x:Bk):Array Value:= #[x.ab.sv.val, .int .i64 x.used, .int .i64 x.bj, .bool x.bad]
instance:bo bP 4:=⟨fun _=>rfl,fun x=>by
 simp only[bP,aoR,aoZ,ao8,Sv.one,tg,th,aoT]⟩
instance (x:Bk):eZ (bP x) 4:=⟨rfl,bo.one x⟩
instance (x:Bk):bT (bP x) 0 (x.ab.sv.val):=⟨rfl⟩
instance (x:Bk):bT (bP x) 1 (.int .i64 x.used):=⟨rfl⟩
instance (x:Bk):bT (bP x) 2 (.int .i64 x.bj):=⟨rfl⟩
instance (x:Bk):bT (bP x) 3 (.bool x.bad):=⟨rfl⟩
instance:Deep Bk where
 c:=4
 cells:=bP
 size:=bo.size
 one:=bo.one
 dO h x:=Deep.dO h x.ab
 bU x:=Deep.bU x.ab
 iW h x hs:=Deep.iW h x.ab hs
 mono w w' x hg hb:=Deep.mono w w' x.ab hg hb
instance:fq Bk where
 reach x k:=fq.reach x.ab k
 congr h h' x e hg:=fq.congr h h' x.ab (fun k hk=>e k (hk)) hg
variable {w0:World}{L:List ai}
instance{x:Bk}[q:aS w0 L x]:aS w0 L x.ab:=⟨fun w hw=>(q.h w hw)⟩
instance:fw Bk bP 4:=⟨rfl,fun _=>rfl⟩
def oD:Bk:=⟨⟨Sv.none,[]⟩,0,0,false⟩
structure Cp where
 ab:Int
 size:Int
 blocks:Sl Bk
 ops:Int
 off:Bool
 bc:Sl Ft
def aR(x:Cp):Array Value:= #[.int .i64 x.ab, .int .i64 x.size,x.blocks.sv.val, .int .i64 x.ops, .bool x.off,x.bc.sv.val]
instance:bo aR 6:=⟨fun _=>rfl,fun x=>by
 simp only[aR,aoR,aoZ,ao8,Sv.one,tg,th,aoT]⟩
instance (x:Cp):eZ (aR x) 6:=⟨rfl,bo.one x⟩
instance (x:Cp):bT (aR x) 0 (.int .i64 x.ab):=⟨rfl⟩
instance (x:Cp):bT (aR x) 1 (.int .i64 x.size):=⟨rfl⟩
instance (x:Cp):bT (aR x) 2 (x.blocks.sv.val):=⟨rfl⟩
instance (x:Cp):bT (aR x) 3 (.int .i64 x.ops):=⟨rfl⟩
instance (x:Cp):bT (aR x) 4 (.bool x.off):=⟨rfl⟩
instance (x:Cp):bT (aR x) 5 (x.bc.sv.val):=⟨rfl⟩
instance:Deep Cp where
 c:=6
 cells:=aR
 size:=bo.size
 one:=bo.one
 dO h x:=Deep.dO h x.blocks/\Deep.dO h x.bc
 bU x:= .two (Deep.bU x.blocks) (Deep.bU x.bc)
 iW h x hs:=⟨Deep.iW h x.blocks hs.1,Deep.iW h x.bc hs.2.1⟩
 mono w w' x hg hb:=⟨Deep.mono w w' x.blocks hg.1 hb,Deep.mono w w' x.bc hg.2 hb⟩
instance:fq Cp where
 reach x k:=fq.reach x.blocks k\/fq.reach x.bc k
 congr h h' x e hg:=⟨fq.congr h h' x.blocks (fun k hk=>e k (.inl hk)) hg.1,fq.congr h h' x.bc (fun k hk=>e k (.inr hk)) hg.2⟩
instance{x:Cp}[q:aS w0 L x]:aS w0 L x.blocks:=⟨fun w hw=>(q.h w hw).1⟩
instance{x:Cp}[q:aS w0 L x]:aS w0 L x.bc:=⟨fun w hw=>(q.h w hw).2⟩
instance{ab:Int}{size:Int}{blocks:Sl Bk}{ops:Int}{off:Bool}{bc:Sl Ft}[q0:aS w0 L blocks][q1:aS w0 L bc]:aS w0 L (Cp.mk ab size blocks ops off bc):=⟨fun w hw=>⟨q0.h w hw,q1.h w hw⟩⟩
def fM:Cp:=⟨0,0,⟨Sv.none,[]⟩,0,false,⟨Sv.none,[]⟩⟩
end Go.Kb
namespace Go.au
theorem dq.cut{α:Type}{enc:α->Array Value}{c:Nat}{h:Nat->Option Obj}{s:Sv}{xs:List α}(r:dq enc c h s xs){lo hi:Nat}(h1:lo<=hi)(h2:hi<=xs.length):dq enc c h ⟨s.nil,s.b,if hi=lo then s.o else s.o+lo*c,hi -lo,hi -lo,s.sp⟩ ((xs.drop lo).take (hi -lo)):=by
  have hl:=r.len;have hle:=r.ok.le;have hU:=r.ok.bd;refine⟨⟨fun hn=>?_,anm _,?_,fun hc=>?_⟩,?_,fun i x lO j hj=>?_⟩
  ·have:=r.ok.nil hn
   simp only at this⊢;omega
  ·simp only;omega
  ·simp only at hc⊢;exact r.ok.sp (by omega)
  ·simp;omega
  ·have dP:=(ad2.1 lO).1
   rw[anj,ant]at dP;have hx:xs[lo+i]? =Option.some x:=by rw[apg,if_pos (by omega),aom]at lO;exact lO
   have:=r.row (lo+i) x hx j hj;simp only;rw[if_neg (by omega),show s.o+lo*c+i*c+j=s.o+(lo+i)*c+j by rw[anF];omega];exact this
end Go.au
namespace Go.Kb
open Go.au
structure BV where
  ab:List (List UInt8)
  used:Int
  bj:Int
  bad:Bool
  deriving DecidableEq
structure CV where
  ab:Int
  size:Int
  blocks:List BV
  ops:Int
  off:Bool
  bc:List Ft
  deriving DecidableEq
def aL(l:List (Sl UInt8)):List (List UInt8):=l.map fun x=>x.xs
theorem mW(l:List (Sl UInt8)):(aL l).length=l.length:=by simp[aL]
theorem oE{l:List (Sl UInt8)}{i:Nat}{x:Sl UInt8}(h:l[i]? =some x):(aL l)[i]? =some x.xs:=by simp[aL,h]
def bv(b:Bk):BV:=⟨aL b.ab.xs,b.used,b.bj,b.bad⟩
def ia(l:List Bk):List BV:=l.map bv
theorem fW(l:List Bk):(ia l).length=l.length:=by simp[ia]
theorem lD{l:List Bk}{i:Nat}{x:Bk}(h:l[i]? =some x):(ia l)[i]? =some (bv x):=by simp[ia,h]
def cv(c:Cp):CV:=⟨c.ab,c.size,ia c.blocks.xs,c.ops,c.off,c.bc.xs⟩
def win(rm:Sv)(lo hi:Nat):Sv:=⟨rm.nil,rm.b,if hi=lo then rm.o else rm.o+lo,hi -lo,hi -lo,rm.sp⟩
def cV(rm:Sv):Nat->List (List UInt8)->List (Sl UInt8)
  |_,[]=>[]
  |o,p::r=>⟨win rm o (o+p.length),p⟩::cV rm (o+p.length) r
theorem va(rm:Sv): ∀(o:Nat) (l:List (List UInt8)),aL (cV rm o l)=l
  |_,[]=>rfl
  |o,p::r=>by
   have:=va rm (o+p.length) r;simp only[aL,cV,anX]at this⊢;rw[this]
theorem Hv(rm:Sv): ∀(o:Nat) (l:List (List UInt8)),(cV rm o l).length=l.length
  |_,[]=>rfl
  |o,p::r=>by rw[cV,ang,ang,Hv]
theorem DH(rm:Sv): ∀(o:Nat) (l:List (List UInt8)) (x:Sl UInt8),x∈cV rm o l->x.sv.b=rm.b
  |_,[],_,h=>by cases h
  |o,p::r,x,h=>by
   rcases ank.1 h with rfl|h
   ·rfl
   ·exact DH rm _ r x h
theorem M1(rm:Sv): ∀(o:Nat) (l:List (List UInt8)) (p:List UInt8),cV rm o (l++[p])=cV rm o l++[⟨win rm (o+l.flatten.length) (o+l.flatten.length+p.length),p⟩]
  |o,[],p=>by simp[cV]
  |o,q::r,p=>by
   rw[aoq,cV,M1,cV];simp only[aow,af0,aoq,aoD]
theorem M3{rm:Sv}{h:Nat->Option Obj}{all:List UInt8}(hl:dq aP 1 h rm all): ∀(o:Nat) (l:List (List UInt8)),o+l.flatten.length<=all.length->(all.drop o).take l.flatten.length=l.flatten-> ∀x∈cV rm o l,dq aP 1 h x.sv x.xs
  |_,[],_,_,_,hx=>by cases hx
  |o,p::r,hb,he,x,hx=>by
   rw[aow,af0]at hb;rw[aow,af0]at he
   have e1:(all.drop o).take p.length=p:=by
      have:=congrArg (List.take p.length) he;rw[List.take_take,apB (by omega),List.take_left']at this
      ·exact this
      ·rfl
   have e2:(all.drop (o+p.length)).take r.flatten.length=r.flatten:=by
      have:=congrArg (List.drop p.length) he;rw[List.drop_take,ap0,List.drop_left' rfl,show p.length+r.flatten.length -p.length=r.flatten.length by omega]at this;exact this
   rcases ank.1 hx with rfl|hx
   ·have:=hl.cut (lo:=o) (hi:=o+p.length) (by omega) (by omega)
    rw[aoy,show o+p.length -o=p.length by omega,e1]at this;simpa[win]using this
   ·exact M3 hl (o+p.length) r (by omega) e2 x hx
def yL(a:Sl (Sl UInt8)):ai:=⟨fun k=> ∃x∈a.xs,k=x.sv.b,fun h=>a.xs=[]\/ ∃rm,rm.nil=false/\a.xs=cV rm 0 (aL a.xs)/\(own aP 1 rm (aL a.xs).flatten).sat h,fun h h' e s=>by
  rcases s with s|⟨rm,h1,h2,h3⟩
  ·exact .inl s
  ·rcases List.eq_nil_or_concat a.xs with hx|⟨l,x,hx⟩
   ·exact .inl hx
   ·have hm:x∈a.xs:=by rw[hx];simp
    have hb:x.sv.b=rm.b:=DH rm 0 _ x (h2▸hm);exact .inr ⟨rm,h1,h2,(own aP 1 rm (aL a.xs).flatten).loc h h' (fun k hk=>e k ⟨x,hm,by rw[hb];exact hk.2⟩) h3⟩⟩
def eG(a:Sl (Sl UInt8)):ai:= .two (own (bQ (τ:=UInt8)) 1 a.sv a.xs) (yL a)
theorem VQ{a:Sl (Sl UInt8)}{h:Nat->Option Obj}(s:(yL a).sat h): ∀x∈a.xs,dq aP 1 h x.sv x.xs:=fun x hx=>by
  rcases s with s|⟨rm,h1,h2,h3⟩
  ·rw[s]at hx;cases hx
  ·refine M3 h3.1 0 (aL a.xs) (by omega) (by rw[aoO,anD]) x (h2▸hx)
theorem A1{α:Type}{enc:α->Array Value}{c:Nat}{s:Sv}{xs:List α}{h:Nat->Option Obj}(hl:dq enc c h s xs)(hx:xs≠[]):(own enc c s xs).fp s.b:=
  ⟨hl.ok.some (by have:=hl.len;have:=apd.2 hx;omega),rfl⟩
theorem ai.DI{k:Nat}: ∀{es:List ai} {e:ai},e∈es->e.fp k->(ai.all es).fp k
  |_::_,_,he,hk=>(ank.1 he).elim (fun h=> .inl (h▸hk)) fun h=> .inr (ai.DI h hk)
theorem M4{α:Type}{e:α}: ∀{L:List α} {i:Nat},L[i]? =Option.some e->L.Perm (e::L.eraseIdx i)
  |[],i,h=>by simp at h
  |x::L,0,h=>by obtain rfl:x=e:=by simpa using h
                simp
  |x::L,i+1,h=>by
   have:=M4 (L:=L) (i:=i) (by simpa using h);rw[apO];exact(this.cons x).trans (.swap _ _ _)
theorem Mem.pick{τ:Type}{f:τ->ai}{w0 w:World}{L:List ai}{xs:List τ}{i:Nat}{x:τ}(hx:xs[i]? =some x):Mem w0 (ai.all (xs.map f)::L) w↔Mem w0 (f x::ai.all ((xs.eraseIdx i).map f)::L) w:=by
  have hp:(xs.map f).Perm (f x::(xs.eraseIdx i).map f):=by
    have:=M4 hx;simpa using this.map f
  rw[Mem.Au];have e:Mem w0 (f x::ai.all ((xs.eraseIdx i).map f)::L) w↔Mem w0 (f x::((xs.eraseIdx i).map f++L)) w:=by
    have sw: ∀(a b:ai) (K:List ai),Mem w0 (a::b::K) w↔Mem w0 (b::a::K) w:=fun a b K=>⟨fun h=>h.perm (List.Perm.swap _ _ _),fun h=>h.perm (List.Perm.swap _ _ _)⟩;rw[sw,Mem.Au];exact⟨fun h=>h.perm ao7,fun h=>h.perm ao7.symm⟩
  rw[e];exact⟨fun h=>h.perm (hp.append_right L),fun h=>h.perm (hp.append_right L).symm⟩
theorem VR{w0 w:World}{L:List ai}{a:Sl Bk}(h:Mem w0 (own bP 4 a.sv a.xs::ai.all (a.xs.map fun b:Bk=>eG b.ab)::L) w):Mem w0 (fz a::L) w:=by
  have hs:=h.sat (own bP 4 a.sv a.xs) (by simp);have ha:=h.sat (ai.all (a.xs.map fun b:Bk=>eG b.ab)) (by simp);have hb: ∀x∈a.xs,(eG x.ab).sat fun k=>w.heap[k]? :=fun x hx=>ai.Av ha _ (an6 hx);refine Mem.freeze (es:=[own bP 4 a.sv a.xs,ai.all (a.xs.map fun b:Bk=>eG b.ab)]) a ⟨hs.1,fun x hx=>⟨(hb x hx).1.1,fun y hy=>⟨VQ (hb x hx).2.1 y hy,fun _ _=>trivial⟩⟩⟩ (fun k hk=>?_) h;rcases hk with⟨cc,rfl⟩|⟨x,hx,hk⟩
  ·exact⟨_,by simp,A1 hs.1 cc⟩
  ·refine⟨ai.all (a.xs.map fun b:Bk=>eG b.ab),by simp,ai.DI (an6 hx) ?_⟩
   rcases hk with⟨cc,rfl⟩|⟨y,hy,⟨_,rfl⟩|⟨_,_,hf⟩⟩
   ·exact .inl (A1 (hb x hx).1.1 cc)
   ·exact .inr ⟨y,hy,rfl⟩
   ·exact hf.elim
theorem DJ{τ:Type}[Deep τ][r:fq τ][Plain τ]{enc:τ->Array Value}{c:Nat}[f:fw τ enc c](hr: ∀(x:τ) k,¬r.reach x k)(hg: ∀h (x:τ),Deep.dO h x){w0 w:World}{L:List ai}{a:Sl τ}(h:Mem w0 (own enc c a.sv a.xs::L) w):Mem w0 (fz a::L) w:=by
  have hs:=h.sat (own enc c a.sv a.xs) (by simp);have e1:Deep.cells (τ:=τ)=enc:=funext (fw.h (c:=c));have e2:Deep.c τ=c:=fw.hc (enc:=enc);refine Mem.Vc a ⟨by rw[e1,e2];exact hs.1,fun x _=>hg _ x⟩ (fun k hk=>?_) h;rcases hk with⟨cc,rfl⟩|⟨x,_,hk⟩
  ·exact A1 hs.1 cc
  ·exact(hr x k hk).elim
theorem DK{w0 w:World}{L:List ai}{d:Cp}(h:Mem w0 (fz d.blocks::fz d.bc::L) w):Mem w0 (fz d::L) w:=by
  refine Mem.freeze (es:=[fz d.blocks,fz d.bc]) d ⟨h.sat (fz d.blocks) (by simp),h.sat (fz d.bc) (by simp)⟩ (fun k hk=>?_) h;rcases hk with hk|hk
  ·exact⟨fz d.blocks,by simp,hk⟩
  ·exact⟨fz d.bc,by simp,hk⟩
theorem M5{w0 w:World}{L:List ai}{a:Sl Ft}(h:Mem w0 (own dG 4 a.sv a.xs::L) w):Mem w0 (fz a::L) w:=DJ (fun _ _ h=>h) (fun _ _=>trivial) h
theorem wW{w0 w:World}{L:List ai}{a:Sl Int}(h:Mem w0 (own bt 1 a.sv a.xs::L) w):Mem w0 (fz a::L) w:=DJ (fun _ _ h=>h) (fun _ _=>trivial) h
theorem Hw{w0 w:World}{L:List ai}{a:Sl UInt8}(h:Mem w0 (own aP 1 a.sv a.xs::L) w):Mem w0 (fz a::L) w:=DJ (fun _ _ h=>h) (fun _ _=>trivial) h
def dK:Int:=1099511627776
def ti(b p s:Int):Bool:=decide (1<=b)&&decide (b<=32)&&decide (1<=p)&&decide (p<=16)&&decide (1<=s)&&decide (s<=256)
theorem kz{b p s:Int}:ti b p s=true↔1<=b/\b<=32/\1<=p/\p<=16/\1<=s/\s<=256:=by
 simp only[ti,anc,decide_eq_true_eq,and_assoc]
def M6(s:Int)(x:List UInt8):Bool:=decide ((x.length:Int)=s)
def oG(p s:Int)(b:BV):Bool:=decide ((b.ab.length:Int)=p)&&decide (0<=b.used)&&decide (b.used<=p)&&decide (0<=b.bj)&&decide (b.bj<=dK)&&b.ab.all (M6 s)
theorem gy{p s:Int}{b:BV}:oG p s b=true↔(b.ab.length:Int)=p/\0<=b.used/\b.used<=p/\0<=b.bj/\b.bj<=dK/\ ∀x∈b.ab,(x.length:Int)=s:=by
 simp only[oG,M6,anc,decide_eq_true_eq,and_assoc,anw]
def bl(c:CV):Bool:=ti c.blocks.length c.ab c.size&&decide (0<=c.ops)&&decide (c.ops<=dK)&&decide (c.bc.length<=64)&&c.blocks.all (oG c.ab c.size)
theorem eP{c:CV}:bl c=true↔ti c.blocks.length c.ab c.size=true/\0<=c.ops/\c.ops<=dK/\c.bc.length<=64/\ ∀b∈c.blocks,oG c.ab c.size b=true:=by
 simp only[bl,anc,decide_eq_true_eq,and_assoc,anw]
def kA(c:CV)(block:Int):Bool:=bl c&&decide (0<=block)&&decide (block<c.blocks.length)
theorem kB{c:CV}{block:Int}:kA c block=true↔bl c=true/\0<=block/\block<c.blocks.length:=by
 simp only[kA,anc,decide_eq_true_eq,and_assoc]
def VS:BV:=⟨[],0,0,false⟩
def aA(c:CV)(block:Int):BV:=c.blocks.getD block.toNat VS
def gW(n:Int):List UInt8:=List.replicate n.toNat 255
def tj(b p s:Int):CV×Int:=if ti b p s=true then(⟨p,s,List.replicate b.toNat ⟨List.replicate p.toNat (gW s),0,0,false⟩,0,false,[]⟩,0)else(⟨0,0,[],0,false,[]⟩,1)
def bE(c:CV):Ft×Bool:=match c.bc.find? fun f=>decide (f.op=c.ops)with
 |some f=>(f,f.cut||f.fail)
 |none=>(yK,false)
def mX(f:Ft):Int:=if f.cut=true then 7 else 9
def rG(c:CV)(block mY:Int)(p:List UInt8):Bool:=kA c block&&decide (0<=mY)&&decide (mY<c.ab)&&decide ((p.length:Int)=c.size)&&decide (c.ops<dK)
theorem nR{c:CV}{block mY:Int}{p:List UInt8}:rG c block mY p=true↔kA c block=true/\0<=mY/\mY<c.ab/\(p.length:Int)=c.size/\c.ops<dK:=by
 simp only[rG,anc,decide_eq_true_eq,and_assoc]
def cP(m:UInt8)(p:List UInt8):List UInt8:=p.map fun x=>x|||m
def yM(c:CV)(p:List UInt8):List UInt8:=if(bE c).2=true then cP (~~~(bE c).1.mask) p else p
def oH(c:CV)(block mY:Int)(p:List UInt8):CV:=
 {c with ops:=c.ops+1,off:=(bE c).2&&(bE c).1.cut,blocks:=c.blocks.set block.toNat {aA c block with used:=(aA c block).used+1,ab:=(aA c block).ab.set mY.toNat (yM c p)}}
def kS(c:CV)(block mY:Int)(p:List UInt8):Int:=
 if rG c block mY p=true then(if c.off=true then 7 else if(aA c block).bad=true\/mY≠(aA c block).used then 9 else if(bE c).2=true then mX (bE c).1 else 0)else 1
def mZ(c:CV)(block mY:Int)(p:List UInt8):CV:=
 if rG c block mY p=true/\c.off=false/\(aA c block).bad=false/\mY=(aA c block).used then oH c block mY p else c
def rH(c:CV)(block:Int):Bool:=kA c block&&decide (c.ops<dK)&&decide ((aA c block).bj<dK)
theorem wX{c:CV}{block:Int}:rH c block=true↔kA c block=true/\c.ops<dK/\(aA c block).bj<dK:=by
 simp only[rH,anc,decide_eq_true_eq,and_assoc]
def vb(c:CV)(ps:List (List UInt8)):List (List UInt8):=if(bE c).2=true then ps.map (cP (bE c).1.mask)else ps.map fun _=>gW c.size
def rI(c:CV)(block:Int):CV:=
 {c with ops:=c.ops+1,off:=(bE c).2&&(bE c).1.cut,blocks:=c.blocks.set block.toNat {aA c block with used:=if(bE c).2=true then c.ab else 0,bj:=(aA c block).bj+1,ab:=vb c (aA c block).ab}}
def dX(c:CV)(block:Int):Int:=
 if rH c block=true then(if c.off=true then 7 else if(aA c block).bad=true then 9 else if(bE c).2=true then mX (bE c).1 else 0)else 1
def nf(c:CV)(block:Int):CV:=if rH c block=true/\c.off=false/\(aA c block).bad=false then rI c block else c
def rJ(c:CV)(block:Int):Int:=if kA c block=true then(if c.off=true then 7 else 0)else 1
def qv(c:CV)(block:Int):CV:=if rJ c block=0 then{c with blocks:=c.blocks.set block.toNat {aA c block with bad:=true}}else c
def vc(c:CV)(fs:List Ft):Int:=if bl c=true/\fs.length<=64 then 0 else 1
def A2(c:CV)(fs:List Ft):CV:=if vc c fs=0 then{c with off:=false,bc:=fs}else c
theorem DL{c:CV}{block:Int}(h:kA c block=true):c.blocks[block.toNat]? =some (aA c block):=by
 obtain⟨_,h2,h3⟩:=kB.1 h;exact mL (by omega)
theorem vd{c:CV}{block:Int}(h:kA c block=true):oG c.ab c.size (aA c block)=true:=
 (eP.1 (kB.1 h).1).2.2.2.2 _ (alM (DL h))
end Go.Kb
