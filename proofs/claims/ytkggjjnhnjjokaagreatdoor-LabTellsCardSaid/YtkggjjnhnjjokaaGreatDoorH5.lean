/- Laws and walks by which the law LabTells is proved, each with its own conditions. -/
import Derived.Test.YtkggjjnhnjjokaaGreatDoorH4
set_option maxRecDepth 20000
set_option linter.unusedSimpArgs false
set_option linter.unusedVariables false
namespace Go.Proofs.YtkggjjnhnjjokaaGreatDoor
open Go.ax Go.Kb Go.RowKit Go.Proofs.Tryz
variable {w0:World}{L:List ai}
instance aqQ{b:Sv}{bs:List UInt8}[hb:dG w0 L aQ 1 b bs]:bV prog 269 w0 L [.int .u32 0,b.val] (.int .u32 (pI bs:Nat)) (True):=⟨fun aC w hw=>by
 have hb:=hb.h w hw;have zF:Gv w b aQ 1 bs:=⟨hb⟩;have kv:=hb.bd;refine dD func269 rfl ntmps269 rfl ?_;refine ar ?_;refine ag (R7 (p:=0) rfl rfl dDq) (aY ?_);refine cg (X:=Nat) (fun U=>[(13, .int .i64 (U:Nat)),(5, .int .u32 (lr 4294967295 (bs.take U):Nat)),(11,b.val),(12, .int .i64 (bs.length:Nat))]) (fun U=>[]) (fun U=>U<=bs.length) (fun U=>bs.length -U) 0 (auo _) sb (fun w hw=>ah.mem hw) ?_;rintro i hi;have bq:lr 4294967295 (bs.take i)<2^32:=GG dDq _;refine al ?_;refine Gb ?_ ?_<;>intro h0
 ·
  obtain⟨y,he⟩:=get_some (xs:=bs) (i:=i) oM;have hy:=y.toNat_lt;have eM:lr 4294967295 (bs.take i)^^^y.toNat<2^32:=awQ (GG dDq _) oM;refine Gc ?_;refine ag (bf rfl rfl i rfl oM) (ag (bW (j:=0) rfl i he rfl dDq) (ar ?_));refine ag (mw rfl (by simp only[nb];omega)) (ag (OW rfl rfl rfl rfl (by simp only[nb];omega) (by simp only[nb];omega)) (ar ?_));refine cg (X:=Nat) (fun U=>[(21, .int .i64 (U:Nat)),(5, .int .u32 ((pH (lr 4294967295 (bs.take i)^^^y.toNat) U):Nat)),(11,b.val),(12, .int .i64 (bs.length:Nat)),(13, .int .i64 (i:Nat))]) (fun U=>[]) (fun U=>U<=8) (fun U=>8 -U) 0 (auo _) sb (fun w hw=>ah.mem hw) ?_;rintro k hk;refine al ?_;refine Gb ?_ ?_<;>intro h1
  ·
   have oN:(pH (lr 4294967295 (bs.take i)^^^y.toNat) k)<2^32:=KQ eM k;have C5:(pH (lr 4294967295 (bs.take i)^^^y.toNat) k)/2<2^32:=by omega
   refine au ?_;refine ag (Ry.to (v':= .int .u32 (((pH (lr 4294967295 (bs.take i)^^^y.toNat) k)%2:Nat):Int)) (OV (p:=(pH (lr 4294967295 (bs.take i)^^^y.toNat) k)) (q:=1) rfl rfl rfl rfl (by simp only[nb];omega) dDq) (by rw[Nat.and_one_is_mod])) (al ?_);refine ag (wU (p:=(pH (lr 4294967295 (bs.take i)^^^y.toNat) k)) rfl rfl (by simp only[nb];omega) oM) (ar ?_);refine ag (Zc (p:=3988292384) (q:=(pH (lr 4294967295 (bs.take i)^^^y.toNat) k)%2) rfl rfl rfl rfl (by simp only[nb];omega)) ?_;refine ag (Ry.to (v':= .int .u32 ((pH (lr 4294967295 (bs.take i)^^^y.toNat) (k+1):Nat):Int)) (OW (p:=(pH (lr 4294967295 (bs.take i)^^^y.toNat) k)/2^1) (q:=3988292384*((pH (lr 4294967295 (bs.take i)^^^y.toNat) k)%2)) rfl rfl rfl rfl (by simp only[nb];omega) (by simp only[nb];omega)) (by rw[pH,KP];rcases Nat.mod_two_eq_zero_or_one (pH (lr 4294967295 (bs.take i)^^^y.toNat) k)with h|h<;>rw[h]<;>rfl)) ?_;refine ar ?_;refine Gi ?_;exact bo (x:=(k)) (k+1) oF oF sb (fun w hw=>ah.mem hw)
  obtain rfl:k=8:=by omega
  refine al ?_;refine Gi ?_;exact bo (x:=(i)) (i+1) oF oF (Sub.cons rfl (Sub.cons (look_eq rfl (by rw[acA he];rfl)) sb)) (fun w hw=>ah.mem hw)
 obtain rfl:i=bs.length:=by omega
 refine au ?_;refine ag (R7 (p:=lr 4294967295 (bs.take bs.length)) rfl rfl (GG dDq _)) (au ?_);refine Gr fun w1 hw=>?_;exact⟨(by rw[aup];rfl),ah.mem hw⟩⟩
instance aqR{b:Sv}{bs:List UInt8}[hb:dG w0 L aQ 1 b bs]:bV prog 229 w0 L [b.val] (.int .u32 (pI bs:Nat)) (True):=⟨fun aC w hw=>by
 have hb:=hb.h w hw;have zF:Gv w b aQ 1 bs:=⟨hb⟩;refine cx func229 rfl ntmps229 rfl ?_;refine cX ?_;refine Gr fun w1 hw=>?_;exact⟨rfl,ah.mem hw⟩⟩
instance aqS{n:Nat}{many:Nat}:bY prog 112 w0 L [.int .u64 (n:Nat), .int .i64 (many:Nat)] (Sv) (fun U=>U.val) (fun U=>own aQ 1 U (be n many)::L) (fun U=>True) (n<2^64/\1<=many/\many<=8):=⟨fun aC w hw=>Gk (fun U=>[own aQ 1 U (be n many)]) hw (by
 obtain⟨mq,jM,qL⟩:=aC;refine dD func112 rfl ntmps112 rfl ?_;refine rZ ?_;refine Gb ?_ ?_<;>intro h0
 ·exfalso;omega
 refine au ?_;refine vI (enc:=aQ) (n:=many) (cap:=many) 0 rfl rfl rfl rfl rfl oM oM oM fun DP=>al ?_;refine ag (Ry.to (v':= .int .i64 (many:Nat)) (uq rfl) (by simp)) (au ?_);refine cg (X:=Nat) (fun U=>[(17, .int .i64 (U:Nat)),(5,(⟨false,DP,0,many,many,none⟩:Sv).val),(0, .int .u64 (n:Nat)),(1, .int .i64 (many:Nat)),(16, .int .i64 (many:Nat))]) (fun U=>[own aQ 1 ⟨false,DP,0,many,many,none⟩ (List.replicate (many -U) (0:UInt8)++be n U)]) (fun U=>U<=many) (fun U=>many -U) 0 (auo _) sb (fun w hw=>by rw[show List.replicate (many -0) (0:UInt8)++be n 0=List.replicate many 0 from by rw[be,auT,Nat.sub_zero]];exact ah.mem hw) ?_;rintro i hi;have dI:=jV n i;have AQ:(List.replicate (many -i) (0:UInt8)++be n i).length=many:=by rw[adr,auQ,dI];omega
 refine al ?_;refine Gb ?_ ?_<;>intro h1
 ·refine rh ?_;refine ag (vC rfl rfl oM) (ag (Ry.to (v':= .int .u64 ((n/256^i:Nat):Int)) (wU (p:=n) rfl rfl (by simp only[nb];omega) oM) (by rw[show(8*(i:Int)).toNat=8*i by omega,Nat.pow_mul])) (ag (Cy rfl rfl) (ag (bf rfl rfl (many -1 -i) oM oM) ?_)));refine ae4 rfl rfl (by rw[aus (by rw[auQ];omega),awq,if_pos oM]) rfl ?_;refine al ?_;refine Gi ?_;exact bo (x:=(i)) (i+1) oF oF sb (fun w hw=>by rw[ade oM]at hw;exact ah.mem hw)
 have him:i=many:=by omega
 refine ar ?_;refine Gr fun w1 hw=>?_;exact⟨⟨false,DP,0,many,many,none⟩,rfl,trivial,by rw[him,avX,List.replicate_zero,auS]at hw;exact ah.mem hw⟩)⟩
instance aqT{b:Sv}{bs:List UInt8}[hb:dG w0 L aQ 1 b bs]:bV prog 113 w0 L [b.val] (.int .u64 (de bs:Nat)) (bs.length<=7):=⟨fun aC w hw=>by
 have hb:=hb.h w hw;have zF:Gv w b aQ 1 bs:=⟨hb⟩;refine cx func113 rfl ntmps113 rfl ?_;refine iS ?_;refine cg (X:=Nat) (fun U=>[(8, .int .i64 (U:Nat)),(3, .int .u64 (de (bs.take U):Nat)),(6,b.val),(7, .int .i64 (bs.length:Nat))]) (fun U=>[]) (fun U=>U<=bs.length) (fun U=>bs.length -U) 0 (auo _) sb (fun w hw=>ah.mem hw) ?_;rintro i hi;refine al ?_;refine Gb ?_ ?_<;>intro h0
 ·obtain⟨y,he⟩:=get_some (xs:=bs) (i:=i) oM;have hy:=y.toNat_lt;have bq:de (bs.take i)<256^6:=avB (JE bs i hi) (avr dDq oM);refine Gc ?_;refine ag (bf rfl rfl i rfl oM) (ag (bW (j:=0) rfl i he rfl dDq) (al ?_));refine ag (adb (p:=de (bs.take i)) rfl rfl rfl oM) (Gs ?_);refine ag (mw rfl (by simp only[nb];omega)) (ag (Cn (p:=de (bs.take i)*256) (q:=y.toNat) rfl rfl rfl rfl (by simp only[nb];omega) (by simp only[nb];omega)) (ar ?_));refine Gi ?_;exact bo (x:=(i)) (i+1) oF oF (Sub.cons rfl (Sub.cons (look_eq rfl (by rw[Pj he,Pk _ _ hy])) sb)) (fun w hw=>ah.mem hw)
 obtain rfl:i=bs.length:=by omega
 refine ar ?_;refine Gr fun w1 hw=>?_;exact⟨(by rw[aup]),ah.mem hw⟩⟩
instance aqU{n:Nat}:bY prog 185 w0 L [.slice none 0 0, .int .i64 (n:Nat)] (Sv) (fun U=>U.val) (fun U=>own aQ 1 U ([]:List UInt8)::L) (fun U=>True) (n<=1000000000):=⟨fun aC w hw=>Gk (fun U=>[own aQ 1 U ([]:List UInt8)]) hw (by
 refine dD func185 rfl ntmps185 rfl ?_;refine aY ?_;refine Gb ?_ ?_<;>intro h0
 ·exfalso;omega
 refine al ?_;refine ag (GH rfl) (Gs ?_);refine ag (yL rfl) (cX ?_);refine Gb ?_ ?_<;>intro h1
 ·refine Gi ?_;refine au ?_;refine ag (GH rfl) (ag (Ry.to (v':= .slice none 0 0) (wX (s:=Sv.none) (h:=0) rfl rfl rfl Sv.Cr (at5 _)) rfl) (Gs ?_));refine RA (enc:=aQ) (k:=n) (0:UInt8) rfl rfl oM oM dDq rfl underlying3 oM oM fun Bu DQ Mq=>Gs ?_;refine ag (yL rfl) (ag (wX (s:=⟨false,Bu,0,n,DQ,none⟩) (h:=0) rfl rfl rfl ⟨(fun h=>by cases h),Mq,by simp only;omega,fun _=>rfl⟩ (auo _)) (aP ?_));refine Gr fun w1 hw=>?_;refine⟨Sv.sub ⟨false,Bu,0,n,DQ,none⟩ 1 0 0,rfl,trivial,?_⟩;have fD:=Mem.Rz (i:=0) (k:=0) hw rfl (auo _);rw[auw]at fD;exact fD
 have hn:n=0:=by omega
 refine ar ?_;refine Gr fun w1 hw=>?_;exact⟨Sv.none,rfl,trivial,(ah.mem hw:Mem w [] _).dE aQ 1⟩)⟩
instance aqV{a:Sl (Sl UInt8)}[ha:aX w0 L a]:bY prog 111 w0 L [a.sv.val] (Sv) (fun U=>U.val) (fun U=>own aQ 1 U (lu a.xs)::L) (fun U=>True) ((lu a.xs).length<=1000000):=⟨fun aC w hw=>Gk (fun U=>[own aQ 1 U (lu a.xs)]) hw (by
 have ha:=ha.h w hw;have Mr:cQ w a:=⟨ha⟩;have ER:=ha.1.bd;have eS:=acD a.xs;refine cx func111 rfl ntmps111 rfl ?_;refine iS ?_;refine cg (X:=Nat) (fun U=>[(11, .int .i64 (U:Nat)),(3, .int .i64 ((lu (a.xs.take U)).length:Nat)),(0,a.sv.val),(9,a.sv.val),(10, .int .i64 (a.xs.length:Nat))]) (fun U=>[]) (fun U=>U<=a.xs.length) (fun U=>a.xs.length -U) 0 (auo _) sb (fun w hw=>ah.mem hw) ?_;rintro i hi;have AH:=eS i;have mF:=eS (i+1);refine al ?_;refine Gb ?_ ?_<;>intro h0
 ·
  refine l6 ?_;obtain⟨x,hx⟩:=get_some (xs:=a.xs) (i:=i) oM;refine ag (bf rfl rfl i rfl oM) (ag (bW (j:=0) rfl i hx rfl dDq) ?_);have hfx:(lu (a.xs.take (i+1))).length=(lu (a.xs.take i)).length+x.xs.length:=by rw[GI hx,adr]
  have HG:Mb x _:=⟨List.mem_of_getElem? hx⟩;refine rh ?_;refine Gb ?_ ?_<;>intro h1
  ·exfalso;omega
  refine al ?_;refine Gi ?_;exact bo (x:=(i)) (i+1) oF oF (Sub.cons rfl (Sub.cons (look_eq rfl (by rw[GI hx,adr];simp)) sb)) (fun w hw=>ah.mem hw)
 obtain rfl:i=a.xs.length:=by omega
 have lV:=eS a.xs.length;refine au ?_;refine bb rfl oM fun yh Ms=>aY ?_;refine cg (X:=Nat×Sv) (fun U=>[(27, .int .i64 (U.1:Nat)),(6,U.2.val),(25,a.sv.val),(26, .int .i64 (a.xs.length:Nat))]) (fun U=>[own aQ 1 U.2 (lu (a.xs.take U.1))]) (fun U=>U.1<=a.xs.length) (fun U=>a.xs.length -U.1) (0,yh) (Nat.zero_le _) sb (fun w hw=>(ah.mem hw:Mem _ [own aQ 1 yh ([]:List UInt8)] _)) ?_;rintro⟨k,s1⟩ hk;dsimp only;simp only at hk;have AH:=eS k;have mF:=eS (k+1);refine al ?_;refine Gb ?_ ?_<;>intro h2
 ·
  refine l6 ?_;obtain⟨y,hy⟩:=get_some (xs:=a.xs) (i:=k) oM;refine ag (bf rfl rfl k rfl oM) (ag (bW (j:=0) rfl k hy rfl dDq) ?_);have hfy:(lu (a.xs.take (k+1))).length=(lu (a.xs.take k)).length+y.xs.length:=by rw[GI hy,adr]
  have UB:Mb y _:=⟨List.mem_of_getElem? hy⟩;refine ar ?_;refine mB (s:=s1) (ys:=y.xs) rfl rfl dDq (fun w hw=>iQ (s:=y.sv) underlying53 dDq ((inferInstance:Hd _ _ y.sv aQ 1 y.xs).h w hw)) oM oM fun Bv UC UD=>?_;refine ar ?_;refine Gi ?_;exact bo (x:=(k,s1)) (k+1,Bv) (by simp only;omega) (by simp only;omega) sb (fun w hw=>by rw[GI hy];exact ah.mem hw)
 obtain rfl:k=a.xs.length:=by omega
 refine ar ?_;refine Gr fun w1 hw=>?_;exact⟨s1,rfl,trivial,by rw[aup]at hw;exact ah.mem hw⟩)⟩
instance aqW{s:Sv}{ss:List UInt8}[hs:dG w0 L aQ 1 s ss]:bY prog 230 w0 L [s.val] (Sv) (fun U=>U.val) (fun U=>own aQ 1 U ss::L) (fun U=>True) (ss.length<=1000000):=⟨fun aC w hw=>Gk (fun U=>[own aQ 1 U ss]) hw (by
 have hs:=hs.h w hw;have zw:Gv w s aQ 1 ss:=⟨hs⟩;refine cx func230 rfl ntmps230 rfl ?_;refine ar ?_;refine ag (vK underlying53 rfl) (Gc ?_);refine Gb ?_ ?_<;>intro h0
 ·have e0:ss=[]:=aun.1 (by have:=hs.ok.nil h0;have:=hs.len;omega);refine al ?_;refine Gr fun w1 hw=>?_;exact⟨Sv.none,rfl,trivial,by rw[e0];exact(ah.mem hw:Mem w [] _).dE aQ 1⟩
 refine Gc ?_;refine w9 aQ fun b5=>Gs ?_;refine mB (s:=⟨false,b5,0,0,0,none⟩) (ys:=ss) rfl rfl dDq (fun w hw=>iQ (s:=s) underlying53 dDq ((inferInstance:Hd _ _ s aQ 1 ss).h w hw)) (by simp only[adr,ad2,alM];omega) (by simp only[adr,ad2,alM];omega) fun s7 zx xU=>?_;refine au ?_;refine Gr fun w1 hw=>?_;exact⟨s7,rfl,trivial,by simpa using hw⟩)⟩
instance:eY prog 324 (.agg (dt pO)):=⟨kRq⟩
instance aqX{n:Int}:bV prog 144 w0 L [.int .i64 n] (.bool (oP n)) (True):=⟨fun aC w hw=>by
 refine cx func144 rfl ntmps144 rfl ?_;refine rh ?_;refine Gr fun w1 hw=>?_;exact⟨congrArg (fun b=>Ending.returned (Value.bool b)) (rfl),ah.mem hw⟩⟩
instance aqY{n:Int}:bV prog 76 w0 L [.int .i64 n] (.int .i64 (dY n)) (True):=⟨fun aC w hw=>by
 refine cx func76 rfl ntmps76 rfl ?_;refine cX ?_;refine Gb ?_ ?_<;>intro h0
 ·refine al ?_;refine Gr fun w1 hw=>?_;exact Gf ((by rw[dY,if_neg (by rw[h0];simp)])) hw
 have hf:=tn.1 h0;refine aP ?_;refine Gr fun w1 hw=>?_;exact⟨congrArg (fun b=>Ending.returned (Value.int .i64 b)) ((by rw[dY,if_pos h0])),ah.mem hw⟩⟩
instance aqZ{x:fA}{n:Int}[hx:aX w0 L x]:bV prog 268 w0 L [.agg (dt x), .int .i64 n] (.bool (mO (c8 x) n)) (True):=⟨fun aC w hw=>by
 have hx:=hx.h w hw;have yi:cQ w x:=⟨hx⟩;refine dD func268 rfl ntmps268 rfl ?_;refine Gc ?_;refine cn rfl fun b2=>au ?_;refine jI oK oK (Gq ?_);refine uh (bK rfl trivial) (ar ?_);refine gC rfl rfl rfl (fun hg=>(Ry.yl (bm (aG hg rfl)))) (Jq rfl rfl rfl (fun hg=>(Ry.yl (aM (o':=0) rfl rfl))) (Jq rfl rfl rfl (fun hg=>(Ry.yl (bE (aG hg rfl)))) (Jq rfl rfl rfl (fun hg=>(Ry.yl (eR (aG hg rfl) rfl rfl))) (gC rfl rfl rfl (fun hg=>(Ry.yl (Aa (aG hg rfl) rfl (yP hg rfl)))) (aaO ?_)))));refine gC rfl rfl rfl (fun hg=>bK (fG (aG hg rfl) jG) trivial) (ar ?_);refine Gr fun w1 hw=>?_;exact⟨congrArg (fun b=>Ending.returned (Value.bool b)) ((by simp only[mO,c8];rw[show decide ((x.gen.toNat:Int)<281474976710656)=decide (x.gen.toNat<281474976710656)from decide_eq_decide.2 oM];rfl)),ah.mem hw⟩⟩
instance aq0{b:Sv}{bs:List UInt8}[hb:dG w0 L aQ 1 b bs]:bV prog 267 w0 L [b.val] (.bool (kC bs)) (True):=⟨fun aC w hw=>by
 have hb:=hb.h w hw;have zF:Gv w b aQ 1 bs:=⟨hb⟩;have kv:=hb.bd;refine cx func267 rfl ntmps267 rfl ?_;refine cX ?_;refine cg (X:=Nat) (fun U=>[(7, .int .i64 (U:Nat)),(5,b.val),(6, .int .i64 (bs.length:Nat))]) (fun U=>[]) (fun U=>U<=bs.length/\ ∀j x,j<U->bs[j]? =Option.some x->x=255) (fun U=>bs.length -U) 0 ⟨Nat.zero_le _,fun j x hj=>by first|omega|(simp only[];omega)⟩ sb (fun w hw=>ah.mem hw) ?_;rintro i ⟨bg,aK⟩;refine al ?_;refine Gb ?_ ?_<;>intro h0
 ·
  refine l6 ?_;obtain⟨y,hy⟩:=get_some (xs:=bs) (i:=i) oM;refine ag (bf rfl rfl i rfl oM) (ag (bW (j:=0) rfl i hy rfl dDq) (aP ?_));refine Gb ?_ ?_<;>intro h1
  ·
   have hz:kC bs=false:=by
    cases hk:kC bs with
    |false=>rfl
    |true=>exact absurd (congrArg UInt8.toNat (Df.1 hk y (atl hy))) (by intro e;exact h1 (by rw[e];rfl))
   refine al ?_;refine Gr fun w1 hw=>?_;exact Ge (hz.symm) hw
  have Mt:y=255:=awm.1 (show y.toNat=255 by omega);refine al ?_;refine Gi ?_;exact bo (x:=(i)) (i+1) ⟨oF,fun j x hj hx=>if e:j=i then(by subst e;rw[hy]at hx;cases hx;exact Mt)else aK j x oF hx⟩ oF sb (fun w hw=>ah.mem hw)
 obtain rfl:i=bs.length:=by omega
 have hz:kC bs=true:=Df.2 fun x hx=>by
  obtain⟨j,hj⟩:=aul hx;exact aK j x (zz.1 hj).1 hj
 refine al ?_;refine Gr fun w1 hw=>?_;exact⟨congrArg (fun b=>Ending.returned (Value.bool b)) (hz.symm),ah.mem hw⟩⟩
instance:eY prog 314 (.agg (fa mM)):=⟨kRq⟩
instance aq1{n:Int}:bV prog 143 w0 L [.int .i64 n] (.int .i64 (kP n)) (True):=⟨fun aC w hw=>by
 have hrr:oP n=true->24<=n/\n<=256:=fun h=>tn.1 h;have hrb:0<=dY n/\dY n<=240:=by
  by_cases h:oP n=true
  ·have:=hrr h;rw[dY,if_pos h];omega
  rw[dY,if_neg h];omega
 refine cx func143 rfl ntmps143 rfl ?_;refine aP ?_;refine ag (ou rfl rfl oM oM) (ag (Jl rfl rfl) (au ?_));refine Gr fun w1 hw=>?_;exact⟨congrArg (fun b=>Ending.returned (Value.int .i64 b)) (rfl),ah.mem hw⟩⟩
instance aq2{r:dK}{n:Int}[hr:aX w0 L r]:bV prog 254 w0 L [.agg (fa r), .int .i64 n] (.bool (pQ (dM r) n)) (True):=⟨fun aC w hw=>by
 have hr:=hr.h w hw;have ghr:cQ w r:=⟨hr⟩;have kv:=hr.1.bd;refine dD func254 rfl ntmps254 rfl ?_;refine Gc ?_;refine cn rfl fun b2=>au ?_;refine jI oK oK (Gq ?_);refine uh (bK rfl trivial) (rh ?_);refine jH rfl rfl rfl (fun hg=>bK (fG (aG hg rfl) jG) trivial) (al ?_);refine Gb ?_ ?_<;>intro h0
 ·
  have hz:pQ (dM r) n=false:=by
   cases hk:pQ (dM r) n with
   |false=>rfl
   |true=>
    obtain⟨g1,g2,g3,g4⟩:=xz.1 hk;simp only[dM]at g2 g3;omega
  refine al ?_;refine Gr fun w1 hw=>?_;exact Ge (hz.symm) hw
 have g0:dY n≠0/\r.gen.toNat<281474976710656/\(r.at_.xs.length:Int)<=kP n:=⟨oM,oM,oM⟩;refine aY ?_;refine cg (X:=Nat) (fun U=>[(26, .int .i64 (U:Nat)),(24,r.at_.sv.val),(25, .int .i64 (r.at_.xs.length:Nat))]) (fun U=>[aq b2 (fa r) 314]) (fun U=>U<=r.at_.xs.length/\ ∀j x,j<U->r.at_.xs[j]? =Option.some x->zm x=true) (fun U=>r.at_.xs.length -U) 0 ⟨Nat.zero_le _,fun j x hj=>by first|omega|(simp only[];omega)⟩ sb (fun w hw=>ah.mem hw) ?_;rintro i ⟨bg,aK⟩;refine al ?_;refine Gb ?_ ?_<;>intro h1
 ·
  refine l6 ?_;obtain⟨y,hy⟩:=get_some (xs:=r.at_.xs) (i:=i) oM;refine ag (bf rfl rfl i rfl oM) (ag (bW (j:=0) rfl i hy rfl dDq) (iS ?_));refine Gb ?_ ?_<;>intro h2
  ·
   have hz:pQ (dM r) n=false:=by
    cases hk:pQ (dM r) n with
    |false=>rfl
    |true=>
     have g:=Dg.1 ((xz.1 hk).2.2.2 y (atl hy));omega
   refine al ?_;refine Gr fun w1 hw=>?_;exact Ge (hz.symm) hw
  have Mu:zm y=true:=Dg.2 ⟨oM,oM⟩;refine al ?_;refine Gi ?_;exact bo (x:=(i)) (i+1) ⟨oF,fun j x hj hx=>if e:j=i then(by subst e;rw[hy]at hx;cases hx;exact Mu)else aK j x oF hx⟩ oF sb (fun w hw=>ah.mem hw)
 obtain rfl:i=r.at_.xs.length:=by omega
 have hz:pQ (dM r) n=true:=xz.2 ⟨g0.1,g0.2.1,g0.2.2,fun x hx=>by
  obtain⟨j,hj⟩:=aul hx;exact aK j x (zz.1 hj).1 hj⟩
 refine al ?_;refine Gr fun w1 hw=>?_;exact⟨congrArg (fun b=>Ending.returned (Value.bool b)) (hz.symm),ah.mem hw⟩⟩
instance:eY prog 63 (.agg (cF mN)):=⟨kRq⟩
instance aq3{c:Cp}[hc:aX w0 L c]:bV prog 164 w0 L [.agg (aV c)] (.bool (gH (cv c))) (True):=⟨fun aC w hw=>by
 have hc:=hc.h w hw;have lN:cQ w c:=⟨hc⟩;refine cx func164 rfl ntmps164 rfl ?_;refine Gc ?_;refine cn rfl fun b1=>aaP ?_;refine Gr fun w1 hw=>?_;exact⟨congrArg (fun b=>Ending.returned (Value.bool b)) ((by simp only[gH,cv,iv];rfl)),ah.mem hw⟩⟩
instance aq4{c:Cp}[hc:aX w0 L c]:bY prog 165 w0 L [.agg (aV c)] (Cp) (fun U=> .agg (aV U)) (fun U=>fz U::L) (fun U=>cv U=cv c) (gk c):=⟨fun aC w hw=>Gk (fun U=>[fz U]) hw (by
 have hc:=hc.h w hw;have lN:cQ w c:=⟨hc⟩;refine cx func165 rfl ntmps165 rfl ?_;refine Gc ?_;refine cn rfl fun b1=>bn fun b2=>ar ?_;refine bb rfl (by assumption) fun x9 DR=>Gs ?_;refine ag (aB (v:= .agg (aV x9)) rfl rfl) (ag (aB (v:= .int .i64 (kN (cv c) c.aA.xs)) rfl rfl) (bn fun b3=>aY ?_));refine dO (cs':=aV (⟨x9.pages,x9.size,x9.blocks,x9.ops,c.off,x9.aA⟩:Cp)) rfl rfl (by show 4<6;decide) (by first|rfl|exact Sv.one _) rfl (ar ?_);refine Gr fun w1 hw=>?_;exact⟨(⟨x9.pages,x9.size,x9.blocks,x9.ops,c.off,x9.aA⟩:Cp),rfl,by
  have h9:cv (⟨x9.pages,x9.size,x9.blocks,x9.ops,c.off,x9.aA⟩:Cp)={cv x9 with off:=(cv c).off}:=rfl
  rw[h9,DR];exact adl (cv c),by
  have h9:Mem w [fz x9] _:=ah.mem hw;exact h9⟩)⟩
instance aq5{s:Sv}{ss:List Int}[hs:dG w0 L ck 1 s ss]:bY prog 169 w0 L [s.val] (Sv) (fun U=>U.val) (fun U=>own ck 1 U ss::L) (fun U=>True) (ss.length<=1000000):=⟨fun aC w hw=>Gk (fun U=>[own ck 1 U ss]) hw (by
 have hs:=hs.h w hw;have zw:Gv w s ck 1 ss:=⟨hs⟩;refine cx func169 rfl ntmps169 rfl ?_;refine ar ?_;refine ag (vK underlying60 rfl) (Gc ?_);refine Gb ?_ ?_<;>intro h0
 ·have e0:ss=[]:=aun.1 (by have:=hs.ok.nil h0;have:=hs.len;omega);refine al ?_;refine Gr fun w1 hw=>?_;exact⟨Sv.none,rfl,trivial,by rw[e0];exact(ah.mem hw:Mem w [] _).dE ck 1⟩
 refine Gc ?_;refine w9 ck fun b5=>Gs ?_;refine mB (s:=⟨false,b5,0,0,0,none⟩) (enc:=ck) (ys:=ss) rfl rfl dDq (fun w hw=>iQ (s:=s) underlying60 dDq ((inferInstance:dG _ _ ck 1 s ss).h w hw)) (by simp only[alM];omega) (by simp only[alM];omega) fun s7 zx xU=>?_;refine au ?_;refine Gr fun w1 hw=>?_;exact⟨s7,rfl,trivial,by rw[auS]at hw;exact ah.mem hw⟩)⟩
instance aq6{v:cB}[hv:aX w0 L v]:bY prog 175 w0 L [.agg (cF v)] (Cp×Sv) (fun U=> .agg (cF (⟨U.1,⟨U.2,v.at_.xs⟩,v.gen,v.last⟩:cB))) (fun U=>fz U.1::own ck 1 U.2 v.at_.xs::L) (fun U=>cv U.1=cv v.ae) (gk v.ae/\v.at_.xs.length<=1000000):=⟨fun aC w hw=>Gk (fun U:Cp×Sv=>[fz U.1,own ck 1 U.2 v.at_.xs]) hw (by
 have hv:=hv.h w hw;have DS:cQ w v:=⟨hv⟩;obtain⟨mq,jM⟩:=aC;refine cx func175 rfl ntmps175 rfl ?_;refine Gc ?_;refine cn rfl fun b1=>bn fun b2=>Gc ?_;refine pA [2,5,7,9,1001,1004,5002,5005] [[],[],[1],[],[],[1,2,4],[1,2,4],[1,2,4,5],[1,2,4,5,7],[1,2,4,5,7]] [0,1,3,4,2,6,5,7,8,9] [] [] oK (fun _ hw=>ah.mem hw) oK oK (an rfl (aM (o':=0) rfl rfl) (gq rfl (fM rfl) (an rfl (aM (o':=6) rfl rfl) (gq rfl (bE rfl) (QG rfl (qv rfl (by assumption) fun x5 hp5=>⟨fun _ hw=>ah.mem hw,fun _ hw=>ah.mem hw,?_⟩))))));refine an rfl (aM (o':=0) rfl rfl) (QG rfl (qv rfl oM fun x8 p6=>⟨fun _ hw=>ah.mem hw,fun _ hw=>ah.mem hw,?_⟩));refine dr rfl (Km (cs':=cF ({v with ae:=x5}:cB)) rfl rfl (by show 0+6<=9;decide) rfl ⟨fun _ hw=>ah.mem hw,?_⟩)
 refine an rfl (aM (o':=6) rfl rfl) ?_;refine dr rfl (tg (cs':=cF (⟨x5,⟨x8,v.at_.xs⟩,v.gen,v.last⟩:cB)) rfl rfl (by show 6<9;decide) (by first|rfl|exact Sv.one _) rfl ⟨fun _ hw=>ah.mem hw,?_⟩);refine ar ?_;refine Gr fun w1 hw=>?_;exact⟨(x5,x8),rfl,hp5,ah.mem hw⟩)⟩
theorem afK(b:List UInt8)(w:World):(Instr.build 324 #[(0, .int .i64 ((b.getD 0 0).toNat:Int)),(1, .int .i64 ((b.getD 1 0).toNat:Int)),(2, .int .u64 ((de ((b.drop 2).take (8 -2)):Nat):Int))]).run prog w= .ok (.agg (dt (v7 b))) w:=by
 rw[←Sh];unfold dt v7;generalize UInt64.ofNat (de ((b.drop 2).take (8 -2)))=g;kernel_rfl
instance aq7{b:Sv}{bs:List UInt8}[hb:dG w0 L aQ 1 b bs]:bY prog 227 w0 L [b.val] (fA) (fun U=> .tuple #[.agg (dt U), .int .i64 ((cM bs).2)]) (fun U=>own aQ 1 U.body.sv U.body.xs::L) (fun U=>c8 U=(cM bs).1) (True):=⟨fun aC w hw=>Gk (fun U:fA=>[own aQ 1 U.body.sv U.body.xs]) hw (by
 have hb:=hb.h w hw;have zF:Gv w b aQ 1 bs:=⟨hb⟩;have kv:=hb.bd;have ghd:cQ w (v7 bs):=⟨⟨eZ.nil _ _ _,fun x hx=>by cases hx⟩⟩;have UE:=Sg bs;have zG:=K6 bs;have sS:=KS (mP bs);have fo:=adg bs;refine cx func227 rfl ntmps227 rfl ?_;refine Gc ?_;refine bn fun b2=>cX ?_;refine Gb ?_ ?_<;>intro h0
 ·
  have hE:cM bs=(kB,3):=by rw[cM,if_pos h0]
  refine Gc ?_;refine ag (cR (v:= .agg (dt pO)) rfl (fun w=>kRq)) (al ?_);refine Gr fun w1 hw=>?_;exact⟨pO,by rw[hE],by rw[hE];rfl,Mem.dE aQ 1 (ah.mem hw:Mem w [] _)⟩
 have hft:=tn.1 h0;have DT:dY bs.length=bs.length -16:=by rw[dY,if_pos h0]
 refine ar ?_;refine Gb ?_ ?_<;>intro h1
 ·
  have hE:cM bs=(kB,0):=by rw[cM,if_neg (by rw[h0];simp),if_pos h1]
  refine Gc ?_;refine ag (cR (v:= .agg (dt pO)) rfl (fun w=>kRq)) (al ?_);refine Gr fun w1 hw=>?_;exact⟨pO,by rw[hE],by rw[hE];rfl,Mem.dE aQ 1 (ah.mem hw:Mem w [] _)⟩
 refine Gc ?_;refine jI oK oK (ar ?_);have T0:Rg 0 (bs.length -4) bs.length:=⟨oM⟩;refine bX (Po rfl rfl (bs.length -4) oM T0.h.2) (ar ?_);have HH:Rg (bs.length -4) bs.length bs.length:=⟨oM⟩;refine bX (CD rfl rfl (bs.length -4) oM HH.h.1) (ar ?_);refine cO (bK (v:= .int .u64 ((de (zl bs):Nat):Int)) rfl (by rw[at3,auh];omega)) (Gs ?_);refine cO (bK (v:= .int .u32 ((pI (mP bs):Nat):Int)) rfl trivial) (ag (mw rfl (by simp only[nb];omega)) (au ?_));refine Gb ?_ ?_<;>intro h2
 ·
  have hE:cM bs=(kB,4):=by rw[cM,if_neg (by rw[h0];simp),if_neg (by rw[h1];simp),if_pos (fun e=>h2 (by rw[e]))]
  refine Gc ?_;refine ag (cR (v:= .agg (dt pO)) rfl (fun w=>kRq)) (al ?_);refine Gr fun w1 hw=>?_;exact⟨pO,by rw[hE],by rw[hE];rfl,Mem.dE aQ 1 (ah.mem hw:Mem w [] _)⟩
 have CW: ¬de (zl bs)≠pI (mP bs):=fun e=>e oM;refine Gc ?_;refine jt [12,13] [[],[],[],[],[],[],[],[],[],[],[],[],[],[12]] [0,1,2,3,4,5,6,7,8,9,10,11,12,13] [] (fun _ hw=>ah.mem hw) oK oK (an rfl (bm rfl) (an rfl (bf rfl rfl 0 rfl oM) (an rfl (bW (j:=0) rfl 0 (pz (xs:=bs) (i:=0) (d:=0) oM) rfl dDq) (an rfl (w8 rfl) (an rfl (bm rfl) (an rfl (bf rfl rfl 1 rfl oM) (an rfl (bW (j:=0) rfl 1 (pz (xs:=bs) (i:=1) (d:=0) oM) rfl dDq) (an rfl (w8 rfl) (an rfl (bm rfl) ?_)))))))));have UF:Rg 2 8 bs.length:=⟨oM⟩;refine an rfl (CC rfl rfl rfl 2 8 rfl rfl UF.h.1 UF.h.2) (ze rfl (bK rfl (by simp;omega)) (an rfl (cR (v:= .agg (dt (v7 bs))) rfl (afK bs)) (dr rfl (Qy fun b6=>⟨fun _ hw=>ah.mem hw,?_⟩))));refine dr rfl (qw rfl rfl ⟨fun _ hw=>ah.mem hw,?_⟩);refine au ?_;have UG:Rg 8 10 bs.length:=⟨oM⟩;refine ag (CC rfl rfl rfl 8 10 rfl rfl UG.h.1 UG.h.2) (cO (bK (v:= .int .u64 ((iJ bs:Nat):Int)) rfl (by rw[at3];omega)) (ag (mw rfl (by simp only[nb];omega)) (fS ?_)));refine bU rfl rfl rfl (fun hg=>(Ry.yl (jU rfl))) (au ?_);refine bU rfl rfl rfl (fun hg=>bK (fG (aG hg rfl) (fG (aG hg rfl) jG)) trivial) (bU rfl rfl rfl (fun hg=>(Ry.yl (nJ (aG hg rfl)))) (au ?_));refine Gb ?_ ?_<;>intro h3
 ·
  have lH:pP bs=false:=by
   rw[K7]at h3
   cases hk:pP bs with
   |false=>rfl
   |true=>
    simp only[pP,af0,decide_eq_true_eq]at hk;rw[hk.2]at h3;simp only[avK,or_false]at h3;omega
  have hE:cM bs=(kB,2):=by rw[cM,if_neg (by rw[h0];simp),if_neg (by rw[h1];simp),if_neg CW,if_pos lH]
  refine Gc ?_;refine ag (cR (v:= .agg (dt pO)) rfl (fun w=>kRq)) (al ?_);refine Gr fun w1 hw=>?_;exact⟨pO,by rw[hE],by rw[hE];rfl,Mem.dE aQ 1 (ah.mem hw:Mem w [] _)⟩
 have lH:pP bs=true:=by
  rw[K7]at h3;simp only[pP,af0,decide_eq_true_eq];exact⟨oM,h3.2⟩
 have hmr:(iJ bs:Int)<=dY bs.length:=by simp only[pP,af0,decide_eq_true_eq]at lH;exact lH.1
 have tO:(oQ bs).length=(mP bs).length -(10+iJ bs):=by rw[oQ,at3,auh];omega
 have gr:Gv w ((b.sub 1 0 (bs.length -4)).sub 1 (10+iJ bs) (mP bs).length) aQ 1 (oQ bs):=⟨(hb.sub (lo:=0) (hi:=bs.length -4) oM oM).sub (lo:=10+iJ bs) (hi:=(mP bs).length) oM (at5 _)⟩;refine ar ?_;have afL:Rg (10+iJ bs) ((mP bs).length) (mP bs).length:=⟨oM⟩;refine ag (CD rfl rfl (10+iJ bs) rfl afL.h.1) (al ?_);refine cg (X:=Nat) (fun U=>[(69, .int .i64 (U:Nat)),(0,b.val),(2, .pointer (some ⟨b2,0,none⟩)),(6, .pointer (some ⟨b6,0,none⟩)),(7, .int .i64 (iJ bs:Nat)),(67,((b.sub 1 0 (bs.length -4)).sub 1 (10+iJ bs) (mP bs).length).val),(68, .int .i64 ((oQ bs).length:Nat))]) (fun U=>[aq b6 (dt (v7 bs)) 324,aq b2 (dt pO) 324]) (fun U=>U<=(oQ bs).length/\ ∀j x,j<U->(oQ bs)[j]? =Option.some x->x=0) (fun U=>(oQ bs).length -U) 0 ⟨Nat.zero_le _,fun j x hj=>by first|omega|(simp only[];omega)⟩ sb (fun w hw=>ah.mem hw) ?_;rintro i ⟨bg,aK⟩;refine al ?_;refine Gb ?_ ?_<;>intro h4
 ·
  refine l6 ?_;obtain⟨y,hy⟩:=get_some (xs:=(oQ bs)) (i:=i) oM;refine ag (bf rfl rfl i rfl oM) (ag (bW (j:=0) rfl i hy rfl dDq) (aP ?_));refine Gb ?_ ?_<;>intro h5
  ·
   have wx:xx (oQ bs)=false:=by
    cases hk:xx (oQ bs)with
    |false=>rfl
    |true=>exact absurd (congrArg UInt8.toNat (K5.1 hk y (atl hy))) (by intro e;exact h5 (by rw[e];rfl))
   have hE:cM bs=(kB,2):=by rw[cM,if_neg (by rw[h0];simp),if_neg (by rw[h1];simp),if_neg CW,if_neg (by rw[lH];simp),if_pos wx]
   refine Gc ?_;refine ag (cR (v:= .agg (dt pO)) rfl (fun w=>kRq)) (al ?_);refine Gr fun w1 hw=>?_;exact⟨pO,by rw[hE],by rw[hE];rfl,Mem.dE aQ 1 (ah.mem hw:Mem w [] _)⟩
  have Mt:y=0:=awm.1 (show y.toNat=0 by omega);refine al ?_;refine Gi ?_;exact bo (x:=(i)) (i+1) ⟨oF,fun j x hj hx=>if e:j=i then(by subst e;rw[hy]at hx;cases hx;exact Mt)else aK j x oF hx⟩ oF sb (fun w hw=>ah.mem hw)
 obtain rfl:i=(oQ bs).length:=by omega
 have wx:xx (oQ bs)=true:=K5.2 fun x hx=>by
  obtain⟨j,hj⟩:=aul hx;exact aK j x (zz.1 hj).1 hj
 have hE:cM bs=({vZ bs with body:=((bs.drop 10).take (10+iJ bs -10))},0):=by rw[cM,if_neg (by rw[h0];simp),if_neg (by rw[h1];simp),if_neg CW,if_neg (by rw[lH];simp),if_neg (by rw[wx];simp)]
 refine ar ?_;refine Gb ?_ ?_<;>intro h6
 ·refine Gi ?_;refine al ?_;have UH:Rg 10 (10+iJ bs) bs.length:=⟨oM⟩;refine ag (CC rfl rfl rfl 10 (10+iJ bs) rfl rfl UH.h.1 UH.h.2) (bb rfl (by simp only[at3,auh];omega) fun Mv aq8=>Gs ?_);refine dO (cs':=dt (⟨((bs.getD 0 0).toNat:Int),((bs.getD 1 0).toNat:Int),(UInt64.ofNat (de ((bs.drop 2).take (8 -2)))),⟨Mv,((bs.drop 10).take ((10+iJ bs) -10))⟩⟩:fA)) rfl rfl (by show 3<4;decide) (by first|rfl|exact Sv.one _) rfl (aP ?_);refine Gr fun w1 hw=>?_;exact⟨⟨((bs.getD 0 0).toNat:Int),((bs.getD 1 0).toNat:Int),UInt64.ofNat (de ((bs.drop 2).take (8 -2))),⟨Mv,((bs.drop 10).take (10+iJ bs -10))⟩⟩,by rw[hE],by rw[hE];exact Si bs Mv ((bs.drop 10).take (10+iJ bs -10)),ah.mem hw⟩
 have oW:iJ bs=0:=by omega
 refine aP ?_;refine Gr fun w1 hw=>?_;exact⟨v7 bs,by rw[hE],by rw[hE,K7,oW];simp[vZ],Mem.dE aQ 1 (ah.mem hw:Mem w [] _)⟩)⟩
instance aq9{c:Cp}{id:Int}{n:Int}[hc:aX w0 L c]:bV prog 303 w0 L [.agg (aV c), .int .i64 id, .int .i64 n] (.bool (oR (cv c) id n)) (aW (cv c)=true/\1<=n/\n<=1000000):=⟨fun aC w hw=>by
 have hc:=hc.h w hw;have lN:cQ w c:=⟨hc⟩;obtain⟨hk,xS,xT⟩:=aC;have dI:=iv c.blocks.xs;have je:=mK.1 (eN.1 hk).1;simp only[cv,dI]at je;have xR:0<=((n -1)/c.pages):=av3 oM oM;have ON:((n -1)/c.pages)<=n -1:=Int.ediv_le_self _ oM;have oW:0<=((n -1)%c.pages):=av4 _ oM;have qM:((n -1)%c.pages)<c.pages:=av8 _ oM;have oh:=zk (c:=c) (b:=((n -1)/c.pages));have Mw:(c.blocks.xs.getD ((n -1)/c.pages).toNat rk).used=(ak (cv c) ((n -1)/c.pages)).used:=congrArg BV.used oh;refine th func303 rfl ntmps303 rfl ?_;refine Gc ?_;refine cn rfl fun b3=>au ?_;refine jI oK oK (ar ?_);refine bX (ou rfl rfl oM oM) (ar ?_);refine bX (Cl rfl rfl oM oM) (QI ?_);refine bU rfl rfl rfl (fun hg=>(Ry.yl (bf (aG hg rfl) (aG hg rfl) (((n -1)/c.pages).toNat) (by simp only[Z0,Z1,Z2,Z3,Z4,Z5,Z6,Z7,Z8,Z9]at hg;omega) (by simp only[Z0,Z1,Z2,Z3,Z4,Z5,Z6,Z7,Z8,Z9]at hg;omega)))) (bU rfl rfl rfl (fun hg=>(Ry.yl (aM (aG hg rfl) rfl))) (bU rfl rfl rfl (fun hg=>(Ry.yl (bW (j:=1) (aG hg rfl) (((n -1)/c.pages).toNat) (pz (xs:=c.blocks.xs) (i:=((n -1)/c.pages).toNat) (d:=rk) (by simp only[Z0,Z1,Z2,Z3,Z4,Z5,Z6,Z7,Z8,Z9]at hg;omega)) rfl dDq))) (al ?_)));refine Gb ?_ ?_<;>intro h0
 ·
  have hz:oR (cv c) id n=false:=by
   cases u9:lz (cv c) (n -1)with
   |false=>rw[oR,u9];rfl
   |true=>
    obtain⟨g1,g2,g3⟩:=nr.1 u9;change 2<=((n -1)/c.pages)at g1;change((n -1)/c.pages)<((jv c.blocks.xs).length:Int)at g2;change((n -1)%c.pages)<(ak (cv c) ((n -1)/c.pages)).used at g3;rw[dI]at g2;omega
  refine al ?_;refine Gr fun w1 hw=>?_;exact Ge (hz.symm) hw
 have cf:lz (cv c) (n -1)=true:=nr.2 ⟨show 2<=((n -1)/c.pages) by omega,by simp only[cv,dI];omega,show((n -1)%c.pages)<(ak (cv c) ((n -1)/c.pages)).used by omega⟩;obtain⟨B,hB⟩:=get_some (xs:=c.blocks.xs) (i:=((n -1)/c.pages).toNat) oM;have tT:Mb B c.blocks:=⟨List.mem_of_getElem? hB⟩;have ft:bv B=ak (cv c) ((n -1)/c.pages):=by rw[←oh];simp[List.getD,hB]
 have gR:=fy.1 ((eN.1 hk).2.2.2.2 (bv B) (atl (nY hB)));have jl:=pJ B.pages.xs;have DU:(B.pages.xs.length:Int)=c.pages:=by have:=gR.1;simp only[bv,cv,jl]at this;exact this
 obtain⟨y,hy⟩:=get_some (xs:=B.pages.xs) (i:=((n -1)%c.pages).toNat) oM;have Mx:Mb y B.pages:=⟨List.mem_of_getElem? hy⟩;have fC:bS (cv c) (n -1)=y.xs:=by
  show(ak (cv c) ((n -1)/c.pages)).pages.getD ((n -1)%c.pages).toNat []=y.xs;rw[←ft];simp[bv,List.getD,rl hy]
 refine ar ?_;refine ag (bf rfl rfl (((n -1)/c.pages).toNat) oM oM) (ag (aM rfl rfl) (ag (bW (j:=0) rfl (((n -1)/c.pages).toNat) hB rfl dDq) ?_));have ara:Mb B _:=⟨List.mem_of_getElem? hB⟩;refine Gs ?_;refine ag (bf rfl rfl (((n -1)%c.pages).toNat) oM oM) (ag (bW (j:=0) rfl (((n -1)%c.pages).toNat) hy rfl dDq) ?_);have arb:Mb y _:=⟨List.mem_of_getElem? hy⟩;refine bb rfl trivial fun qN zH=>?_;have e1:qN.kind=(cM y.xs).1.kind:=congrArg PV.kind zH;have e2:qN.id=(cM y.xs).1.id:=congrArg PV.id zH;refine Gs ?_;refine ag (aB (v:= .agg (dt qN)) rfl rfl) (ag (aB (v:= .int .i64 ((cM y.xs).2)) rfl rfl) (bn fun b9=>QJ ?_));refine Gr fun w1 hw=>?_;exact⟨congrArg (fun b=>Ending.returned (Value.bool b)) ((by rw[oR,cf,fC,G1,←e1,←e2];rfl)),ah.mem hw⟩⟩
def pa(n:Int):Value:= .int .i64 n
def rD(_:Unit):Value:= .agg #[]
instance:DL pa:=⟨fun h=>by simpa[pa]using h⟩
instance:DK prog 3:=⟨Maps.int_keyed underlying3⟩
instance:Bq prog 318 3 319:=⟨underlying318⟩
instance:eY prog 319 (.agg #[]):=⟨kRq⟩
instance:gB (#[]:Array Value) 0:=⟨rfl,by simp⟩
theorem My{n:Int}(h: -9223372036854775808<=n/\n<=9223372036854775807): ∃l,keyOf prog 3 (pa n)=some l:=⟨_,Maps.keyOf_int_mk underlying3 (by simp[Lit.wf,IntKind.min,IntKind.max,IntKind.signed,IntKind.bits];omega)⟩
instance arc{c:Cp}{t:Sv}{ts:List Int}[hc:aX w0 L c][ht:dG w0 L ck 1 t ts]:bV prog 259 w0 L [.agg (aV c),t.val] (.bool (wa (cv c) ts)) (aW (cv c)=true/\ ∀x∈ts,0<=x/\x<=65535):=⟨fun aC w hw=>by
 have hc:=hc.h w hw;have ht:=ht.h w hw;have lN:cQ w c:=⟨hc⟩;have Hw:Gv w t ck 1 ts:=⟨ht⟩;obtain⟨hk,qa⟩:=aC;have kv:=ht.bd;refine dD func259 rfl ntmps259 rfl ?_;refine Gc ?_;refine cn rfl fun b2=>ar ?_;refine afD pa rD rfl fun wy=>aY ?_;refine cg (X:=Nat) (fun U=>[(15, .int .i64 (U:Nat)),(5, .map (some wy)),(2, .pointer (some ⟨b2,0,none⟩)),(13,t.val),(14, .int .i64 (ts.length:Nat))]) (fun U=>[omap prog 3 pa rD wy (kQ ts U),aq b2 (aV c) 59]) (fun U=>U<=ts.length/\ ∀j,j<U->se (cv c) ts j=true) (fun U=>ts.length -U) 0 ⟨Nat.zero_le _,fun j hj=>by first|omega|(simp only[];omega)⟩ sb (fun w hw=>by
  rw[←Sm];exact ah.mem hw) ?_
 rintro i ⟨bg,aK⟩;refine al ?_;refine Gb ?_ ?_<;>intro h0
 ·
  obtain⟨y,hy⟩:=get_some (xs:=ts) (i:=i) oM;have hyr:=qa y (atl hy);have qb:=qC hy;have yj:=My (n:=y) oM;refine au ?_;refine ag (bf rfl rfl i rfl oM) (ag (bW (j:=0) rfl i hy rfl dDq) (aY ?_));refine Gb ?_ ?_<;>intro h1
  ·
   subst h1;have bJ:se (cv c) ts i=true:=by rw[se,qb];rfl
   refine al ?_;refine Gi ?_;exact bo (x:=(i)) (i+1) ⟨oF,fun j hj=>if e:j=i then e▸bJ else aK j oF⟩ oF sb (fun w hw=>by
    rw[Sn hy];exact ah.mem hw)
  refine al ?_;refine ag (Mm (dA:=pa) (eP:=rD) (f:=kQ ts i) (v:=y) (z:=()) rfl rfl yj) (Gs ?_);refine ag (aB (v:= .agg #[]) rfl rfl) (ag (aB (v:= .bool ((kQ ts i y).isSome)) rfl rfl) (bn fun b8=>aP ?_));refine bU rfl rfl rfl (fun hg=>(Ry.yl (jU rfl))) (au ?_);refine bU rfl rfl rfl (fun hg=>bK (fG (aG hg rfl) (fG (aG hg rfl) (fG (aG hg rfl) jG))) ⟨hk,oM,oM⟩) (bU rfl rfl rfl (fun hg=>(Ry.yl (nJ (aG hg rfl)))) (au ?_));refine Gb ?_ ?_<;>intro h2
  ·
   have hz:wa (cv c) ts=false:=by
    cases u9:wa (cv c) ts with
    |false=>rfl
    |true=>
     have g:=Dh.1 u9 i oM;rw[se,qb]at g;rw[Di]at h2;simp only[avc,af0,decide_eq_true_eq,au5,awF,decide_eq_false_iff_not]at g h2;rcases g with g|g
     ·exact absurd g h1
     rcases h2 with h2|h2
     ·exact absurd h2.2 g.1
     rw[g.2]at h2;cases h2
   refine al ?_;refine Gr fun w1 hw=>?_;exact Ge (hz.symm) hw
  have bJ:se (cv c) ts i=true:=by
   rw[Di]at h2;rw[se,qb];simp only[avc,af0,decide_eq_true_eq,au5,awF,decide_eq_false_iff_not]at h2⊢;exact .inr ⟨fun hm=>h2.1 ⟨h1,hm⟩,h2.2⟩
  have fE:=So hy h1;refine al ?_;refine ag (cR (v:= .agg #[]) rfl (fun w=>kRq)) (Mn (dA:=pa) (eP:=rD) (v:=y) (u:=()) rfl rfl rfl yj (al ?_));refine Gi ?_;exact bo (x:=(i)) (i+1) ⟨oF,fun j hj=>if e:j=i then e▸bJ else aK j oF⟩ oF sb (fun w hw=>by
   rw[←fE];exact ah.mem hw)
 obtain rfl:i=ts.length:=by omega
 have hz:wa (cv c) ts=true:=Dh.2 fun j hj=>aK j hj;refine al ?_;refine Gr fun w1 hw=>?_;exact⟨congrArg (fun b=>Ending.returned (Value.bool b)) (hz.symm),ah.mem hw⟩⟩
instance:eY prog 402 (.agg (bM eu)):=⟨kRq⟩
theorem afM(u v:Int)(b:Bool)(w:World):(Instr.build 402 #[(1, .int .i64 u),(2, .int .i64 v),(3, .bool b)]).run prog w= .ok (.agg (bM ⟨0,u,v,b⟩)) w:=by
 unfold bM;kernel_rfl
instance ard{c:Cp}{l:Sl (Sl Int)}[hc:aX w0 L c][hl:aX w0 L l]:bY prog 326 w0 L [.agg (aV c),l.sv.val] (Sv) (fun U=>U.val) (fun U=>own bM 4 U (jx (cv c) (aw l.xs))::L) (fun U=>True) (xA (cv c) (aw l.xs)):=⟨fun aC w hw=>Gk (fun U=>[own bM 4 U (jx (cv c) (aw l.xs))]) hw (by
 have hc:=hc.h w hw;have hl:=hl.h w hw;have lN:cQ w c:=⟨hc⟩;have qF:cQ w l:=⟨hl⟩;obtain⟨⟨hk,mL⟩,ri,jh⟩:=aC;have kv:=hl.1.bd;have dI:=iv c.blocks.xs;have pX:(cv c).blocks.length=c.blocks.xs.length:=dI;have je:=mK.1 (eN.1 hk).1;simp only[cv,dI]at je;have oN:=AW (cv c) (aw l.xs);rw[pX]at oN;have tO:(List.replicate (c.blocks.xs.length -2) eu).length=c.blocks.xs.length -2:=List.length_replicate;refine dD func326 rfl ntmps326 rfl ?_;refine Gc ?_;refine cn rfl fun b2=>aY ?_;refine vI (enc:=bM) (n:=(c.blocks.xs.length -2)) (cap:=(c.blocks.xs.length -2)) eu rfl rfl rfl oM oM oM oM oM fun sE=>aY ?_;refine cg (X:=Nat×List az) (fun U=>[(22, .int .i64 (U.1:Nat)),(5,(⟨false,sE,0,c.blocks.xs.length -2,c.blocks.xs.length -2,none⟩:Sv).val),(1,l.sv.val),(2, .pointer (some ⟨b2,0,none⟩)),(21, .int .i64 ((List.replicate (c.blocks.xs.length -2) eu).length:Nat))]) (fun U=>[own bM 4 ⟨false,sE,0,c.blocks.xs.length -2,c.blocks.xs.length -2,none⟩ U.2,aq b2 (aV c) 59]) (fun U=>U.1<=c.blocks.xs.length -2/\U.2.length=c.blocks.xs.length -2/\U.2.take U.1=(kE (cv c) (aw l.xs) 0).take U.1) (fun U=>c.blocks.xs.length -2 -U.1) (0,List.replicate (c.blocks.xs.length -2) eu) ⟨Nat.zero_le _,by simp,by simp⟩ sb (fun w hw=>ah.mem hw) ?_;rintro⟨i,zs⟩ ⟨bg,aK,bx⟩;dsimp only;simp only at bg aK bx;refine al ?_;refine Gb ?_ ?_<;>intro h0
 ·
  obtain⟨B,hB⟩:=get_some (xs:=c.blocks.xs) (i:=i+2) oM;have tT:Mb B c.blocks:=⟨List.mem_of_getElem? hB⟩;obtain⟨z,hz⟩:=get_some (xs:=zs) (i:=i) oM;have vX:(zs.set i (⟨0,B.used,B.aU,B.bad⟩:az)).take (i+1)=(kE (cv c) (aw l.xs) 0).take (i+1):=by
   have e1:=GX (f:=id) (z':=(⟨0,B.used,B.aU,B.bad⟩:az)) hz;simp only[List.map_id]at e1;rw[e1,bx,at6,adx,aua,avw oM,auI,show ak (cv c) ((i:Int)+2)=bv B from Ld (i:=i+2) hB];rfl
  refine fS ?_;refine ag (bf rfl rfl (i+2) rfl oM) (ag (gV rfl (i+2) hB rfl) ?_);have UB:Mb B c.blocks:=⟨List.mem_of_getElem? hB⟩;refine bn fun b7=>rZ ?_;refine ag (cR (v:= .agg (bM (⟨0,B.used,B.aU,B.bad⟩:az))) rfl (afM B.used B.aU B.bad)) (ag (bf rfl rfl i rfl oM) (mC (s:=⟨false,sE,0,c.blocks.xs.length -2,c.blocks.xs.length -2,none⟩) (n:=4) (k:=i) (j:=0) (a:=z) (a':=(⟨0,B.used,B.aU,B.bad⟩:az)) (xs:=zs) (enc:=bM) (c:=4) (v:= .agg (bM (⟨0,B.used,B.aU,B.bad⟩:az))) oK rfl rfl rfl hz (bp.one (enc:=bM) (c:=4) _) rfl dDq (by rfl) (al ?_)));refine Gi ?_;exact bo (x:=(i,zs)) (i+1,zs.set i (⟨0,B.used,B.aU,B.bad⟩:az)) ⟨oF,by rw[auA];exact aK,vX⟩ (by simp only;omega) sb (fun w hw=>ah.mem hw)
 obtain rfl:i=zs.length:=by omega
 rw[aup,aug (by rw[oN];omega)]at bx;subst bx;refine Gc ?_;refine Uy pa rD fun HI=>aY ?_;refine cg (X:=Nat) (fun U=>[(45, .int .i64 (U:Nat)),(5,(⟨false,sE,0,c.blocks.xs.length -2,c.blocks.xs.length -2,none⟩:Sv).val),(8, .map (some HI)),(2, .pointer (some ⟨b2,0,none⟩)),(43,l.sv.val),(44, .int .i64 (l.xs.length:Nat))]) (fun U=>[omap prog 3 pa rD HI (kQ (aw l.xs) (aw (l.xs.take U)).length),own bM 4 ⟨false,sE,0,c.blocks.xs.length -2,c.blocks.xs.length -2,none⟩ (kE (cv c) (aw l.xs) (aw (l.xs.take U)).length),aq b2 (aV c) 59]) (fun U=>U<=l.xs.length) (fun U=>l.xs.length -U) 0 (auo _) sb (fun w hw=>by
  have e0:(aw (l.xs.take 0)).length=0:=by simp[aw]
  simp only[e0];rw[←Sm];exact ah.mem hw) ?_
 rintro a Mz;refine al ?_;refine Gb ?_ ?_<;>intro h1
 ·
  obtain⟨x,hx⟩:=get_some (xs:=l.xs) (i:=a) oM;have UI:Mb x l:=⟨List.mem_of_getElem? hx⟩;have et:=(hl.2 x UI.h).1.bd;refine Gc ?_;refine ag (bf rfl rfl a rfl oM) (ag (bW (j:=0) rfl a hx rfl dDq) ?_);have are:Mb x _:=⟨List.mem_of_getElem? hx⟩;refine aY ?_;refine cg (X:=Nat) (fun U=>[(51, .int .i64 (U:Nat)),(5,(⟨false,sE,0,c.blocks.xs.length -2,c.blocks.xs.length -2,none⟩:Sv).val),(8, .map (some HI)),(2, .pointer (some ⟨b2,0,none⟩)),(43,l.sv.val),(44, .int .i64 (l.xs.length:Nat)),(45, .int .i64 (a:Nat)),(49,x.sv.val),(50, .int .i64 (x.xs.length:Nat))]) (fun U=>[omap prog 3 pa rD HI (kQ (aw l.xs) ((aw (l.xs.take a)).length+U)),own bM 4 ⟨false,sE,0,c.blocks.xs.length -2,c.blocks.xs.length -2,none⟩ (kE (cv c) (aw l.xs) ((aw (l.xs.take a)).length+U)),aq b2 (aV c) 59]) (fun U=>U<=x.xs.length) (fun U=>x.xs.length -U) 0 (auo _) sb (fun w hw=>ah.mem hw) ?_;rintro j fP;refine al ?_;refine Gb ?_ ?_<;>intro h2
  ·
   obtain⟨y,hy⟩:=get_some (xs:=x.xs) (i:=j) oM;have Bw:=adw hx hy;have MA:=jh y (atl Bw);have qb:=qC Bw;have yj:=My (n:=y) oM;refine Gc ?_;refine ag (bf rfl rfl j rfl oM) (ag (bW (j:=0) rfl j hy rfl dDq) (ar ?_));refine ag (Mm (dA:=pa) (eP:=rD) (f:=kQ (aw l.xs) ((aw (l.xs.take a)).length+j)) (v:=y) (z:=()) rfl rfl yj) (Gs ?_);refine ag (aB (v:= .agg #[]) rfl rfl) (ag (aB (v:= .bool ((kQ (aw l.xs) ((aw (l.xs.take a)).length+j) y).isSome)) rfl rfl) (bn fun jB=>iS ?_));refine Gb ?_ ?_<;>intro h3
   ·
    have va:nZ (aw l.xs) ((aw (l.xs.take a)).length+j)=false:=by
     rw[nZ,qb];rw[Di]at h3;rcases h3 with h|h
     ·simp[h]
     simp only[decide_eq_true_eq]at h;simp[h.2]
    have hsk:kQ (aw l.xs) (((aw (l.xs.take a)).length+j)+1)=kQ (aw l.xs) ((aw (l.xs.take a)).length+j):=by
     rw[Di]at h3;rcases h3 with h|h
     ·exact Sn (h▸Bw)
     exact adu Bw (by simpa using h)
    refine al ?_;refine Gi ?_;exact bo (x:=(j)) (j+1) oF oF sb (fun w hw=>by
     rw[←avy,hsk,adt va];exact ah.mem hw)
   have ox:y≠0:=h3.1;obtain⟨b1,b2,b3,b4⟩:=MA.resolve_left ox;change 2<=((y -1)/c.pages)at b3;change((y -1)/c.pages)<((jv c.blocks.xs).length:Int)at b4;rw[dI]at b4;have va:nZ (aw l.xs) ((aw (l.xs.take a)).length+j)=true:=by
    rw[nZ,qb];have h9:=h3.2;rw[Di]at h9;simp only[decide_eq_false_iff_not]at h9;simp only[af0,decide_eq_true_eq,au5,awF,decide_eq_false_iff_not];exact⟨ox,fun hm=>h9 ⟨ox,hm⟩⟩
   have fE:=So Bw ox;have xk:=AW (cv c) (aw l.xs) ((aw (l.xs.take a)).length+j);rw[pX]at xk;obtain⟨z,hz⟩:=get_some (xs:=kE (cv c) (aw l.xs) ((aw (l.xs.take a)).length+j)) (i:=(((y -1)/c.pages) -2).toNat) oM;have rE:=adv va (i:=(((y -1)/c.pages) -2).toNat) (by rw[qb];show((y -1)/c.pages)=_;omega) hz;have rC:=ady hz;have cf:=(zz.1 Bw).1;refine al ?_;refine ag (cR (v:= .agg #[]) rfl (fun w=>kRq)) (Mn (dA:=pa) (eP:=rD) (v:=y) (u:=()) rfl rfl rfl yj (aY ?_));refine ag (ou rfl rfl oM oM) (Gs ?_);refine ag (bf rfl rfl ((((y -1)/c.pages) -2).toNat) oM oM) (ag (aM rfl rfl) (ag (bW (j:=0) rfl ((((y -1)/c.pages) -2).toNat) hz rfl dDq) (Gs ?_)));refine ag (bf rfl rfl ((((y -1)/c.pages) -2).toNat) oM oM) (ag (aM rfl rfl) (mC (s:=⟨false,sE,0,c.blocks.xs.length -2,c.blocks.xs.length -2,none⟩) (n:=1) (k:=(((y -1)/c.pages) -2).toNat) (j:=0) (a:=z) (a':={z with live:=z.live+1}) (xs:=(kE (cv c) (aw l.xs) ((aw (l.xs.take a)).length+j))) (enc:=bM) (c:=4) (v:= .int .i64 (z.live+1)) oK rfl rfl rfl hz (by simp[Value.cells,Value.oneCell']) (by rfl) dDq (by rfl) (al ?_)))
   refine Gi ?_;exact bo (x:=(j)) (j+1) oF oF sb (fun w hw=>by
    rw[←avy,←fE,rE];exact ah.mem hw)
  obtain rfl:j=x.xs.length:=by omega
  refine al ?_;refine Gi ?_;exact bo (x:=(a)) (a+1) oF oF sb (fun w hw=>by
   rw[Sz hx,adr];exact ah.mem hw)
 obtain rfl:a=l.xs.length:=by omega
 rw[aup];refine ar ?_;refine Gr fun w1 hw=>?_;exact⟨⟨false,sE,0,c.blocks.xs.length -2,c.blocks.xs.length -2,none⟩,rfl,trivial,by rw[jx];exact ah.mem hw⟩)⟩
instance:eY prog 432 (.agg (fT ac9)):=⟨kRq⟩
theorem MB(x:az)(p:Int)(w:World):(Instr.build 432 #[(0, .agg (bM x)),(1, .int .i64 p)]).run prog w= .ok (.agg (fT ⟨x,p⟩)) w:=by
 obtain⟨a,b,c,d⟩:=x;unfold fT bM;kernel_rfl
instance arf{a:Int}:bV prog 350 w0 L [.int .i64 a] (.bool false) (True):=⟨fun aC w hw=>by
 refine cx func350 rfl ntmps350 rfl ?_;refine fS ?_;refine Gr fun w1 hw=>?_;exact⟨congrArg (fun b=>Ending.returned (Value.bool b)) ((by simp)),ah.mem hw⟩⟩
instance arh{a:Int}{b:Int}:bV prog 349 w0 L [.int .i64 a, .int .i64 b] (.int .i64 (zo a b)) (True):=⟨fun aC w hw=>by
 refine dD func349 rfl ntmps349 rfl ?_;refine Kr ?_;refine lU rfl (fun h0=>?_) (fun h0=>?_)
 ·exfalso;simp at h0
 replace h0:=bz h0;refine al ?_;refine lU rfl (fun h2=>?_) (fun h2=>?_)
 ·exfalso;simp at h2
 replace h2:=bz h2;refine aP ?_;refine Gb ?_ ?_<;>intro h3
 ·refine al ?_;refine Gr fun w1 hw=>?_;exact Gf ((by rw[zo,if_pos oM])) hw
 refine aP ?_;refine Gb ?_ ?_<;>intro h4
 ·refine al ?_;refine Gr fun w1 hw=>?_;exact Gf ((by rw[zo,if_neg oM,if_pos oM])) hw
 refine al ?_;refine Gr fun w1 hw=>?_;exact⟨congrArg (fun b=>Ending.returned (Value.int .i64 b)) ((by rw[zo,if_neg oM,if_neg oM])),ah.mem hw⟩⟩
theorem UJ(w:World)(b:jL):Calls prog 335 #[.agg (fT b)] w fun e w'=>e= .returned (.bool (nu b.pages b.w))/\Mem w [] w':=by
 refine cx func335 rfl ntmps335 rfl ?_;refine Gc ?_;refine cn rfl fun b1=>fS ?_;refine jo rfl rfl rfl (fun hg=>(Ry.yl (aM (o':=1) (aG hg rfl) rfl))) (cX ?_);refine Gr fun w1 hw=>?_;exact Ge (by simp only[nu,Bool.and_assoc]) hw
instance ari{b:jL}:bV prog 335 w0 L [.agg (fT b)] (.bool (nu b.pages b.w)) (True):=⟨fun hp w hw=>UJ w b⟩
theorem UK(w:World)(b:jL):Calls prog 333 #[.agg (fT b)] w fun e w'=>e= .returned (.bool (mR b.w))/\Mem w [] w':=by
 refine cx func333 rfl ntmps333 rfl ?_;refine Gc ?_;refine cn rfl fun b1=>fS ?_;refine jo rfl rfl rfl (fun hg=>(Ry.yl (aM (o':=0) (aG hg rfl) rfl))) (aP ?_);refine jo rfl rfl rfl (fun hg=>(Ry.yl (aM (o':=1) (aG hg rfl) rfl))) (aP ?_);refine Gr fun w1 hw=>?_;exact Ge (by simp only[mR,Bool.and_assoc]) hw
instance arj{b:jL}:bV prog 333 w0 L [.agg (fT b)] (.bool (mR b.w)) (True):=⟨fun hp w hw=>UK w b⟩
theorem afN(w:World)(b:jL):Calls prog 340 #[.agg (fT b)] w fun e w'=>e= .returned (.bool (zp b.pages b.w))/\Mem w [] w':=by
 refine cx func340 rfl ntmps340 rfl ?_;refine Gc ?_;refine cn rfl fun b1=>aY ?_;refine Gb ?_ ?_<;>intro h0
 ·refine cX ?_;refine Gr fun w1 hw=>?_;exact Ge (by rw[zp,if_pos h0]) hw
 refine iS ?_;refine jo rfl rfl rfl (fun hg=>(Ry.yl (aM (o':=0) (aG hg rfl) rfl))) (aP ?_);refine jo rfl rfl rfl (fun hg=>(Ry.yl (aM (o':=0) (aG hg rfl) rfl))) (cX ?_);refine Gr fun w1 hw=>?_;exact Ge (by rw[zp,if_neg (by rw[h0];simp)]) hw
theorem afO(w:World)(a:jL)(b:jL):Calls prog 336 #[.agg (fT a), .agg (fT b)] w fun e w'=>e= .returned (.int .i64 (AX a.w b.w))/\Mem w [] w':=by
 refine dD func336 rfl ntmps336 rfl ?_;refine Gc ?_;refine cn rfl fun b2=>cn rfl fun b3=>rh ?_;refine Gr fun w1 hw=>?_;exact⟨rfl,ah.mem hw⟩
theorem afP(w:World)(a:jL)(b:jL):Calls prog 334 #[.agg (fT a), .agg (fT b)] w fun e w'=>e= .returned (.int .i64 (tr a.w b.w))/\Mem w [] w':=by
 refine dD func334 rfl ntmps334 rfl ?_;refine Gc ?_;refine cn rfl fun b2=>cn rfl fun b3=>rh ?_;refine Gr fun w1 hw=>?_;exact⟨rfl,ah.mem hw⟩
theorem afQ(w:World)(a:jL)(b:jL):Calls prog 342 #[.agg (fT a), .agg (fT b)] w fun e w'=>e= .returned (.int .i64 (Lg a.w b.w))/\Mem w [] w':=by
 refine dD func342 rfl ntmps342 rfl ?_;refine Gc ?_;refine cn rfl fun b2=>cn rfl fun b3=>rh ?_;refine Gr fun w1 hw=>?_;exact⟨rfl,ah.mem hw⟩
theorem afR(w:World)(a:jL)(b:jL):Calls prog 341 #[.agg (fT a), .agg (fT b)] w fun e w'=>e= .returned (.int .i64 (AY a.w b.w))/\Mem w [] w':=by
 refine dD func341 rfl ntmps341 rfl ?_;refine Gc ?_;refine cn rfl fun b2=>cn rfl fun b3=>fS ?_;refine ag (YF rfl rfl underlying4) (au ?_);refine Gb ?_ ?_<;>intro h0
 ·refine al ?_;refine Gr fun w1 hw=>?_;exact Gf ((by rw[AY,if_pos (by simpa using h0)])) hw
 refine aY ?_;refine Gb ?_ ?_<;>intro h1
 ·refine al ?_;refine Gr fun w1 hw=>?_;exact Gf ((by rw[AY,if_neg (by simpa using h0),if_pos h1])) hw
 refine al ?_;refine Gr fun w1 hw=>?_;exact Gf ((by rw[AY,if_neg (by simpa using h0),if_neg (by rw[h1];simp)])) hw
instance ark{l:Sv}{ls:List az}{p:Int}[hl:dG w0 L bM 4 l ls]:bV prog 346 w0 L [l.val, .int .i64 p] (.bool (mS ls p)) (True):=⟨fun aC w hw=>by
 have hl:=hl.h w hw;have qF:Gv w l bM 4 ls:=⟨hl⟩;have pS:cT=1099511627776:=rfl;refine dD func346 rfl ntmps346 rfl ?_;refine aaN ?_;refine Gb ?_ ?_<;>intro h0
 ·
  have hz:mS ls p=false:=by
   cases hk:mS ls p with
   |false=>rfl
   |true=>have g:=tt.1 hk;omega
  refine al ?_;refine Gr fun w1 hw=>?_;exact Ge (hz.symm) hw
 refine aP ?_;refine cg (X:=Nat) (fun U=>[(25, .int .i64 (U:Nat)),(1, .int .i64 p),(23,l.val),(24, .int .i64 (ls.length:Nat))]) (fun U=>[]) (fun U=>U<=ls.length/\ ∀j x,j<U->ls[j]? =Option.some x->xB p x=true) (fun U=>ls.length -U) 0 ⟨Nat.zero_le _,fun j x hj=>by first|omega|(simp only[];omega)⟩ sb (fun w hw=>ah.mem hw) ?_;rintro i ⟨bg,aK⟩;refine al ?_;refine Gb ?_ ?_<;>intro h1
 ·
  refine l6 ?_;obtain⟨x,hx⟩:=get_some (xs:=ls) (i:=i) oM;refine ag (bf rfl rfl i rfl oM) (ag (gV rfl i hx rfl) (bn fun b6=>QK ?_));refine Gb ?_ ?_<;>intro h2
  ·
   have hz:mS ls p=false:=by
    cases hk:mS ls p with
    |false=>rfl
    |true=>
     have g:=sh.1 ((tt.1 hk).2.2.2.2 x (atl hx));omega
   refine al ?_;refine Gr fun w1 hw=>?_;exact Ge (hz.symm) hw
  have xG:xB p x=true:=sh.2 ⟨oM,oM,oM,oM,oM⟩;refine al ?_;refine Gi ?_;exact bo (x:=(i)) (i+1) ⟨oF,fun j y hj hy=>if e:j=i then(by subst e;rw[hx]at hy;cases hy;exact xG)else aK j y oF hy⟩ oF sb (fun w hw=>ah.mem hw)
 obtain rfl:i=ls.length:=by omega
 have hz:mS ls p=true:=tt.2 ⟨oM,oM,oM,oM,fun x hx=>by
  obtain⟨j,hj⟩:=aul hx;exact aK j x (zz.1 hj).1 hj⟩
 refine al ?_;refine Gr fun w1 hw=>?_;exact⟨congrArg (fun b=>Ending.returned (Value.bool b)) (hz.symm),ah.mem hw⟩⟩
def jf(f:FuncId):az->az->Int:=if f=336 then AX else if f=334 then tr else if f=342 then Lg else AY
theorem afS{f:FuncId}(h:f∈[336,334,342,341]):aH prog f/\ ∀(w:World) (a b:jL),Calls prog f #[.agg (fT a), .agg (fT b)] w fun e w'=>e= .returned (.int .i64 (jf f a.w b.w))/\Mem w [] w':=by
 simp only[auc,avO,or_false]at h;rcases h with rfl|rfl|rfl|rfl
 ·exact⟨inferInstance,fun w a b=>afO w a b⟩
 ·exact⟨inferInstance,fun w a b=>afP w a b⟩
 ·exact⟨inferInstance,fun w a b=>afQ w a b⟩
 exact⟨inferInstance,fun w a b=>afR w a b⟩
def nC(f:FuncId)(p:Int):az->Bool:=if f=335 then nu p else if f=333 then mR else zp p
theorem afT{f:FuncId}(h:f∈[335,333,340]):aH prog f/\ ∀(w:World) (b:jL),Calls prog f #[.agg (fT b)] w fun e w'=>e= .returned (.bool (nC f b.pages b.w))/\Mem w [] w':=by
 simp only[auc,avO,or_false]at h;rcases h with rfl|rfl|rfl
 ·exact⟨inferInstance,fun w b=>UJ w b⟩
 ·exact⟨inferInstance,fun w b=>UK w b⟩
 exact⟨inferInstance,fun w b=>afN w b⟩
instance arl{a:jL}{b:jL}{o:Sv}{os:List FuncId}[ho:dG w0 L uZ 1 o os]:bV prog 348 w0 L [.agg (fT a), .agg (fT b),o.val] (.bool (uK a.w b.w (os.map jf))) (∀f∈os,f∈[336,334,342,341]):=⟨fun aC w hw=>by
 have ho:=ho.h w hw;have gho:Gv w o uZ 1 os:=⟨ho⟩;have kv:=ho.bd;refine th func348 rfl ntmps348 rfl ?_;refine Gc ?_;refine cn rfl fun b3=>cn rfl fun b4=>aY ?_;refine cg (X:=Nat) (fun U=>[(12, .int .i64 (U:Nat)),(3, .pointer (some ⟨b3,0,none⟩)),(4, .pointer (some ⟨b4,0,none⟩)),(10,o.val),(11, .int .i64 (os.length:Nat))]) (fun U=>[aq b4 (fT b) 432,aq b3 (fT a) 432]) (fun U=>U<=os.length/\uK a.w b.w (os.map jf)=uK a.w b.w ((os.drop U).map jf)) (fun U=>os.length -U) 0 ⟨Nat.zero_le _,rfl⟩ sb (fun w hw=>ah.mem hw) ?_;rintro i ⟨bg,aK⟩;refine al ?_;refine Gb ?_ ?_<;>intro h0
 ·
  obtain⟨f,hf⟩:=get_some (xs:=os) (i:=i) oM;obtain⟨isf,hfc⟩:=afS (aC f (atl hf));have bD:uK a.w b.w ((os.drop i).map jf)=if jf f a.w b.w≠0 then decide (jf f a.w b.w<0)else uK a.w b.w ((os.drop (i+1)).map jf):=by
   rw[drop_at hf,aum,uK]
  refine Gc ?_;refine ag (bf rfl rfl i rfl oM) (ag (bW (j:=0) rfl i hf rfl dDq) (aP ?_));refine cO (F9 (f:=f) (vs:=[.agg (fT a), .agg (fT b)]) rfl rfl (fun w1 _=>hfc w1 a b)) (aP ?_);refine Gb ?_ ?_<;>intro h1
  ·
   have hz:uK a.w b.w (os.map jf)=decide (jf f a.w b.w<0):=by rw[aK,bD,if_pos h1]
   refine aP ?_;refine Gr fun w1 hw=>?_;exact Ge (hz.symm) hw
  rw[if_neg oM]at bD;refine al ?_;refine Gi ?_;exact bo (x:=(i)) (i+1) ⟨oF,by rw[aK,bD]⟩ oF sb (fun w hw=>ah.mem hw)
 obtain rfl:i=os.length:=by omega
 have hz:uK a.w b.w (os.map jf)=false:=by rw[aK,awf];rfl
 refine al ?_;refine Gr fun w1 hw=>?_;exact⟨congrArg (fun b=>Ending.returned (Value.bool b)) (hz.symm),ah.mem hw⟩⟩
instance arn{r:FuncId}{l:Sv}{ls:List az}{p:Int}{o:Sv}{os:List FuncId}[hl:dG w0 L bM 4 l ls][ho:dG w0 L uZ 1 o os]:bV prog 332 w0 L [l.val, .int .i64 p, .func (.func r) #[] #[],o.val] (.tuple #[.int .i64 ((gw ls p (nC r p) (os.map jf)).1), .bool ((gw ls p (nC r p) (os.map jf)).2)]) (r∈[335,333,340]/\ ∀f∈os,f∈[336,334,342,341]):=⟨fun aC w hw=>by
 have hl:=hl.h w hw;have ho:=ho.h w hw;have qF:Gv w l bM 4 ls:=⟨hl⟩;have gho:Gv w o uZ 1 os:=⟨ho⟩;obtain⟨iC,zI⟩:=aC;obtain⟨isr,hrc⟩:=afT iC;have kv:=hl.bd;refine QM func332 rfl ntmps332 rfl ?_;refine iS ?_;refine Gb ?_ ?_<;>intro h0
 ·have hE:gw ls p (nC r p) (os.map jf)=(0,false):=if_neg (by rw[h0];simp);refine ar ?_;refine Gr fun w1 hw=>?_;exact⟨by rw[hE],ah.mem hw⟩
 have hE:gw ls p (nC r p) (os.map jf)=iV ls (nC r p) (os.map jf) ls.length:=if_pos h0;refine fS ?_;refine cg (X:=Nat) (fun U=>[(21, .int .i64 (U:Nat)),(10, .int .i64 ((iV ls (nC r p) (os.map jf) U).1)),(11, .bool ((iV ls (nC r p) (os.map jf) U).2)),(0,l.val),(1, .int .i64 p),(2, .func (.func r) #[] #[]),(3,o.val),(19,l.val),(20, .int .i64 (ls.length:Nat))]) (fun U=>[]) (fun U=>U<=ls.length) (fun U=>ls.length -U) 0 (auo _) sb (fun w hw=>ah.mem hw) ?_;rintro i bg;refine al ?_;refine Gb ?_ ?_<;>intro h1
 ·
  obtain⟨x,hx⟩:=get_some (xs:=ls) (i:=i) oM;have MC:ls.getD i eu=x:=by simp[List.getD,hx]
  have hle:=Lh ls (nC r p) (os.map jf) i;refine au ?_;refine ag (bf rfl rfl i rfl oM) (ag (gV rfl i hx rfl) (bn fun jB=>aP ?_));refine ag (cR (v:= .agg (fT ⟨x,p⟩)) rfl (MB x p)) (bn fun DP=>ar ?_);refine cO (F9 (f:=r) (vs:=[.agg (fT ⟨x,p⟩)]) rfl rfl (fun w1 _=>hrc w1 ⟨x,p⟩)) (au ?_);refine Gb ?_ ?_<;>intro h2
  ·
   have bD:(iV ls (nC r p) (os.map jf) (i+1))=(iV ls (nC r p) (os.map jf) i):=by rw[iV,AZ,MC,if_neg (by rw[h2];simp)]
   refine al ?_;refine Gi ?_;exact bo (x:=(i)) (i+1) oF oF (Sub.cons rfl (Sub.cons (look_eq rfl (by rw[bD])) (Sub.cons (look_eq rfl (by rw[bD])) sb))) (fun w hw=>ah.mem hw)
  refine Gc ?_;refine jI oK oK (al ?_);refine jH rfl rfl rfl (fun hg=>(Ry.yl (jU rfl))) (au ?_);refine jH rfl rfl rfl (fun hg=>(Ry.yl (bf (aG hg rfl) (aG hg rfl) ((iV ls (nC r p) (os.map jf) i).1.toNat) oM (by have:=hle.1;have:=hle.2.1;have:=(zz.1 hx).1;omega)))) ?_;refine jH rfl rfl rfl (fun hg=>(Ry.yl (gV (aG hg rfl) ((iV ls (nC r p) (os.map jf) i).1.toNat) (pz (d:=eu) (by have:=hle.1;have:=hle.2.1;have:=(zz.1 hx).1;omega)) rfl))) ?_;refine Gh ?_;refine jH rfl rfl rfl (fun hg=>(Ry.yl (cR (v:= .agg (fT ⟨(ls.getD (iV ls (nC r p) (os.map jf) i).1.toNat eu),p⟩)) (Cm (aG hg rfl) (Cm (aG hg rfl) OS)) (MB (ls.getD (iV ls (nC r p) (os.map jf) i).1.toNat eu) p)))) (Gh ?_);refine jH rfl rfl rfl (fun hg=>bK (fG (aG hg rfl) (fG (aG hg rfl) (fG (aG hg rfl) jG))) zI) (au ?_);refine Gb ?_ ?_<;>intro h3
  ·
   have bD:(iV ls (nC r p) (os.map jf) (i+1))=((i:Int),true):=by
    rw[iV,AZ,MC,if_pos ⟨h2,h3⟩]
   refine Gi ?_;refine aY ?_;refine Gi ?_;exact bo (x:=(i)) (i+1) oF oF (Sub.cons rfl (Sub.cons (look_eq rfl (by rw[bD])) (Sub.cons (look_eq rfl (by rw[bD])) sb))) (fun w hw=>ah.mem hw)
  have bD:(iV ls (nC r p) (os.map jf) (i+1))=(iV ls (nC r p) (os.map jf) i):=by
   rw[iV,AZ,MC,if_neg];rintro⟨_,g⟩;rcases g with g|g
   ·exact absurd (h3.1.symm.trans g) (by simp)
   exact absurd (h3.2.symm.trans g) (by simp)
  refine al ?_;refine Gi ?_;exact bo (x:=(i)) (i+1) oF oF (Sub.cons rfl (Sub.cons (look_eq rfl (by rw[bD])) (Sub.cons (look_eq rfl (by rw[bD])) sb))) (fun w hw=>ah.mem hw)
 obtain rfl:i=ls.length:=by omega
 refine aY ?_;refine Gr fun w1 hw=>?_;exact⟨by rw[hE],ah.mem hw⟩⟩
instance aro{l:Sv}{ls:List az}{p:Int}[hl:dG w0 L bM 4 l ls]:bV prog 313 w0 L [l.val, .int .i64 p] (.tuple #[.int .i64 ((fL ls p).1), .bool ((fL ls p).2)]) (True):=⟨fun aC w hw=>by
 have hl:=hl.h w hw;have qF:Gv w l bM 4 ls:=⟨hl⟩;refine dD func313 rfl ntmps313 rfl ?_;refine aY ?_;refine nP (enc:=uZ) (vals:=[.func (.func 336) #[] #[], .func (.func 334) #[] #[]]) [336,334] rfl rfl rfl dDq dDq fun b8=>?_;refine cO (bK rfl dDq) (ag (aB rfl rfl) (ag (aB rfl rfl) (al ?_)));refine Gr fun w1 hw=>?_;exact⟨rfl,ah.mem hw⟩⟩
instance arp{l:Sv}{ls:List az}{p:Int}[hl:dG w0 L bM 4 l ls]:bV prog 310 w0 L [l.val, .int .i64 p] (.tuple #[.int .i64 ((fO ls p).1), .bool ((fO ls p).2)]) (True):=⟨fun aC w hw=>by
 have hl:=hl.h w hw;have qF:Gv w l bM 4 ls:=⟨hl⟩;refine dD func310 rfl ntmps310 rfl ?_;refine aY ?_;refine nP (enc:=uZ) (vals:=[.func (.func 334) #[] #[]]) [334] rfl rfl rfl dDq dDq fun b8=>?_;refine cO (bK rfl dDq) (ag (aB rfl rfl) (ag (aB rfl rfl) (al ?_)));refine Gr fun w1 hw=>?_;exact⟨rfl,ah.mem hw⟩⟩
instance arq{l:Sv}{ls:List az}{p:Int}[hl:dG w0 L bM 4 l ls]:bV prog 327 w0 L [l.val, .int .i64 p] (.tuple #[.int .i64 ((wb ls p).1), .bool ((wb ls p).2)]) (True):=⟨fun aC w hw=>by
 have hl:=hl.h w hw;have qF:Gv w l bM 4 ls:=⟨hl⟩;refine dD func327 rfl ntmps327 rfl ?_;refine aY ?_;refine nP (enc:=uZ) (vals:=[.func (.func 341) #[] #[], .func (.func 342) #[] #[], .func (.func 334) #[] #[]]) [341,342,334] rfl rfl rfl dDq dDq fun b8=>?_;refine cO (bK rfl dDq) (ag (aB rfl rfl) (ag (aB rfl rfl) (al ?_)));refine Gr fun w1 hw=>?_;exact⟨rfl,ah.mem hw⟩⟩
instance ars{l:Sv}{ls:List az}{p:Int}[hl:dG w0 L bM 4 l ls]:bV prog 330 w0 L [l.val, .int .i64 p] (.int .i64 (G3 ls p)) (True):=⟨fun aC w hw=>by
 have hl:=hl.h w hw;have qF:Gv w l bM 4 ls:=⟨hl⟩;refine dD func330 rfl ntmps330 rfl ?_;refine fS ?_;refine Gb ?_ ?_<;>intro h0
 ·have hE:G3 ls p=0:=if_neg (by rw[h0];simp);refine al ?_;refine Gr fun w1 hw=>?_;exact Gf (by rw[hE]) hw
 have hE:G3 ls p=fV (ls.map (oS p)):=if_pos h0;obtain⟨k1,k2,k3,k4,k5⟩:=tt.1 h0;refine cX ?_;refine cg (X:=Nat) (fun U=>[(15, .int .i64 (U:Nat)),(5, .int .i64 (fV ((ls.take U).map (oS p)))),(1, .int .i64 p),(13,l.val),(14, .int .i64 (ls.length:Nat))]) (fun U=>[]) (fun U=>U<=ls.length) (fun U=>ls.length -U) 0 (auo _) sb (fun w hw=>ah.mem hw) ?_;rintro i bg;refine al ?_;refine Gb ?_ ?_<;>intro h1
 ·
  obtain⟨x,hx⟩:=get_some (xs:=ls) (i:=i) oM;have xG:=sh.1 (k5 x (atl hx));have fE:(fV ((ls.take (i+1)).map (oS p)))=(fV ((ls.take i).map (oS p)))+oS p x:=by rw[at6,hx,auv,SB];simp[fV]
  have hsb:=SD p (ls.take i) (fun x hx=>k5 x (avU hx)) oM;have qu:(ls.take i).length<=32:=by rw[at3];omega
  have gQ:((ls.take i).length:Int)*p<=512:=room_le qu oM oM;refine Gc ?_;refine ag (bf rfl rfl i rfl oM) (ag (gV rfl i hx rfl) (bn fun b7=>ar ?_));refine ag (cR (v:= .agg (fT ⟨x,p⟩)) rfl (MB x p)) (bn fun b8=>aY ?_);refine Gb ?_ ?_<;>intro h2
  ·have hr:oS p x=p:=if_pos h2;refine Gi ?_;refine cX ?_;refine Gi ?_;exact bo (x:=(i)) (i+1) oF oF (Sub.cons rfl (Sub.cons (look_eq rfl (by rw[fE,hr])) sb)) (fun w hw=>ah.mem hw)
  refine aP ?_;refine Gb ?_ ?_<;>intro h3
  ·
   have hr:oS p x=p -x.used:=by rw[oS,if_neg (by rw[h2];simp),if_pos h3]
   refine Gi ?_;refine ar ?_;refine ag (Ry.to (v':= .int .i64 x.used) (bE rfl) rfl) (aY ?_);refine Gi ?_;exact bo (x:=(i)) (i+1) oF oF (Sub.cons rfl (Sub.cons (look_eq rfl (by rw[fE,hr])) sb)) (fun w hw=>ah.mem hw)
  have hr:oS p x=0:=by rw[oS,if_neg (by rw[h2];simp),if_neg (by rw[h3];simp)]
  refine al ?_;refine Gi ?_;exact bo (x:=(i)) (i+1) oF oF (Sub.cons rfl (Sub.cons (look_eq rfl (by rw[fE,hr,Int.add_zero])) sb)) (fun w hw=>ah.mem hw)
 obtain rfl:i=ls.length:=by omega
 refine ar ?_;refine Gr fun w1 hw=>?_;exact⟨congrArg (fun b=>Ending.returned (Value.int .i64 b)) (by rw[hE,aup]),ah.mem hw⟩⟩
instance art{n:Nat}:bY prog 302 w0 L [.slice none 0 0, .int .i64 (n:Nat)] (Sv) (fun U=>U.val) (fun U=>own (cw (τ:=UInt8)) 1 U ([]:List (Sl UInt8))::L) (fun U=>True) (n<=1000000000):=⟨fun aC w hw=>Gk (fun U=>[own (cw (τ:=UInt8)) 1 U ([]:List (Sl UInt8))]) hw (by
 refine dD func302 rfl ntmps302 rfl ?_;refine aY ?_;refine Gb ?_ ?_<;>intro h0
 ·exfalso;omega
 refine al ?_;refine ag (GH rfl) (Gs ?_);refine ag (yL rfl) (cX ?_);refine Gb ?_ ?_<;>intro h1
 ·refine Gi ?_;refine au ?_;refine ag (GH rfl) (ag (Ry.to (v':= .slice none 0 0) (wX (s:=Sv.none) (h:=0) rfl rfl rfl Sv.Cr (at5 _)) rfl) (Gs ?_));refine RA (enc:=(cw (τ:=UInt8))) (k:=n) (⟨Sv.none,[]⟩:Sl UInt8) rfl rfl oM oM dDq rfl underlying3 oM oM fun Bu DQ Mq=>Gs ?_;refine ag (yL rfl) (ag (wX (s:=⟨false,Bu,0,n,DQ,none⟩) (h:=0) rfl rfl rfl ⟨(fun h=>by cases h),Mq,by simp only;omega,fun _=>rfl⟩ (auo _)) (aP ?_));refine Gr fun w1 hw=>?_;refine⟨Sv.sub ⟨false,Bu,0,n,DQ,none⟩ 1 0 0,rfl,trivial,?_⟩;have fD:=Mem.Rz (i:=0) (k:=0) hw rfl (auo _);rw[auw]at fD;exact fD
 have hn:n=0:=by omega
 refine ar ?_;refine Gr fun w1 hw=>?_;exact⟨Sv.none,rfl,trivial,(ah.mem hw:Mem w [] _).dE (cw (τ:=UInt8)) 1⟩)⟩
instance UL{a:Sl (Sl (Sl UInt8))}[ha:aX w0 L a]:bY prog 258 w0 L [a.sv.val] (Sv) (fun U=>U.val) (fun U=>own (cw (τ:=UInt8)) 1 U (fU a.xs)::L) (fun U=>True) ((fU a.xs).length<=1000000):=⟨fun aC w hw=>Gk (fun U=>[own (cw (τ:=UInt8)) 1 U (fU a.xs)]) hw (by
 have ha:=ha.h w hw;have Mr:cQ w a:=⟨ha⟩;have ER:=ha.1.bd;have eS:=adm a.xs;refine cx func258 rfl ntmps258 rfl ?_;refine iS ?_;refine cg (X:=Nat) (fun U=>[(11, .int .i64 (U:Nat)),(3, .int .i64 ((fU (a.xs.take U)).length:Nat)),(0,a.sv.val),(9,a.sv.val),(10, .int .i64 (a.xs.length:Nat))]) (fun U=>[]) (fun U=>U<=a.xs.length) (fun U=>a.xs.length -U) 0 (auo _) sb (fun w hw=>ah.mem hw) ?_;rintro i hi;have AH:=eS i;have mF:=eS (i+1);refine al ?_;refine Gb ?_ ?_<;>intro h0
 ·
  refine l6 ?_;obtain⟨x,hx⟩:=get_some (xs:=a.xs) (i:=i) oM;refine ag (bf rfl rfl i rfl oM) (ag (bW (j:=0) rfl i hx rfl dDq) ?_);have hfx:(fU (a.xs.take (i+1))).length=(fU (a.xs.take i)).length+x.xs.length:=by rw[G2 hx,adr]
  have HG:Mb x _:=⟨List.mem_of_getElem? hx⟩;refine rh ?_;refine Gb ?_ ?_<;>intro h1
  ·exfalso;omega
  refine al ?_;refine Gi ?_;exact bo (x:=(i)) (i+1) oF oF (Sub.cons rfl (Sub.cons (look_eq rfl (by rw[G2 hx,adr];simp)) sb)) (fun w hw=>ah.mem hw)
 obtain rfl:i=a.xs.length:=by omega
 have lV:=eS a.xs.length;refine au ?_;refine bb rfl oM fun yh Ms=>aY ?_;refine cg (X:=Nat×Sv) (fun U=>[(27, .int .i64 (U.1:Nat)),(6,U.2.val),(25,a.sv.val),(26, .int .i64 (a.xs.length:Nat))]) (fun U=>[own (cw (τ:=UInt8)) 1 U.2 (fU (a.xs.take U.1))]) (fun U=>U.1<=a.xs.length) (fun U=>a.xs.length -U.1) (0,yh) (Nat.zero_le _) sb (fun w hw=>(ah.mem hw:Mem _ [own (cw (τ:=UInt8)) 1 yh ([]:List (Sl UInt8))] _)) ?_;rintro⟨k,s1⟩ hk;dsimp only;simp only at hk;have AH:=eS k;have mF:=eS (k+1);refine al ?_;refine Gb ?_ ?_<;>intro h2
 ·
  refine l6 ?_;obtain⟨y,hy⟩:=get_some (xs:=a.xs) (i:=k) oM;refine ag (bf rfl rfl k rfl oM) (ag (bW (j:=0) rfl k hy rfl dDq) ?_);have hfy:(fU (a.xs.take (k+1))).length=(fU (a.xs.take k)).length+y.xs.length:=by rw[G2 hy,adr]
  have UB:Mb y _:=⟨List.mem_of_getElem? hy⟩;refine ar ?_;refine mB (s:=s1) (enc:=(cw (τ:=UInt8))) (ys:=y.xs) rfl rfl dDq (fun w hw=>iQ (s:=y.sv) underlying178 dDq ((inferInstance:dG _ _ (cw (τ:=UInt8)) 1 y.sv y.xs).h w hw)) oM oM fun Bv UC UD=>?_;refine ar ?_;refine Gi ?_;exact bo (x:=(k,s1)) (k+1,Bv) (by simp only;omega) (by simp only;omega) sb (fun w hw=>by rw[G2 hy];exact ah.mem hw)
 obtain rfl:k=a.xs.length:=by omega
 refine ar ?_;refine Gr fun w1 hw=>?_;exact⟨s1,rfl,trivial,by rw[aup]at hw;exact ah.mem hw⟩)⟩
instance aru{x:Sv}{xs:List Int}{y:Sv}{ys:List Int}[hx:dG w0 L ck 1 x xs][hy:dG w0 L ck 1 y ys]:bV prog 167 w0 L [x.val,y.val] (.bool (decide (xs=ys))) (True):=⟨fun aC w hw=>by
 have hx:=hx.h w hw;have hy:=hy.h w hw;have yi:Gv w x ck 1 xs:=⟨hx⟩;have MD:Gv w y ck 1 ys:=⟨hy⟩;have hbx:=hx.bd;refine dD func167 rfl ntmps167 rfl ?_;refine iS ?_;refine Gb ?_ ?_<;>intro h0
 ·have hz:decide (xs=ys)=false:=decide_eq_false fun e=>h0 (by rw[e]);refine al ?_;refine Gr fun w1 hw=>?_;exact Ge (hz.symm) hw
 have mL:xs.length=ys.length:=by omega
 refine aP ?_;refine cg (X:=Nat) (fun U=>[(13, .int .i64 (U:Nat)),(0,x.val),(1,y.val),(12, .int .i64 (xs.length:Nat))]) (fun U=>[]) (fun U=>U<=xs.length/\ ∀j,j<U->xs[j]? =ys[j]?) (fun U=>xs.length -U) 0 ⟨Nat.zero_le _,fun j hj=>by first|omega|(simp only[];omega)⟩ sb (fun w hw=>ah.mem hw) ?_;rintro i ⟨bg,aK⟩;refine al ?_;refine Gb ?_ ?_<;>intro h1
 ·
  obtain⟨p,lp⟩:=get_some (xs:=xs) (i:=i) oM;obtain⟨q,wz⟩:=get_some (xs:=ys) (i:=i) oM;refine ar ?_;refine jI oK oK (au ?_);refine bX (bf rfl rfl i rfl oM) (bX (bW (j:=0) rfl i lp rfl dDq) (au ?_));refine bX (bf rfl rfl i rfl oM) (bX (bW (j:=0) rfl i wz rfl dDq) (au ?_));refine Gb ?_ ?_<;>intro h2
  ·have hz:decide (xs=ys)=false:=decide_eq_false fun e=>h2 (by rw[e]at lp;rw[lp]at wz;cases wz;rfl);refine al ?_;refine Gr fun w1 hw=>?_;exact Ge (hz.symm) hw
  refine al ?_;refine Gi ?_;exact bo (x:=(i)) (i+1) ⟨oF,fun j hj=>if e:j=i then(by subst e;rw[lp,wz,h2])else aK j oF⟩ oF sb (fun w hw=>ah.mem hw)
 obtain rfl:i=xs.length:=by omega
 have hz:decide (xs=ys)=true:=decide_eq_true (au6 fun j=>by
  rcases aud j xs.length with hj|hj
  ·exact aK j hj
  rw[aub hj,aub oM])
 refine al ?_;refine Gr fun w1 hw=>?_;exact⟨congrArg (fun b=>Ending.returned (Value.bool b)) (hz.symm),ah.mem hw⟩⟩
theorem afU(g:UInt64)(w:World):(Instr.build 314 #[(0, .int .u64 (g.toNat:Int))]).run prog w= .ok (.agg (fa ⟨g,⟨Sv.none,[]⟩⟩)) w:=by
 unfold fa;kernel_rfl
instance arv{b:Sv}{bs:List UInt8}[hb:dG w0 L aQ 1 b bs]:bY prog 297 w0 L [b.val] (dK) (fun U=> .tuple #[.agg (fa U), .int .i64 ((bH bs).2)]) (fun U=>own ck 1 U.at_.sv U.at_.xs::L) (fun U=>dM U=(bH bs).1) (True):=⟨fun aC w hw=>Gk (fun U:dK=>[own ck 1 U.at_.sv U.at_.xs]) hw (by
 have hb:=hb.h w hw;have zF:Gv w b aQ 1 bs:=⟨hb⟩;refine cx func297 rfl ntmps297 rfl ?_;refine Gc ?_;refine bn fun b2=>al ?_;refine bb rfl trivial fun df sF=>?_;have UM:df.kind=(cM bs).1.kind:=congrArg PV.kind sF;have ME:df.id=(cM bs).1.id:=congrArg PV.id sF;have qO:df.gen.toNat=(cM bs).1.gen:=congrArg PV.gen sF;have wj:df.body.xs=(cM bs).1.body:=congrArg PV.body sF;have dI:=K9 bs;rw[←wj]at dI;refine Gs ?_;refine ag (aB (v:= .agg (dt df)) rfl rfl) (ag (aB (v:= .int .i64 ((cM bs).2)) rfl rfl) (bn fun b4=>aY ?_));refine Gb ?_ ?_<;>intro h0
 ·
  have hE:bH bs=(iB,(cM bs).2):=by rw[bH,if_pos h0]
  refine Gc ?_;refine ag (cR (v:= .agg (fa mM)) rfl (fun w=>kRq)) (ar ?_);refine Gr fun w1 hw=>?_;exact⟨mM,by rw[hE],by rw[hE];rfl,Mem.dE ck 1 (ah.mem hw:Mem w [] _)⟩
 refine aP ?_;refine Gb ?_ ?_<;>intro h1
 ·
  have hE:bH bs=(iB,6):=by rw[bH,if_neg oM,if_pos oM]
  refine Gc ?_;refine ag (cR (v:= .agg (fa mM)) rfl (fun w=>kRq)) (al ?_);refine Gr fun w1 hw=>?_;exact⟨mM,by rw[hE],by rw[hE];rfl,Mem.dE ck 1 (ah.mem hw:Mem w [] _)⟩
 refine ar ?_;refine ag (ou rfl rfl oM oM) (iS ?_);refine bU rfl rfl rfl (fun hg=>(Ry.yl (Cx (p:=df.body.xs.length) (q:=2) (aG hg rfl) rfl rfl rfl (by simp only[Z0,Z1,Z2,Z3,Z4,Z5,Z6,Z7,Z8,Z9]at hg;omega)))) (aY ?_);refine bU rfl rfl rfl (fun hg=>(Ry.yl (Ag (aG hg rfl) rfl (by simp only[Z0,Z1,Z2,Z3,Z4,Z5,Z6,Z7,Z8,Z9]at hg;omega)))) (bU rfl rfl rfl (fun hg=>(Ry.yl (yN rfl (aG hg rfl)))) (al ?_));refine Gb ?_ ?_<;>intro h2
 ·
  have lH:v8 (cM bs).1=false:=by
   cases hk:v8 (cM bs).1 with
   |false=>rfl
   |true=>
    simp only[v8,af0,decide_eq_true_eq,←UM,←ME,←wj]at hk;omega
  have hE:bH bs=(iB,2):=by rw[bH,if_neg oM,if_neg oM,if_pos lH]
  refine Gc ?_;refine ag (cR (v:= .agg (fa mM)) rfl (fun w=>kRq)) (al ?_);refine Gr fun w1 hw=>?_;exact⟨mM,by rw[hE],by rw[hE];rfl,Mem.dE ck 1 (ah.mem hw:Mem w [] _)⟩
 have lH:v8 (cM bs).1=true:=by
  simp only[v8,af0,decide_eq_true_eq,←UM,←ME,←wj];omega
 have hE:bH bs=(⟨df.gen.toNat,qB df.body.xs⟩,0):=by rw[bH,if_neg oM,if_neg oM,if_neg (by rw[lH];simp),qO,wj]
 have yk:=G0 df.body.xs;refine al ?_;refine ag (cR (v:= .agg (fa ⟨df.gen,⟨Sv.none,[]⟩⟩)) rfl (afU df.gen)) (bn fun b7=>aP ?_);refine cg (X:=Nat×Sv) (fun U=>[(49, .int .i64 (U.1:Nat)),(7, .pointer (some ⟨b7,0,none⟩)),(2, .pointer (some ⟨b2,0,none⟩)),(4, .pointer (some ⟨b4,0,none⟩)),(48, .int .i64 ((df.body.xs.length/2):Nat))]) (fun U=>[aq b7 (fa ⟨df.gen,⟨U.2,(qB df.body.xs).take U.1⟩⟩) 314,own ck 1 U.2 ((qB df.body.xs).take U.1),aq b4 (dt df) 324,own aQ 1 df.body.sv df.body.xs,aq b2 (fa mM) 314]) (fun U=>U.1<=df.body.xs.length/2) (fun U=>df.body.xs.length/2 -U.1) (0,Sv.none) (auo _) sb (fun w hw=>by
  simp only[auw];exact ah.mem (Mem.dE ck 1 hw)) ?_
 rintro⟨i,s1⟩ bg;dsimp only;simp only at bg;refine al ?_;refine Gb ?_ ?_<;>intro h3
 ·
  have fE:=adj (b:=df.body.xs) (i:=i) oM;refine ar ?_;refine pA [19,20,22,1001,2019] [[],[],[],[],[],[],[],[],[],[],[],[],[],[],[],[],[],[],[],[],[1,19],[1,19,20],[1,19,20]] [0,1,2,3,4,5,6,7,8,9,10,11,12,13,14,15,16,17,18,19,20,21,22] [aq b4 (dt df) 324,own aQ 1 df.body.sv df.body.xs] [(19,oJ ck 1 1 [(sd df.body.xs i)])] oK (fun _ hw=>ah.mem hw) oK oK (an rfl (aM (o':=1) rfl rfl) (gq rfl (bE rfl) (an rfl (aM (o':=3) rfl rfl) (an rfl (bE rfl) (an rfl (bm rfl) (an rfl (vC rfl rfl oM) (an rfl (bf rfl rfl (2*i) rfl oM) (an rfl (bW (j:=0) rfl (2*i) (pz (xs:=df.body.xs) (i:=2*i) (d:=0) oM) rfl dDq) (an rfl (w8 rfl) (an rfl (Pm rfl rfl) (an rfl (aM (o':=3) rfl rfl) (an rfl (bE rfl) ?_))))))))))));refine an rfl (bm rfl) (an rfl (vC rfl rfl oM) (an rfl (wT rfl rfl oM) (an rfl (bf rfl rfl (2*i+1) rfl oM) (an rfl (bW (j:=0) rfl (2*i+1) (pz (xs:=df.body.xs) (i:=2*i+1) (d:=0) oM) rfl dDq) (an rfl (w8 rfl) (an rfl (Pn rfl rfl) (oI (m:=oJ ck 1 1 [(sd df.body.xs i)]) rfl rfl (vS (enc:=ck) (c:=1) (n:=1) (vals:=[.int .i64 (sd df.body.xs i)]) [(sd df.body.xs i)] rfl rfl rfl dDq dDq) (Cert.none rfl) fun HJ=>?_)))))));change Ln _ _ _ _ _ _ _ _ (cr _ _ (Sv.val ⟨false,HJ,0,1,1,none⟩)) (own ck 1 ⟨false,HJ,0,1,1,none⟩ [(sd df.body.xs i)]::_) _;refine dr rfl (F7 (s:=s1) (ys:=[(sd df.body.xs i)]) rfl rfl dDq (fun w hw=>iQ (s:=⟨false,HJ,0,1,1,none⟩) underlying60 dDq ((inferInstance:Hd _ _ ⟨false,HJ,0,1,1,none⟩ ck 1 [(sd df.body.xs i)]).h w hw)) (by simp only[at3,ad2,alM];omega) (by simp only[at3,ad2,alM];omega) fun UN arw arx=>⟨fun _ hw=>ah.mem hw,?_⟩);refine an rfl (aM (o':=1) rfl rfl) ?_;refine dr rfl (tg (cs':=fa (⟨df.gen,⟨UN,(((qB df.body.xs).take i)++[(sd df.body.xs i)])⟩⟩:dK)) rfl rfl (by show 1<2;decide) (by first|rfl|exact Sv.one _) rfl ⟨fun _ hw=>ah.mem hw,?_⟩);refine al ?_;refine Gi ?_;exact bo (x:=(i,s1)) (i+1,UN) (by simp only;omega) (by simp only;omega) sb (fun w hw=>by
   simp only[fE];exact ah.mem hw)
 obtain rfl:i=df.body.xs.length/2:=by omega
 rw[aug oM]at*;refine aP ?_;refine Gr fun w1 hw=>?_;exact⟨⟨df.gen,⟨s1,qB df.body.xs⟩⟩,by rw[hE],by rw[hE];rfl,ah.mem hw⟩)⟩
instance UO{l:Sl (Sl UInt8)}[hl:aX w0 L l]:bY prog 257 w0 L [l.sv.val] (dK) (fun U=> .tuple #[.int .i64 ((gm (aR l.xs)).1), .agg (fa U), .int .i64 ((gm (aR l.xs)).2.2)]) (fun U=>own ck 1 U.at_.sv U.at_.xs::L) (fun U=>dM U=(gm (aR l.xs)).2.1) (True):=⟨fun aC w hw=>Gk (fun U:dK=>[own ck 1 U.at_.sv U.at_.xs]) hw (by
 have hl:=hl.h w hw;have qF:cQ w l:=⟨hl⟩;have kv:=hl.1.bd;have jl:=pJ l.xs;refine cx func257 rfl ntmps257 rfl ?_;refine au ?_;refine bn fun b3=>au ?_;refine ag (cR (v:= .agg (fa mM)) rfl (fun w=>kRq)) (bn fun b6=>iS ?_);refine cg (X:=Nat×dK) (fun U=>[(16, .int .i64 (U.1:Nat)),(5, .int .i64 ((dH (aR l.xs) U.1).at_)),(6, .pointer (some ⟨b6,0,none⟩)),(7, .bool ((dH (aR l.xs) U.1).found)),(8, .bool ((dH (aR l.xs) U.1).blank)),(3, .pointer (some ⟨b3,0,none⟩)),(14,l.sv.val),(15, .int .i64 (l.xs.length:Nat))]) (fun U=>[aq b6 (fa U.2) 314,own ck 1 U.2.at_.sv U.2.at_.xs,aq b3 (fa mM) 314]) (fun U=>U.1<=l.xs.length/\dM U.2=(dH (aR l.xs) U.1).new) (fun U=>l.xs.length -U.1) (0,mM) ⟨Nat.zero_le _,rfl⟩ sb (fun w hw=>by
  have h9:Mem _ [aq b6 (fa mM) 314,own ck 1 Sv.none [],aq b3 (fa mM) 314] _:=ah.mem (Mem.dE ck 1 hw);exact h9) ?_
 rintro⟨i,d⟩ ⟨bg,aK⟩;dsimp only;simp only at bg aK;refine al ?_;refine Gb ?_ ?_<;>intro h0
 ·
  obtain⟨y,hy⟩:=get_some (xs:=l.xs) (i:=i) oM;have Mx:Mb y l:=⟨List.mem_of_getElem? hy⟩;have UP:=rl hy;have UQ:d.gen.toNat=(dH (aR l.xs) i).new.gen:=congrArg RV.gen aK;refine au ?_;refine ag (bf rfl rfl i rfl oM) (ag (bW (j:=0) rfl i hy rfl dDq) (aY ?_));refine jo rfl rfl rfl (fun hg=>bK (fG (aG hg rfl) jG) trivial) (ar ?_);refine bb rfl trivial fun dR pc=>?_;have UR:dR.gen.toNat=(bH y.xs).1.gen:=congrArg RV.gen pc;refine Gs ?_;refine ag (aB (v:= .agg (fa dR)) rfl rfl) (ag (aB (v:= .int .i64 ((bH y.xs).2)) rfl rfl) (bn fun qP=>cX ?_));refine jo rfl rfl rfl (fun hg=>(Ry.yl (nJ (aG hg rfl)))) (jo rfl rfl rfl (fun hg=>(Ry.yl (bm (aG hg rfl)))) (vF rfl rfl rfl (fun hg=>(Ry.yl (aM (o':=0) rfl rfl))) (vF rfl rfl rfl (fun hg=>(Ry.yl (bE (aG hg rfl)))) (vF rfl rfl rfl (fun hg=>(Ry.yl (aM (o':=0) rfl rfl))) (vF rfl rfl rfl (fun hg=>(Ry.yl (bE (aG hg rfl)))) (vF rfl rfl rfl (fun hg=>(Ry.yl (eR (aG hg rfl) (aG hg rfl) rfl))) (jo rfl rfl rfl (fun hg=>(Ry.yl (Aa (aG hg rfl) rfl (yP hg rfl)))) (au ?_))))))));refine Gb ?_ ?_<;>intro h1
  ·have hq:(bH y.xs).2=0/\((dH (aR l.xs) i).found=false\/(dH (aR l.xs) i).new.gen<=(bH y.xs).1.gen):=⟨h1.1,h1.2.imp (fun h=>h) (fun h=>by rw[←UQ,←UR];omega)⟩;have wA:=Sj UP hq;refine jt [3] [[],[],[],[],[3]] [0,1,2,3,4] [aq qP (fa dR) 314] (fun _ hw=>ah.mem hw) oK oK (an rfl (bm rfl) (an rfl (jU rfl) (an rfl (hO rfl) (dr rfl (qw rfl rfl ⟨fun _ hw=>ah.mem hw,?_⟩)))));refine an rfl (hO rfl) (al ?_);refine Gi ?_;exact bo (x:=(i,d)) (i+1,dR) ⟨oF,by rw[wA];exact pc⟩ (by simp only;omega) (Sub.cons rfl (Sub.cons (look_eq rfl (by simp only[wA])) (Sub.cons rfl (Sub.cons (look_eq rfl (by simp only[wA])) (Sub.cons (look_eq rfl (by simp only[wA])) sb))))) (fun w hw=>ah.mem hw)
  have hq: ¬((bH y.xs).2=0/\((dH (aR l.xs) i).found=false\/(dH (aR l.xs) i).new.gen<=(bH y.xs).1.gen)):=fun hq=>by
   rw[←UQ,←UR]at hq;rcases h1 with h|h
   ·exact h hq.1
   rcases hq.2 with g|g
   ·exact absurd (h.1.symm.trans g) (by simp)
   omega
  have wA:=Sk UP hq;refine al ?_;refine Gi ?_;exact bo (x:=(i,d)) (i+1,d) ⟨oF,by rw[wA];exact aK⟩ (by simp only;omega) (Sub.cons rfl (Sub.cons (look_eq rfl (by simp only[wA])) (Sub.cons rfl (Sub.cons (look_eq rfl (by simp only[wA])) (Sub.cons (look_eq rfl (by simp only[wA])) sb))))) (fun w hw=>ah.mem hw)
 obtain rfl:i=l.xs.length:=by omega
 rw[←jl]at aK;refine ar ?_;refine Gb ?_ ?_<;>intro h2
 ·
  have hE:gm (aR l.xs)=((dH (aR l.xs) (aR l.xs).length).at_,(dH (aR l.xs) (aR l.xs).length).new,0):=by rw[gm,if_pos (by rw[jl];exact h2)]
  refine Gi ?_;refine jt [3] [[],[],[],[],[3]] [0,1,2,3,4] [aq b6 (fa d) 314] (fun _ hw=>ah.mem hw) oK oK (an rfl (bm rfl) (an rfl (jU rfl) (an rfl (hO rfl) (dr rfl (qw rfl rfl ⟨fun _ hw=>ah.mem hw,?_⟩)))));refine an rfl (hO rfl) (Gc ?_);refine Gr fun w1 hw=>?_;exact⟨d,by rw[hE,jl],by rw[hE];exact aK,ah.mem hw⟩
 refine ar ?_;refine Gb ?_ ?_<;>intro h3
 ·
  have hE:gm (aR l.xs)=(0,iB,6):=by rw[gm,if_neg (by rw[jl,h2];simp),if_pos (by rw[jl];exact h3)]
  refine Gc ?_;refine ag (cR (v:= .agg (fa mM)) rfl (fun w=>kRq)) (ar ?_);refine Gr fun w1 hw=>?_;exact⟨mM,by rw[hE],by rw[hE];rfl,Mem.dE ck 1 (ah.mem hw:Mem w [] _)⟩
 have hE:gm (aR l.xs)=(0,iB,2):=by rw[gm,if_neg (by rw[jl,h2];simp),if_neg (by rw[jl,h3];simp)]
 refine Gc ?_;refine ag (cR (v:= .agg (fa mM)) rfl (fun w=>kRq)) (ar ?_);refine Gr fun w1 hw=>?_;exact⟨mM,by rw[hE],by rw[hE];rfl,Mem.dE ck 1 (ah.mem hw:Mem w [] _)⟩)⟩
theorem afV(c:Cp)(s:Sl Int)(g:UInt64)(l:Int)(w:World):(Instr.build 63 #[(0, .agg (aV c)),(1,s.sv.val),(2, .int .u64 (g.toNat:Int)),(3, .int .i64 l)]).run prog w= .ok (.agg (cF ⟨c,s,g,l⟩)) w:=by
 obtain⟨s,xs⟩:=s;obtain⟨a1,a2,⟨a3,a4⟩,a5,a6,⟨a7,a8⟩⟩:=c;unfold cF aV;obtain⟨e,b,o,l,c,p⟩:=s;obtain⟨e3,b3,o3,l3,c3,p3⟩:=a3;obtain⟨e7,b7,o7,l7,c7,p7⟩:=a7
 cases e<;>cases e3<;>cases e7<;>kernel_rfl
instance ary{c:Cp}[hc:aX w0 L c]:bY prog 221 w0 L [.agg (aV c)] (cB) (fun U=> .tuple #[.agg (cF U), .int .i64 ((bG (cv c)).2)]) (fun U=>own ck 1 U.at_.sv U.at_.xs::L) (fun U=>vv U=(bG (cv c)).1/\((bG (cv c)).2=0->U.ae=c)) (True):=⟨fun aC w hw=>Gk (fun U:cB=>[own ck 1 U.at_.sv U.at_.xs]) hw (by
 have hc:=hc.h w hw;have lN:cQ w c:=⟨hc⟩;refine cx func221 rfl ntmps221 rfl ?_;refine Gc ?_;refine cn rfl fun b1=>bn fun b2=>aY ?_;refine Gb ?_ ?_<;>intro h0
 ·
  have hE:bG (cv c)=(mf,1):=by rw[bG,if_pos h0]
  have bN:(1:Int)≠0:=by decide
  refine Gc ?_;refine ag (cR (v:= .agg (cF mN)) rfl (fun w=>kRq)) (al ?_);refine Gr fun w1 hw=>?_;exact⟨mN,by rw[hE],⟨by rw[hE];rfl,fun h=>absurd (by rw[hE]at h;exact h) bN⟩,Mem.dE ck 1 (ah.mem hw:Mem w [] _)⟩
 have oh:=fN.1 h0;have hk:=oh.1;have pX:(cv c).blocks.length=c.blocks.xs.length:=iv _;have je:=mK.1 (eN.1 hk).1;obtain⟨B0,Bx⟩:=get_some (xs:=c.blocks.xs) (i:=0) oM;obtain⟨B1,vb⟩:=get_some (xs:=c.blocks.xs) (i:=1) oM;have afW:Mb B0 c.blocks:=⟨List.mem_of_getElem? Bx⟩;have afX:Mb B1 c.blocks:=⟨List.mem_of_getElem? vb⟩;have o0:=(fy.1 ((eN.1 hk).2.2.2.2 (bv B0) (atl (nY Bx)))).1;have o1:=(fy.1 ((eN.1 hk).2.2.2.2 (bv B1) (atl (nY vb)))).1;have MF:=pJ B0.pages.xs;have By:=pJ B1.pages.xs;simp only[bv,cv]at o0 o1 je;have hT:aR (fU [B0.pages,B1.pages])=(ak (cv c) 0).pages++(ak (cv c) 1).pages:=by
  rw[Lc,show ak (cv c) 0=bv B0 from Ld Bx,show ak (cv c) 1=bv B1 from Ld vb];rfl
 have ke:=La (l:=(ak (cv c) 0).pages++(ak (cv c) 1).pages) (by rw[←hT,Lc,adr];omega);have jl:((ak (cv c) 0).pages++(ak (cv c) 1).pages).length=B0.pages.xs.length+B1.pages.xs.length:=by rw[←hT,Lc,adr];omega
 have uY:0<=(bZ (cv c)).1:=ke.1;have xS:(bZ (cv c)).1<c.pages+c.pages:=by have:=ke.2;rw[jl]at this;change(bZ (cv c)).1<_ at this;omega
 have gva:Sp w (fU [B0.pages,B1.pages]):=⟨fun y hy=>by
  simp only[fU,aum,au4,avn,awZ,auT,at7]at hy;rcases hy with hy|hy
  ·exact(hc.1.2 B0 afW.h).2 y hy
  exact(hc.1.2 B1 afX.h).2 y hy⟩
 have arz:0<=((bZ (cv c)).1/c.pages):=av3 uY oM;have arA:((bZ (cv c)).1/c.pages)<2:=Int.ediv_lt_of_lt_mul oM oM;have bJ:=St ((ak (cv c) 0).pages++(ak (cv c) 1).pages);have Mw:(c.blocks.xs.getD ((bZ (cv c)).1/c.pages).toNat rk).used=(ak (cv c) ((bZ (cv c)).1/c.pages)).used:=congrArg BV.used (zk (c:=c));refine ar ?_;refine Gb ?_ ?_<;>intro h1
 ·
  have hE:bG (cv c)=(mf,7):=by rw[bG,if_neg (by rw[h0];simp),if_pos (show(cv c).off=true from h1)]
  have bN:(7:Int)≠0:=by decide
  refine Gc ?_;refine ag (cR (v:= .agg (cF mN)) rfl (fun w=>kRq)) (al ?_);refine Gr fun w1 hw=>?_;exact⟨mN,by rw[hE],⟨by rw[hE];rfl,fun h=>absurd (by rw[hE]at h;exact h) bN⟩,Mem.dE ck 1 (ah.mem hw:Mem w [] _)⟩
 have rQ: ¬(cv c).off=true:=by rw[show(cv c).off=c.off from rfl,h1];simp
 refine Gc ?_;refine pA [10,11,12,17,19,2010,2017,4011,4012] [[],[],[],[],[],[],[],[],[],[],[],[10],[10,11],[10,11,12],[10,11,12],[10,11,12],[10,11,12],[],[10,11,12,17],[10,11,12,17],[10,11,12,17,19]] [0,1,2,3,4,5,6,7,8,9,10,11,12,13,14,15,16,17,18,19,20] [aq b1 (aV c) 59] [(10,oJ (cw (τ:=Sl UInt8)) 1 2 [B0.pages,B1.pages]),(17,mG prog 314)] oK (fun _ hw=>ah.mem hw) oK oK (an rfl (aM (o':=2) rfl rfl) (an rfl (bE rfl) (an rfl (bf rfl rfl 0 rfl oM) (an rfl (aM rfl rfl) (an rfl (bW (j:=0) rfl 0 Bx rfl dDq) (an rfl (aM (o':=2) rfl rfl) (an rfl (bE rfl) (an rfl (bf rfl rfl 1 rfl oM) (an rfl (aM rfl rfl) (an rfl (bW (j:=0) rfl 1 vb rfl dDq) (oI (m:=oJ (cw (τ:=Sl UInt8)) 1 2 [B0.pages,B1.pages]) rfl rfl (vS (enc:=(cw (τ:=Sl UInt8))) (c:=1) (n:=2) (vals:=[B0.pages.sv.val,B1.pages.sv.val]) [B0.pages,B1.pages] rfl (by simp only[aum,au4,Sv.jW];rfl) rfl dDq dDq) (Cert.one (i:=17) rfl rfl rfl mH (Cert.none rfl)) fun HK=>?_)))))))))));change Ln _ _ _ _ _ _ _ _ (cr _ _ (Sv.val ⟨false,HK,0,2,2,none⟩)) (own (cw (τ:=Sl UInt8)) 1 ⟨false,HK,0,2,2,none⟩ [B0.pages,B1.pages]::_) _;refine vR (hc:=UL (a:=(⟨⟨false,HK,0,2,2,none⟩,[B0.pages,B1.pages]⟩:Sl (Sl (Sl UInt8))))) (Kn:=fun e_=>UL (a:=(⟨⟨false,HK,0,2,2,none⟩,[B0.pages,B1.pages]⟩:Sl (Sl (Sl UInt8))))) rfl rfl (by simp only[fU,aum,au4,avn,awZ,adr,alM];omega) (fun e x w hw=>ah.mem hw) (Cert.one (i:=17) rfl rfl rfl mH (Cert.none rfl)) fun sG vc=>⟨fun _ hw=>ah.mem hw,?_⟩;refine vR (hc:=UO (l:=(⟨sG,(fU [B0.pages,B1.pages])⟩:Sl (Sl UInt8)))) (Kn:=fun e_=>UO (l:=(⟨sG,(fU [B0.pages,B1.pages])⟩:Sl (Sl UInt8)))) rfl rfl trivial (fun e x w hw=>ah.mem hw) (Cert.one (i:=17) rfl rfl rfl mH (Cert.none rfl)) fun dR pc=>⟨fun _ hw=>ah.mem hw,?_⟩;have iC:(gm (aR (fU [B0.pages,B1.pages]))).1=(bZ (cv c)).1:=by rw[hT];rfl
 have MG:(gm (aR (fU [B0.pages,B1.pages]))).2.2=(bZ (cv c)).2.2:=by rw[hT];rfl
 have DC:dM dR=(bZ (cv c)).2.1:=by rw[pc,hT];rfl
 have qa:dR.gen.toNat=(bZ (cv c)).2.1.gen:=congrArg RV.gen DC;have A9:dR.at_.xs=(bZ (cv c)).2.1.at_:=congrArg RV.at_ DC;refine an rfl (bm rfl) (an rfl (aB (v:= .int .i64 ((gm (aR (fU [B0.pages,B1.pages]))).1)) rfl rfl) (an rfl (aB (v:= .agg (fa dR)) rfl rfl) (an rfl (aB (v:= .int .i64 ((gm (aR (fU [B0.pages,B1.pages]))).2.2)) rfl rfl) (oI (m:=mG prog 314) rfl rfl mH (Cert.none rfl) fun b5=>?_))));change Ln _ _ _ _ _ _ _ _ (cr _ _ (.pointer (some ⟨b5,0,none⟩))) (aq b5 (fa mM) 314::_) _;refine an rfl (hO rfl) (dr rfl (qw rfl rfl ⟨fun _ hw=>ah.mem hw,?_⟩));refine an rfl (hO rfl) (ar ?_);refine Gb ?_ ?_<;>intro h2
 ·
  rw[MG]at h2;have hE:bG (cv c)=(mf,(bZ (cv c)).2.2):=by rw[bG,if_neg (by rw[h0];simp),if_neg rQ,if_pos h2]
  have bN:=h2;refine Gc ?_;refine ag (cR (v:= .agg (cF mN)) rfl (fun w=>kRq)) (ar ?_);refine Gr fun w1 hw=>?_;exact⟨mN,by rw[hE,MG],⟨by rw[hE];rfl,fun h=>absurd (by rw[hE]at h;exact h) bN⟩,Mem.dE ck 1 (ah.mem hw:Mem w [] _)⟩
 rw[MG]at h2;refine ar ?_;refine ag (ou rfl rfl oM oM) (au ?_);refine jI oK oK (al ?_);refine bX (Cl rfl rfl oM oM) (al ?_);refine bX (bf rfl rfl (((gm (aR (fU [B0.pages,B1.pages]))).1/c.pages).toNat) (by rw[iC];omega) (by rw[iC];omega)) (bX (aM rfl rfl) (bX (bW (j:=1) rfl (((gm (aR (fU [B0.pages,B1.pages]))).1/c.pages).toNat) (pz (xs:=c.blocks.xs) (i:=((gm (aR (fU [B0.pages,B1.pages]))).1/c.pages).toNat) (d:=rk) (by rw[iC];omega)) rfl dDq) (au ?_)));refine jH rfl rfl rfl (fun hg=>(Ry.yl (jU rfl))) (au ?_);refine jH rfl rfl rfl (fun hg=>bK (fG (aG hg rfl) (fG (aG hg rfl) jG)) ⟨hk,fun x hx=>bJ x (by rw[A9]at hx;exact hx)⟩) (jH rfl rfl rfl (fun hg=>(Ry.yl (nJ (aG hg rfl)))) (au ?_));refine Gb ?_ ?_<;>intro h3
 ·
  have xh:nt (cv c)=false:=by
   rw[A9]at h3
   cases u9:nt (cv c)with
   |false=>rfl
   |true=>
    simp only[nt,af0,decide_eq_true_eq]at u9;rw[u9.2]at h3;simp only[avK,or_false]at h3;have:=u9.1;rw[iC,Mw]at h3;exact absurd this (by simp only[cv]at*;omega)
  have hE:bG (cv c)=(mf,2):=by rw[bG,if_neg (by rw[h0];simp),if_neg rQ,if_neg oM,if_pos xh]
  have bN:(2:Int)≠0:=by decide
  refine Gc ?_;refine ag (cR (v:= .agg (cF mN)) rfl (fun w=>kRq)) (al ?_);refine Gr fun w1 hw=>?_;exact⟨mN,by rw[hE],⟨by rw[hE];rfl,fun h=>absurd (by rw[hE]at h;exact h) bN⟩,Mem.dE ck 1 (ah.mem hw:Mem w [] _)⟩
 have xh:nt (cv c)=true:=by
  rw[A9,iC,Mw]at h3;simp only[nt,af0,decide_eq_true_eq];exact⟨by have:=h3.1;simp only[cv]at*;omega,h3.2⟩
 have hE:bG (cv c)=(⟨cv c,(bZ (cv c)).2.1.at_,(bZ (cv c)).2.1.gen,(bZ (cv c)).1/c.pages⟩,0):=by rw[bG,if_neg (by rw[h0];simp),if_neg rQ,if_neg oM,if_neg (by rw[xh];simp)];rfl
 refine cX ?_;refine ag (cR (v:= .agg (cF ⟨c,dR.at_,dR.gen,((gm (aR (fU [B0.pages,B1.pages]))).1/c.pages)⟩)) rfl (afV c dR.at_ dR.gen ((gm (aR (fU [B0.pages,B1.pages]))).1/c.pages))) (al ?_);refine Gr fun w1 hw=>?_;exact⟨⟨c,dR.at_,dR.gen,(gm (aR (fU [B0.pages,B1.pages]))).1/c.pages⟩,by rw[hE],⟨by rw[hE];simp only[vv,A9,qa,iC],fun _=>rfl⟩,ah.mem hw⟩)⟩
instance arB{c:Cp}[hc:aX w0 L c]:bY prog 180 w0 L [.agg (aV c)] (cB) (fun U=> .tuple #[.agg (cF U), .int .i64 ((bG (cv c)).2)]) (fun U=>fz U.ae::own ck 1 U.at_.sv U.at_.xs::L) (fun U=>vv U=(if(bG (cv c)).2=0 then(bG (cv c)).1 else mf)) (True):=⟨fun aC w hw=>Gk (fun U:cB=>[fz U.ae,own ck 1 U.at_.sv U.at_.xs]) hw (by
 have hc:=hc.h w hw;have lN:cQ w c:=⟨hc⟩;refine cx func180 rfl ntmps180 rfl ?_;refine Gc ?_;refine cn rfl fun b1=>bn fun b2=>al ?_;refine bb rfl trivial fun x8 p6=>?_;obtain⟨US,UT⟩:=p6;have hl8:=Sw (cv c);have ha8:x8.at_.xs=(bG (cv c)).1.at_:=congrArg VV.at_ US;rw[←ha8]at hl8;refine Gs ?_;refine ag (aB (v:= .agg (cF x8)) rfl rfl) (ag (aB (v:= .int .i64 ((bG (cv c)).2)) rfl rfl) (bn fun b4=>aY ?_));refine Gb ?_ ?_<;>intro h0
 ·refine Gc ?_;refine ag (cR (v:= .agg (cF mN)) rfl (fun w=>kRq)) (ar ?_);refine Gr fun w1 hw=>?_;exact⟨mN,rfl,by rw[if_neg h0];rfl,ads (Mem.dE ck 1 (ah.mem hw:Mem w [] _))⟩
 have pd:(bG (cv c)).2=0:=h0;have ec:Sx x8.ae c:=⟨UT pd⟩;have gQ:gk x8.ae:=by rw[UT pd];exact r9 (fN.1 (Le pd)).1
 refine j6 ?_;refine ur [Deep.cE x8.at_,aq b4 (cF x8) 63,aq b2 (cF mN) 63,aq b1 (aV c) 59] (fun w hw=>ah.mem (Mem.RD (ah.mem hw:Mem _ [own ck 1 x8.at_.sv x8.at_.xs,aq b4 (cF x8) 63,aq b2 (cF mN) 63,aq b1 (aV c) 59] _))) (Gi ?_);refine Gs ?_;refine bb rfl ⟨by assumption,oM⟩ fun aE lL=>al ?_;refine Gr fun w1 hw=>?_;exact⟨(⟨aE.1,⟨aE.2,x8.at_.xs⟩,x8.gen,x8.last⟩:cB),by rw[pd],by
  rw[if_pos pd,←US];simp only[vv,lL],ah.mem hw⟩)⟩
instance arC{v:cB}[hv:aX w0 L v]:bV prog 173 w0 L [.agg (cF v)] (.bool (mQ (vv v))) (True):=⟨fun aC w hw=>by
 have hv:=hv.h w hw;have DS:cQ w v:=⟨hv⟩;refine cx func173 rfl ntmps173 rfl ?_;refine Gc ?_;refine cn rfl fun b1=>al ?_;refine ag (fM rfl) (bn fun b3=>al ?_);refine dO (cs':=aV (⟨v.ae.pages,v.ae.size,v.ae.blocks,v.ae.ops,false,v.ae.aA⟩:Cp)) rfl rfl (by show 4<6;decide) (by first|rfl|exact Sv.one _) rfl (au ?_);refine bb rfl trivial fun df sF=>?_;obtain⟨MH,arD⟩:=sF;have hvg:df.gen.toNat=(bG {(vv v).ae with off:=false}).1.gen:=congrArg VV.gen MH
 have Be:df.last=(bG {(vv v).ae with off:=false}).1.last:=congrArg VV.last MH
 have hva:df.at_.xs=(bG {(vv v).ae with off:=false}).1.at_:=congrArg VV.at_ MH
 refine Gs ?_;refine ag (aB (v:= .agg (cF df)) rfl rfl) (ag (aB (v:= .int .i64 ((bG (cv (⟨v.ae.pages,v.ae.size,v.ae.blocks,v.ae.ops,false,v.ae.aA⟩:Cp))).2)) rfl rfl) (bn fun b4=>aaQ ?_));refine jo rfl rfl rfl (fun hg=>bK (fG (aG hg rfl) (fG (aG hg rfl) jG)) trivial) (al ?_);refine Gr fun w1 hw=>?_;exact⟨congrArg (fun b=>Ending.returned (Value.bool b)) ((by rw[show decide (((df.gen.toNat:Nat):Int)=((v.gen.toNat:Nat):Int))=decide (df.gen.toNat=v.gen.toNat)from decide_eq_decide.2 oM,mQ,←hvg,←Be,←hva];rfl)),ah.mem hw⟩⟩
instance UU{v:cB}{id:Int}[hv:aX w0 L v]:bY prog 347 w0 L [.agg (cF v), .int .i64 id] (Sv) (fun U=>U.val) (fun U=>own aQ 1 U (jw (cv v.ae) (v.at_.xs.getD id.toNat 0))::L) (fun U=>True) (aW (cv v.ae)=true/\ ∃y,v.at_.xs[id.toNat]? =Option.some y/\0<=id/\1<=y/\y<=1000000/\2<=(y -1)/(cv v.ae).pages/\(y -1)/(cv v.ae).pages<((cv v.ae).blocks.length:Int)):=⟨fun aC w hw=>Gk (fun U=>[own aQ 1 U (jw (cv v.ae) (v.at_.xs.getD id.toNat 0))]) hw (by
 have hv:=hv.h w hw;have DS:cQ w v:=⟨hv⟩;obtain⟨hk,y,hy,hid,HE,hy2,g1,g2⟩:=aC;have qb:v.at_.xs.getD id.toNat 0=y:=qC hy;have fo:=(zz.1 hy).1;have dI:=iv v.ae.blocks.xs;have je:=mK.1 (eN.1 hk).1;simp only[cv,dI]at je;have xR:0<=((y -1)/v.ae.pages):=av3 oM oM;have oW:0<=((y -1)%v.ae.pages):=av4 _ oM;have qM:((y -1)%v.ae.pages)<v.ae.pages:=av8 _ oM;have oh:=zk (c:=v.ae) (b:=((y -1)/v.ae.pages));change 2<=((y -1)/v.ae.pages)at g1;change((y -1)/v.ae.pages)<((jv v.ae.blocks.xs).length:Int)at g2;rw[dI]at g2;obtain⟨B,hB⟩:=get_some (xs:=v.ae.blocks.xs) (i:=((y -1)/v.ae.pages).toNat) oM;have tT:Mb B v.ae.blocks:=⟨List.mem_of_getElem? hB⟩;have ft:bv B=ak (cv v.ae) ((y -1)/v.ae.pages):=by rw[←oh];simp[List.getD,hB]
 have gR:=fy.1 ((eN.1 hk).2.2.2.2 (bv B) (atl (nY hB)));have jl:=pJ B.pages.xs;have DU:(B.pages.xs.length:Int)=v.ae.pages:=by have:=gR.1;simp only[bv,cv,jl]at this;exact this
 obtain⟨z,hz⟩:=get_some (xs:=B.pages.xs) (i:=((y -1)%v.ae.pages).toNat) oM;have yg:Mb z B.pages:=⟨List.mem_of_getElem? hz⟩;have fC:bS (cv v.ae) (y -1)=z.xs:=by
  show(ak (cv v.ae) ((y -1)/v.ae.pages)).pages.getD ((y -1)%v.ae.pages).toNat []=z.xs;rw[←ft];simp[bv,List.getD,rl hz]
 refine dD func347 rfl ntmps347 rfl ?_;refine Gc ?_;refine cn rfl fun b2=>aP ?_;refine ag (bf rfl rfl id.toNat oM oM) (ag (bW (j:=0) rfl id.toNat hy rfl dDq) (al ?_));refine pA [18,22,23,2022,4018] [[],[],[],[],[],[],[],[],[],[],[],[],[],[],[],[],[],[],[],[18],[18],[18],[],[18,22],[18,22,23]] [0,1,2,3,4,5,6,7,8,9,10,11,12,13,14,15,16,17,18,19,20,21,22,23,24] [aq b2 (cF v) 63] [(22,mG prog 324)] oK (fun _ hw=>ah.mem hw) oK oK (an rfl (aM (o':=0) rfl rfl) (an rfl (aM (o':=2) rfl rfl) (an rfl (bE rfl) (an rfl (bm rfl) (an rfl (aM (o':=0) rfl rfl) (an rfl (aM (o':=0) rfl rfl) (an rfl (bE rfl) (an rfl (ou rfl rfl oM oM) (an rfl (bf rfl rfl (((y -1)/v.ae.pages).toNat) oM oM) (an rfl (aM rfl rfl) (an rfl (bW (j:=0) rfl (((y -1)/v.ae.pages).toNat) hB rfl dDq) (an rfl (bm rfl) ?_))))))))))));refine an rfl (aM (o':=0) rfl rfl) (an rfl (aM (o':=0) rfl rfl) (an rfl (bE rfl) (an rfl (Cl rfl rfl oM oM) (an rfl (bf rfl rfl (((y -1)%v.ae.pages).toNat) oM oM) (an rfl (bW (j:=0) rfl (((y -1)%v.ae.pages).toNat) hz rfl dDq) ?_)))));refine vR rfl rfl trivial (fun e x w hw=>ah.mem hw) (Cert.one (i:=22) rfl rfl rfl mH (Cert.none rfl)) fun kY ym=>⟨fun _ hw=>ah.mem hw,?_⟩;have e1:kY.body.xs=(cM z.xs).1.body:=congrArg PV.body ym;refine an rfl (bm rfl) (an rfl (aB (v:= .agg (dt kY)) rfl rfl) (an rfl (aB (v:= .int .i64 ((cM z.xs).2)) rfl rfl) (oI (m:=mG prog 324) rfl rfl mH (Cert.none rfl) fun b6=>?_)));change Ln _ _ _ _ _ _ _ _ (cr _ _ (.pointer (some ⟨b6,0,none⟩))) (aq b6 (dt pO) 324::_) _;refine dr rfl (qw rfl rfl ⟨fun _ hw=>ah.mem hw,?_⟩);refine an rfl (hO rfl) (ar ?_);refine Gb ?_ ?_<;>intro h0
 ·
  have hE:(jw (cv v.ae) (v.at_.xs.getD id.toNat 0))=[]:=by rw[qb,jw,fC,if_neg h0]
  refine al ?_;refine Gr fun w1 hw=>?_;exact⟨Sv.none,rfl,trivial,by rw[hE];exact Mem.dE aQ 1 (ah.mem hw:Mem w [] _)⟩
 have pd:(cM z.xs).2=0:=h0;have hE:(jw (cv v.ae) (v.at_.xs.getD id.toNat 0))=kY.body.xs:=by rw[qb,jw,fC,if_pos pd,e1]
 refine aP ?_;refine Gr fun w1 hw=>?_;exact⟨kY.body.sv,rfl,trivial,by rw[hE];exact ah.mem hw⟩)⟩
instance arE{x:fA}{n:Int}[hx:aX w0 L x]:bY prog 255 w0 L [.agg (dt x), .int .i64 n] (Sv) (fun U=> .tuple #[U.val, .int .i64 ((dy (c8 x) n).2)]) (fun U=>own aQ 1 U (dy (c8 x) n).1::L) (fun U=>True) (True):=⟨fun aC w hw=>Gk (fun U=>[own aQ 1 U (dy (c8 x) n).1]) hw (by
 have hx:=hx.h w hw;have yi:cQ w x:=⟨hx⟩;refine dD func255 rfl ntmps255 rfl ?_;refine Gc ?_;refine cn rfl fun b2=>fS ?_;refine Gb ?_ ?_<;>intro h0
 ·
  have hE:dy (c8 x) n=([],1):=by rw[dy,if_neg (by rw[h0];simp)]
  refine ar ?_;refine Gr fun w1 hw=>?_;exact⟨Sv.none,by rw[hE];rfl,trivial,by rw[hE];exact Mem.dE aQ 1 (ah.mem hw:Mem w [] _)⟩
 have hE:dy (c8 x) n=((j8 (c8 x) n.toNat)++be (pI (j8 (c8 x) n.toNat)) 4,0):=by rw[dy,if_pos h0]
 obtain⟨m1,m2,m3,m4,m5,m6⟩:=sa.1 h0;have hft:=tn.1 m1;have DT:dY n=n -16:=by rw[dY,if_pos m1]
 simp only[c8]at m2 m3 m4 m5 m6;have RB:(List.replicate (n.toNat -4) (0:UInt8)).length=n.toNat -4:=auQ;have dI:x.body.xs.length+16<=n.toNat:=by omega
 have hg6:=jV x.gen.toNat 6;have Bz:=jV x.body.xs.length 2;have sS:=KS (j8 (c8 x) n.toNat);have cf:(j8 (c8 x) n.toNat).length=n.toNat -4:=adi (by simp only[c8];omega);refine al ?_;refine vI (enc:=aQ) (n:=(n.toNat -4)) (cap:=(n.toNat -4)) 0 rfl rfl rfl oM oM oM oM oM fun jB=>Gs ?_;refine j6 ?_;have DV:=GY (b:=jB) (n:=(n.toNat -4)) oM;refine jt [9,11] [[],[],[],[],[],[],[],[],[],[],[9],[9]] [0,1,2,3,4,5,6,7,8,9,10,11] [aq b2 (dt x) 324] (fun _ hw=>ah.mem hw) oK oK (an rfl (bm rfl) (an rfl (bm rfl) (an rfl (aM (o':=0) rfl rfl) (an rfl (bE rfl) (an rfl (vB rfl (AT _)) (an rfl (aM (o':=1) rfl rfl) (an rfl (bE rfl) (an rfl (vB rfl (AT _)) (an rfl (pq (s:=⟨false,jB,0,(n.toNat -4),(n.toNat -4),none⟩) (i:=0) rfl rfl rfl DV (by simp only;omega)) (dr rfl (zd (s:=⟨false,jB,0,(n.toNat -4),(n.toNat -4),none⟩) (n:=1) (k:=0) (j:=0) (a:=0) (a':=dk x.kind) (xs:=(List.replicate (n.toNat -4) (0:UInt8))) (enc:=aQ) (c:=1) (v:= .int .u8 (dk x.kind).toNat) oK rfl rfl rfl (by rw[awq,if_pos oM]) (by simp[Value.cells,Value.oneCell']) rfl oM (by rfl) ⟨fun _ hw=>ah.mem hw,?_⟩)))))))))));refine an rfl (pq (s:=⟨false,jB,0,(n.toNat -4),(n.toNat -4),none⟩) (i:=1) rfl rfl rfl DV (by simp only;omega)) (dr rfl (zd (s:=⟨false,jB,0,(n.toNat -4),(n.toNat -4),none⟩) (n:=1) (k:=1) (j:=0) (a:=0) (a':=dk x.id) (xs:=((List.replicate (n.toNat -4) (0:UInt8)).set 0 (dk x.kind))) (enc:=aQ) (c:=1) (v:= .int .u8 (dk x.id).toNat) oK rfl rfl rfl (by rw[auF dDq,awq,if_pos oM]) (by simp[Value.cells,Value.oneCell']) rfl oM (by rfl) ⟨fun _ hw=>ah.mem hw,?_⟩));refine j6 ?_;refine ur [own aQ 1 ⟨false,jB,0,(n.toNat -4),(n.toNat -4),none⟩ ([dk x.kind,dk x.id]++List.replicate ((n.toNat -4) -2) (0:UInt8)),aq b2 (dt x) 324] (fun w hw=>by
  rw[adh oM]at hw;exact ah.mem hw) ?_
 refine jt [4,5] [[],[],[],[],[],[4]] [0,1,2,3,4,5] [aq b2 (dt x) 324] (fun _ hw=>ah.mem hw) oK oK (an rfl (bm rfl) ?_);have aeS:Rg 2 8 (List.replicate (n.toNat -4) (0:UInt8)).length:=⟨oM⟩;refine an rfl (Fj (s:=⟨false,jB,0,(n.toNat -4),(n.toNat -4),none⟩) (l:=2) (h:=8) rfl rfl rfl rfl rfl DV oM (by simp only;omega)) (an rfl (aM (o':=2) rfl rfl) (an rfl (bE rfl) (dr rfl (qv (vs:=[_, .int .i64 ((6:Nat):Int)]) rfl ⟨oM,oM,oM⟩ fun dR pc=>⟨fun _ hw=>ah.mem hw,?_⟩))));refine dr rfl (KX (D:=Sv.sub ⟨false,jB,0,(n.toNat -4),(n.toNat -4),none⟩ 1 2 8) (S:=dR) (rm:=⟨false,jB,0,(n.toNat -4),(n.toNat -4),none⟩) (k:=2) (xs:=([dk x.kind,dk x.id]++List.replicate ((n.toNat -4) -2) (0:UInt8))) (ys:=(be x.gen.toNat 6)) rfl rfl rfl rfl (by simp only[Sv.sub];rw[if_neg oM]) rfl dDq rfl (by simp only[Sv.sub,jV];omega) (by simp only[adr,jV,auQ,ad2,alM];omega) ⟨fun _ hw=>ah.mem hw,?_⟩);refine j6 ?_;refine ur [own aQ 1 ⟨false,jB,0,(n.toNat -4),(n.toNat -4),none⟩ ([dk x.kind,dk x.id]++(be x.gen.toNat 6)++List.replicate ((n.toNat -4) -2 -(be x.gen.toNat 6).length) (0:UInt8)),aq b2 (dt x) 324] (fun w hw=>by
  rw[K8 (A:=[dk x.kind,dk x.id]) (k:=2) rfl]at hw;exact ah.mem hw) ?_
 refine jt [6,7] [[],[],[],[],[],[],[],[6]] [0,1,2,3,4,5,6,7] [aq b2 (dt x) 324] (fun _ hw=>ah.mem hw) oK oK (an rfl (bm rfl) ?_);have arF:Rg 8 10 (List.replicate (n.toNat -4) (0:UInt8)).length:=⟨oM⟩;refine an rfl (Fj (s:=⟨false,jB,0,(n.toNat -4),(n.toNat -4),none⟩) (l:=8) (h:=10) rfl rfl rfl rfl rfl DV oM (by simp only;omega)) (an rfl (aM (o':=3) rfl rfl) (an rfl (bE rfl) (an rfl (uq rfl) (an rfl (mw rfl (by simp only[nb];omega)) (dr rfl (qv (vs:=[_, .int .i64 ((2:Nat):Int)]) rfl ⟨oM,oM,oM⟩ fun MI afY=>⟨fun _ hw=>ah.mem hw,?_⟩))))));refine dr rfl (KX (D:=Sv.sub ⟨false,jB,0,(n.toNat -4),(n.toNat -4),none⟩ 1 8 10) (S:=MI) (rm:=⟨false,jB,0,(n.toNat -4),(n.toNat -4),none⟩) (k:=8) (xs:=([dk x.kind,dk x.id]++(be x.gen.toNat 6)++List.replicate ((n.toNat -4) -2 -(be x.gen.toNat 6).length) (0:UInt8))) (ys:=(be x.body.xs.length 2)) rfl rfl rfl rfl (by simp only[Sv.sub];rw[if_neg oM]) rfl dDq rfl (by simp only[Sv.sub,jV];omega) (by simp only[adr,jV,auQ,ad2,alM];omega) ⟨fun _ hw=>ah.mem hw,?_⟩);refine j6 ?_;refine ur [own aQ 1 ⟨false,jB,0,(n.toNat -4),(n.toNat -4),none⟩ ([dk x.kind,dk x.id]++(be x.gen.toNat 6)++(be x.body.xs.length 2)++List.replicate ((n.toNat -4) -2 -(be x.gen.toNat 6).length -(be x.body.xs.length 2).length) (0:UInt8)),aq b2 (dt x) 324] (fun w hw=>by
  rw[K8 (A:=[dk x.kind,dk x.id]++(be x.gen.toNat 6)) (k:=8) (by simp[jV])]at hw;exact ah.mem hw) ?_
 refine jt [4] [[],[],[],[],[]] [0,1,2,3,4] [aq b2 (dt x) 324] (fun _ hw=>ah.mem hw) oK oK (an rfl (bm rfl) ?_);have arG:Rg 10 ((List.replicate (n.toNat -4) (0:UInt8)).length) (List.replicate (n.toNat -4) (0:UInt8)).length:=⟨oM⟩;refine an rfl (ui (s:=⟨false,jB,0,(n.toNat -4),(n.toNat -4),none⟩) (l:=10) (n:=(n.toNat -4)) rfl rfl rfl DV rfl oM) (an rfl (aM (o':=3) rfl rfl) (an rfl (bE rfl) ?_));refine dr rfl (KX (D:=Sv.sub ⟨false,jB,0,(n.toNat -4),(n.toNat -4),none⟩ 1 10 (n.toNat -4)) (S:=x.body.sv) (rm:=⟨false,jB,0,(n.toNat -4),(n.toNat -4),none⟩) (k:=10) (xs:=([dk x.kind,dk x.id]++(be x.gen.toNat 6)++(be x.body.xs.length 2)++List.replicate ((n.toNat -4) -2 -(be x.gen.toNat 6).length -(be x.body.xs.length 2).length) (0:UInt8))) (ys:=x.body.xs) rfl rfl rfl rfl (by simp only[Sv.sub];rw[if_neg oM]) rfl dDq rfl (by simp only[Sv.sub,jV];omega) (by simp only[adr,jV,auQ,ad2,alM];omega) ⟨fun _ hw=>ah.mem hw,?_⟩);refine j6 ?_;refine ur [own aQ 1 ⟨false,jB,0,(n.toNat -4),(n.toNat -4),none⟩ (j8 (c8 x) n.toNat),aq b2 (dt x) 324] (fun w hw=>by
  rw[K8 (A:=[dk x.kind,dk x.id]++(be x.gen.toNat 6)++(be x.body.xs.length 2)) (k:=10) (by simp[jV]),show([dk x.kind,dk x.id]++(be x.gen.toNat 6)++(be x.body.xs.length 2)++x.body.xs++List.replicate ((n.toNat -4) -2 -(be x.gen.toNat 6).length -(be x.body.xs.length 2).length -x.body.xs.length) (0:UInt8))=(j8 (c8 x) n.toNat)from by
   simp only[j8,c8,jV];congr 2<;>omega]at hw
  exact ah.mem hw) ?_
 refine Gi ?_;refine al ?_;refine ag (mw rfl (by simp only[nb];omega)) (bb (vs:=[_, .int .i64 ((4:Nat):Int)]) rfl ⟨oM,oM,oM⟩ fun tU MJ=>?_);refine nP (enc:=(cw (τ:=UInt8))) [(⟨⟨false,jB,0,(n.toNat -4),(n.toNat -4),none⟩,(j8 (c8 x) n.toNat)⟩:Sl UInt8),⟨tU,be (pI (j8 (c8 x) n.toNat)) 4⟩] (vals:=[(⟨false,jB,0,(n.toNat -4),(n.toNat -4),none⟩:Sv).val,tU.val]) rfl (by simp only[aum,au4,Sv.jW];rfl) rfl dDq dDq fun b48=>?_;refine acC (τ:=Sl UInt8) (xs:=[(⟨⟨false,jB,0,(n.toNat -4),(n.toNat -4),none⟩,(j8 (c8 x) n.toNat)⟩:Sl UInt8),⟨tU,be (pI (j8 (c8 x) n.toNat)) 4⟩]) fun a48 KN g48=>?_;have UW:lu a48.xs=(dy (c8 x) n).1:=by rw[KN,hE];simp[lu]
 have hf9:(dy (c8 x) n).1.length<=1000:=by rw[hE,adr,jV];omega
 refine bb rfl (by rw[UW];omega) fun x49 arH=>al ?_;refine Gr fun w1 hw=>?_;exact⟨x49,by rw[hE],trivial,by rw[←UW];exact ah.mem hw⟩)⟩
theorem afZ(i:Int)(g:UInt64)(w:World):(Instr.build 324 #[(0, .int .i64 2),(1, .int .i64 i),(2, .int .u64 (g.toNat:Int))]).run prog w= .ok (.agg (dt ⟨2,i,g,⟨Sv.none,[]⟩⟩)) w:=by
 unfold dt;kernel_rfl
instance arI{r:dK}{n:Int}[hr:aX w0 L r]:bY prog 218 w0 L [.agg (fa r), .int .i64 n] (Sv) (fun U=> .tuple #[U.val, .int .i64 ((da (dM r) n).2)]) (fun U=>own aQ 1 U (da (dM r) n).1::L) (fun U=>True) (True):=⟨fun aC w hw=>Gk (fun U=>[own aQ 1 U (da (dM r) n).1]) hw (by
 have hr:=hr.h w hw;have ghr:cQ w r:=⟨hr⟩;have kv:=hr.1.bd;refine dD func218 rfl ntmps218 rfl ?_;refine Gc ?_;refine cn rfl fun b2=>fS ?_;refine Gb ?_ ?_<;>intro h0
 ·
  have hE:da (dM r) n=([],1):=by rw[da,if_neg (by rw[h0];simp)]
  refine ar ?_;refine Gr fun w1 hw=>?_;exact⟨Sv.none,by rw[hE];rfl,trivial,by rw[hE];exact Mem.dE aQ 1 (ah.mem hw:Mem w [] _)⟩
 have hE:da (dM r) n=dy (⟨2,(max 0 (r.at_.xs.length -1:Int)),r.gen.toNat,ic r.at_.xs⟩:PV) n:=by rw[da,if_pos h0];rfl
 obtain⟨m1,m2,m3,m4⟩:=xz.1 h0;have hmf:kP n<=64:=by rw[kP];omega
 simp only[dM]at m2 m3 m4;refine aP ?_;refine ag (yN rfl rfl) (au ?_);refine ag (cR (v:= .agg (dt (⟨2,(max 0 (r.at_.xs.length -1:Int)),r.gen,⟨Sv.none,[]⟩⟩:fA))) rfl (afZ _ r.gen)) (bn fun b6=>cX ?_);refine cg (X:=Nat×Sv) (fun U=>[(24, .int .i64 (U.1:Nat)),(6, .pointer (some ⟨b6,0,none⟩)),(1, .int .i64 n),(22,r.at_.sv.val),(23, .int .i64 (r.at_.xs.length:Nat))]) (fun U=>[aq b6 (dt (⟨2,(max 0 (r.at_.xs.length -1:Int)),r.gen,⟨U.2,ic (r.at_.xs.take U.1)⟩⟩:fA)) 324,own aQ 1 U.2 (ic (r.at_.xs.take U.1)),aq b2 (fa r) 314]) (fun U=>U.1<=r.at_.xs.length) (fun U=>r.at_.xs.length -U.1) (0,Sv.none) (auo _) sb (fun w hw=>by
  simp only[auw,ic,au4,awZ];exact ah.mem (Mem.dE aQ 1 hw)) ?_
 rintro⟨i,s1⟩ bg;dsimp only;simp only at bg;refine al ?_;refine Gb ?_ ?_<;>intro h1
 ·
  obtain⟨y,hy⟩:=get_some (xs:=r.at_.xs) (i:=i) oM;have Mu:=Dg.1 (m4 y (atl hy));have fE:ic (r.at_.xs.take (i+1))=ic (r.at_.xs.take i)++[dk (y/256),dk y]:=adk hy;have yk:=AV (r.at_.xs.take i);have hnt:(r.at_.xs.take i).length<=64:=by rw[at3];omega
  refine Gc ?_;refine ag (bf rfl rfl i rfl oM) (ag (bW (j:=0) rfl i hy rfl dDq) (aP ?_));refine ag (Ry.to (v':= .int .i64 (y/256)) (wU (p:=y.toNat) (Eq.trans (b:=some (Value.int .i64 y)) rfl (by rw[auU Mu.1])) rfl (by simp only[nb];omega) oM) (by rw[show(8:Int).toNat=8 from rfl];congr 1;omega)) (ag (vB rfl (AT _)) (Gs ?_));refine ag (vB rfl (AT _)) ?_;refine nP (enc:=aQ) (vals:=[_,_]) [(dk (y/256)),(dk y)] rfl rfl rfl dDq dDq fun MK=>?_;refine mB (s:=s1) (ys:=[(dk (y/256)),(dk y)]) rfl rfl dDq (fun w hw=>iQ (s:=⟨false,MK,0,2,2,none⟩) underlying53 dDq ((inferInstance:Hd _ _ ⟨false,MK,0,2,2,none⟩ aQ 1 [(dk (y/256)),(dk y)]).h w hw)) (by simp only[ad2,alM];omega) (by simp only[ad2,alM];omega) fun UX arJ arK=>?_;refine Gs ?_;refine dO (cs':=dt (⟨2,(max 0 (r.at_.xs.length -1:Int)),r.gen,⟨UX,((ic (r.at_.xs.take i))++[(dk (y/256)),(dk y)])⟩⟩:fA)) rfl rfl (by show 3<4;decide) (by first|rfl|exact Sv.one _) rfl (al ?_);refine Gi ?_;exact bo (x:=(i,s1)) (i+1,UX) (by simp only;omega) (by simp only;omega) sb (fun w hw=>by
   simp only[fE];exact ah.mem hw)
 obtain rfl:i=r.at_.xs.length:=by omega
 rw[aup];refine l6 ?_;refine ur [Deep.cE (⟨s1,ic r.at_.xs⟩:Sl UInt8),aq b6 (dt (⟨2,(max 0 (r.at_.xs.length -1:Int)),r.gen,⟨s1,ic r.at_.xs⟩⟩:fA)) 324] (fun w hw=>ah.mem (Mem.RD (ah.mem hw:Mem _ [own aQ 1 s1 (ic r.at_.xs),aq b6 (dt (⟨2,(max 0 (r.at_.xs.length -1:Int)),r.gen,⟨s1,ic r.at_.xs⟩⟩:fA)) 324] _))) (Gi ?_);refine au ?_;refine bb rfl trivial fun mr af1=>ag (aB (v:=mr.val) rfl rfl) (ag (aB (v:= .int .i64 ((dy (c8 (⟨2,(max 0 (r.at_.xs.length -1:Int)),r.gen,⟨s1,ic r.at_.xs⟩⟩:fA)) n).2)) rfl rfl) (al ?_));refine Gr fun w1 hw=>?_;exact⟨mr,by rw[hE];rfl,trivial,by
  have h1:Mem w [own aQ 1 mr (dy (c8 (⟨2,(max 0 (r.at_.xs.length -1:Int)),r.gen,⟨s1,ic r.at_.xs⟩⟩:fA)) n).1] _:=ah.mem hw;rw[hE];exact h1⟩)⟩
instance arL{xb:Nat}{xc:Cp}{xa:Sl Int}{xg:UInt64}{xl:Int}{xy:Bool}[et:nA w0 L xb (aS (⟨⟨xc,xa,xg,xl⟩,xy⟩:aT)) 261][eM:aX w0 L xc]:bV prog 176 w0 L [.pointer (some ⟨xb,0,none⟩)] (.int .i64 (n7 (cv xc):Nat)) (True):=⟨fun aC w hw=>by
 have et:=et.h w hw;have eM:=eM.h w hw;have wB:sB w xb (aS (⟨⟨xc,xa,xg,xl⟩,xy⟩:aT)) 261:=⟨et⟩;have wC:cQ w xc:=⟨eM⟩;have kv:=eM.1.1.bd;have dI:(cv xc).blocks.length=xc.blocks.xs.length:=iv _;refine cx func176 rfl ntmps176 rfl ?_;refine rZ ?_;refine ag (Ry.to (v':=xc.blocks.sv.val) (oX rfl) rfl) (al ?_);refine cg (X:=Nat) (fun U=>[(13, .int .i64 (U:Nat)),(3, .int .i64 ((((jv xc.blocks.xs).take U).filter fun b=>b.bad).length:Nat)),(11,xc.blocks.sv.val),(12, .int .i64 (xc.blocks.xs.length:Nat))]) (fun U=>[]) (fun U=>U<=xc.blocks.xs.length) (fun U=>xc.blocks.xs.length -U) 0 (auo _) sb (fun w hw=>ah.mem hw) ?_;rintro i bg;refine al ?_;refine Gb ?_ ?_<;>intro h0
 ·
  obtain⟨B,hB⟩:=get_some (xs:=xc.blocks.xs) (i:=i) oM;have tT:Mb B xc.blocks:=⟨List.mem_of_getElem? hB⟩;have fE:=adK (nY hB);have hle:(((jv xc.blocks.xs).take i).filter fun b=>b.bad).length<=i:=awu (awi _ _) (by rw[at3];omega);refine Gc ?_;refine ag (bf rfl rfl i rfl oM) (ag (gV rfl i hB rfl) ?_);have af2:Mb B xc.blocks:=⟨List.mem_of_getElem? hB⟩;refine bn fun b5=>aP ?_;refine Gb ?_ ?_<;>intro h1
  ·rw[if_pos (show(bv B).bad=true from h1)]at fE;refine Gi ?_;refine aY ?_;refine Gi ?_;exact bo (x:=(i)) (i+1) oF oF (Sub.cons rfl (Sub.cons (look_eq rfl (by rw[fE];rfl)) sb)) (fun w hw=>ah.mem hw)
  rw[if_neg (show ¬(bv B).bad=true by rw[show(bv B).bad=B.bad from rfl,h1];simp)]at fE;refine al ?_;refine Gi ?_;exact bo (x:=(i)) (i+1) oF oF (Sub.cons rfl (Sub.cons (look_eq rfl (by rw[fE,avk])) sb)) (fun w hw=>ah.mem hw)
 obtain rfl:i=xc.blocks.xs.length:=by omega
 have hz:n7 (cv xc)=(((jv xc.blocks.xs).take xc.blocks.xs.length).filter fun b=>b.bad).length:=by rw[←dI];exact congrArg (fun l:List BV=>(l.filter fun b=>b.bad).length) (aup).symm
 refine ar ?_;refine Gr fun w1 hw=>?_;exact⟨congrArg (fun b=>Ending.returned (Value.int .i64 b)) (by rw[hz]),ah.mem hw⟩⟩
instance arM{xb:Nat}{xc:Cp}{xa:Sl Int}{xg:UInt64}{xl:Int}{xy:Bool}{b:Int}[et:nA w0 L xb (aS (⟨⟨xc,xa,xg,xl⟩,xy⟩:aT)) 261][eM:aX w0 L xc]:bV prog 219 w0 L [.pointer (some ⟨xb,0,none⟩), .int .i64 b] (.int .i64 (ez (cv xc) b)) (aW (cv xc)=true/\0<=b/\b<(cv xc).blocks.length):=⟨fun aC w hw=>by
 have et:=et.h w hw;have eM:=eM.h w hw;have wB:sB w xb (aS (⟨⟨xc,xa,xg,xl⟩,xy⟩:aT)) 261:=⟨et⟩;have wC:cQ w xc:=⟨eM⟩;obtain⟨hk,rF,vd⟩:=aC;have gQ:gk xc:=r9 hk;have dI:(cv xc).blocks.length=xc.blocks.xs.length:=iv _;obtain⟨B,hB⟩:=get_some (xs:=xc.blocks.xs) (i:=b.toNat) oM;have tT:Mb B xc.blocks:=⟨List.mem_of_getElem? hB⟩;have ft:=uN hB;have gR:=fy.1 ((eN.1 hk).2.2.2.2 (bv B) (atl (nY hB)));have je:=mK.1 (eN.1 hk).1;have rG:(ak (cv xc) b).used=B.used:=by rw[ft];rfl
 simp only[bv,cv]at gR je;refine dD func219 rfl ntmps219 rfl ?_;refine fS ?_;refine ag (Ry.to (v':=xc.blocks.sv.val) (oX rfl) rfl) (Gs ?_);refine ag (bf rfl rfl b.toNat oM oM) (ag (gV rfl b.toNat hB rfl) ?_);have HG:Mb B xc.blocks:=⟨List.mem_of_getElem? hB⟩;refine bn fun b5=>aP ?_;refine Gb ?_ ?_<;>intro h0
 ·refine al ?_;refine Gr fun w1 hw=>?_;exact Gf ((by rw[ez,ft,if_pos (show(bv B).bad=true from h0)])) hw
 refine Gc ?_;refine jI oK oK (aP ?_);refine bX (Ry.to (v':= .int .i64 xc.pages) (oX rfl) rfl) (aP ?_);refine Gr fun w1 hw=>?_;exact⟨congrArg (fun b=>Ending.returned (Value.int .i64 b)) ((by rw[ez,ft,if_neg (show ¬(bv B).bad=true by rw[show(bv B).bad=B.bad from rfl,h0];simp)];rfl)),ah.mem hw⟩⟩
instance arN{er:Int}:bV prog 311 w0 L [.int .i64 er] (.int .i64 (j9 er)) (True):=⟨fun aC w hw=>by
 refine cx func311 rfl ntmps311 rfl ?_;refine aY ?_;refine Gb ?_ ?_<;>intro h0
 ·refine al ?_;refine Gr fun w1 hw=>?_;exact Gf ((by rw[j9,if_pos h0])) hw
 refine ar ?_;refine Gr fun w1 hw=>?_;exact⟨congrArg (fun b=>Ending.returned (Value.int .i64 b)) ((by rw[j9,if_neg h0])),ah.mem hw⟩⟩
instance arO{xb:Nat}{xc:Cp}{xa:Sl Int}{xg:UInt64}{xl:Int}{xy:Bool}[et:nA w0 L xb (aS (⟨⟨xc,xa,xg,xl⟩,xy⟩:aT)) 261][eM:aX w0 L xc]:bV prog 306 w0 L [.pointer (some ⟨xb,0,none⟩)] (.bool (A2 xg.toNat)) (xg.toNat<281474976710656):=⟨fun aC w hw=>by
 have et:=et.h w hw;have eM:=eM.h w hw;have wB:sB w xb (aS (⟨⟨xc,xa,xg,xl⟩,xy⟩:aT)) 261:=⟨et⟩;have wC:cQ w xc:=⟨eM⟩;refine cx func306 rfl ntmps306 rfl ?_;refine cX ?_;refine ag (Ry.to (v':= .int .u64 (xg.toNat:Nat)) (oX rfl) rfl) (ag (Co (p:=xg.toNat) (q:=2) rfl rfl rfl rfl (by simp only[nb];omega)) (al ?_));refine Gr fun w1 hw=>?_;exact⟨congrArg (fun b=>Ending.returned (Value.bool b)) (by rw[A2];congr 1;simp only[eq_iff_iff];omega),ah.mem hw⟩⟩
instance arP{xb:Nat}{xc:Cp}{xa:Sl Int}{xg:UInt64}{xl:Int}{xy:Bool}{b:Int}[et:nA w0 L xb (aS (⟨⟨xc,xa,xg,xl⟩,xy⟩:aT)) 261][eM:aX w0 L xc]:bV prog 251 w0 L [.pointer (some ⟨xb,0,none⟩), .int .i64 b] (.int .u64 ((mi (cv xc) b):Nat)) (aW (cv xc)=true/\0<=b/\b<(cv xc).blocks.length):=⟨fun aC w hw=>by
 have et:=et.h w hw;have eM:=eM.h w hw;have wB:sB w xb (aS (⟨⟨xc,xa,xg,xl⟩,xy⟩:aT)) 261:=⟨et⟩;have wC:cQ w xc:=⟨eM⟩;obtain⟨hk,rF,vd⟩:=aC;have gQ:gk xc:=r9 hk;have dI:(cv xc).blocks.length=xc.blocks.xs.length:=iv _;obtain⟨B,hB⟩:=get_some (xs:=xc.blocks.xs) (i:=b.toNat) oM;have tT:Mb B xc.blocks:=⟨List.mem_of_getElem? hB⟩;have ft:=uN hB;have gR:=fy.1 ((eN.1 hk).2.2.2.2 (bv B) (atl (nY hB)));have je:=mK.1 (eN.1 hk).1;have rG:(ak (cv xc) b).used=B.used:=by rw[ft];rfl
 simp only[bv,cv]at gR je;have jl:=pJ B.pages.xs;have hgE:mi (cv xc) b=uO (aR B.pages.xs):=by rw[mi,ft];rfl
 refine dD func251 rfl ntmps251 rfl ?_;refine rZ ?_;refine ag (Ry.to (v':=xc.blocks.sv.val) (oX rfl) rfl) (Gs ?_);refine ag (bf rfl rfl b.toNat oM oM) (ag (aM rfl rfl) (ag (bW (j:=0) rfl b.toNat hB rfl dDq) (al ?_)));refine cg (X:=Nat) (fun U=>[(21, .int .i64 (U:Nat)),(5, .int .u64 ((uO ((aR B.pages.xs).take U)):Nat)),(19,B.pages.sv.val),(20, .int .i64 (B.pages.xs.length:Nat))]) (fun U=>[]) (fun U=>U<=B.pages.xs.length) (fun U=>B.pages.xs.length -U) 0 (auo _) sb (fun w hw=>ah.mem hw) ?_;rintro i bg;refine al ?_;refine Gb ?_ ?_<;>intro h0
 ·
  obtain⟨y,hy⟩:=get_some (xs:=B.pages.xs) (i:=i) oM;have Mx:Mb y B.pages:=⟨List.mem_of_getElem? hy⟩;have fE:=adJ (rl hy);have zG:=Ll ((aR B.pages.xs).take i);have tO:=SL y.xs;refine Gc ?_;refine ag (bf rfl rfl i rfl oM) (ag (bW (j:=0) rfl i hy rfl dDq) (al ?_));refine bb rfl trivial fun sG vc=>?_;have qO:sG.gen.toNat=(bH y.xs).1.gen:=congrArg RV.gen vc;refine Gs ?_;refine ag (aB (v:= .agg (fa sG)) rfl rfl) (ag (aB (v:= .int .i64 ((bH y.xs).2)) rfl rfl) (bn fun b8=>aY ?_));refine Gb ?_ ?_<;>intro h1
  ·
   have hr:lA y.xs=sG.gen.toNat:=by rw[lA,if_pos h1,←qO]
   refine Gi ?_;refine al ?_;refine ag (yN rfl rfl) (ar ?_);refine Gi ?_;exact bo (x:=(i)) (i+1) oF oF (Sub.cons rfl (Sub.cons (look_eq rfl (by rw[fE,hr];congr 1;omega)) sb)) (fun w hw=>ah.mem hw)
  have hr:lA y.xs=0:=by rw[lA,if_neg h1]
  refine al ?_;refine Gi ?_;exact bo (x:=(i)) (i+1) oF oF (Sub.cons rfl (Sub.cons (look_eq rfl (by rw[fE,hr];congr 1;omega)) sb)) (fun w hw=>ah.mem hw)
 obtain rfl:i=B.pages.xs.length:=by omega
 have hz:uO (aR B.pages.xs)=(uO ((aR B.pages.xs).take B.pages.xs.length)):=by rw[←jl,aup]
 refine ar ?_;refine Gr fun w1 hw=>?_;exact⟨by rw[hgE,hz],ah.mem hw⟩⟩
instance arQ{xb:Nat}{xc:Cp}{xa:Sl Int}{xg:UInt64}{xl:Int}{xy:Bool}{b:Int}[et:nA w0 L xb (aS (⟨⟨xc,xa,xg,xl⟩,xy⟩:aT)) 261][eM:aX w0 L xc]:bV prog 215 w0 L [.pointer (some ⟨xb,0,none⟩), .int .i64 b] (.bool (Dn (cv xc) b)) (aW (cv xc)=true/\0<=b/\b<(cv xc).blocks.length):=⟨fun aC w hw=>by
 have et:=et.h w hw;have eM:=eM.h w hw;have wB:sB w xb (aS (⟨⟨xc,xa,xg,xl⟩,xy⟩:aT)) 261:=⟨et⟩;have wC:cQ w xc:=⟨eM⟩;have af3:=aC;obtain⟨hk,rF,vd⟩:=aC;have gQ:gk xc:=r9 hk;have dI:(cv xc).blocks.length=xc.blocks.xs.length:=iv _;obtain⟨B,hB⟩:=get_some (xs:=xc.blocks.xs) (i:=b.toNat) oM;have tT:Mb B xc.blocks:=⟨List.mem_of_getElem? hB⟩;have ft:=uN hB;have gR:=fy.1 ((eN.1 hk).2.2.2.2 (bv B) (atl (nY hB)));have je:=mK.1 (eN.1 hk).1;have rG:(ak (cv xc) b).used=B.used:=by rw[ft];rfl
 simp only[bv,cv]at gR je;refine dD func215 rfl ntmps215 rfl ?_;refine fS ?_;refine ag (Ry.to (v':=xc.blocks.sv.val) (oX rfl) rfl) (Gs ?_);refine ag (bf rfl rfl b.toNat oM oM) (ag (gV rfl b.toNat hB rfl) ?_);have HG:Mb B xc.blocks:=⟨List.mem_of_getElem? hB⟩;refine bn fun b5=>iS ?_;refine jo rfl rfl rfl (fun hg=>(Ry.yl (bm (aG hg rfl)))) (vF rfl rfl rfl (fun hg=>(Ry.yl (bm rfl))) (vF rfl rfl rfl (fun hg=>(Ry.yl (eR (aG hg rfl) rfl rfl))) (vF rfl rfl rfl (fun hg=>(Ry.yl (bm (aG hg rfl)))) (po rfl rfl rfl (fun hg=>(Ry.yl (bm rfl))) (po rfl rfl rfl (fun hg=>(Ry.yl (bm rfl))) (po rfl rfl rfl (fun hg=>bK (fG (aG hg rfl) (fG (aG hg rfl) jG)) af3) (po rfl rfl rfl (fun hg=>(Ry.yl (eR (aG hg rfl) rfl rfl))) (vF rfl rfl rfl (fun hg=>(Ry.yl (z8 (aG hg rfl) (yP hg rfl) rfl))) (jo rfl rfl rfl (fun hg=>(Ry.yl (Aa (aG hg rfl) rfl (yP hg rfl)))) (al ?_))))))))));refine Gr fun w1 hw=>?_;exact⟨congrArg (fun b=>Ending.returned (Value.bool b)) ((by
  have e:decide ((0:Int)<((mi (cv xc) b:Nat):Int))=decide (0<mi (cv xc) b):=decide_eq_decide.2 oM;rw[Dn,ft,e];rfl)),ah.mem hw⟩⟩
instance arR{xb:Nat}{xc:Cp}{xa:Sl Int}{xg:UInt64}{xl:Int}{xy:Bool}{b:Int}[et:nA w0 L xb (aS (⟨⟨xc,xa,xg,xl⟩,xy⟩:aT)) 261][eM:aX w0 L xc]:bV prog 217 w0 L [.pointer (some ⟨xb,0,none⟩), .int .i64 b] (.int .u64 ((gY (cv xc) b):Nat)) (aW (cv xc)=true/\2<=(cv xc).blocks.length/\(b=0\/b=1)):=⟨fun aC w hw=>by
 have et:=et.h w hw;have eM:=eM.h w hw;have wB:sB w xb (aS (⟨⟨xc,xa,xg,xl⟩,xy⟩:aT)) 261:=⟨et⟩;have wC:cQ w xc:=⟨eM⟩;obtain⟨hk,ri,UY⟩:=aC;have zG:=Ll (ak (cv xc) (1 -b)).pages;change mi (cv xc) (1 -b)<_ at zG;refine dD func217 rfl ntmps217 rfl ?_;refine iS ?_;refine cO (bK rfl ⟨hk,oM,oM⟩) (Gs ?_);refine ag (Ry.to (v':= .int .u64 (((1 -b).toNat:Nat):Int)) (Jn rfl oM (by simp only[nb];omega)) (by congr 1;omega)) (ag (Co (p:=(mi (cv xc) (1 -b))) (q:=((1 -b).toNat)) rfl rfl rfl rfl (by simp only[nb];omega)) (ag (yN rfl rfl) (au ?_)));refine Gr fun w1 hw=>?_;exact⟨by rw[gY];congr 2;omega,ah.mem hw⟩⟩
instance arS{xb:Nat}{xc:Cp}{xa:Sl Int}{xg:UInt64}{xl:Int}{xy:Bool}[et:nA w0 L xb (aS (⟨⟨xc,xa,xg,xl⟩,xy⟩:aT)) 261][eM:aX w0 L xc]:bV prog 261 w0 L [.pointer (some ⟨xb,0,none⟩)] (.int .i64 (wc (cv xc) xl)) (aW (cv xc)=true/\2<=(cv xc).blocks.length/\(xl=0\/xl=1)):=⟨fun aC w hw=>by
 have et:=et.h w hw;have eM:=eM.h w hw;have wB:sB w xb (aS (⟨⟨xc,xa,xg,xl⟩,xy⟩:aT)) 261:=⟨et⟩;have wC:cQ w xc:=⟨eM⟩;obtain⟨hk,ri,UY⟩:=aC;have gQ:gk xc:=r9 hk;have dI:(cv xc).blocks.length=xc.blocks.xs.length:=iv _;obtain⟨Bo,gR⟩:=get_some (xs:=xc.blocks.xs) (i:=(1 -xl).toNat) oM;obtain⟨Bl,o8⟩:=get_some (xs:=xc.blocks.xs) (i:=xl.toNat) oM;have BA:=uN gR;have UZ:=uN o8;refine cx func261 rfl ntmps261 rfl ?_;refine al ?_;refine jI oK oK (ar ?_);refine bX (Ry.to (v':= .int .i64 xl) (oX rfl) rfl) (ar ?_);refine bX (Ry.to (v':= .int .i64 xl) (oX rfl) rfl) (iS ?_);refine ag (Ry.to (v':=xc.blocks.sv.val) (oX rfl) rfl) (Gs ?_);refine ag (bf rfl rfl ((1 -xl).toNat) oM oM) (ag (aM rfl rfl) (ag (bW (j:=3) rfl ((1 -xl).toNat) gR rfl dDq) (au ?_)));refine Gb ?_ ?_<;>intro h0
 ·refine al ?_;refine cO (bK rfl ⟨hk,oM,oM⟩) (au ?_);refine Gr fun w1 hw=>?_;exact Gf ((by rw[wc,BA,if_pos (show(bv Bo).bad=true from h0)])) hw
 refine aY ?_;refine ag (Ry.to (v':=xc.blocks.sv.val) (oX rfl) rfl) (Gs ?_);refine ag (bf rfl rfl xl.toNat oM oM) (ag (aM rfl rfl) (ag (bW (j:=3) rfl xl.toNat o8 rfl dDq) (al ?_)));refine jo rfl rfl rfl (fun hg=>bK (fG (aG hg rfl) (fG (aG hg rfl) jG)) ⟨hk,oM,oM⟩) (ar ?_);refine Gb ?_ ?_<;>intro h1
 ·refine al ?_;refine cO (bK rfl ⟨hk,oM,oM⟩) (au ?_);refine Gr fun w1 hw=>?_;exact Gf ((by rw[wc,BA,UZ,if_neg (show ¬(bv Bo).bad=true by rw[show(bv Bo).bad=Bo.bad from rfl,h0];simp),if_pos ⟨h1.1,h1.2⟩])) hw
 refine aY ?_;refine ag (Ry.to (v':= .int .i64 xc.pages) (oX rfl) rfl) (au ?_);refine Gr fun w1 hw=>?_;exact⟨congrArg (fun b=>Ending.returned (Value.int .i64 b)) ((by
  rw[wc,BA,UZ,if_neg (show ¬(bv Bo).bad=true by rw[show(bv Bo).bad=Bo.bad from rfl,h0];simp),if_neg]
  ·rfl
  rintro⟨g1,g2⟩;rcases h1 with h|h
  ·exact absurd (h.symm.trans g1) (by simp)
  omega)),ah.mem hw⟩⟩
instance arT{c:Cp}{b:Int}{g:Int}{x:Sv}{xs:List UInt8}[hc:aX w0 L c][hx:dG w0 L aQ 1 x xs]:bY prog 256 w0 L [.agg (aV c), .int .i64 b, .int .i64 g,x.val] (Cp) (fun U=> .tuple #[.agg (aV U), .int .i64 (kA (cv c) b g xs)]) (fun U=>fz U::L) (fun U=>cv U=gN (cv c) b g xs) (gk c):=⟨fun aC w hw=>Gk (fun U=>[fz U]) hw (by
 have hc:=hc.h w hw;have hx:=hx.h w hw;have lN:cQ w c:=⟨hc⟩;have yi:Gv w x aQ 1 xs:=⟨hx⟩;have gQ:gk c:=aC;obtain⟨mq,jM,qL⟩:=aC;have pS:cT=1099511627776:=rfl;refine QM func256 rfl ntmps256 rfl ?_;refine Gc ?_;refine cn rfl fun b4=>bn fun b8=>al ?_;refine bb rfl (by assumption) fun cz ve=>bn fun tV=>QK ?_;refine Gb ?_ ?_<;>intro h0
 ·
  have hz: ¬oO (cv c) b g xs=true:=fun hk=>by
   obtain⟨k1,k2,k3,k4,k5⟩:=j7.1 hk;rw[k1]at h0;simp only[cv]at k3 k4 k5;simp only[avK,false_or]at h0;omega
  refine aP ?_;refine Gr fun w1 hw=>?_;exact⟨cz,by rw[kA,if_neg hz],by rw[ve,gN,if_neg (fun h=>hz h.1)],pN cz (ah.mem hw)⟩
 have hk:oO (cv c) b g xs=true:=by
  cases k1:iw (cv c) b with
  |false=>rw[k1]at h0;simp at h0
  |true=>
   rw[k1]at h0;simp only[avK,false_or]at h0;exact j7.2 ⟨k1,oM,by simp only[cv];omega,by simp only[cv];omega,by simp only[cv];omega⟩
 have hh:=(j7.1 hk).1;have HF:=(iz.1 hh).2;have dI:cz.blocks.xs.length=c.blocks.xs.length:=by have:=congrArg (fun v:CV=>v.blocks.length) ve;simpa only[cv,iv]using this
 have Bt:cz.ops=c.ops:=congrArg CV.ops ve;have pX:(cv c).blocks.length=c.blocks.xs.length:=iv _;obtain⟨B,hB⟩:=get_some (xs:=cz.blocks.xs) (i:=b.toNat) oM;have o8:b.toNat<cz.blocks.xs.length:=(zz.1 hB).1;have ft:bv B=ak (cv c) b:=by
  have h1:=GO hh;have h2:=nY hB;rw[show jv cz.blocks.xs=(cv c).blocks from congrArg CV.blocks ve,h1]at h2;exact(at1 h2).symm
 have gR:rn c.pages c.size (bv B)=true:=by rw[ft];exact rp hh
 obtain⟨o1,o2,o3,o4,o5,o6⟩:=fy.1 gR;have je:=mK.1 (eN.1 (iz.1 hh).1).1;have DO:=(eN.1 (iz.1 hh).1).2.1;simp only[bv,cv]at o1 o2 o3 o4 o5 o6 je DO;have UA:=pJ B.pages.xs;obtain⟨_,k2,k3,k4,k5⟩:=j7.1 hk;simp only[cv]at k3 k4 k5;refine ar ?_;refine Gb ?_ ?_<;>intro h1
 ·refine aP ?_;refine Gr fun w1 hw=>?_;exact⟨cz,by rw[kA,if_pos hk,if_pos (show(cv c).off=true from h1)],by rw[ve,gN,if_neg (fun h=>absurd (h1.symm.trans h.2.1) (by simp))],pN cz (ah.mem hw)⟩
 have lO:(cv c).off=false:=h1;refine ar ?_;refine ag (bf rfl rfl b.toNat oM o8) (ar ?_);refine ag (aM rfl rfl) (ag (bW (j:=3) rfl b.toNat hB rfl dDq) (al ?_));refine bU rfl rfl rfl (fun hg=>(Ry.yl (gE (aG hg rfl)))) (bU rfl rfl rfl (fun hg=>(Ry.yl (aM (aG hg rfl) rfl))) (bU rfl rfl rfl (fun hg=>(Ry.yl (bW (j:=1) (aG hg rfl) b.toNat hB rfl dDq))) (al ?_)));refine Gb ?_ ?_<;>intro h2
 ·
  have fD:(ak (cv c) b).bad=true\/g≠(ak (cv c) b).used:=by rw[←ft];exact h2
  refine aP ?_;refine Gr fun w1 hw=>?_;exact⟨cz,by rw[kA,if_pos hk,if_neg (by rw[lO];simp),if_pos fD],by rw[ve,gN,if_neg (fun h=>fD.elim (fun g1=>absurd (g1.symm.trans h.2.2.1) (by simp)) (fun g1=>g1 h.2.2.2))],pN cz (ah.mem hw)⟩
 have fD: ¬((ak (cv c) b).bad=true\/g≠(ak (cv c) b).used):=by
  rw[←ft];rintro(h|h)
  ·exact absurd (h2.1.symm.trans h) (by simp)
  exact h h2.2
 have hgu:g=B.used:=h2.2;obtain⟨q,hq⟩:=get_some (xs:=(aR B.pages.xs)) (i:=g.toNat) oM;have yD:=o6 q (atl hq);have bN:B.pages.xs≠[]:=fun e=>by
  have h9:(aR B.pages.xs).length=0:=by rw[e];rfl
  omega
 have vb:(cz.blocks.xs.set b.toNat ({B with used:=B.used+1}:Bk))[b.toNat]? =Option.some ({B with used:=B.used+1}:Bk):=auk o8
 have gn:gN (cv c) b g xs=iU (cv c) b g xs:=by
  rw[gN,if_pos ⟨hk,lO,by cases hb:(ak (cv c) b).bad with|false=>rfl|true=>exact absurd (.inl hb) fD,Decidable.not_not.1 fun h=>fD (.inr h)⟩]
 refine j6 ?_;refine R6 (pr:=fun rm:Sv=>rm.nil=false/\rm.sp=none/\B.pages.xs=dJ rm 0 (aR B.pages.xs)) (fun rm:Sv=>[own (cw (τ:=UInt8)) 1 B.pages.sv B.pages.xs,own aQ 1 rm (aR B.pages.xs).flatten,own cq 4 cz.blocks.sv cz.blocks.xs,ai.all ((cz.blocks.xs.eraseIdx b.toNat).map fun b:Bk=>fK b.pages),own cH 4 cz.aA.sv cz.aA.xs,aq tV (aV cz) 59,aq b8 (aV ib) 59,aq b4 (aV c) 59]) (fun w hw=>RM hB bN (ah.mem hw)) fun rm DT=>?_;obtain⟨hn,hs,BB⟩:=DT;have BC:B.pages.xs[g.toNat]? =Option.some ⟨(win rm ((aR B.pages.xs).take g.toNat).flatten.length (((aR B.pages.xs).take g.toNat).flatten.length+q.length)),q⟩:=by rw[BB,xv,GS hq,auL]
 have BD: ∀r:List UInt8,r.length=q.length->B.pages.xs.map (fun x=>x.sv)=(dJ rm 0 ((aR B.pages.xs).set g.toNat r)).map (fun x=>x.sv):=fun r hr=>(congrArg (List.map fun x:Sl UInt8=>x.sv) BB).trans (ac2 hq hr);refine Gi ?_;refine Gs ?_;refine cO (bK rfl oM) (Gs ?_);refine ag (aB (v:= .agg (cH ((bt (cv c)).1))) rfl rfl) (ag (aB (v:= .bool ((bt (cv c)).2)) rfl rfl) (bn fun wy=>cX ?_));refine dO (cs':=aV (⟨cz.pages,cz.size,cz.blocks,(cz.ops+1),cz.off,cz.aA⟩:Cp)) rfl rfl (by show 3<6;decide) (by first|rfl|exact Sv.one _) rfl (al ?_);refine ag (aM rfl rfl) (ag (bW (j:=1) rfl b.toNat hB rfl dDq) (au ?_));refine ag (aM rfl rfl) (mC (s:=cz.blocks.sv) (n:=1) (k:=b.toNat) (j:=1) (a:=B) (a':=({B with used:=B.used+1}:Bk)) (xs:=cz.blocks.xs) (enc:=cq) (c:=4) (v:= .int .i64 (B.used+1)) oK rfl rfl rfl hB (by simp[Value.cells,Value.oneCell']) (by rfl) dDq (by rfl) (al ?_))
 refine ag (aM rfl rfl) (ag (Ry.to (v':=B.pages.sv.val) (bW (j:=0) rfl b.toNat vb rfl dDq) rfl) (Gs ?_));refine ag (bf rfl rfl g.toNat oM oM) (ag (Ry.to (v':=(win rm ((aR B.pages.xs).take g.toNat).flatten.length (((aR B.pages.xs).take g.toNat).flatten.length+q.length)).val) (bW (j:=0) rfl g.toNat BC rfl dDq) rfl) (Gs ?_));refine acP (D:=(win rm ((aR B.pages.xs).take g.toNat).flatten.length (((aR B.pages.xs).take g.toNat).flatten.length+q.length))) (S:=x) (rm:=rm) (k:=((aR B.pages.xs).take g.toNat).flatten.length) (xs:=(aR B.pages.xs).flatten) (ys:=xs) rfl hn hs rfl (by rw[AS oM];omega) rfl dDq hn oM (by simp only[win];omega) (by have:=Db hq;have:=Dc (aR B.pages.xs) (g.toNat+1);omega) (ar ?_);refine Gb ?_ ?_<;>intro h3
 ·
  have nw:pL (cv c) xs=xs:=by rw[pL,if_neg (by rw[h3];simp)]
  refine aP ?_;refine Gr fun w1 hw=>?_;exact⟨(⟨cz.pages,cz.size,⟨cz.blocks.sv,cz.blocks.xs.set b.toNat ⟨⟨B.pages.sv,dJ rm 0 ((aR B.pages.xs).set g.toNat xs)⟩,B.used+1,B.aU,B.bad⟩⟩,cz.ops+1,cz.off,cz.aA⟩:Cp),by rw[kA,if_pos hk,if_neg (by rw[lO];simp),if_neg fD,if_neg (by rw[h3];simp)];rfl,by rw[RR ve ft,gn,iU,nw,h3,awt,show cz.off=(cv c).off from congrArg CV.off ve,lO],(by
   rw[←GR hq oM]at hw;exact pN (⟨cz.pages,cz.size,⟨cz.blocks.sv,cz.blocks.xs.set b.toNat ⟨⟨B.pages.sv,dJ rm 0 ((aR B.pages.xs).set g.toNat xs)⟩,B.used+1,B.aU,B.bad⟩⟩,cz.ops+1,cz.off,cz.aA⟩:Cp) (GU (rm:=rm) (l:=(aR B.pages.xs).set g.toNat xs) (B:=({B with used:=B.used+1}:Bk)) (B':=⟨⟨B.pages.sv,dJ rm 0 ((aR B.pages.xs).set g.toNat xs)⟩,B.used+1,B.aU,B.bad⟩) (sp:=B.pages.sv) (ps:=B.pages.xs) o8 (BD _ oM) hn rfl rfl (ah.mem hw)))⟩
 have nw:pL (cv c) xs=dn (~~~(bt (cv c)).1.mask) xs:=by rw[pL,if_pos h3]
 have oW:dn (~~~(bt (cv c)).1.mask) (xs.take 0)++xs.drop 0=xs:=by simp[dn]
 refine aP ?_;refine cg (X:=Nat) (fun U=>[(96, .int .i64 (U:Nat)),(2, .int .i64 g),(8, .pointer (some ⟨b8,0,none⟩)),(10, .pointer (some ⟨tV,0,none⟩)),(11, .pointer (some ⟨cz.blocks.sv.b,cz.blocks.sv.o+b.toNat*4,none⟩)),(12, .pointer (some ⟨wy,0,none⟩)),(95, .int .i64 c.size)]) (fun U=>[aq wy (cH (bt (cv c)).1) 97,own (cw (τ:=UInt8)) 1 B.pages.sv B.pages.xs,own aQ 1 rm ((aR B.pages.xs).set g.toNat (dn (~~~(bt (cv c)).1.mask) (xs.take U)++xs.drop U)).flatten,own cq 4 cz.blocks.sv (cz.blocks.xs.set b.toNat ({B with used:=B.used+1}:Bk)),ai.all ((cz.blocks.xs.eraseIdx b.toNat).map fun b:Bk=>fK b.pages),own cH 4 cz.aA.sv cz.aA.xs,aq tV (aV (⟨cz.pages,cz.size,cz.blocks,(cz.ops+1),cz.off,cz.aA⟩:Cp)) 59,aq b8 (aV ib) 59,aq b4 (aV c) 59]) (fun U=>U<=xs.length) (fun U=>xs.length -U) 0 (auo _) sb (fun w hw=>by
  rw[oW,GR hq oM];exact ah.mem hw) ?_
 rintro i bg;refine al ?_;refine Gb ?_ ?_<;>intro h4
 ·
  have tO:(dn (~~~(bt (cv c)).1.mask) (xs.take i)++xs.drop i).length=xs.length:=K0 oM;obtain⟨z,hz⟩:=get_some (xs:=xs) (i:=i) oM;have wx:((aR B.pages.xs).set g.toNat (dn (~~~(bt (cv c)).1.mask) (xs.take i)++xs.drop i)).flatten[((aR B.pages.xs).take g.toNat).flatten.length+i]? =Option.some z:=by
   have h9:=AR (l:=(aR B.pages.xs).set g.toNat (dn (~~~(bt (cv c)).1.mask) (xs.take i)++xs.drop i)) (i:=g.toNat) (j:=i) (auk oM) oM;rw[KZ]at h9;rw[h9,RS oM,hz]
  refine ar ?_;refine jt [15,1009] [[],[],[],[],[],[],[],[],[],[],[],[],[],[9],[9],[9]] [0,1,2,3,4,5,6,7,8,9,10,11,12,13,14,15] [own (cw (τ:=UInt8)) 1 B.pages.sv B.pages.xs,own cq 4 cz.blocks.sv (cz.blocks.xs.set b.toNat ({B with used:=B.used+1}:Bk)),aq wy (cH (bt (cv c)).1) 97] (fun _ hw=>ah.mem hw) oK oK (an rfl (bm rfl) (an rfl (gE rfl) (an rfl (aM rfl rfl) (an rfl (Ry.to (v':=B.pages.sv.val) (bW (j:=0) rfl b.toNat vb rfl dDq) rfl) (an rfl (bm rfl) (an rfl (bf rfl rfl g.toNat oM oM) (an rfl (Ry.to (v':=(win rm ((aR B.pages.xs).take g.toNat).flatten.length (((aR B.pages.xs).take g.toNat).flatten.length+q.length)).val) (bW (j:=0) rfl g.toNat BC rfl dDq) rfl) (an rfl (bm rfl) ?_))))))))
  obtain⟨af4,af5⟩:=get_some (xs:=q) (i:=i) oM;refine an rfl (pq (s:=(win rm ((aR B.pages.xs).take g.toNat).flatten.length (((aR B.pages.xs).take g.toNat).flatten.length+q.length))) (i:=i) rfl rfl rfl (GV hn hs oM) (by simp only[win];omega)) (gq rfl (bW (s:=rm) (enc:=aQ) (c:=1) (xs:=((aR B.pages.xs).set g.toNat (dn (~~~(bt (cv c)).1.mask) (xs.take i)++xs.drop i)).flatten) (a:=z) (j:=0) (v:= .int .u8 z.toNat) rfl (((aR B.pages.xs).take g.toNat).flatten.length+i) wx (by rw[AS oM];omega) dDq) (an rfl (aM (o':=3) rfl rfl) (an rfl (bE rfl) (an rfl (acV rfl) (an rfl (RN rfl rfl) ?_)))));obtain⟨arU,arV⟩:=get_some (xs:=q) (i:=i) oM;refine an rfl (pq (s:=(win rm ((aR B.pages.xs).take g.toNat).flatten.length (((aR B.pages.xs).take g.toNat).flatten.length+q.length))) (i:=i) rfl rfl rfl (GV hn hs oM) (by simp only[win];omega)) ?_;refine dr rfl (zd (s:=rm) (n:=1) (k:=((aR B.pages.xs).take g.toNat).flatten.length+i) (j:=0) (a:=z) (a':=z|||(~~~(bt (cv c)).1.mask)) (xs:=((aR B.pages.xs).set g.toNat (dn (~~~(bt (cv c)).1.mask) (xs.take i)++xs.drop i)).flatten) (enc:=aQ) (c:=1) (v:= .int .u8 (z|||(~~~(bt (cv c)).1.mask)).toNat) oK rfl rfl (by rw[AS oM];omega) wx (by simp[Value.cells,Value.oneCell']) rfl oM (by rfl) ⟨fun _ hw=>ah.mem hw,?_⟩);refine al ?_;refine Gi ?_;exact bo (x:=(i)) (i+1) oF oF sb (fun w hw=>by
   rw[RT hq hz];exact ah.mem hw)
 obtain rfl:i=xs.length:=by omega
 have Bf:dn (~~~(bt (cv c)).1.mask) (xs.take xs.length)++xs.drop xs.length=dn (~~~(bt (cv c)).1.mask) xs:=by rw[aup,awf,auT]
 refine ar ?_;refine ag (aB (v:= .bool (((bt (cv c)).1).cut)) rfl rfl) (ag (aB (v:= .int .i64 (mc ((bt (cv c)).1))) rfl rfl) (aP ?_));refine dO (cs':=aV (⟨cz.pages,cz.size,cz.blocks,(cz.ops+1),((bt (cv c)).1).cut,cz.aA⟩:Cp)) rfl rfl (by show 4<6;decide) (by first|rfl|exact Sv.one _) rfl (aY ?_);refine Gr fun w1 hw=>?_;exact⟨(⟨cz.pages,cz.size,⟨cz.blocks.sv,cz.blocks.xs.set b.toNat ⟨⟨B.pages.sv,dJ rm 0 ((aR B.pages.xs).set g.toNat (dn (~~~(bt (cv c)).1.mask) xs))⟩,B.used+1,B.aU,B.bad⟩⟩,cz.ops+1,(bt (cv c)).1.cut,cz.aA⟩:Cp),by rw[kA,if_pos hk,if_neg (by rw[lO];simp),if_neg fD,if_pos h3];rfl,by rw[RR ve ft,gn,iU,nw,h3,au2],(by
  rw[Bf]at hw;have hhl:(dn (~~~(bt (cv c)).1.mask) xs).length=xs.length:=by rw[dn,aur]
  exact pN (⟨cz.pages,cz.size,⟨cz.blocks.sv,cz.blocks.xs.set b.toNat ⟨⟨B.pages.sv,dJ rm 0 ((aR B.pages.xs).set g.toNat (dn (~~~(bt (cv c)).1.mask) xs))⟩,B.used+1,B.aU,B.bad⟩⟩,cz.ops+1,(bt (cv c)).1.cut,cz.aA⟩:Cp) (GU (rm:=rm) (l:=(aR B.pages.xs).set g.toNat (dn (~~~(bt (cv c)).1.mask) xs)) (B:=({B with used:=B.used+1}:Bk)) (B':=⟨⟨B.pages.sv,dJ rm 0 ((aR B.pages.xs).set g.toNat (dn (~~~(bt (cv c)).1.mask) xs))⟩,B.used+1,B.aU,B.bad⟩) (sp:=B.pages.sv) (ps:=B.pages.xs) o8 (BD _ oM) hn rfl rfl (ah.mem hw)))⟩)⟩
instance arW{c:Cp}{b:Int}[hc:aX w0 L c]:bY prog 252 w0 L [.agg (aV c), .int .i64 b] (Cp) (fun U=> .tuple #[.agg (aV U), .int .i64 (ei (cv c) b)]) (fun U=>fz U::L) (fun U=>cv U=gv (cv c) b) (gk c):=⟨fun aC w hw=>Gk (fun U=>[fz U]) hw (by
 have hc:=hc.h w hw;have lN:cQ w c:=⟨hc⟩;have gQ:gk c:=aC;obtain⟨mq,jM,qL⟩:=aC;have pS:cT=1099511627776:=rfl;have oh:=zk (c:=c) (b:=b);have hwe:(c.blocks.xs.getD b.toNat rk).aU=(ak (cv c) b).aU:=congrArg BV.aU oh;refine dD func252 rfl ntmps252 rfl ?_;refine Gc ?_;refine cn rfl fun b2=>bn fun b4=>al ?_;refine bb rfl (by assumption) fun aE lL=>bn fun b6=>QH ?_;refine bU rfl rfl rfl (fun hg=>(Ry.yl (bf (aG hg rfl) (aG hg rfl) b.toNat (by simp only[Z0,Z1,Z2,Z3,Z4,Z5,Z6,Z7,Z8,Z9]at hg;have:=(K2 hg.1).1;omega) (by simp only[Z0,Z1,Z2,Z3,Z4,Z5,Z6,Z7,Z8,Z9]at hg;exact(K2 hg.1).2)))) (bU rfl rfl rfl (fun hg=>(Ry.yl (aM (aG hg rfl) rfl))) (bU rfl rfl rfl (fun hg=>(Ry.yl (bW (j:=2) (aG hg rfl) b.toNat (pz (xs:=c.blocks.xs) (i:=b.toNat) (d:=rk) (by simp only[Z0,Z1,Z2,Z3,Z4,Z5,Z6,Z7,Z8,Z9]at hg;exact(K2 hg.1).2)) rfl dDq))) (al ?_)));refine Gb ?_ ?_<;>intro h0
 ·
  have hz: ¬pM (cv c) b=true:=fun hk=>by
   obtain⟨k1,k2,k3⟩:=qz.1 hk;rw[k1]at h0;simp only[cv]at k2;simp only[avK,false_or]at h0;omega
  refine aP ?_;refine Gr fun w1 hw=>?_;exact⟨aE,by rw[ei,if_neg hz],by rw[lL,gv,if_neg (fun h=>hz h.1)],pN aE (ah.mem hw)⟩
 have hk:pM (cv c) b=true:=by
  cases k1:iw (cv c) b with
  |false=>rw[k1]at h0;simp at h0
  |true=>
   rw[k1]at h0;simp only[avK,false_or]at h0;exact qz.2 ⟨k1,by simp only[cv];omega,oM⟩
 have hh:=(qz.1 hk).1;have HF:=(iz.1 hh).2;have dI:aE.blocks.xs.length=c.blocks.xs.length:=by have:=congrArg (fun v:CV=>v.blocks.length) lL;simpa only[cv,iv]using this
 have Bt:aE.ops=c.ops:=congrArg CV.ops lL;have pX:(cv c).blocks.length=c.blocks.xs.length:=iv _;obtain⟨B,hB⟩:=get_some (xs:=aE.blocks.xs) (i:=b.toNat) oM;have o8:b.toNat<aE.blocks.xs.length:=(zz.1 hB).1;have ft:bv B=ak (cv c) b:=by
  have h1:=GO hh;have h2:=nY hB;rw[show jv aE.blocks.xs=(cv c).blocks from congrArg CV.blocks lL,h1]at h2;exact(at1 h2).symm
 have gR:rn c.pages c.size (bv B)=true:=by rw[ft];exact rp hh
 obtain⟨o1,o2,o3,o4,o5,o6⟩:=fy.1 gR;have je:=mK.1 (eN.1 (iz.1 hh).1).1;have DO:=(eN.1 (iz.1 hh).1).2.1;simp only[bv,cv]at o1 o2 o3 o4 o5 o6 je DO;have UA:=pJ B.pages.xs;obtain⟨_,k2,k3⟩:=qz.1 hk;rw[←ft]at k3;simp only[cv,bv]at k2 k3;refine ar ?_;refine Gb ?_ ?_<;>intro h1
 ·refine aP ?_;refine Gr fun w1 hw=>?_;exact⟨aE,by rw[ei,if_pos hk,if_pos (show(cv c).off=true from h1)],by rw[lL,gv,if_neg (fun h=>absurd (h1.symm.trans h.2.1) (by simp))],pN aE (ah.mem hw)⟩
 have lO:(cv c).off=false:=h1;refine ar ?_;refine ag (bf rfl rfl b.toNat oM o8) (ar ?_);refine ag (aM rfl rfl) (ag (bW (j:=3) rfl b.toNat hB rfl dDq) (Gc ?_));refine Gb ?_ ?_<;>intro h2
 ·
  have fD:(ak (cv c) b).bad=true:=by rw[←ft];exact h2
  refine aP ?_;refine Gr fun w1 hw=>?_;exact⟨aE,by rw[ei,if_pos hk,if_neg (by rw[lO];simp),if_pos fD],by rw[lL,gv,if_neg (fun h=>absurd (fD.symm.trans h.2.2) (by simp))],pN aE (ah.mem hw)⟩
 have fD:(ak (cv c) b).bad=false:=by rw[←ft];exact h2
 have bN:B.pages.xs≠[]:=fun e=>by
  have h9:(aR B.pages.xs).length=0:=by rw[e];rfl
  omega
 have vb:(aE.blocks.xs.set b.toNat ({B with aU:=B.aU+1}:Bk))[b.toNat]? =Option.some ({B with aU:=B.aU+1}:Bk):=auk o8
 have gn:gv (cv c) b=ly (cv c) b:=by
  rw[gv,if_pos ⟨hk,lO,fD⟩]
 have CU: ∀x∈(aR B.pages.xs),((fun _:List UInt8=>iA c.size) x).length=x.length:=fun x hx=>by have:=o6 x hx;simp only[iA,auQ];omega
 have ML: ∀x∈(aR B.pages.xs),((dn (bt (cv c)).1.mask) x).length=x.length:=fun x _=>by rw[dn,aur]
 refine j6 ?_;refine R6 (pr:=fun rm:Sv=>rm.nil=false/\rm.sp=none/\B.pages.xs=dJ rm 0 (aR B.pages.xs)) (fun rm:Sv=>[own (cw (τ:=UInt8)) 1 B.pages.sv B.pages.xs,own aQ 1 rm (aR B.pages.xs).flatten,own cq 4 aE.blocks.sv aE.blocks.xs,ai.all ((aE.blocks.xs.eraseIdx b.toNat).map fun b:Bk=>fK b.pages),own cH 4 aE.aA.sv aE.aA.xs,aq b6 (aV aE) 59,aq b4 (aV ib) 59,aq b2 (aV c) 59]) (fun w hw=>RM hB bN (ah.mem hw)) fun rm DT=>?_;obtain⟨hn,hs,BB⟩:=DT;have U0: ∀f:List UInt8->List UInt8,(∀x∈(aR B.pages.xs),(f x).length=x.length)->B.pages.xs.map (fun x=>x.sv)=(dJ rm 0 ((aR B.pages.xs).map f)).map (fun x=>x.sv):=fun f hf=>(congrArg (List.map fun x:Sl UInt8=>x.sv) BB).trans (ac5 hf);refine Gi ?_;refine Gs ?_;refine cO (bK rfl oM) (Gs ?_);refine ag (aB (v:= .agg (cH ((bt (cv c)).1))) rfl rfl) (ag (aB (v:= .bool ((bt (cv c)).2)) rfl rfl) (bn fun b8=>cX ?_));refine dO (cs':=aV (⟨aE.pages,aE.size,aE.blocks,(aE.ops+1),aE.off,aE.aA⟩:Cp)) rfl rfl (by show 3<6;decide) (by first|rfl|exact Sv.one _) rfl (al ?_);refine ag (aM rfl rfl) (ag (bW (j:=2) rfl b.toNat hB rfl dDq) (au ?_));refine ag (aM rfl rfl) (mC (s:=aE.blocks.sv) (n:=1) (k:=b.toNat) (j:=2) (a:=B) (a':=({B with aU:=B.aU+1}:Bk)) (xs:=aE.blocks.xs) (enc:=cq) (c:=4) (v:= .int .i64 (B.aU+1)) oK rfl rfl rfl hB (by simp[Value.cells,Value.oneCell']) (by rfl) dDq (by rfl) ?_)
 try simp only[awo]
 refine ar ?_;refine Gb ?_ ?_<;>intro h3
 ·
  have nw:tm (cv c) (aR B.pages.xs)=(aR B.pages.xs).map (fun _:List UInt8=>iA c.size):=by rw[tm,if_neg (by rw[h3];simp)];rfl
  have MM:(aE.blocks.xs.set b.toNat ({B with aU:=B.aU+1,used:=0}:Bk))[b.toNat]? =Option.some ({B with aU:=B.aU+1,used:=0}:Bk):=auk o8
  refine al ?_;refine ag (aM rfl rfl) (mC (s:=aE.blocks.sv) (n:=1) (k:=b.toNat) (j:=1) (a:=({B with aU:=B.aU+1}:Bk)) (a':=({B with aU:=B.aU+1,used:=0}:Bk)) (xs:=(aE.blocks.xs.set b.toNat ({B with aU:=B.aU+1}:Bk))) (enc:=cq) (c:=4) (v:= .int .i64 0) oK rfl rfl rfl vb (by simp[Value.cells,Value.oneCell']) (by rfl) dDq (by rfl) ?_)
  try simp only[awo]
  refine aP ?_;refine cg (X:=Nat) (fun U=>[(71, .int .i64 (U:Nat)),(4, .pointer (some ⟨b4,0,none⟩)),(6, .pointer (some ⟨b6,0,none⟩)),(7, .pointer (some ⟨aE.blocks.sv.b,aE.blocks.sv.o+b.toNat*4,none⟩)),(70, .int .i64 c.pages)]) (fun U=>[aq b8 (cH (bt (cv c)).1) 97,own (cw (τ:=UInt8)) 1 B.pages.sv B.pages.xs,own aQ 1 rm (mixed (fun _:List UInt8=>iA c.size) (aR B.pages.xs) U).flatten,own cq 4 aE.blocks.sv (aE.blocks.xs.set b.toNat ({B with aU:=B.aU+1,used:=0}:Bk)),ai.all ((aE.blocks.xs.eraseIdx b.toNat).map fun b:Bk=>fK b.pages),own cH 4 aE.aA.sv aE.aA.xs,aq b6 (aV (⟨aE.pages,aE.size,aE.blocks,(aE.ops+1),aE.off,aE.aA⟩:Cp)) 59,aq b4 (aV ib) 59,aq b2 (aV c) 59]) (fun U=>U<=(aR B.pages.xs).length) (fun U=>(aR B.pages.xs).length -U) 0 (auo _) sb (fun w hw=>by
   rw[RU];exact ah.mem hw) ?_
  rintro k bg;refine al ?_;refine Gb ?_ ?_<;>intro h4
  ·
   obtain⟨q,hq⟩:=get_some (xs:=(aR B.pages.xs)) (i:=k) oM;have yD:=o6 q (atl hq);have BC:B.pages.xs[k]? =Option.some ⟨(win rm ((aR B.pages.xs).take k).flatten.length (((aR B.pages.xs).take k).flatten.length+q.length)),q⟩:=by rw[BB,xv,GS hq,auL]
   refine aY ?_;refine ag (aM rfl rfl) (ag (Ry.to (v':=B.pages.sv.val) (bW (j:=0) rfl b.toNat MM rfl dDq) rfl) (Gs ?_));refine ag (bf rfl rfl k rfl oM) (ag (Ry.to (v':= .slice (some ⟨rm.b,rm.o+((aR B.pages.xs).take k).flatten.length,none⟩) q.length q.length) (bW (j:=0) rfl k BC rfl dDq) (ac6 hn hs oM)) (bb rfl ⟨by have h9:=congrArg List.length (K1 (f:=(fun _:List UInt8=>iA c.size)) hq);have h8:=Dc (mixed (fun _:List UInt8=>iA c.size) (aR B.pages.xs) k) (k+1);have h7:=Db (Dd (f:=(fun _:List UInt8=>iA c.size)) hq);rw[GW CU oM]at h7;omega,oM⟩ fun x81 arX=>al ?_));refine Gi ?_;exact bo (x:=(k)) (k+1) oF oF sb (fun w hw=>by
    rw[ac4 hq CU (n:=q.length) (by simp only[iA];congr 1;omega) rfl];exact ah.mem hw)
  refine aP ?_;refine Gr fun w1 hw=>?_;exact⟨(⟨aE.pages,aE.size,⟨aE.blocks.sv,aE.blocks.xs.set b.toNat ⟨⟨B.pages.sv,dJ rm 0 ((aR B.pages.xs).map (fun _:List UInt8=>iA c.size))⟩,0,B.aU+1,B.bad⟩⟩,aE.ops+1,aE.off,aE.aA⟩:Cp),by rw[ei,if_pos hk,if_neg (by rw[lO];simp),if_neg (by rw[fD];simp),if_neg (by rw[h3];simp)];rfl,by rw[RX lL ft,gn,ly,←ft,show(bv B).pages=(aR B.pages.xs)from rfl,nw,h3,awt,if_neg (by simp),show aE.off=(cv c).off from congrArg CV.off lL,lO],(by
   rw[RW oM]at hw;exact pN (⟨aE.pages,aE.size,⟨aE.blocks.sv,aE.blocks.xs.set b.toNat ⟨⟨B.pages.sv,dJ rm 0 ((aR B.pages.xs).map (fun _:List UInt8=>iA c.size))⟩,0,B.aU+1,B.bad⟩⟩,aE.ops+1,aE.off,aE.aA⟩:Cp) (GU (rm:=rm) (l:=(aR B.pages.xs).map (fun _:List UInt8=>iA c.size)) (B:=({B with aU:=B.aU+1,used:=0}:Bk)) (B':=⟨⟨B.pages.sv,dJ rm 0 ((aR B.pages.xs).map (fun _:List UInt8=>iA c.size))⟩,0,B.aU+1,B.bad⟩) (sp:=B.pages.sv) (ps:=B.pages.xs) o8 (U0 _ CU) hn rfl rfl (ah.mem hw)))⟩
 have nw:tm (cv c) (aR B.pages.xs)=(aR B.pages.xs).map (dn (bt (cv c)).1.mask):=by rw[tm,if_pos h3]
 have MM:(aE.blocks.xs.set b.toNat ({B with aU:=B.aU+1,used:=c.pages}:Bk))[b.toNat]? =Option.some ({B with aU:=B.aU+1,used:=c.pages}:Bk):=auk o8
 refine aP ?_;refine ag (aM rfl rfl) (mC (s:=aE.blocks.sv) (n:=1) (k:=b.toNat) (j:=1) (a:=({B with aU:=B.aU+1}:Bk)) (a':=({B with aU:=B.aU+1,used:=c.pages}:Bk)) (xs:=(aE.blocks.xs.set b.toNat ({B with aU:=B.aU+1}:Bk))) (enc:=cq) (c:=4) (v:= .int .i64 c.pages) oK rfl rfl rfl vb (by simp[Value.cells,Value.oneCell']) (by rfl) dDq (by rfl) ?_)
 try simp only[awo]
 refine aP ?_;refine cg (X:=Nat) (fun U=>[(91, .int .i64 (U:Nat)),(2, .pointer (some ⟨b2,0,none⟩)),(4, .pointer (some ⟨b4,0,none⟩)),(6, .pointer (some ⟨b6,0,none⟩)),(7, .pointer (some ⟨aE.blocks.sv.b,aE.blocks.sv.o+b.toNat*4,none⟩)),(8, .pointer (some ⟨b8,0,none⟩)),(90, .int .i64 c.pages)]) (fun U=>[aq b8 (cH (bt (cv c)).1) 97,own (cw (τ:=UInt8)) 1 B.pages.sv B.pages.xs,own aQ 1 rm (mixed (dn (bt (cv c)).1.mask) (aR B.pages.xs) U).flatten,own cq 4 aE.blocks.sv (aE.blocks.xs.set b.toNat ({B with aU:=B.aU+1,used:=c.pages}:Bk)),ai.all ((aE.blocks.xs.eraseIdx b.toNat).map fun b:Bk=>fK b.pages),own cH 4 aE.aA.sv aE.aA.xs,aq b6 (aV (⟨aE.pages,aE.size,aE.blocks,(aE.ops+1),aE.off,aE.aA⟩:Cp)) 59,aq b4 (aV ib) 59,aq b2 (aV c) 59]) (fun U=>U<=(aR B.pages.xs).length) (fun U=>(aR B.pages.xs).length -U) 0 (auo _) sb (fun w hw=>by
  rw[RU];exact ah.mem hw) ?_
 rintro k C5;refine al ?_;refine Gb ?_ ?_<;>intro h5
 ·
  obtain⟨q,hq⟩:=get_some (xs:=(aR B.pages.xs)) (i:=k) oM;have yD:=o6 q (atl hq);have BC:B.pages.xs[k]? =Option.some ⟨(win rm ((aR B.pages.xs).take k).flatten.length (((aR B.pages.xs).take k).flatten.length+q.length)),q⟩:=by rw[BB,xv,GS hq,auL]
  refine fS ?_;refine cg (X:=Nat) (fun U=>[(96, .int .i64 (U:Nat)),(2, .pointer (some ⟨b2,0,none⟩)),(4, .pointer (some ⟨b4,0,none⟩)),(6, .pointer (some ⟨b6,0,none⟩)),(7, .pointer (some ⟨aE.blocks.sv.b,aE.blocks.sv.o+b.toNat*4,none⟩)),(8, .pointer (some ⟨b8,0,none⟩)),(11, .int .i64 (k:Nat)),(90, .int .i64 c.pages),(91, .int .i64 (k:Nat)),(95, .int .i64 c.size)]) (fun U=>[aq b8 (cH (bt (cv c)).1) 97,own (cw (τ:=UInt8)) 1 B.pages.sv B.pages.xs,own aQ 1 rm ((mixed (dn (bt (cv c)).1.mask) (aR B.pages.xs) k).set k (dn (bt (cv c)).1.mask (q.take U)++q.drop U)).flatten,own cq 4 aE.blocks.sv (aE.blocks.xs.set b.toNat ({B with aU:=B.aU+1,used:=c.pages}:Bk)),ai.all ((aE.blocks.xs.eraseIdx b.toNat).map fun b:Bk=>fK b.pages),own cH 4 aE.aA.sv aE.aA.xs,aq b6 (aV (⟨aE.pages,aE.size,aE.blocks,(aE.ops+1),aE.off,aE.aA⟩:Cp)) 59,aq b4 (aV ib) 59,aq b2 (aV c) 59]) (fun U=>U<=q.length) (fun U=>q.length -U) 0 (auo _) sb (fun w hw=>by
   rw[auw,avg,dn,au4,auS,xw (Dd hq)];exact ah.mem hw) ?_
  rintro j fP;refine al ?_;refine Gb ?_ ?_<;>intro h6
  ·
   have tO:(dn (bt (cv c)).1.mask (q.take j)++q.drop j).length=q.length:=K0 oM;obtain⟨z,hz⟩:=get_some (xs:=q) (i:=j) oM;have wx:((mixed (dn (bt (cv c)).1.mask) (aR B.pages.xs) k).set k (dn (bt (cv c)).1.mask (q.take j)++q.drop j)).flatten[((aR B.pages.xs).take k).flatten.length+j]? =Option.some z:=by
    have h9:=AR (l:=(mixed (dn (bt (cv c)).1.mask) (aR B.pages.xs) k).set k (dn (bt (cv c)).1.mask (q.take j)++q.drop j)) (i:=k) (j:=j) (auk (zz.1 (Dd (f:=(dn (bt (cv c)).1.mask)) hq)).1) oM;rw[KZ,GW ML oM]at h9;rw[h9,RS oM,hz]
   refine ar ?_;refine jt [14,1009] [[],[],[],[],[],[],[],[],[],[],[],[],[9],[9],[9]] [0,1,2,3,4,5,6,7,8,9,10,11,12,13,14] [own (cw (τ:=UInt8)) 1 B.pages.sv B.pages.xs,own cq 4 aE.blocks.sv (aE.blocks.xs.set b.toNat ({B with aU:=B.aU+1,used:=c.pages}:Bk)),aq b8 (cH (bt (cv c)).1) 97] (fun _ hw=>ah.mem hw) oK oK (an rfl (bm rfl) (an rfl (gE rfl) (an rfl (aM rfl rfl) (an rfl (Ry.to (v':=B.pages.sv.val) (bW (j:=0) rfl b.toNat MM rfl dDq) rfl) (an rfl (bm rfl) (an rfl (bf rfl rfl k rfl oM) (an rfl (Ry.to (v':=(win rm ((aR B.pages.xs).take k).flatten.length (((aR B.pages.xs).take k).flatten.length+q.length)).val) (bW (j:=0) rfl k BC rfl dDq) rfl) (an rfl (bm rfl) ?_))))))))
   obtain⟨af4,af5⟩:=get_some (xs:=q) (i:=j) oM;refine an rfl (pq (s:=(win rm ((aR B.pages.xs).take k).flatten.length (((aR B.pages.xs).take k).flatten.length+q.length))) (i:=j) rfl rfl rfl (GV hn hs oM) (by simp only[win];omega)) (gq rfl (bW (s:=rm) (enc:=aQ) (c:=1) (xs:=((mixed (dn (bt (cv c)).1.mask) (aR B.pages.xs) k).set k (dn (bt (cv c)).1.mask (q.take j)++q.drop j)).flatten) (a:=z) (j:=0) (v:= .int .u8 z.toNat) rfl (((aR B.pages.xs).take k).flatten.length+j) wx (by rw[AS oM];omega) dDq) (an rfl (aM (o':=3) rfl rfl) (an rfl (bE rfl) (an rfl (RN rfl rfl) ?_))));obtain⟨arY,arZ⟩:=get_some (xs:=q) (i:=j) oM;refine an rfl (pq (s:=(win rm ((aR B.pages.xs).take k).flatten.length (((aR B.pages.xs).take k).flatten.length+q.length))) (i:=j) rfl rfl rfl (GV hn hs oM) (by simp only[win];omega)) ?_;refine dr rfl (zd (s:=rm) (n:=1) (k:=((aR B.pages.xs).take k).flatten.length+j) (j:=0) (a:=z) (a':=z|||(bt (cv c)).1.mask) (xs:=((mixed (dn (bt (cv c)).1.mask) (aR B.pages.xs) k).set k (dn (bt (cv c)).1.mask (q.take j)++q.drop j)).flatten) (enc:=aQ) (c:=1) (v:= .int .u8 (z|||(bt (cv c)).1.mask).toNat) oK rfl rfl (by rw[AS oM];omega) wx (by simp[Value.cells,Value.oneCell']) rfl oM (by rfl) ⟨fun _ hw=>ah.mem hw,?_⟩);refine al ?_;refine Gi ?_;exact bo (x:=(j)) (j+1) oF oF sb (fun w hw=>by
    rw[RT (Dd hq) hz,GW ML oM];exact ah.mem hw)
  obtain rfl:j=q.length:=by omega
  refine al ?_;refine Gi ?_;exact bo (x:=(k)) (k+1) oF oF sb (fun w hw=>by
   rw[←K1 hq];rw[aup,awf,auT]at hw;exact ah.mem hw)
 refine ar ?_;refine ag (aB (v:= .bool (((bt (cv c)).1).cut)) rfl rfl) (ag (aB (v:= .int .i64 (mc ((bt (cv c)).1))) rfl rfl) (aP ?_));refine dO (cs':=aV (⟨aE.pages,aE.size,aE.blocks,(aE.ops+1),((bt (cv c)).1).cut,aE.aA⟩:Cp)) rfl rfl (by show 4<6;decide) (by first|rfl|exact Sv.one _) rfl (aY ?_);refine Gr fun w1 hw=>?_;exact⟨(⟨aE.pages,aE.size,⟨aE.blocks.sv,aE.blocks.xs.set b.toNat ⟨⟨B.pages.sv,dJ rm 0 ((aR B.pages.xs).map (dn (bt (cv c)).1.mask))⟩,c.pages,B.aU+1,B.bad⟩⟩,aE.ops+1,(bt (cv c)).1.cut,aE.aA⟩:Cp),by rw[ei,if_pos hk,if_neg (by rw[lO];simp),if_neg (by rw[fD];simp),if_pos h3];rfl,by rw[RX lL ft,gn,ly,←ft,show(bv B).pages=(aR B.pages.xs)from rfl,nw,h3,au2,if_pos rfl];rfl,(by
  rw[RW oM]at hw;exact pN (⟨aE.pages,aE.size,⟨aE.blocks.sv,aE.blocks.xs.set b.toNat ⟨⟨B.pages.sv,dJ rm 0 ((aR B.pages.xs).map (dn (bt (cv c)).1.mask))⟩,c.pages,B.aU+1,B.bad⟩⟩,aE.ops+1,(bt (cv c)).1.cut,aE.aA⟩:Cp) (GU (rm:=rm) (l:=(aR B.pages.xs).map (dn (bt (cv c)).1.mask)) (B:=({B with aU:=B.aU+1,used:=c.pages}:Bk)) (B':=⟨⟨B.pages.sv,dJ rm 0 ((aR B.pages.xs).map (dn (bt (cv c)).1.mask))⟩,c.pages,B.aU+1,B.bad⟩) (sp:=B.pages.sv) (ps:=B.pages.xs) o8 (U0 _ ML) hn rfl rfl (ah.mem hw)))⟩)⟩
theorem af6(w:World):(Instr.build 324 #[(0, .int .i64 1)]).run prog w= .ok (.agg (dt ⟨1,0,0,⟨Sv.none,[]⟩⟩)) w:=kRq
theorem af7(w0 w:World)(L:List ai)(k:Nat)(xc:Cp)(xa:Sl Int)(xg:UInt64)(xl:Int)(xy:Bool)(b:Int)(er:Int)(hw:Mem w0 (aq k (aS (⟨⟨xc,xa,xg,xl⟩,xy⟩:aT)) 261::fz xc::L) w)(aC:aW (cv xc)=true):Calls prog 253 #[.pointer (some ⟨k,0,none⟩), .int .i64 b, .int .i64 er] w fun e w'=> ∃U:Cp,e= .returned (.tuple #[])/\(cv U=iW (cv xc) b er)/\Mem w0 (aq k (aS (⟨⟨U,xa,xg,xl⟩,xy⟩:aT)) 261::fz U::L) w':=by
 have gQ:gk xc:=r9 aC;refine hY (args:=[_,_,_]) func253 rfl ntmps253 rfl hw ?_;change Cw _ _ _ _ _ [(0, .pointer (some ⟨k,0,none⟩)),(1, .int .i64 b),(2, .int .i64 er)] (aq k (aS (⟨⟨xc,xa,xg,xl⟩,xy⟩:aT)) 261::fz xc::L);refine ar ?_;refine Gb ?_ ?_<;>intro h0
 ·
  have hE:iW (cv xc) b er=me (cv xc) b:=by rw[iW,if_pos h0]
  refine Gi ?_;refine aP ?_;refine ag (Ry.to (v':= .agg (aV xc)) (fM rfl) rfl) (Gs ?_);refine bb rfl (by assumption) fun aE lL=>Gs ?_;refine ag (aB (v:= .agg (aV aE)) rfl rfl) (ag (aB (v:= .int .i64 (qA (cv xc) b)) rfl rfl) (al ?_));refine qX (cs':=aS (⟨⟨aE,xa,xg,xl⟩,xy⟩:aT)) rfl rfl (by show 0+6<=10;decide) rfl (Gi ?_);refine eE (.inr rfl) (kg rfl) (fun w1 hw=>?_);exact⟨aE,rfl,by rw[hE,lL],ah.mem hw⟩
 have hE:iW (cv xc) b er=(cv xc):=by rw[iW,if_neg h0]
 refine Gi ?_;refine eE (.inr rfl) (kg rfl) (fun w1 hw=>?_);exact⟨xc,rfl,by rw[hE],ah.mem hw⟩
instance ar0{w0:World}{L R1 L2:List ai}{i0 i1:Nat}{k:Nat}{xc:Cp}{xa:Sl Int}{xg:UInt64}{xl:Int}{xy:Bool}{b:Int}{er:Int}[q0:Has L k (aS (⟨⟨xc,xa,xg,xl⟩,xy⟩:aT)) 261 i0][d0:ct L i0 R1][q1:At R1 (fz xc) i1][d1:ct R1 i1 L2]:bY prog 253 w0 L [.pointer (some ⟨k,0,none⟩), .int .i64 b, .int .i64 er] (Cp) (fun U=> .tuple #[]) (fun U=>aq k (aS (⟨⟨U,xa,xg,xl⟩,xy⟩:aT)) 261::fz U::L2) (fun U=>cv U=iW (cv xc) b er) (aW (cv xc)=true):=⟨fun hp w hw=>af7 w0 w L2 k xc xa xg xl xy b er (pB q0.h d0.h q1.h d1.h hw) hp⟩
theorem af8(w0 w:World)(L:List ai)(k:Nat)(xc:Cp)(xa:Sl Int)(xg:UInt64)(xl:Int)(xy:Bool)(b:Int)(y:Sv)(ys:List UInt8)[hy:Hd w0 L y aQ 1 ys](hw:Mem w0 (aq k (aS (⟨⟨xc,xa,xg,xl⟩,xy⟩:aT)) 261::fz xc::L) w)(aC:aW (cv xc)=true/\0<=b/\b<(cv xc).blocks.length):Calls prog 220 #[.pointer (some ⟨k,0,none⟩), .int .i64 b,y.val] w fun e w'=> ∃U:Cp,e= .returned (.int .i64 (bC (cv xc) b ys))/\(cv U=bB (cv xc) b ys)/\Mem w0 (aq k (aS (⟨⟨U,xa,xg,xl⟩,xy⟩:aT)) 261::fz U::L) w':=by
 obtain⟨hk,rF,vd⟩:=aC;have gQ:gk xc:=r9 hk;have dI:(cv xc).blocks.length=xc.blocks.xs.length:=iv _;obtain⟨B,hB⟩:=get_some (xs:=xc.blocks.xs) (i:=b.toNat) oM;have tT:Mb B xc.blocks:=⟨List.mem_of_getElem? hB⟩;have ft:=uN hB;have gR:=fy.1 ((eN.1 hk).2.2.2.2 (bv B) (atl (nY hB)));have je:=mK.1 (eN.1 hk).1;have rG:(ak (cv xc) b).used=B.used:=by rw[ft];rfl
 simp only[bv,cv]at gR je;refine hY (args:=[_,_,_]) func220 rfl ntmps220 rfl hw ?_;change Cw _ _ _ _ _ [(0, .pointer (some ⟨k,0,none⟩)),(1, .int .i64 b),(2,y.val)] (aq k (aS (⟨⟨xc,xa,xg,xl⟩,xy⟩:aT)) 261::fz xc::L);refine al ?_;refine pA [17,21,22,2021,4017] [[],[],[],[],[],[],[],[],[],[],[],[],[],[],[],[],[],[],[17],[17],[17],[],[17,21],[17,21,22]] [0,1,2,3,4,5,6,7,8,9,10,11,12,13,14,15,16,17,18,19,20,21,22,23] [aq k (aS (⟨⟨xc,xa,xg,xl⟩,xy⟩:aT)) 261,fz xc] [(21,mG prog 59)] oK (fun _ hw=>ah.mem hw) oK oK (an rfl (bm rfl) (an rfl (gE rfl) (an rfl (aM (o':=0) rfl rfl) (an rfl (aM (o':=0) rfl rfl) (an rfl (Ry.to (v':= .agg (aV xc)) (fM rfl) rfl) (an rfl (bm rfl) (an rfl (bm rfl) (an rfl (gE rfl) (an rfl (aM (o':=0) rfl rfl) (an rfl (aM (o':=0) rfl rfl) (an rfl (aM (o':=2) rfl rfl) (an rfl (Ry.to (v':=xc.blocks.sv.val) (bE rfl) rfl) ?_))))))))))));refine an rfl (bm rfl) (an rfl (bf rfl rfl b.toNat oM oM) (an rfl (aM rfl rfl) (an rfl (bW (j:=1) rfl b.toNat hB rfl dDq) (an rfl (bm rfl) ?_))));refine vR rfl rfl (by assumption) (fun e x w hw=>ah.mem hw) (Cert.one (i:=21) rfl rfl rfl mH (Cert.none rfl)) fun sG vc=>⟨fun _ hw=>ah.mem hw,?_⟩;refine an rfl (bm rfl) (an rfl (aB (v:= .agg (aV sG)) rfl rfl) (an rfl (aB (v:= .int .i64 (kA (cv xc) b B.used ys)) rfl rfl) (oI (m:=mG prog 59) rfl rfl mH (Cert.none rfl) fun b7=>?_)));change Ln _ _ _ _ _ _ _ _ (cr _ _ (.pointer (some ⟨b7,0,none⟩))) (aq b7 (aV ib) 59::_) _;refine dr rfl (qw rfl rfl ⟨fun _ hw=>ah.mem hw,?_⟩);refine an rfl (hO rfl) (aY ?_);refine qX (cs':=aS (⟨⟨sG,xa,xg,xl⟩,xy⟩:aT)) rfl rfl (by show 0+6<=10;decide) rfl (ar ?_);refine bb rfl (by rw[vc];exact Lj hk _ _ _) fun nD yn=>ar ?_;refine Gr fun w1 hw=>?_;exact⟨nD,by rw[bC,rG],by rw[yn,vc,bB,bC,rG],ah.mem hw⟩
instance ar1{w0:World}{L R1 L2:List ai}{i0 i1:Nat}{k:Nat}{xc:Cp}{xa:Sl Int}{xg:UInt64}{xl:Int}{xy:Bool}{b:Int}{y:Sv}{ys:List UInt8}[q0:Has L k (aS (⟨⟨xc,xa,xg,xl⟩,xy⟩:aT)) 261 i0][d0:ct L i0 R1][q1:At R1 (fz xc) i1][d1:ct R1 i1 L2][hy:Hd w0 L2 y aQ 1 ys]:bY prog 220 w0 L [.pointer (some ⟨k,0,none⟩), .int .i64 b,y.val] (Cp) (fun U=> .int .i64 (bC (cv xc) b ys)) (fun U=>aq k (aS (⟨⟨U,xa,xg,xl⟩,xy⟩:aT)) 261::fz U::L2) (fun U=>cv U=bB (cv xc) b ys) (aW (cv xc)=true/\0<=b/\b<(cv xc).blocks.length):=⟨fun hp w hw=>af8 w0 w L2 k xc xa xg xl xy b y ys (pB q0.h d0.h q1.h d1.h hw) hp⟩
theorem af9(w0 w:World)(L:List ai)(k:Nat)(xc:Cp)(xa:Sl Int)(xg:UInt64)(xl:Int)(xy:Bool)(b:Int)(hw:Mem w0 (aq k (aS (⟨⟨xc,xa,xg,xl⟩,xy⟩:aT)) 261::fz xc::L) w)(aC:aW (cv xc)=true/\0<=b/\b<(cv xc).blocks.length):Calls prog 216 #[.pointer (some ⟨k,0,none⟩), .int .i64 b] w fun e w'=> ∃U:Cp,e= .returned (.int .i64 (ei (cv xc) b))/\(cv U=dz (cv xc) b)/\Mem w0 (aq k (aS (⟨⟨U,xa,xg,xl⟩,xy⟩:aT)) 261::fz U::L) w':=by
 obtain⟨hk,rF,vd⟩:=aC;have gQ:gk xc:=r9 hk;have dI:(cv xc).blocks.length=xc.blocks.xs.length:=iv _;obtain⟨B,hB⟩:=get_some (xs:=xc.blocks.xs) (i:=b.toNat) oM;have tT:Mb B xc.blocks:=⟨List.mem_of_getElem? hB⟩;have ft:=uN hB;have gR:=fy.1 ((eN.1 hk).2.2.2.2 (bv B) (atl (nY hB)));have je:=mK.1 (eN.1 hk).1;have rG:(ak (cv xc) b).used=B.used:=by rw[ft];rfl
 simp only[bv,cv]at gR je;refine hY (args:=[_,_]) func216 rfl ntmps216 rfl hw ?_;change Cw _ _ _ _ _ [(0, .pointer (some ⟨k,0,none⟩)),(1, .int .i64 b)] (aq k (aS (⟨⟨xc,xa,xg,xl⟩,xy⟩:aT)) 261::fz xc::L);refine cX ?_;refine ag (Ry.to (v':= .agg (aV xc)) (fM rfl) rfl) (Gs ?_);refine bb rfl (by assumption) fun oc Bg=>Gs ?_;refine ag (aB (v:= .agg (aV oc)) rfl rfl) (ag (aB (v:= .int .i64 (ei (cv xc) b)) rfl rfl) (bn fun b5=>fS ?_));refine qX (cs':=aS (⟨⟨oc,xa,xg,xl⟩,xy⟩:aT)) rfl rfl (by show 0+6<=10;decide) rfl (ar ?_);refine bb rfl (by rw[Bg];exact Lk hk _) fun x25 aga=>ar ?_;refine Gr fun w1 hw=>?_;exact⟨x25,rfl,by rw[aga,Bg,dz],ah.mem hw⟩
instance ar2{w0:World}{L R1 L2:List ai}{i0 i1:Nat}{k:Nat}{xc:Cp}{xa:Sl Int}{xg:UInt64}{xl:Int}{xy:Bool}{b:Int}[q0:Has L k (aS (⟨⟨xc,xa,xg,xl⟩,xy⟩:aT)) 261 i0][d0:ct L i0 R1][q1:At R1 (fz xc) i1][d1:ct R1 i1 L2]:bY prog 216 w0 L [.pointer (some ⟨k,0,none⟩), .int .i64 b] (Cp) (fun U=> .int .i64 (ei (cv xc) b)) (fun U=>aq k (aS (⟨⟨U,xa,xg,xl⟩,xy⟩:aT)) 261::fz U::L2) (fun U=>cv U=dz (cv xc) b) (aW (cv xc)=true/\0<=b/\b<(cv xc).blocks.length):=⟨fun hp w hw=>af9 w0 w L2 k xc xa xg xl xy b (pB q0.h d0.h q1.h d1.h hw) hp⟩
theorem agb(w0 w:World)(L:List ai)(k:Nat)(xc:Cp)(xa:Sl Int)(xg:UInt64)(xl:Int)(xy:Bool)(b:Int)(hw:Mem w0 (aq k (aS (⟨⟨xc,xa,xg,xl⟩,xy⟩:aT)) 261::fz xc::L) w)(aC:aW (cv xc)=true/\0<=b/\b<(cv xc).blocks.length):Calls prog 312 #[.pointer (some ⟨k,0,none⟩), .int .i64 b] w fun e w'=> ∃U:Cp,e= .returned (.int .i64 ((cJ (cv xc) b).2))/\(cv U=(cJ (cv xc) b).1)/\Mem w0 (aq k (aS (⟨⟨U,xa,xg,xl⟩,xy⟩:aT)) 261::fz U::L) w':=by
 obtain⟨hk,rF,vd⟩:=aC;refine hY (args:=[_,_]) func312 rfl ntmps312 rfl hw ?_;change Cw _ _ _ _ _ [(0, .pointer (some ⟨k,0,none⟩)),(1, .int .i64 b)] (aq k (aS (⟨⟨xc,xa,xg,xl⟩,xy⟩:aT)) 261::fz xc::L);refine al ?_;refine cg (X:=Cp) (fun U=>[(0, .pointer (some ⟨k,0,none⟩)),(1, .int .i64 b)]) (fun U=>aq k (aS (⟨⟨U,xa,xg,xl⟩,xy⟩:aT)) 261::fz U::L) (fun U=>cJ (cv xc) b=cJ (cv U) b/\aW (cv U)=true/\dV (cv xc) (cv U)) (fun U=>(ez (cv U) b).toNat) xc ⟨rfl,hk, .du _⟩ sb (fun w hw=>ah.mem hw) ?_;rintro d ⟨bg,aK,bx⟩;have yb:=bx.len;refine al ?_;refine cO (bK rfl ⟨aK,oM,oM⟩) (au ?_);refine Gb ?_ ?_<;>intro h0
 ·
  have bD:=adD (c:=cv d) (b:=b) h0;refine Gc ?_;refine ag (cR (v:= .agg (dt ⟨1,0,0,⟨Sv.none,[]⟩⟩)) rfl af6) (aP ?_);refine ag (Ry.to (v':= .int .i64 d.size) (bE rfl) rfl) (bb rfl trivial fun iL zE=>Gs ?_);refine ag (aB (v:=iL.val) rfl rfl) (ag (aB (v:= .int .i64 ((dy (c8 (⟨1,0,0,⟨Sv.none,[]⟩⟩:fA)) d.size).2)) rfl rfl) (aY ?_));refine bb rfl ⟨aK,oM,oM⟩ fun lM tK=>?_;have agc:cv lM=bB (cv d) b (iX (cv d)):=tK;clear tK;have tK:=agc;refine aP ?_;refine Gb ?_ ?_<;>intro h1
  ·have fk:bC (cv d) b (iX (cv d))≠0:=h1;refine ar ?_;refine Gr fun w1 hw=>?_;exact⟨lM,by rw[bg,bD,if_pos fk];rfl,by rw[tK,bg,bD,if_pos fk],ah.mem hw⟩
  have fk:bC (cv d) b (iX (cv d))=0:=h1;refine gF ?_;exact bo (x:=(d)) lM ⟨by rw[bg,tK,bD,if_neg oF],by rw[tK];exact mg aK _ _,by rw[tK];exact bx.trans (iY _ _ _)⟩ (by have h9:=SH (c:=cv d) (b:=b) (p:=iX (cv d)) oF;rw[tK];omega) sb (fun w hw=>ah.mem hw)
 have HL:=adE (c:=cv d) (b:=b) oM;refine al ?_;refine bb rfl ⟨aK,oM,oM⟩ fun aD xY=>au ?_;refine Gr fun w1 hw=>?_;exact⟨aD,by rw[bg,HL],by rw[xY,bg,HL],ah.mem hw⟩
instance ar3{w0:World}{L R1 L2:List ai}{i0 i1:Nat}{k:Nat}{xc:Cp}{xa:Sl Int}{xg:UInt64}{xl:Int}{xy:Bool}{b:Int}[q0:Has L k (aS (⟨⟨xc,xa,xg,xl⟩,xy⟩:aT)) 261 i0][d0:ct L i0 R1][q1:At R1 (fz xc) i1][d1:ct R1 i1 L2]:bY prog 312 w0 L [.pointer (some ⟨k,0,none⟩), .int .i64 b] (Cp) (fun U=> .int .i64 ((cJ (cv xc) b).2)) (fun U=>aq k (aS (⟨⟨U,xa,xg,xl⟩,xy⟩:aT)) 261::fz U::L2) (fun U=>cv U=(cJ (cv xc) b).1) (aW (cv xc)=true/\0<=b/\b<(cv xc).blocks.length):=⟨fun hp w hw=>agb w0 w L2 k xc xa xg xl xy b (pB q0.h d0.h q1.h d1.h hw) hp⟩
theorem HM(w:World):(Instr.build 402 #[(3, .bool true)]).run prog w= .ok (.agg (bM bc)) w:=kRq
instance MN{xb:Nat}{xc:Cp}{xa:Sl Int}{xg:UInt64}{xl:Int}{xy:Bool}{l:Sl (Sl Int)}[et:nA w0 L xb (aS (⟨⟨xc,xa,xg,xl⟩,xy⟩:aT)) 261][eM:aX w0 L xc][hl:aX w0 L l]:bY prog 304 w0 L [.pointer (some ⟨xb,0,none⟩),l.sv.val] (Sv) (fun U=>U.val) (fun U=>own bM 4 U (av (cv xc) (aw l.xs))::L) (fun U=>True) (xA (cv xc) (aw l.xs)):=⟨fun aC w hw=>Gk (fun U=>[own bM 4 U (av (cv xc) (aw l.xs))]) hw (by
 have et:=et.h w hw;have eM:=eM.h w hw;have hl:=hl.h w hw;have wB:sB w xb (aS (⟨⟨xc,xa,xg,xl⟩,xy⟩:aT)) 261:=⟨et⟩;have wC:cQ w xc:=⟨eM⟩;have qF:cQ w l:=⟨hl⟩;refine dD func304 rfl ntmps304 rfl ?_;refine cX ?_;refine ag (Ry.to (v':= .agg (aV xc)) (aeX rfl) rfl) (Gs ?_);refine bb rfl (by assumption) fun zB Un=>?_;have xk:(jx (cv xc) (aw l.xs)).length=(cv xc).blocks.length -2:=by rw[jx,AW]
 have je:=mK.1 (eN.1 aC.1.1).1;have rC: ∀i,i<=(jx (cv xc) (aw l.xs)).length->(((jx (cv xc) (aw l.xs)).take i).map pR++(jx (cv xc) (aw l.xs)).drop i).length=(jx (cv xc) (aw l.xs)).length:=fun i hi=>by rw[adr,aur,at3,auh];omega
 refine aY ?_;refine cg (X:=Nat) (fun U=>[(16, .int .i64 (U:Nat)),(5,zB.val),(15, .int .i64 ((jx (cv xc) (aw l.xs)).length:Nat))]) (fun U=>[own bM 4 zB (((jx (cv xc) (aw l.xs)).take U).map pR++(jx (cv xc) (aw l.xs)).drop U)]) (fun U=>U<=(jx (cv xc) (aw l.xs)).length) (fun U=>(jx (cv xc) (aw l.xs)).length -U) 0 (auo _) sb (fun w hw=>by simp only[auw,au4,auS,avg];exact ah.mem hw) ?_;rintro i bg;have qK:=rC i bg;refine al ?_;refine Gb ?_ ?_<;>intro h0
 ·
  obtain⟨z,hz⟩:=get_some (xs:=(jx (cv xc) (aw l.xs))) (i:=i) oM;have DW:=SO (f:=pR) hz;refine aY ?_;refine ag (bf rfl rfl i rfl oM) (ag (aM rfl rfl) (ag (bW (j:=3) rfl i DW rfl dDq) (Gc ?_)));refine Gb ?_ ?_<;>intro h1
  ·
   have hf:pR z=bc:=by rw[pR,if_pos h1]
   refine Gi ?_;refine au ?_;refine ag (cR (v:= .agg (bM bc)) rfl HM) (ag (bf rfl rfl i rfl oM) (mC (n:=4) (k:=i) (j:=0) (a:=z) (a':=bc) (xs:=(((jx (cv xc) (aw l.xs)).take i).map pR++(jx (cv xc) (aw l.xs)).drop i)) (enc:=bM) (c:=4) (v:= .agg (bM bc)) oK rfl rfl rfl DW (bp.one (enc:=bM) (c:=4) _) rfl dDq (by rfl) (al ?_)));refine Gi ?_;exact bo (x:=(i)) (i+1) oF oF sb (fun w hw=>by rw[←SM hz,hf];exact ah.mem hw)
  have hf:pR z=z:=by rw[pR,if_neg (by rw[h1];simp)]
  refine al ?_;refine Gi ?_;exact bo (x:=(i)) (i+1) oF oF sb (fun w hw=>by rw[←SN hz hf];exact ah.mem hw)
 obtain rfl:i=(jx (cv xc) (aw l.xs)).length:=by omega
 have hE:av (cv xc) (aw l.xs)=(((jx (cv xc) (aw l.xs)).take (jx (cv xc) (aw l.xs)).length).map pR++(jx (cv xc) (aw l.xs)).drop (jx (cv xc) (aw l.xs)).length):=by rw[av,aup,awf,auT]
 refine ar ?_;refine Gr fun w1 hw=>?_;exact⟨zB,rfl,trivial,by rw[hE];exact ah.mem hw⟩)⟩
instance ar4{s:Sv}{ss:List az}[hs:dG w0 L bM 4 s ss]:bY prog 328 w0 L [s.val] (Sv) (fun U=>U.val) (fun U=>own bM 4 U ss::L) (fun U=>True) (ss.length<=1000000):=⟨fun aC w hw=>Gk (fun U=>[own bM 4 U ss]) hw (by
 have hs:=hs.h w hw;have zw:Gv w s bM 4 ss:=⟨hs⟩;refine cx func328 rfl ntmps328 rfl ?_;refine ar ?_;refine ag (vK underlying399 rfl) (Gc ?_);refine Gb ?_ ?_<;>intro h0
 ·have e0:ss=[]:=aun.1 (by have:=hs.ok.nil h0;have:=hs.len;omega);refine al ?_;refine Gr fun w1 hw=>?_;exact⟨Sv.none,rfl,trivial,by rw[e0];exact(ah.mem hw:Mem w [] _).dE bM 4⟩
 refine Gc ?_;refine w9 bM fun b5=>Gs ?_;refine mB (s:=⟨false,b5,0,0,0,none⟩) (enc:=bM) (ys:=ss) rfl rfl dDq (fun w hw=>iQ (s:=s) underlying399 dDq ((inferInstance:dG _ _ bM 4 s ss).h w hw)) (by simp only[alM];omega) (by simp only[alM];omega) fun s7 zx xU=>?_;refine au ?_;refine Gr fun w1 hw=>?_;exact⟨s7,rfl,trivial,by rw[auS]at hw;exact ah.mem hw⟩)⟩
theorem agd(w:World)(f:FuncId)(l8:Array Value)(R:az->Bool)(hr:tL prog w [] f l8 bM R)(l:Sv)(ls:List az)(hl:eZ bM 4 (hp w) l ls)(aC:ls.length<=1000000):Calls prog 308 #[l.val, .func (.func f) #[] l8] w fun e w'=> ∃U:Sv,e= .returned (U.val)/\(True)/\Mem w [own bM 4 U (cl R ls)] w':=by
 have qF:Gv w l bM 4 ls:=⟨hl⟩;have isf:=hr.fn;have rC: ∀i,i<=ls.length->((ls.take i).map (iK R)++ls.drop i).length=ls.length:=fun i hi=>by rw[adr,aur,at3,auh];omega
 refine dD func308 rfl ntmps308 rfl ?_;refine ar ?_;refine bb rfl oM fun x9 DR=>aY ?_;refine cg (X:=Nat) (fun U=>[(12, .int .i64 (U:Nat)),(5,x9.val),(10,x9.val),(1, .func (.func f) #[] l8),(11, .int .i64 (ls.length:Nat))]) (fun U=>[own bM 4 x9 ((ls.take U).map (iK R)++ls.drop U)]) (fun U=>U<=ls.length) (fun U=>ls.length -U) 0 (auo _) sb (fun w hw=>by simp only[auw,au4,auS,avg];exact ah.mem hw) ?_;rintro i bg;have qK:=rC i bg;refine al ?_;refine Gb ?_ ?_<;>intro h0
 ·
  obtain⟨z,hz⟩:=get_some (xs:=ls) (i:=i) oM;have DW:=SO (f:=iK R) hz;refine au ?_;refine ag (bf rfl rfl i rfl oM) (ag (gV rfl i DW rfl) (bn fun b7=>cX ?_));refine bU rfl rfl rfl (fun hg=>(Ry.yl (jU rfl))) (bU rfl rfl rfl (fun hg=>F9 (f:=f) (vs:=[.agg (bM z)]) (aG hg rfl) (fG (aG hg rfl) jG) (fun w1 mz=>hr.h w1 (ah.mem mz) z)) (bU rfl rfl rfl (fun hg=>(Ry.yl (nJ (aG hg rfl)))) (au ?_)));refine Gb ?_ ?_<;>intro h1
  ·
   have hf:iK R z=bc:=by rw[iK,if_pos (by simpa using h1)]
   refine Gi ?_;refine au ?_;refine ag (cR (v:= .agg (bM bc)) rfl HM) (ag (bf rfl rfl i rfl oM) (mC (n:=4) (k:=i) (j:=0) (a:=z) (a':=bc) (xs:=((ls.take i).map (iK R)++ls.drop i)) (enc:=bM) (c:=4) (v:= .agg (bM bc)) oK rfl rfl rfl DW (bp.one (enc:=bM) (c:=4) _) rfl dDq (by rfl) (al ?_)));refine Gi ?_;exact bo (x:=(i)) (i+1) oF oF sb (fun w hw=>by rw[←SM hz,hf];exact ah.mem hw)
  have hf:iK R z=z:=by rw[iK,if_neg (by simpa using h1)]
  refine al ?_;refine Gi ?_;exact bo (x:=(i)) (i+1) oF oF sb (fun w hw=>by rw[←SN hz hf];exact ah.mem hw)
 obtain rfl:i=ls.length:=by omega
 have hE:cl R ls=((ls.take ls.length).map (iK R)++ls.drop ls.length):=by rw[cl,aup,awf,auT]
 refine ar ?_;refine Gr fun w1 hw=>?_;exact⟨x9,rfl,trivial,by rw[hE];exact ah.mem hw⟩
instance ar5{f:FuncId}{l8:Array Value}{R:az->Bool}{l:Sv}{ls:List az}[rq:tL prog w0 L f l8 bM R][hl:dG w0 L bM 4 l ls]:bY prog 308 w0 L [l.val, .func (.func f) #[] l8] (Sv) (fun U=>U.val) (fun U=>own bM 4 U (cl R ls)::L) (fun U=>True) (ls.length<=1000000):=⟨fun hp w hw=>(agd w f l8 R (rq.at hw) l ls (hl.h w hw) hp).mono fun e w' ⟨x,h1,h2,h3⟩=>⟨x,h1,h2,hw.call h3⟩⟩
instance:eY prog 3 (.int .i64 0):=⟨kRq⟩
theorem DX(a:Sl Int):aw [a]=a.xs:=by simp[aw]
theorem MO(a b:Sl Int):aw [a,b]=a.xs++b.xs:=by simp[aw]
instance ar6{xb:Nat}{xc:Cp}{xa:Sl Int}{xg:UInt64}{xl:Int}{xy:Bool}[et:nA w0 L xb (aS (⟨⟨xc,xa,xg,xl⟩,xy⟩:aT)) 261][eM:aX w0 L xc][pU:aX w0 L xa]:bV prog 260 w0 L [.pointer (some ⟨xb,0,none⟩)] (.tuple #[.int .i64 ((lC (cv xc) xa.xs).1), .int .i64 ((lC (cv xc) xa.xs).2)]) (xA (cv xc) xa.xs):=⟨fun aC w hw=>by
 have et:=et.h w hw;have eM:=eM.h w hw;have pU:=pU.h w hw;have wB:sB w xb (aS (⟨⟨xc,xa,xg,xl⟩,xy⟩:aT)) 261:=⟨et⟩;have wC:cQ w xc:=⟨eM⟩;have ar7:cQ w xa:=⟨pU⟩;have rE:xA (cv xc) (aw [xa]):=by rw[DX];exact aC
 have hk:=aC.1.1;have U1: ∀z∈(av (cv xc) (aw [xa])),A3 (cv xc) (aw [xa]).length z:=fun z hz=>uP hk hz;have tO:=SZ hk (av (cv xc) (aw [xa])) U1;have mX:=mh (cv xc) (aw [xa]);have hd:=fe hk;change _/\_/\1<=xc.pages/\xc.pages<=16/\_/\_ at hd;refine cx func260 rfl ntmps260 rfl ?_;refine CX ?_;refine ag (Ry.to (v':=xa.sv.val) (oX rfl) rfl) ?_;refine nP (enc:=cw) (vals:=[xa.sv.val]) [xa] rfl (by simp only[aum,au4,Sv.jW];rfl) rfl dDq dDq fun b15=>?_;refine bb (hc:=MN (l:=(⟨⟨false,b15,0,1,1,none⟩,[xa]⟩:Sl (Sl Int)))) rfl rE fun aE lL=>al ?_;refine cg (X:=Nat) (fun U=>[(18, .int .i64 (U:Nat)),(4, .int .i64 ((fW xc.pages ((av (cv xc) (aw [xa])).take U)).1)),(5, .int .i64 ((fW xc.pages ((av (cv xc) (aw [xa])).take U)).2)),(0, .pointer (some ⟨xb,0,none⟩)),(16,aE.val),(17, .int .i64 ((av (cv xc) (aw [xa])).length:Nat))]) (fun U=>[own bM 4 aE (av (cv xc) (aw [xa]))]) (fun U=>U<=(av (cv xc) (aw [xa])).length) (fun U=>(av (cv xc) (aw [xa])).length -U) 0 (auo _) (Sub.cons rfl (Sub.cons (look_eq rfl (by rw[auw];rfl)) (Sub.cons (look_eq rfl (by rw[auw];rfl)) sb))) (fun w hw=>ah.mem hw) ?_;rintro i bg;refine al ?_;refine Gb ?_ ?_<;>intro h0
 ·
  obtain⟨z,hz⟩:=get_some (xs:=(av (cv xc) (aw [xa]))) (i:=i) oM;have fE:=SY (p:=xc.pages) hz;have ht:=U1 z (atl hz);have DY:=ht.Dp;have yo:z.used<=xc.pages:=ht.A4;have iC:0<=(fW xc.pages ((av (cv xc) (aw [xa])).take i)).1/\(fW xc.pages ((av (cv xc) (aw [xa])).take i)).1<=16*(i:Int)/\0<=(fW xc.pages ((av (cv xc) (aw [xa])).take i)).2/\(fW xc.pages ((av (cv xc) (aw [xa])).take i)).2<=16:=tO i oM;refine Gc ?_;refine ag (bf rfl rfl i rfl oM) (ag (gV rfl i hz rfl) (bn fun b7=>aP ?_));refine Gb ?_ ?_<;>intro h1
  ·
   have bD:(fW xc.pages ((av (cv xc) (aw [xa])).take (i+1)))=(fW xc.pages ((av (cv xc) (aw [xa])).take i)):=by rw[fE,tA,if_pos h1]
   refine al ?_;refine Gi ?_;exact bo (x:=(i)) (i+1) oF oF (Sub.cons rfl (Sub.cons (look_eq rfl (by rw[bD])) (Sub.cons (look_eq rfl (by rw[bD])) sb))) (fun w hw=>ah.mem hw)
  have sj: ¬z.bad=true:=by rw[h1];simp
  refine Gc ?_;refine jI oK oK (aP ?_);refine bX (Ry.to (v':= .int .i64 xc.pages) (oX rfl) rfl) (iS ?_);refine Gb ?_ ?_<;>intro h2
  ·
   refine ar ?_;refine Gb ?_ ?_<;>intro h3
   ·
    have hN:lB xc.pages z=xc.pages:=by rw[lB,if_pos ⟨h2,h3⟩]
    have bD:(fW xc.pages ((av (cv xc) (aw [xa])).take (i+1)))=((fW xc.pages ((av (cv xc) (aw [xa])).take i)).1+xc.pages,max (fW xc.pages ((av (cv xc) (aw [xa])).take i)).2 xc.pages):=by rw[fE,tA,if_neg sj,if_pos h2,hN]
    refine Gi ?_;refine aP ?_;refine ag (Ry.to (v':= .int .i64 xc.pages) (oX rfl) rfl) (ar ?_);refine ag (yN rfl rfl) (iS ?_);refine Gi ?_;exact bo (x:=(i)) (i+1) oF oF (Sub.cons rfl (Sub.cons (look_eq rfl (by rw[bD])) (Sub.cons (look_eq rfl (by rw[bD])) sb))) (fun w hw=>ah.mem hw)
   have hN:lB xc.pages z=xc.pages -z.used:=by rw[lB,if_neg (fun h=>h3 h.2)]
   have bD:(fW xc.pages ((av (cv xc) (aw [xa])).take (i+1)))=((fW xc.pages ((av (cv xc) (aw [xa])).take i)).1+(xc.pages -z.used),max (fW xc.pages ((av (cv xc) (aw [xa])).take i)).2 (xc.pages -z.used)):=by rw[fE,tA,if_neg sj,if_pos h2,hN]
   refine al ?_;refine ag (yN rfl rfl) (iS ?_);refine Gi ?_;exact bo (x:=(i)) (i+1) oF oF (Sub.cons rfl (Sub.cons (look_eq rfl (by rw[bD])) (Sub.cons (look_eq rfl (by rw[bD])) sb))) (fun w hw=>ah.mem hw)
  have hN:lB xc.pages z=xc.pages -z.used:=by rw[lB,if_neg (fun h=>h2 h.1)]
  have bD:(fW xc.pages ((av (cv xc) (aw [xa])).take (i+1)))=((fW xc.pages ((av (cv xc) (aw [xa])).take i)).1+(xc.pages -z.used),(fW xc.pages ((av (cv xc) (aw [xa])).take i)).2):=by rw[fE,tA,if_neg sj,if_neg h2,hN]
  refine fS ?_;refine Gi ?_;exact bo (x:=(i)) (i+1) oF oF (Sub.cons rfl (Sub.cons (look_eq rfl (by rw[bD])) (Sub.cons (look_eq rfl (by rw[bD])) sb))) (fun w hw=>ah.mem hw)
 obtain rfl:i=(av (cv xc) (aw [xa])).length:=by omega
 have hE:lC (cv xc) xa.xs=((fW xc.pages ((av (cv xc) (aw [xa])).take (av (cv xc) (aw [xa])).length)).1 -(fW xc.pages ((av (cv xc) (aw [xa])).take (av (cv xc) (aw [xa])).length)).2,(fW xc.pages ((av (cv xc) (aw [xa])).take (av (cv xc) (aw [xa])).length)).1):=by rw[lC,←DX xa,aup];rfl
 have iC:0<=(fW xc.pages ((av (cv xc) (aw [xa])).take (av (cv xc) (aw [xa])).length)).1/\(fW xc.pages ((av (cv xc) (aw [xa])).take (av (cv xc) (aw [xa])).length)).1<=16*((av (cv xc) (aw [xa])).length:Int)/\0<=(fW xc.pages ((av (cv xc) (aw [xa])).take (av (cv xc) (aw [xa])).length)).2/\(fW xc.pages ((av (cv xc) (aw [xa])).take (av (cv xc) (aw [xa])).length)).2<=16:=tO (av (cv xc) (aw [xa])).length (at5 _);refine fS ?_;refine Gr fun w1 hw=>?_;exact⟨by rw[hE],ah.mem hw⟩⟩
theorem age(w:World)(x:az):Calls prog 314 #[.agg (bM x)] w fun e w'=>e= .returned (.bool (si x))/\Mem w [] w':=by
 refine cx func314 rfl ntmps314 rfl ?_;refine Gc ?_;refine cn rfl fun b1=>cX ?_;refine Gr fun w1 hw=>?_;exact⟨rfl,ah.mem hw⟩
instance:tL prog w0 L 314 #[] bM si:=⟨inferInstance,fun w _ x=>age w x⟩
theorem agf(w:World)(x:az):Calls prog 315 #[.agg (bM x)] w fun e w'=>e= .returned (.bool (gO x))/\Mem w [] w':=by
 refine cx func315 rfl ntmps315 rfl ?_;refine Gc ?_;refine cn rfl fun b1=>cX ?_;refine Gr fun w1 hw=>?_;exact⟨rfl,ah.mem hw⟩
instance:tL prog w0 L 315 #[] bM gO:=⟨inferInstance,fun w _ x=>agf w x⟩
theorem agh(w0 w:World)(L:List ai)(k:Nat)(xc:Cp)(xa:Sl Int)(xg:UInt64)(xl:Int)(xy:Bool)(l:Sl (Sl Int))[hl:aX w0 L l](hw:Mem w0 (aq k (aS (⟨⟨xc,xa,xg,xl⟩,xy⟩:aT)) 261::fz xc::L) w)(aC:aW (cv xc)=true/\3<=(cv xc).blocks.length/\iZ (cv xc) (aw l.xs)/\(aw l.xs).length<=1000):Calls prog 263 #[.pointer (some ⟨k,0,none⟩),l.sv.val] w fun e w'=> ∃U:Cp,e= .returned (.tuple #[.int .i64 ((bj (cv xc) (aw l.xs) xy).2.1), .int .i64 ((bj (cv xc) (aw l.xs) xy).2.2)])/\(cv U=(bj (cv xc) (aw l.xs) xy).1)/\Mem w0 (aq k (aS (⟨⟨U,xa,xg,xl⟩,xy⟩:aT)) 261::fz U::L) w':=by
 obtain⟨hk,BE,wD,mL⟩:=aC;have rE:=wD.kn hk oM oM;have hd:=fe hk;have mX:=mh (cv xc) (aw l.xs);refine hY (args:=[_,_]) func263 rfl ntmps263 rfl hw ?_;change Cw _ _ _ _ _ [(0, .pointer (some ⟨k,0,none⟩)),(1,l.sv.val)] (aq k (aS (⟨⟨xc,xa,xg,xl⟩,xy⟩:aT)) 261::fz xc::L);refine ar ?_;refine jt [2] [[],[],[],[],[],[],[],[],[],[2],[2]] [0,1,3,4,5,6,7,8,2,9,10] [aq k (aS (⟨⟨xc,xa,xg,xl⟩,xy⟩:aT)) 261,fz xc] (fun _ hw=>ah.mem hw) oK oK (an rfl (bm rfl) (an rfl (bm rfl) (an rfl (bm rfl) (an rfl (gE rfl) (an rfl (aM (o':=0) rfl rfl) (an rfl (aM (o':=0) rfl rfl) (an rfl (aM (o':=0) rfl rfl) (an rfl (Ry.to (v':= .int .i64 xc.pages) (bE rfl) rfl) (dr rfl (qv rfl rE fun iL zE=>⟨fun _ hw=>ah.mem hw,?_⟩))))))))));refine an rfl (hO rfl) (an rfl (hO rfl) (au ?_));refine bb rfl oM fun Bs Mo=>al ?_;refine ag (aB (v:= .int .i64 ((fL (cl si (av (cv xc) (aw l.xs))) xc.pages).1)) rfl rfl) (ag (aB (v:= .bool ((fL (cl si (av (cv xc) (aw l.xs))) xc.pages).2)) rfl rfl) (aP ?_));refine Gb ?_ ?_<;>intro h0
 ·
  have qQ:(mT (cv xc) (aw l.xs)).2=true:=h0;have hE:(bj (cv xc) (aw l.xs) xy)=(cv xc,(mT (cv xc) (aw l.xs)).1+2,0):=by rw[bj,if_pos qQ]
  have qa:=SU qQ;change 0<=(fL (cl si (av (cv xc) (aw l.xs))) xc.pages).1/\(fL (cl si (av (cv xc) (aw l.xs))) xc.pages).1<_/\_ at qa;refine aY ?_;refine Gr fun w1 hw=>?_;exact⟨xc,by rw[hE];rfl,by rw[hE],ah.mem hw⟩
 have qQ: ¬(mT (cv xc) (aw l.xs)).2=true:=fun h=>by rw[show(mT (cv xc) (aw l.xs)).2=false from h0]at h;cases h
 refine cX ?_;refine cg (X:=Nat) (fun U=>[(39, .int .i64 (U:Nat)),(10, .int .i64 ((((av (cv xc) (aw l.xs)).take U).filter fun z=> !z.bad&&decide (z.live=0)).length:Nat)),(0, .pointer (some ⟨k,0,none⟩)),(6,iL.val),(7, .int .i64 xc.pages),(37,iL.val),(38, .int .i64 ((av (cv xc) (aw l.xs)).length:Nat))]) (fun U=>aq k (aS (⟨⟨xc,xa,xg,xl⟩,xy⟩:aT)) 261::fz xc::own bM 4 iL (av (cv xc) (aw l.xs))::L) (fun U=>U<=(av (cv xc) (aw l.xs)).length) (fun U=>(av (cv xc) (aw l.xs)).length -U) 0 (auo _) sb (fun w hw=>ah.mem hw) ?_;rintro i bg;refine al ?_;refine Gb ?_ ?_<;>intro h1
 ·
  obtain⟨z,hz⟩:=get_some (xs:=(av (cv xc) (aw l.xs))) (i:=i) oM;have fE:=adN hz;have hle:=adO ((av (cv xc) (aw l.xs)).take i);rw[at3]at hle;refine Gc ?_;refine ag (bf rfl rfl i rfl oM) (ag (gV rfl i hz rfl) (bn fun wy=>rh ?_));refine Gb ?_ ?_<;>intro h2
  ·rw[if_pos (by simpa using h2)]at fE;refine Gi ?_;refine aY ?_;refine Gi ?_;exact bo (x:=(i)) (i+1) oF oF (Sub.cons rfl (Sub.cons (look_eq rfl (by rw[fE];rfl)) sb)) (fun w hw=>ah.mem hw)
  rw[if_neg (fun g=>h2.elim (fun h=>absurd (h.symm.trans g.1) (by simp)) (fun h=>h g.2))]at fE;refine al ?_;refine Gi ?_;exact bo (x:=(i)) (i+1) oF oF (Sub.cons rfl (Sub.cons (look_eq rfl (by rw[fE,avk])) sb)) (fun w hw=>ah.mem hw)
 obtain rfl:i=(av (cv xc) (aw l.xs)).length:=by omega
 have hid:dW (av (cv xc) (aw l.xs))=(((av (cv xc) (aw l.xs)).take (av (cv xc) (aw l.xs)).length).filter fun z=> !z.bad&&decide (z.live=0)).length:=by rw[dW,aup]
 refine aY ?_;refine bU rfl rfl rfl (fun hg=>(Ry.yl (bm (aG hg rfl)))) (po rfl rfl rfl (fun hg=>(Ry.yl (bm rfl))) (po rfl rfl rfl (fun hg=>(Ry.yl (gE (aG hg rfl)))) (po rfl rfl rfl (fun hg=>(Ry.yl (aM (o':=9) (aG hg rfl) rfl))) (po rfl rfl rfl (fun hg=>(Ry.yl (Ry.to (v':= .bool xy) (bE (aG hg rfl)) rfl))) (po rfl rfl rfl (fun hg=>(Ry.yl (nJ (aG hg rfl)))) (bU rfl rfl rfl (fun hg=>(Ry.yl (z8 (aG hg rfl) (yP hg rfl) rfl))) (au ?_)))))));refine Gb ?_ ?_<;>intro h3
 ·
  have qR:dW (av (cv xc) (aw l.xs))=0\/(dW (av (cv xc) (aw l.xs))=1/\xy=false):=by
   rw[hid];rcases h3 with h|h
   ·exact .inl oM
   exact .inr ⟨oM,h.2⟩
  have hE:(bj (cv xc) (aw l.xs) xy)=(cv xc,0,5):=by rw[bj,if_neg qQ,if_pos qR]
  refine ar ?_;refine Gr fun w1 hw=>?_;exact⟨xc,by rw[hE],by rw[hE],ah.mem hw⟩
 have qR: ¬(dW (av (cv xc) (aw l.xs))=0\/(dW (av (cv xc) (aw l.xs))=1/\xy=false)):=by
  rw[hid];rintro(h|h)
  ·exact h3.1 oM
  rcases h3.2 with g|g
  ·exact g oM
  rw[h.2]at g;cases g
 refine au ?_;refine bb rfl oM fun fu MP=>aY ?_;refine ag (aB (v:= .int .i64 ((fL (cl gO (av (cv xc) (aw l.xs))) xc.pages).1)) rfl rfl) (ag (aB (v:= .bool ((fL (cl gO (av (cv xc) (aw l.xs))) xc.pages).2)) rfl rfl) (aP ?_));refine Gb ?_ ?_<;>intro h4
 ·
  have ki:(kF (cv xc) (aw l.xs)).2=true:=h4;have hE:(bj (cv xc) (aw l.xs) xy)=(cv xc,(kF (cv xc) (aw l.xs)).1+2,0):=by rw[bj,if_neg qQ,if_neg qR,if_pos ki]
  have qa:=SV ki;change 0<=(fL (cl gO (av (cv xc) (aw l.xs))) xc.pages).1/\(fL (cl gO (av (cv xc) (aw l.xs))) xc.pages).1<_/\_ at qa;refine aY ?_;refine Gr fun w1 hw=>?_;exact⟨xc,by rw[hE];rfl,by rw[hE],ah.mem hw⟩
 have ki: ¬(kF (cv xc) (aw l.xs)).2=true:=fun h=>by rw[show(kF (cv xc) (aw l.xs)).2=false from h4]at h;cases h
 obtain⟨d1,d2,d3⟩:=SS hk BE (fun e=>qR (.inl e)) ki;change 0<=(fO (cl gO (av (cv xc) (aw l.xs))) xc.pages).1 at d1;change(fO (cl gO (av (cv xc) (aw l.xs))) xc.pages).1<_ at d2;have hE:(bj (cv xc) (aw l.xs) xy)=((cJ (cv xc) (jN (cv xc) (aw l.xs)+2)).1,jN (cv xc) (aw l.xs)+2,(cJ (cv xc) (jN (cv xc) (aw l.xs)+2)).2):=by rw[bj,if_neg qQ,if_neg qR,if_neg ki]
 refine aP ?_;refine ag (aB (v:= .int .i64 ((fO (cl gO (av (cv xc) (aw l.xs))) xc.pages).1)) rfl rfl) (ag (aB (v:= .bool ((fO (cl gO (av (cv xc) (aw l.xs))) xc.pages).2)) rfl rfl) (fS ?_));refine bb rfl ⟨hk,oM,oM⟩ fun x89 agi=>al ?_;refine Gr fun w1 hw=>?_;exact⟨x89,by rw[hE];rfl,by rw[agi,hE];rfl,ah.mem hw⟩
instance ar8{w0:World}{L R1 L2:List ai}{i0 i1:Nat}{k:Nat}{xc:Cp}{xa:Sl Int}{xg:UInt64}{xl:Int}{xy:Bool}{l:Sl (Sl Int)}[q0:Has L k (aS (⟨⟨xc,xa,xg,xl⟩,xy⟩:aT)) 261 i0][d0:ct L i0 R1][q1:At R1 (fz xc) i1][d1:ct R1 i1 L2][hl:aX w0 L2 l]:bY prog 263 w0 L [.pointer (some ⟨k,0,none⟩),l.sv.val] (Cp) (fun U=> .tuple #[.int .i64 ((bj (cv xc) (aw l.xs) xy).2.1), .int .i64 ((bj (cv xc) (aw l.xs) xy).2.2)]) (fun U=>aq k (aS (⟨⟨U,xa,xg,xl⟩,xy⟩:aT)) 261::fz U::L2) (fun U=>cv U=(bj (cv xc) (aw l.xs) xy).1) (aW (cv xc)=true/\3<=(cv xc).blocks.length/\iZ (cv xc) (aw l.xs)/\(aw l.xs).length<=1000):=⟨fun hp w hw=>agh w0 w L2 k xc xa xg xl xy l (pB q0.h d0.h q1.h d1.h hw) hp⟩
theorem agj(w0 w:World)(L:List ai)(k:Nat)(xc:Cp)(xa:Sl Int)(xg:UInt64)(xl:Int)(xy:Bool)(q:fA)(l:Sl (Sl Int))[hq:aX w0 L q][hl:aX w0 L l](hw:Mem w0 (aq k (aS (⟨⟨xc,xa,xg,xl⟩,xy⟩:aT)) 261::fz xc::L) w)(aC:aW (cv xc)=true/\3<=(cv xc).blocks.length/\iZ (cv xc) (aw l.xs)/\(aw l.xs).length<=1000):Calls prog 223 #[.pointer (some ⟨k,0,none⟩), .agg (dt q),l.sv.val] w fun e w'=> ∃U:Cp,e= .returned (.tuple #[.int .i64 ((cY (cv xc) (aw l.xs) xy (c8 q)).2.1), .int .i64 ((cY (cv xc) (aw l.xs) xy (c8 q)).2.2)])/\(cv U=(cY (cv xc) (aw l.xs) xy (c8 q)).1)/\Mem w0 (aq k (aS (⟨⟨U,xa,xg,xl⟩,xy⟩:aT)) 261::fz U::L) w':=by
 obtain⟨hk,BE,wD,mL⟩:=aC;have hd:=fe hk;have Aq:1<=xc.pages/\xc.pages<=16:=⟨hd.2.2.1,hd.2.2.2.1⟩;refine hY (args:=[_,_,_]) func223 rfl ntmps223 rfl hw ?_;change Cw _ _ _ _ _ [(0, .pointer (some ⟨k,0,none⟩)),(1, .agg (dt q)),(2,l.sv.val)] (aq k (aS (⟨⟨xc,xa,xg,xl⟩,xy⟩:aT)) 261::fz xc::L);refine Gc ?_;refine cn rfl fun b4=>al ?_;refine jt [7] [[],[],[],[],[],[],[],[],[7],[7],[7],[7],[7]] [0,1,2,3,4,5,6,7,8,9,10,11,12] [aq b4 (dt q) 324,aq k (aS (⟨⟨xc,xa,xg,xl⟩,xy⟩:aT)) 261,fz xc] (fun _ hw=>ah.mem hw) oK oK (an rfl (jU rfl) (an rfl (bm rfl) (an rfl (gE rfl) (an rfl (aM (o':=0) rfl rfl) (an rfl (aM (o':=0) rfl rfl) (an rfl (aM (o':=1) rfl rfl) (an rfl (Ry.to (v':= .int .i64 xc.size) (bE rfl) rfl) (dr rfl (qv rfl trivial fun kj MQ=>⟨fun _ hw=>ah.mem hw,?_⟩)))))))))
 skip
 refine an rfl (bm rfl) (an rfl (aB (v:=kj.val) rfl rfl) (an rfl (aB (v:= .int .i64 ((dy (c8 q) xc.size).2)) rfl rfl) (an rfl (hO rfl) (an rfl (hO rfl) (ar ?_)))));refine Gb ?_ ?_<;>intro h0
 ·
  have hE:(cY (cv xc) (aw l.xs) xy (c8 q))=(cv xc,0,(dy (c8 q) xc.size).2):=by rw[cY,if_pos (show(dy (c8 q) (cv xc).size).2≠0 from h0)];rfl
  refine aP ?_;refine Gr fun w1 hw=>?_;exact⟨xc,by rw[hE],by rw[hE],ah.mem hw⟩
 refine Gc ?_;refine cg (X:=Nat×Cp) (fun U=>[(0, .pointer (some ⟨k,0,none⟩)),(2,l.sv.val),(8,kj.val)]) (fun U=>aq k (aS (⟨⟨U.2,xa,xg,xl⟩,xy⟩:aT)) 261::fz U.2::own aQ 1 kj (dy (c8 q) xc.size).1::L) (fun U=>(cY (cv xc) (aw l.xs) xy (c8 q))=ie U.1 (cv U.2) (aw l.xs) xy (dy (c8 q) xc.size).1/\aW (cv U.2)=true/\dV (cv xc) (cv U.2)/\(cT -(cv U.2).ops).toNat<U.1) (fun U=>U.1) ((cT -(cv xc).ops).toNat+1,xc) ⟨by rw[cY,if_neg (show ¬(dy (c8 q) (cv xc).size).2≠0 from fun h=>h h0)];rfl,hk, .du _,by simp only;omega⟩ sb (fun w hw=>ah.mem hw) ?_;rintro⟨m,d⟩ ⟨bg,aK,bx,di⟩;dsimp only;simp only at bg aK bx di;obtain⟨n,rfl⟩: ∃n,m=n+1:=⟨m -1,oM⟩;refine al ?_;refine bb rfl ⟨aK,by rw[bx.len];exact BE,wD.cm bx,mL⟩ fun kZ vf=>?_;obtain⟨f1,f2,f3,f4,f5⟩:=Ls (c:=cv d) (fl:=(aw l.xs)) (aF:=xy) aK (by rw[bx.len];exact BE);rw[←vf]at f1 f2 f3 f4 f5;have f6:=bx.trans f2;have dI:(cv kZ).blocks.length=kZ.blocks.xs.length:=iv _;have hl6:=f6.len;have qO:kZ.pages=xc.pages:=f6.pages;have U2:=bx.len;have yb:=tw f1;refine Gs ?_;refine ag (aB (v:= .int .i64 ((bj (cv d) (aw l.xs) xy).2.1)) rfl rfl) (ag (aB (v:= .int .i64 ((bj (cv d) (aw l.xs) xy).2.2)) rfl rfl) (aY ?_));refine Gb ?_ ?_<;>intro h1
 ·
  have fk:(bj (cv d) (aw l.xs) xy).2.2=0:=h1;obtain⟨g1,g2,g3⟩:=f4 fk;obtain⟨B,hB⟩:=get_some (xs:=kZ.blocks.xs) (i:=(bj (cv d) (aw l.xs) xy).2.1.toNat) oM;have tT:Mb B kZ.blocks:=⟨List.mem_of_getElem? hB⟩;have ft:=uN hB;have gR:=fy.1 (tu f1 (b:=(bj (cv d) (aw l.xs) xy).2.1) oM oM);have rG:(ak (cv kZ) (bj (cv d) (aw l.xs) xy).2.1).used=B.used:=by rw[ft];rfl
  rw[rG]at gR;have hcp:(cv kZ).pages=xc.pages:=qO;rw[hcp]at gR;have oW:0<=(bj (cv d) (aw l.xs) xy).2.1*xc.pages:=avG oM oM;have qM:(bj (cv d) (aw l.xs) xy).2.1*xc.pages<=32*16:=awX oM oM oM oM;refine Gi ?_;refine jI oK oK (aY ?_);refine bX (Ry.to (v':= .int .i64 xc.pages) (bE rfl) (by rw[←qO])) (bX (vC rfl rfl oM) (aP ?_));refine bX (Ry.to (v':=kZ.blocks.sv.val) (bE rfl) rfl) (Gq ?_);refine bX (bf rfl rfl ((bj (cv d) (aw l.xs) xy).2.1.toNat) oM oM) (bX (aM rfl rfl) (bX (bW (j:=1) rfl ((bj (cv d) (aw l.xs) xy).2.1.toNat) hB rfl dDq) (cX ?_)));refine bb rfl ⟨f1,oM,oM⟩ fun MR BF=>aP ?_;refine Gb ?_ ?_<;>intro h2
  ·
   have fQ:(bC (cv kZ) (bj (cv d) (aw l.xs) xy).2.1 (dy (c8 q) xc.size).1)=0:=h2;have hE:(cY (cv xc) (aw l.xs) xy (c8 q))=(bB (cv kZ) (bj (cv d) (aw l.xs) xy).2.1 (dy (c8 q) xc.size).1,(bj (cv d) (aw l.xs) xy).2.1*xc.pages+B.used+1,0):=by
    rw[bg,ie,←vf,if_pos fk,if_pos fQ,rG,show(cv d).pages=xc.pages from bx.pages]
   refine aP ?_;refine Gr fun w1 hw=>?_;exact⟨MR,by rw[hE],by rw[hE,BF],ah.mem hw⟩
  have fQ: ¬(bC (cv kZ) (bj (cv d) (aw l.xs) xy).2.1 (dy (c8 q) xc.size).1)=0:=h2;refine ar ?_;refine Gb ?_ ?_<;>intro h3
  ·refine aP ?_;refine Gr fun w1 hw=>?_;exact⟨MR,by rw[bg,ie,←vf,if_pos fk,if_neg fQ,if_pos (show(bC (cv kZ) (bj (cv d) (aw l.xs) xy).2.1 (dy (c8 q) xc.size).1)≠9 from h3)],by rw[BF,bg,ie,←vf,if_pos fk,if_neg fQ,if_pos (show(bC (cv kZ) (bj (cv d) (aw l.xs) xy).2.1 (dy (c8 q) xc.size).1)≠9 from h3)],ah.mem hw⟩
  refine gF ?_;have qR:(bC (cv kZ) (bj (cv d) (aw l.xs) xy).2.1 (dy (c8 q) xc.size).1)=9:=h3;have DZ:=uM g3 (p:=(dy (c8 q) xc.size).1) (.inl qR);have MS:=tw (mg f1 (bj (cv d) (aw l.xs) xy).2.1 (dy (c8 q) xc.size).1);rw[DZ]at MS;exact bo (x:=(n+1,d)) (n,MR) ⟨by rw[bg,ie,←vf,if_pos fk,if_neg fQ,if_neg (by simpa using qR),BF],by rw[BF];exact mg f1 _ _,by rw[BF];exact f6.trans (iY _ _ _),by rw[BF,DZ];omega⟩ (by simp only;omega) sb (fun w hw=>ah.mem hw)
 have fk: ¬(bj (cv d) (aw l.xs) xy).2.2=0:=h1;refine ar ?_;refine Gb ?_ ?_<;>intro h3
 ·refine aP ?_;refine Gr fun w1 hw=>?_;exact⟨kZ,by rw[bg,ie,if_neg fk,if_pos (show(bj (cv d) (aw l.xs) xy).2.2≠9 from h3)],by rw[vf,bg,ie,if_neg fk,if_pos (show(bj (cv d) (aw l.xs) xy).2.2≠9 from h3)],ah.mem hw⟩
 refine gF ?_;have qR:(bj (cv d) (aw l.xs) xy).2.2=9:=h3;exact bo (x:=(n+1,d)) (n,kZ) ⟨by rw[bg,ie,if_neg fk,if_neg (by simpa using qR),vf],f1,f6,by have:=f5 qR;simp only;omega⟩ (by simp only;omega) sb (fun w hw=>ah.mem hw)
instance agk{w0:World}{L R1 L2:List ai}{i0 i1:Nat}{k:Nat}{xc:Cp}{xa:Sl Int}{xg:UInt64}{xl:Int}{xy:Bool}{q:fA}{l:Sl (Sl Int)}[q0:Has L k (aS (⟨⟨xc,xa,xg,xl⟩,xy⟩:aT)) 261 i0][d0:ct L i0 R1][q1:At R1 (fz xc) i1][d1:ct R1 i1 L2][hq:aX w0 L2 q][hl:aX w0 L2 l]:bY prog 223 w0 L [.pointer (some ⟨k,0,none⟩), .agg (dt q),l.sv.val] (Cp) (fun U=> .tuple #[.int .i64 ((cY (cv xc) (aw l.xs) xy (c8 q)).2.1), .int .i64 ((cY (cv xc) (aw l.xs) xy (c8 q)).2.2)]) (fun U=>aq k (aS (⟨⟨U,xa,xg,xl⟩,xy⟩:aT)) 261::fz U::L2) (fun U=>cv U=(cY (cv xc) (aw l.xs) xy (c8 q)).1) (aW (cv xc)=true/\3<=(cv xc).blocks.length/\iZ (cv xc) (aw l.xs)/\(aw l.xs).length<=1000):=⟨fun hp w hw=>agj w0 w L2 k xc xa xg xl xy q l (pB q0.h d0.h q1.h d1.h hw) hp⟩
theorem agl(w0 w:World)(L:List ai)(k:Nat)(xc:Cp)(xa:Sl Int)(xg:UInt64)(xl:Int)(xy:Bool)(hw:Mem w0 (aq k (aS (⟨⟨xc,xa,xg,xl⟩,xy⟩:aT)) 261::fz xc::L) w)(aC:aW (cv xc)=true/\2<=(cv xc).blocks.length/\(xl=0\/xl=1)):Calls prog 264 #[.pointer (some ⟨k,0,none⟩)] w fun e w'=> ∃U:Cp,e= .returned (.tuple #[.int .i64 ((aZ (cv xc) xl).2.1), .int .i64 ((aZ (cv xc) xl).2.2)])/\(cv U=(aZ (cv xc) xl).1)/\Mem w0 (aq k (aS (⟨⟨U,xa,xg,xl⟩,xy⟩:aT)) 261::fz U::L) w':=by
 obtain⟨hk,ri,UY⟩:=aC;have dI:(cv xc).blocks.length=xc.blocks.xs.length:=iv _;obtain⟨Bo,gR⟩:=get_some (xs:=xc.blocks.xs) (i:=(1 -xl).toNat) oM;have mbo:Mb Bo xc.blocks:=⟨List.mem_of_getElem? gR⟩;have BA:=uN gR;refine hY (args:=[_]) func264 rfl ntmps264 rfl hw ?_;change Cw _ _ _ _ _ [(0, .pointer (some ⟨k,0,none⟩))] (aq k (aS (⟨⟨xc,xa,xg,xl⟩,xy⟩:aT)) 261::fz xc::L);refine fS ?_;refine ag (Ry.to (v':= .int .i64 xl) (bE rfl) rfl) (cX ?_);refine ag (Ry.to (v':= .int .i64 xl) (bE rfl) rfl) (Gs ?_);refine nP (enc:=ck) (vals:=[_,_]) [xl,1 -xl] rfl rfl rfl dDq dDq fun sE=>?_;refine al ?_;refine cg (X:=Nat) (fun U=>[(21, .int .i64 (U:Nat)),(0, .pointer (some ⟨k,0,none⟩)),(4, .int .i64 (1 -xl)),(19,(⟨false,sE,0,2,2,none⟩:Sv).val),(20, .int .i64 ([xl,1 -xl].length:Nat))]) (fun U=>aq k (aS (⟨⟨xc,xa,xg,xl⟩,xy⟩:aT)) 261::fz xc::own ck 1 ⟨false,sE,0,2,2,none⟩ [xl,1 -xl]::L) (fun U=>U<=2/\ ∀(j:Nat) (y:Int),j<U->[xl,1 -xl][j]? =Option.some y-> ¬0<ez (cv xc) y) (fun U=>2 -U) 0 ⟨Nat.zero_le _,fun j y hj=>by first|omega|(simp only[];omega)⟩ sb (fun w hw=>ah.mem hw) ?_;rintro i ⟨bg,aK⟩;refine al ?_;refine Gb ?_ ?_<;>intro h0
 ·
  obtain⟨y,hy⟩:=get_some (xs:=[xl,1 -xl]) (i:=i) (by simp only[ad2,alM]at h0⊢;omega);have MT:i=0\/i=1:=by simp only[ad2,alM]at h0;omega
  have hyr:y=0\/y=1:=by
   have:=atl hy;simp only[auc,avO,or_false]at this;omega
  refine Gc ?_;refine ag (bf rfl rfl i rfl oM) (ag (bW (j:=0) rfl i hy rfl dDq) (ar ?_));refine cO (bK rfl ⟨hk,oM,oM⟩) (au ?_);refine Gb ?_ ?_<;>intro h1
  ·
   have hE:(aZ (cv xc) xl)=(cv xc,y,0):=by
    rcases MT with rfl|rfl
    ·
     obtain rfl:xl=y:=by simpa using hy
     rw[aZ,if_pos h1]
    obtain rfl:1 -xl=y:=by simpa using hy
    rw[aZ,if_neg (aK 0 xl oM rfl),if_pos h1]
   refine aP ?_;refine Gr fun w1 hw=>?_;exact⟨xc,by rw[hE],by rw[hE],ah.mem hw⟩
  refine al ?_;refine Gi ?_;exact bo (x:=(i)) (i+1) ⟨oF,fun j z hj hz=>if e:j=i then(by subst e;rw[hy]at hz;cases hz;exact h1)else aK j z oF hz⟩ oF sb (fun w hw=>ah.mem hw)
 have hi9:i=2:=by simp only[ad2,alM]at h0 bg;omega
 subst hi9;have uY:=aK 0 xl oM rfl;have xS:=aK 1 (1 -xl) oM rfl;refine aY ?_;refine ag (Ry.to (v':=xc.blocks.sv.val) (bE rfl) rfl) (Gs ?_);refine ag (bf rfl rfl ((1 -xl).toNat) oM oM) (ag (aM rfl rfl) (ag (bW (j:=3) rfl ((1 -xl).toNat) gR rfl dDq) (Gc ?_)));refine Gb ?_ ?_<;>intro h2
 ·
  have hE:(aZ (cv xc) xl)=(cv xc,0,9):=by rw[aZ,if_neg uY,if_neg xS,BA,if_pos (show(bv Bo).bad=true from h2)]
  refine ar ?_;refine Gr fun w1 hw=>?_;exact⟨xc,by rw[hE],by rw[hE],ah.mem hw⟩
 have hE:(aZ (cv xc) xl)=(dz (cv xc) (1 -xl),1 -xl,ei (cv xc) (1 -xl)):=by rw[aZ,if_neg uY,if_neg xS,BA,if_neg (show ¬(bv Bo).bad=true by rw[show(bv Bo).bad=Bo.bad from rfl,h2];simp)]
 refine ar ?_;refine bb rfl ⟨hk,oM,oM⟩ fun x44 agm=>al ?_;refine Gr fun w1 hw=>?_;exact⟨x44,by rw[hE],by rw[agm,hE],ah.mem hw⟩
instance ar9{w0:World}{L R1 L2:List ai}{i0 i1:Nat}{k:Nat}{xc:Cp}{xa:Sl Int}{xg:UInt64}{xl:Int}{xy:Bool}[q0:Has L k (aS (⟨⟨xc,xa,xg,xl⟩,xy⟩:aT)) 261 i0][d0:ct L i0 R1][q1:At R1 (fz xc) i1][d1:ct R1 i1 L2]:bY prog 264 w0 L [.pointer (some ⟨k,0,none⟩)] (Cp) (fun U=> .tuple #[.int .i64 ((aZ (cv xc) xl).2.1), .int .i64 ((aZ (cv xc) xl).2.2)]) (fun U=>aq k (aS (⟨⟨U,xa,xg,xl⟩,xy⟩:aT)) 261::fz U::L2) (fun U=>cv U=(aZ (cv xc) xl).1) (aW (cv xc)=true/\2<=(cv xc).blocks.length/\(xl=0\/xl=1)):=⟨fun hp w hw=>agl w0 w L2 k xc xa xg xl xy (pB q0.h d0.h q1.h d1.h hw) hp⟩
theorem MU{g:UInt64}(h:g.toNat<281474976710656):(g+1).toNat=g.toNat+1:=by
 rw[UInt64.toNat_add,show(1:UInt64).toNat=1 from rfl,auJ oM]
theorem U3(g:UInt64)(s:Sv)(xs:List Int)(w:World):(Instr.build 314 #[(0, .int .u64 (g.toNat:Int)),(1,s.val)]).run prog w= .ok (.agg (fa ⟨g,⟨s,xs⟩⟩)) w:=by
 obtain⟨e,b,o,l,c,p⟩:=s;unfold fa
 cases e<;>kernel_rfl
theorem agn(w0 w:World)(L:List ai)(k:Nat)(xc:Cp)(xa:Sl Int)(xg:UInt64)(xl:Int)(xy:Bool)(s:Sv)(ss:List Int)(hw:Mem w0 (aq k (aS (⟨⟨xc,xa,xg,xl⟩,xy⟩:aT)) 261::fz xc::fz xa::own ck 1 s ss::L) w)(aC:db (⟨⟨cv xc,xa.xs,xg.toNat,xl⟩,xy⟩:WV)):Calls prog 224 #[.pointer (some ⟨k,0,none⟩),s.val] w fun e w'=> ∃U:Cp×Sl Int×UInt64×Int,e= .returned (.int .i64 ((dQ (⟨⟨cv xc,xa.xs,xg.toNat,xl⟩,xy⟩:WV) ss).2))/\((⟨⟨cv U.1,U.2.1.xs,U.2.2.1.toNat,U.2.2.2⟩,xy⟩:WV)=(dQ (⟨⟨cv xc,xa.xs,xg.toNat,xl⟩,xy⟩:WV) ss).1)/\Mem w0 (aq k (aS (⟨⟨U.1,U.2.1,U.2.2.1,U.2.2.2⟩,xy⟩:aT)) 261::fz U.1::fz U.2.1::L) w':=by
 have ij:=aC;have hk:aW (cv xc)=true:=ij.ae;have zJ:xg.toNat<281474976710656:=ij.gen;have vg:=MU zJ;have BG:4<=(cv xc).blocks.length:=ij.tB;have D0:xl=0\/xl=1:=ij.last;have BH:dM (⟨xg+1,⟨s,ss⟩⟩:dK)=⟨xg.toNat+1,ss⟩:=by simp only[dM,vg]
 refine hY (args:=[_,_]) func224 rfl ntmps224 rfl hw ?_;change Cw _ _ _ _ _ [(0, .pointer (some ⟨k,0,none⟩)),(1,s.val)] (aq k (aS (⟨⟨xc,xa,xg,xl⟩,xy⟩:aT)) 261::fz xc::fz xa::own ck 1 s ss::L);refine cX ?_;refine ag (Ry.to (v':= .int .u64 (xg.toNat:Nat)) (bE rfl) rfl) (ag (Ry.to (v':= .int .u64 ((xg+1).toNat:Int)) (Co (p:=xg.toNat) (q:=1) rfl rfl rfl rfl (by simp only[nb];omega)) (by rw[vg])) (ar ?_));refine ag (cR (v:= .agg (fa (⟨xg+1,⟨s,ss⟩⟩:dK))) rfl (U3 (xg+1) s ss)) (aP ?_);refine ag (Ry.to (v':= .int .i64 xc.size) (bE rfl) rfl) (bb rfl trivial fun lM tK=>Gs ?_);refine ag (aB (v:=lM.val) rfl rfl) (ag (aB (v:= .int .i64 ((da (dM (⟨xg+1,⟨s,ss⟩⟩:dK)) xc.size).2)) rfl rfl) (aY ?_));refine Gb ?_ ?_<;>intro h0
 ·
  have hE:(dQ (⟨⟨cv xc,xa.xs,xg.toNat,xl⟩,xy⟩:WV) ss)=((⟨⟨cv xc,xa.xs,xg.toNat,xl⟩,xy⟩:WV),(da (dM (⟨xg+1,⟨s,ss⟩⟩:dK)) xc.size).2):=by rw[dQ,if_pos (show(da ⟨xg.toNat+1,ss⟩ (cv xc).size).2≠0 by rw[←BH];exact h0),BH];rfl
  refine ar ?_;refine Gr fun w1 hw=>?_;exact⟨(xc,xa,xg,xl),by rw[hE],by rw[hE],ah.mem hw⟩
 refine Gc ?_;refine cg (X:=Nat×Cp) (fun U=>[(0, .pointer (some ⟨k,0,none⟩)),(1,s.val),(5, .int .u64 ((xg+1).toNat:Nat)),(6,lM.val)]) (fun U=>aq k (aS (⟨⟨U.2,xa,xg,xl⟩,xy⟩:aT)) 261::fz U.2::fz xa::own ck 1 s ss::own aQ 1 lM (da (dM (⟨xg+1,⟨s,ss⟩⟩:dK)) xc.size).1::L) (fun U=>(dQ (⟨⟨cv xc,xa.xs,xg.toNat,xl⟩,xy⟩:WV) ss)=gx U.1 ((⟨⟨cv xc,xa.xs,xg.toNat,xl⟩,xy⟩:WV).on (cv U.2)) ss (da (dM (⟨xg+1,⟨s,ss⟩⟩:dK)) xc.size).1/\aW (cv U.2)=true/\dV (cv xc) (cv U.2)/\(cT -(cv U.2).ops).toNat<U.1) (fun U=>U.1) ((cT -(cv xc).ops).toNat+1,xc) ⟨by rw[dQ,if_neg (show ¬(da ⟨xg.toNat+1,ss⟩ (cv xc).size).2≠0 by rw[←BH];exact fun h=>h h0),BH];rfl,hk, .du _,by simp only;omega⟩ sb (fun w hw=>ah.mem hw) ?_;rintro⟨m,d⟩ ⟨bg,aK,bx,di⟩;dsimp only;simp only at bg aK bx di;obtain⟨n,rfl⟩: ∃n,m=n+1:=⟨m -1,oM⟩;refine au ?_;refine bb rfl ⟨aK,by rw[bx.len];omega,D0⟩ fun om HN=>?_;obtain⟨r1,r2,r3,r4⟩:=Ha (c:=cv d) (last:=xl) aK D0;rw[←HN]at r1 r2 r3 r4;have r7:=bx.trans r2;have xU:=r7.len;have U2:=bx.len;have yb:=tw r1;refine Gs ?_;refine ag (aB (v:= .int .i64 ((aZ (cv d) xl).2.1)) rfl rfl) (ag (aB (v:= .int .i64 ((aZ (cv d) xl).2.2)) rfl rfl) (aY ?_));refine Gb ?_ ?_<;>intro h1
 ·
  have hE:(dQ (⟨⟨cv xc,xa.xs,xg.toNat,xl⟩,xy⟩:WV) ss)=((⟨⟨cv xc,xa.xs,xg.toNat,xl⟩,xy⟩:WV).on (cv om),(aZ (cv d) xl).2.2):=by
   rw[bg,gx];refine(if_pos h1).trans ?_;rw[HN];rfl
  refine ar ?_;refine Gr fun w1 hw=>?_;exact⟨(om,xa,xg,xl),by rw[hE],by rw[hE];rfl,ah.mem hw⟩
 have fk:(aZ (cv d) xl).2.2=0:=h1;obtain⟨r5,r6⟩:=r4 fk;have bD:(dQ (⟨⟨cv xc,xa.xs,xg.toNat,xl⟩,xy⟩:WV) ss)=(if(bC (cv om) (aZ (cv d) xl).2.1 (da (dM (⟨xg+1,⟨s,ss⟩⟩:dK)) xc.size).1)=0 then((⟨⟨(bB (cv om) (aZ (cv d) xl).2.1 (da (dM (⟨xg+1,⟨s,ss⟩⟩:dK)) xc.size).1),ss,xg.toNat+1,if mi (bB (cv om) (aZ (cv d) xl).2.1 (da (dM (⟨xg+1,⟨s,ss⟩⟩:dK)) xc.size).1) 1=xg.toNat+1 then 1 else(aZ (cv d) xl).2.1⟩,xy⟩:WV),(0:Int))else if(bC (cv om) (aZ (cv d) xl).2.1 (da (dM (⟨xg+1,⟨s,ss⟩⟩:dK)) xc.size).1)≠9 then((⟨⟨cv xc,xa.xs,xg.toNat,xl⟩,xy⟩:WV).on (bB (cv om) (aZ (cv d) xl).2.1 (da (dM (⟨xg+1,⟨s,ss⟩⟩:dK)) xc.size).1),(bC (cv om) (aZ (cv d) xl).2.1 (da (dM (⟨xg+1,⟨s,ss⟩⟩:dK)) xc.size).1))else gx n ((⟨⟨cv xc,xa.xs,xg.toNat,xl⟩,xy⟩:WV).on (bB (cv om) (aZ (cv d) xl).2.1 (da (dM (⟨xg+1,⟨s,ss⟩⟩:dK)) xc.size).1)) ss (da (dM (⟨xg+1,⟨s,ss⟩⟩:dK)) xc.size).1):=by
  rw[bg,gx];refine(if_neg (fun h=>h fk)).trans ?_;rw[HN];rfl
 refine ar ?_;refine bb rfl ⟨r1,oM,oM⟩ fun kH sH=>aP ?_;refine Gb ?_ ?_<;>intro h2
 ·
  have fQ:(bC (cv om) (aZ (cv d) xl).2.1 (da (dM (⟨xg+1,⟨s,ss⟩⟩:dK)) xc.size).1)=0:=h2;rw[if_pos fQ]at bD;refine au ?_;refine cO (bK rfl ⟨by rw[sH];exact mg r1 _ _,oM,by rw[sH,(iY _ _ _).len];omega⟩) (al ?_);refine Gb ?_ ?_<;>intro h3
  ·have hE:=bD;rw[if_pos (show mi (bB (cv om) (aZ (cv d) xl).2.1 (da (dM (⟨xg+1,⟨s,ss⟩⟩:dK)) xc.size).1) 1=xg.toNat+1 by rw[←sH];omega)]at hE;refine Gi ?_;refine rh ?_;refine dO (cs':=aS (⟨⟨kH,⟨s,ss⟩,xg,xl⟩,xy⟩:aT)) rfl rfl (by show 6<10;decide) (by first|rfl|exact Sv.one _) rfl (al ?_);refine dO (cs':=aS (⟨⟨kH,⟨s,ss⟩,(xg+1),xl⟩,xy⟩:aT)) rfl rfl (by show 7<10;decide) (by first|rfl|exact Sv.one _) rfl (al ?_);refine dO (cs':=aS (⟨⟨kH,⟨s,ss⟩,(xg+1),1⟩,xy⟩:aT)) rfl rfl (by show 8<10;decide) (by first|rfl|exact Sv.one _) rfl (al ?_);refine Gr fun w1 hw=>?_;exact⟨(kH,⟨s,ss⟩,xg+1,1),by rw[hE],by rw[hE,sH,vg],ah.mem (zh (a:=⟨s,ss⟩) (ah.mem hw:Mem w0 (own ck 1 s ss::aq k (aS (⟨⟨kH,⟨s,ss⟩,xg+1,1⟩,xy⟩:aT)) 261::fz kH::L) _))⟩
  have hE:=bD;rw[if_neg (show ¬mi (bB (cv om) (aZ (cv d) xl).2.1 (da (dM (⟨xg+1,⟨s,ss⟩⟩:dK)) xc.size).1) 1=xg.toNat+1 by rw[←sH];omega)]at hE;refine rZ ?_;refine dO (cs':=aS (⟨⟨kH,⟨s,ss⟩,xg,xl⟩,xy⟩:aT)) rfl rfl (by show 6<10;decide) (by first|rfl|exact Sv.one _) rfl (al ?_);refine dO (cs':=aS (⟨⟨kH,⟨s,ss⟩,(xg+1),xl⟩,xy⟩:aT)) rfl rfl (by show 7<10;decide) (by first|rfl|exact Sv.one _) rfl (al ?_);refine dO (cs':=aS (⟨⟨kH,⟨s,ss⟩,(xg+1),(aZ (cv d) xl).2.1⟩,xy⟩:aT)) rfl rfl (by show 8<10;decide) (by first|rfl|exact Sv.one _) rfl (al ?_);refine Gr fun w1 hw=>?_;exact⟨(kH,⟨s,ss⟩,xg+1,(aZ (cv d) xl).2.1),by rw[hE],by rw[hE,sH,vg],ah.mem (zh (a:=⟨s,ss⟩) (ah.mem hw:Mem w0 (own ck 1 s ss::aq k (aS (⟨⟨kH,⟨s,ss⟩,xg+1,(aZ (cv d) xl).2.1⟩,xy⟩:aT)) 261::fz kH::L) _))⟩
 have fQ: ¬(bC (cv om) (aZ (cv d) xl).2.1 (da (dM (⟨xg+1,⟨s,ss⟩⟩:dK)) xc.size).1)=0:=h2;refine ar ?_;refine Gb ?_ ?_<;>intro h4
 ·have hE:=bD;rw[if_neg fQ,if_pos (show(bC (cv om) (aZ (cv d) xl).2.1 (da (dM (⟨xg+1,⟨s,ss⟩⟩:dK)) xc.size).1)≠9 from h4)]at hE;refine ar ?_;refine Gr fun w1 hw=>?_;exact⟨(kH,xa,xg,xl),by rw[hE],by rw[hE,sH];rfl,ah.mem hw⟩
 refine gF ?_;have ki:(bC (cv om) (aZ (cv d) xl).2.1 (da (dM (⟨xg+1,⟨s,ss⟩⟩:dK)) xc.size).1)=9:=h4;have DZ:=uM r6 (p:=(da (dM (⟨xg+1,⟨s,ss⟩⟩:dK)) xc.size).1) (.inl ki);have MS:=tw (mg r1 (aZ (cv d) xl).2.1 (da (dM (⟨xg+1,⟨s,ss⟩⟩:dK)) xc.size).1);rw[DZ]at MS;exact bo (x:=(n+1,d)) (n,kH) ⟨by rw[bD,if_neg fQ,if_neg (fun h=>h ki),sH],by rw[sH];exact mg r1 _ _,by rw[sH];exact r7.trans (iY _ _ _),by rw[sH,DZ];omega⟩ (by simp only;omega) sb (fun w hw=>ah.mem hw)
instance asa{w0:World}{L R1 R2 R3 L2:List ai}{i0 i1 i2 i3:Nat}{k:Nat}{xc:Cp}{xa:Sl Int}{xg:UInt64}{xl:Int}{xy:Bool}{s:Sv}{ss:List Int}[q0:Has L k (aS (⟨⟨xc,xa,xg,xl⟩,xy⟩:aT)) 261 i0][d0:ct L i0 R1][q1:At R1 (fz xc) i1][d1:ct R1 i1 R2][q2:At R2 (fz xa) i2][d2:ct R2 i2 R3][q3:gg R3 s ck 1 ss i3][d3:ct R3 i3 L2]:bY prog 224 w0 L [.pointer (some ⟨k,0,none⟩),s.val] (Cp×Sl Int×UInt64×Int) (fun U=> .int .i64 ((dQ (⟨⟨cv xc,xa.xs,xg.toNat,xl⟩,xy⟩:WV) ss).2)) (fun U=>aq k (aS (⟨⟨U.1,U.2.1,U.2.2.1,U.2.2.2⟩,xy⟩:aT)) 261::fz U.1::fz U.2.1::L2) (fun U=>(⟨⟨cv U.1,U.2.1.xs,U.2.2.1.toNat,U.2.2.2⟩,xy⟩:WV)=(dQ (⟨⟨cv xc,xa.xs,xg.toNat,xl⟩,xy⟩:WV) ss).1) (db (⟨⟨cv xc,xa.xs,xg.toNat,xl⟩,xy⟩:WV)):=⟨fun hp w hw=>agn w0 w L2 k xc xa xg xl xy s ss (T7 q0.h d0.h q1.h d1.h q2.h d2.h q3.h d3.h hw) hp⟩
end Go.Proofs.YtkggjjnhnjjokaaGreatDoor
