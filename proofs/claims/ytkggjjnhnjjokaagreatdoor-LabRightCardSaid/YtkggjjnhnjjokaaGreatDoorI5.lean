/- Laws and walks by which the law LabRight is proved, each with its own conditions. -/
import Derived.Test.YtkggjjnhnjjokaaGreatDoorI4
set_option maxRecDepth 20000
set_option linter.unusedSimpArgs false
set_option linter.unusedVariables false
namespace Go.Proofs.YtkggjjnhnjjokaaGreatDoor
open Go.ay Go.Kb Go.RowKit
variable {w0:World}{L:List ah}
instance ajg{b:Sv}{bs:List UInt8}[hb:cS w0 L aL 1 b bs]:bD Tryz.prog 269 w0 L [.int .u32 0,b.val] (.int .u32 (pv bs:Nat)) (True):=⟨fun aw w hw=>by
 have hb:=hb.h w hw;have wR:Gv w b aL 1 bs:=⟨hb⟩;have iZ:=hb.bd;refine cD Tryz.func269 rfl Tryz.ntmps269 rfl ?_;refine an ?_;refine ae (MR (p:=0) rfl rfl (by decide)) (aQ ?_);refine bI (X:=Nat) (fun U=>[(13, .int .i64 (U:Nat)),(5, .int .u32 (jI 4294967295 (bs.take U):Nat)),(11,b.val),(12, .int .i64 (bs.length:Nat))]) (fun U=>[]) (fun U=>U<=bs.length) (fun U=>bs.length -U) 0 (amK _) sb (fun w hw=>ag.mem hw) ?_;rintro i hi;have bx:jI 4294967295 (bs.take i)<2^32:=CT (by decide) _;refine aj ?_;refine Gb ?_ ?_<;>intro h0
 ·
  obtain⟨y,he⟩:=get_some (xs:=bs) (i:=i) oM;have hy:=y.toNat_lt;have dz:jI 4294967295 (bs.take i)^^^y.toNat<2^32:=aoG (CT (by decide) _) oM;refine Gc ?_;refine ae (aY rfl rfl i rfl oM) (ae (bB (j:=0) rfl i he rfl (by decide)) (an ?_));refine ae (iS rfl (by simp only[nb];omega)) (ae (JA rfl rfl rfl rfl (by simp only[nb];omega) (by simp only[nb];omega)) (an ?_));refine bI (X:=Nat) (fun U=>[(21, .int .i64 (U:Nat)),(5, .int .u32 ((mQ (jI 4294967295 (bs.take i)^^^y.toNat) U):Nat)),(11,b.val),(12, .int .i64 (bs.length:Nat)),(13, .int .i64 (i:Nat))]) (fun U=>[]) (fun U=>U<=8) (fun U=>8 -U) 0 (amK _) sb (fun w hw=>ag.mem hw) ?_;rintro k hk;refine aj ?_;refine Gb ?_ ?_<;>intro h1
  ·
   have wa:(mQ (jI 4294967295 (bs.take i)^^^y.toNat) k)<2^32:=GH dz k;have Gx:(mQ (jI 4294967295 (bs.take i)^^^y.toNat) k)/2<2^32:=by omega
   refine ao ?_;refine ae (Ry.to (v':= .int .u32 (((mQ (jI 4294967295 (bs.take i)^^^y.toNat) k)%2:Nat):Int)) (Jz (p:=(mQ (jI 4294967295 (bs.take i)^^^y.toNat) k)) (q:=1) rfl rfl rfl rfl (by simp only[nb];omega) (by decide)) (by rw[Nat.and_one_is_mod])) (aj ?_);refine ae (ub (p:=(mQ (jI 4294967295 (bs.take i)^^^y.toNat) k)) rfl rfl (by simp only[nb];omega) oM) (an ?_);refine ae (RO (p:=3988292384) (q:=(mQ (jI 4294967295 (bs.take i)^^^y.toNat) k)%2) rfl rfl rfl rfl (by simp only[nb];omega)) ?_;refine ae (Ry.to (v':= .int .u32 ((mQ (jI 4294967295 (bs.take i)^^^y.toNat) (k+1):Nat):Int)) (JA (p:=(mQ (jI 4294967295 (bs.take i)^^^y.toNat) k)/2^1) (q:=3988292384*((mQ (jI 4294967295 (bs.take i)^^^y.toNat) k)%2)) rfl rfl rfl rfl (by simp only[nb];omega) (by simp only[nb];omega)) (by rw[mQ,GG];rcases Nat.mod_two_eq_zero_or_one (mQ (jI 4294967295 (bs.take i)^^^y.toNat) k)with h|h<;>rw[h]<;>rfl)) ?_;refine an ?_;refine Gi ?_;exact bg (x:=(k)) (k+1) oF oF sb (fun w hw=>ag.mem hw)
  obtain rfl:k=8:=by omega
  refine aj ?_;refine Gi ?_;exact bg (x:=(i)) (i+1) oF oF (Sub.cons rfl (Sub.cons (look_eq rfl (by rw[Vj he];rfl)) sb)) (fun w hw=>ag.mem hw)
 obtain rfl:i=bs.length:=by omega
 refine ao ?_;refine ae (MR (p:=jI 4294967295 (bs.take bs.length)) rfl rfl (CT (by decide) _)) (ao ?_);refine Gr fun w1 hw=>?_;exact⟨(by rw[amN];rfl),ag.mem hw⟩⟩
instance ajh{b:Sv}{bs:List UInt8}[hb:cS w0 L aL 1 b bs]:bD Tryz.prog 229 w0 L [b.val] (.int .u32 (pv bs:Nat)) (True):=⟨fun aw w hw=>by
 have hb:=hb.h w hw;have wR:Gv w b aL 1 bs:=⟨hb⟩;refine bQ Tryz.func229 rfl Tryz.ntmps229 rfl ?_;refine ct ?_;refine Gr fun w1 hw=>?_;exact⟨rfl,ag.mem hw⟩⟩
instance aji{n:Nat}{many:Nat}:bK Tryz.prog 112 w0 L [.int .u64 (n:Nat), .int .i64 (many:Nat)] (Sv) (fun U=>U.val) (fun U=>own aL 1 U (be n many)::L) (fun U=>True) (n<2^64/\1<=many/\many<=8):=⟨fun aw w hw=>Gk (fun U=>[own aL 1 U (be n many)]) hw (by
 obtain⟨lG,kV,oX⟩:=aw;refine cD Tryz.func112 rfl Tryz.ntmps112 rfl ?_;refine nO ?_;refine Gb ?_ ?_<;>intro h0
 ·
  exfalso;omega
 refine ao ?_;refine sJ (enc:=aL) (n:=many) (cap:=many) 0 rfl rfl rfl rfl rfl oM oM oM fun DK=>aj ?_;refine ae (Ry.to (v':= .int .i64 (many:Nat)) (q6 rfl) (by simp)) (ao ?_);refine bI (X:=Nat) (fun U=>[(17, .int .i64 (U:Nat)),(5,(⟨false,DK,0,many,many,none⟩:Sv).val),(0, .int .u64 (n:Nat)),(1, .int .i64 (many:Nat)),(16, .int .i64 (many:Nat))]) (fun U=>[own aL 1 ⟨false,DK,0,many,many,none⟩ (List.replicate (many -U) (0:UInt8)++be n U)]) (fun U=>U<=many) (fun U=>many -U) 0 (amK _) sb (fun w hw=>by rw[show List.replicate (many -0) (0:UInt8)++be n 0=List.replicate many 0 from by rw[be,am4,Nat.sub_zero]];exact ag.mem hw) ?_;rintro i hi;have dY:=mG n i;have xW:(List.replicate (many -i) (0:UInt8)++be n i).length=many:=by rw[adr,amZ,dY];omega
 refine aj ?_;refine Gb ?_ ?_<;>intro h1
 ·
  refine ou ?_;refine ae (jX rfl rfl oM) (ae (Ry.to (v':= .int .u64 ((n/256^i:Nat):Int)) (ub (p:=n) rfl rfl (by simp only[nb];omega) oM) (by rw[show(8*(i:Int)).toNat=8*i by omega,Nat.pow_mul])) (ae (zF rfl rfl) (ae (aY rfl rfl (many -1 -i) oM oM) ?_)));refine Yv rfl rfl (by rw[amC (by rw[amZ];omega),aoi,if_pos oM]) rfl ?_;refine aj ?_;refine Gi ?_;exact bg (x:=(i)) (i+1) oF oF sb (fun w hw=>by rw[VW oM]at hw;exact ag.mem hw)
 have Zo:i=many:=by omega
 refine an ?_;refine Gr fun w1 hw=>?_;exact⟨⟨false,DK,0,many,many,none⟩,rfl,trivial,by rw[Zo,anZ,List.replicate_zero,am6]at hw;exact ag.mem hw⟩)⟩
instance ajj{b:Sv}{bs:List UInt8}[hb:cS w0 L aL 1 b bs]:bD Tryz.prog 113 w0 L [b.val] (.int .u64 (de bs:Nat)) (bs.length<=7):=⟨fun aw w hw=>by
 have hb:=hb.h w hw;have wR:Gv w b aL 1 bs:=⟨hb⟩;refine bQ Tryz.func113 rfl Tryz.ntmps113 rfl ?_;refine fS ?_;refine bI (X:=Nat) (fun U=>[(8, .int .i64 (U:Nat)),(3, .int .u64 (de (bs.take U):Nat)),(6,b.val),(7, .int .i64 (bs.length:Nat))]) (fun U=>[]) (fun U=>U<=bs.length) (fun U=>bs.length -U) 0 (amK _) sb (fun w hw=>ag.mem hw) ?_;rintro i hi;refine aj ?_;refine Gb ?_ ?_<;>intro h0
 ·
  obtain⟨y,he⟩:=get_some (xs:=bs) (i:=i) oM;have hy:=y.toNat_lt;have bx:de (bs.take i)<256^6:=ant (EU bs i hi) (ank (by decide) oM);refine Gc ?_;refine ae (aY rfl rfl i rfl oM) (ae (bB (j:=0) rfl i he rfl (by decide)) (aj ?_));refine ae (VU (p:=de (bs.take i)) rfl rfl rfl oM) (Gs ?_);refine ae (iS rfl (by simp only[nb];omega)) (ae (zu (p:=de (bs.take i)*256) (q:=y.toNat) rfl rfl rfl rfl (by simp only[nb];omega) (by simp only[nb];omega)) (an ?_));refine Gi ?_;exact bg (x:=(i)) (i+1) oF oF (Sub.cons rfl (Sub.cons (look_eq rfl (by rw[JX he,JY _ _ hy])) sb)) (fun w hw=>ag.mem hw)
 obtain rfl:i=bs.length:=by omega
 refine an ?_;refine Gr fun w1 hw=>?_;exact⟨(by rw[amN]),ag.mem hw⟩⟩
instance ajk{n:Nat}:bK Tryz.prog 185 w0 L [.slice none 0 0, .int .i64 (n:Nat)] (Sv) (fun U=>U.val) (fun U=>own aL 1 U ([]:List UInt8)::L) (fun U=>True) (n<=1000000000):=⟨fun aw w hw=>Gk (fun U=>[own aL 1 U ([]:List UInt8)]) hw (by
 refine cD Tryz.func185 rfl Tryz.ntmps185 rfl ?_;refine aQ ?_;refine Gb ?_ ?_<;>intro h0
 ·
  exfalso;omega
 refine aj ?_;refine ae (CU rfl) (Gs ?_);refine ae (vp rfl) (ct ?_);refine Gb ?_ ?_<;>intro h1
 ·
  refine Gi ?_;refine ao ?_;refine ae (CU rfl) (ae (Ry.to (v':= .slice none 0 0) (ue (s:=Sv.none) (h:=0) rfl rfl rfl Sv.zx (amz _)) rfl) (Gs ?_));refine Mq (enc:=aL) (k:=n) (0:UInt8) rfl rfl oM oM (by decide) rfl Tryz.underlying3 oM oM fun AY AZ Ib=>Gs ?_;refine ae (vp rfl) (ae (ue (s:=⟨false,AY,0,n,AZ,none⟩) (h:=0) rfl rfl rfl ⟨(fun h=>by cases h),Ib,by simp only;omega,fun _=>rfl⟩ (amK _)) (aG ?_));refine Gr fun w1 hw=>?_;refine⟨Sv.sub ⟨false,AY,0,n,AZ,none⟩ 1 0 0,rfl,trivial,?_⟩;have fE:=Mem.Mp (i:=0) (k:=0) hw rfl (amK _);rw[amL]at fE;exact fE
 have hn:n=0:=by omega
 refine an ?_;refine Gr fun w1 hw=>?_;exact⟨Sv.none,rfl,trivial,(ag.mem hw:Mem w [] _).cJ aL 1⟩)⟩
instance ajl{a:Sl (Sl UInt8)}[ha:aU w0 L a]:bK Tryz.prog 111 w0 L [a.sv.val] (Sv) (fun U=>U.val) (fun U=>own aL 1 U (jJ a.xs)::L) (fun U=>True) ((jJ a.xs).length<=1000000):=⟨fun aw w hw=>Gk (fun U=>[own aL 1 U (jJ a.xs)]) hw (by
 have ha:=ha.h w hw;have Ic:cw w a:=⟨ha⟩;have mw:=ha.1.bd;have dM:=Vn a.xs;refine bQ Tryz.func111 rfl Tryz.ntmps111 rfl ?_;refine fS ?_;refine bI (X:=Nat) (fun U=>[(11, .int .i64 (U:Nat)),(3, .int .i64 ((jJ (a.xs.take U)).length:Nat)),(0,a.sv.val),(9,a.sv.val),(10, .int .i64 (a.xs.length:Nat))]) (fun U=>[]) (fun U=>U<=a.xs.length) (fun U=>a.xs.length -U) 0 (amK _) sb (fun w hw=>ag.mem hw) ?_;rintro i hi;have xJ:=dM i;have kl:=dM (i+1);refine aj ?_;refine Gb ?_ ?_<;>intro h0
 ·
  refine kp ?_;obtain⟨x,hx⟩:=get_some (xs:=a.xs) (i:=i) oM;refine ae (aY rfl rfl i rfl oM) (ae (bB (j:=0) rfl i hx rfl (by decide)) ?_);have Zp:(jJ (a.xs.take (i+1))).length=(jJ (a.xs.take i)).length+x.xs.length:=by rw[CW hx,adr]
  have DL:Mb x _:=⟨List.mem_of_getElem? hx⟩;refine ou ?_;refine Gb ?_ ?_<;>intro h1
  ·
   exfalso;omega
  refine aj ?_;refine Gi ?_;exact bg (x:=(i)) (i+1) oF oF (Sub.cons rfl (Sub.cons (look_eq rfl (by rw[CW hx,adr];simp)) sb)) (fun w hw=>ag.mem hw)
 obtain rfl:i=a.xs.length:=by omega
 have kN:=dM a.xs.length;refine ao ?_;refine aW rfl oM fun u9 Ie=>aQ ?_;refine bI (X:=Nat×Sv) (fun U=>[(27, .int .i64 (U.1:Nat)),(6,U.2.val),(25,a.sv.val),(26, .int .i64 (a.xs.length:Nat))]) (fun U=>[own aL 1 U.2 (jJ (a.xs.take U.1))]) (fun U=>U.1<=a.xs.length) (fun U=>a.xs.length -U.1) (0,u9) (Nat.zero_le _) sb (fun w hw=>(ag.mem hw:Mem _ [own aL 1 u9 ([]:List UInt8)] _)) ?_;rintro⟨k,s1⟩ hk;dsimp only;simp only at hk;have xJ:=dM k;have kl:=dM (k+1);refine aj ?_;refine Gb ?_ ?_<;>intro h2
 ·
  refine kp ?_;obtain⟨y,hy⟩:=get_some (xs:=a.xs) (i:=k) oM;refine ae (aY rfl rfl k rfl oM) (ae (bB (j:=0) rfl k hy rfl (by decide)) ?_);have Zq:(jJ (a.xs.take (k+1))).length=(jJ (a.xs.take k)).length+y.xs.length:=by rw[CW hy,adr]
  have Pe:Mb y _:=⟨List.mem_of_getElem? hy⟩;refine an ?_;refine jY (s:=s1) (ys:=y.xs) rfl rfl (by decide) (fun w hw=>gP (s:=y.sv) Tryz.underlying53 (by decide) ((inferInstance:Hd _ _ y.sv aL 1 y.xs).h w hw)) oM oM fun yM Pf Pg=>?_;refine an ?_;refine Gi ?_;exact bg (x:=(k,s1)) (k+1,yM) (by simp only;omega) (by simp only;omega) sb (fun w hw=>by rw[CW hy];exact ag.mem hw)
 obtain rfl:k=a.xs.length:=by omega
 refine an ?_;refine Gr fun w1 hw=>?_;exact⟨s1,rfl,trivial,by rw[amN]at hw;exact ag.mem hw⟩)⟩
instance ajm{s:Sv}{ss:List UInt8}[hs:cS w0 L aL 1 s ss]:bK Tryz.prog 230 w0 L [s.val] (Sv) (fun U=>U.val) (fun U=>own aL 1 U ss::L) (fun U=>True) (ss.length<=1000000):=⟨fun aw w hw=>Gk (fun U=>[own aL 1 U ss]) hw (by
 have hs:=hs.h w hw;have wG:Gv w s aL 1 ss:=⟨hs⟩;refine bQ Tryz.func230 rfl Tryz.ntmps230 rfl ?_;refine an ?_;refine ae (sL Tryz.underlying53 rfl) (Gc ?_);refine Gb ?_ ?_<;>intro h0
 ·
  have e0:ss=[]:=amB.1 (by have:=hs.ok.nil h0;have:=hs.len;omega);refine aj ?_;refine Gr fun w1 hw=>?_;exact⟨Sv.none,rfl,trivial,by rw[e0];exact(ag.mem hw:Mem w [] _).cJ aL 1⟩
 refine Gc ?_;refine uj aL fun b5=>Gs ?_;refine jY (s:=⟨false,b5,0,0,0,none⟩) (ys:=ss) rfl rfl (by decide) (fun w hw=>gP (s:=s) Tryz.underlying53 (by decide) ((inferInstance:Hd _ _ s aL 1 ss).h w hw)) (by simp only[adr,ad2,af0];omega) (by simp only[adr,ad2,af0];omega) fun s7 wH uU=>?_;refine ao ?_;refine Gr fun w1 hw=>?_;exact⟨s7,rfl,trivial,by simpa using hw⟩)⟩
instance:dH Tryz.prog 324 (.agg (cG mY)):=⟨by kernel_rfl⟩
instance ajn{n:Int}:bD Tryz.prog 144 w0 L [.int .i64 n] (.bool (rE n)) (True):=⟨fun aw w hw=>by
 refine bQ Tryz.func144 rfl Tryz.ntmps144 rfl ?_;refine ou ?_;refine Gr fun w1 hw=>?_;exact⟨congrArg (fun b=>Ending.returned (Value.bool b)) (rfl),ag.mem hw⟩⟩
instance ajo{n:Int}:bD Tryz.prog 76 w0 L [.int .i64 n] (.int .i64 (fj n)) (True):=⟨fun aw w hw=>by
 refine bQ Tryz.func76 rfl Tryz.ntmps76 rfl ?_;refine ct ?_;refine Gb ?_ ?_<;>intro h0
 ·
  refine aj ?_;refine Gr fun w1 hw=>?_;exact Gf ((by rw[fj,if_neg (by rw[h0];simp)])) hw
 have hf:=Aw.1 h0;refine aG ?_;refine Gr fun w1 hw=>?_;exact⟨congrArg (fun b=>Ending.returned (Value.int .i64 b)) ((by rw[fj,if_pos h0])),ag.mem hw⟩⟩
instance ajp{x:dW}{n:Int}[hx:aU w0 L x]:bD Tryz.prog 268 w0 L [.agg (cG x), .int .i64 n] (.bool (yc (cA x) n)) (True):=⟨fun aw w hw=>by
 have hx:=hx.h w hw;have va:cw w x:=⟨hx⟩;refine cD Tryz.func268 rfl Tryz.ntmps268 rfl ?_;refine Gc ?_;refine bJ rfl fun b2=>ao ?_;refine gO oK oK (Gq ?_);refine kM (br rfl trivial) (an ?_);refine eZ rfl rfl rfl (fun hg=>(Ry.yl (ba (au hg rfl)))) (EE rfl rfl rfl (fun hg=>(Ry.yl (aK (o':=0) rfl rfl))) (EE rfl rfl rfl (fun hg=>(Ry.yl (bA (au hg rfl)))) (EE rfl rfl rfl (fun hg=>(Ry.yl (da (au hg rfl) rfl rfl))) (eZ rfl rfl rfl (fun hg=>(Ry.yl (w9 (au hg rfl) rfl (qV hg rfl)))) (T4 ?_)))));refine eZ rfl rfl rfl (fun hg=>br (dB (au hg rfl) gk) trivial) (an ?_);refine Gr fun w1 hw=>?_;exact⟨congrArg (fun b=>Ending.returned (Value.bool b)) ((by simp only[yc,cA];rw[show decide ((x.gen.toNat:Int)<281474976710656)=decide (x.gen.toNat<281474976710656)from decide_eq_decide.2 oM];rfl)),ag.mem hw⟩⟩
instance ajq{b:Sv}{bs:List UInt8}[hb:cS w0 L aL 1 b bs]:bD Tryz.prog 267 w0 L [b.val] (.bool (pw bs)) (True):=⟨fun aw w hw=>by
 have hb:=hb.h w hw;have wR:Gv w b aL 1 bs:=⟨hb⟩;have iZ:=hb.bd;refine bQ Tryz.func267 rfl Tryz.ntmps267 rfl ?_;refine ct ?_;refine bI (X:=Nat) (fun U=>[(7, .int .i64 (U:Nat)),(5,b.val),(6, .int .i64 (bs.length:Nat))]) (fun U=>[]) (fun U=>U<=bs.length/\ ∀j x,j<U->bs[j]? =Option.some x->x=255) (fun U=>bs.length -U) 0 ⟨Nat.zero_le _,fun j x hj=>by first|omega|(simp only[];omega)⟩ sb (fun w hw=>ag.mem hw) ?_;rintro i ⟨bf,aF⟩;refine aj ?_;refine Gb ?_ ?_<;>intro h0
 ·
  refine kp ?_;obtain⟨y,hy⟩:=get_some (xs:=bs) (i:=i) oM;refine ae (aY rfl rfl i rfl oM) (ae (bB (j:=0) rfl i hy rfl (by decide)) (aG ?_));refine Gb ?_ ?_<;>intro h1
  ·
   have hz:pw bs=false:=by
    cases hk:pw bs with
    |false=>rfl
    |true=>exact absurd (congrArg UInt8.toNat (MW.1 hk y (amm hy))) (by intro e;exact h1 (by rw[e];rfl))
   refine aj ?_;refine Gr fun w1 hw=>?_;exact Ge (hz.symm) hw
  have Ig:y=255:=an5.1 (show y.toNat=255 by omega);refine aj ?_;refine Gi ?_;exact bg (x:=(i)) (i+1) ⟨oF,fun j x hj hx=>if e:j=i then(by subst e;rw[hy]at hx;cases hx;exact Ig)else aF j x oF hx⟩ oF sb (fun w hw=>ag.mem hw)
 obtain rfl:i=bs.length:=by omega
 have hz:pw bs=true:=MW.2 fun x hx=>by
  obtain⟨j,hj⟩:=am9 hx;exact aF j x (zz.1 hj).1 hj
 refine aj ?_;refine Gr fun w1 hw=>?_;exact⟨congrArg (fun b=>Ending.returned (Value.bool b)) (hz.symm),ag.mem hw⟩⟩
instance:dH Tryz.prog 314 (.agg (dI ku)):=⟨by kernel_rfl⟩
instance ajr{n:Int}:bD Tryz.prog 143 w0 L [.int .i64 n] (.int .i64 (lB n)) (True):=⟨fun aw w hw=>by
 have Zr:rE n=true->24<=n/\n<=256:=fun h=>Aw.1 h;have hrb:0<=fj n/\fj n<=240:=by
  by_cases h:rE n=true
  ·
   have:=Zr h;rw[fj,if_pos h];omega
  rw[fj,if_neg h];omega
 refine bQ Tryz.func143 rfl Tryz.ntmps143 rfl ?_;refine aG ?_;refine ae (kL rfl rfl oM oM) (ae (EB rfl rfl) (ao ?_));refine Gr fun w1 hw=>?_;exact⟨congrArg (fun b=>Ending.returned (Value.int .i64 b)) (rfl),ag.mem hw⟩⟩
instance ajs{r:cU}{n:Int}[hr:aU w0 L r]:bD Tryz.prog 254 w0 L [.agg (dI r), .int .i64 n] (.bool (td (cZ r) n)) (True):=⟨fun aw w hw=>by
 have hr:=hr.h w hw;have Zs:cw w r:=⟨hr⟩;have iZ:=hr.1.bd;refine cD Tryz.func254 rfl Tryz.ntmps254 rfl ?_;refine Gc ?_;refine bJ rfl fun b2=>ao ?_;refine gO oK oK (Gq ?_);refine kM (br rfl trivial) (ou ?_);refine ie rfl rfl rfl (fun hg=>br (dB (au hg rfl) gk) trivial) (aj ?_);refine Gb ?_ ?_<;>intro h0
 ·
  have hz:td (cZ r) n=false:=by
   cases hk:td (cZ r) n with
   |false=>rfl
   |true=>
    obtain⟨g1,g2,g3,g4⟩:=Ax.1 hk;simp only[cZ]at g2 g3;omega
  refine aj ?_;refine Gr fun w1 hw=>?_;exact Ge (hz.symm) hw
 have g0:fj n≠0/\r.gen.toNat<281474976710656/\(r.at_.xs.length:Int)<=lB n:=⟨by omega,by omega,by omega⟩;refine aQ ?_;refine bI (X:=Nat) (fun U=>[(26, .int .i64 (U:Nat)),(24,r.at_.sv.val),(25, .int .i64 (r.at_.xs.length:Nat))]) (fun U=>[al b2 (dI r) 314]) (fun U=>U<=r.at_.xs.length/\ ∀j x,j<U->r.at_.xs[j]? =Option.some x->yf x=true) (fun U=>r.at_.xs.length -U) 0 ⟨Nat.zero_le _,fun j x hj=>by first|omega|(simp only[];omega)⟩ sb (fun w hw=>ag.mem hw) ?_;rintro i ⟨bf,aF⟩;refine aj ?_;refine Gb ?_ ?_<;>intro h1
 ·
  refine kp ?_;obtain⟨y,hy⟩:=get_some (xs:=r.at_.xs) (i:=i) oM;refine ae (aY rfl rfl i rfl oM) (ae (bB (j:=0) rfl i hy rfl (by decide)) (fS ?_));refine Gb ?_ ?_<;>intro h2
  ·
   have hz:td (cZ r) n=false:=by
    cases hk:td (cZ r) n with
    |false=>rfl
    |true=>
     have g:=G0.1 ((Ax.1 hk).2.2.2 y (amm hy));omega
   refine aj ?_;refine Gr fun w1 hw=>?_;exact Ge (hz.symm) hw
  have Ih:yf y=true:=G0.2 ⟨by omega,by omega⟩;refine aj ?_;refine Gi ?_;exact bg (x:=(i)) (i+1) ⟨oF,fun j x hj hx=>if e:j=i then(by subst e;rw[hy]at hx;cases hx;exact Ih)else aF j x oF hx⟩ oF sb (fun w hw=>ag.mem hw)
 obtain rfl:i=r.at_.xs.length:=by omega
 have hz:td (cZ r) n=true:=Ax.2 ⟨g0.1,g0.2.1,g0.2.2,fun x hx=>by
  obtain⟨j,hj⟩:=am9 hx;exact aF j x (zz.1 hj).1 hj⟩
 refine aj ?_;refine Gr fun w1 hw=>?_;exact⟨congrArg (fun b=>Ending.returned (Value.bool b)) (hz.symm),ag.mem hw⟩⟩
instance:dH Tryz.prog 63 (.agg (cj kv)):=⟨by kernel_rfl⟩
instance ajt{c:Cp}[hc:aU w0 L c]:bD Tryz.prog 164 w0 L [.agg (aS c)] (.bool (rG (cv c))) (True):=⟨fun aw w hw=>by
 have hc:=hc.h w hw;have jS:cw w c:=⟨hc⟩;refine bQ Tryz.func164 rfl Tryz.ntmps164 rfl ?_;refine Gc ?_;refine bJ rfl fun b1=>T5 ?_;refine Gr fun w1 hw=>?_;exact⟨congrArg (fun b=>Ending.returned (Value.bool b)) ((by simp only[rG,cv,fT];rfl)),ag.mem hw⟩⟩
instance aju{c:Cp}[hc:aU w0 L c]:bK Tryz.prog 165 w0 L [.agg (aS c)] (Cp) (fun U=> .agg (aS U)) (fun U=>fz U::L) (fun U=>cv U=cv c) (fe c):=⟨fun aw w hw=>Gk (fun U=>[fz U]) hw (by
 have hc:=hc.h w hw;have jS:cw w c:=⟨hc⟩;refine bQ Tryz.func165 rfl Tryz.ntmps165 rfl ?_;refine Gc ?_;refine bJ rfl fun b1=>bc fun b2=>an ?_;refine aW rfl (by assumption) fun x9 A0=>Gs ?_;refine ae (ax (v:= .agg (aS x9)) rfl rfl) (ae (ax (v:= .int .i64 (lX (cv c) c.bb.xs)) rfl rfl) (bc fun b3=>aQ ?_));refine cR (cs':=aS (⟨x9.ab,x9.size,x9.blocks,x9.ops,c.off,x9.bb⟩:Cp)) rfl rfl (by show 4<6;decide) (by first|rfl|exact Sv.one _) rfl (an ?_);refine Gr fun w1 hw=>?_;exact⟨(⟨x9.ab,x9.size,x9.blocks,x9.ops,c.off,x9.bb⟩:Cp),rfl,by
  have h9:cv (⟨x9.ab,x9.size,x9.blocks,x9.ops,c.off,x9.bb⟩:Cp)={cv x9 with off:=(cv c).off}:=rfl
  rw[h9,A0];exact Wb (cv c),by
  have h9:Mem w [fz x9] _:=ag.mem hw;exact h9⟩)⟩
instance ajv{s:Sv}{ss:List Int}[hs:cS w0 L bT 1 s ss]:bK Tryz.prog 169 w0 L [s.val] (Sv) (fun U=>U.val) (fun U=>own bT 1 U ss::L) (fun U=>True) (ss.length<=1000000):=⟨fun aw w hw=>Gk (fun U=>[own bT 1 U ss]) hw (by
 have hs:=hs.h w hw;have wG:Gv w s bT 1 ss:=⟨hs⟩;refine bQ Tryz.func169 rfl Tryz.ntmps169 rfl ?_;refine an ?_;refine ae (sL Tryz.underlying60 rfl) (Gc ?_);refine Gb ?_ ?_<;>intro h0
 ·
  have e0:ss=[]:=amB.1 (by have:=hs.ok.nil h0;have:=hs.len;omega);refine aj ?_;refine Gr fun w1 hw=>?_;exact⟨Sv.none,rfl,trivial,by rw[e0];exact(ag.mem hw:Mem w [] _).cJ bT 1⟩
 refine Gc ?_;refine uj bT fun b5=>Gs ?_;refine jY (s:=⟨false,b5,0,0,0,none⟩) (enc:=bT) (ys:=ss) rfl rfl (by decide) (fun w hw=>gP (s:=s) Tryz.underlying60 (by decide) ((inferInstance:cS _ _ bT 1 s ss).h w hw)) (by simp only[af0];omega) (by simp only[af0];omega) fun s7 wH uU=>?_;refine ao ?_;refine Gr fun w1 hw=>?_;exact⟨s7,rfl,trivial,by rw[am6]at hw;exact ag.mem hw⟩)⟩
instance ajw{v:ca}[hv:aU w0 L v]:bK Tryz.prog 175 w0 L [.agg (cj v)] (Cp×Sv) (fun U=> .agg (cj (⟨U.1,⟨U.2,v.at_.xs⟩,v.gen,v.last⟩:ca))) (fun U=>fz U.1::own bT 1 U.2 v.at_.xs::L) (fun U=>cv U.1=cv v.ai) (fe v.ai/\v.at_.xs.length<=1000000):=⟨fun aw w hw=>Gk (fun U:Cp×Sv=>[fz U.1,own bT 1 U.2 v.at_.xs]) hw (by
 have hv:=hv.h w hw;have A1:cw w v:=⟨hv⟩;obtain⟨lG,kV⟩:=aw;refine bQ Tryz.func175 rfl Tryz.ntmps175 rfl ?_;refine Gc ?_;refine bJ rfl fun b1=>bc fun b2=>Gc ?_;refine nN [2,5,7,9,1001,1004,5002,5005] [[],[],[1],[],[],[1,2,4],[1,2,4],[1,2,4,5],[1,2,4,5,7],[1,2,4,5,7]] [0,1,3,4,2,6,5,7,8,9] [] [] oK (fun _ hw=>ag.mem hw) oK oK (ak rfl (aK (o':=0) rfl rfl) (fh rfl (dy rfl) (ak rfl (aK (o':=6) rfl rfl) (fh rfl (bA rfl) (Le rfl (nL rfl (by assumption) fun x5 Zt=>⟨fun _ hw=>ag.mem hw,fun _ hw=>ag.mem hw,?_⟩))))));refine ak rfl (aK (o':=0) rfl rfl) (Le rfl (nL rfl oM fun x8 nr=>⟨fun _ hw=>ag.mem hw,fun _ hw=>ag.mem hw,?_⟩));refine cC rfl (FR (cs':=cj ({v with ai:=x5}:ca)) rfl rfl (by show 0+6<=9;decide) rfl ⟨fun _ hw=>ag.mem hw,?_⟩)
 refine ak rfl (aK (o':=6) rfl rfl) ?_;refine cC rfl (rn (cs':=cj (⟨x5,⟨x8,v.at_.xs⟩,v.gen,v.last⟩:ca)) rfl rfl (by show 6<9;decide) (by first|rfl|exact Sv.one _) rfl ⟨fun _ hw=>ag.mem hw,?_⟩);refine an ?_;refine Gr fun w1 hw=>?_;exact⟨(x5,x8),rfl,Zt,ag.mem hw⟩)⟩
theorem Zu(b:List UInt8)(w:World):(Instr.build 324 #[(0, .int .i64 ((b.getD 0 0).toNat:Int)),(1, .int .i64 ((b.getD 1 0).toNat:Int)),(2, .int .u64 ((de ((b.drop 2).take (8 -2)):Nat):Int))]).run Tryz.prog w= .ok (.agg (cG (tc b))) w:=by
 rw[←MZ];unfold cG tc;generalize UInt64.ofNat (de ((b.drop 2).take (8 -2)))=g;kernel_rfl
instance ajx{b:Sv}{bs:List UInt8}[hb:cS w0 L aL 1 b bs]:bK Tryz.prog 227 w0 L [b.val] (dW) (fun U=> .tuple #[.agg (cG U), .int .i64 ((db bs).2)]) (fun U=>own aL 1 U.body.sv U.body.xs::L) (fun U=>cA U=(db bs).1) (True):=⟨fun aw w hw=>Gk (fun U:dW=>[own aL 1 U.body.sv U.body.xs]) hw (by
 have hb:=hb.h w hw;have wR:Gv w b aL 1 bs:=⟨hb⟩;have iZ:=hb.bd;have ghd:cw w (tc bs):=⟨⟨dL.nil _ _ _,fun x hx=>by cases hx⟩⟩;have Ii:=MY bs;have A2:=GW bs;have zB:=Mo (nf bs);have hK:=V2 bs;refine bQ Tryz.func227 rfl Tryz.ntmps227 rfl ?_;refine Gc ?_;refine bc fun b2=>ct ?_;refine Gb ?_ ?_<;>intro h0
 ·
  have hE:db bs=(jK,3):=by rw[db,if_pos h0]
  refine Gc ?_;refine ae (cr (v:= .agg (cG mY)) rfl (fun w=>by kernel_rfl)) (aj ?_);refine Gr fun w1 hw=>?_;exact⟨mY,by rw[hE],by rw[hE];rfl,Mem.cJ aL 1 (ag.mem hw:Mem w [] _)⟩
 have Zv:=Aw.1 h0;have A3:fj bs.length=bs.length -16:=by rw[fj,if_pos h0]
 refine an ?_;refine Gb ?_ ?_<;>intro h1
 ·
  have hE:db bs=(jK,0):=by rw[db,if_neg (by rw[h0];simp),if_pos h1]
  refine Gc ?_;refine ae (cr (v:= .agg (cG mY)) rfl (fun w=>by kernel_rfl)) (aj ?_);refine Gr fun w1 hw=>?_;exact⟨mY,by rw[hE],by rw[hE];rfl,Mem.cJ aL 1 (ag.mem hw:Mem w [] _)⟩
 refine Gc ?_;refine gO oK oK (an ?_);have OJ:Rg 0 (bs.length -4) bs.length:=⟨by omega⟩;refine bm (J2 rfl rfl (bs.length -4) oM OJ.h.2) (an ?_);have DM:Rg (bs.length -4) bs.length bs.length:=⟨by omega⟩;refine bm (zK rfl rfl (bs.length -4) oM DM.h.1) (an ?_);refine ck (br (v:= .int .u64 ((de (Db bs):Nat):Int)) rfl (by rw[amo,amu];omega)) (Gs ?_);refine ck (br (v:= .int .u32 ((pv (nf bs):Nat):Int)) rfl trivial) (ae (iS rfl (by simp only[nb];omega)) (ao ?_));refine Gb ?_ ?_<;>intro h2
 ·
  have hE:db bs=(jK,4):=by rw[db,if_neg (by rw[h0];simp),if_neg (by rw[h1];simp),if_pos (fun e=>h2 (by rw[e]))]
  refine Gc ?_;refine ae (cr (v:= .agg (cG mY)) rfl (fun w=>by kernel_rfl)) (aj ?_);refine Gr fun w1 hw=>?_;exact⟨mY,by rw[hE],by rw[hE];rfl,Mem.cJ aL 1 (ag.mem hw:Mem w [] _)⟩
 have vW: ¬de (Db bs)≠pv (nf bs):=fun e=>e oM;refine Gc ?_;refine gB [12,13] [[],[],[],[],[],[],[],[],[],[],[],[],[],[12]] [0,1,2,3,4,5,6,7,8,9,10,11,12,13] [] (fun _ hw=>ag.mem hw) oK oK (ak rfl (ba rfl) (ak rfl (aY rfl rfl 0 rfl oM) (ak rfl (bB (j:=0) rfl 0 (jZ (xs:=bs) (i:=0) (d:=0) oM) rfl (by decide)) (ak rfl (sK rfl) (ak rfl (ba rfl) (ak rfl (aY rfl rfl 1 rfl oM) (ak rfl (bB (j:=0) rfl 1 (jZ (xs:=bs) (i:=1) (d:=0) oM) rfl (by decide)) (ak rfl (sK rfl) (ak rfl (ba rfl) ?_)))))))));have Ph:Rg 2 8 bs.length:=⟨by omega⟩;refine ak rfl (zJ rfl rfl rfl 2 8 rfl rfl Ph.h.1 Ph.h.2) (qi rfl (br rfl (by simp;omega)) (ak rfl (cr (v:= .agg (cG (tc bs))) rfl (Zu bs)) (cC rfl (Cz fun b6=>⟨fun _ hw=>ag.mem hw,?_⟩))));refine cC rfl (lV rfl rfl ⟨fun _ hw=>ag.mem hw,?_⟩);refine ao ?_;have Pj:Rg 8 10 bs.length:=⟨by omega⟩;refine ae (zJ rfl rfl rfl 8 10 rfl rfl Pj.h.1 Pj.h.2) (ck (br (v:= .int .u64 ((jk bs:Nat):Int)) rfl (by rw[amo];omega)) (ae (iS rfl (by simp only[nb];omega)) (dV ?_)));refine aV rfl rfl rfl (fun hg=>(Ry.yl (fu rfl))) (ao ?_);refine aV rfl rfl rfl (fun hg=>br (dB (au hg rfl) (dB (au hg rfl) gk)) trivial) (aV rfl rfl rfl (fun hg=>(Ry.yl (kg (au hg rfl)))) (ao ?_));refine Gb ?_ ?_<;>intro h3
 ·
  have oT:rF bs=false:=by
   rw[GX]at h3
   cases hk:rF bs with
   |false=>rfl
   |true=>
    simp only[rF,alM,decide_eq_true_eq]at hk;rw[hk.2]at h3;simp only[anG,or_false]at h3;omega
  have hE:db bs=(jK,2):=by rw[db,if_neg (by rw[h0];simp),if_neg (by rw[h1];simp),if_neg vW,if_pos oT]
  refine Gc ?_;refine ae (cr (v:= .agg (cG mY)) rfl (fun w=>by kernel_rfl)) (aj ?_);refine Gr fun w1 hw=>?_;exact⟨mY,by rw[hE],by rw[hE];rfl,Mem.cJ aL 1 (ag.mem hw:Mem w [] _)⟩
 have oT:rF bs=true:=by
  rw[GX]at h3;simp only[rF,alM,decide_eq_true_eq];exact⟨by omega,h3.2⟩
 have hmr:(jk bs:Int)<=fj bs.length:=by simp only[rF,alM,decide_eq_true_eq]at oT;exact oT.1
 have lI:(oD bs).length=(nf bs).length -(10+jk bs):=by rw[oD,amo,amu];omega
 have gr:Gv w ((b.sub 1 0 (bs.length -4)).sub 1 (10+jk bs) (nf bs).length) aL 1 (oD bs):=⟨(hb.sub (lo:=0) (hi:=bs.length -4) oM oM).sub (lo:=10+jk bs) (hi:=(nf bs).length) oM (amz _)⟩;refine an ?_;have Zw:Rg (10+jk bs) ((nf bs).length) (nf bs).length:=⟨by omega⟩;refine ae (zK rfl rfl (10+jk bs) rfl Zw.h.1) (aj ?_);refine bI (X:=Nat) (fun U=>[(69, .int .i64 (U:Nat)),(0,b.val),(2, .pointer (some ⟨b2,0,none⟩)),(6, .pointer (some ⟨b6,0,none⟩)),(7, .int .i64 (jk bs:Nat)),(67,((b.sub 1 0 (bs.length -4)).sub 1 (10+jk bs) (nf bs).length).val),(68, .int .i64 ((oD bs).length:Nat))]) (fun U=>[al b6 (cG (tc bs)) 324,al b2 (cG mY) 324]) (fun U=>U<=(oD bs).length/\ ∀j x,j<U->(oD bs)[j]? =Option.some x->x=0) (fun U=>(oD bs).length -U) 0 ⟨Nat.zero_le _,fun j x hj=>by first|omega|(simp only[];omega)⟩ sb (fun w hw=>ag.mem hw) ?_;rintro i ⟨bf,aF⟩;refine aj ?_;refine Gb ?_ ?_<;>intro h4
 ·
  refine kp ?_;obtain⟨y,hy⟩:=get_some (xs:=(oD bs)) (i:=i) oM;refine ae (aY rfl rfl i rfl oM) (ae (bB (j:=0) rfl i hy rfl (by decide)) (aG ?_));refine Gb ?_ ?_<;>intro h5
  ·
   have tF:ye (oD bs)=false:=by
    cases hk:ye (oD bs)with
    |false=>rfl
    |true=>exact absurd (congrArg UInt8.toNat (MX.1 hk y (amm hy))) (by intro e;exact h5 (by rw[e];rfl))
   have hE:db bs=(jK,2):=by rw[db,if_neg (by rw[h0];simp),if_neg (by rw[h1];simp),if_neg vW,if_neg (by rw[oT];simp),if_pos tF]
   refine Gc ?_;refine ae (cr (v:= .agg (cG mY)) rfl (fun w=>by kernel_rfl)) (aj ?_);refine Gr fun w1 hw=>?_;exact⟨mY,by rw[hE],by rw[hE];rfl,Mem.cJ aL 1 (ag.mem hw:Mem w [] _)⟩
  have Ig:y=0:=an5.1 (show y.toNat=0 by omega);refine aj ?_;refine Gi ?_;exact bg (x:=(i)) (i+1) ⟨oF,fun j x hj hx=>if e:j=i then(by subst e;rw[hy]at hx;cases hx;exact Ig)else aF j x oF hx⟩ oF sb (fun w hw=>ag.mem hw)
 obtain rfl:i=(oD bs).length:=by omega
 have tF:ye (oD bs)=true:=MX.2 fun x hx=>by
  obtain⟨j,hj⟩:=am9 hx;exact aF j x (zz.1 hj).1 hj
 have hE:db bs=({yd bs with body:=((bs.drop 10).take (10+jk bs -10))},0):=by rw[db,if_neg (by rw[h0];simp),if_neg (by rw[h1];simp),if_neg vW,if_neg (by rw[oT];simp),if_neg (by rw[tF];simp)]
 refine an ?_;refine Gb ?_ ?_<;>intro h6
 ·
  refine Gi ?_;refine aj ?_;have Pk:Rg 10 (10+jk bs) bs.length:=⟨by omega⟩;refine ae (zJ rfl rfl rfl 10 (10+jk bs) rfl rfl Pk.h.1 Pk.h.2) (aW rfl (by simp only[amo,amu];omega) fun Ij ajy=>Gs ?_);refine cR (cs':=cG (⟨((bs.getD 0 0).toNat:Int),((bs.getD 1 0).toNat:Int),(UInt64.ofNat (de ((bs.drop 2).take (8 -2)))),⟨Ij,((bs.drop 10).take ((10+jk bs) -10))⟩⟩:dW)) rfl rfl (by show 3<4;decide) (by first|rfl|exact Sv.one _) rfl (aG ?_);refine Gr fun w1 hw=>?_;exact⟨⟨((bs.getD 0 0).toNat:Int),((bs.getD 1 0).toNat:Int),UInt64.ofNat (de ((bs.drop 2).take (8 -2))),⟨Ij,((bs.drop 10).take (10+jk bs -10))⟩⟩,by rw[hE],by rw[hE];exact M0 bs Ij ((bs.drop 10).take (10+jk bs -10)),ag.mem hw⟩
 have rU:jk bs=0:=by omega
 refine aG ?_;refine Gr fun w1 hw=>?_;exact⟨tc bs,by rw[hE],by rw[hE,GX,rU];simp[yd],Mem.cJ aL 1 (ag.mem hw:Mem w [] _)⟩)⟩
instance ajz{c:Cp}{id:Int}{n:Int}[hc:aU w0 L c]:bD Tryz.prog 303 w0 L [.agg (aS c), .int .i64 id, .int .i64 n] (.bool (yh (cv c) id n)) (bl (cv c)=true/\1<=n/\n<=1000000):=⟨fun aw w hw=>by
 have hc:=hc.h w hw;have jS:cw w c:=⟨hc⟩;obtain⟨hk,wE,uT⟩:=aw;have dY:=fT c.blocks.xs;have fO:=kt.1 (eB.1 hk).1;simp only[cv,dY]at fO;have pH:0<=((n -1)/c.ab):=aoF oM oM;have Jr:((n -1)/c.ab)<=n -1:=Int.ediv_le_self _ oM;have rU:0<=((n -1)%c.ab):=Int.emod_nonneg _ oM;have A4:((n -1)%c.ab)<c.ab:=Int.emod_lt_of_pos _ oM;have sa:=wh (c:=c) (b:=((n -1)/c.ab));have Ik:(c.blocks.xs.getD ((n -1)/c.ab).toNat oz).used=(aN (cv c) ((n -1)/c.ab)).used:=congrArg BV.used sa;refine rr Tryz.func303 rfl Tryz.ntmps303 rfl ?_;refine Gc ?_;refine bJ rfl fun b3=>ao ?_;refine gO oK oK (an ?_);refine bm (kL rfl rfl oM oM) (an ?_);refine bm (vt rfl rfl oM oM) (Lg ?_);refine aV rfl rfl rfl (fun hg=>(Ry.yl (aY (au hg rfl) (au hg rfl) (((n -1)/c.ab).toNat) (by simp only[Z0,Z1,Z2,Z3,Z4,Z5,Z6,Z7,Z8,Z9]at hg;omega) (by simp only[Z0,Z1,Z2,Z3,Z4,Z5,Z6,Z7,Z8,Z9]at hg;omega)))) (aV rfl rfl rfl (fun hg=>(Ry.yl (aK (au hg rfl) rfl))) (aV rfl rfl rfl (fun hg=>(Ry.yl (bB (j:=1) (au hg rfl) (((n -1)/c.ab).toNat) (jZ (xs:=c.blocks.xs) (i:=((n -1)/c.ab).toNat) (d:=oz) (by simp only[Z0,Z1,Z2,Z3,Z4,Z5,Z6,Z7,Z8,Z9]at hg;omega)) rfl (by decide)))) (aj ?_)));refine Gb ?_ ?_<;>intro h0
 ·
  have hz:yh (cv c) id n=false:=by
   cases sd:uE (cv c) (n -1)with
   |false=>rw[yh,sd];rfl
   |true=>
    obtain⟨g1,g2,g3⟩:=Dd.1 sd;change 2<=((n -1)/c.ab)at g1;change((n -1)/c.ab)<((hU c.blocks.xs).length:Int)at g2;change((n -1)%c.ab)<(aN (cv c) ((n -1)/c.ab)).used at g3;rw[dY]at g2;omega
  refine aj ?_;refine Gr fun w1 hw=>?_;exact Ge (hz.symm) hw
 have gA:uE (cv c) (n -1)=true:=Dd.2 ⟨show 2<=((n -1)/c.ab) by omega,by simp only[cv,dY];omega,show((n -1)%c.ab)<(aN (cv c) ((n -1)/c.ab)).used by omega⟩;obtain⟨B,hB⟩:=get_some (xs:=c.blocks.xs) (i:=((n -1)/c.ab).toNat) oM;have qJ:Mb B c.blocks:=⟨List.mem_of_getElem? hB⟩;have dQ:bv B=aN (cv c) ((n -1)/c.ab):=by rw[←sa];simp[List.getD,hB]
 have fm:=gF.1 ((eB.1 hk).2.2.2.2 (bv B) (amm (ly hB)));have ic:=mR B.ab.xs;have Pl:(B.ab.xs.length:Int)=c.ab:=by have:=fm.1;simp only[bv,cv,ic]at this;exact this
 obtain⟨y,hy⟩:=get_some (xs:=B.ab.xs) (i:=((n -1)%c.ab).toNat) oM;have Il:Mb y B.ab:=⟨List.mem_of_getElem? hy⟩;have eQ:yg (cv c) (n -1)=y.xs:=by
  show(aN (cv c) ((n -1)/c.ab)).ab.getD ((n -1)%c.ab).toNat []=y.xs;rw[←dQ];simp[bv,List.getD,oA hy]
 refine an ?_;refine ae (aY rfl rfl (((n -1)/c.ab).toNat) oM oM) (ae (aK rfl rfl) (ae (bB (j:=0) rfl (((n -1)/c.ab).toNat) hB rfl (by decide)) ?_));have ajA:Mb B _:=⟨List.mem_of_getElem? hB⟩;refine Gs ?_;refine ae (aY rfl rfl (((n -1)%c.ab).toNat) oM oM) (ae (bB (j:=0) rfl (((n -1)%c.ab).toNat) hy rfl (by decide)) ?_);have ajB:Mb y _:=⟨List.mem_of_getElem? hy⟩;refine aW rfl trivial fun nY wS=>?_;have e1:nY.kind=(db y.xs).1.kind:=congrArg PV.kind wS;have e2:nY.id=(db y.xs).1.id:=congrArg PV.id wS;refine Gs ?_;refine ae (ax (v:= .agg (cG nY)) rfl rfl) (ae (ax (v:= .int .i64 ((db y.xs).2)) rfl rfl) (bc fun b9=>Lh ?_));refine Gr fun w1 hw=>?_;exact⟨congrArg (fun b=>Ending.returned (Value.bool b)) ((by rw[yh,gA,eQ,M1,←e1,←e2];rfl)),ag.mem hw⟩⟩
def mr(n:Int):Value:= .int .i64 n
def oY(_:Unit):Value:= .agg #[]
instance:AT mr:=⟨fun h=>by simpa[mr]using h⟩
instance:AS Tryz.prog 3:=⟨Maps.int_keyed Tryz.underlying3⟩
instance:yJ Tryz.prog 318 3 319:=⟨Tryz.underlying318⟩
instance:dH Tryz.prog 319 (.agg #[]):=⟨by kernel_rfl⟩
instance:eY (#[]:Array Value) 0:=⟨rfl,by simp⟩
theorem Im{n:Int}(h: -9223372036854775808<=n/\n<=9223372036854775807): ∃l,keyOf Tryz.prog 3 (mr n)=some l:=⟨_,Maps.keyOf_int_mk Tryz.underlying3 (by simp[Lit.wf,IntKind.min,IntKind.max,IntKind.signed,IntKind.bits];omega)⟩
instance ajC{c:Cp}{t:Sv}{ts:List Int}[hc:aU w0 L c][ht:cS w0 L bT 1 t ts]:bD Tryz.prog 259 w0 L [.agg (aS c),t.val] (.bool (uF (cv c) ts)) (bl (cv c)=true/\ ∀x∈ts,0<=x/\x<=65535):=⟨fun aw w hw=>by
 have hc:=hc.h w hw;have ht:=ht.h w hw;have jS:cw w c:=⟨hc⟩;have DB:Gv w t bT 1 ts:=⟨ht⟩;obtain⟨hk,nu⟩:=aw;have iZ:=ht.bd;refine cD Tryz.func259 rfl Tryz.ntmps259 rfl ?_;refine Gc ?_;refine bJ rfl fun b2=>an ?_;refine Zf mr oY rfl fun tG=>aQ ?_;refine bI (X:=Nat) (fun U=>[(15, .int .i64 (U:Nat)),(5, .map (some tG)),(2, .pointer (some ⟨b2,0,none⟩)),(13,t.val),(14, .int .i64 (ts.length:Nat))]) (fun U=>[omap Tryz.prog 3 mr oY tG (jm ts U),al b2 (aS c) 59]) (fun U=>U<=ts.length/\ ∀j,j<U->te (cv c) ts j=true) (fun U=>ts.length -U) 0 ⟨Nat.zero_le _,fun j hj=>by first|omega|(simp only[];omega)⟩ sb (fun w hw=>by
  rw[←M3];exact ag.mem hw) ?_
 rintro i ⟨bf,aF⟩;refine aj ?_;refine Gb ?_ ?_<;>intro h0
 ·
  obtain⟨y,hy⟩:=get_some (xs:=ts) (i:=i) oM;have Zx:=nu y (amm hy);have nv:=wj hy;have vb:=Im (n:=y) oM;refine ao ?_;refine ae (aY rfl rfl i rfl oM) (ae (bB (j:=0) rfl i hy rfl (by decide)) (aQ ?_));refine Gb ?_ ?_<;>intro h1
  ·
   subst h1;have cd:te (cv c) ts i=true:=by rw[te,nv];rfl
   refine aj ?_;refine Gi ?_;exact bg (x:=(i)) (i+1) ⟨oF,fun j hj=>if e:j=i then e▸cd else aF j oF⟩ oF sb (fun w hw=>by
    rw[M4 hy];exact ag.mem hw)
  refine aj ?_;refine ae (H6 (cL:=mr) (dA:=oY) (f:=jm ts i) (v:=y) (z:=()) rfl rfl vb) (Gs ?_);refine ae (ax (v:= .agg #[]) rfl rfl) (ae (ax (v:= .bool ((jm ts i y).isSome)) rfl rfl) (bc fun b8=>aG ?_));refine aV rfl rfl rfl (fun hg=>(Ry.yl (fu rfl))) (ao ?_);refine aV rfl rfl rfl (fun hg=>br (dB (au hg rfl) (dB (au hg rfl) (dB (au hg rfl) gk))) ⟨hk,by omega,by omega⟩) (aV rfl rfl rfl (fun hg=>(Ry.yl (kg (au hg rfl)))) (ao ?_));refine Gb ?_ ?_<;>intro h2
  ·
   have hz:uF (cv c) ts=false:=by
    cases sd:uF (cv c) ts with
    |false=>rfl
    |true=>
     have g:=G2.1 sd i oM;rw[te,nv]at g;rw[Az]at h2;simp only[anp,alM,decide_eq_true_eq,anS,aow,decide_eq_false_iff_not]at g h2;rcases g with g|g
     ·
      exact absurd g h1
     rcases h2 with h2|h2
     ·
      exact absurd h2.2 g.1
     rw[g.2]at h2;cases h2
   refine aj ?_;refine Gr fun w1 hw=>?_;exact Ge (hz.symm) hw
  have cd:te (cv c) ts i=true:=by
   rw[Az]at h2;rw[te,nv];simp only[anp,alM,decide_eq_true_eq,anS,aow,decide_eq_false_iff_not]at h2⊢;exact .inr ⟨fun hm=>h2.1 ⟨h1,hm⟩,h2.2⟩
  have dZ:=M5 hy h1;refine aj ?_;refine ae (cr (v:= .agg #[]) rfl (fun w=>by kernel_rfl)) (H8 (cL:=mr) (dA:=oY) (v:=y) (u:=()) rfl rfl rfl vb (aj ?_));refine Gi ?_;exact bg (x:=(i)) (i+1) ⟨oF,fun j hj=>if e:j=i then e▸cd else aF j oF⟩ oF sb (fun w hw=>by
   rw[←dZ];exact ag.mem hw)
 obtain rfl:i=ts.length:=by omega
 have hz:uF (cv c) ts=true:=G2.2 fun j hj=>aF j hj;refine aj ?_;refine Gr fun w1 hw=>?_;exact⟨congrArg (fun b=>Ending.returned (Value.bool b)) (hz.symm),ag.mem hw⟩⟩
instance:dH Tryz.prog 402 (.agg (bF hY)):=⟨by kernel_rfl⟩
theorem Zy(u v:Int)(b:Bool)(w:World):(Instr.build 402 #[(1, .int .i64 u),(2, .int .i64 v),(3, .bool b)]).run Tryz.prog w= .ok (.agg (bF ⟨0,u,v,b⟩)) w:=by
 unfold bF;kernel_rfl
instance ajD{c:Cp}{l:Sl (Sl Int)}[hc:aU w0 L c][hl:aU w0 L l]:bK Tryz.prog 326 w0 L [.agg (aS c),l.sv.val] (Sv) (fun U=>U.val) (fun U=>own bF 4 U (ir (cv c) (ar l.xs))::L) (fun U=>True) (uI (cv c) (ar l.xs)):=⟨fun aw w hw=>Gk (fun U=>[own bF 4 U (ir (cv c) (ar l.xs))]) hw (by
 have hc:=hc.h w hw;have hl:=hl.h w hw;have jS:cw w c:=⟨hc⟩;have pI:cw w l:=⟨hl⟩;obtain⟨⟨hk,mW⟩,pq,mz⟩:=aw;have iZ:=hl.1.bd;have dY:=fT c.blocks.xs;have pL:(cv c).blocks.length=c.blocks.xs.length:=dY;have fO:=kt.1 (eB.1 hk).1;simp only[cv,dY]at fO;have wa:=yi (cv c) (ar l.xs);rw[pL]at wa;have lI:(List.replicate (c.blocks.xs.length -2) hY).length=c.blocks.xs.length -2:=List.length_replicate;refine cD Tryz.func326 rfl Tryz.ntmps326 rfl ?_;refine Gc ?_;refine bJ rfl fun b2=>aQ ?_;refine sJ (enc:=bF) (n:=(c.blocks.xs.length -2)) (cap:=(c.blocks.xs.length -2)) hY rfl rfl rfl oM oM oM oM oM fun pM=>aQ ?_;refine bI (X:=Nat×List aI) (fun U=>[(22, .int .i64 (U.1:Nat)),(5,(⟨false,pM,0,c.blocks.xs.length -2,c.blocks.xs.length -2,none⟩:Sv).val),(1,l.sv.val),(2, .pointer (some ⟨b2,0,none⟩)),(21, .int .i64 ((List.replicate (c.blocks.xs.length -2) hY).length:Nat))]) (fun U=>[own bF 4 ⟨false,pM,0,c.blocks.xs.length -2,c.blocks.xs.length -2,none⟩ U.2,al b2 (aS c) 59]) (fun U=>U.1<=c.blocks.xs.length -2/\U.2.length=c.blocks.xs.length -2/\U.2.take U.1=(jn (cv c) (ar l.xs) 0).take U.1) (fun U=>c.blocks.xs.length -2 -U.1) (0,List.replicate (c.blocks.xs.length -2) hY) ⟨Nat.zero_le _,by simp,by simp⟩ sb (fun w hw=>ag.mem hw) ?_;rintro⟨i,zs⟩ ⟨bf,aF,bo⟩;dsimp only;simp only at bf aF bo;refine aj ?_;refine Gb ?_ ?_<;>intro h0
 ·
  obtain⟨B,hB⟩:=get_some (xs:=c.blocks.xs) (i:=i+2) oM;have qJ:Mb B c.blocks:=⟨List.mem_of_getElem? hB⟩;obtain⟨z,hz⟩:=get_some (xs:=zs) (i:=i) oM;have GB:(zs.set i (⟨0,B.used,B.bC,B.bad⟩:aI)).take (i+1)=(jn (cv c) (ar l.xs) 0).take (i+1):=by
   have e1:=C9 (f:=id) (z':=(⟨0,B.used,B.bC,B.bad⟩:aI)) hz;simp only[List.map_id]at e1;rw[e1,bo,amq,Wm,amx,an7 oM,am3,show aN (cv c) ((i:Int)+2)=bv B from G4 (i:=i+2) hB];rfl
  refine dV ?_;refine ae (aY rfl rfl (i+2) rfl oM) (ae (gq rfl (i+2) hB rfl) ?_);have Pe:Mb B c.blocks:=⟨List.mem_of_getElem? hB⟩;refine bc fun b7=>nO ?_;refine ae (cr (v:= .agg (bF (⟨0,B.used,B.bC,B.bad⟩:aI))) rfl (Zy B.used B.bC B.bad)) (ae (aY rfl rfl i rfl oM) (kj (s:=⟨false,pM,0,c.blocks.xs.length -2,c.blocks.xs.length -2,none⟩) (n:=4) (k:=i) (j:=0) (a:=z) (a':=(⟨0,B.used,B.bC,B.bad⟩:aI)) (xs:=zs) (enc:=bF) (c:=4) (v:= .agg (bF (⟨0,B.used,B.bC,B.bad⟩:aI))) oK rfl rfl rfl hz (bn.one (enc:=bF) (c:=4) _) rfl (by decide) (by rfl) (aj ?_)));refine Gi ?_;exact bg (x:=(i,zs)) (i+1,zs.set i (⟨0,B.used,B.bC,B.bad⟩:aI)) ⟨oF,by rw[anb];exact aF,GB⟩ (by simp only;omega) sb (fun w hw=>ag.mem hw)
 obtain rfl:i=zs.length:=by omega
 rw[amN,amr (by rw[wa];omega)]at bo;subst bo;refine Gc ?_;refine Pa mr oY fun DN=>aQ ?_;refine bI (X:=Nat) (fun U=>[(45, .int .i64 (U:Nat)),(5,(⟨false,pM,0,c.blocks.xs.length -2,c.blocks.xs.length -2,none⟩:Sv).val),(8, .map (some DN)),(2, .pointer (some ⟨b2,0,none⟩)),(43,l.sv.val),(44, .int .i64 (l.xs.length:Nat))]) (fun U=>[omap Tryz.prog 3 mr oY DN (jm (ar l.xs) (ar (l.xs.take U)).length),own bF 4 ⟨false,pM,0,c.blocks.xs.length -2,c.blocks.xs.length -2,none⟩ (jn (cv c) (ar l.xs) (ar (l.xs.take U)).length),al b2 (aS c) 59]) (fun U=>U<=l.xs.length) (fun U=>l.xs.length -U) 0 (amK _) sb (fun w hw=>by
  have e0:(ar (l.xs.take 0)).length=0:=by simp[ar]
  simp only[e0];rw[←M3];exact ag.mem hw) ?_
 rintro a Io;refine aj ?_;refine Gb ?_ ?_<;>intro h1
 ·
  obtain⟨x,hx⟩:=get_some (xs:=l.xs) (i:=a) oM;have Pm:Mb x l:=⟨List.mem_of_getElem? hx⟩;have dR:=(hl.2 x Pm.h).1.bd;refine Gc ?_;refine ae (aY rfl rfl a rfl oM) (ae (bB (j:=0) rfl a hx rfl (by decide)) ?_);have ajE:Mb x _:=⟨List.mem_of_getElem? hx⟩;refine aQ ?_;refine bI (X:=Nat) (fun U=>[(51, .int .i64 (U:Nat)),(5,(⟨false,pM,0,c.blocks.xs.length -2,c.blocks.xs.length -2,none⟩:Sv).val),(8, .map (some DN)),(2, .pointer (some ⟨b2,0,none⟩)),(43,l.sv.val),(44, .int .i64 (l.xs.length:Nat)),(45, .int .i64 (a:Nat)),(49,x.sv.val),(50, .int .i64 (x.xs.length:Nat))]) (fun U=>[omap Tryz.prog 3 mr oY DN (jm (ar l.xs) ((ar (l.xs.take a)).length+U)),own bF 4 ⟨false,pM,0,c.blocks.xs.length -2,c.blocks.xs.length -2,none⟩ (jn (cv c) (ar l.xs) ((ar (l.xs.take a)).length+U)),al b2 (aS c) 59]) (fun U=>U<=x.xs.length) (fun U=>x.xs.length -U) 0 (amK _) sb (fun w hw=>ag.mem hw) ?_;rintro j jc;refine aj ?_;refine Gb ?_ ?_<;>intro h2
  ·
   obtain⟨y,hy⟩:=get_some (xs:=x.xs) (i:=j) oM;have yN:=Wl hx hy;have Zz:=mz y (amm yN);have nv:=wj yN;have vb:=Im (n:=y) oM;refine Gc ?_;refine ae (aY rfl rfl j rfl oM) (ae (bB (j:=0) rfl j hy rfl (by decide)) (an ?_));refine ae (H6 (cL:=mr) (dA:=oY) (f:=jm (ar l.xs) ((ar (l.xs.take a)).length+j)) (v:=y) (z:=()) rfl rfl vb) (Gs ?_);refine ae (ax (v:= .agg #[]) rfl rfl) (ae (ax (v:= .bool ((jm (ar l.xs) ((ar (l.xs.take a)).length+j) y).isSome)) rfl rfl) (bc fun gX=>fS ?_));refine Gb ?_ ?_<;>intro h3
   ·
    have yO:uG (ar l.xs) ((ar (l.xs.take a)).length+j)=false:=by
     rw[uG,nv];rw[Az]at h3;rcases h3 with h|h
     ·
      simp[h]
     simp only[decide_eq_true_eq]at h;simp[h.2]
    have ZA:jm (ar l.xs) (((ar (l.xs.take a)).length+j)+1)=jm (ar l.xs) ((ar (l.xs.take a)).length+j):=by
     rw[Az]at h3;rcases h3 with h|h
     ·
      exact M4 (h▸yN)
     exact Wj yN (by simpa using h)
    refine aj ?_;refine Gi ?_;exact bg (x:=(j)) (j+1) oF oF sb (fun w hw=>by
     rw[←anz,ZA,Wi yO];exact ag.mem hw)
   have vB:y≠0:=h3.1;obtain⟨b1,b2,b3,b4⟩:=Zz.resolve_left vB;change 2<=((y -1)/c.ab)at b3;change((y -1)/c.ab)<((hU c.blocks.xs).length:Int)at b4;rw[dY]at b4;have yO:uG (ar l.xs) ((ar (l.xs.take a)).length+j)=true:=by
    rw[uG,nv];have h9:=h3.2;rw[Az]at h9;simp only[decide_eq_false_iff_not]at h9;simp only[alM,decide_eq_true_eq,anS,aow,decide_eq_false_iff_not];exact⟨vB,fun hm=>h9 ⟨vB,hm⟩⟩
   have dZ:=M5 yN vB;have sQ:=yi (cv c) (ar l.xs) ((ar (l.xs.take a)).length+j);rw[pL]at sQ;obtain⟨z,hz⟩:=get_some (xs:=jn (cv c) (ar l.xs) ((ar (l.xs.take a)).length+j)) (i:=(((y -1)/c.ab) -2).toNat) oM;have pN:=Wk yO (i:=(((y -1)/c.ab) -2).toNat) (by rw[nv];show((y -1)/c.ab)=_;omega) hz;have wP:=Wn hz;have gA:=(zz.1 yN).1;refine aj ?_;refine ae (cr (v:= .agg #[]) rfl (fun w=>by kernel_rfl)) (H8 (cL:=mr) (dA:=oY) (v:=y) (u:=()) rfl rfl rfl vb (aQ ?_));refine ae (kL rfl rfl oM oM) (Gs ?_);refine ae (aY rfl rfl ((((y -1)/c.ab) -2).toNat) oM oM) (ae (aK rfl rfl) (ae (bB (j:=0) rfl ((((y -1)/c.ab) -2).toNat) hz rfl (by decide)) (Gs ?_)));refine ae (aY rfl rfl ((((y -1)/c.ab) -2).toNat) oM oM) (ae (aK rfl rfl) (kj (s:=⟨false,pM,0,c.blocks.xs.length -2,c.blocks.xs.length -2,none⟩) (n:=1) (k:=(((y -1)/c.ab) -2).toNat) (j:=0) (a:=z) (a':={z with live:=z.live+1}) (xs:=(jn (cv c) (ar l.xs) ((ar (l.xs.take a)).length+j))) (enc:=bF) (c:=4) (v:= .int .i64 (z.live+1)) oK rfl rfl rfl hz (by simp[Value.cells,Value.oneCell']) (by rfl) (by decide) (by rfl) (aj ?_)))
   refine Gi ?_;exact bg (x:=(j)) (j+1) oF oF sb (fun w hw=>by
    rw[←anz,←dZ,pN];exact ag.mem hw)
  obtain rfl:j=x.xs.length:=by omega
  refine aj ?_;refine Gi ?_;exact bg (x:=(a)) (a+1) oF oF sb (fun w hw=>by
   rw[Nh hx,adr];exact ag.mem hw)
 obtain rfl:a=l.xs.length:=by omega
 rw[amN];refine an ?_;refine Gr fun w1 hw=>?_;exact⟨⟨false,pM,0,c.blocks.xs.length -2,c.blocks.xs.length -2,none⟩,rfl,trivial,by rw[ir];exact ag.mem hw⟩)⟩
instance:dH Tryz.prog 432 (.agg (eH VS)):=⟨by kernel_rfl⟩
theorem Ip(x:aI)(p:Int)(w:World):(Instr.build 432 #[(0, .agg (bF x)),(1, .int .i64 p)]).run Tryz.prog w= .ok (.agg (eH ⟨x,p⟩)) w:=by
 obtain⟨a,b,c,d⟩:=x;unfold eH bF;kernel_rfl
instance ajF{a:Int}:bD Tryz.prog 350 w0 L [.int .i64 a] (.bool false) (True):=⟨fun aw w hw=>by
 refine bQ Tryz.func350 rfl Tryz.ntmps350 rfl ?_;refine dV ?_;refine Gr fun w1 hw=>?_;exact⟨congrArg (fun b=>Ending.returned (Value.bool b)) ((by simp)),ag.mem hw⟩⟩
instance ajG{a:Int}{b:Int}:bD Tryz.prog 349 w0 L [.int .i64 a, .int .i64 b] (.int .i64 (wk a b)) (True):=⟨fun aw w hw=>by
 refine cD Tryz.func349 rfl Tryz.ntmps349 rfl ?_;refine FX ?_;refine ig rfl (fun h0=>?_) (fun h0=>?_)
 ·
  exfalso;simp at h0
 replace h0:=bz h0;refine aj ?_;refine ig rfl (fun h2=>?_) (fun h2=>?_)
 ·
  exfalso;simp at h2
 replace h2:=bz h2;refine aG ?_;refine Gb ?_ ?_<;>intro h3
 ·
  refine aj ?_;refine Gr fun w1 hw=>?_;exact Gf ((by rw[wk,if_pos oM])) hw
 refine aG ?_;refine Gb ?_ ?_<;>intro h4
 ·
  refine aj ?_;refine Gr fun w1 hw=>?_;exact Gf ((by rw[wk,if_neg oM,if_pos oM])) hw
 refine aj ?_;refine Gr fun w1 hw=>?_;exact⟨congrArg (fun b=>Ending.returned (Value.int .i64 b)) ((by rw[wk,if_neg oM,if_neg oM])),ag.mem hw⟩⟩
theorem Pn(w:World)(b:iq):Calls Tryz.prog 335 #[.agg (eH b)] w fun e w'=>e= .returned (.bool (rI b.ab b.w))/\Mem w [] w':=by
 refine bQ Tryz.func335 rfl Tryz.ntmps335 rfl ?_;refine Gc ?_;refine bJ rfl fun b1=>dV ?_;refine gm rfl rfl rfl (fun hg=>(Ry.yl (aK (o':=1) (au hg rfl) rfl))) (ct ?_);refine Gr fun w1 hw=>?_;exact Ge (by simp only[rI,Bool.and_assoc]) hw
instance ajH{b:iq}:bD Tryz.prog 335 w0 L [.agg (eH b)] (.bool (rI b.ab b.w)) (True):=⟨fun hp w hw=>Pn w b⟩
theorem Po(w:World)(b:iq):Calls Tryz.prog 333 #[.agg (eH b)] w fun e w'=>e= .returned (.bool (rJ b.w))/\Mem w [] w':=by
 refine bQ Tryz.func333 rfl Tryz.ntmps333 rfl ?_;refine Gc ?_;refine bJ rfl fun b1=>dV ?_;refine gm rfl rfl rfl (fun hg=>(Ry.yl (aK (o':=0) (au hg rfl) rfl))) (aG ?_);refine gm rfl rfl rfl (fun hg=>(Ry.yl (aK (o':=1) (au hg rfl) rfl))) (aG ?_);refine Gr fun w1 hw=>?_;exact Ge (by simp only[rJ,Bool.and_assoc]) hw
instance ajI{b:iq}:bD Tryz.prog 333 w0 L [.agg (eH b)] (.bool (rJ b.w)) (True):=⟨fun hp w hw=>Po w b⟩
theorem ZB(w:World)(b:iq):Calls Tryz.prog 340 #[.agg (eH b)] w fun e w'=>e= .returned (.bool (AA b.ab b.w))/\Mem w [] w':=by
 refine bQ Tryz.func340 rfl Tryz.ntmps340 rfl ?_;refine Gc ?_;refine bJ rfl fun b1=>aQ ?_;refine Gb ?_ ?_<;>intro h0
 ·
  refine ct ?_;refine Gr fun w1 hw=>?_;exact Ge (by rw[AA,if_pos h0]) hw
 refine fS ?_;refine gm rfl rfl rfl (fun hg=>(Ry.yl (aK (o':=0) (au hg rfl) rfl))) (aG ?_);refine gm rfl rfl rfl (fun hg=>(Ry.yl (aK (o':=0) (au hg rfl) rfl))) (ct ?_);refine Gr fun w1 hw=>?_;exact Ge (by rw[AA,if_neg (by rw[h0];simp)]) hw
theorem ZC(w:World)(a:iq)(b:iq):Calls Tryz.prog 336 #[.agg (eH a), .agg (eH b)] w fun e w'=>e= .returned (.int .i64 (G8 a.w b.w))/\Mem w [] w':=by
 refine cD Tryz.func336 rfl Tryz.ntmps336 rfl ?_;refine Gc ?_;refine bJ rfl fun b2=>bJ rfl fun b3=>ou ?_;refine Gr fun w1 hw=>?_;exact⟨rfl,ag.mem hw⟩
theorem ZD(w:World)(a:iq)(b:iq):Calls Tryz.prog 334 #[.agg (eH a), .agg (eH b)] w fun e w'=>e= .returned (.int .i64 (AB a.w b.w))/\Mem w [] w':=by
 refine cD Tryz.func334 rfl Tryz.ntmps334 rfl ?_;refine Gc ?_;refine bJ rfl fun b2=>bJ rfl fun b3=>ou ?_;refine Gr fun w1 hw=>?_;exact⟨rfl,ag.mem hw⟩
theorem ZE(w:World)(a:iq)(b:iq):Calls Tryz.prog 342 #[.agg (eH a), .agg (eH b)] w fun e w'=>e= .returned (.int .i64 (G9 a.w b.w))/\Mem w [] w':=by
 refine cD Tryz.func342 rfl Tryz.ntmps342 rfl ?_;refine Gc ?_;refine bJ rfl fun b2=>bJ rfl fun b3=>ou ?_;refine Gr fun w1 hw=>?_;exact⟨rfl,ag.mem hw⟩
theorem ZF(w:World)(a:iq)(b:iq):Calls Tryz.prog 341 #[.agg (eH a), .agg (eH b)] w fun e w'=>e= .returned (.int .i64 (yj a.w b.w))/\Mem w [] w':=by
 refine cD Tryz.func341 rfl Tryz.ntmps341 rfl ?_;refine Gc ?_;refine bJ rfl fun b2=>bJ rfl fun b3=>dV ?_;refine ae (Rc rfl rfl Tryz.underlying4) (ao ?_);refine Gb ?_ ?_<;>intro h0
 ·
  refine aj ?_;refine Gr fun w1 hw=>?_;exact Gf ((by rw[yj,if_pos (by simpa using h0)])) hw
 refine aQ ?_;refine Gb ?_ ?_<;>intro h1
 ·
  refine aj ?_;refine Gr fun w1 hw=>?_;exact Gf ((by rw[yj,if_neg (by simpa using h0),if_pos h1])) hw
 refine aj ?_;refine Gr fun w1 hw=>?_;exact Gf ((by rw[yj,if_neg (by simpa using h0),if_neg (by rw[h1];simp)])) hw
instance ajJ{l:Sv}{ls:List aI}{p:Int}[hl:cS w0 L bF 4 l ls]:bD Tryz.prog 346 w0 L [l.val, .int .i64 p] (.bool (oE ls p)) (True):=⟨fun aw w hw=>by
 have hl:=hl.h w hw;have pI:Gv w l bF 4 ls:=⟨hl⟩;have ti:dG=1099511627776:=rfl;refine cD Tryz.func346 rfl Tryz.ntmps346 rfl ?_;refine T3 ?_;refine Gb ?_ ?_<;>intro h0
 ·
  have hz:oE ls p=false:=by
   cases hk:oE ls p with
   |false=>rfl
   |true=>have g:=AD.1 hk;omega
  refine aj ?_;refine Gr fun w1 hw=>?_;exact Ge (hz.symm) hw
 refine aG ?_;refine bI (X:=Nat) (fun U=>[(25, .int .i64 (U:Nat)),(1, .int .i64 p),(23,l.val),(24, .int .i64 (ls.length:Nat))]) (fun U=>[]) (fun U=>U<=ls.length/\ ∀j x,j<U->ls[j]? =Option.some x->uJ p x=true) (fun U=>ls.length -U) 0 ⟨Nat.zero_le _,fun j x hj=>by first|omega|(simp only[];omega)⟩ sb (fun w hw=>ag.mem hw) ?_;rintro i ⟨bf,aF⟩;refine aj ?_;refine Gb ?_ ?_<;>intro h1
 ·
  refine kp ?_;obtain⟨x,hx⟩:=get_some (xs:=ls) (i:=i) oM;refine ae (aY rfl rfl i rfl oM) (ae (gq rfl i hx rfl) (bc fun b6=>Li ?_));refine Gb ?_ ?_<;>intro h2
  ·
   have hz:oE ls p=false:=by
    cases hk:oE ls p with
    |false=>rfl
    |true=>
     have g:=yk.1 ((AD.1 hk).2.2.2.2 x (amm hx));omega
   refine aj ?_;refine Gr fun w1 hw=>?_;exact Ge (hz.symm) hw
  have yq:uJ p x=true:=yk.2 ⟨by omega,by omega,by omega,by omega,by omega⟩;refine aj ?_;refine Gi ?_;exact bg (x:=(i)) (i+1) ⟨oF,fun j y hj hy=>if e:j=i then(by subst e;rw[hx]at hy;cases hy;exact yq)else aF j y oF hy⟩ oF sb (fun w hw=>ag.mem hw)
 obtain rfl:i=ls.length:=by omega
 have hz:oE ls p=true:=AD.2 ⟨by omega,by omega,by omega,by omega,fun x hx=>by
  obtain⟨j,hj⟩:=am9 hx;exact aF j x (zz.1 hj).1 hj⟩
 refine aj ?_;refine Gr fun w1 hw=>?_;exact⟨congrArg (fun b=>Ending.returned (Value.bool b)) (hz.symm),ag.mem hw⟩⟩
def gL(f:FuncId):aI->aI->Int:=if f=336 then G8 else if f=334 then AB else if f=342 then G9 else yj
theorem ZG{f:FuncId}(h:f∈[336,334,342,341]):aC Tryz.prog f/\ ∀(w:World) (a b:iq),Calls Tryz.prog f #[.agg (eH a), .agg (eH b)] w fun e w'=>e= .returned (.int .i64 (gL f a.w b.w))/\Mem w [] w':=by
 simp only[amA,aoP,or_false]at h;rcases h with rfl|rfl|rfl|rfl
 ·
  exact⟨inferInstance,fun w a b=>ZC w a b⟩
 ·
  exact⟨inferInstance,fun w a b=>ZD w a b⟩
 ·
  exact⟨inferInstance,fun w a b=>ZE w a b⟩
 exact⟨inferInstance,fun w a b=>ZF w a b⟩
def k9(f:FuncId)(p:Int):aI->Bool:=if f=335 then rI p else if f=333 then rJ else AA p
theorem ZH{f:FuncId}(h:f∈[335,333,340]):aC Tryz.prog f/\ ∀(w:World) (b:iq),Calls Tryz.prog f #[.agg (eH b)] w fun e w'=>e= .returned (.bool (k9 f b.ab b.w))/\Mem w [] w':=by
 simp only[amA,aoP,or_false]at h;rcases h with rfl|rfl|rfl
 ·
  exact⟨inferInstance,fun w b=>Pn w b⟩
 ·
  exact⟨inferInstance,fun w b=>Po w b⟩
 exact⟨inferInstance,fun w b=>ZB w b⟩
instance ajK{a:iq}{b:iq}{o:Sv}{os:List FuncId}[ho:cS w0 L rW 1 o os]:bD Tryz.prog 348 w0 L [.agg (eH a), .agg (eH b),o.val] (.bool (rK a.w b.w (os.map gL))) (∀f∈os,f∈[336,334,342,341]):=⟨fun aw w hw=>by
 have ho:=ho.h w hw;have ZI:Gv w o rW 1 os:=⟨ho⟩;have iZ:=ho.bd;refine rr Tryz.func348 rfl Tryz.ntmps348 rfl ?_;refine Gc ?_;refine bJ rfl fun b3=>bJ rfl fun b4=>aQ ?_;refine bI (X:=Nat) (fun U=>[(12, .int .i64 (U:Nat)),(3, .pointer (some ⟨b3,0,none⟩)),(4, .pointer (some ⟨b4,0,none⟩)),(10,o.val),(11, .int .i64 (os.length:Nat))]) (fun U=>[al b4 (eH b) 432,al b3 (eH a) 432]) (fun U=>U<=os.length/\rK a.w b.w (os.map gL)=rK a.w b.w ((os.drop U).map gL)) (fun U=>os.length -U) 0 ⟨Nat.zero_le _,rfl⟩ sb (fun w hw=>ag.mem hw) ?_;rintro i ⟨bf,aF⟩;refine aj ?_;refine Gb ?_ ?_<;>intro h0
 ·
  obtain⟨f,hf⟩:=get_some (xs:=os) (i:=i) oM;obtain⟨ZJ,ZK⟩:=ZG (aw f (amm hf));have bE:rK a.w b.w ((os.drop i).map gL)=if gL f a.w b.w≠0 then decide (gL f a.w b.w<0)else rK a.w b.w ((os.drop (i+1)).map gL):=by
   rw[drop_at hf,amR,rK]
  refine Gc ?_;refine ae (aY rfl rfl i rfl oM) (ae (bB (j:=0) rfl i hf rfl (by decide)) (aG ?_));refine ck (CC (f:=f) (vs:=[.agg (eH a), .agg (eH b)]) rfl rfl (fun w1 _=>ZK w1 a b)) (aG ?_);refine Gb ?_ ?_<;>intro h1
  ·
   have hz:rK a.w b.w (os.map gL)=decide (gL f a.w b.w<0):=by rw[aF,bE,if_pos h1]
   refine aG ?_;refine Gr fun w1 hw=>?_;exact Ge (hz.symm) hw
  rw[if_neg oM]at bE;refine aj ?_;refine Gi ?_;exact bg (x:=(i)) (i+1) ⟨oF,by rw[aF,bE]⟩ oF sb (fun w hw=>ag.mem hw)
 obtain rfl:i=os.length:=by omega
 have hz:rK a.w b.w (os.map gL)=false:=by rw[aF,aob];rfl
 refine aj ?_;refine Gr fun w1 hw=>?_;exact⟨congrArg (fun b=>Ending.returned (Value.bool b)) (hz.symm),ag.mem hw⟩⟩
instance ajL{r:FuncId}{l:Sv}{ls:List aI}{p:Int}{o:Sv}{os:List FuncId}[hl:cS w0 L bF 4 l ls][ho:cS w0 L rW 1 o os]:bD Tryz.prog 332 w0 L [l.val, .int .i64 p, .func (.func r) #[] #[],o.val] (.tuple #[.int .i64 ((gH ls p (k9 r p) (os.map gL)).1), .bool ((gH ls p (k9 r p) (os.map gL)).2)]) (r∈[335,333,340]/\ ∀f∈os,f∈[336,334,342,341]):=⟨fun aw w hw=>by
 have hl:=hl.h w hw;have ho:=ho.h w hw;have pI:Gv w l bF 4 ls:=⟨hl⟩;have ZI:Gv w o rW 1 os:=⟨ho⟩;obtain⟨fW,DO⟩:=aw;obtain⟨isr,ZL⟩:=ZH fW;have iZ:=hl.bd;refine Lk Tryz.func332 rfl Tryz.ntmps332 rfl ?_;refine fS ?_;refine Gb ?_ ?_<;>intro h0
 ·
  have hE:gH ls p (k9 r p) (os.map gL)=(0,false):=if_neg (by rw[h0];simp);refine an ?_;refine Gr fun w1 hw=>?_;exact⟨by rw[hE],ag.mem hw⟩
 have hE:gH ls p (k9 r p) (os.map gL)=gG ls (k9 r p) (os.map gL) ls.length:=if_pos h0;refine dV ?_;refine bI (X:=Nat) (fun U=>[(21, .int .i64 (U:Nat)),(10, .int .i64 ((gG ls (k9 r p) (os.map gL) U).1)),(11, .bool ((gG ls (k9 r p) (os.map gL) U).2)),(0,l.val),(1, .int .i64 p),(2, .func (.func r) #[] #[]),(3,o.val),(19,l.val),(20, .int .i64 (ls.length:Nat))]) (fun U=>[]) (fun U=>U<=ls.length) (fun U=>ls.length -U) 0 (amK _) sb (fun w hw=>ag.mem hw) ?_;rintro i bf;refine aj ?_;refine Gb ?_ ?_<;>intro h1
 ·
  obtain⟨x,hx⟩:=get_some (xs:=ls) (i:=i) oM;have Iq:ls.getD i hY=x:=by simp[List.getD,hx]
  have hle:=Ha ls (k9 r p) (os.map gL) i;refine ao ?_;refine ae (aY rfl rfl i rfl oM) (ae (gq rfl i hx rfl) (bc fun gX=>aG ?_));refine ae (cr (v:= .agg (eH ⟨x,p⟩)) rfl (Ip x p)) (bc fun DK=>an ?_);refine ck (CC (f:=r) (vs:=[.agg (eH ⟨x,p⟩)]) rfl rfl (fun w1 _=>ZL w1 ⟨x,p⟩)) (ao ?_);refine Gb ?_ ?_<;>intro h2
  ·
   have bE:(gG ls (k9 r p) (os.map gL) (i+1))=(gG ls (k9 r p) (os.map gL) i):=by rw[gG,ym,Iq,if_neg (by rw[h2];simp)]
   refine aj ?_;refine Gi ?_;exact bg (x:=(i)) (i+1) oF oF (Sub.cons rfl (Sub.cons (look_eq rfl (by rw[bE])) (Sub.cons (look_eq rfl (by rw[bE])) sb))) (fun w hw=>ag.mem hw)
  refine Gc ?_;refine gO oK oK (aj ?_);refine ie rfl rfl rfl (fun hg=>(Ry.yl (fu rfl))) (ao ?_);refine ie rfl rfl rfl (fun hg=>(Ry.yl (aY (au hg rfl) (au hg rfl) ((gG ls (k9 r p) (os.map gL) i).1.toNat) oM (by have:=hle.1;have:=hle.2.1;have:=(zz.1 hx).1;omega)))) ?_;refine ie rfl rfl rfl (fun hg=>(Ry.yl (gq (au hg rfl) ((gG ls (k9 r p) (os.map gL) i).1.toNat) (jZ (d:=hY) (by have:=hle.1;have:=hle.2.1;have:=(zz.1 hx).1;omega)) rfl))) ?_;refine Gh ?_;refine ie rfl rfl rfl (fun hg=>(Ry.yl (cr (v:= .agg (eH ⟨(ls.getD (gG ls (k9 r p) (os.map gL) i).1.toNat hY),p⟩)) (zt (au hg rfl) (zt (au hg rfl) Jw)) (Ip (ls.getD (gG ls (k9 r p) (os.map gL) i).1.toNat hY) p)))) (Gh ?_);refine ie rfl rfl rfl (fun hg=>br (dB (au hg rfl) (dB (au hg rfl) (dB (au hg rfl) gk))) DO) (ao ?_);refine Gb ?_ ?_<;>intro h3
  ·
   have bE:(gG ls (k9 r p) (os.map gL) (i+1))=((i:Int),true):=by
    rw[gG,ym,Iq,if_pos ⟨h2,h3⟩]
   refine Gi ?_;refine aQ ?_;refine Gi ?_;exact bg (x:=(i)) (i+1) oF oF (Sub.cons rfl (Sub.cons (look_eq rfl (by rw[bE])) (Sub.cons (look_eq rfl (by rw[bE])) sb))) (fun w hw=>ag.mem hw)
  have bE:(gG ls (k9 r p) (os.map gL) (i+1))=(gG ls (k9 r p) (os.map gL) i):=by
   rw[gG,ym,Iq,if_neg];rintro⟨_,g⟩;rcases g with g|g
   ·
    exact absurd (h3.1.symm.trans g) (by simp)
   exact absurd (h3.2.symm.trans g) (by simp)
  refine aj ?_;refine Gi ?_;exact bg (x:=(i)) (i+1) oF oF (Sub.cons rfl (Sub.cons (look_eq rfl (by rw[bE])) (Sub.cons (look_eq rfl (by rw[bE])) sb))) (fun w hw=>ag.mem hw)
 obtain rfl:i=ls.length:=by omega
 refine aQ ?_;refine Gr fun w1 hw=>?_;exact⟨by rw[hE],ag.mem hw⟩⟩
instance ajM{l:Sv}{ls:List aI}{p:Int}[hl:cS w0 L bF 4 l ls]:bD Tryz.prog 313 w0 L [l.val, .int .i64 p] (.tuple #[.int .i64 ((fM ls p).1), .bool ((fM ls p).2)]) (True):=⟨fun aw w hw=>by
 have hl:=hl.h w hw;have pI:Gv w l bF 4 ls:=⟨hl⟩;refine cD Tryz.func313 rfl Tryz.ntmps313 rfl ?_;refine aQ ?_;refine kO (enc:=rW) (vals:=[.func (.func 336) #[] #[], .func (.func 334) #[] #[]]) [336,334] rfl rfl rfl (by decide) (by decide) fun b8=>?_;refine ck (br rfl (by decide)) (ae (ax rfl rfl) (ae (ax rfl rfl) (aj ?_)));refine Gr fun w1 hw=>?_;exact⟨rfl,ag.mem hw⟩⟩
instance ajN{l:Sv}{ls:List aI}{p:Int}[hl:cS w0 L bF 4 l ls]:bD Tryz.prog 310 w0 L [l.val, .int .i64 p] (.tuple #[.int .i64 ((gx ls p).1), .bool ((gx ls p).2)]) (True):=⟨fun aw w hw=>by
 have hl:=hl.h w hw;have pI:Gv w l bF 4 ls:=⟨hl⟩;refine cD Tryz.func310 rfl Tryz.ntmps310 rfl ?_;refine aQ ?_;refine kO (enc:=rW) (vals:=[.func (.func 334) #[] #[]]) [334] rfl rfl rfl (by decide) (by decide) fun b8=>?_;refine ck (br rfl (by decide)) (ae (ax rfl rfl) (ae (ax rfl rfl) (aj ?_)));refine Gr fun w1 hw=>?_;exact⟨rfl,ag.mem hw⟩⟩
instance ajO{l:Sv}{ls:List aI}{p:Int}[hl:cS w0 L bF 4 l ls]:bD Tryz.prog 327 w0 L [l.val, .int .i64 p] (.tuple #[.int .i64 ((wm ls p).1), .bool ((wm ls p).2)]) (True):=⟨fun aw w hw=>by
 have hl:=hl.h w hw;have pI:Gv w l bF 4 ls:=⟨hl⟩;refine cD Tryz.func327 rfl Tryz.ntmps327 rfl ?_;refine aQ ?_;refine kO (enc:=rW) (vals:=[.func (.func 341) #[] #[], .func (.func 342) #[] #[], .func (.func 334) #[] #[]]) [341,342,334] rfl rfl rfl (by decide) (by decide) fun b8=>?_;refine ck (br rfl (by decide)) (ae (ax rfl rfl) (ae (ax rfl rfl) (aj ?_)));refine Gr fun w1 hw=>?_;exact⟨rfl,ag.mem hw⟩⟩
instance ajP{l:Sv}{ls:List aI}{p:Int}[hl:cS w0 L bF 4 l ls]:bD Tryz.prog 330 w0 L [l.val, .int .i64 p] (.int .i64 (Dg ls p)) (True):=⟨fun aw w hw=>by
 have hl:=hl.h w hw;have pI:Gv w l bF 4 ls:=⟨hl⟩;refine cD Tryz.func330 rfl Tryz.ntmps330 rfl ?_;refine dV ?_;refine Gb ?_ ?_<;>intro h0
 ·
  have hE:Dg ls p=0:=if_neg (by rw[h0];simp);refine aj ?_;refine Gr fun w1 hw=>?_;exact Gf (by rw[hE]) hw
 have hE:Dg ls p=l4 (ls.map (lZ p)):=if_pos h0;obtain⟨k1,k2,k3,k4,k5⟩:=AD.1 h0;refine ct ?_;refine bI (X:=Nat) (fun U=>[(15, .int .i64 (U:Nat)),(5, .int .i64 (l4 ((ls.take U).map (lZ p)))),(1, .int .i64 p),(13,l.val),(14, .int .i64 (ls.length:Nat))]) (fun U=>[]) (fun U=>U<=ls.length) (fun U=>ls.length -U) 0 (amK _) sb (fun w hw=>ag.mem hw) ?_;rintro i bf;refine aj ?_;refine Gb ?_ ?_<;>intro h1
 ·
  obtain⟨x,hx⟩:=get_some (xs:=ls) (i:=i) oM;have yq:=yk.1 (k5 x (amm hx));have dZ:(l4 ((ls.take (i+1)).map (lZ p)))=(l4 ((ls.take i).map (lZ p)))+lZ p x:=by rw[amq,hx,am0,Wo];simp[l4]
  have hsb:=Nl p (ls.take i) (fun x hx=>k5 x (aov hx)) oM;have nK:(ls.take i).length<=32:=by rw[amo];omega
  have fY:((ls.take i).length:Int)*p<=512:=room_le nK oM oM;refine Gc ?_;refine ae (aY rfl rfl i rfl oM) (ae (gq rfl i hx rfl) (bc fun b7=>an ?_));refine ae (cr (v:= .agg (eH ⟨x,p⟩)) rfl (Ip x p)) (bc fun b8=>aQ ?_);refine Gb ?_ ?_<;>intro h2
  ·
   have hr:lZ p x=p:=if_pos h2;refine Gi ?_;refine ct ?_;refine Gi ?_;exact bg (x:=(i)) (i+1) oF oF (Sub.cons rfl (Sub.cons (look_eq rfl (by rw[dZ,hr])) sb)) (fun w hw=>ag.mem hw)
  refine aG ?_;refine Gb ?_ ?_<;>intro h3
  ·
   have hr:lZ p x=p -x.used:=by rw[lZ,if_neg (by rw[h2];simp),if_pos h3]
   refine Gi ?_;refine an ?_;refine ae (Ry.to (v':= .int .i64 x.used) (bA rfl) rfl) (aQ ?_);refine Gi ?_;exact bg (x:=(i)) (i+1) oF oF (Sub.cons rfl (Sub.cons (look_eq rfl (by rw[dZ,hr])) sb)) (fun w hw=>ag.mem hw)
  have hr:lZ p x=0:=by rw[lZ,if_neg (by rw[h2];simp),if_neg (by rw[h3];simp)]
  refine aj ?_;refine Gi ?_;exact bg (x:=(i)) (i+1) oF oF (Sub.cons rfl (Sub.cons (look_eq rfl (by rw[dZ,hr,Int.add_zero])) sb)) (fun w hw=>ag.mem hw)
 obtain rfl:i=ls.length:=by omega
 refine an ?_;refine Gr fun w1 hw=>?_;exact⟨congrArg (fun b=>Ending.returned (Value.int .i64 b)) (by rw[hE,amN]),ag.mem hw⟩⟩
instance ajQ{n:Nat}:bK Tryz.prog 302 w0 L [.slice none 0 0, .int .i64 (n:Nat)] (Sv) (fun U=>U.val) (fun U=>own (bX (τ:=UInt8)) 1 U ([]:List (Sl UInt8))::L) (fun U=>True) (n<=1000000000):=⟨fun aw w hw=>Gk (fun U=>[own (bX (τ:=UInt8)) 1 U ([]:List (Sl UInt8))]) hw (by
 refine cD Tryz.func302 rfl Tryz.ntmps302 rfl ?_;refine aQ ?_;refine Gb ?_ ?_<;>intro h0
 ·
  exfalso;omega
 refine aj ?_;refine ae (CU rfl) (Gs ?_);refine ae (vp rfl) (ct ?_);refine Gb ?_ ?_<;>intro h1
 ·
  refine Gi ?_;refine ao ?_;refine ae (CU rfl) (ae (Ry.to (v':= .slice none 0 0) (ue (s:=Sv.none) (h:=0) rfl rfl rfl Sv.zx (amz _)) rfl) (Gs ?_));refine Mq (enc:=(bX (τ:=UInt8))) (k:=n) (⟨Sv.none,[]⟩:Sl UInt8) rfl rfl oM oM (by decide) rfl Tryz.underlying3 oM oM fun AY AZ Ib=>Gs ?_;refine ae (vp rfl) (ae (ue (s:=⟨false,AY,0,n,AZ,none⟩) (h:=0) rfl rfl rfl ⟨(fun h=>by cases h),Ib,by simp only;omega,fun _=>rfl⟩ (amK _)) (aG ?_));refine Gr fun w1 hw=>?_;refine⟨Sv.sub ⟨false,AY,0,n,AZ,none⟩ 1 0 0,rfl,trivial,?_⟩;have fE:=Mem.Mp (i:=0) (k:=0) hw rfl (amK _);rw[amL]at fE;exact fE
 have hn:n=0:=by omega
 refine an ?_;refine Gr fun w1 hw=>?_;exact⟨Sv.none,rfl,trivial,(ag.mem hw:Mem w [] _).cJ (bX (τ:=UInt8)) 1⟩)⟩
instance Pp{a:Sl (Sl (Sl UInt8))}[ha:aU w0 L a]:bK Tryz.prog 258 w0 L [a.sv.val] (Sv) (fun U=>U.val) (fun U=>own (bX (τ:=UInt8)) 1 U (eI a.xs)::L) (fun U=>True) ((eI a.xs).length<=1000000):=⟨fun aw w hw=>Gk (fun U=>[own (bX (τ:=UInt8)) 1 U (eI a.xs)]) hw (by
 have ha:=ha.h w hw;have Ic:cw w a:=⟨ha⟩;have mw:=ha.1.bd;have dM:=Wc a.xs;refine bQ Tryz.func258 rfl Tryz.ntmps258 rfl ?_;refine fS ?_;refine bI (X:=Nat) (fun U=>[(11, .int .i64 (U:Nat)),(3, .int .i64 ((eI (a.xs.take U)).length:Nat)),(0,a.sv.val),(9,a.sv.val),(10, .int .i64 (a.xs.length:Nat))]) (fun U=>[]) (fun U=>U<=a.xs.length) (fun U=>a.xs.length -U) 0 (amK _) sb (fun w hw=>ag.mem hw) ?_;rintro i hi;have xJ:=dM i;have kl:=dM (i+1);refine aj ?_;refine Gb ?_ ?_<;>intro h0
 ·
  refine kp ?_;obtain⟨x,hx⟩:=get_some (xs:=a.xs) (i:=i) oM;refine ae (aY rfl rfl i rfl oM) (ae (bB (j:=0) rfl i hx rfl (by decide)) ?_);have Zp:(eI (a.xs.take (i+1))).length=(eI (a.xs.take i)).length+x.xs.length:=by rw[De hx,adr]
  have DL:Mb x _:=⟨List.mem_of_getElem? hx⟩;refine ou ?_;refine Gb ?_ ?_<;>intro h1
  ·
   exfalso;omega
  refine aj ?_;refine Gi ?_;exact bg (x:=(i)) (i+1) oF oF (Sub.cons rfl (Sub.cons (look_eq rfl (by rw[De hx,adr];simp)) sb)) (fun w hw=>ag.mem hw)
 obtain rfl:i=a.xs.length:=by omega
 have kN:=dM a.xs.length;refine ao ?_;refine aW rfl oM fun u9 Ie=>aQ ?_;refine bI (X:=Nat×Sv) (fun U=>[(27, .int .i64 (U.1:Nat)),(6,U.2.val),(25,a.sv.val),(26, .int .i64 (a.xs.length:Nat))]) (fun U=>[own (bX (τ:=UInt8)) 1 U.2 (eI (a.xs.take U.1))]) (fun U=>U.1<=a.xs.length) (fun U=>a.xs.length -U.1) (0,u9) (Nat.zero_le _) sb (fun w hw=>(ag.mem hw:Mem _ [own (bX (τ:=UInt8)) 1 u9 ([]:List (Sl UInt8))] _)) ?_;rintro⟨k,s1⟩ hk;dsimp only;simp only at hk;have xJ:=dM k;have kl:=dM (k+1);refine aj ?_;refine Gb ?_ ?_<;>intro h2
 ·
  refine kp ?_;obtain⟨y,hy⟩:=get_some (xs:=a.xs) (i:=k) oM;refine ae (aY rfl rfl k rfl oM) (ae (bB (j:=0) rfl k hy rfl (by decide)) ?_);have Zq:(eI (a.xs.take (k+1))).length=(eI (a.xs.take k)).length+y.xs.length:=by rw[De hy,adr]
  have Pe:Mb y _:=⟨List.mem_of_getElem? hy⟩;refine an ?_;refine jY (s:=s1) (enc:=(bX (τ:=UInt8))) (ys:=y.xs) rfl rfl (by decide) (fun w hw=>gP (s:=y.sv) Tryz.underlying178 (by decide) ((inferInstance:cS _ _ (bX (τ:=UInt8)) 1 y.sv y.xs).h w hw)) oM oM fun yM Pf Pg=>?_;refine an ?_;refine Gi ?_;exact bg (x:=(k,s1)) (k+1,yM) (by simp only;omega) (by simp only;omega) sb (fun w hw=>by rw[De hy];exact ag.mem hw)
 obtain rfl:k=a.xs.length:=by omega
 refine an ?_;refine Gr fun w1 hw=>?_;exact⟨s1,rfl,trivial,by rw[amN]at hw;exact ag.mem hw⟩)⟩
instance ajR{x:Sv}{xs:List Int}{y:Sv}{ys:List Int}[hx:cS w0 L bT 1 x xs][hy:cS w0 L bT 1 y ys]:bD Tryz.prog 167 w0 L [x.val,y.val] (.bool (decide (xs=ys))) (True):=⟨fun aw w hw=>by
 have hx:=hx.h w hw;have hy:=hy.h w hw;have va:Gv w x bT 1 xs:=⟨hx⟩;have Ir:Gv w y bT 1 ys:=⟨hy⟩;have ZM:=hx.bd;refine cD Tryz.func167 rfl Tryz.ntmps167 rfl ?_;refine fS ?_;refine Gb ?_ ?_<;>intro h0
 ·
  have hz:decide (xs=ys)=false:=decide_eq_false fun e=>h0 (by rw[e]);refine aj ?_;refine Gr fun w1 hw=>?_;exact Ge (hz.symm) hw
 have mW:xs.length=ys.length:=by omega
 refine aG ?_;refine bI (X:=Nat) (fun U=>[(13, .int .i64 (U:Nat)),(0,x.val),(1,y.val),(12, .int .i64 (xs.length:Nat))]) (fun U=>[]) (fun U=>U<=xs.length/\ ∀j,j<U->xs[j]? =ys[j]?) (fun U=>xs.length -U) 0 ⟨Nat.zero_le _,fun j hj=>by first|omega|(simp only[];omega)⟩ sb (fun w hw=>ag.mem hw) ?_;rintro i ⟨bf,aF⟩;refine aj ?_;refine Gb ?_ ?_<;>intro h1
 ·
  obtain⟨p,jE⟩:=get_some (xs:=xs) (i:=i) oM;obtain⟨q,tH⟩:=get_some (xs:=ys) (i:=i) oM;refine an ?_;refine gO oK oK (ao ?_);refine bm (aY rfl rfl i rfl oM) (bm (bB (j:=0) rfl i jE rfl (by decide)) (ao ?_));refine bm (aY rfl rfl i rfl oM) (bm (bB (j:=0) rfl i tH rfl (by decide)) (ao ?_));refine Gb ?_ ?_<;>intro h2
  ·
   have hz:decide (xs=ys)=false:=decide_eq_false fun e=>h2 (by rw[e]at jE;rw[jE]at tH;cases tH;rfl);refine aj ?_;refine Gr fun w1 hw=>?_;exact Ge (hz.symm) hw
  refine aj ?_;refine Gi ?_;exact bg (x:=(i)) (i+1) ⟨oF,fun j hj=>if e:j=i then(by subst e;rw[jE,tH,h2])else aF j oF⟩ oF sb (fun w hw=>ag.mem hw)
 obtain rfl:i=xs.length:=by omega
 have hz:decide (xs=ys)=true:=decide_eq_true (anq fun j=>by
  rcases amv j xs.length with hj|hj
  ·
   exact aF j hj
  rw[amD hj,amD oM])
 refine aj ?_;refine Gr fun w1 hw=>?_;exact⟨congrArg (fun b=>Ending.returned (Value.bool b)) (hz.symm),ag.mem hw⟩⟩
theorem ZN(g:UInt64)(w:World):(Instr.build 314 #[(0, .int .u64 (g.toNat:Int))]).run Tryz.prog w= .ok (.agg (dI ⟨g,⟨Sv.none,[]⟩⟩)) w:=by
 unfold dI;kernel_rfl
instance ajS{b:Sv}{bs:List UInt8}[hb:cS w0 L aL 1 b bs]:bK Tryz.prog 297 w0 L [b.val] (cU) (fun U=> .tuple #[.agg (dI U), .int .i64 ((eN bs).2)]) (fun U=>own bT 1 U.at_.sv U.at_.xs::L) (fun U=>cZ U=(eN bs).1) (True):=⟨fun aw w hw=>Gk (fun U:cU=>[own bT 1 U.at_.sv U.at_.xs]) hw (by
 have hb:=hb.h w hw;have wR:Gv w b aL 1 bs:=⟨hb⟩;refine bQ Tryz.func297 rfl Tryz.ntmps297 rfl ?_;refine Gc ?_;refine bc fun b2=>aj ?_;refine aW rfl trivial fun cB pO=>?_;have Pq:cB.kind=(db bs).1.kind:=congrArg PV.kind pO;have Pr:cB.id=(db bs).1.id:=congrArg PV.id pO;have tI:cB.gen.toNat=(db bs).1.gen:=congrArg PV.gen pO;have tw:cB.body.xs=(db bs).1.body:=congrArg PV.body pO;have dY:=GZ bs;rw[←tw]at dY;refine Gs ?_;refine ae (ax (v:= .agg (cG cB)) rfl rfl) (ae (ax (v:= .int .i64 ((db bs).2)) rfl rfl) (bc fun b4=>aQ ?_));refine Gb ?_ ?_<;>intro h0
 ·
  have hE:eN bs=(gw,(db bs).2):=by rw[eN,if_pos h0]
  refine Gc ?_;refine ae (cr (v:= .agg (dI ku)) rfl (fun w=>by kernel_rfl)) (an ?_);refine Gr fun w1 hw=>?_;exact⟨ku,by rw[hE],by rw[hE];rfl,Mem.cJ bT 1 (ag.mem hw:Mem w [] _)⟩
 refine aG ?_;refine Gb ?_ ?_<;>intro h1
 ·
  have hE:eN bs=(gw,6):=by rw[eN,if_neg oM,if_pos oM]
  refine Gc ?_;refine ae (cr (v:= .agg (dI ku)) rfl (fun w=>by kernel_rfl)) (aj ?_);refine Gr fun w1 hw=>?_;exact⟨ku,by rw[hE],by rw[hE];rfl,Mem.cJ bT 1 (ag.mem hw:Mem w [] _)⟩
 refine an ?_;refine ae (kL rfl rfl oM oM) (fS ?_);refine aV rfl rfl rfl (fun hg=>(Ry.yl (EV (p:=cB.body.xs.length) (q:=2) (au hg rfl) rfl rfl rfl (by simp only[Z0,Z1,Z2,Z3,Z4,Z5,Z6,Z7,Z8,Z9]at hg;omega)))) (aQ ?_);refine aV rfl rfl rfl (fun hg=>(Ry.yl (vr (au hg rfl) rfl (by simp only[Z0,Z1,Z2,Z3,Z4,Z5,Z6,Z7,Z8,Z9]at hg;omega)))) (aV rfl rfl rfl (fun hg=>(Ry.yl (vw rfl (au hg rfl)))) (aj ?_));refine Gb ?_ ?_<;>intro h2
 ·
  have oT:uD (db bs).1=false:=by
   cases hk:uD (db bs).1 with
   |false=>rfl
   |true=>
    simp only[uD,alM,decide_eq_true_eq,←Pq,←Pr,←tw]at hk;omega
  have hE:eN bs=(gw,2):=by rw[eN,if_neg oM,if_neg oM,if_pos oT]
  refine Gc ?_;refine ae (cr (v:= .agg (dI ku)) rfl (fun w=>by kernel_rfl)) (aj ?_);refine Gr fun w1 hw=>?_;exact⟨ku,by rw[hE],by rw[hE];rfl,Mem.cJ bT 1 (ag.mem hw:Mem w [] _)⟩
 have oT:uD (db bs).1=true:=by
  simp only[uD,alM,decide_eq_true_eq,←Pq,←Pr,←tw];omega
 have hE:eN bs=(⟨cB.gen.toNat,px cB.body.xs⟩,0):=by rw[eN,if_neg oM,if_neg oM,if_neg (by rw[oT];simp),tI,tw]
 have Ps:=G1 cB.body.xs;refine aj ?_;refine ae (cr (v:= .agg (dI ⟨cB.gen,⟨Sv.none,[]⟩⟩)) rfl (ZN cB.gen)) (bc fun b7=>aG ?_);refine bI (X:=Nat×Sv) (fun U=>[(49, .int .i64 (U.1:Nat)),(7, .pointer (some ⟨b7,0,none⟩)),(2, .pointer (some ⟨b2,0,none⟩)),(4, .pointer (some ⟨b4,0,none⟩)),(48, .int .i64 ((cB.body.xs.length/2):Nat))]) (fun U=>[al b7 (dI ⟨cB.gen,⟨U.2,(px cB.body.xs).take U.1⟩⟩) 314,own bT 1 U.2 ((px cB.body.xs).take U.1),al b4 (cG cB) 324,own aL 1 cB.body.sv cB.body.xs,al b2 (dI ku) 314]) (fun U=>U.1<=cB.body.xs.length/2) (fun U=>cB.body.xs.length/2 -U.1) (0,Sv.none) (amK _) sb (fun w hw=>by
  simp only[amL];exact ag.mem (Mem.cJ bT 1 hw)) ?_
 rintro⟨i,s1⟩ bf;dsimp only;simp only at bf;refine aj ?_;refine Gb ?_ ?_<;>intro h3
 ·
  have dZ:=V5 (b:=cB.body.xs) (i:=i) oM;refine an ?_;refine nN [19,20,22,1001,2019] [[],[],[],[],[],[],[],[],[],[],[],[],[],[],[],[],[],[],[],[],[1,19],[1,19,20],[1,19,20]] [0,1,2,3,4,5,6,7,8,9,10,11,12,13,14,15,16,17,18,19,20,21,22] [al b4 (cG cB) 324,own aL 1 cB.body.sv cB.body.xs] [(19,nM bT 1 1 [(qo cB.body.xs i)])] oK (fun _ hw=>ag.mem hw) oK oK (ak rfl (aK (o':=1) rfl rfl) (fh rfl (bA rfl) (ak rfl (aK (o':=3) rfl rfl) (ak rfl (bA rfl) (ak rfl (ba rfl) (ak rfl (jX rfl rfl oM) (ak rfl (aY rfl rfl (2*i) rfl oM) (ak rfl (bB (j:=0) rfl (2*i) (jZ (xs:=cB.body.xs) (i:=2*i) (d:=0) oM) rfl (by decide)) (ak rfl (sK rfl) (ak rfl (JZ rfl rfl) (ak rfl (aK (o':=3) rfl rfl) (ak rfl (bA rfl) ?_))))))))))));refine ak rfl (ba rfl) (ak rfl (jX rfl rfl oM) (ak rfl (zr rfl rfl oM) (ak rfl (aY rfl rfl (2*i+1) rfl oM) (ak rfl (bB (j:=0) rfl (2*i+1) (jZ (xs:=cB.body.xs) (i:=2*i+1) (d:=0) oM) rfl (by decide)) (ak rfl (sK rfl) (ak rfl (J0 rfl rfl) (mL (m:=nM bT 1 1 [(qo cB.body.xs i)]) rfl rfl (xK (enc:=bT) (c:=1) (n:=1) (vals:=[.int .i64 (qo cB.body.xs i)]) [(qo cB.body.xs i)] rfl rfl rfl (by decide) (by decide)) (Cert.none rfl) fun DP=>?_)))))));change Ln _ _ _ _ _ _ _ _ (bZ _ _ (Sv.val ⟨false,DP,0,1,1,none⟩)) (own bT 1 ⟨false,DP,0,1,1,none⟩ [(qo cB.body.xs i)]::_) _;refine cC rfl (CA (s:=s1) (ys:=[(qo cB.body.xs i)]) rfl rfl (by decide) (fun w hw=>gP (s:=⟨false,DP,0,1,1,none⟩) Tryz.underlying60 (by decide) ((inferInstance:Hd _ _ ⟨false,DP,0,1,1,none⟩ bT 1 [(qo cB.body.xs i)]).h w hw)) (by simp only[amo,ad2,af0];omega) (by simp only[amo,ad2,af0];omega) fun Pt ajT ajU=>⟨fun _ hw=>ag.mem hw,?_⟩);refine ak rfl (aK (o':=1) rfl rfl) ?_;refine cC rfl (rn (cs':=dI (⟨cB.gen,⟨Pt,(((px cB.body.xs).take i)++[(qo cB.body.xs i)])⟩⟩:cU)) rfl rfl (by show 1<2;decide) (by first|rfl|exact Sv.one _) rfl ⟨fun _ hw=>ag.mem hw,?_⟩);refine aj ?_;refine Gi ?_;exact bg (x:=(i,s1)) (i+1,Pt) (by simp only;omega) (by simp only;omega) sb (fun w hw=>by
   simp only[dZ];exact ag.mem hw)
 obtain rfl:i=cB.body.xs.length/2:=by omega
 rw[amr oM]at*;refine aG ?_;refine Gr fun w1 hw=>?_;exact⟨⟨cB.gen,⟨s1,px cB.body.xs⟩⟩,by rw[hE],by rw[hE];rfl,ag.mem hw⟩)⟩
instance Pu{l:Sl (Sl UInt8)}[hl:aU w0 L l]:bK Tryz.prog 257 w0 L [l.sv.val] (cU) (fun U=> .tuple #[.int .i64 ((fB (aM l.xs)).1), .agg (dI U), .int .i64 ((fB (aM l.xs)).2.2)]) (fun U=>own bT 1 U.at_.sv U.at_.xs::L) (fun U=>cZ U=(fB (aM l.xs)).2.1) (True):=⟨fun aw w hw=>Gk (fun U:cU=>[own bT 1 U.at_.sv U.at_.xs]) hw (by
 have hl:=hl.h w hw;have pI:cw w l:=⟨hl⟩;have iZ:=hl.1.bd;have ic:=mR l.xs;refine bQ Tryz.func257 rfl Tryz.ntmps257 rfl ?_;refine ao ?_;refine bc fun b3=>ao ?_;refine ae (cr (v:= .agg (dI ku)) rfl (fun w=>by kernel_rfl)) (bc fun b6=>fS ?_);refine bI (X:=Nat×cU) (fun U=>[(16, .int .i64 (U.1:Nat)),(5, .int .i64 ((dN (aM l.xs) U.1).at_)),(6, .pointer (some ⟨b6,0,none⟩)),(7, .bool ((dN (aM l.xs) U.1).found)),(8, .bool ((dN (aM l.xs) U.1).blank)),(3, .pointer (some ⟨b3,0,none⟩)),(14,l.sv.val),(15, .int .i64 (l.xs.length:Nat))]) (fun U=>[al b6 (dI U.2) 314,own bT 1 U.2.at_.sv U.2.at_.xs,al b3 (dI ku) 314]) (fun U=>U.1<=l.xs.length/\cZ U.2=(dN (aM l.xs) U.1).new) (fun U=>l.xs.length -U.1) (0,ku) ⟨Nat.zero_le _,rfl⟩ sb (fun w hw=>by
  have h9:Mem _ [al b6 (dI ku) 314,own bT 1 Sv.none [],al b3 (dI ku) 314] _:=ag.mem (Mem.cJ bT 1 hw);exact h9) ?_
 rintro⟨i,d⟩ ⟨bf,aF⟩;dsimp only;simp only at bf aF;refine aj ?_;refine Gb ?_ ?_<;>intro h0
 ·
  obtain⟨y,hy⟩:=get_some (xs:=l.xs) (i:=i) oM;have Il:Mb y l:=⟨List.mem_of_getElem? hy⟩;have Pv:=oA hy;have Pw:d.gen.toNat=(dN (aM l.xs) i).new.gen:=congrArg RV.gen aF;refine ao ?_;refine ae (aY rfl rfl i rfl oM) (ae (bB (j:=0) rfl i hy rfl (by decide)) (aQ ?_));refine gm rfl rfl rfl (fun hg=>br (dB (au hg rfl) gk) trivial) (an ?_);refine aW rfl trivial fun cQ lf=>?_;have Px:cQ.gen.toNat=(eN y.xs).1.gen:=congrArg RV.gen lf;refine Gs ?_;refine ae (ax (v:= .agg (dI cQ)) rfl rfl) (ae (ax (v:= .int .i64 ((eN y.xs).2)) rfl rfl) (bc fun mu=>ct ?_));refine gm rfl rfl rfl (fun hg=>(Ry.yl (kg (au hg rfl)))) (gm rfl rfl rfl (fun hg=>(Ry.yl (ba (au hg rfl)))) (sI rfl rfl rfl (fun hg=>(Ry.yl (aK (o':=0) rfl rfl))) (sI rfl rfl rfl (fun hg=>(Ry.yl (bA (au hg rfl)))) (sI rfl rfl rfl (fun hg=>(Ry.yl (aK (o':=0) rfl rfl))) (sI rfl rfl rfl (fun hg=>(Ry.yl (bA (au hg rfl)))) (sI rfl rfl rfl (fun hg=>(Ry.yl (da (au hg rfl) (au hg rfl) rfl))) (gm rfl rfl rfl (fun hg=>(Ry.yl (w9 (au hg rfl) rfl (qV hg rfl)))) (ao ?_))))))));refine Gb ?_ ?_<;>intro h1
  ·
   have hq:(eN y.xs).2=0/\((dN (aM l.xs) i).found=false\/(dN (aM l.xs) i).new.gen<=(eN y.xs).1.gen):=⟨h1.1,h1.2.imp (fun h=>h) (fun h=>by rw[←Pw,←Px];omega)⟩;have oZ:=V8 Pv hq;refine gB [3] [[],[],[],[],[3]] [0,1,2,3,4] [al mu (dI cQ) 314] (fun _ hw=>ag.mem hw) oK oK (ak rfl (ba rfl) (ak rfl (fu rfl) (ak rfl (fG rfl) (cC rfl (lV rfl rfl ⟨fun _ hw=>ag.mem hw,?_⟩)))));refine ak rfl (fG rfl) (aj ?_);refine Gi ?_;exact bg (x:=(i,d)) (i+1,cQ) ⟨oF,by rw[oZ];exact lf⟩ (by simp only;omega) (Sub.cons rfl (Sub.cons (look_eq rfl (by simp only[oZ])) (Sub.cons rfl (Sub.cons (look_eq rfl (by simp only[oZ])) (Sub.cons (look_eq rfl (by simp only[oZ])) sb))))) (fun w hw=>ag.mem hw)
  have hq: ¬((eN y.xs).2=0/\((dN (aM l.xs) i).found=false\/(dN (aM l.xs) i).new.gen<=(eN y.xs).1.gen)):=fun hq=>by
   rw[←Pw,←Px]at hq;rcases h1 with h|h
   ·
    exact h hq.1
   rcases hq.2 with g|g
   ·
    exact absurd (h.1.symm.trans g) (by simp)
   omega
  have oZ:=V9 Pv hq;refine aj ?_;refine Gi ?_;exact bg (x:=(i,d)) (i+1,d) ⟨oF,by rw[oZ];exact aF⟩ (by simp only;omega) (Sub.cons rfl (Sub.cons (look_eq rfl (by simp only[oZ])) (Sub.cons rfl (Sub.cons (look_eq rfl (by simp only[oZ])) (Sub.cons (look_eq rfl (by simp only[oZ])) sb))))) (fun w hw=>ag.mem hw)
 obtain rfl:i=l.xs.length:=by omega
 rw[←ic]at aF;refine an ?_;refine Gb ?_ ?_<;>intro h2
 ·
  have hE:fB (aM l.xs)=((dN (aM l.xs) (aM l.xs).length).at_,(dN (aM l.xs) (aM l.xs).length).new,0):=by rw[fB,if_pos (by rw[ic];exact h2)]
  refine Gi ?_;refine gB [3] [[],[],[],[],[3]] [0,1,2,3,4] [al b6 (dI d) 314] (fun _ hw=>ag.mem hw) oK oK (ak rfl (ba rfl) (ak rfl (fu rfl) (ak rfl (fG rfl) (cC rfl (lV rfl rfl ⟨fun _ hw=>ag.mem hw,?_⟩)))));refine ak rfl (fG rfl) (Gc ?_);refine Gr fun w1 hw=>?_;exact⟨d,by rw[hE,ic],by rw[hE];exact aF,ag.mem hw⟩
 refine an ?_;refine Gb ?_ ?_<;>intro h3
 ·
  have hE:fB (aM l.xs)=(0,gw,6):=by rw[fB,if_neg (by rw[ic,h2];simp),if_pos (by rw[ic];exact h3)]
  refine Gc ?_;refine ae (cr (v:= .agg (dI ku)) rfl (fun w=>by kernel_rfl)) (an ?_);refine Gr fun w1 hw=>?_;exact⟨ku,by rw[hE],by rw[hE];rfl,Mem.cJ bT 1 (ag.mem hw:Mem w [] _)⟩
 have hE:fB (aM l.xs)=(0,gw,2):=by rw[fB,if_neg (by rw[ic,h2];simp),if_neg (by rw[ic,h3];simp)]
 refine Gc ?_;refine ae (cr (v:= .agg (dI ku)) rfl (fun w=>by kernel_rfl)) (an ?_);refine Gr fun w1 hw=>?_;exact⟨ku,by rw[hE],by rw[hE];rfl,Mem.cJ bT 1 (ag.mem hw:Mem w [] _)⟩)⟩
theorem ZO(c:Cp)(s:Sl Int)(g:UInt64)(l:Int)(w:World):(Instr.build 63 #[(0, .agg (aS c)),(1,s.sv.val),(2, .int .u64 (g.toNat:Int)),(3, .int .i64 l)]).run Tryz.prog w= .ok (.agg (cj ⟨c,s,g,l⟩)) w:=by
 obtain⟨s,xs⟩:=s;obtain⟨a1,a2,⟨a3,a4⟩,a5,a6,⟨a7,a8⟩⟩:=c;unfold cj aS;obtain⟨e,b,o,l,c,p⟩:=s;obtain⟨e3,b3,o3,l3,c3,p3⟩:=a3;obtain⟨e7,b7,o7,l7,c7,p7⟩:=a7
 cases e<;>cases e3<;>cases e7<;>kernel_rfl
instance ajV{c:Cp}[hc:aU w0 L c]:bK Tryz.prog 221 w0 L [.agg (aS c)] (ca) (fun U=> .tuple #[.agg (cj U), .int .i64 ((bL (cv c)).2)]) (fun U=>own bT 1 U.at_.sv U.at_.xs::L) (fun U=>vv U=(bL (cv c)).1/\((bL (cv c)).2=0->U.ai=c)) (True):=⟨fun aw w hw=>Gk (fun U:ca=>[own bT 1 U.at_.sv U.at_.xs]) hw (by
 have hc:=hc.h w hw;have jS:cw w c:=⟨hc⟩;refine bQ Tryz.func221 rfl Tryz.ntmps221 rfl ?_;refine Gc ?_;refine bJ rfl fun b1=>bc fun b2=>aQ ?_;refine Gb ?_ ?_<;>intro h0
 ·
  have hE:bL (cv c)=(lY,1):=by rw[bL,if_pos h0]
  have cE:(1:Int)≠0:=by decide
  refine Gc ?_;refine ae (cr (v:= .agg (cj kv)) rfl (fun w=>by kernel_rfl)) (aj ?_);refine Gr fun w1 hw=>?_;exact⟨kv,by rw[hE],⟨by rw[hE];rfl,fun h=>absurd (by rw[hE]at h;exact h) cE⟩,Mem.cJ bT 1 (ag.mem hw:Mem w [] _)⟩
 have sa:=Ay.1 h0;have hk:=sa.1;have pL:(cv c).blocks.length=c.blocks.xs.length:=fT _;have fO:=kt.1 (eB.1 hk).1;obtain⟨B0,yP⟩:=get_some (xs:=c.blocks.xs) (i:=0) oM;obtain⟨B1,se⟩:=get_some (xs:=c.blocks.xs) (i:=1) oM;have ZP:Mb B0 c.blocks:=⟨List.mem_of_getElem? yP⟩;have ZQ:Mb B1 c.blocks:=⟨List.mem_of_getElem? se⟩;have o0:=(gF.1 ((eB.1 hk).2.2.2.2 (bv B0) (amm (ly yP)))).1;have o1:=(gF.1 ((eB.1 hk).2.2.2.2 (bv B1) (amm (ly se)))).1;have Is:=mR B0.ab.xs;have ht1:=mR B1.ab.xs;simp only[bv,cv]at o0 o1 fO;have hT:aM (eI [B0.ab,B1.ab])=(aN (cv c) 0).ab++(aN (cv c) 1).ab:=by
  rw[G3,show aN (cv c) 0=bv B0 from G4 yP,show aN (cv c) 1=bv B1 from G4 se];rfl
 have oN:=M8 (l:=(aN (cv c) 0).ab++(aN (cv c) 1).ab) (by rw[←hT,G3,adr];omega);have ic:((aN (cv c) 0).ab++(aN (cv c) 1).ab).length=B0.ab.xs.length+B1.ab.xs.length:=by rw[←hT,G3,adr];omega
 have tz:0<=(eT (cv c)).1:=oN.1;have wE:(eT (cv c)).1<c.ab+c.ab:=by have:=oN.2;rw[ic]at this;change(eT (cv c)).1<_ at this;omega
 have gva:M6 w (eI [B0.ab,B1.ab]):=⟨fun y hy=>by
  simp only[eI,amR,anl,anr,aoQ,am4,amM]at hy;rcases hy with hy|hy
  ·
   exact(hc.1.2 B0 ZP.h).2 y hy
  exact(hc.1.2 B1 ZQ.h).2 y hy⟩
 have ajW:0<=((eT (cv c)).1/c.ab):=aoF tz oM;have ajX:((eT (cv c)).1/c.ab)<2:=Int.ediv_lt_of_lt_mul oM oM;have cd:=Na ((aN (cv c) 0).ab++(aN (cv c) 1).ab);have Ik:(c.blocks.xs.getD ((eT (cv c)).1/c.ab).toNat oz).used=(aN (cv c) ((eT (cv c)).1/c.ab)).used:=congrArg BV.used (wh (c:=c));refine an ?_;refine Gb ?_ ?_<;>intro h1
 ·
  have hE:bL (cv c)=(lY,7):=by rw[bL,if_neg (by rw[h0];simp),if_pos (show(cv c).off=true from h1)]
  have cE:(7:Int)≠0:=by decide
  refine Gc ?_;refine ae (cr (v:= .agg (cj kv)) rfl (fun w=>by kernel_rfl)) (aj ?_);refine Gr fun w1 hw=>?_;exact⟨kv,by rw[hE],⟨by rw[hE];rfl,fun h=>absurd (by rw[hE]at h;exact h) cE⟩,Mem.cJ bT 1 (ag.mem hw:Mem w [] _)⟩
 have pg: ¬(cv c).off=true:=by rw[show(cv c).off=c.off from rfl,h1];simp
 refine Gc ?_;refine nN [10,11,12,17,19,2010,2017,4011,4012] [[],[],[],[],[],[],[],[],[],[],[],[10],[10,11],[10,11,12],[10,11,12],[10,11,12],[10,11,12],[],[10,11,12,17],[10,11,12,17],[10,11,12,17,19]] [0,1,2,3,4,5,6,7,8,9,10,11,12,13,14,15,16,17,18,19,20] [al b1 (aS c) 59] [(10,nM (bX (τ:=Sl UInt8)) 1 2 [B0.ab,B1.ab]),(17,km Tryz.prog 314)] oK (fun _ hw=>ag.mem hw) oK oK (ak rfl (aK (o':=2) rfl rfl) (ak rfl (bA rfl) (ak rfl (aY rfl rfl 0 rfl oM) (ak rfl (aK rfl rfl) (ak rfl (bB (j:=0) rfl 0 yP rfl (by decide)) (ak rfl (aK (o':=2) rfl rfl) (ak rfl (bA rfl) (ak rfl (aY rfl rfl 1 rfl oM) (ak rfl (aK rfl rfl) (ak rfl (bB (j:=0) rfl 1 se rfl (by decide)) (mL (m:=nM (bX (τ:=Sl UInt8)) 1 2 [B0.ab,B1.ab]) rfl rfl (xK (enc:=(bX (τ:=Sl UInt8))) (c:=1) (n:=2) (vals:=[B0.ab.sv.val,B1.ab.sv.val]) [B0.ab,B1.ab] rfl (by simp only[amR,anl,Sv.iC];rfl) rfl (by decide) (by decide)) (Cert.one (i:=17) rfl rfl rfl ko (Cert.none rfl)) fun DQ=>?_)))))))))));change Ln _ _ _ _ _ _ _ _ (bZ _ _ (Sv.val ⟨false,DQ,0,2,2,none⟩)) (own (bX (τ:=Sl UInt8)) 1 ⟨false,DQ,0,2,2,none⟩ [B0.ab,B1.ab]::_) _;refine sV (hc:=Pp (a:=(⟨⟨false,DQ,0,2,2,none⟩,[B0.ab,B1.ab]⟩:Sl (Sl (Sl UInt8))))) (FT:=fun e_=>Pp (a:=(⟨⟨false,DQ,0,2,2,none⟩,[B0.ab,B1.ab]⟩:Sl (Sl (Sl UInt8))))) rfl rfl (by simp only[eI,amR,anl,anr,aoQ,adr,af0];omega) (fun e x w hw=>ag.mem hw) (Cert.one (i:=17) rfl rfl rfl ko (Cert.none rfl)) fun pP sh=>⟨fun _ hw=>ag.mem hw,?_⟩;refine sV (hc:=Pu (l:=(⟨pP,(eI [B0.ab,B1.ab])⟩:Sl (Sl UInt8)))) (FT:=fun e_=>Pu (l:=(⟨pP,(eI [B0.ab,B1.ab])⟩:Sl (Sl UInt8)))) rfl rfl trivial (fun e x w hw=>ag.mem hw) (Cert.one (i:=17) rfl rfl rfl ko (Cert.none rfl)) fun cQ lf=>⟨fun _ hw=>ag.mem hw,?_⟩;have fW:(fB (aM (eI [B0.ab,B1.ab]))).1=(eT (cv c)).1:=by rw[hT];rfl
 have Iu:(fB (aM (eI [B0.ab,B1.ab]))).2.2=(eT (cv c)).2.2:=by rw[hT];rfl
 have wF:cZ cQ=(eT (cv c)).2.1:=by rw[lf,hT];rfl
 have nu:cQ.gen.toNat=(eT (cv c)).2.1.gen:=congrArg RV.gen wF;have DR:cQ.at_.xs=(eT (cv c)).2.1.at_:=congrArg RV.at_ wF;refine ak rfl (ba rfl) (ak rfl (ax (v:= .int .i64 ((fB (aM (eI [B0.ab,B1.ab]))).1)) rfl rfl) (ak rfl (ax (v:= .agg (dI cQ)) rfl rfl) (ak rfl (ax (v:= .int .i64 ((fB (aM (eI [B0.ab,B1.ab]))).2.2)) rfl rfl) (mL (m:=km Tryz.prog 314) rfl rfl ko (Cert.none rfl) fun b5=>?_))));change Ln _ _ _ _ _ _ _ _ (bZ _ _ (.pointer (some ⟨b5,0,none⟩))) (al b5 (dI ku) 314::_) _;refine ak rfl (fG rfl) (cC rfl (lV rfl rfl ⟨fun _ hw=>ag.mem hw,?_⟩));refine ak rfl (fG rfl) (an ?_);refine Gb ?_ ?_<;>intro h2
 ·
  rw[Iu]at h2;have hE:bL (cv c)=(lY,(eT (cv c)).2.2):=by rw[bL,if_neg (by rw[h0];simp),if_neg pg,if_pos h2]
  have cE:=h2;refine Gc ?_;refine ae (cr (v:= .agg (cj kv)) rfl (fun w=>by kernel_rfl)) (an ?_);refine Gr fun w1 hw=>?_;exact⟨kv,by rw[hE,Iu],⟨by rw[hE];rfl,fun h=>absurd (by rw[hE]at h;exact h) cE⟩,Mem.cJ bT 1 (ag.mem hw:Mem w [] _)⟩
 rw[Iu]at h2;refine an ?_;refine ae (kL rfl rfl oM oM) (ao ?_);refine gO oK oK (aj ?_);refine bm (vt rfl rfl oM oM) (aj ?_);refine bm (aY rfl rfl (((fB (aM (eI [B0.ab,B1.ab]))).1/c.ab).toNat) (by rw[fW];omega) (by rw[fW];omega)) (bm (aK rfl rfl) (bm (bB (j:=1) rfl (((fB (aM (eI [B0.ab,B1.ab]))).1/c.ab).toNat) (jZ (xs:=c.blocks.xs) (i:=((fB (aM (eI [B0.ab,B1.ab]))).1/c.ab).toNat) (d:=oz) (by rw[fW];omega)) rfl (by decide)) (ao ?_)));refine ie rfl rfl rfl (fun hg=>(Ry.yl (fu rfl))) (ao ?_);refine ie rfl rfl rfl (fun hg=>br (dB (au hg rfl) (dB (au hg rfl) gk)) ⟨hk,fun x hx=>cd x (by rw[DR]at hx;exact hx)⟩) (ie rfl rfl rfl (fun hg=>(Ry.yl (kg (au hg rfl)))) (ao ?_));refine Gb ?_ ?_<;>intro h3
 ·
  have um:tg (cv c)=false:=by
   rw[DR]at h3
   cases sd:tg (cv c)with
   |false=>rfl
   |true=>
    simp only[tg,alM,decide_eq_true_eq]at sd;rw[sd.2]at h3;simp only[anG,or_false]at h3;have:=sd.1;rw[fW,Ik]at h3;exact absurd this (by simp only[cv]at*;omega)
  have hE:bL (cv c)=(lY,2):=by rw[bL,if_neg (by rw[h0];simp),if_neg pg,if_neg oM,if_pos um]
  have cE:(2:Int)≠0:=by decide
  refine Gc ?_;refine ae (cr (v:= .agg (cj kv)) rfl (fun w=>by kernel_rfl)) (aj ?_);refine Gr fun w1 hw=>?_;exact⟨kv,by rw[hE],⟨by rw[hE];rfl,fun h=>absurd (by rw[hE]at h;exact h) cE⟩,Mem.cJ bT 1 (ag.mem hw:Mem w [] _)⟩
 have um:tg (cv c)=true:=by
  rw[DR,fW,Ik]at h3;simp only[tg,alM,decide_eq_true_eq];exact⟨by have:=h3.1;simp only[cv]at*;omega,h3.2⟩
 have hE:bL (cv c)=(⟨cv c,(eT (cv c)).2.1.at_,(eT (cv c)).2.1.gen,(eT (cv c)).1/c.ab⟩,0):=by rw[bL,if_neg (by rw[h0];simp),if_neg pg,if_neg oM,if_neg (by rw[um];simp)];rfl
 refine ct ?_;refine ae (cr (v:= .agg (cj ⟨c,cQ.at_,cQ.gen,((fB (aM (eI [B0.ab,B1.ab]))).1/c.ab)⟩)) rfl (ZO c cQ.at_ cQ.gen ((fB (aM (eI [B0.ab,B1.ab]))).1/c.ab))) (aj ?_);refine Gr fun w1 hw=>?_;exact⟨⟨c,cQ.at_,cQ.gen,(fB (aM (eI [B0.ab,B1.ab]))).1/c.ab⟩,by rw[hE],⟨by rw[hE];simp only[vv,DR,nu,fW],fun _=>rfl⟩,ag.mem hw⟩)⟩
instance ajY{c:Cp}[hc:aU w0 L c]:bK Tryz.prog 180 w0 L [.agg (aS c)] (ca) (fun U=> .tuple #[.agg (cj U), .int .i64 ((bL (cv c)).2)]) (fun U=>fz U.ai::own bT 1 U.at_.sv U.at_.xs::L) (fun U=>vv U=(if(bL (cv c)).2=0 then(bL (cv c)).1 else lY)) (True):=⟨fun aw w hw=>Gk (fun U:ca=>[fz U.ai,own bT 1 U.at_.sv U.at_.xs]) hw (by
 have hc:=hc.h w hw;have jS:cw w c:=⟨hc⟩;refine bQ Tryz.func180 rfl Tryz.ntmps180 rfl ?_;refine Gc ?_;refine bJ rfl fun b1=>bc fun b2=>aj ?_;refine aW rfl trivial fun x8 nr=>?_;obtain⟨Py,Pz⟩:=nr;have ZR:=Nc (cv c);have ZS:x8.at_.xs=(bL (cv c)).1.at_:=congrArg VV.at_ Py;rw[←ZS]at ZR;refine Gs ?_;refine ae (ax (v:= .agg (cj x8)) rfl rfl) (ae (ax (v:= .int .i64 ((bL (cv c)).2)) rfl rfl) (bc fun b4=>aQ ?_));refine Gb ?_ ?_<;>intro h0
 ·
  refine Gc ?_;refine ae (cr (v:= .agg (cj kv)) rfl (fun w=>by kernel_rfl)) (an ?_);refine Gr fun w1 hw=>?_;exact⟨kv,rfl,by rw[if_neg h0];rfl,Wh (Mem.cJ bT 1 (ag.mem hw:Mem w [] _))⟩
 have mv:(bL (cv c)).2=0:=h0;have ec:Nf x8.ai c:=⟨Pz mv⟩;have fY:fe x8.ai:=by rw[Pz mv];exact rC (Ay.1 (G5 mv)).1
 refine iY ?_;refine q7 [Deep.cg x8.at_,al b4 (cj x8) 63,al b2 (cj kv) 63,al b1 (aS c) 59] (fun w hw=>ag.mem (Mem.Mt (ag.mem hw:Mem _ [own bT 1 x8.at_.sv x8.at_.xs,al b4 (cj x8) 63,al b2 (cj kv) 63,al b1 (aS c) 59] _))) (Gi ?_);refine Gs ?_;refine aW rfl ⟨by assumption,by omega⟩ fun aA jQ=>aj ?_;refine Gr fun w1 hw=>?_;exact⟨(⟨aA.1,⟨aA.2,x8.at_.xs⟩,x8.gen,x8.last⟩:ca),by rw[mv],by
  rw[if_pos mv,←Py];simp only[vv,jQ],ag.mem hw⟩)⟩
instance ajZ{v:ca}[hv:aU w0 L v]:bD Tryz.prog 173 w0 L [.agg (cj v)] (.bool (py (vv v))) (True):=⟨fun aw w hw=>by
 have hv:=hv.h w hw;have A1:cw w v:=⟨hv⟩;refine bQ Tryz.func173 rfl Tryz.ntmps173 rfl ?_;refine Gc ?_;refine bJ rfl fun b1=>aj ?_;refine ae (dy rfl) (bc fun b3=>aj ?_);refine cR (cs':=aS (⟨v.ai.ab,v.ai.size,v.ai.blocks,v.ai.ops,false,v.ai.bb⟩:Cp)) rfl rfl (by show 4<6;decide) (by first|rfl|exact Sv.one _) rfl (ao ?_);refine aW rfl trivial fun cB pO=>?_;obtain⟨Iv,aj0⟩:=pO;have ZT:cB.gen.toNat=(bL {(vv v).ai with off:=false}).1.gen:=congrArg VV.gen Iv
 have DD:cB.last=(bL {(vv v).ai with off:=false}).1.last:=congrArg VV.last Iv
 have ZU:cB.at_.xs=(bL {(vv v).ai with off:=false}).1.at_:=congrArg VV.at_ Iv
 refine Gs ?_;refine ae (ax (v:= .agg (cj cB)) rfl rfl) (ae (ax (v:= .int .i64 ((bL (cv (⟨v.ai.ab,v.ai.size,v.ai.blocks,v.ai.ops,false,v.ai.bb⟩:Cp))).2)) rfl rfl) (bc fun b4=>T6 ?_));refine gm rfl rfl rfl (fun hg=>br (dB (au hg rfl) (dB (au hg rfl) gk)) trivial) (aj ?_);refine Gr fun w1 hw=>?_;exact⟨congrArg (fun b=>Ending.returned (Value.bool b)) ((by rw[show decide (((cB.gen.toNat:Nat):Int)=((v.gen.toNat:Nat):Int))=decide (cB.gen.toNat=v.gen.toNat)from decide_eq_decide.2 oM,py,←ZT,←DD,←ZU];rfl)),ag.mem hw⟩⟩
instance PA{v:ca}{id:Int}[hv:aU w0 L v]:bK Tryz.prog 347 w0 L [.agg (cj v), .int .i64 id] (Sv) (fun U=>U.val) (fun U=>own aL 1 U (kR (cv v.ai) (v.at_.xs.getD id.toNat 0))::L) (fun U=>True) (bl (cv v.ai)=true/\ ∃y,v.at_.xs[id.toNat]? =Option.some y/\0<=id/\1<=y/\y<=1000000/\2<=(y -1)/(cv v.ai).ab/\(y -1)/(cv v.ai).ab<((cv v.ai).blocks.length:Int)):=⟨fun aw w hw=>Gk (fun U=>[own aL 1 U (kR (cv v.ai) (v.at_.xs.getD id.toNat 0))]) hw (by
 have hv:=hv.h w hw;have A1:cw w v:=⟨hv⟩;obtain⟨hk,y,hy,hid,H7,hy2,g1,g2⟩:=aw;have nv:v.at_.xs.getD id.toNat 0=y:=wj hy;have hK:=(zz.1 hy).1;have dY:=fT v.ai.blocks.xs;have fO:=kt.1 (eB.1 hk).1;simp only[cv,dY]at fO;have pH:0<=((y -1)/v.ai.ab):=aoF oM oM;have rU:0<=((y -1)%v.ai.ab):=Int.emod_nonneg _ oM;have A4:((y -1)%v.ai.ab)<v.ai.ab:=Int.emod_lt_of_pos _ oM;have sa:=wh (c:=v.ai) (b:=((y -1)/v.ai.ab));change 2<=((y -1)/v.ai.ab)at g1;change((y -1)/v.ai.ab)<((hU v.ai.blocks.xs).length:Int)at g2;rw[dY]at g2;obtain⟨B,hB⟩:=get_some (xs:=v.ai.blocks.xs) (i:=((y -1)/v.ai.ab).toNat) oM;have qJ:Mb B v.ai.blocks:=⟨List.mem_of_getElem? hB⟩;have dQ:bv B=aN (cv v.ai) ((y -1)/v.ai.ab):=by rw[←sa];simp[List.getD,hB]
 have fm:=gF.1 ((eB.1 hk).2.2.2.2 (bv B) (amm (ly hB)));have ic:=mR B.ab.xs;have Pl:(B.ab.xs.length:Int)=v.ai.ab:=by have:=fm.1;simp only[bv,cv,ic]at this;exact this
 obtain⟨z,hz⟩:=get_some (xs:=B.ab.xs) (i:=((y -1)%v.ai.ab).toNat) oM;have u7:Mb z B.ab:=⟨List.mem_of_getElem? hz⟩;have eQ:yg (cv v.ai) (y -1)=z.xs:=by
  show(aN (cv v.ai) ((y -1)/v.ai.ab)).ab.getD ((y -1)%v.ai.ab).toNat []=z.xs;rw[←dQ];simp[bv,List.getD,oA hz]
 refine cD Tryz.func347 rfl Tryz.ntmps347 rfl ?_;refine Gc ?_;refine bJ rfl fun b2=>aG ?_;refine ae (aY rfl rfl id.toNat oM oM) (ae (bB (j:=0) rfl id.toNat hy rfl (by decide)) (aj ?_));refine nN [18,22,23,2022,4018] [[],[],[],[],[],[],[],[],[],[],[],[],[],[],[],[],[],[],[],[18],[18],[18],[],[18,22],[18,22,23]] [0,1,2,3,4,5,6,7,8,9,10,11,12,13,14,15,16,17,18,19,20,21,22,23,24] [al b2 (cj v) 63] [(22,km Tryz.prog 324)] oK (fun _ hw=>ag.mem hw) oK oK (ak rfl (aK (o':=0) rfl rfl) (ak rfl (aK (o':=2) rfl rfl) (ak rfl (bA rfl) (ak rfl (ba rfl) (ak rfl (aK (o':=0) rfl rfl) (ak rfl (aK (o':=0) rfl rfl) (ak rfl (bA rfl) (ak rfl (kL rfl rfl oM oM) (ak rfl (aY rfl rfl (((y -1)/v.ai.ab).toNat) oM oM) (ak rfl (aK rfl rfl) (ak rfl (bB (j:=0) rfl (((y -1)/v.ai.ab).toNat) hB rfl (by decide)) (ak rfl (ba rfl) ?_))))))))))));refine ak rfl (aK (o':=0) rfl rfl) (ak rfl (aK (o':=0) rfl rfl) (ak rfl (bA rfl) (ak rfl (vt rfl rfl oM oM) (ak rfl (aY rfl rfl (((y -1)%v.ai.ab).toNat) oM oM) (ak rfl (bB (j:=0) rfl (((y -1)%v.ai.ab).toNat) hz rfl (by decide)) ?_)))));refine sV rfl rfl trivial (fun e x w hw=>ag.mem hw) (Cert.one (i:=22) rfl rfl rfl ko (Cert.none rfl)) fun jx vc=>⟨fun _ hw=>ag.mem hw,?_⟩;have e1:jx.body.xs=(db z.xs).1.body:=congrArg PV.body vc;refine ak rfl (ba rfl) (ak rfl (ax (v:= .agg (cG jx)) rfl rfl) (ak rfl (ax (v:= .int .i64 ((db z.xs).2)) rfl rfl) (mL (m:=km Tryz.prog 324) rfl rfl ko (Cert.none rfl) fun b6=>?_)));change Ln _ _ _ _ _ _ _ _ (bZ _ _ (.pointer (some ⟨b6,0,none⟩))) (al b6 (cG mY) 324::_) _;refine cC rfl (lV rfl rfl ⟨fun _ hw=>ag.mem hw,?_⟩);refine ak rfl (fG rfl) (an ?_);refine Gb ?_ ?_<;>intro h0
 ·
  have hE:(kR (cv v.ai) (v.at_.xs.getD id.toNat 0))=[]:=by rw[nv,kR,eQ,if_neg h0]
  refine aj ?_;refine Gr fun w1 hw=>?_;exact⟨Sv.none,rfl,trivial,by rw[hE];exact Mem.cJ aL 1 (ag.mem hw:Mem w [] _)⟩
 have mv:(db z.xs).2=0:=h0;have hE:(kR (cv v.ai) (v.at_.xs.getD id.toNat 0))=jx.body.xs:=by rw[nv,kR,eQ,if_pos mv,e1]
 refine aG ?_;refine Gr fun w1 hw=>?_;exact⟨jx.body.sv,rfl,trivial,by rw[hE];exact ag.mem hw⟩)⟩
instance aj1{x:dW}{n:Int}[hx:aU w0 L x]:bK Tryz.prog 255 w0 L [.agg (cG x), .int .i64 n] (Sv) (fun U=> .tuple #[U.val, .int .i64 ((dX (cA x) n).2)]) (fun U=>own aL 1 U (dX (cA x) n).1::L) (fun U=>True) (True):=⟨fun aw w hw=>Gk (fun U=>[own aL 1 U (dX (cA x) n).1]) hw (by
 have hx:=hx.h w hw;have va:cw w x:=⟨hx⟩;refine cD Tryz.func255 rfl Tryz.ntmps255 rfl ?_;refine Gc ?_;refine bJ rfl fun b2=>dV ?_;refine Gb ?_ ?_<;>intro h0
 ·
  have hE:dX (cA x) n=([],1):=by rw[dX,if_neg (by rw[h0];simp)]
  refine an ?_;refine Gr fun w1 hw=>?_;exact⟨Sv.none,by rw[hE];rfl,trivial,by rw[hE];exact Mem.cJ aL 1 (ag.mem hw:Mem w [] _)⟩
 have hE:dX (cA x) n=((mZ (cA x) n.toNat)++be (pv (mZ (cA x) n.toNat)) 4,0):=by rw[dX,if_pos h0]
 obtain⟨m1,m2,m3,m4,m5,m6⟩:=MU.1 h0;have Zv:=Aw.1 m1;have A3:fj n=n -16:=by rw[fj,if_pos m1]
 simp only[cA]at m2 m3 m4 m5 m6;have Mr:(List.replicate (n.toNat -4) (0:UInt8)).length=n.toNat -4:=amZ;have dY:x.body.xs.length+16<=n.toNat:=by omega
 have hg6:=mG x.gen.toNat 6;have ZV:=mG x.body.xs.length 2;have zB:=Mo (mZ (cA x) n.toNat);have gA:(mZ (cA x) n.toNat).length=n.toNat -4:=V4 (by simp only[cA];omega);refine aj ?_;refine sJ (enc:=aL) (n:=(n.toNat -4)) (cap:=(n.toNat -4)) 0 rfl rfl rfl oM oM oM oM oM fun gX=>Gs ?_;refine iY ?_;have A5:=Da (b:=gX) (n:=(n.toNat -4)) oM;refine gB [9,11] [[],[],[],[],[],[],[],[],[],[],[9],[9]] [0,1,2,3,4,5,6,7,8,9,10,11] [al b2 (cG x) 324] (fun _ hw=>ag.mem hw) oK oK (ak rfl (ba rfl) (ak rfl (ba rfl) (ak rfl (aK (o':=0) rfl rfl) (ak rfl (bA rfl) (ak rfl (sE rfl (ya _)) (ak rfl (aK (o':=1) rfl rfl) (ak rfl (bA rfl) (ak rfl (sE rfl (ya _)) (ak rfl (mC (s:=⟨false,gX,0,(n.toNat -4),(n.toNat -4),none⟩) (i:=0) rfl rfl rfl A5 (by simp only;omega)) (cC rfl (vX (s:=⟨false,gX,0,(n.toNat -4),(n.toNat -4),none⟩) (n:=1) (k:=0) (j:=0) (a:=0) (a':=dr x.kind) (xs:=(List.replicate (n.toNat -4) (0:UInt8))) (enc:=aL) (c:=1) (v:= .int .u8 (dr x.kind).toNat) oK rfl rfl rfl (by rw[aoi,if_pos oM]) (by simp[Value.cells,Value.oneCell']) rfl oM (by rfl) ⟨fun _ hw=>ag.mem hw,?_⟩)))))))))));refine ak rfl (mC (s:=⟨false,gX,0,(n.toNat -4),(n.toNat -4),none⟩) (i:=1) rfl rfl rfl A5 (by simp only;omega)) (cC rfl (vX (s:=⟨false,gX,0,(n.toNat -4),(n.toNat -4),none⟩) (n:=1) (k:=1) (j:=0) (a:=0) (a':=dr x.id) (xs:=((List.replicate (n.toNat -4) (0:UInt8)).set 0 (dr x.kind))) (enc:=aL) (c:=1) (v:= .int .u8 (dr x.id).toNat) oK rfl rfl rfl (by rw[aog (by decide),aoi,if_pos oM]) (by simp[Value.cells,Value.oneCell']) rfl oM (by rfl) ⟨fun _ hw=>ag.mem hw,?_⟩));refine iY ?_;refine q7 [own aL 1 ⟨false,gX,0,(n.toNat -4),(n.toNat -4),none⟩ ([dr x.kind,dr x.id]++List.replicate ((n.toNat -4) -2) (0:UInt8)),al b2 (cG x) 324] (fun w hw=>by
  rw[V3 oM]at hw;exact ag.mem hw) ?_
 refine gB [4,5] [[],[],[],[],[],[4]] [0,1,2,3,4,5] [al b2 (cG x) 324] (fun _ hw=>ag.mem hw) oK oK (ak rfl (ba rfl) ?_);have Yh:Rg 2 8 (List.replicate (n.toNat -4) (0:UInt8)).length:=⟨by omega⟩;refine ak rfl (BZ (s:=⟨false,gX,0,(n.toNat -4),(n.toNat -4),none⟩) (l:=2) (h:=8) rfl rfl rfl rfl rfl A5 oM (by simp only;omega)) (ak rfl (aK (o':=2) rfl rfl) (ak rfl (bA rfl) (cC rfl (nL (vs:=[_, .int .i64 ((6:Nat):Int)]) rfl ⟨by omega,by omega,by omega⟩ fun cQ lf=>⟨fun _ hw=>ag.mem hw,?_⟩))));refine cC rfl (GN (D:=Sv.sub ⟨false,gX,0,(n.toNat -4),(n.toNat -4),none⟩ 1 2 8) (S:=cQ) (rm:=⟨false,gX,0,(n.toNat -4),(n.toNat -4),none⟩) (k:=2) (xs:=([dr x.kind,dr x.id]++List.replicate ((n.toNat -4) -2) (0:UInt8))) (ys:=(be x.gen.toNat 6)) rfl rfl rfl rfl (by simp only[Sv.sub];rw[if_neg oM]) rfl (by decide) rfl (by simp only[Sv.sub,mG];omega) (by simp only[adr,mG,amZ,ad2,af0];omega) ⟨fun _ hw=>ag.mem hw,?_⟩);refine iY ?_;refine q7 [own aL 1 ⟨false,gX,0,(n.toNat -4),(n.toNat -4),none⟩ ([dr x.kind,dr x.id]++(be x.gen.toNat 6)++List.replicate ((n.toNat -4) -2 -(be x.gen.toNat 6).length) (0:UInt8)),al b2 (cG x) 324] (fun w hw=>by
  rw[GY (A:=[dr x.kind,dr x.id]) (k:=2) rfl]at hw;exact ag.mem hw) ?_
 refine gB [6,7] [[],[],[],[],[],[],[],[6]] [0,1,2,3,4,5,6,7] [al b2 (cG x) 324] (fun _ hw=>ag.mem hw) oK oK (ak rfl (ba rfl) ?_);have aj2:Rg 8 10 (List.replicate (n.toNat -4) (0:UInt8)).length:=⟨by omega⟩;refine ak rfl (BZ (s:=⟨false,gX,0,(n.toNat -4),(n.toNat -4),none⟩) (l:=8) (h:=10) rfl rfl rfl rfl rfl A5 oM (by simp only;omega)) (ak rfl (aK (o':=3) rfl rfl) (ak rfl (bA rfl) (ak rfl (q6 rfl) (ak rfl (iS rfl (by simp only[nb];omega)) (cC rfl (nL (vs:=[_, .int .i64 ((2:Nat):Int)]) rfl ⟨by omega,by omega,by omega⟩ fun Iw ZW=>⟨fun _ hw=>ag.mem hw,?_⟩))))));refine cC rfl (GN (D:=Sv.sub ⟨false,gX,0,(n.toNat -4),(n.toNat -4),none⟩ 1 8 10) (S:=Iw) (rm:=⟨false,gX,0,(n.toNat -4),(n.toNat -4),none⟩) (k:=8) (xs:=([dr x.kind,dr x.id]++(be x.gen.toNat 6)++List.replicate ((n.toNat -4) -2 -(be x.gen.toNat 6).length) (0:UInt8))) (ys:=(be x.body.xs.length 2)) rfl rfl rfl rfl (by simp only[Sv.sub];rw[if_neg oM]) rfl (by decide) rfl (by simp only[Sv.sub,mG];omega) (by simp only[adr,mG,amZ,ad2,af0];omega) ⟨fun _ hw=>ag.mem hw,?_⟩);refine iY ?_;refine q7 [own aL 1 ⟨false,gX,0,(n.toNat -4),(n.toNat -4),none⟩ ([dr x.kind,dr x.id]++(be x.gen.toNat 6)++(be x.body.xs.length 2)++List.replicate ((n.toNat -4) -2 -(be x.gen.toNat 6).length -(be x.body.xs.length 2).length) (0:UInt8)),al b2 (cG x) 324] (fun w hw=>by
  rw[GY (A:=[dr x.kind,dr x.id]++(be x.gen.toNat 6)) (k:=8) (by simp[mG])]at hw;exact ag.mem hw) ?_
 refine gB [4] [[],[],[],[],[]] [0,1,2,3,4] [al b2 (cG x) 324] (fun _ hw=>ag.mem hw) oK oK (ak rfl (ba rfl) ?_);have aj3:Rg 10 ((List.replicate (n.toNat -4) (0:UInt8)).length) (List.replicate (n.toNat -4) (0:UInt8)).length:=⟨by omega⟩;refine ak rfl (qW (s:=⟨false,gX,0,(n.toNat -4),(n.toNat -4),none⟩) (l:=10) (n:=(n.toNat -4)) rfl rfl rfl A5 rfl oM) (ak rfl (aK (o':=3) rfl rfl) (ak rfl (bA rfl) ?_));refine cC rfl (GN (D:=Sv.sub ⟨false,gX,0,(n.toNat -4),(n.toNat -4),none⟩ 1 10 (n.toNat -4)) (S:=x.body.sv) (rm:=⟨false,gX,0,(n.toNat -4),(n.toNat -4),none⟩) (k:=10) (xs:=([dr x.kind,dr x.id]++(be x.gen.toNat 6)++(be x.body.xs.length 2)++List.replicate ((n.toNat -4) -2 -(be x.gen.toNat 6).length -(be x.body.xs.length 2).length) (0:UInt8))) (ys:=x.body.xs) rfl rfl rfl rfl (by simp only[Sv.sub];rw[if_neg oM]) rfl (by decide) rfl (by simp only[Sv.sub,mG];omega) (by simp only[adr,mG,amZ,ad2,af0];omega) ⟨fun _ hw=>ag.mem hw,?_⟩);refine iY ?_;refine q7 [own aL 1 ⟨false,gX,0,(n.toNat -4),(n.toNat -4),none⟩ (mZ (cA x) n.toNat),al b2 (cG x) 324] (fun w hw=>by
  rw[GY (A:=[dr x.kind,dr x.id]++(be x.gen.toNat 6)++(be x.body.xs.length 2)) (k:=10) (by simp[mG]),show([dr x.kind,dr x.id]++(be x.gen.toNat 6)++(be x.body.xs.length 2)++x.body.xs++List.replicate ((n.toNat -4) -2 -(be x.gen.toNat 6).length -(be x.body.xs.length 2).length -x.body.xs.length) (0:UInt8))=(mZ (cA x) n.toNat)from by
   simp only[mZ,cA,mG];congr 2<;>omega]at hw
  exact ag.mem hw) ?_
 refine Gi ?_;refine aj ?_;refine ae (iS rfl (by simp only[nb];omega)) (aW (vs:=[_, .int .i64 ((4:Nat):Int)]) rfl ⟨by omega,by omega,by omega⟩ fun qK Ix=>?_);refine kO (enc:=(bX (τ:=UInt8))) [(⟨⟨false,gX,0,(n.toNat -4),(n.toNat -4),none⟩,(mZ (cA x) n.toNat)⟩:Sl UInt8),⟨qK,be (pv (mZ (cA x) n.toNat)) 4⟩] (vals:=[(⟨false,gX,0,(n.toNat -4),(n.toNat -4),none⟩:Sv).val,qK.val]) rfl (by simp only[amR,anl,Sv.iC];rfl) rfl (by decide) (by decide) fun b48=>?_;refine Vm (τ:=Sl UInt8) (xs:=[(⟨⟨false,gX,0,(n.toNat -4),(n.toNat -4),none⟩,(mZ (cA x) n.toNat)⟩:Sl UInt8),⟨qK,be (pv (mZ (cA x) n.toNat)) 4⟩]) fun ZX GD g48=>?_;have PB:jJ ZX.xs=(dX (cA x) n).1:=by rw[GD,hE];simp[jJ]
 have hf9:(dX (cA x) n).1.length<=1000:=by rw[hE,adr,mG];omega
 refine aW rfl (by rw[PB];omega) fun ZY aj4=>aj ?_;refine Gr fun w1 hw=>?_;exact⟨ZY,by rw[hE],trivial,by rw[←PB];exact ag.mem hw⟩)⟩
theorem ZZ(i:Int)(g:UInt64)(w:World):(Instr.build 324 #[(0, .int .i64 2),(1, .int .i64 i),(2, .int .u64 (g.toNat:Int))]).run Tryz.prog w= .ok (.agg (cG ⟨2,i,g,⟨Sv.none,[]⟩⟩)) w:=by
 unfold cG;kernel_rfl
instance aj5{r:cU}{n:Int}[hr:aU w0 L r]:bK Tryz.prog 218 w0 L [.agg (dI r), .int .i64 n] (Sv) (fun U=> .tuple #[U.val, .int .i64 ((df (cZ r) n).2)]) (fun U=>own aL 1 U (df (cZ r) n).1::L) (fun U=>True) (True):=⟨fun aw w hw=>Gk (fun U=>[own aL 1 U (df (cZ r) n).1]) hw (by
 have hr:=hr.h w hw;have Zs:cw w r:=⟨hr⟩;have iZ:=hr.1.bd;refine cD Tryz.func218 rfl Tryz.ntmps218 rfl ?_;refine Gc ?_;refine bJ rfl fun b2=>dV ?_;refine Gb ?_ ?_<;>intro h0
 ·
  have hE:df (cZ r) n=([],1):=by rw[df,if_neg (by rw[h0];simp)]
  refine an ?_;refine Gr fun w1 hw=>?_;exact⟨Sv.none,by rw[hE];rfl,trivial,by rw[hE];exact Mem.cJ aL 1 (ag.mem hw:Mem w [] _)⟩
 have hE:df (cZ r) n=dX (⟨2,(max 0 (r.at_.xs.length -1:Int)),r.gen.toNat,jl r.at_.xs⟩:PV) n:=by rw[df,if_pos h0];rfl
 obtain⟨m1,m2,m3,m4⟩:=Ax.1 h0;have hmf:lB n<=64:=by rw[lB];omega
 simp only[cZ]at m2 m3 m4;refine aG ?_;refine ae (vw rfl rfl) (ao ?_);refine ae (cr (v:= .agg (cG (⟨2,(max 0 (r.at_.xs.length -1:Int)),r.gen,⟨Sv.none,[]⟩⟩:dW))) rfl (ZZ _ r.gen)) (bc fun b6=>ct ?_);refine bI (X:=Nat×Sv) (fun U=>[(24, .int .i64 (U.1:Nat)),(6, .pointer (some ⟨b6,0,none⟩)),(1, .int .i64 n),(22,r.at_.sv.val),(23, .int .i64 (r.at_.xs.length:Nat))]) (fun U=>[al b6 (cG (⟨2,(max 0 (r.at_.xs.length -1:Int)),r.gen,⟨U.2,jl (r.at_.xs.take U.1)⟩⟩:dW)) 324,own aL 1 U.2 (jl (r.at_.xs.take U.1)),al b2 (dI r) 314]) (fun U=>U.1<=r.at_.xs.length) (fun U=>r.at_.xs.length -U.1) (0,Sv.none) (amK _) sb (fun w hw=>by
  simp only[amL,jl,anl,aoQ];exact ag.mem (Mem.cJ aL 1 hw)) ?_
 rintro⟨i,s1⟩ bf;dsimp only;simp only at bf;refine aj ?_;refine Gb ?_ ?_<;>intro h1
 ·
  obtain⟨y,hy⟩:=get_some (xs:=r.at_.xs) (i:=i) oM;have Ih:=G0.1 (m4 y (amm hy));have dZ:jl (r.at_.xs.take (i+1))=jl (r.at_.xs.take i)++[dr (y/256),dr y]:=V6 hy;have Ps:=V7 (r.at_.xs.take i);have hnt:(r.at_.xs.take i).length<=64:=by rw[amo];omega
  refine Gc ?_;refine ae (aY rfl rfl i rfl oM) (ae (bB (j:=0) rfl i hy rfl (by decide)) (aG ?_));refine ae (Ry.to (v':= .int .i64 (y/256)) (ub (p:=y.toNat) (Eq.trans (b:=some (Value.int .i64 y)) rfl (by rw[an8 Ih.1])) rfl (by simp only[nb];omega) oM) (by rw[show(8:Int).toNat=8 from rfl];congr 1;omega)) (ae (sE rfl (ya _)) (Gs ?_));refine ae (sE rfl (ya _)) ?_;refine kO (enc:=aL) (vals:=[_,_]) [(dr (y/256)),(dr y)] rfl rfl rfl (by decide) (by decide) fun PC=>?_;refine jY (s:=s1) (ys:=[(dr (y/256)),(dr y)]) rfl rfl (by decide) (fun w hw=>gP (s:=⟨false,PC,0,2,2,none⟩) Tryz.underlying53 (by decide) ((inferInstance:Hd _ _ ⟨false,PC,0,2,2,none⟩ aL 1 [(dr (y/256)),(dr y)]).h w hw)) (by simp only[ad2,af0];omega) (by simp only[ad2,af0];omega) fun PD aj6 aj7=>?_;refine Gs ?_;refine cR (cs':=cG (⟨2,(max 0 (r.at_.xs.length -1:Int)),r.gen,⟨PD,((jl (r.at_.xs.take i))++[(dr (y/256)),(dr y)])⟩⟩:dW)) rfl rfl (by show 3<4;decide) (by first|rfl|exact Sv.one _) rfl (aj ?_);refine Gi ?_;exact bg (x:=(i,s1)) (i+1,PD) (by simp only;omega) (by simp only;omega) sb (fun w hw=>by
   simp only[dZ];exact ag.mem hw)
 obtain rfl:i=r.at_.xs.length:=by omega
 rw[amN];refine kp ?_;refine q7 [Deep.cg (⟨s1,jl r.at_.xs⟩:Sl UInt8),al b6 (cG (⟨2,(max 0 (r.at_.xs.length -1:Int)),r.gen,⟨s1,jl r.at_.xs⟩⟩:dW)) 324] (fun w hw=>ag.mem (Mem.Mt (ag.mem hw:Mem _ [own aL 1 s1 (jl r.at_.xs),al b6 (cG (⟨2,(max 0 (r.at_.xs.length -1:Int)),r.gen,⟨s1,jl r.at_.xs⟩⟩:dW)) 324] _))) (Gi ?_);refine ao ?_;refine aW rfl trivial fun kd aaa=>ae (ax (v:=kd.val) rfl rfl) (ae (ax (v:= .int .i64 ((dX (cA (⟨2,(max 0 (r.at_.xs.length -1:Int)),r.gen,⟨s1,jl r.at_.xs⟩⟩:dW)) n).2)) rfl rfl) (aj ?_));refine Gr fun w1 hw=>?_;exact⟨kd,by rw[hE];rfl,trivial,by
  have h1:Mem w [own aL 1 kd (dX (cA (⟨2,(max 0 (r.at_.xs.length -1:Int)),r.gen,⟨s1,jl r.at_.xs⟩⟩:dW)) n).1] _:=ag.mem hw;rw[hE];exact h1⟩)⟩
instance aj8{xb:Nat}{xc:Cp}{xa:Sl Int}{xg:UInt64}{xl:Int}{xy:Bool}[dR:kZ w0 L xb (aP (⟨⟨xc,xa,xg,xl⟩,xy⟩:aR)) 261][dz:aU w0 L xc]:bD Tryz.prog 176 w0 L [.pointer (some ⟨xb,0,none⟩)] (.int .i64 (l8 (cv xc):Nat)) (True):=⟨fun aw w hw=>by
 have dR:=dR.h w hw;have dz:=dz.h w hw;have tJ:pJ w xb (aP (⟨⟨xc,xa,xg,xl⟩,xy⟩:aR)) 261:=⟨dR⟩;have tK:cw w xc:=⟨dz⟩;have iZ:=dz.1.1.bd;have dY:(cv xc).blocks.length=xc.blocks.xs.length:=fT _;refine bQ Tryz.func176 rfl Tryz.ntmps176 rfl ?_;refine nO ?_;refine ae (Ry.to (v':=xc.blocks.sv.val) (mi rfl) rfl) (aj ?_);refine bI (X:=Nat) (fun U=>[(13, .int .i64 (U:Nat)),(3, .int .i64 ((((hU xc.blocks.xs).take U).filter fun b=>b.bad).length:Nat)),(11,xc.blocks.sv.val),(12, .int .i64 (xc.blocks.xs.length:Nat))]) (fun U=>[]) (fun U=>U<=xc.blocks.xs.length) (fun U=>xc.blocks.xs.length -U) 0 (amK _) sb (fun w hw=>ag.mem hw) ?_;rintro i bf;refine aj ?_;refine Gb ?_ ?_<;>intro h0
 ·
  obtain⟨B,hB⟩:=get_some (xs:=xc.blocks.xs) (i:=i) oM;have qJ:Mb B xc.blocks:=⟨List.mem_of_getElem? hB⟩;have dZ:=WD (ly hB);have hle:(((hU xc.blocks.xs).take i).filter fun b=>b.bad).length<=i:=Nat.le_trans (aos _ _) (by rw[amo];omega);refine Gc ?_;refine ae (aY rfl rfl i rfl oM) (ae (gq rfl i hB rfl) ?_);have aab:Mb B xc.blocks:=⟨List.mem_of_getElem? hB⟩;refine bc fun b5=>aG ?_;refine Gb ?_ ?_<;>intro h1
  ·
   rw[if_pos (show(bv B).bad=true from h1)]at dZ;refine Gi ?_;refine aQ ?_;refine Gi ?_;exact bg (x:=(i)) (i+1) oF oF (Sub.cons rfl (Sub.cons (look_eq rfl (by rw[dZ];rfl)) sb)) (fun w hw=>ag.mem hw)
  rw[if_neg (show ¬(bv B).bad=true by rw[show(bv B).bad=B.bad from rfl,h1];simp)]at dZ;refine aj ?_;refine Gi ?_;exact bg (x:=(i)) (i+1) oF oF (Sub.cons rfl (Sub.cons (look_eq rfl (by rw[dZ,anA])) sb)) (fun w hw=>ag.mem hw)
 obtain rfl:i=xc.blocks.xs.length:=by omega
 have hz:l8 (cv xc)=(((hU xc.blocks.xs).take xc.blocks.xs.length).filter fun b=>b.bad).length:=by rw[←dY];exact congrArg (fun l:List BV=>(l.filter fun b=>b.bad).length) (amN).symm
 refine an ?_;refine Gr fun w1 hw=>?_;exact⟨congrArg (fun b=>Ending.returned (Value.int .i64 b)) (by rw[hz]),ag.mem hw⟩⟩
instance aj9{xb:Nat}{xc:Cp}{xa:Sl Int}{xg:UInt64}{xl:Int}{xy:Bool}{b:Int}[dR:kZ w0 L xb (aP (⟨⟨xc,xa,xg,xl⟩,xy⟩:aR)) 261][dz:aU w0 L xc]:bD Tryz.prog 219 w0 L [.pointer (some ⟨xb,0,none⟩), .int .i64 b] (.int .i64 (fU (cv xc) b)) (bl (cv xc)=true/\0<=b/\b<(cv xc).blocks.length):=⟨fun aw w hw=>by
 have dR:=dR.h w hw;have dz:=dz.h w hw;have tJ:pJ w xb (aP (⟨⟨xc,xa,xg,xl⟩,xy⟩:aR)) 261:=⟨dR⟩;have tK:cw w xc:=⟨dz⟩;obtain⟨hk,A6,A7⟩:=aw;have fY:fe xc:=rC hk;have dY:(cv xc).blocks.length=xc.blocks.xs.length:=fT _;obtain⟨B,hB⟩:=get_some (xs:=xc.blocks.xs) (i:=b.toNat) oM;have qJ:Mb B xc.blocks:=⟨List.mem_of_getElem? hB⟩;have dQ:=rL hB;have fm:=gF.1 ((eB.1 hk).2.2.2.2 (bv B) (amm (ly hB)));have fO:=kt.1 (eB.1 hk).1;have o8:(aN (cv xc) b).used=B.used:=by rw[dQ];rfl
 simp only[bv,cv]at fm fO;refine cD Tryz.func219 rfl Tryz.ntmps219 rfl ?_;refine dV ?_;refine ae (Ry.to (v':=xc.blocks.sv.val) (mi rfl) rfl) (Gs ?_);refine ae (aY rfl rfl b.toNat oM oM) (ae (gq rfl b.toNat hB rfl) ?_);have DL:Mb B xc.blocks:=⟨List.mem_of_getElem? hB⟩;refine bc fun b5=>aG ?_;refine Gb ?_ ?_<;>intro h0
 ·
  refine aj ?_;refine Gr fun w1 hw=>?_;exact Gf ((by rw[fU,dQ,if_pos (show(bv B).bad=true from h0)])) hw
 refine Gc ?_;refine gO oK oK (aG ?_);refine bm (Ry.to (v':= .int .i64 xc.ab) (mi rfl) rfl) (aG ?_);refine Gr fun w1 hw=>?_;exact⟨congrArg (fun b=>Ending.returned (Value.int .i64 b)) ((by rw[fU,dQ,if_neg (show ¬(bv B).bad=true by rw[show(bv B).bad=B.bad from rfl,h0];simp)];rfl)),ag.mem hw⟩⟩
instance aka{er:Int}:bD Tryz.prog 311 w0 L [.int .i64 er] (.int .i64 (kT er)) (True):=⟨fun aw w hw=>by
 refine bQ Tryz.func311 rfl Tryz.ntmps311 rfl ?_;refine aQ ?_;refine Gb ?_ ?_<;>intro h0
 ·
  refine aj ?_;refine Gr fun w1 hw=>?_;exact Gf ((by rw[kT,if_pos h0])) hw
 refine an ?_;refine Gr fun w1 hw=>?_;exact⟨congrArg (fun b=>Ending.returned (Value.int .i64 b)) ((by rw[kT,if_neg h0])),ag.mem hw⟩⟩
instance akb{xb:Nat}{xc:Cp}{xa:Sl Int}{xg:UInt64}{xl:Int}{xy:Bool}[dR:kZ w0 L xb (aP (⟨⟨xc,xa,xg,xl⟩,xy⟩:aR)) 261][dz:aU w0 L xc]:bD Tryz.prog 306 w0 L [.pointer (some ⟨xb,0,none⟩)] (.bool (AG xg.toNat)) (xg.toNat<281474976710656):=⟨fun aw w hw=>by
 have dR:=dR.h w hw;have dz:=dz.h w hw;have tJ:pJ w xb (aP (⟨⟨xc,xa,xg,xl⟩,xy⟩:aR)) 261:=⟨dR⟩;have tK:cw w xc:=⟨dz⟩;refine bQ Tryz.func306 rfl Tryz.ntmps306 rfl ?_;refine ct ?_;refine ae (Ry.to (v':= .int .u64 (xg.toNat:Nat)) (mi rfl) rfl) (ae (zv (p:=xg.toNat) (q:=2) rfl rfl rfl rfl (by simp only[nb];omega)) (aj ?_));refine Gr fun w1 hw=>?_;exact⟨congrArg (fun b=>Ending.returned (Value.bool b)) (by rw[AG];congr 1;simp only[eq_iff_iff];omega),ag.mem hw⟩⟩
instance akc{xb:Nat}{xc:Cp}{xa:Sl Int}{xg:UInt64}{xl:Int}{xy:Bool}{b:Int}[dR:kZ w0 L xb (aP (⟨⟨xc,xa,xg,xl⟩,xy⟩:aR)) 261][dz:aU w0 L xc]:bD Tryz.prog 251 w0 L [.pointer (some ⟨xb,0,none⟩), .int .i64 b] (.int .u64 ((nS (cv xc) b):Nat)) (bl (cv xc)=true/\0<=b/\b<(cv xc).blocks.length):=⟨fun aw w hw=>by
 have dR:=dR.h w hw;have dz:=dz.h w hw;have tJ:pJ w xb (aP (⟨⟨xc,xa,xg,xl⟩,xy⟩:aR)) 261:=⟨dR⟩;have tK:cw w xc:=⟨dz⟩;obtain⟨hk,A6,A7⟩:=aw;have fY:fe xc:=rC hk;have dY:(cv xc).blocks.length=xc.blocks.xs.length:=fT _;obtain⟨B,hB⟩:=get_some (xs:=xc.blocks.xs) (i:=b.toNat) oM;have qJ:Mb B xc.blocks:=⟨List.mem_of_getElem? hB⟩;have dQ:=rL hB;have fm:=gF.1 ((eB.1 hk).2.2.2.2 (bv B) (amm (ly hB)));have fO:=kt.1 (eB.1 hk).1;have o8:(aN (cv xc) b).used=B.used:=by rw[dQ];rfl
 simp only[bv,cv]at fm fO;have ic:=mR B.ab.xs;have hgE:nS (cv xc) b=rM (aM B.ab.xs):=by rw[nS,dQ];rfl
 refine cD Tryz.func251 rfl Tryz.ntmps251 rfl ?_;refine nO ?_;refine ae (Ry.to (v':=xc.blocks.sv.val) (mi rfl) rfl) (Gs ?_);refine ae (aY rfl rfl b.toNat oM oM) (ae (aK rfl rfl) (ae (bB (j:=0) rfl b.toNat hB rfl (by decide)) (aj ?_)));refine bI (X:=Nat) (fun U=>[(21, .int .i64 (U:Nat)),(5, .int .u64 ((rM ((aM B.ab.xs).take U)):Nat)),(19,B.ab.sv.val),(20, .int .i64 (B.ab.xs.length:Nat))]) (fun U=>[]) (fun U=>U<=B.ab.xs.length) (fun U=>B.ab.xs.length -U) 0 (amK _) sb (fun w hw=>ag.mem hw) ?_;rintro i bf;refine aj ?_;refine Gb ?_ ?_<;>intro h0
 ·
  obtain⟨y,hy⟩:=get_some (xs:=B.ab.xs) (i:=i) oM;have Il:Mb y B.ab:=⟨List.mem_of_getElem? hy⟩;have dZ:=WC (oA hy);have A2:=Hg ((aM B.ab.xs).take i);have lI:=Nw y.xs;refine Gc ?_;refine ae (aY rfl rfl i rfl oM) (ae (bB (j:=0) rfl i hy rfl (by decide)) (aj ?_));refine aW rfl trivial fun pP sh=>?_;have tI:pP.gen.toNat=(eN y.xs).1.gen:=congrArg RV.gen sh;refine Gs ?_;refine ae (ax (v:= .agg (dI pP)) rfl rfl) (ae (ax (v:= .int .i64 ((eN y.xs).2)) rfl rfl) (bc fun b8=>aQ ?_));refine Gb ?_ ?_<;>intro h1
  ·
   have hr:th y.xs=pP.gen.toNat:=by rw[th,if_pos h1,←tI]
   refine Gi ?_;refine aj ?_;refine ae (vw rfl rfl) (an ?_);refine Gi ?_;exact bg (x:=(i)) (i+1) oF oF (Sub.cons rfl (Sub.cons (look_eq rfl (by rw[dZ,hr];congr 1;omega)) sb)) (fun w hw=>ag.mem hw)
  have hr:th y.xs=0:=by rw[th,if_neg h1]
  refine aj ?_;refine Gi ?_;exact bg (x:=(i)) (i+1) oF oF (Sub.cons rfl (Sub.cons (look_eq rfl (by rw[dZ,hr];congr 1;omega)) sb)) (fun w hw=>ag.mem hw)
 obtain rfl:i=B.ab.xs.length:=by omega
 have hz:rM (aM B.ab.xs)=(rM ((aM B.ab.xs).take B.ab.xs.length)):=by rw[←ic,amN]
 refine an ?_;refine Gr fun w1 hw=>?_;exact⟨by rw[hgE,hz],ag.mem hw⟩⟩
instance akd{xb:Nat}{xc:Cp}{xa:Sl Int}{xg:UInt64}{xl:Int}{xy:Bool}{b:Int}[dR:kZ w0 L xb (aP (⟨⟨xc,xa,xg,xl⟩,xy⟩:aR)) 261][dz:aU w0 L xc]:bD Tryz.prog 215 w0 L [.pointer (some ⟨xb,0,none⟩), .int .i64 b] (.bool (AF (cv xc) b)) (bl (cv xc)=true/\0<=b/\b<(cv xc).blocks.length):=⟨fun aw w hw=>by
 have dR:=dR.h w hw;have dz:=dz.h w hw;have tJ:pJ w xb (aP (⟨⟨xc,xa,xg,xl⟩,xy⟩:aR)) 261:=⟨dR⟩;have tK:cw w xc:=⟨dz⟩;have aac:=aw;obtain⟨hk,A6,A7⟩:=aw;have fY:fe xc:=rC hk;have dY:(cv xc).blocks.length=xc.blocks.xs.length:=fT _;obtain⟨B,hB⟩:=get_some (xs:=xc.blocks.xs) (i:=b.toNat) oM;have qJ:Mb B xc.blocks:=⟨List.mem_of_getElem? hB⟩;have dQ:=rL hB;have fm:=gF.1 ((eB.1 hk).2.2.2.2 (bv B) (amm (ly hB)));have fO:=kt.1 (eB.1 hk).1;have o8:(aN (cv xc) b).used=B.used:=by rw[dQ];rfl
 simp only[bv,cv]at fm fO;refine cD Tryz.func215 rfl Tryz.ntmps215 rfl ?_;refine dV ?_;refine ae (Ry.to (v':=xc.blocks.sv.val) (mi rfl) rfl) (Gs ?_);refine ae (aY rfl rfl b.toNat oM oM) (ae (gq rfl b.toNat hB rfl) ?_);have DL:Mb B xc.blocks:=⟨List.mem_of_getElem? hB⟩;refine bc fun b5=>fS ?_;refine gm rfl rfl rfl (fun hg=>(Ry.yl (ba (au hg rfl)))) (sI rfl rfl rfl (fun hg=>(Ry.yl (ba rfl))) (sI rfl rfl rfl (fun hg=>(Ry.yl (da (au hg rfl) rfl rfl))) (sI rfl rfl rfl (fun hg=>(Ry.yl (ba (au hg rfl)))) (iB rfl rfl rfl (fun hg=>(Ry.yl (ba rfl))) (iB rfl rfl rfl (fun hg=>(Ry.yl (ba rfl))) (iB rfl rfl rfl (fun hg=>br (dB (au hg rfl) (dB (au hg rfl) gk)) aac) (iB rfl rfl rfl (fun hg=>(Ry.yl (da (au hg rfl) rfl rfl))) (sI rfl rfl rfl (fun hg=>(Ry.yl (sD (au hg rfl) (qV hg rfl) rfl))) (gm rfl rfl rfl (fun hg=>(Ry.yl (w9 (au hg rfl) rfl (qV hg rfl)))) (aj ?_))))))))));refine Gr fun w1 hw=>?_;exact⟨congrArg (fun b=>Ending.returned (Value.bool b)) ((by
  have e:decide ((0:Int)<((nS (cv xc) b:Nat):Int))=decide (0<nS (cv xc) b):=decide_eq_decide.2 oM;rw[AF,dQ,e];rfl)),ag.mem hw⟩⟩
instance ake{xb:Nat}{xc:Cp}{xa:Sl Int}{xg:UInt64}{xl:Int}{xy:Bool}{b:Int}[dR:kZ w0 L xb (aP (⟨⟨xc,xa,xg,xl⟩,xy⟩:aR)) 261][dz:aU w0 L xc]:bD Tryz.prog 217 w0 L [.pointer (some ⟨xb,0,none⟩), .int .i64 b] (.int .u64 ((fC (cv xc) b):Nat)) (bl (cv xc)=true/\2<=(cv xc).blocks.length/\(b=0\/b=1)):=⟨fun aw w hw=>by
 have dR:=dR.h w hw;have dz:=dz.h w hw;have tJ:pJ w xb (aP (⟨⟨xc,xa,xg,xl⟩,xy⟩:aR)) 261:=⟨dR⟩;have tK:cw w xc:=⟨dz⟩;obtain⟨hk,pq,PE⟩:=aw;have A2:=Hg (aN (cv xc) (1 -b)).ab;change nS (cv xc) (1 -b)<_ at A2;refine cD Tryz.func217 rfl Tryz.ntmps217 rfl ?_;refine fS ?_;refine ck (br rfl ⟨hk,by omega,by omega⟩) (Gs ?_);refine ae (Ry.to (v':= .int .u64 (((1 -b).toNat:Nat):Int)) (xi rfl oM (by simp only[nb];omega)) (by congr 1;omega)) (ae (zv (p:=(nS (cv xc) (1 -b))) (q:=((1 -b).toNat)) rfl rfl rfl rfl (by simp only[nb];omega)) (ae (vw rfl rfl) (ao ?_)));refine Gr fun w1 hw=>?_;exact⟨by rw[fC];congr 2;omega,ag.mem hw⟩⟩
instance akf{xb:Nat}{xc:Cp}{xa:Sl Int}{xg:UInt64}{xl:Int}{xy:Bool}[dR:kZ w0 L xb (aP (⟨⟨xc,xa,xg,xl⟩,xy⟩:aR)) 261][dz:aU w0 L xc]:bD Tryz.prog 261 w0 L [.pointer (some ⟨xb,0,none⟩)] (.int .i64 (wq (cv xc) xl)) (bl (cv xc)=true/\2<=(cv xc).blocks.length/\(xl=0\/xl=1)):=⟨fun aw w hw=>by
 have dR:=dR.h w hw;have dz:=dz.h w hw;have tJ:pJ w xb (aP (⟨⟨xc,xa,xg,xl⟩,xy⟩:aR)) 261:=⟨dR⟩;have tK:cw w xc:=⟨dz⟩;obtain⟨hk,pq,PE⟩:=aw;have fY:fe xc:=rC hk;have dY:(cv xc).blocks.length=xc.blocks.xs.length:=fT _;obtain⟨Bo,fm⟩:=get_some (xs:=xc.blocks.xs) (i:=(1 -xl).toNat) oM;obtain⟨Bl,mq⟩:=get_some (xs:=xc.blocks.xs) (i:=xl.toNat) oM;have yQ:=rL fm;have PF:=rL mq;refine bQ Tryz.func261 rfl Tryz.ntmps261 rfl ?_;refine aj ?_;refine gO oK oK (an ?_);refine bm (Ry.to (v':= .int .i64 xl) (mi rfl) rfl) (an ?_);refine bm (Ry.to (v':= .int .i64 xl) (mi rfl) rfl) (fS ?_);refine ae (Ry.to (v':=xc.blocks.sv.val) (mi rfl) rfl) (Gs ?_);refine ae (aY rfl rfl ((1 -xl).toNat) oM oM) (ae (aK rfl rfl) (ae (bB (j:=3) rfl ((1 -xl).toNat) fm rfl (by decide)) (ao ?_)));refine Gb ?_ ?_<;>intro h0
 ·
  refine aj ?_;refine ck (br rfl ⟨hk,by omega,by omega⟩) (ao ?_);refine Gr fun w1 hw=>?_;exact Gf ((by rw[wq,yQ,if_pos (show(bv Bo).bad=true from h0)])) hw
 refine aQ ?_;refine ae (Ry.to (v':=xc.blocks.sv.val) (mi rfl) rfl) (Gs ?_);refine ae (aY rfl rfl xl.toNat oM oM) (ae (aK rfl rfl) (ae (bB (j:=3) rfl xl.toNat mq rfl (by decide)) (aj ?_)));refine gm rfl rfl rfl (fun hg=>br (dB (au hg rfl) (dB (au hg rfl) gk)) ⟨hk,by omega,by omega⟩) (an ?_);refine Gb ?_ ?_<;>intro h1
 ·
  refine aj ?_;refine ck (br rfl ⟨hk,by omega,by omega⟩) (ao ?_);refine Gr fun w1 hw=>?_;exact Gf ((by rw[wq,yQ,PF,if_neg (show ¬(bv Bo).bad=true by rw[show(bv Bo).bad=Bo.bad from rfl,h0];simp),if_pos ⟨h1.1,h1.2⟩])) hw
 refine aQ ?_;refine ae (Ry.to (v':= .int .i64 xc.ab) (mi rfl) rfl) (ao ?_);refine Gr fun w1 hw=>?_;exact⟨congrArg (fun b=>Ending.returned (Value.int .i64 b)) ((by
  rw[wq,yQ,PF,if_neg (show ¬(bv Bo).bad=true by rw[show(bv Bo).bad=Bo.bad from rfl,h0];simp),if_neg]
  ·
   rfl
  rintro⟨g1,g2⟩;rcases h1 with h|h
  ·
   exact absurd (h.symm.trans g1) (by simp)
  omega)),ag.mem hw⟩⟩
instance akg{c:Cp}{b:Int}{g:Int}{x:Sv}{xs:List UInt8}[hc:aU w0 L c][hx:cS w0 L aL 1 x xs]:bK Tryz.prog 256 w0 L [.agg (aS c), .int .i64 b, .int .i64 g,x.val] (Cp) (fun U=> .tuple #[.agg (aS U), .int .i64 (lA (cv c) b g xs)]) (fun U=>fz U::L) (fun U=>cv U=mU (cv c) b g xs) (fe c):=⟨fun aw w hw=>Gk (fun U=>[fz U]) hw (by
 have hc:=hc.h w hw;have hx:=hx.h w hw;have jS:cw w c:=⟨hc⟩;have va:Gv w x aL 1 xs:=⟨hx⟩;have fY:fe c:=aw;obtain⟨lG,kV,oX⟩:=aw;have ti:dG=1099511627776:=rfl;refine Lk Tryz.func256 rfl Tryz.ntmps256 rfl ?_;refine Gc ?_;refine bJ rfl fun b4=>bc fun b8=>aj ?_;refine aW rfl (by assumption) fun bY si=>bc fun qL=>Li ?_;refine Gb ?_ ?_<;>intro h0
 ·
  have hz: ¬s8 (cv c) b g xs=true:=fun hk=>by
   obtain⟨k1,k2,k3,k4,k5⟩:=qm.1 hk;rw[k1]at h0;simp only[cv]at k3 k4 k5;simp only[anG,false_or]at h0;omega
  refine aG ?_;refine Gr fun w1 hw=>?_;exact⟨bY,by rw[lA,if_neg hz],by rw[si,mU,if_neg (fun h=>hz h.1)],mX bY (ag.mem hw)⟩
 have hk:s8 (cv c) b g xs=true:=by
  cases k1:lz (cv c) b with
  |false=>rw[k1]at h0;simp at h0
  |true=>
   rw[k1]at h0;simp only[anG,false_or]at h0;exact qm.2 ⟨k1,by omega,by simp only[cv];omega,by simp only[cv];omega,by simp only[cv];omega⟩
 have hh:=(qm.1 hk).1;have Pc:=(mS.1 hh).2;have dY:bY.blocks.xs.length=c.blocks.xs.length:=by have:=congrArg (fun v:CV=>v.blocks.length) si;simpa only[cv,fT]using this
 have AW:bY.ops=c.ops:=congrArg CV.ops si;have pL:(cv c).blocks.length=c.blocks.xs.length:=fT _;obtain⟨B,hB⟩:=get_some (xs:=bY.blocks.xs) (i:=b.toNat) oM;have mq:b.toNat<bY.blocks.xs.length:=(zz.1 hB).1;have dQ:bv B=aN (cv c) b:=by
  have h1:=C1 hh;have h2:=ly hB;rw[show hU bY.blocks.xs=(cv c).blocks from congrArg CV.blocks si,h1]at h2;exact(amn h2).symm
 have fm:oB c.ab c.size (bv B)=true:=by rw[dQ];exact we hh
 obtain⟨o1,o2,o3,o4,o5,o6⟩:=gF.1 fm;have fO:=kt.1 (eB.1 (mS.1 hh).1).1;have AX:=(eB.1 (mS.1 hh).1).2.1;simp only[bv,cv]at o1 o2 o3 o4 o5 o6 fO AX;have Pd:=mR B.ab.xs;obtain⟨_,k2,k3,k4,k5⟩:=qm.1 hk;simp only[cv]at k3 k4 k5;refine an ?_;refine Gb ?_ ?_<;>intro h1
 ·
  refine aG ?_;refine Gr fun w1 hw=>?_;exact⟨bY,by rw[lA,if_pos hk,if_pos (show(cv c).off=true from h1)],by rw[si,mU,if_neg (fun h=>absurd (h1.symm.trans h.2.1) (by simp))],mX bY (ag.mem hw)⟩
 have qM:(cv c).off=false:=h1;refine an ?_;refine ae (aY rfl rfl b.toNat oM mq) (an ?_);refine ae (aK rfl rfl) (ae (bB (j:=3) rfl b.toNat hB rfl (by decide)) (aj ?_));refine aV rfl rfl rfl (fun hg=>(Ry.yl (fa (au hg rfl)))) (aV rfl rfl rfl (fun hg=>(Ry.yl (aK (au hg rfl) rfl))) (aV rfl rfl rfl (fun hg=>(Ry.yl (bB (j:=1) (au hg rfl) b.toNat hB rfl (by decide)))) (aj ?_)));refine Gb ?_ ?_<;>intro h2
 ·
  have fE:(aN (cv c) b).bad=true\/g≠(aN (cv c) b).used:=by rw[←dQ];exact h2
  refine aG ?_;refine Gr fun w1 hw=>?_;exact⟨bY,by rw[lA,if_pos hk,if_neg (by rw[qM];simp),if_pos fE],by rw[si,mU,if_neg (fun h=>fE.elim (fun g1=>absurd (g1.symm.trans h.2.2.1) (by simp)) (fun g1=>g1 h.2.2.2))],mX bY (ag.mem hw)⟩
 have fE: ¬((aN (cv c) b).bad=true\/g≠(aN (cv c) b).used):=by
  rw[←dQ];rintro(h|h)
  ·
   exact absurd (h2.1.symm.trans h) (by simp)
  exact h h2.2
 have hgu:g=B.used:=h2.2;obtain⟨q,hq⟩:=get_some (xs:=(aM B.ab.xs)) (i:=g.toNat) oM;have vh:=o6 q (amm hq);have cE:B.ab.xs≠[]:=fun e=>by
  have h9:(aM B.ab.xs).length=0:=by rw[e];rfl
  omega
 have se:(bY.blocks.xs.set b.toNat ({B with used:=B.used+1}:Bk))[b.toNat]? =Option.some ({B with used:=B.used+1}:Bk):=amP mq
 have j8:mU (cv c) b g xs=rA (cv c) b g xs:=by
  rw[mU,if_pos ⟨hk,qM,by cases hb:(aN (cv c) b).bad with|false=>rfl|true=>exact absurd (.inl hb) fE,Decidable.not_not.1 fun h=>fE (.inr h)⟩]
 refine iY ?_;refine MQ (pr:=fun rm:Sv=>rm.nil=false/\rm.sp=none/\B.ab.xs=cT rm 0 (aM B.ab.xs)) (fun rm:Sv=>[own (bX (τ:=UInt8)) 1 B.ab.sv B.ab.xs,own aL 1 rm (aM B.ab.xs).flatten,own bU 4 bY.blocks.sv bY.blocks.xs,ah.all ((bY.blocks.xs.eraseIdx b.toNat).map fun b:Bk=>eA b.ab),own cO 4 bY.bb.sv bY.bb.xs,al qL (aS bY) 59,al b8 (aS fL) 59,al b4 (aS c) 59]) (fun w hw=>MB hB cE (ag.mem hw)) fun rm A3=>?_;obtain⟨hn,hs,yR⟩:=A3;have yS:B.ab.xs[g.toNat]? =Option.some ⟨(win rm ((aM B.ab.xs).take g.toNat).flatten.length (((aM B.ab.xs).take g.toNat).flatten.length+q.length)),q⟩:=by rw[yR,uA,C5 hq,amX]
 have PG: ∀r:List UInt8,r.length=q.length->B.ab.xs.map (fun x=>x.sv)=(cT rm 0 ((aM B.ab.xs).set g.toNat r)).map (fun x=>x.sv):=fun r hr=>(congrArg (List.map fun x:Sl UInt8=>x.sv) yR).trans (VL hq hr);refine Gi ?_;refine Gs ?_;refine ck (br rfl oM) (Gs ?_);refine ae (ax (v:= .agg (cO ((bS (cv c)).1))) rfl rfl) (ae (ax (v:= .bool ((bS (cv c)).2)) rfl rfl) (bc fun tG=>ct ?_));refine cR (cs':=aS (⟨bY.ab,bY.size,bY.blocks,(bY.ops+1),bY.off,bY.bb⟩:Cp)) rfl rfl (by show 3<6;decide) (by first|rfl|exact Sv.one _) rfl (aj ?_);refine ae (aK rfl rfl) (ae (bB (j:=1) rfl b.toNat hB rfl (by decide)) (ao ?_));refine ae (aK rfl rfl) (kj (s:=bY.blocks.sv) (n:=1) (k:=b.toNat) (j:=1) (a:=B) (a':=({B with used:=B.used+1}:Bk)) (xs:=bY.blocks.xs) (enc:=bU) (c:=4) (v:= .int .i64 (B.used+1)) oK rfl rfl rfl hB (by simp[Value.cells,Value.oneCell']) (by rfl) (by decide) (by rfl) (aj ?_))
 refine ae (aK rfl rfl) (ae (Ry.to (v':=B.ab.sv.val) (bB (j:=0) rfl b.toNat se rfl (by decide)) rfl) (Gs ?_));refine ae (aY rfl rfl g.toNat oM oM) (ae (Ry.to (v':=(win rm ((aM B.ab.xs).take g.toNat).flatten.length (((aM B.ab.xs).take g.toNat).flatten.length+q.length)).val) (bB (j:=0) rfl g.toNat yS rfl (by decide)) rfl) (Gs ?_));refine Vy (D:=(win rm ((aM B.ab.xs).take g.toNat).flatten.length (((aM B.ab.xs).take g.toNat).flatten.length+q.length))) (S:=x) (rm:=rm) (k:=((aM B.ab.xs).take g.toNat).flatten.length) (xs:=(aM B.ab.xs).flatten) (ys:=xs) rfl hn hs rfl (by rw[xZ oM];omega) rfl (by decide) hn oM (by simp only[win];omega) (by have:=Ar hq;have:=As (aM B.ab.xs) (g.toNat+1);omega) (an ?_);refine Gb ?_ ?_<;>intro h3
 ·
  have kW:xT (cv c) xs=xs:=by rw[xT,if_neg (by rw[h3];simp)]
  refine aG ?_;refine Gr fun w1 hw=>?_;exact⟨(⟨bY.ab,bY.size,⟨bY.blocks.sv,bY.blocks.xs.set b.toNat ⟨⟨B.ab.sv,cT rm 0 ((aM B.ab.xs).set g.toNat xs)⟩,B.used+1,B.bC,B.bad⟩⟩,bY.ops+1,bY.off,bY.bb⟩:Cp),by rw[lA,if_pos hk,if_neg (by rw[qM];simp),if_neg fE,if_neg (by rw[h3];simp)];rfl,by rw[MG si dQ,j8,rA,kW,h3,aoK,show bY.off=(cv c).off from congrArg CV.off si,qM],(by
   rw[←C4 hq oM]at hw;exact mX (⟨bY.ab,bY.size,⟨bY.blocks.sv,bY.blocks.xs.set b.toNat ⟨⟨B.ab.sv,cT rm 0 ((aM B.ab.xs).set g.toNat xs)⟩,B.used+1,B.bC,B.bad⟩⟩,bY.ops+1,bY.off,bY.bb⟩:Cp) (C6 (rm:=rm) (l:=(aM B.ab.xs).set g.toNat xs) (B:=({B with used:=B.used+1}:Bk)) (B':=⟨⟨B.ab.sv,cT rm 0 ((aM B.ab.xs).set g.toNat xs)⟩,B.used+1,B.bC,B.bad⟩) (sp:=B.ab.sv) (ps:=B.ab.xs) mq (PG _ oM) hn rfl rfl (ag.mem hw)))⟩
 have kW:xT (cv c) xs=cP (~~~(bS (cv c)).1.mask) xs:=by rw[xT,if_pos h3]
 have rU:cP (~~~(bS (cv c)).1.mask) (xs.take 0)++xs.drop 0=xs:=by simp[cP]
 refine aG ?_;refine bI (X:=Nat) (fun U=>[(96, .int .i64 (U:Nat)),(2, .int .i64 g),(8, .pointer (some ⟨b8,0,none⟩)),(10, .pointer (some ⟨qL,0,none⟩)),(11, .pointer (some ⟨bY.blocks.sv.b,bY.blocks.sv.o+b.toNat*4,none⟩)),(12, .pointer (some ⟨tG,0,none⟩)),(95, .int .i64 c.size)]) (fun U=>[al tG (cO (bS (cv c)).1) 97,own (bX (τ:=UInt8)) 1 B.ab.sv B.ab.xs,own aL 1 rm ((aM B.ab.xs).set g.toNat (cP (~~~(bS (cv c)).1.mask) (xs.take U)++xs.drop U)).flatten,own bU 4 bY.blocks.sv (bY.blocks.xs.set b.toNat ({B with used:=B.used+1}:Bk)),ah.all ((bY.blocks.xs.eraseIdx b.toNat).map fun b:Bk=>eA b.ab),own cO 4 bY.bb.sv bY.bb.xs,al qL (aS (⟨bY.ab,bY.size,bY.blocks,(bY.ops+1),bY.off,bY.bb⟩:Cp)) 59,al b8 (aS fL) 59,al b4 (aS c) 59]) (fun U=>U<=xs.length) (fun U=>xs.length -U) 0 (amK _) sb (fun w hw=>by
  rw[rU,C4 hq oM];exact ag.mem hw) ?_
 rintro i bf;refine aj ?_;refine Gb ?_ ?_<;>intro h4
 ·
  have lI:(cP (~~~(bS (cv c)).1.mask) (xs.take i)++xs.drop i).length=xs.length:=GQ oM;obtain⟨z,hz⟩:=get_some (xs:=xs) (i:=i) oM;have tF:((aM B.ab.xs).set g.toNat (cP (~~~(bS (cv c)).1.mask) (xs.take i)++xs.drop i)).flatten[((aM B.ab.xs).take g.toNat).flatten.length+i]? =Option.some z:=by
   have h9:=xY (l:=(aM B.ab.xs).set g.toNat (cP (~~~(bS (cv c)).1.mask) (xs.take i)++xs.drop i)) (i:=g.toNat) (j:=i) (amP oM) oM;rw[GP]at h9;rw[h9,MH oM,hz]
  refine an ?_;refine gB [15,1009] [[],[],[],[],[],[],[],[],[],[],[],[],[],[9],[9],[9]] [0,1,2,3,4,5,6,7,8,9,10,11,12,13,14,15] [own (bX (τ:=UInt8)) 1 B.ab.sv B.ab.xs,own bU 4 bY.blocks.sv (bY.blocks.xs.set b.toNat ({B with used:=B.used+1}:Bk)),al tG (cO (bS (cv c)).1) 97] (fun _ hw=>ag.mem hw) oK oK (ak rfl (ba rfl) (ak rfl (fa rfl) (ak rfl (aK rfl rfl) (ak rfl (Ry.to (v':=B.ab.sv.val) (bB (j:=0) rfl b.toNat se rfl (by decide)) rfl) (ak rfl (ba rfl) (ak rfl (aY rfl rfl g.toNat oM oM) (ak rfl (Ry.to (v':=(win rm ((aM B.ab.xs).take g.toNat).flatten.length (((aM B.ab.xs).take g.toNat).flatten.length+q.length)).val) (bB (j:=0) rfl g.toNat yS rfl (by decide)) rfl) (ak rfl (ba rfl) ?_))))))))
  obtain⟨aad,aae⟩:=get_some (xs:=q) (i:=i) oM;refine ak rfl (mC (s:=(win rm ((aM B.ab.xs).take g.toNat).flatten.length (((aM B.ab.xs).take g.toNat).flatten.length+q.length))) (i:=i) rfl rfl rfl (C7 hn hs oM) (by simp only[win];omega)) (fh rfl (bB (s:=rm) (enc:=aL) (c:=1) (xs:=((aM B.ab.xs).set g.toNat (cP (~~~(bS (cv c)).1.mask) (xs.take i)++xs.drop i)).flatten) (a:=z) (j:=0) (v:= .int .u8 z.toNat) rfl (((aM B.ab.xs).take g.toNat).flatten.length+i) tF (by rw[xZ oM];omega) (by decide)) (ak rfl (aK (o':=3) rfl rfl) (ak rfl (bA rfl) (ak rfl (VE rfl) (ak rfl (MC rfl rfl) ?_)))));obtain⟨akh,aki⟩:=get_some (xs:=q) (i:=i) oM;refine ak rfl (mC (s:=(win rm ((aM B.ab.xs).take g.toNat).flatten.length (((aM B.ab.xs).take g.toNat).flatten.length+q.length))) (i:=i) rfl rfl rfl (C7 hn hs oM) (by simp only[win];omega)) ?_;refine cC rfl (vX (s:=rm) (n:=1) (k:=((aM B.ab.xs).take g.toNat).flatten.length+i) (j:=0) (a:=z) (a':=z|||(~~~(bS (cv c)).1.mask)) (xs:=((aM B.ab.xs).set g.toNat (cP (~~~(bS (cv c)).1.mask) (xs.take i)++xs.drop i)).flatten) (enc:=aL) (c:=1) (v:= .int .u8 (z|||(~~~(bS (cv c)).1.mask)).toNat) oK rfl rfl (by rw[xZ oM];omega) tF (by simp[Value.cells,Value.oneCell']) rfl oM (by rfl) ⟨fun _ hw=>ag.mem hw,?_⟩);refine aj ?_;refine Gi ?_;exact bg (x:=(i)) (i+1) oF oF sb (fun w hw=>by
   rw[MI hq hz];exact ag.mem hw)
 obtain rfl:i=xs.length:=by omega
 have DF:cP (~~~(bS (cv c)).1.mask) (xs.take xs.length)++xs.drop xs.length=cP (~~~(bS (cv c)).1.mask) xs:=by rw[amN,aob,am4]
 refine an ?_;refine ae (ax (v:= .bool (((bS (cv c)).1).cut)) rfl rfl) (ae (ax (v:= .int .i64 (nR ((bS (cv c)).1))) rfl rfl) (aG ?_));refine cR (cs':=aS (⟨bY.ab,bY.size,bY.blocks,(bY.ops+1),((bS (cv c)).1).cut,bY.bb⟩:Cp)) rfl rfl (by show 4<6;decide) (by first|rfl|exact Sv.one _) rfl (aQ ?_);refine Gr fun w1 hw=>?_;exact⟨(⟨bY.ab,bY.size,⟨bY.blocks.sv,bY.blocks.xs.set b.toNat ⟨⟨B.ab.sv,cT rm 0 ((aM B.ab.xs).set g.toNat (cP (~~~(bS (cv c)).1.mask) xs))⟩,B.used+1,B.bC,B.bad⟩⟩,bY.ops+1,(bS (cv c)).1.cut,bY.bb⟩:Cp),by rw[lA,if_pos hk,if_neg (by rw[qM];simp),if_neg fE,if_pos h3];rfl,by rw[MG si dQ,j8,rA,kW,h3,an9],(by
  rw[DF]at hw;have hhl:(cP (~~~(bS (cv c)).1.mask) xs).length=xs.length:=by rw[cP,amF]
  exact mX (⟨bY.ab,bY.size,⟨bY.blocks.sv,bY.blocks.xs.set b.toNat ⟨⟨B.ab.sv,cT rm 0 ((aM B.ab.xs).set g.toNat (cP (~~~(bS (cv c)).1.mask) xs))⟩,B.used+1,B.bC,B.bad⟩⟩,bY.ops+1,(bS (cv c)).1.cut,bY.bb⟩:Cp) (C6 (rm:=rm) (l:=(aM B.ab.xs).set g.toNat (cP (~~~(bS (cv c)).1.mask) xs)) (B:=({B with used:=B.used+1}:Bk)) (B':=⟨⟨B.ab.sv,cT rm 0 ((aM B.ab.xs).set g.toNat (cP (~~~(bS (cv c)).1.mask) xs))⟩,B.used+1,B.bC,B.bad⟩) (sp:=B.ab.sv) (ps:=B.ab.xs) mq (PG _ oM) hn rfl rfl (ag.mem hw)))⟩)⟩
instance akj{c:Cp}{b:Int}[hc:aU w0 L c]:bK Tryz.prog 252 w0 L [.agg (aS c), .int .i64 b] (Cp) (fun U=> .tuple #[.agg (aS U), .int .i64 (eG (cv c) b)]) (fun U=>fz U::L) (fun U=>cv U=mV (cv c) b) (fe c):=⟨fun aw w hw=>Gk (fun U=>[fz U]) hw (by
 have hc:=hc.h w hw;have jS:cw w c:=⟨hc⟩;have fY:fe c:=aw;obtain⟨lG,kV,oX⟩:=aw;have ti:dG=1099511627776:=rfl;have sa:=wh (c:=c) (b:=b);have hwe:(c.blocks.xs.getD b.toNat oz).bC=(aN (cv c) b).bC:=congrArg BV.bC sa;refine cD Tryz.func252 rfl Tryz.ntmps252 rfl ?_;refine Gc ?_;refine bJ rfl fun b2=>bc fun b4=>aj ?_;refine aW rfl (by assumption) fun aA jQ=>bc fun b6=>Lf ?_;refine aV rfl rfl rfl (fun hg=>(Ry.yl (aY (au hg rfl) (au hg rfl) b.toNat (by simp only[Z0,Z1,Z2,Z3,Z4,Z5,Z6,Z7,Z8,Z9]at hg;have:=(GS hg.1).1;omega) (by simp only[Z0,Z1,Z2,Z3,Z4,Z5,Z6,Z7,Z8,Z9]at hg;exact(GS hg.1).2)))) (aV rfl rfl rfl (fun hg=>(Ry.yl (aK (au hg rfl) rfl))) (aV rfl rfl rfl (fun hg=>(Ry.yl (bB (j:=2) (au hg rfl) b.toNat (jZ (xs:=c.blocks.xs) (i:=b.toNat) (d:=oz) (by simp only[Z0,Z1,Z2,Z3,Z4,Z5,Z6,Z7,Z8,Z9]at hg;exact(GS hg.1).2)) rfl (by decide)))) (aj ?_)));refine Gb ?_ ?_<;>intro h0
 ·
  have hz: ¬s9 (cv c) b=true:=fun hk=>by
   obtain⟨k1,k2,k3⟩:=xU.1 hk;rw[k1]at h0;simp only[cv]at k2;simp only[anG,false_or]at h0;omega
  refine aG ?_;refine Gr fun w1 hw=>?_;exact⟨aA,by rw[eG,if_neg hz],by rw[jQ,mV,if_neg (fun h=>hz h.1)],mX aA (ag.mem hw)⟩
 have hk:s9 (cv c) b=true:=by
  cases k1:lz (cv c) b with
  |false=>rw[k1]at h0;simp at h0
  |true=>
   rw[k1]at h0;simp only[anG,false_or]at h0;exact xU.2 ⟨k1,by simp only[cv];omega,by omega⟩
 have hh:=(xU.1 hk).1;have Pc:=(mS.1 hh).2;have dY:aA.blocks.xs.length=c.blocks.xs.length:=by have:=congrArg (fun v:CV=>v.blocks.length) jQ;simpa only[cv,fT]using this
 have AW:aA.ops=c.ops:=congrArg CV.ops jQ;have pL:(cv c).blocks.length=c.blocks.xs.length:=fT _;obtain⟨B,hB⟩:=get_some (xs:=aA.blocks.xs) (i:=b.toNat) oM;have mq:b.toNat<aA.blocks.xs.length:=(zz.1 hB).1;have dQ:bv B=aN (cv c) b:=by
  have h1:=C1 hh;have h2:=ly hB;rw[show hU aA.blocks.xs=(cv c).blocks from congrArg CV.blocks jQ,h1]at h2;exact(amn h2).symm
 have fm:oB c.ab c.size (bv B)=true:=by rw[dQ];exact we hh
 obtain⟨o1,o2,o3,o4,o5,o6⟩:=gF.1 fm;have fO:=kt.1 (eB.1 (mS.1 hh).1).1;have AX:=(eB.1 (mS.1 hh).1).2.1;simp only[bv,cv]at o1 o2 o3 o4 o5 o6 fO AX;have Pd:=mR B.ab.xs;obtain⟨_,k2,k3⟩:=xU.1 hk;rw[←dQ]at k3;simp only[cv,bv]at k2 k3;refine an ?_;refine Gb ?_ ?_<;>intro h1
 ·
  refine aG ?_;refine Gr fun w1 hw=>?_;exact⟨aA,by rw[eG,if_pos hk,if_pos (show(cv c).off=true from h1)],by rw[jQ,mV,if_neg (fun h=>absurd (h1.symm.trans h.2.1) (by simp))],mX aA (ag.mem hw)⟩
 have qM:(cv c).off=false:=h1;refine an ?_;refine ae (aY rfl rfl b.toNat oM mq) (an ?_);refine ae (aK rfl rfl) (ae (bB (j:=3) rfl b.toNat hB rfl (by decide)) (Gc ?_));refine Gb ?_ ?_<;>intro h2
 ·
  have fE:(aN (cv c) b).bad=true:=by rw[←dQ];exact h2
  refine aG ?_;refine Gr fun w1 hw=>?_;exact⟨aA,by rw[eG,if_pos hk,if_neg (by rw[qM];simp),if_pos fE],by rw[jQ,mV,if_neg (fun h=>absurd (fE.symm.trans h.2.2) (by simp))],mX aA (ag.mem hw)⟩
 have fE:(aN (cv c) b).bad=false:=by rw[←dQ];exact h2
 have cE:B.ab.xs≠[]:=fun e=>by
  have h9:(aM B.ab.xs).length=0:=by rw[e];rfl
  omega
 have se:(aA.blocks.xs.set b.toNat ({B with bC:=B.bC+1}:Bk))[b.toNat]? =Option.some ({B with bC:=B.bC+1}:Bk):=amP mq
 have j8:mV (cv c) b=uC (cv c) b:=by
  rw[mV,if_pos ⟨hk,qM,fE⟩]
 have Aa: ∀x∈(aM B.ab.xs),((fun _:List UInt8=>gT c.size) x).length=x.length:=fun x hx=>by have:=o6 x hx;simp only[gT,amZ];omega
 have Iy: ∀x∈(aM B.ab.xs),((cP (bS (cv c)).1.mask) x).length=x.length:=fun x _=>by rw[cP,amF]
 refine iY ?_;refine MQ (pr:=fun rm:Sv=>rm.nil=false/\rm.sp=none/\B.ab.xs=cT rm 0 (aM B.ab.xs)) (fun rm:Sv=>[own (bX (τ:=UInt8)) 1 B.ab.sv B.ab.xs,own aL 1 rm (aM B.ab.xs).flatten,own bU 4 aA.blocks.sv aA.blocks.xs,ah.all ((aA.blocks.xs.eraseIdx b.toNat).map fun b:Bk=>eA b.ab),own cO 4 aA.bb.sv aA.bb.xs,al b6 (aS aA) 59,al b4 (aS fL) 59,al b2 (aS c) 59]) (fun w hw=>MB hB cE (ag.mem hw)) fun rm A3=>?_;obtain⟨hn,hs,yR⟩:=A3;have PH: ∀f:List UInt8->List UInt8,(∀x∈(aM B.ab.xs),(f x).length=x.length)->B.ab.xs.map (fun x=>x.sv)=(cT rm 0 ((aM B.ab.xs).map f)).map (fun x=>x.sv):=fun f hf=>(congrArg (List.map fun x:Sl UInt8=>x.sv) yR).trans (VO hf);refine Gi ?_;refine Gs ?_;refine ck (br rfl oM) (Gs ?_);refine ae (ax (v:= .agg (cO ((bS (cv c)).1))) rfl rfl) (ae (ax (v:= .bool ((bS (cv c)).2)) rfl rfl) (bc fun b8=>ct ?_));refine cR (cs':=aS (⟨aA.ab,aA.size,aA.blocks,(aA.ops+1),aA.off,aA.bb⟩:Cp)) rfl rfl (by show 3<6;decide) (by first|rfl|exact Sv.one _) rfl (aj ?_);refine ae (aK rfl rfl) (ae (bB (j:=2) rfl b.toNat hB rfl (by decide)) (ao ?_));refine ae (aK rfl rfl) (kj (s:=aA.blocks.sv) (n:=1) (k:=b.toNat) (j:=2) (a:=B) (a':=({B with bC:=B.bC+1}:Bk)) (xs:=aA.blocks.xs) (enc:=bU) (c:=4) (v:= .int .i64 (B.bC+1)) oK rfl rfl rfl hB (by simp[Value.cells,Value.oneCell']) (by rfl) (by decide) (by rfl) ?_)
 try simp only[List.set_set]
 refine an ?_;refine Gb ?_ ?_<;>intro h3
 ·
  have kW:uB (cv c) (aM B.ab.xs)=(aM B.ab.xs).map (fun _:List UInt8=>gT c.size):=by rw[uB,if_neg (by rw[h3];simp)];rfl
  have Iz:(aA.blocks.xs.set b.toNat ({B with bC:=B.bC+1,used:=0}:Bk))[b.toNat]? =Option.some ({B with bC:=B.bC+1,used:=0}:Bk):=amP mq
  refine aj ?_;refine ae (aK rfl rfl) (kj (s:=aA.blocks.sv) (n:=1) (k:=b.toNat) (j:=1) (a:=({B with bC:=B.bC+1}:Bk)) (a':=({B with bC:=B.bC+1,used:=0}:Bk)) (xs:=(aA.blocks.xs.set b.toNat ({B with bC:=B.bC+1}:Bk))) (enc:=bU) (c:=4) (v:= .int .i64 0) oK rfl rfl rfl se (by simp[Value.cells,Value.oneCell']) (by rfl) (by decide) (by rfl) ?_)
  try simp only[List.set_set]
  refine aG ?_;refine bI (X:=Nat) (fun U=>[(71, .int .i64 (U:Nat)),(4, .pointer (some ⟨b4,0,none⟩)),(6, .pointer (some ⟨b6,0,none⟩)),(7, .pointer (some ⟨aA.blocks.sv.b,aA.blocks.sv.o+b.toNat*4,none⟩)),(70, .int .i64 c.ab)]) (fun U=>[al b8 (cO (bS (cv c)).1) 97,own (bX (τ:=UInt8)) 1 B.ab.sv B.ab.xs,own aL 1 rm (mixed (fun _:List UInt8=>gT c.size) (aM B.ab.xs) U).flatten,own bU 4 aA.blocks.sv (aA.blocks.xs.set b.toNat ({B with bC:=B.bC+1,used:=0}:Bk)),ah.all ((aA.blocks.xs.eraseIdx b.toNat).map fun b:Bk=>eA b.ab),own cO 4 aA.bb.sv aA.bb.xs,al b6 (aS (⟨aA.ab,aA.size,aA.blocks,(aA.ops+1),aA.off,aA.bb⟩:Cp)) 59,al b4 (aS fL) 59,al b2 (aS c) 59]) (fun U=>U<=(aM B.ab.xs).length) (fun U=>(aM B.ab.xs).length -U) 0 (amK _) sb (fun w hw=>by
   rw[MJ];exact ag.mem hw) ?_
  rintro k bf;refine aj ?_;refine Gb ?_ ?_<;>intro h4
  ·
   obtain⟨q,hq⟩:=get_some (xs:=(aM B.ab.xs)) (i:=k) oM;have vh:=o6 q (amm hq);have yS:B.ab.xs[k]? =Option.some ⟨(win rm ((aM B.ab.xs).take k).flatten.length (((aM B.ab.xs).take k).flatten.length+q.length)),q⟩:=by rw[yR,uA,C5 hq,amX]
   refine aQ ?_;refine ae (aK rfl rfl) (ae (Ry.to (v':=B.ab.sv.val) (bB (j:=0) rfl b.toNat Iz rfl (by decide)) rfl) (Gs ?_));refine ae (aY rfl rfl k rfl oM) (ae (Ry.to (v':= .slice (some ⟨rm.b,rm.o+((aM B.ab.xs).take k).flatten.length,none⟩) q.length q.length) (bB (j:=0) rfl k yS rfl (by decide)) (VP hn hs oM)) (aW rfl ⟨by have h9:=congrArg List.length (GR (f:=(fun _:List UInt8=>gT c.size)) hq);have h8:=As (mixed (fun _:List UInt8=>gT c.size) (aM B.ab.xs) k) (k+1);have h7:=Ar (Au (f:=(fun _:List UInt8=>gT c.size)) hq);rw[C8 Aa oM]at h7;omega,by omega⟩ fun x81 akk=>aj ?_));refine Gi ?_;exact bg (x:=(k)) (k+1) oF oF sb (fun w hw=>by
    rw[VN hq Aa (n:=q.length) (by simp only[gT];congr 1;omega) rfl];exact ag.mem hw)
  refine aG ?_;refine Gr fun w1 hw=>?_;exact⟨(⟨aA.ab,aA.size,⟨aA.blocks.sv,aA.blocks.xs.set b.toNat ⟨⟨B.ab.sv,cT rm 0 ((aM B.ab.xs).map (fun _:List UInt8=>gT c.size))⟩,0,B.bC+1,B.bad⟩⟩,aA.ops+1,aA.off,aA.bb⟩:Cp),by rw[eG,if_pos hk,if_neg (by rw[qM];simp),if_neg (by rw[fE];simp),if_neg (by rw[h3];simp)];rfl,by rw[ML jQ dQ,j8,uC,←dQ,show(bv B).ab=(aM B.ab.xs)from rfl,kW,h3,aoK,if_neg (by simp),show aA.off=(cv c).off from congrArg CV.off jQ,qM],(by
   rw[MK oM]at hw;exact mX (⟨aA.ab,aA.size,⟨aA.blocks.sv,aA.blocks.xs.set b.toNat ⟨⟨B.ab.sv,cT rm 0 ((aM B.ab.xs).map (fun _:List UInt8=>gT c.size))⟩,0,B.bC+1,B.bad⟩⟩,aA.ops+1,aA.off,aA.bb⟩:Cp) (C6 (rm:=rm) (l:=(aM B.ab.xs).map (fun _:List UInt8=>gT c.size)) (B:=({B with bC:=B.bC+1,used:=0}:Bk)) (B':=⟨⟨B.ab.sv,cT rm 0 ((aM B.ab.xs).map (fun _:List UInt8=>gT c.size))⟩,0,B.bC+1,B.bad⟩) (sp:=B.ab.sv) (ps:=B.ab.xs) mq (PH _ Aa) hn rfl rfl (ag.mem hw)))⟩
 have kW:uB (cv c) (aM B.ab.xs)=(aM B.ab.xs).map (cP (bS (cv c)).1.mask):=by rw[uB,if_pos h3]
 have Iz:(aA.blocks.xs.set b.toNat ({B with bC:=B.bC+1,used:=c.ab}:Bk))[b.toNat]? =Option.some ({B with bC:=B.bC+1,used:=c.ab}:Bk):=amP mq
 refine aG ?_;refine ae (aK rfl rfl) (kj (s:=aA.blocks.sv) (n:=1) (k:=b.toNat) (j:=1) (a:=({B with bC:=B.bC+1}:Bk)) (a':=({B with bC:=B.bC+1,used:=c.ab}:Bk)) (xs:=(aA.blocks.xs.set b.toNat ({B with bC:=B.bC+1}:Bk))) (enc:=bU) (c:=4) (v:= .int .i64 c.ab) oK rfl rfl rfl se (by simp[Value.cells,Value.oneCell']) (by rfl) (by decide) (by rfl) ?_)
 try simp only[List.set_set]
 refine aG ?_;refine bI (X:=Nat) (fun U=>[(91, .int .i64 (U:Nat)),(2, .pointer (some ⟨b2,0,none⟩)),(4, .pointer (some ⟨b4,0,none⟩)),(6, .pointer (some ⟨b6,0,none⟩)),(7, .pointer (some ⟨aA.blocks.sv.b,aA.blocks.sv.o+b.toNat*4,none⟩)),(8, .pointer (some ⟨b8,0,none⟩)),(90, .int .i64 c.ab)]) (fun U=>[al b8 (cO (bS (cv c)).1) 97,own (bX (τ:=UInt8)) 1 B.ab.sv B.ab.xs,own aL 1 rm (mixed (cP (bS (cv c)).1.mask) (aM B.ab.xs) U).flatten,own bU 4 aA.blocks.sv (aA.blocks.xs.set b.toNat ({B with bC:=B.bC+1,used:=c.ab}:Bk)),ah.all ((aA.blocks.xs.eraseIdx b.toNat).map fun b:Bk=>eA b.ab),own cO 4 aA.bb.sv aA.bb.xs,al b6 (aS (⟨aA.ab,aA.size,aA.blocks,(aA.ops+1),aA.off,aA.bb⟩:Cp)) 59,al b4 (aS fL) 59,al b2 (aS c) 59]) (fun U=>U<=(aM B.ab.xs).length) (fun U=>(aM B.ab.xs).length -U) 0 (amK _) sb (fun w hw=>by
  rw[MJ];exact ag.mem hw) ?_
 rintro k Gx;refine aj ?_;refine Gb ?_ ?_<;>intro h5
 ·
  obtain⟨q,hq⟩:=get_some (xs:=(aM B.ab.xs)) (i:=k) oM;have vh:=o6 q (amm hq);have yS:B.ab.xs[k]? =Option.some ⟨(win rm ((aM B.ab.xs).take k).flatten.length (((aM B.ab.xs).take k).flatten.length+q.length)),q⟩:=by rw[yR,uA,C5 hq,amX]
  refine dV ?_;refine bI (X:=Nat) (fun U=>[(96, .int .i64 (U:Nat)),(2, .pointer (some ⟨b2,0,none⟩)),(4, .pointer (some ⟨b4,0,none⟩)),(6, .pointer (some ⟨b6,0,none⟩)),(7, .pointer (some ⟨aA.blocks.sv.b,aA.blocks.sv.o+b.toNat*4,none⟩)),(8, .pointer (some ⟨b8,0,none⟩)),(11, .int .i64 (k:Nat)),(90, .int .i64 c.ab),(91, .int .i64 (k:Nat)),(95, .int .i64 c.size)]) (fun U=>[al b8 (cO (bS (cv c)).1) 97,own (bX (τ:=UInt8)) 1 B.ab.sv B.ab.xs,own aL 1 rm ((mixed (cP (bS (cv c)).1.mask) (aM B.ab.xs) k).set k (cP (bS (cv c)).1.mask (q.take U)++q.drop U)).flatten,own bU 4 aA.blocks.sv (aA.blocks.xs.set b.toNat ({B with bC:=B.bC+1,used:=c.ab}:Bk)),ah.all ((aA.blocks.xs.eraseIdx b.toNat).map fun b:Bk=>eA b.ab),own cO 4 aA.bb.sv aA.bb.xs,al b6 (aS (⟨aA.ab,aA.size,aA.blocks,(aA.ops+1),aA.off,aA.bb⟩:Cp)) 59,al b4 (aS fL) 59,al b2 (aS c) 59]) (fun U=>U<=q.length) (fun U=>q.length -U) 0 (amK _) sb (fun w hw=>by
   rw[amL,anh,cP,anl,am6,xX (Au hq)];exact ag.mem hw) ?_
  rintro j jc;refine aj ?_;refine Gb ?_ ?_<;>intro h6
  ·
   have lI:(cP (bS (cv c)).1.mask (q.take j)++q.drop j).length=q.length:=GQ oM;obtain⟨z,hz⟩:=get_some (xs:=q) (i:=j) oM;have tF:((mixed (cP (bS (cv c)).1.mask) (aM B.ab.xs) k).set k (cP (bS (cv c)).1.mask (q.take j)++q.drop j)).flatten[((aM B.ab.xs).take k).flatten.length+j]? =Option.some z:=by
    have h9:=xY (l:=(mixed (cP (bS (cv c)).1.mask) (aM B.ab.xs) k).set k (cP (bS (cv c)).1.mask (q.take j)++q.drop j)) (i:=k) (j:=j) (amP (zz.1 (Au (f:=(cP (bS (cv c)).1.mask)) hq)).1) oM;rw[GP,C8 Iy oM]at h9;rw[h9,MH oM,hz]
   refine an ?_;refine gB [14,1009] [[],[],[],[],[],[],[],[],[],[],[],[],[9],[9],[9]] [0,1,2,3,4,5,6,7,8,9,10,11,12,13,14] [own (bX (τ:=UInt8)) 1 B.ab.sv B.ab.xs,own bU 4 aA.blocks.sv (aA.blocks.xs.set b.toNat ({B with bC:=B.bC+1,used:=c.ab}:Bk)),al b8 (cO (bS (cv c)).1) 97] (fun _ hw=>ag.mem hw) oK oK (ak rfl (ba rfl) (ak rfl (fa rfl) (ak rfl (aK rfl rfl) (ak rfl (Ry.to (v':=B.ab.sv.val) (bB (j:=0) rfl b.toNat Iz rfl (by decide)) rfl) (ak rfl (ba rfl) (ak rfl (aY rfl rfl k rfl oM) (ak rfl (Ry.to (v':=(win rm ((aM B.ab.xs).take k).flatten.length (((aM B.ab.xs).take k).flatten.length+q.length)).val) (bB (j:=0) rfl k yS rfl (by decide)) rfl) (ak rfl (ba rfl) ?_))))))))
   obtain⟨aad,aae⟩:=get_some (xs:=q) (i:=j) oM;refine ak rfl (mC (s:=(win rm ((aM B.ab.xs).take k).flatten.length (((aM B.ab.xs).take k).flatten.length+q.length))) (i:=j) rfl rfl rfl (C7 hn hs oM) (by simp only[win];omega)) (fh rfl (bB (s:=rm) (enc:=aL) (c:=1) (xs:=((mixed (cP (bS (cv c)).1.mask) (aM B.ab.xs) k).set k (cP (bS (cv c)).1.mask (q.take j)++q.drop j)).flatten) (a:=z) (j:=0) (v:= .int .u8 z.toNat) rfl (((aM B.ab.xs).take k).flatten.length+j) tF (by rw[xZ oM];omega) (by decide)) (ak rfl (aK (o':=3) rfl rfl) (ak rfl (bA rfl) (ak rfl (MC rfl rfl) ?_))));obtain⟨akl,akm⟩:=get_some (xs:=q) (i:=j) oM;refine ak rfl (mC (s:=(win rm ((aM B.ab.xs).take k).flatten.length (((aM B.ab.xs).take k).flatten.length+q.length))) (i:=j) rfl rfl rfl (C7 hn hs oM) (by simp only[win];omega)) ?_;refine cC rfl (vX (s:=rm) (n:=1) (k:=((aM B.ab.xs).take k).flatten.length+j) (j:=0) (a:=z) (a':=z|||(bS (cv c)).1.mask) (xs:=((mixed (cP (bS (cv c)).1.mask) (aM B.ab.xs) k).set k (cP (bS (cv c)).1.mask (q.take j)++q.drop j)).flatten) (enc:=aL) (c:=1) (v:= .int .u8 (z|||(bS (cv c)).1.mask).toNat) oK rfl rfl (by rw[xZ oM];omega) tF (by simp[Value.cells,Value.oneCell']) rfl oM (by rfl) ⟨fun _ hw=>ag.mem hw,?_⟩);refine aj ?_;refine Gi ?_;exact bg (x:=(j)) (j+1) oF oF sb (fun w hw=>by
    rw[MI (Au hq) hz,C8 Iy oM];exact ag.mem hw)
  obtain rfl:j=q.length:=by omega
  refine aj ?_;refine Gi ?_;exact bg (x:=(k)) (k+1) oF oF sb (fun w hw=>by
   rw[←GR hq];rw[amN,aob,am4]at hw;exact ag.mem hw)
 refine an ?_;refine ae (ax (v:= .bool (((bS (cv c)).1).cut)) rfl rfl) (ae (ax (v:= .int .i64 (nR ((bS (cv c)).1))) rfl rfl) (aG ?_));refine cR (cs':=aS (⟨aA.ab,aA.size,aA.blocks,(aA.ops+1),((bS (cv c)).1).cut,aA.bb⟩:Cp)) rfl rfl (by show 4<6;decide) (by first|rfl|exact Sv.one _) rfl (aQ ?_);refine Gr fun w1 hw=>?_;exact⟨(⟨aA.ab,aA.size,⟨aA.blocks.sv,aA.blocks.xs.set b.toNat ⟨⟨B.ab.sv,cT rm 0 ((aM B.ab.xs).map (cP (bS (cv c)).1.mask))⟩,c.ab,B.bC+1,B.bad⟩⟩,aA.ops+1,(bS (cv c)).1.cut,aA.bb⟩:Cp),by rw[eG,if_pos hk,if_neg (by rw[qM];simp),if_neg (by rw[fE];simp),if_pos h3];rfl,by rw[ML jQ dQ,j8,uC,←dQ,show(bv B).ab=(aM B.ab.xs)from rfl,kW,h3,an9,if_pos rfl];rfl,(by
  rw[MK oM]at hw;exact mX (⟨aA.ab,aA.size,⟨aA.blocks.sv,aA.blocks.xs.set b.toNat ⟨⟨B.ab.sv,cT rm 0 ((aM B.ab.xs).map (cP (bS (cv c)).1.mask))⟩,c.ab,B.bC+1,B.bad⟩⟩,aA.ops+1,(bS (cv c)).1.cut,aA.bb⟩:Cp) (C6 (rm:=rm) (l:=(aM B.ab.xs).map (cP (bS (cv c)).1.mask)) (B:=({B with bC:=B.bC+1,used:=c.ab}:Bk)) (B':=⟨⟨B.ab.sv,cT rm 0 ((aM B.ab.xs).map (cP (bS (cv c)).1.mask))⟩,c.ab,B.bC+1,B.bad⟩) (sp:=B.ab.sv) (ps:=B.ab.xs) mq (PH _ Iy) hn rfl rfl (ag.mem hw)))⟩)⟩
theorem aaf(w:World):(Instr.build 324 #[(0, .int .i64 1)]).run Tryz.prog w= .ok (.agg (cG ⟨1,0,0,⟨Sv.none,[]⟩⟩)) w:=by kernel_rfl
theorem aag(w0 w:World)(L:List ah)(k:Nat)(xc:Cp)(xa:Sl Int)(xg:UInt64)(xl:Int)(xy:Bool)(b:Int)(er:Int)(hw:Mem w0 (al k (aP (⟨⟨xc,xa,xg,xl⟩,xy⟩:aR)) 261::fz xc::L) w)(aw:bl (cv xc)=true):Calls Tryz.prog 253 #[.pointer (some ⟨k,0,none⟩), .int .i64 b, .int .i64 er] w fun e w'=> ∃U:Cp,e= .returned (.tuple #[])/\(cv U=l5 (cv xc) b er)/\Mem w0 (al k (aP (⟨⟨U,xa,xg,xl⟩,xy⟩:aR)) 261::fz U::L) w':=by
 have fY:fe xc:=rC aw;refine fI (args:=[_,_,_]) Tryz.func253 rfl Tryz.ntmps253 rfl hw ?_;change Cw _ _ _ _ _ [(0, .pointer (some ⟨k,0,none⟩)),(1, .int .i64 b),(2, .int .i64 er)] (al k (aP (⟨⟨xc,xa,xg,xl⟩,xy⟩:aR)) 261::fz xc::L);refine an ?_;refine Gb ?_ ?_<;>intro h0
 ·
  have hE:l5 (cv xc) b er=qn (cv xc) b:=by rw[l5,if_pos h0]
  refine Gi ?_;refine aG ?_;refine ae (Ry.to (v':= .agg (aS xc)) (dy rfl) rfl) (Gs ?_);refine aW rfl (by assumption) fun aA jQ=>Gs ?_;refine ae (ax (v:= .agg (aS aA)) rfl rfl) (ae (ax (v:= .int .i64 (rB (cv xc) b)) rfl rfl) (aj ?_));refine lL (cs':=aP (⟨⟨aA,xa,xg,xl⟩,xy⟩:aR)) rfl rfl (by show 0+6<=10;decide) rfl (Gi ?_);refine cY (.inr rfl) (iJ rfl) (fun w1 hw=>?_);exact⟨aA,rfl,by rw[hE,jQ],ag.mem hw⟩
 have hE:l5 (cv xc) b er=(cv xc):=by rw[l5,if_neg h0]
 refine Gi ?_;refine cY (.inr rfl) (iJ rfl) (fun w1 hw=>?_);exact⟨xc,rfl,by rw[hE],ag.mem hw⟩
instance akn{w0:World}{L R1 L2:List ah}{i0 i1:Nat}{k:Nat}{xc:Cp}{xa:Sl Int}{xg:UInt64}{xl:Int}{xy:Bool}{b:Int}{er:Int}[q0:Has L k (aP (⟨⟨xc,xa,xg,xl⟩,xy⟩:aR)) 261 i0][d0:bW L i0 R1][q1:At R1 (fz xc) i1][d1:bW R1 i1 L2]:bK Tryz.prog 253 w0 L [.pointer (some ⟨k,0,none⟩), .int .i64 b, .int .i64 er] (Cp) (fun U=> .tuple #[]) (fun U=>al k (aP (⟨⟨U,xa,xg,xl⟩,xy⟩:aR)) 261::fz U::L2) (fun U=>cv U=l5 (cv xc) b er) (bl (cv xc)=true):=⟨fun hp w hw=>aag w0 w L2 k xc xa xg xl xy b er (mM q0.h d0.h q1.h d1.h hw) hp⟩
theorem aah(w0 w:World)(L:List ah)(k:Nat)(xc:Cp)(xa:Sl Int)(xg:UInt64)(xl:Int)(xy:Bool)(b:Int)(y:Sv)(ys:List UInt8)[hy:Hd w0 L y aL 1 ys](hw:Mem w0 (al k (aP (⟨⟨xc,xa,xg,xl⟩,xy⟩:aR)) 261::fz xc::L) w)(aw:bl (cv xc)=true/\0<=b/\b<(cv xc).blocks.length):Calls Tryz.prog 220 #[.pointer (some ⟨k,0,none⟩), .int .i64 b,y.val] w fun e w'=> ∃U:Cp,e= .returned (.int .i64 (cm (cv xc) b ys))/\(cv U=dh (cv xc) b ys)/\Mem w0 (al k (aP (⟨⟨U,xa,xg,xl⟩,xy⟩:aR)) 261::fz U::L) w':=by
 obtain⟨hk,A6,A7⟩:=aw;have fY:fe xc:=rC hk;have dY:(cv xc).blocks.length=xc.blocks.xs.length:=fT _;obtain⟨B,hB⟩:=get_some (xs:=xc.blocks.xs) (i:=b.toNat) oM;have qJ:Mb B xc.blocks:=⟨List.mem_of_getElem? hB⟩;have dQ:=rL hB;have fm:=gF.1 ((eB.1 hk).2.2.2.2 (bv B) (amm (ly hB)));have fO:=kt.1 (eB.1 hk).1;have o8:(aN (cv xc) b).used=B.used:=by rw[dQ];rfl
 simp only[bv,cv]at fm fO;refine fI (args:=[_,_,_]) Tryz.func220 rfl Tryz.ntmps220 rfl hw ?_;change Cw _ _ _ _ _ [(0, .pointer (some ⟨k,0,none⟩)),(1, .int .i64 b),(2,y.val)] (al k (aP (⟨⟨xc,xa,xg,xl⟩,xy⟩:aR)) 261::fz xc::L);refine aj ?_;refine nN [17,21,22,2021,4017] [[],[],[],[],[],[],[],[],[],[],[],[],[],[],[],[],[],[],[17],[17],[17],[],[17,21],[17,21,22]] [0,1,2,3,4,5,6,7,8,9,10,11,12,13,14,15,16,17,18,19,20,21,22,23] [al k (aP (⟨⟨xc,xa,xg,xl⟩,xy⟩:aR)) 261,fz xc] [(21,km Tryz.prog 59)] oK (fun _ hw=>ag.mem hw) oK oK (ak rfl (ba rfl) (ak rfl (fa rfl) (ak rfl (aK (o':=0) rfl rfl) (ak rfl (aK (o':=0) rfl rfl) (ak rfl (Ry.to (v':= .agg (aS xc)) (dy rfl) rfl) (ak rfl (ba rfl) (ak rfl (ba rfl) (ak rfl (fa rfl) (ak rfl (aK (o':=0) rfl rfl) (ak rfl (aK (o':=0) rfl rfl) (ak rfl (aK (o':=2) rfl rfl) (ak rfl (Ry.to (v':=xc.blocks.sv.val) (bA rfl) rfl) ?_))))))))))));refine ak rfl (ba rfl) (ak rfl (aY rfl rfl b.toNat oM oM) (ak rfl (aK rfl rfl) (ak rfl (bB (j:=1) rfl b.toNat hB rfl (by decide)) (ak rfl (ba rfl) ?_))));refine sV rfl rfl (by assumption) (fun e x w hw=>ag.mem hw) (Cert.one (i:=21) rfl rfl rfl ko (Cert.none rfl)) fun pP sh=>⟨fun _ hw=>ag.mem hw,?_⟩;refine ak rfl (ba rfl) (ak rfl (ax (v:= .agg (aS pP)) rfl rfl) (ak rfl (ax (v:= .int .i64 (lA (cv xc) b B.used ys)) rfl rfl) (mL (m:=km Tryz.prog 59) rfl rfl ko (Cert.none rfl) fun b7=>?_)));change Ln _ _ _ _ _ _ _ _ (bZ _ _ (.pointer (some ⟨b7,0,none⟩))) (al b7 (aS fL) 59::_) _;refine cC rfl (lV rfl rfl ⟨fun _ hw=>ag.mem hw,?_⟩);refine ak rfl (fG rfl) (aQ ?_);refine lL (cs':=aP (⟨⟨pP,xa,xg,xl⟩,xy⟩:aR)) rfl rfl (by show 0+6<=10;decide) rfl (an ?_);refine aW rfl (by rw[sh];exact Nn hk _ _ _) fun ke tL=>an ?_;refine Gr fun w1 hw=>?_;exact⟨ke,by rw[cm,o8],by rw[tL,sh,dh,cm,o8],ag.mem hw⟩
instance ako{w0:World}{L R1 L2:List ah}{i0 i1:Nat}{k:Nat}{xc:Cp}{xa:Sl Int}{xg:UInt64}{xl:Int}{xy:Bool}{b:Int}{y:Sv}{ys:List UInt8}[q0:Has L k (aP (⟨⟨xc,xa,xg,xl⟩,xy⟩:aR)) 261 i0][d0:bW L i0 R1][q1:At R1 (fz xc) i1][d1:bW R1 i1 L2][hy:Hd w0 L2 y aL 1 ys]:bK Tryz.prog 220 w0 L [.pointer (some ⟨k,0,none⟩), .int .i64 b,y.val] (Cp) (fun U=> .int .i64 (cm (cv xc) b ys)) (fun U=>al k (aP (⟨⟨U,xa,xg,xl⟩,xy⟩:aR)) 261::fz U::L2) (fun U=>cv U=dh (cv xc) b ys) (bl (cv xc)=true/\0<=b/\b<(cv xc).blocks.length):=⟨fun hp w hw=>aah w0 w L2 k xc xa xg xl xy b y ys (mM q0.h d0.h q1.h d1.h hw) hp⟩
theorem aai(w0 w:World)(L:List ah)(k:Nat)(xc:Cp)(xa:Sl Int)(xg:UInt64)(xl:Int)(xy:Bool)(b:Int)(hw:Mem w0 (al k (aP (⟨⟨xc,xa,xg,xl⟩,xy⟩:aR)) 261::fz xc::L) w)(aw:bl (cv xc)=true/\0<=b/\b<(cv xc).blocks.length):Calls Tryz.prog 216 #[.pointer (some ⟨k,0,none⟩), .int .i64 b] w fun e w'=> ∃U:Cp,e= .returned (.int .i64 (eG (cv xc) b))/\(cv U=jo (cv xc) b)/\Mem w0 (al k (aP (⟨⟨U,xa,xg,xl⟩,xy⟩:aR)) 261::fz U::L) w':=by
 obtain⟨hk,A6,A7⟩:=aw;have fY:fe xc:=rC hk;have dY:(cv xc).blocks.length=xc.blocks.xs.length:=fT _;obtain⟨B,hB⟩:=get_some (xs:=xc.blocks.xs) (i:=b.toNat) oM;have qJ:Mb B xc.blocks:=⟨List.mem_of_getElem? hB⟩;have dQ:=rL hB;have fm:=gF.1 ((eB.1 hk).2.2.2.2 (bv B) (amm (ly hB)));have fO:=kt.1 (eB.1 hk).1;have o8:(aN (cv xc) b).used=B.used:=by rw[dQ];rfl
 simp only[bv,cv]at fm fO;refine fI (args:=[_,_]) Tryz.func216 rfl Tryz.ntmps216 rfl hw ?_;change Cw _ _ _ _ _ [(0, .pointer (some ⟨k,0,none⟩)),(1, .int .i64 b)] (al k (aP (⟨⟨xc,xa,xg,xl⟩,xy⟩:aR)) 261::fz xc::L);refine ct ?_;refine ae (Ry.to (v':= .agg (aS xc)) (dy rfl) rfl) (Gs ?_);refine aW rfl (by assumption) fun kD wI=>Gs ?_;refine ae (ax (v:= .agg (aS kD)) rfl rfl) (ae (ax (v:= .int .i64 (eG (cv xc) b)) rfl rfl) (bc fun b5=>dV ?_));refine lL (cs':=aP (⟨⟨kD,xa,xg,xl⟩,xy⟩:aR)) rfl rfl (by show 0+6<=10;decide) rfl (an ?_);refine aW rfl (by rw[wI];exact No hk _) fun x25 aaj=>an ?_;refine Gr fun w1 hw=>?_;exact⟨x25,rfl,by rw[aaj,wI,jo],ag.mem hw⟩
instance akp{w0:World}{L R1 L2:List ah}{i0 i1:Nat}{k:Nat}{xc:Cp}{xa:Sl Int}{xg:UInt64}{xl:Int}{xy:Bool}{b:Int}[q0:Has L k (aP (⟨⟨xc,xa,xg,xl⟩,xy⟩:aR)) 261 i0][d0:bW L i0 R1][q1:At R1 (fz xc) i1][d1:bW R1 i1 L2]:bK Tryz.prog 216 w0 L [.pointer (some ⟨k,0,none⟩), .int .i64 b] (Cp) (fun U=> .int .i64 (eG (cv xc) b)) (fun U=>al k (aP (⟨⟨U,xa,xg,xl⟩,xy⟩:aR)) 261::fz U::L2) (fun U=>cv U=jo (cv xc) b) (bl (cv xc)=true/\0<=b/\b<(cv xc).blocks.length):=⟨fun hp w hw=>aai w0 w L2 k xc xa xg xl xy b (mM q0.h d0.h q1.h d1.h hw) hp⟩
theorem aak(w0 w:World)(L:List ah)(k:Nat)(xc:Cp)(xa:Sl Int)(xg:UInt64)(xl:Int)(xy:Bool)(b:Int)(hw:Mem w0 (al k (aP (⟨⟨xc,xa,xg,xl⟩,xy⟩:aR)) 261::fz xc::L) w)(aw:bl (cv xc)=true/\0<=b/\b<(cv xc).blocks.length):Calls Tryz.prog 312 #[.pointer (some ⟨k,0,none⟩), .int .i64 b] w fun e w'=> ∃U:Cp,e= .returned (.int .i64 ((dO (cv xc) b).2))/\(cv U=(dO (cv xc) b).1)/\Mem w0 (al k (aP (⟨⟨U,xa,xg,xl⟩,xy⟩:aR)) 261::fz U::L) w':=by
 obtain⟨hk,A6,A7⟩:=aw;refine fI (args:=[_,_]) Tryz.func312 rfl Tryz.ntmps312 rfl hw ?_;change Cw _ _ _ _ _ [(0, .pointer (some ⟨k,0,none⟩)),(1, .int .i64 b)] (al k (aP (⟨⟨xc,xa,xg,xl⟩,xy⟩:aR)) 261::fz xc::L);refine aj ?_;refine bI (X:=Cp) (fun U=>[(0, .pointer (some ⟨k,0,none⟩)),(1, .int .i64 b)]) (fun U=>al k (aP (⟨⟨U,xa,xg,xl⟩,xy⟩:aR)) 261::fz U::L) (fun U=>dO (cv xc) b=dO (cv U) b/\bl (cv U)=true/\eO (cv xc) (cv U)) (fun U=>(fU (cv U) b).toNat) xc ⟨rfl,hk, .gy _⟩ sb (fun w hw=>ag.mem hw) ?_;rintro d ⟨bf,aF,bo⟩;have uY:=bo.len;refine aj ?_;refine ck (br rfl ⟨aF,by omega,by omega⟩) (ao ?_);refine Gb ?_ ?_<;>intro h0
 ·
  have bE:=Wv (c:=cv d) (b:=b) h0;refine Gc ?_;refine ae (cr (v:= .agg (cG ⟨1,0,0,⟨Sv.none,[]⟩⟩)) rfl aaf) (aG ?_);refine ae (Ry.to (v':= .int .i64 d.size) (bA rfl) rfl) (aW rfl trivial fun gz wQ=>Gs ?_);refine ae (ax (v:=gz.val) rfl rfl) (ae (ax (v:= .int .i64 ((dX (cA (⟨1,0,0,⟨Sv.none,[]⟩⟩:dW)) d.size).2)) rfl rfl) (aQ ?_));refine aW rfl ⟨aF,by omega,by omega⟩ fun jR qC=>?_;have aal:cv jR=dh (cv d) b (jq (cv d)):=qC;clear qC;have qC:=aal;refine aG ?_;refine Gb ?_ ?_<;>intro h1
  ·
   have dJ:cm (cv d) b (jq (cv d))≠0:=h1;refine an ?_;refine Gr fun w1 hw=>?_;exact⟨jR,by rw[bf,bE,if_pos dJ];rfl,by rw[qC,bf,bE,if_pos dJ],ag.mem hw⟩
  have dJ:cm (cv d) b (jq (cv d))=0:=h1;refine fb ?_;exact bg (x:=(d)) jR ⟨by rw[bf,qC,bE,if_neg oF],by rw[qC];exact l6 aF _ _,by rw[qC];exact bo.trans (ng _ _ _)⟩ (by have h9:=Ns (c:=cv d) (b:=b) (p:=jq (cv d)) oF;rw[qC];omega) sb (fun w hw=>ag.mem hw)
 have PI:=Ww (c:=cv d) (b:=b) oM;refine aj ?_;refine aW rfl ⟨aF,by omega,by omega⟩ fun az uX=>ao ?_;refine Gr fun w1 hw=>?_;exact⟨az,by rw[bf,PI],by rw[uX,bf,PI],ag.mem hw⟩
instance akq{w0:World}{L R1 L2:List ah}{i0 i1:Nat}{k:Nat}{xc:Cp}{xa:Sl Int}{xg:UInt64}{xl:Int}{xy:Bool}{b:Int}[q0:Has L k (aP (⟨⟨xc,xa,xg,xl⟩,xy⟩:aR)) 261 i0][d0:bW L i0 R1][q1:At R1 (fz xc) i1][d1:bW R1 i1 L2]:bK Tryz.prog 312 w0 L [.pointer (some ⟨k,0,none⟩), .int .i64 b] (Cp) (fun U=> .int .i64 ((dO (cv xc) b).2)) (fun U=>al k (aP (⟨⟨U,xa,xg,xl⟩,xy⟩:aR)) 261::fz U::L2) (fun U=>cv U=(dO (cv xc) b).1) (bl (cv xc)=true/\0<=b/\b<(cv xc).blocks.length):=⟨fun hp w hw=>aak w0 w L2 k xc xa xg xl xy b (mM q0.h d0.h q1.h d1.h hw) hp⟩
theorem DS(w:World):(Instr.build 402 #[(3, .bool true)]).run Tryz.prog w= .ok (.agg (bF bV)) w:=by kernel_rfl
instance IA{xb:Nat}{xc:Cp}{xa:Sl Int}{xg:UInt64}{xl:Int}{xy:Bool}{l:Sl (Sl Int)}[dR:kZ w0 L xb (aP (⟨⟨xc,xa,xg,xl⟩,xy⟩:aR)) 261][dz:aU w0 L xc][hl:aU w0 L l]:bK Tryz.prog 304 w0 L [.pointer (some ⟨xb,0,none⟩),l.sv.val] (Sv) (fun U=>U.val) (fun U=>own bF 4 U (aT (cv xc) (ar l.xs))::L) (fun U=>True) (uI (cv xc) (ar l.xs)):=⟨fun aw w hw=>Gk (fun U=>[own bF 4 U (aT (cv xc) (ar l.xs))]) hw (by
 have dR:=dR.h w hw;have dz:=dz.h w hw;have hl:=hl.h w hw;have tJ:pJ w xb (aP (⟨⟨xc,xa,xg,xl⟩,xy⟩:aR)) 261:=⟨dR⟩;have tK:cw w xc:=⟨dz⟩;have pI:cw w l:=⟨hl⟩;refine cD Tryz.func304 rfl Tryz.ntmps304 rfl ?_;refine ct ?_;refine ae (Ry.to (v':= .agg (aS xc)) (Yo rfl) rfl) (Gs ?_);refine aW rfl (by assumption) fun uZ HY=>?_;have sQ:(ir (cv xc) (ar l.xs)).length=(cv xc).blocks.length -2:=by rw[ir,yi]
 have fO:=kt.1 (eB.1 aw.1.1).1;have wP: ∀i,i<=(ir (cv xc) (ar l.xs)).length->(((ir (cv xc) (ar l.xs)).take i).map oG++(ir (cv xc) (ar l.xs)).drop i).length=(ir (cv xc) (ar l.xs)).length:=fun i hi=>by rw[adr,amF,amo,amu];omega
 refine aQ ?_;refine bI (X:=Nat) (fun U=>[(16, .int .i64 (U:Nat)),(5,uZ.val),(15, .int .i64 ((ir (cv xc) (ar l.xs)).length:Nat))]) (fun U=>[own bF 4 uZ (((ir (cv xc) (ar l.xs)).take U).map oG++(ir (cv xc) (ar l.xs)).drop U)]) (fun U=>U<=(ir (cv xc) (ar l.xs)).length) (fun U=>(ir (cv xc) (ar l.xs)).length -U) 0 (amK _) sb (fun w hw=>by simp only[amL,anl,am6,anh];exact ag.mem hw) ?_;rintro i bf;have u6:=wP i bf;refine aj ?_;refine Gb ?_ ?_<;>intro h0
 ·
  obtain⟨z,hz⟩:=get_some (xs:=(ir (cv xc) (ar l.xs))) (i:=i) oM;have A8:=Nz (f:=oG) hz;refine aQ ?_;refine ae (aY rfl rfl i rfl oM) (ae (aK rfl rfl) (ae (bB (j:=3) rfl i A8 rfl (by decide)) (Gc ?_)));refine Gb ?_ ?_<;>intro h1
  ·
   have hf:oG z=bV:=by rw[oG,if_pos h1]
   refine Gi ?_;refine ao ?_;refine ae (cr (v:= .agg (bF bV)) rfl DS) (ae (aY rfl rfl i rfl oM) (kj (n:=4) (k:=i) (j:=0) (a:=z) (a':=bV) (xs:=(((ir (cv xc) (ar l.xs)).take i).map oG++(ir (cv xc) (ar l.xs)).drop i)) (enc:=bF) (c:=4) (v:= .agg (bF bV)) oK rfl rfl rfl A8 (bn.one (enc:=bF) (c:=4) _) rfl (by decide) (by rfl) (aj ?_)));refine Gi ?_;exact bg (x:=(i)) (i+1) oF oF sb (fun w hw=>by rw[←Nx hz,hf];exact ag.mem hw)
  have hf:oG z=z:=by rw[oG,if_neg (by rw[h1];simp)]
  refine aj ?_;refine Gi ?_;exact bg (x:=(i)) (i+1) oF oF sb (fun w hw=>by rw[←Ny hz hf];exact ag.mem hw)
 obtain rfl:i=(ir (cv xc) (ar l.xs)).length:=by omega
 have hE:aT (cv xc) (ar l.xs)=(((ir (cv xc) (ar l.xs)).take (ir (cv xc) (ar l.xs)).length).map oG++(ir (cv xc) (ar l.xs)).drop (ir (cv xc) (ar l.xs)).length):=by rw[aT,amN,aob,am4]
 refine an ?_;refine Gr fun w1 hw=>?_;exact⟨uZ,rfl,trivial,by rw[hE];exact ag.mem hw⟩)⟩
instance akr{s:Sv}{ss:List aI}[hs:cS w0 L bF 4 s ss]:bK Tryz.prog 328 w0 L [s.val] (Sv) (fun U=>U.val) (fun U=>own bF 4 U ss::L) (fun U=>True) (ss.length<=1000000):=⟨fun aw w hw=>Gk (fun U=>[own bF 4 U ss]) hw (by
 have hs:=hs.h w hw;have wG:Gv w s bF 4 ss:=⟨hs⟩;refine bQ Tryz.func328 rfl Tryz.ntmps328 rfl ?_;refine an ?_;refine ae (sL Tryz.underlying399 rfl) (Gc ?_);refine Gb ?_ ?_<;>intro h0
 ·
  have e0:ss=[]:=amB.1 (by have:=hs.ok.nil h0;have:=hs.len;omega);refine aj ?_;refine Gr fun w1 hw=>?_;exact⟨Sv.none,rfl,trivial,by rw[e0];exact(ag.mem hw:Mem w [] _).cJ bF 4⟩
 refine Gc ?_;refine uj bF fun b5=>Gs ?_;refine jY (s:=⟨false,b5,0,0,0,none⟩) (enc:=bF) (ys:=ss) rfl rfl (by decide) (fun w hw=>gP (s:=s) Tryz.underlying399 (by decide) ((inferInstance:cS _ _ bF 4 s ss).h w hw)) (by simp only[af0];omega) (by simp only[af0];omega) fun s7 wH uU=>?_;refine ao ?_;refine Gr fun w1 hw=>?_;exact⟨s7,rfl,trivial,by rw[am6]at hw;exact ag.mem hw⟩)⟩
theorem aam(w:World)(f:FuncId)(j6:Array Value)(R:aI->Bool)(hr:qD Tryz.prog w [] f j6 bF R)(l:Sv)(ls:List aI)(hl:dL bF 4 (hp w) l ls)(aw:ls.length<=1000000):Calls Tryz.prog 308 #[l.val, .func (.func f) #[] j6] w fun e w'=> ∃U:Sv,e= .returned (U.val)/\(True)/\Mem w [own bF 4 U (cx R ls)] w':=by
 have pI:Gv w l bF 4 ls:=⟨hl⟩;have ZJ:=hr.fn;have wP: ∀i,i<=ls.length->((ls.take i).map (lC R)++ls.drop i).length=ls.length:=fun i hi=>by rw[adr,amF,amo,amu];omega
 refine cD Tryz.func308 rfl Tryz.ntmps308 rfl ?_;refine an ?_;refine aW rfl oM fun x9 A0=>aQ ?_;refine bI (X:=Nat) (fun U=>[(12, .int .i64 (U:Nat)),(5,x9.val),(10,x9.val),(1, .func (.func f) #[] j6),(11, .int .i64 (ls.length:Nat))]) (fun U=>[own bF 4 x9 ((ls.take U).map (lC R)++ls.drop U)]) (fun U=>U<=ls.length) (fun U=>ls.length -U) 0 (amK _) sb (fun w hw=>by simp only[amL,anl,am6,anh];exact ag.mem hw) ?_;rintro i bf;have u6:=wP i bf;refine aj ?_;refine Gb ?_ ?_<;>intro h0
 ·
  obtain⟨z,hz⟩:=get_some (xs:=ls) (i:=i) oM;have A8:=Nz (f:=lC R) hz;refine ao ?_;refine ae (aY rfl rfl i rfl oM) (ae (gq rfl i A8 rfl) (bc fun b7=>ct ?_));refine aV rfl rfl rfl (fun hg=>(Ry.yl (fu rfl))) (aV rfl rfl rfl (fun hg=>CC (f:=f) (vs:=[.agg (bF z)]) (au hg rfl) (dB (au hg rfl) gk) (fun w1 nA=>hr.h w1 (ag.mem nA) z)) (aV rfl rfl rfl (fun hg=>(Ry.yl (kg (au hg rfl)))) (ao ?_)));refine Gb ?_ ?_<;>intro h1
  ·
   have hf:lC R z=bV:=by rw[lC,if_pos (by simpa using h1)]
   refine Gi ?_;refine ao ?_;refine ae (cr (v:= .agg (bF bV)) rfl DS) (ae (aY rfl rfl i rfl oM) (kj (n:=4) (k:=i) (j:=0) (a:=z) (a':=bV) (xs:=((ls.take i).map (lC R)++ls.drop i)) (enc:=bF) (c:=4) (v:= .agg (bF bV)) oK rfl rfl rfl A8 (bn.one (enc:=bF) (c:=4) _) rfl (by decide) (by rfl) (aj ?_)));refine Gi ?_;exact bg (x:=(i)) (i+1) oF oF sb (fun w hw=>by rw[←Nx hz,hf];exact ag.mem hw)
  have hf:lC R z=z:=by rw[lC,if_neg (by simpa using h1)]
  refine aj ?_;refine Gi ?_;exact bg (x:=(i)) (i+1) oF oF sb (fun w hw=>by rw[←Ny hz hf];exact ag.mem hw)
 obtain rfl:i=ls.length:=by omega
 have hE:cx R ls=((ls.take ls.length).map (lC R)++ls.drop ls.length):=by rw[cx,amN,aob,am4]
 refine an ?_;refine Gr fun w1 hw=>?_;exact⟨x9,rfl,trivial,by rw[hE];exact ag.mem hw⟩
instance aks{f:FuncId}{j6:Array Value}{R:aI->Bool}{l:Sv}{ls:List aI}[rq:qD Tryz.prog w0 L f j6 bF R][hl:cS w0 L bF 4 l ls]:bK Tryz.prog 308 w0 L [l.val, .func (.func f) #[] j6] (Sv) (fun U=>U.val) (fun U=>own bF 4 U (cx R ls)::L) (fun U=>True) (ls.length<=1000000):=⟨fun hp w hw=>(aam w f j6 R (rq.at hw) l ls (hl.h w hw) hp).mono fun e w' ⟨x,h1,h2,h3⟩=>⟨x,h1,h2,hw.call h3⟩⟩
instance:dH Tryz.prog 3 (.int .i64 0):=⟨by kernel_rfl⟩
theorem A9(a:Sl Int):ar [a]=a.xs:=by simp[ar]
theorem IB(a b:Sl Int):ar [a,b]=a.xs++b.xs:=by simp[ar]
instance akt{xb:Nat}{xc:Cp}{xa:Sl Int}{xg:UInt64}{xl:Int}{xy:Bool}[dR:kZ w0 L xb (aP (⟨⟨xc,xa,xg,xl⟩,xy⟩:aR)) 261][dz:aU w0 L xc][qq:aU w0 L xa]:bD Tryz.prog 260 w0 L [.pointer (some ⟨xb,0,none⟩)] (.tuple #[.int .i64 ((oJ (cv xc) xa.xs).1), .int .i64 ((oJ (cv xc) xa.xs).2)]) (uI (cv xc) xa.xs):=⟨fun aw w hw=>by
 have dR:=dR.h w hw;have dz:=dz.h w hw;have qq:=qq.h w hw;have tJ:pJ w xb (aP (⟨⟨xc,xa,xg,xl⟩,xy⟩:aR)) 261:=⟨dR⟩;have tK:cw w xc:=⟨dz⟩;have aku:cw w xa:=⟨qq⟩;have pN:uI (cv xc) (ar [xa]):=by rw[A9];exact aw
 have hk:=aw.1.1;have PJ: ∀z∈(aT (cv xc) (ar [xa])),yp (cv xc) (ar [xa]).length z:=fun z hz=>Dp hk hz;have lI:=NM hk (aT (cv xc) (ar [xa])) PJ;have kB:=qp (cv xc) (ar [xa]);have hd:=kU hk;change _/\_/\1<=xc.ab/\xc.ab<=16/\_/\_ at hd;refine bQ Tryz.func260 rfl Tryz.ntmps260 rfl ?_;refine Ae ?_;refine ae (Ry.to (v':=xa.sv.val) (mi rfl) rfl) ?_;refine kO (enc:=bX) (vals:=[xa.sv.val]) [xa] rfl (by simp only[amR,anl,Sv.iC];rfl) rfl (by decide) (by decide) fun b15=>?_;refine aW (hc:=IA (l:=(⟨⟨false,b15,0,1,1,none⟩,[xa]⟩:Sl (Sl Int)))) rfl pN fun aA jQ=>aj ?_;refine bI (X:=Nat) (fun U=>[(18, .int .i64 (U:Nat)),(4, .int .i64 ((eP xc.ab ((aT (cv xc) (ar [xa])).take U)).1)),(5, .int .i64 ((eP xc.ab ((aT (cv xc) (ar [xa])).take U)).2)),(0, .pointer (some ⟨xb,0,none⟩)),(16,aA.val),(17, .int .i64 ((aT (cv xc) (ar [xa])).length:Nat))]) (fun U=>[own bF 4 aA (aT (cv xc) (ar [xa]))]) (fun U=>U<=(aT (cv xc) (ar [xa])).length) (fun U=>(aT (cv xc) (ar [xa])).length -U) 0 (amK _) (Sub.cons rfl (Sub.cons (look_eq rfl (by rw[amL];rfl)) (Sub.cons (look_eq rfl (by rw[amL];rfl)) sb))) (fun w hw=>ag.mem hw) ?_;rintro i bf;refine aj ?_;refine Gb ?_ ?_<;>intro h0
 ·
  obtain⟨z,hz⟩:=get_some (xs:=(aT (cv xc) (ar [xa]))) (i:=i) oM;have dZ:=NL (p:=xc.ab) hz;have ht:=PJ z (amm hz);have hu0:=ht.Dm;have PK:z.used<=xc.ab:=ht.Dn;have fW:0<=(eP xc.ab ((aT (cv xc) (ar [xa])).take i)).1/\(eP xc.ab ((aT (cv xc) (ar [xa])).take i)).1<=16*(i:Int)/\0<=(eP xc.ab ((aT (cv xc) (ar [xa])).take i)).2/\(eP xc.ab ((aT (cv xc) (ar [xa])).take i)).2<=16:=lI i oM;refine Gc ?_;refine ae (aY rfl rfl i rfl oM) (ae (gq rfl i hz rfl) (bc fun b7=>aG ?_));refine Gb ?_ ?_<;>intro h1
  ·
   have bE:(eP xc.ab ((aT (cv xc) (ar [xa])).take (i+1)))=(eP xc.ab ((aT (cv xc) (ar [xa])).take i)):=by rw[dZ,wy,if_pos h1]
   refine aj ?_;refine Gi ?_;exact bg (x:=(i)) (i+1) oF oF (Sub.cons rfl (Sub.cons (look_eq rfl (by rw[bE])) (Sub.cons (look_eq rfl (by rw[bE])) sb))) (fun w hw=>ag.mem hw)
  have rN: ¬z.bad=true:=by rw[h1];simp
  refine Gc ?_;refine gO oK oK (aG ?_);refine bm (Ry.to (v':= .int .i64 xc.ab) (mi rfl) rfl) (fS ?_);refine Gb ?_ ?_<;>intro h2
  ·
   refine an ?_;refine Gb ?_ ?_<;>intro h3
   ·
    have hN:qt xc.ab z=xc.ab:=by rw[qt,if_pos ⟨h2,h3⟩]
    have bE:(eP xc.ab ((aT (cv xc) (ar [xa])).take (i+1)))=((eP xc.ab ((aT (cv xc) (ar [xa])).take i)).1+xc.ab,max (eP xc.ab ((aT (cv xc) (ar [xa])).take i)).2 xc.ab):=by rw[dZ,wy,if_neg rN,if_pos h2,hN]
    refine Gi ?_;refine aG ?_;refine ae (Ry.to (v':= .int .i64 xc.ab) (mi rfl) rfl) (an ?_);refine ae (vw rfl rfl) (fS ?_);refine Gi ?_;exact bg (x:=(i)) (i+1) oF oF (Sub.cons rfl (Sub.cons (look_eq rfl (by rw[bE])) (Sub.cons (look_eq rfl (by rw[bE])) sb))) (fun w hw=>ag.mem hw)
   have hN:qt xc.ab z=xc.ab -z.used:=by rw[qt,if_neg (fun h=>h3 h.2)]
   have bE:(eP xc.ab ((aT (cv xc) (ar [xa])).take (i+1)))=((eP xc.ab ((aT (cv xc) (ar [xa])).take i)).1+(xc.ab -z.used),max (eP xc.ab ((aT (cv xc) (ar [xa])).take i)).2 (xc.ab -z.used)):=by rw[dZ,wy,if_neg rN,if_pos h2,hN]
   refine aj ?_;refine ae (vw rfl rfl) (fS ?_);refine Gi ?_;exact bg (x:=(i)) (i+1) oF oF (Sub.cons rfl (Sub.cons (look_eq rfl (by rw[bE])) (Sub.cons (look_eq rfl (by rw[bE])) sb))) (fun w hw=>ag.mem hw)
  have hN:qt xc.ab z=xc.ab -z.used:=by rw[qt,if_neg (fun h=>h2 h.1)]
  have bE:(eP xc.ab ((aT (cv xc) (ar [xa])).take (i+1)))=((eP xc.ab ((aT (cv xc) (ar [xa])).take i)).1+(xc.ab -z.used),(eP xc.ab ((aT (cv xc) (ar [xa])).take i)).2):=by rw[dZ,wy,if_neg rN,if_neg h2,hN]
  refine dV ?_;refine Gi ?_;exact bg (x:=(i)) (i+1) oF oF (Sub.cons rfl (Sub.cons (look_eq rfl (by rw[bE])) (Sub.cons (look_eq rfl (by rw[bE])) sb))) (fun w hw=>ag.mem hw)
 obtain rfl:i=(aT (cv xc) (ar [xa])).length:=by omega
 have hE:oJ (cv xc) xa.xs=((eP xc.ab ((aT (cv xc) (ar [xa])).take (aT (cv xc) (ar [xa])).length)).1 -(eP xc.ab ((aT (cv xc) (ar [xa])).take (aT (cv xc) (ar [xa])).length)).2,(eP xc.ab ((aT (cv xc) (ar [xa])).take (aT (cv xc) (ar [xa])).length)).1):=by rw[oJ,←A9 xa,amN];rfl
 have fW:0<=(eP xc.ab ((aT (cv xc) (ar [xa])).take (aT (cv xc) (ar [xa])).length)).1/\(eP xc.ab ((aT (cv xc) (ar [xa])).take (aT (cv xc) (ar [xa])).length)).1<=16*((aT (cv xc) (ar [xa])).length:Int)/\0<=(eP xc.ab ((aT (cv xc) (ar [xa])).take (aT (cv xc) (ar [xa])).length)).2/\(eP xc.ab ((aT (cv xc) (ar [xa])).take (aT (cv xc) (ar [xa])).length)).2<=16:=lI (aT (cv xc) (ar [xa])).length (amz _);refine dV ?_;refine Gr fun w1 hw=>?_;exact⟨by rw[hE],ag.mem hw⟩⟩
theorem aan(w:World)(x:aI):Calls Tryz.prog 314 #[.agg (bF x)] w fun e w'=>e= .returned (.bool (wv x))/\Mem w [] w':=by
 refine bQ Tryz.func314 rfl Tryz.ntmps314 rfl ?_;refine Gc ?_;refine bJ rfl fun b1=>ct ?_;refine Gr fun w1 hw=>?_;exact⟨rfl,ag.mem hw⟩
instance:qD Tryz.prog w0 L 314 #[] bF wv:=⟨inferInstance,fun w _ x=>aan w x⟩
theorem aao(w:World)(x:aI):Calls Tryz.prog 315 #[.agg (bF x)] w fun e w'=>e= .returned (.bool (jM x))/\Mem w [] w':=by
 refine bQ Tryz.func315 rfl Tryz.ntmps315 rfl ?_;refine Gc ?_;refine bJ rfl fun b1=>ct ?_;refine Gr fun w1 hw=>?_;exact⟨rfl,ag.mem hw⟩
instance:qD Tryz.prog w0 L 315 #[] bF jM:=⟨inferInstance,fun w _ x=>aao w x⟩
theorem aap(w0 w:World)(L:List ah)(k:Nat)(xc:Cp)(xa:Sl Int)(xg:UInt64)(xl:Int)(xy:Bool)(l:Sl (Sl Int))[hl:aU w0 L l](hw:Mem w0 (al k (aP (⟨⟨xc,xa,xg,xl⟩,xy⟩:aR)) 261::fz xc::L) w)(aw:bl (cv xc)=true/\3<=(cv xc).blocks.length/\gV (cv xc) (ar l.xs)/\(ar l.xs).length<=1000):Calls Tryz.prog 263 #[.pointer (some ⟨k,0,none⟩),l.sv.val] w fun e w'=> ∃U:Cp,e= .returned (.tuple #[.int .i64 ((bG (cv xc) (ar l.xs) xy).2.1), .int .i64 ((bG (cv xc) (ar l.xs) xy).2.2)])/\(cv U=(bG (cv xc) (ar l.xs) xy).1)/\Mem w0 (al k (aP (⟨⟨U,xa,xg,xl⟩,xy⟩:aR)) 261::fz U::L) w':=by
 obtain⟨hk,DT,wT,mW⟩:=aw;have pN:=wT.kn hk oM oM;have hd:=kU hk;have kB:=qp (cv xc) (ar l.xs);refine fI (args:=[_,_]) Tryz.func263 rfl Tryz.ntmps263 rfl hw ?_;change Cw _ _ _ _ _ [(0, .pointer (some ⟨k,0,none⟩)),(1,l.sv.val)] (al k (aP (⟨⟨xc,xa,xg,xl⟩,xy⟩:aR)) 261::fz xc::L);refine an ?_;refine gB [2] [[],[],[],[],[],[],[],[],[],[2],[2]] [0,1,3,4,5,6,7,8,2,9,10] [al k (aP (⟨⟨xc,xa,xg,xl⟩,xy⟩:aR)) 261,fz xc] (fun _ hw=>ag.mem hw) oK oK (ak rfl (ba rfl) (ak rfl (ba rfl) (ak rfl (ba rfl) (ak rfl (fa rfl) (ak rfl (aK (o':=0) rfl rfl) (ak rfl (aK (o':=0) rfl rfl) (ak rfl (aK (o':=0) rfl rfl) (ak rfl (Ry.to (v':= .int .i64 xc.ab) (bA rfl) rfl) (cC rfl (nL rfl pN fun gz wQ=>⟨fun _ hw=>ag.mem hw,?_⟩))))))))));refine ak rfl (fG rfl) (ak rfl (fG rfl) (ao ?_));refine aW rfl oM fun yL H9=>aj ?_;refine ae (ax (v:= .int .i64 ((fM (cx wv (aT (cv xc) (ar l.xs))) xc.ab).1)) rfl rfl) (ae (ax (v:= .bool ((fM (cx wv (aT (cv xc) (ar l.xs))) xc.ab).2)) rfl rfl) (aG ?_));refine Gb ?_ ?_<;>intro h0
 ·
  have nZ:(oH (cv xc) (ar l.xs)).2=true:=h0;have hE:(bG (cv xc) (ar l.xs) xy)=(cv xc,(oH (cv xc) (ar l.xs)).1+2,0):=by rw[bG,if_pos nZ]
  have nu:=NG nZ;change 0<=(fM (cx wv (aT (cv xc) (ar l.xs))) xc.ab).1/\(fM (cx wv (aT (cv xc) (ar l.xs))) xc.ab).1<_/\_ at nu;refine aQ ?_;refine Gr fun w1 hw=>?_;exact⟨xc,by rw[hE];rfl,by rw[hE],ag.mem hw⟩
 have nZ: ¬(oH (cv xc) (ar l.xs)).2=true:=fun h=>by rw[show(oH (cv xc) (ar l.xs)).2=false from h0]at h;cases h
 refine ct ?_;refine bI (X:=Nat) (fun U=>[(39, .int .i64 (U:Nat)),(10, .int .i64 ((((aT (cv xc) (ar l.xs)).take U).filter fun z=> !z.bad&&decide (z.live=0)).length:Nat)),(0, .pointer (some ⟨k,0,none⟩)),(6,gz.val),(7, .int .i64 xc.ab),(37,gz.val),(38, .int .i64 ((aT (cv xc) (ar l.xs)).length:Nat))]) (fun U=>al k (aP (⟨⟨xc,xa,xg,xl⟩,xy⟩:aR)) 261::fz xc::own bF 4 gz (aT (cv xc) (ar l.xs))::L) (fun U=>U<=(aT (cv xc) (ar l.xs)).length) (fun U=>(aT (cv xc) (ar l.xs)).length -U) 0 (amK _) sb (fun w hw=>ag.mem hw) ?_;rintro i bf;refine aj ?_;refine Gb ?_ ?_<;>intro h1
 ·
  obtain⟨z,hz⟩:=get_some (xs:=(aT (cv xc) (ar l.xs))) (i:=i) oM;have dZ:=WK hz;have hle:=WL ((aT (cv xc) (ar l.xs)).take i);rw[amo]at hle;refine Gc ?_;refine ae (aY rfl rfl i rfl oM) (ae (gq rfl i hz rfl) (bc fun tG=>ou ?_));refine Gb ?_ ?_<;>intro h2
  ·
   rw[if_pos (by simpa using h2)]at dZ;refine Gi ?_;refine aQ ?_;refine Gi ?_;exact bg (x:=(i)) (i+1) oF oF (Sub.cons rfl (Sub.cons (look_eq rfl (by rw[dZ];rfl)) sb)) (fun w hw=>ag.mem hw)
  rw[if_neg (fun g=>h2.elim (fun h=>absurd (h.symm.trans g.1) (by simp)) (fun h=>h g.2))]at dZ;refine aj ?_;refine Gi ?_;exact bg (x:=(i)) (i+1) oF oF (Sub.cons rfl (Sub.cons (look_eq rfl (by rw[dZ,anA])) sb)) (fun w hw=>ag.mem hw)
 obtain rfl:i=(aT (cv xc) (ar l.xs)).length:=by omega
 have hid:pA (aT (cv xc) (ar l.xs))=(((aT (cv xc) (ar l.xs)).take (aT (cv xc) (ar l.xs)).length).filter fun z=> !z.bad&&decide (z.live=0)).length:=by rw[pA,amN]
 refine aQ ?_;refine aV rfl rfl rfl (fun hg=>(Ry.yl (ba (au hg rfl)))) (iB rfl rfl rfl (fun hg=>(Ry.yl (ba rfl))) (iB rfl rfl rfl (fun hg=>(Ry.yl (fa (au hg rfl)))) (iB rfl rfl rfl (fun hg=>(Ry.yl (aK (o':=9) (au hg rfl) rfl))) (iB rfl rfl rfl (fun hg=>(Ry.yl (Ry.to (v':= .bool xy) (bA (au hg rfl)) rfl))) (iB rfl rfl rfl (fun hg=>(Ry.yl (kg (au hg rfl)))) (aV rfl rfl rfl (fun hg=>(Ry.yl (sD (au hg rfl) (qV hg rfl) rfl))) (ao ?_)))))));refine Gb ?_ ?_<;>intro h3
 ·
  have n7:pA (aT (cv xc) (ar l.xs))=0\/(pA (aT (cv xc) (ar l.xs))=1/\xy=false):=by
   rw[hid];rcases h3 with h|h
   ·
    exact .inl oM
   exact .inr ⟨by omega,h.2⟩
  have hE:(bG (cv xc) (ar l.xs) xy)=(cv xc,0,5):=by rw[bG,if_neg nZ,if_pos n7]
  refine an ?_;refine Gr fun w1 hw=>?_;exact⟨xc,by rw[hE],by rw[hE],ag.mem hw⟩
 have n7: ¬(pA (aT (cv xc) (ar l.xs))=0\/(pA (aT (cv xc) (ar l.xs))=1/\xy=false)):=by
  rw[hid];rintro(h|h)
  ·
   exact h3.1 oM
  rcases h3.2 with g|g
  ·
   exact g oM
  rw[h.2]at g;cases g
 refine ao ?_;refine aW rfl oM fun dS IC=>aQ ?_;refine ae (ax (v:= .int .i64 ((fM (cx jM (aT (cv xc) (ar l.xs))) xc.ab).1)) rfl rfl) (ae (ax (v:= .bool ((fM (cx jM (aT (cv xc) (ar l.xs))) xc.ab).2)) rfl rfl) (aG ?_));refine Gb ?_ ?_<;>intro h4
 ·
  have iM:(nh (cv xc) (ar l.xs)).2=true:=h4;have hE:(bG (cv xc) (ar l.xs) xy)=(cv xc,(nh (cv xc) (ar l.xs)).1+2,0):=by rw[bG,if_neg nZ,if_neg n7,if_pos iM]
  have nu:=NH iM;change 0<=(fM (cx jM (aT (cv xc) (ar l.xs))) xc.ab).1/\(fM (cx jM (aT (cv xc) (ar l.xs))) xc.ab).1<_/\_ at nu;refine aQ ?_;refine Gr fun w1 hw=>?_;exact⟨xc,by rw[hE];rfl,by rw[hE],ag.mem hw⟩
 have iM: ¬(nh (cv xc) (ar l.xs)).2=true:=fun h=>by rw[show(nh (cv xc) (ar l.xs)).2=false from h4]at h;cases h
 obtain⟨d1,d2,d3⟩:=ND hk DT (fun e=>n7 (.inl e)) iM;change 0<=(gx (cx jM (aT (cv xc) (ar l.xs))) xc.ab).1 at d1;change(gx (cx jM (aT (cv xc) (ar l.xs))) xc.ab).1<_ at d2;have hE:(bG (cv xc) (ar l.xs) xy)=((dO (cv xc) (oI (cv xc) (ar l.xs)+2)).1,oI (cv xc) (ar l.xs)+2,(dO (cv xc) (oI (cv xc) (ar l.xs)+2)).2):=by rw[bG,if_neg nZ,if_neg n7,if_neg iM]
 refine aG ?_;refine ae (ax (v:= .int .i64 ((gx (cx jM (aT (cv xc) (ar l.xs))) xc.ab).1)) rfl rfl) (ae (ax (v:= .bool ((gx (cx jM (aT (cv xc) (ar l.xs))) xc.ab).2)) rfl rfl) (dV ?_));refine aW rfl ⟨hk,by omega,by omega⟩ fun x89 aaq=>aj ?_;refine Gr fun w1 hw=>?_;exact⟨x89,by rw[hE];rfl,by rw[aaq,hE];rfl,ag.mem hw⟩
instance akv{w0:World}{L R1 L2:List ah}{i0 i1:Nat}{k:Nat}{xc:Cp}{xa:Sl Int}{xg:UInt64}{xl:Int}{xy:Bool}{l:Sl (Sl Int)}[q0:Has L k (aP (⟨⟨xc,xa,xg,xl⟩,xy⟩:aR)) 261 i0][d0:bW L i0 R1][q1:At R1 (fz xc) i1][d1:bW R1 i1 L2][hl:aU w0 L2 l]:bK Tryz.prog 263 w0 L [.pointer (some ⟨k,0,none⟩),l.sv.val] (Cp) (fun U=> .tuple #[.int .i64 ((bG (cv xc) (ar l.xs) xy).2.1), .int .i64 ((bG (cv xc) (ar l.xs) xy).2.2)]) (fun U=>al k (aP (⟨⟨U,xa,xg,xl⟩,xy⟩:aR)) 261::fz U::L2) (fun U=>cv U=(bG (cv xc) (ar l.xs) xy).1) (bl (cv xc)=true/\3<=(cv xc).blocks.length/\gV (cv xc) (ar l.xs)/\(ar l.xs).length<=1000):=⟨fun hp w hw=>aap w0 w L2 k xc xa xg xl xy l (mM q0.h d0.h q1.h d1.h hw) hp⟩
theorem aar(w0 w:World)(L:List ah)(k:Nat)(xc:Cp)(xa:Sl Int)(xg:UInt64)(xl:Int)(xy:Bool)(q:dW)(l:Sl (Sl Int))[hq:aU w0 L q][hl:aU w0 L l](hw:Mem w0 (al k (aP (⟨⟨xc,xa,xg,xl⟩,xy⟩:aR)) 261::fz xc::L) w)(aw:bl (cv xc)=true/\3<=(cv xc).blocks.length/\gV (cv xc) (ar l.xs)/\(ar l.xs).length<=1000):Calls Tryz.prog 223 #[.pointer (some ⟨k,0,none⟩), .agg (cG q),l.sv.val] w fun e w'=> ∃U:Cp,e= .returned (.tuple #[.int .i64 ((dw (cv xc) (ar l.xs) xy (cA q)).2.1), .int .i64 ((dw (cv xc) (ar l.xs) xy (cA q)).2.2)])/\(cv U=(dw (cv xc) (ar l.xs) xy (cA q)).1)/\Mem w0 (al k (aP (⟨⟨U,xa,xg,xl⟩,xy⟩:aR)) 261::fz U::L) w':=by
 obtain⟨hk,DT,wT,mW⟩:=aw;have hd:=kU hk;have EW:1<=xc.ab/\xc.ab<=16:=⟨hd.2.2.1,hd.2.2.2.1⟩;refine fI (args:=[_,_,_]) Tryz.func223 rfl Tryz.ntmps223 rfl hw ?_;change Cw _ _ _ _ _ [(0, .pointer (some ⟨k,0,none⟩)),(1, .agg (cG q)),(2,l.sv.val)] (al k (aP (⟨⟨xc,xa,xg,xl⟩,xy⟩:aR)) 261::fz xc::L);refine Gc ?_;refine bJ rfl fun b4=>aj ?_;refine gB [7] [[],[],[],[],[],[],[],[],[7],[7],[7],[7],[7]] [0,1,2,3,4,5,6,7,8,9,10,11,12] [al b4 (cG q) 324,al k (aP (⟨⟨xc,xa,xg,xl⟩,xy⟩:aR)) 261,fz xc] (fun _ hw=>ag.mem hw) oK oK (ak rfl (fu rfl) (ak rfl (ba rfl) (ak rfl (fa rfl) (ak rfl (aK (o':=0) rfl rfl) (ak rfl (aK (o':=0) rfl rfl) (ak rfl (aK (o':=1) rfl rfl) (ak rfl (Ry.to (v':= .int .i64 xc.size) (bA rfl) rfl) (cC rfl (nL rfl trivial fun iN ID=>⟨fun _ hw=>ag.mem hw,?_⟩)))))))))
 skip
 refine ak rfl (ba rfl) (ak rfl (ax (v:=iN.val) rfl rfl) (ak rfl (ax (v:= .int .i64 ((dX (cA q) xc.size).2)) rfl rfl) (ak rfl (fG rfl) (ak rfl (fG rfl) (an ?_)))));refine Gb ?_ ?_<;>intro h0
 ·
  have hE:(dw (cv xc) (ar l.xs) xy (cA q))=(cv xc,0,(dX (cA q) xc.size).2):=by rw[dw,if_pos (show(dX (cA q) (cv xc).size).2≠0 from h0)];rfl
  refine aG ?_;refine Gr fun w1 hw=>?_;exact⟨xc,by rw[hE],by rw[hE],ag.mem hw⟩
 refine Gc ?_;refine bI (X:=Nat×Cp) (fun U=>[(0, .pointer (some ⟨k,0,none⟩)),(2,l.sv.val),(8,iN.val)]) (fun U=>al k (aP (⟨⟨U.2,xa,xg,xl⟩,xy⟩:aR)) 261::fz U.2::own aL 1 iN (dX (cA q) xc.size).1::L) (fun U=>(dw (cv xc) (ar l.xs) xy (cA q))=jN U.1 (cv U.2) (ar l.xs) xy (dX (cA q) xc.size).1/\bl (cv U.2)=true/\eO (cv xc) (cv U.2)/\(dG -(cv U.2).ops).toNat<U.1) (fun U=>U.1) ((dG -(cv xc).ops).toNat+1,xc) ⟨by rw[dw,if_neg (show ¬(dX (cA q) (cv xc).size).2≠0 from fun h=>h h0)];rfl,hk, .gy _,by simp only;omega⟩ sb (fun w hw=>ag.mem hw) ?_;rintro⟨m,d⟩ ⟨bf,aF,bo,cI⟩;dsimp only;simp only at bf aF bo cI;obtain⟨n,rfl⟩: ∃n,m=n+1:=⟨m -1,by omega⟩;refine aj ?_;refine aW rfl ⟨aF,by rw[bo.len];exact DT,wT.jL bo,mW⟩ fun jy sj=>?_;obtain⟨f1,f2,f3,f4,f5⟩:=NJ (c:=cv d) (fl:=(ar l.xs)) (bt:=xy) aF (by rw[bo.len];exact DT);rw[←sj]at f1 f2 f3 f4 f5;have f6:=bo.trans f2;have dY:(cv jy).blocks.length=jy.blocks.xs.length:=fT _;have Zn:=f6.len;have tI:jy.ab=xc.ab:=f6.ab;have PL:=bo.len;have uY:=uL f1;refine Gs ?_;refine ae (ax (v:= .int .i64 ((bG (cv d) (ar l.xs) xy).2.1)) rfl rfl) (ae (ax (v:= .int .i64 ((bG (cv d) (ar l.xs) xy).2.2)) rfl rfl) (aQ ?_));refine Gb ?_ ?_<;>intro h1
 ·
  have dJ:(bG (cv d) (ar l.xs) xy).2.2=0:=h1;obtain⟨g1,g2,g3⟩:=f4 dJ;obtain⟨B,hB⟩:=get_some (xs:=jy.blocks.xs) (i:=(bG (cv d) (ar l.xs) xy).2.1.toNat) oM;have qJ:Mb B jy.blocks:=⟨List.mem_of_getElem? hB⟩;have dQ:=rL hB;have fm:=gF.1 (AH f1 (b:=(bG (cv d) (ar l.xs) xy).2.1) oM oM);have o8:(aN (cv jy) (bG (cv d) (ar l.xs) xy).2.1).used=B.used:=by rw[dQ];rfl
  rw[o8]at fm;have hcp:(cv jy).ab=xc.ab:=tI;rw[hcp]at fm;have rU:0<=(bG (cv d) (ar l.xs) xy).2.1*xc.ab:=aoM oM oM;have A4:(bG (cv d) (ar l.xs) xy).2.1*xc.ab<=32*16:=aoL oM oM oM oM;refine Gi ?_;refine gO oK oK (aQ ?_);refine bm (Ry.to (v':= .int .i64 xc.ab) (bA rfl) (by rw[←tI])) (bm (jX rfl rfl oM) (aG ?_));refine bm (Ry.to (v':=jy.blocks.sv.val) (bA rfl) rfl) (Gq ?_);refine bm (aY rfl rfl ((bG (cv d) (ar l.xs) xy).2.1.toNat) oM oM) (bm (aK rfl rfl) (bm (bB (j:=1) rfl ((bG (cv d) (ar l.xs) xy).2.1.toNat) hB rfl (by decide)) (ct ?_)));refine aW rfl ⟨f1,by omega,by omega⟩ fun IE yT=>aG ?_;refine Gb ?_ ?_<;>intro h2
  ·
   have eE:(cm (cv jy) (bG (cv d) (ar l.xs) xy).2.1 (dX (cA q) xc.size).1)=0:=h2;have hE:(dw (cv xc) (ar l.xs) xy (cA q))=(dh (cv jy) (bG (cv d) (ar l.xs) xy).2.1 (dX (cA q) xc.size).1,(bG (cv d) (ar l.xs) xy).2.1*xc.ab+B.used+1,0):=by
    rw[bf,jN,←sj,if_pos dJ,if_pos eE,o8,show(cv d).ab=xc.ab from bo.ab]
   refine aG ?_;refine Gr fun w1 hw=>?_;exact⟨IE,by rw[hE],by rw[hE,yT],ag.mem hw⟩
  have eE: ¬(cm (cv jy) (bG (cv d) (ar l.xs) xy).2.1 (dX (cA q) xc.size).1)=0:=h2;refine an ?_;refine Gb ?_ ?_<;>intro h3
  ·
   refine aG ?_;refine Gr fun w1 hw=>?_;exact⟨IE,by rw[bf,jN,←sj,if_pos dJ,if_neg eE,if_pos (show(cm (cv jy) (bG (cv d) (ar l.xs) xy).2.1 (dX (cA q) xc.size).1)≠9 from h3)],by rw[yT,bf,jN,←sj,if_pos dJ,if_neg eE,if_pos (show(cm (cv jy) (bG (cv d) (ar l.xs) xy).2.1 (dX (cA q) xc.size).1)≠9 from h3)],ag.mem hw⟩
  refine fb ?_;have n7:(cm (cv jy) (bG (cv d) (ar l.xs) xy).2.1 (dX (cA q) xc.size).1)=9:=h3;have Ba:=uK g3 (p:=(dX (cA q) xc.size).1) (.inl n7);have IF:=uL (l6 f1 (bG (cv d) (ar l.xs) xy).2.1 (dX (cA q) xc.size).1);rw[Ba]at IF;exact bg (x:=(n+1,d)) (n,IE) ⟨by rw[bf,jN,←sj,if_pos dJ,if_neg eE,if_neg (by simpa using n7),yT],by rw[yT];exact l6 f1 _ _,by rw[yT];exact f6.trans (ng _ _ _),by rw[yT,Ba];omega⟩ (by simp only;omega) sb (fun w hw=>ag.mem hw)
 have dJ: ¬(bG (cv d) (ar l.xs) xy).2.2=0:=h1;refine an ?_;refine Gb ?_ ?_<;>intro h3
 ·
  refine aG ?_;refine Gr fun w1 hw=>?_;exact⟨jy,by rw[bf,jN,if_neg dJ,if_pos (show(bG (cv d) (ar l.xs) xy).2.2≠9 from h3)],by rw[sj,bf,jN,if_neg dJ,if_pos (show(bG (cv d) (ar l.xs) xy).2.2≠9 from h3)],ag.mem hw⟩
 refine fb ?_;have n7:(bG (cv d) (ar l.xs) xy).2.2=9:=h3;exact bg (x:=(n+1,d)) (n,jy) ⟨by rw[bf,jN,if_neg dJ,if_neg (by simpa using n7),sj],f1,f6,by have:=f5 n7;simp only;omega⟩ (by simp only;omega) sb (fun w hw=>ag.mem hw)
instance aas{w0:World}{L R1 L2:List ah}{i0 i1:Nat}{k:Nat}{xc:Cp}{xa:Sl Int}{xg:UInt64}{xl:Int}{xy:Bool}{q:dW}{l:Sl (Sl Int)}[q0:Has L k (aP (⟨⟨xc,xa,xg,xl⟩,xy⟩:aR)) 261 i0][d0:bW L i0 R1][q1:At R1 (fz xc) i1][d1:bW R1 i1 L2][hq:aU w0 L2 q][hl:aU w0 L2 l]:bK Tryz.prog 223 w0 L [.pointer (some ⟨k,0,none⟩), .agg (cG q),l.sv.val] (Cp) (fun U=> .tuple #[.int .i64 ((dw (cv xc) (ar l.xs) xy (cA q)).2.1), .int .i64 ((dw (cv xc) (ar l.xs) xy (cA q)).2.2)]) (fun U=>al k (aP (⟨⟨U,xa,xg,xl⟩,xy⟩:aR)) 261::fz U::L2) (fun U=>cv U=(dw (cv xc) (ar l.xs) xy (cA q)).1) (bl (cv xc)=true/\3<=(cv xc).blocks.length/\gV (cv xc) (ar l.xs)/\(ar l.xs).length<=1000):=⟨fun hp w hw=>aar w0 w L2 k xc xa xg xl xy q l (mM q0.h d0.h q1.h d1.h hw) hp⟩
theorem aat(w0 w:World)(L:List ah)(k:Nat)(xc:Cp)(xa:Sl Int)(xg:UInt64)(xl:Int)(xy:Bool)(hw:Mem w0 (al k (aP (⟨⟨xc,xa,xg,xl⟩,xy⟩:aR)) 261::fz xc::L) w)(aw:bl (cv xc)=true/\2<=(cv xc).blocks.length/\(xl=0\/xl=1)):Calls Tryz.prog 264 #[.pointer (some ⟨k,0,none⟩)] w fun e w'=> ∃U:Cp,e= .returned (.tuple #[.int .i64 ((bN (cv xc) xl).2.1), .int .i64 ((bN (cv xc) xl).2.2)])/\(cv U=(bN (cv xc) xl).1)/\Mem w0 (al k (aP (⟨⟨U,xa,xg,xl⟩,xy⟩:aR)) 261::fz U::L) w':=by
 obtain⟨hk,pq,PE⟩:=aw;have dY:(cv xc).blocks.length=xc.blocks.xs.length:=fT _;obtain⟨Bo,fm⟩:=get_some (xs:=xc.blocks.xs) (i:=(1 -xl).toNat) oM;have mbo:Mb Bo xc.blocks:=⟨List.mem_of_getElem? fm⟩;have yQ:=rL fm;refine fI (args:=[_]) Tryz.func264 rfl Tryz.ntmps264 rfl hw ?_;change Cw _ _ _ _ _ [(0, .pointer (some ⟨k,0,none⟩))] (al k (aP (⟨⟨xc,xa,xg,xl⟩,xy⟩:aR)) 261::fz xc::L);refine dV ?_;refine ae (Ry.to (v':= .int .i64 xl) (bA rfl) rfl) (ct ?_);refine ae (Ry.to (v':= .int .i64 xl) (bA rfl) rfl) (Gs ?_);refine kO (enc:=bT) (vals:=[_,_]) [xl,1 -xl] rfl rfl rfl (by decide) (by decide) fun pM=>?_;refine aj ?_;refine bI (X:=Nat) (fun U=>[(21, .int .i64 (U:Nat)),(0, .pointer (some ⟨k,0,none⟩)),(4, .int .i64 (1 -xl)),(19,(⟨false,pM,0,2,2,none⟩:Sv).val),(20, .int .i64 ([xl,1 -xl].length:Nat))]) (fun U=>al k (aP (⟨⟨xc,xa,xg,xl⟩,xy⟩:aR)) 261::fz xc::own bT 1 ⟨false,pM,0,2,2,none⟩ [xl,1 -xl]::L) (fun U=>U<=2/\ ∀(j:Nat) (y:Int),j<U->[xl,1 -xl][j]? =Option.some y-> ¬0<fU (cv xc) y) (fun U=>2 -U) 0 ⟨Nat.zero_le _,fun j y hj=>by first|omega|(simp only[];omega)⟩ sb (fun w hw=>ag.mem hw) ?_;rintro i ⟨bf,aF⟩;refine aj ?_;refine Gb ?_ ?_<;>intro h0
 ·
  obtain⟨y,hy⟩:=get_some (xs:=[xl,1 -xl]) (i:=i) (by simp only[ad2,af0]at h0⊢;omega);have aau:i=0\/i=1:=by simp only[ad2,af0]at h0;omega
  have Zx:y=0\/y=1:=by
   have:=amm hy;simp only[amA,aoP,or_false]at this;omega
  refine Gc ?_;refine ae (aY rfl rfl i rfl oM) (ae (bB (j:=0) rfl i hy rfl (by decide)) (an ?_));refine ck (br rfl ⟨hk,by omega,by omega⟩) (ao ?_);refine Gb ?_ ?_<;>intro h1
  ·
   have hE:(bN (cv xc) xl)=(cv xc,y,0):=by
    rcases aau with rfl|rfl
    ·
     obtain rfl:xl=y:=by simpa using hy
     rw[bN,if_pos h1]
    obtain rfl:1 -xl=y:=by simpa using hy
    rw[bN,if_neg (aF 0 xl oM rfl),if_pos h1]
   refine aG ?_;refine Gr fun w1 hw=>?_;exact⟨xc,by rw[hE],by rw[hE],ag.mem hw⟩
  refine aj ?_;refine Gi ?_;exact bg (x:=(i)) (i+1) ⟨oF,fun j z hj hz=>if e:j=i then(by subst e;rw[hy]at hz;cases hz;exact h1)else aF j z oF hz⟩ oF sb (fun w hw=>ag.mem hw)
 have hi9:i=2:=by simp only[ad2,af0]at h0 bf;omega
 subst hi9;have tz:=aF 0 xl oM rfl;have wE:=aF 1 (1 -xl) oM rfl;refine aQ ?_;refine ae (Ry.to (v':=xc.blocks.sv.val) (bA rfl) rfl) (Gs ?_);refine ae (aY rfl rfl ((1 -xl).toNat) oM oM) (ae (aK rfl rfl) (ae (bB (j:=3) rfl ((1 -xl).toNat) fm rfl (by decide)) (Gc ?_)));refine Gb ?_ ?_<;>intro h2
 ·
  have hE:(bN (cv xc) xl)=(cv xc,0,9):=by rw[bN,if_neg tz,if_neg wE,yQ,if_pos (show(bv Bo).bad=true from h2)]
  refine an ?_;refine Gr fun w1 hw=>?_;exact⟨xc,by rw[hE],by rw[hE],ag.mem hw⟩
 have hE:(bN (cv xc) xl)=(jo (cv xc) (1 -xl),1 -xl,eG (cv xc) (1 -xl)):=by rw[bN,if_neg tz,if_neg wE,yQ,if_neg (show ¬(bv Bo).bad=true by rw[show(bv Bo).bad=Bo.bad from rfl,h2];simp)]
 refine an ?_;refine aW rfl ⟨hk,by omega,by omega⟩ fun x44 aav=>aj ?_;refine Gr fun w1 hw=>?_;exact⟨x44,by rw[hE],by rw[aav,hE],ag.mem hw⟩
instance akw{w0:World}{L R1 L2:List ah}{i0 i1:Nat}{k:Nat}{xc:Cp}{xa:Sl Int}{xg:UInt64}{xl:Int}{xy:Bool}[q0:Has L k (aP (⟨⟨xc,xa,xg,xl⟩,xy⟩:aR)) 261 i0][d0:bW L i0 R1][q1:At R1 (fz xc) i1][d1:bW R1 i1 L2]:bK Tryz.prog 264 w0 L [.pointer (some ⟨k,0,none⟩)] (Cp) (fun U=> .tuple #[.int .i64 ((bN (cv xc) xl).2.1), .int .i64 ((bN (cv xc) xl).2.2)]) (fun U=>al k (aP (⟨⟨U,xa,xg,xl⟩,xy⟩:aR)) 261::fz U::L2) (fun U=>cv U=(bN (cv xc) xl).1) (bl (cv xc)=true/\2<=(cv xc).blocks.length/\(xl=0\/xl=1)):=⟨fun hp w hw=>aat w0 w L2 k xc xa xg xl xy (mM q0.h d0.h q1.h d1.h hw) hp⟩
theorem IG{g:UInt64}(h:g.toNat<281474976710656):(g+1).toNat=g.toNat+1:=by
 rw[UInt64.toNat_add,show(1:UInt64).toNat=1 from rfl,amY oM]
theorem PM(g:UInt64)(s:Sv)(xs:List Int)(w:World):(Instr.build 314 #[(0, .int .u64 (g.toNat:Int)),(1,s.val)]).run Tryz.prog w= .ok (.agg (dI ⟨g,⟨s,xs⟩⟩)) w:=by
 obtain⟨e,b,o,l,c,p⟩:=s;unfold dI
 cases e<;>kernel_rfl
theorem aaw(w0 w:World)(L:List ah)(k:Nat)(xc:Cp)(xa:Sl Int)(xg:UInt64)(xl:Int)(xy:Bool)(s:Sv)(ss:List Int)(hw:Mem w0 (al k (aP (⟨⟨xc,xa,xg,xl⟩,xy⟩:aR)) 261::fz xc::fz xa::own bT 1 s ss::L) w)(aw:dn (⟨⟨cv xc,xa.xs,xg.toNat,xl⟩,xy⟩:WV)):Calls Tryz.prog 224 #[.pointer (some ⟨k,0,none⟩),s.val] w fun e w'=> ∃U:Cp×Sl Int×UInt64×Int,e= .returned (.int .i64 ((ia (⟨⟨cv xc,xa.xs,xg.toNat,xl⟩,xy⟩:WV) ss).2))/\((⟨⟨cv U.1,U.2.1.xs,U.2.2.1.toNat,U.2.2.2⟩,xy⟩:WV)=(ia (⟨⟨cv xc,xa.xs,xg.toNat,xl⟩,xy⟩:WV) ss).1)/\Mem w0 (al k (aP (⟨⟨U.1,U.2.1,U.2.2.1,U.2.2.2⟩,xy⟩:aR)) 261::fz U.1::fz U.2.1::L) w':=by
 have fP:=aw;have hk:bl (cv xc)=true:=fP.ai;have Bb:xg.toNat<281474976710656:=fP.gen;have sk:=IG Bb;have yU:4<=(cv xc).blocks.length:=fP.tm;have DU:xl=0\/xl=1:=fP.last;have yV:cZ (⟨xg+1,⟨s,ss⟩⟩:cU)=⟨xg.toNat+1,ss⟩:=by simp only[cZ,sk]
 refine fI (args:=[_,_]) Tryz.func224 rfl Tryz.ntmps224 rfl hw ?_;change Cw _ _ _ _ _ [(0, .pointer (some ⟨k,0,none⟩)),(1,s.val)] (al k (aP (⟨⟨xc,xa,xg,xl⟩,xy⟩:aR)) 261::fz xc::fz xa::own bT 1 s ss::L);refine ct ?_;refine ae (Ry.to (v':= .int .u64 (xg.toNat:Nat)) (bA rfl) rfl) (ae (Ry.to (v':= .int .u64 ((xg+1).toNat:Int)) (zv (p:=xg.toNat) (q:=1) rfl rfl rfl rfl (by simp only[nb];omega)) (by rw[sk])) (an ?_));refine ae (cr (v:= .agg (dI (⟨xg+1,⟨s,ss⟩⟩:cU))) rfl (PM (xg+1) s ss)) (aG ?_);refine ae (Ry.to (v':= .int .i64 xc.size) (bA rfl) rfl) (aW rfl trivial fun jR qC=>Gs ?_);refine ae (ax (v:=jR.val) rfl rfl) (ae (ax (v:= .int .i64 ((df (cZ (⟨xg+1,⟨s,ss⟩⟩:cU)) xc.size).2)) rfl rfl) (aQ ?_));refine Gb ?_ ?_<;>intro h0
 ·
  have hE:(ia (⟨⟨cv xc,xa.xs,xg.toNat,xl⟩,xy⟩:WV) ss)=((⟨⟨cv xc,xa.xs,xg.toNat,xl⟩,xy⟩:WV),(df (cZ (⟨xg+1,⟨s,ss⟩⟩:cU)) xc.size).2):=by rw[ia,if_pos (show(df ⟨xg.toNat+1,ss⟩ (cv xc).size).2≠0 by rw[←yV];exact h0),yV];rfl
  refine an ?_;refine Gr fun w1 hw=>?_;exact⟨(xc,xa,xg,xl),by rw[hE],by rw[hE],ag.mem hw⟩
 refine Gc ?_;refine bI (X:=Nat×Cp) (fun U=>[(0, .pointer (some ⟨k,0,none⟩)),(1,s.val),(5, .int .u64 ((xg+1).toNat:Nat)),(6,jR.val)]) (fun U=>al k (aP (⟨⟨U.2,xa,xg,xl⟩,xy⟩:aR)) 261::fz U.2::fz xa::own bT 1 s ss::own aL 1 jR (df (cZ (⟨xg+1,⟨s,ss⟩⟩:cU)) xc.size).1::L) (fun U=>(ia (⟨⟨cv xc,xa.xs,xg.toNat,xl⟩,xy⟩:WV) ss)=ni U.1 ((⟨⟨cv xc,xa.xs,xg.toNat,xl⟩,xy⟩:WV).on (cv U.2)) ss (df (cZ (⟨xg+1,⟨s,ss⟩⟩:cU)) xc.size).1/\bl (cv U.2)=true/\eO (cv xc) (cv U.2)/\(dG -(cv U.2).ops).toNat<U.1) (fun U=>U.1) ((dG -(cv xc).ops).toNat+1,xc) ⟨by rw[ia,if_neg (show ¬(df ⟨xg.toNat+1,ss⟩ (cv xc).size).2≠0 by rw[←yV];exact fun h=>h h0),yV];rfl,hk, .gy _,by simp only;omega⟩ sb (fun w hw=>ag.mem hw) ?_;rintro⟨m,d⟩ ⟨bf,aF,bo,cI⟩;dsimp only;simp only at bf aF bo cI;obtain⟨n,rfl⟩: ∃n,m=n+1:=⟨m -1,by omega⟩;refine ao ?_;refine aW rfl ⟨aF,by rw[bo.len];omega,DU⟩ fun lJ DV=>?_;obtain⟨r1,r2,r3,r4⟩:=NO (c:=cv d) (last:=xl) aF DU;rw[←DV]at r1 r2 r3 r4;have r7:=bo.trans r2;have uU:=r7.len;have PL:=bo.len;have uY:=uL r1;refine Gs ?_;refine ae (ax (v:= .int .i64 ((bN (cv d) xl).2.1)) rfl rfl) (ae (ax (v:= .int .i64 ((bN (cv d) xl).2.2)) rfl rfl) (aQ ?_));refine Gb ?_ ?_<;>intro h1
 ·
  have hE:(ia (⟨⟨cv xc,xa.xs,xg.toNat,xl⟩,xy⟩:WV) ss)=((⟨⟨cv xc,xa.xs,xg.toNat,xl⟩,xy⟩:WV).on (cv lJ),(bN (cv d) xl).2.2):=by
   rw[bf,ni];refine(if_pos h1).trans ?_;rw[DV];rfl
  refine an ?_;refine Gr fun w1 hw=>?_;exact⟨(lJ,xa,xg,xl),by rw[hE],by rw[hE];rfl,ag.mem hw⟩
 have dJ:(bN (cv d) xl).2.2=0:=h1;obtain⟨r5,r6⟩:=r4 dJ;have bE:(ia (⟨⟨cv xc,xa.xs,xg.toNat,xl⟩,xy⟩:WV) ss)=(if(cm (cv lJ) (bN (cv d) xl).2.1 (df (cZ (⟨xg+1,⟨s,ss⟩⟩:cU)) xc.size).1)=0 then((⟨⟨(dh (cv lJ) (bN (cv d) xl).2.1 (df (cZ (⟨xg+1,⟨s,ss⟩⟩:cU)) xc.size).1),ss,xg.toNat+1,if nS (dh (cv lJ) (bN (cv d) xl).2.1 (df (cZ (⟨xg+1,⟨s,ss⟩⟩:cU)) xc.size).1) 1=xg.toNat+1 then 1 else(bN (cv d) xl).2.1⟩,xy⟩:WV),(0:Int))else if(cm (cv lJ) (bN (cv d) xl).2.1 (df (cZ (⟨xg+1,⟨s,ss⟩⟩:cU)) xc.size).1)≠9 then((⟨⟨cv xc,xa.xs,xg.toNat,xl⟩,xy⟩:WV).on (dh (cv lJ) (bN (cv d) xl).2.1 (df (cZ (⟨xg+1,⟨s,ss⟩⟩:cU)) xc.size).1),(cm (cv lJ) (bN (cv d) xl).2.1 (df (cZ (⟨xg+1,⟨s,ss⟩⟩:cU)) xc.size).1))else ni n ((⟨⟨cv xc,xa.xs,xg.toNat,xl⟩,xy⟩:WV).on (dh (cv lJ) (bN (cv d) xl).2.1 (df (cZ (⟨xg+1,⟨s,ss⟩⟩:cU)) xc.size).1)) ss (df (cZ (⟨xg+1,⟨s,ss⟩⟩:cU)) xc.size).1):=by
  rw[bf,ni];refine(if_neg (fun h=>h dJ)).trans ?_;rw[DV];rfl
 refine an ?_;refine aW rfl ⟨r1,by omega,by omega⟩ fun jd pQ=>aG ?_;refine Gb ?_ ?_<;>intro h2
 ·
  have eE:(cm (cv lJ) (bN (cv d) xl).2.1 (df (cZ (⟨xg+1,⟨s,ss⟩⟩:cU)) xc.size).1)=0:=h2;rw[if_pos eE]at bE;refine ao ?_;refine ck (br rfl ⟨by rw[pQ];exact l6 r1 _ _,by omega,by rw[pQ,(ng _ _ _).len];omega⟩) (aj ?_);refine Gb ?_ ?_<;>intro h3
  ·
   have hE:=bE;rw[if_pos (show nS (dh (cv lJ) (bN (cv d) xl).2.1 (df (cZ (⟨xg+1,⟨s,ss⟩⟩:cU)) xc.size).1) 1=xg.toNat+1 by rw[←pQ];omega)]at hE;refine Gi ?_;refine ou ?_;refine cR (cs':=aP (⟨⟨jd,⟨s,ss⟩,xg,xl⟩,xy⟩:aR)) rfl rfl (by show 6<10;decide) (by first|rfl|exact Sv.one _) rfl (aj ?_);refine cR (cs':=aP (⟨⟨jd,⟨s,ss⟩,(xg+1),xl⟩,xy⟩:aR)) rfl rfl (by show 7<10;decide) (by first|rfl|exact Sv.one _) rfl (aj ?_);refine cR (cs':=aP (⟨⟨jd,⟨s,ss⟩,(xg+1),1⟩,xy⟩:aR)) rfl rfl (by show 8<10;decide) (by first|rfl|exact Sv.one _) rfl (aj ?_);refine Gr fun w1 hw=>?_;exact⟨(jd,⟨s,ss⟩,xg+1,1),by rw[hE],by rw[hE,pQ,sk],ag.mem (wc (a:=⟨s,ss⟩) (ag.mem hw:Mem w0 (own bT 1 s ss::al k (aP (⟨⟨jd,⟨s,ss⟩,xg+1,1⟩,xy⟩:aR)) 261::fz jd::L) _))⟩
  have hE:=bE;rw[if_neg (show ¬nS (dh (cv lJ) (bN (cv d) xl).2.1 (df (cZ (⟨xg+1,⟨s,ss⟩⟩:cU)) xc.size).1) 1=xg.toNat+1 by rw[←pQ];omega)]at hE;refine nO ?_;refine cR (cs':=aP (⟨⟨jd,⟨s,ss⟩,xg,xl⟩,xy⟩:aR)) rfl rfl (by show 6<10;decide) (by first|rfl|exact Sv.one _) rfl (aj ?_);refine cR (cs':=aP (⟨⟨jd,⟨s,ss⟩,(xg+1),xl⟩,xy⟩:aR)) rfl rfl (by show 7<10;decide) (by first|rfl|exact Sv.one _) rfl (aj ?_);refine cR (cs':=aP (⟨⟨jd,⟨s,ss⟩,(xg+1),(bN (cv d) xl).2.1⟩,xy⟩:aR)) rfl rfl (by show 8<10;decide) (by first|rfl|exact Sv.one _) rfl (aj ?_);refine Gr fun w1 hw=>?_;exact⟨(jd,⟨s,ss⟩,xg+1,(bN (cv d) xl).2.1),by rw[hE],by rw[hE,pQ,sk],ag.mem (wc (a:=⟨s,ss⟩) (ag.mem hw:Mem w0 (own bT 1 s ss::al k (aP (⟨⟨jd,⟨s,ss⟩,xg+1,(bN (cv d) xl).2.1⟩,xy⟩:aR)) 261::fz jd::L) _))⟩
 have eE: ¬(cm (cv lJ) (bN (cv d) xl).2.1 (df (cZ (⟨xg+1,⟨s,ss⟩⟩:cU)) xc.size).1)=0:=h2;refine an ?_;refine Gb ?_ ?_<;>intro h4
 ·
  have hE:=bE;rw[if_neg eE,if_pos (show(cm (cv lJ) (bN (cv d) xl).2.1 (df (cZ (⟨xg+1,⟨s,ss⟩⟩:cU)) xc.size).1)≠9 from h4)]at hE;refine an ?_;refine Gr fun w1 hw=>?_;exact⟨(jd,xa,xg,xl),by rw[hE],by rw[hE,pQ];rfl,ag.mem hw⟩
 refine fb ?_;have iM:(cm (cv lJ) (bN (cv d) xl).2.1 (df (cZ (⟨xg+1,⟨s,ss⟩⟩:cU)) xc.size).1)=9:=h4;have Ba:=uK r6 (p:=(df (cZ (⟨xg+1,⟨s,ss⟩⟩:cU)) xc.size).1) (.inl iM);have IF:=uL (l6 r1 (bN (cv d) xl).2.1 (df (cZ (⟨xg+1,⟨s,ss⟩⟩:cU)) xc.size).1);rw[Ba]at IF;exact bg (x:=(n+1,d)) (n,jd) ⟨by rw[bE,if_neg eE,if_neg (fun h=>h iM),pQ],by rw[pQ];exact l6 r1 _ _,by rw[pQ];exact r7.trans (ng _ _ _),by rw[pQ,Ba];omega⟩ (by simp only;omega) sb (fun w hw=>ag.mem hw)
instance akx{w0:World}{L R1 R2 R3 L2:List ah}{i0 i1 i2 i3:Nat}{k:Nat}{xc:Cp}{xa:Sl Int}{xg:UInt64}{xl:Int}{xy:Bool}{s:Sv}{ss:List Int}[q0:Has L k (aP (⟨⟨xc,xa,xg,xl⟩,xy⟩:aR)) 261 i0][d0:bW L i0 R1][q1:At R1 (fz xc) i1][d1:bW R1 i1 R2][q2:At R2 (fz xa) i2][d2:bW R2 i2 R3][q3:eS R3 s bT 1 ss i3][d3:bW R3 i3 L2]:bK Tryz.prog 224 w0 L [.pointer (some ⟨k,0,none⟩),s.val] (Cp×Sl Int×UInt64×Int) (fun U=> .int .i64 ((ia (⟨⟨cv xc,xa.xs,xg.toNat,xl⟩,xy⟩:WV) ss).2)) (fun U=>al k (aP (⟨⟨U.1,U.2.1,U.2.2.1,U.2.2.2⟩,xy⟩:aR)) 261::fz U.1::fz U.2.1::L2) (fun U=>(⟨⟨cv U.1,U.2.1.xs,U.2.2.1.toNat,U.2.2.2⟩,xy⟩:WV)=(ia (⟨⟨cv xc,xa.xs,xg.toNat,xl⟩,xy⟩:WV) ss).1) (dn (⟨⟨cv xc,xa.xs,xg.toNat,xl⟩,xy⟩:WV)):=⟨fun hp w hw=>aaw w0 w L2 k xc xa xg xl xy s ss (OP q0.h d0.h q1.h d1.h q2.h d2.h q3.h d3.h hw) hp⟩
end Go.Proofs.YtkggjjnhnjjokaaGreatDoor
