/- Laws and walks by which the law LabWhole is proved, each with its own conditions. -/
import Derived.Test.YtkggjjnhnjjokaaGreatDoorG4
set_option maxRecDepth 20000
set_option linter.unusedSimpArgs false
set_option linter.unusedVariables false
namespace Go.Proofs.YtkggjjnhnjjokaaGreatDoor
open Go.ax Go.Kb Go.RowKit
instance:eP Tryz.prog 63 (.agg (cD mH)):=⟨by kernel_rfl⟩
variable {w0:World}{L:List ai}
instance aqu{c:Cp}[hc:aX w0 L c]:bU Tryz.prog 164 w0 L [.agg (aV c)] (.bool (gx (cv c))) (True):=⟨fun aA w hw=>by
 have hc:=hc.h w hw;have lJ:cQ w c:=⟨hc⟩;refine ct Tryz.func164 rfl Tryz.ntmps164 rfl ?_;refine Gc ?_;refine cm rfl fun b1=>aan ?_;refine Gr fun w1 hw=>?_;exact⟨congrArg (fun b=>Ending.returned (Value.bool b)) ((by simp only[gx,cv,ie];rfl)),ah.mem hw⟩⟩
instance aqv{c:Cp}[hc:aX w0 L c]:bV Tryz.prog 165 w0 L [.agg (aV c)] (Cp) (fun U=> .agg (aV U)) (fun U=>fz U::L) (fun U=>cv U=cv c) (gw c):=⟨fun aA w hw=>Gk (fun U=>[fz U]) hw (by
 have hc:=hc.h w hw;have lJ:cQ w c:=⟨hc⟩;refine ct Tryz.func165 rfl Tryz.ntmps165 rfl ?_;refine Gc ?_;refine cm rfl fun b1=>bt fun b2=>ar ?_;refine bb rfl (by assumption) fun x9 DE=>Gs ?_;refine ag (aE (v:= .agg (aV x9)) rfl rfl) (ag (aE (v:= .int .i64 (ll (cv c) c.aD.xs)) rfl rfl) (bt fun b3=>aZ ?_));refine dO (cs':=aV (⟨x9.pages,x9.size,x9.blocks,x9.ops,c.off,x9.aD⟩:Cp)) rfl rfl (by show 4<6;decide) (by first|rfl|exact Sv.one _) rfl (ar ?_);refine Gr fun w1 hw=>?_;exact⟨(⟨x9.pages,x9.size,x9.blocks,x9.ops,c.off,x9.aD⟩:Cp),rfl,by
  have h9:cv (⟨x9.pages,x9.size,x9.blocks,x9.ops,c.off,x9.aD⟩:Cp)={cv x9 with off:=(cv c).off}:=rfl
  rw[h9,DE];exact acV (cv c),by
  have h9:Mem w [fz x9] _:=ah.mem hw;exact h9⟩)⟩
instance aqw{s:Sv}{ss:List Int}[hs:dy w0 L cf 1 s ss]:bV Tryz.prog 169 w0 L [s.val] (Sv) (fun U=>U.val) (fun U=>own cf 1 U ss::L) (fun U=>True) (ss.length<=1000000):=⟨fun aA w hw=>Gk (fun U=>[own cf 1 U ss]) hw (by
 have hs:=hs.h w hw;have ze:Gv w s cf 1 ss:=⟨hs⟩;refine ct Tryz.func169 rfl Tryz.ntmps169 rfl ?_;refine ar ?_;refine ag (vw Tryz.underlying60 rfl) (Gc ?_);refine Gb ?_ ?_<;>intro h0
 ·
  have e0:ss=[]:=atJ.1 (by have:=hs.ok.nil h0;have:=hs.len;omega);refine al ?_;refine Gr fun w1 hw=>?_;exact⟨Sv.none,rfl,trivial,by rw[e0];exact(ah.mem hw:Mem w [] _).dK cf 1⟩
 refine Gc ?_;refine wW cf fun b5=>Gs ?_;refine nf (s:=⟨false,b5,0,0,0,none⟩) (enc:=cf) (ys:=ss) rfl rfl (by decide) (fun w hw=>jy (s:=s) Tryz.underlying60 (by decide) ((inferInstance:dy _ _ cf 1 s ss).h w hw)) (by simp only[anc];omega) (by simp only[anc];omega) fun s7 zf xM=>?_;refine av ?_;refine Gr fun w1 hw=>?_;exact⟨s7,rfl,trivial,by rw[aug]at hw;exact ah.mem hw⟩)⟩
instance aqx{v:cA}[hv:aX w0 L v]:bV Tryz.prog 175 w0 L [.agg (cD v)] (Cp×Sv) (fun U=> .agg (cD (⟨U.1,⟨U.2,v.at_.xs⟩,v.gen,v.last⟩:cA))) (fun U=>fz U.1::own cf 1 U.2 v.at_.xs::L) (fun U=>cv U.1=cv v.ae) (gw v.ae/\v.at_.xs.length<=1000000):=⟨fun aA w hw=>Gk (fun U:Cp×Sv=>[fz U.1,own cf 1 U.2 v.at_.xs]) hw (by
 have hv:=hv.h w hw;have DF:cQ w v:=⟨hv⟩;obtain⟨mf,jF⟩:=aA;refine ct Tryz.func175 rfl Tryz.ntmps175 rfl ?_;refine Gc ?_;refine cm rfl fun b1=>bt fun b2=>Gc ?_;refine qn [2,5,7,9,1001,1004,5002,5005] [[],[],[1],[],[],[1,2,4],[1,2,4],[1,2,4,5],[1,2,4,5,7],[1,2,4,5,7]] [0,1,3,4,2,6,5,7,8,9] [] [] oK (fun _ hw=>ah.mem hw) oK oK (an rfl (aN (o':=0) rfl rfl) (gE rfl (fW rfl) (an rfl (aN (o':=6) rfl rfl) (gE rfl (bI rfl) (P3 rfl (qk rfl (by assumption) fun x5 hp5=>⟨fun _ hw=>ah.mem hw,fun _ hw=>ah.mem hw,?_⟩))))));refine an rfl (aN (o':=0) rfl rfl) (P3 rfl (qk rfl oM fun x8 pS=>⟨fun _ hw=>ah.mem hw,fun _ hw=>ah.mem hw,?_⟩));refine dr rfl (JU (cs':=cD ({v with ae:=x5}:cA)) rfl rfl (by show 0+6<=9;decide) rfl ⟨fun _ hw=>ah.mem hw,?_⟩)
 refine an rfl (aN (o':=6) rfl rfl) ?_;refine dr rfl (uj (cs':=cD (⟨x5,⟨x8,v.at_.xs⟩,v.gen,v.last⟩:cA)) rfl rfl (by show 6<9;decide) (by first|rfl|exact Sv.one _) rfl ⟨fun _ hw=>ah.mem hw,?_⟩);refine ar ?_;refine Gr fun w1 hw=>?_;exact⟨(x5,x8),rfl,hp5,ah.mem hw⟩)⟩
theorem afn(b:List UInt8)(w:World):(Instr.build 324 #[(0, .int .i64 ((b.getD 0 0).toNat:Int)),(1, .int .i64 ((b.getD 1 0).toNat:Int)),(2, .int .u64 ((de ((b.drop 2).take (8 -2)):Nat):Int))]).run Tryz.prog w= .ok (.agg (dj (vO b))) w:=by
 rw[←Rw];unfold dj vO;generalize UInt64.ofNat (de ((b.drop 2).take (8 -2)))=g;kernel_rfl
instance aqy{b:Sv}{bs:List UInt8}[hb:dy w0 L aO 1 b bs]:bV Tryz.prog 227 w0 L [b.val] (fv) (fun U=> .tuple #[.agg (dj U), .int .i64 ((cM bs).2)]) (fun U=>own aO 1 U.body.sv U.body.xs::L) (fun U=>cW U=(cM bs).1) (True):=⟨fun aA w hw=>Gk (fun U:fv=>[own aO 1 U.body.sv U.body.xs]) hw (by
 have hb:=hb.h w hw;have zq:Gv w b aO 1 bs:=⟨hb⟩;have kg:=hb.bd;have ghd:cQ w (vO bs):=⟨⟨eJ.nil _ _ _,fun x hx=>by cases hx⟩⟩;have TY:=Rv bs;have zt:=KG bs;have sE:=Ks (mJ bs);have fg:=acQ bs;refine ct Tryz.func227 rfl Tryz.ntmps227 rfl ?_;refine Gc ?_;refine bt fun b2=>di ?_;refine Gb ?_ ?_<;>intro h0
 ·
  have hE:cM bs=(kl,3):=by rw[cM,if_pos h0]
  refine Gc ?_;refine ag (cV (v:= .agg (dj pH)) rfl (fun w=>by kernel_rfl)) (al ?_);refine Gr fun w1 hw=>?_;exact⟨pH,by rw[hE],by rw[hE];rfl,Mem.dK aO 1 (ah.mem hw:Mem w [] _)⟩
 have hft:=sZ.1 h0;have DG:dW bs.length=bs.length -16:=by rw[dW,if_pos h0]
 refine ar ?_;refine Gb ?_ ?_<;>intro h1
 ·
  have hE:cM bs=(kl,0):=by rw[cM,if_neg (by rw[h0];simp),if_pos h1]
  refine Gc ?_;refine ag (cV (v:= .agg (dj pH)) rfl (fun w=>by kernel_rfl)) (al ?_);refine Gr fun w1 hw=>?_;exact⟨pH,by rw[hE],by rw[hE];rfl,Mem.dK aO 1 (ah.mem hw:Mem w [] _)⟩
 refine Gc ?_;refine kf oK oK (ar ?_);have Tk:Rg 0 (bs.length -4) bs.length:=⟨by omega⟩;refine cr (OL rfl rfl (bs.length -4) oM Tk.h.2) (ar ?_);have Hn:Rg (bs.length -4) bs.length bs.length:=⟨by omega⟩;refine cr (Cm rfl rfl (bs.length -4) oM Hn.h.1) (ar ?_);refine cO (bM (v:= .int .u64 ((de (yX bs):Nat):Int)) rfl (by rw[atq,atD];omega)) (Gs ?_);refine cO (bM (v:= .int .u32 ((oB (mJ bs):Nat):Int)) rfl trivial) (ag (kX rfl (by simp only[nb];omega)) (av ?_));refine Gb ?_ ?_<;>intro h2
 ·
  have hE:cM bs=(kl,4):=by rw[cM,if_neg (by rw[h0];simp),if_neg (by rw[h1];simp),if_pos (fun e=>h2 (by rw[e]))]
  refine Gc ?_;refine ag (cV (v:= .agg (dj pH)) rfl (fun w=>by kernel_rfl)) (al ?_);refine Gr fun w1 hw=>?_;exact⟨pH,by rw[hE],by rw[hE];rfl,Mem.dK aO 1 (ah.mem hw:Mem w [] _)⟩
 have CG: ¬de (yX bs)≠oB (mJ bs):=fun e=>e oM;refine Gc ?_;refine ji [12,13] [[],[],[],[],[],[],[],[],[],[],[],[],[],[12]] [0,1,2,3,4,5,6,7,8,9,10,11,12,13] [] (fun _ hw=>ah.mem hw) oK oK (an rfl (bo rfl) (an rfl (bh rfl rfl 0 rfl oM) (an rfl (bT (j:=0) rfl 0 (po (xs:=bs) (i:=0) (d:=0) oM) rfl (by decide)) (an rfl (wV rfl) (an rfl (bo rfl) (an rfl (bh rfl rfl 1 rfl oM) (an rfl (bT (j:=0) rfl 1 (po (xs:=bs) (i:=1) (d:=0) oM) rfl (by decide)) (an rfl (wV rfl) (an rfl (bo rfl) ?_)))))))));have TZ:Rg 2 8 bs.length:=⟨by omega⟩;refine an rfl (Cl rfl rfl rfl 2 8 rfl rfl TZ.h.1 TZ.h.2) (yR rfl (bM rfl (by simp;omega)) (an rfl (cV (v:= .agg (dj (vO bs))) rfl (afn bs)) (dr rfl (PW fun b6=>⟨fun _ hw=>ah.mem hw,?_⟩))));refine dr rfl (ql rfl rfl ⟨fun _ hw=>ah.mem hw,?_⟩);refine av ?_;have T0:Rg 8 10 bs.length:=⟨by omega⟩;refine ag (Cl rfl rfl rfl 8 10 rfl rfl T0.h.1 T0.h.2) (cO (bM (v:= .int .u64 ((iD bs:Nat):Int)) rfl (by rw[atq];omega)) (ag (kX rfl (by simp only[nb];omega)) (fI ?_)));refine bJ rfl rfl rfl (fun hg=>(Ry.yl (kC rfl))) (av ?_);refine bJ rfl rfl rfl (fun hg=>bM (fa (aF hg rfl) (fa (aF hg rfl) iZ)) trivial) (bJ rfl rfl rfl (fun hg=>(Ry.yl (nC (aF hg rfl)))) (av ?_));refine Gb ?_ ?_<;>intro h3
 ·
  have lC:pI bs=false:=by
   rw[KH]at h3
   cases hk:pI bs with
   |false=>rfl
   |true=>
    simp only[pI,ad2,decide_eq_true_eq]at hk;rw[hk.2]at h3;simp only[au9,or_false]at h3;omega
  have hE:cM bs=(kl,2):=by rw[cM,if_neg (by rw[h0];simp),if_neg (by rw[h1];simp),if_neg CG,if_pos lC]
  refine Gc ?_;refine ag (cV (v:= .agg (dj pH)) rfl (fun w=>by kernel_rfl)) (al ?_);refine Gr fun w1 hw=>?_;exact⟨pH,by rw[hE],by rw[hE];rfl,Mem.dK aO 1 (ah.mem hw:Mem w [] _)⟩
 have lC:pI bs=true:=by
  rw[KH]at h3;simp only[pI,ad2,decide_eq_true_eq];exact⟨by omega,h3.2⟩
 have hmr:(iD bs:Int)<=dW bs.length:=by simp only[pI,ad2,decide_eq_true_eq]at lC;exact lC.1
 have wc:(oE bs).length=(mJ bs).length -(10+iD bs):=by rw[oE,atq,atD];omega
 have gr:Gv w ((b.sub 1 0 (bs.length -4)).sub 1 (10+iD bs) (mJ bs).length) aO 1 (oE bs):=⟨(hb.sub (lo:=0) (hi:=bs.length -4) oM oM).sub (lo:=10+iD bs) (hi:=(mJ bs).length) oM (att _)⟩;refine ar ?_;have afo:Rg (10+iD bs) ((mJ bs).length) (mJ bs).length:=⟨by omega⟩;refine ag (Cm rfl rfl (10+iD bs) rfl afo.h.1) (al ?_);refine ck (X:=Nat) (fun U=>[(69, .int .i64 (U:Nat)),(0,b.val),(2, .pointer (some ⟨b2,0,none⟩)),(6, .pointer (some ⟨b6,0,none⟩)),(7, .int .i64 (iD bs:Nat)),(67,((b.sub 1 0 (bs.length -4)).sub 1 (10+iD bs) (mJ bs).length).val),(68, .int .i64 ((oE bs).length:Nat))]) (fun U=>[aq b6 (dj (vO bs)) 324,aq b2 (dj pH) 324]) (fun U=>U<=(oE bs).length/\ ∀j x,j<U->(oE bs)[j]? =Option.some x->x=0) (fun U=>(oE bs).length -U) 0 ⟨Nat.zero_le _,fun j x hj=>by first|omega|(simp only[];omega)⟩ sb (fun w hw=>ah.mem hw) ?_;rintro i ⟨bl,aL⟩;refine al ?_;refine Gb ?_ ?_<;>intro h4
 ·
  refine mB ?_;obtain⟨y,hy⟩:=get_some (xs:=(oE bs)) (i:=i) oM;refine ag (bh rfl rfl i rfl oM) (ag (bT (j:=0) rfl i hy rfl (by decide)) (aQ ?_));refine Gb ?_ ?_<;>intro h5
  ·
   have we:xp (oE bs)=false:=by
    cases hk:xp (oE bs)with
    |false=>rfl
    |true=>exact absurd (congrArg UInt8.toNat (KF.1 hk y (alM hy))) (by intro e;exact h5 (by rw[e];rfl))
   have hE:cM bs=(kl,2):=by rw[cM,if_neg (by rw[h0];simp),if_neg (by rw[h1];simp),if_neg CG,if_neg (by rw[lC];simp),if_pos we]
   refine Gc ?_;refine ag (cV (v:= .agg (dj pH)) rfl (fun w=>by kernel_rfl)) (al ?_);refine Gr fun w1 hw=>?_;exact⟨pH,by rw[hE],by rw[hE];rfl,Mem.dK aO 1 (ah.mem hw:Mem w [] _)⟩
  have LZ:y=0:=avC.1 (show y.toNat=0 by omega);refine al ?_;refine Gi ?_;exact bw (x:=(i)) (i+1) ⟨oF,fun j x hj hx=>if e:j=i then(by subst e;rw[hy]at hx;cases hx;exact LZ)else aL j x oF hx⟩ oF sb (fun w hw=>ah.mem hw)
 obtain rfl:i=(oE bs).length:=by omega
 have we:xp (oE bs)=true:=KF.2 fun x hx=>by
  obtain⟨j,hj⟩:=atH hx;exact aL j x (zz.1 hj).1 hj
 have hE:cM bs=({vN bs with body:=((bs.drop 10).take (10+iD bs -10))},0):=by rw[cM,if_neg (by rw[h0];simp),if_neg (by rw[h1];simp),if_neg CG,if_neg (by rw[lC];simp),if_neg (by rw[we];simp)]
 refine ar ?_;refine Gb ?_ ?_<;>intro h6
 ·
  refine Gi ?_;refine al ?_;have T1:Rg 10 (10+iD bs) bs.length:=⟨by omega⟩;refine ag (Cl rfl rfl rfl 10 (10+iD bs) rfl rfl T1.h.1 T1.h.2) (bb rfl (by simp only[atq,atD];omega) fun L4 aqz=>Gs ?_);refine dO (cs':=dj (⟨((bs.getD 0 0).toNat:Int),((bs.getD 1 0).toNat:Int),(UInt64.ofNat (de ((bs.drop 2).take (8 -2)))),⟨L4,((bs.drop 10).take ((10+iD bs) -10))⟩⟩:fv)) rfl rfl (by show 3<4;decide) (by first|rfl|exact Sv.one _) rfl (aQ ?_);refine Gr fun w1 hw=>?_;exact⟨⟨((bs.getD 0 0).toNat:Int),((bs.getD 1 0).toNat:Int),UInt64.ofNat (de ((bs.drop 2).take (8 -2))),⟨L4,((bs.drop 10).take (10+iD bs -10))⟩⟩,by rw[hE],by rw[hE];exact Rx bs L4 ((bs.drop 10).take (10+iD bs -10)),ah.mem hw⟩
 have oN:iD bs=0:=by omega
 refine aQ ?_;refine Gr fun w1 hw=>?_;exact⟨vO bs,by rw[hE],by rw[hE,KH,oN];simp[vN],Mem.dK aO 1 (ah.mem hw:Mem w [] _)⟩)⟩
instance aqA{c:Cp}{id:Int}{n:Int}[hc:aX w0 L c]:bU Tryz.prog 303 w0 L [.agg (aV c), .int .i64 id, .int .i64 n] (.bool (oG (cv c) id n)) (aW (cv c)=true/\1<=n/\n<=1000000):=⟨fun aA w hw=>by
 have hc:=hc.h w hw;have lJ:cQ w c:=⟨hc⟩;obtain⟨hk,zd,xL⟩:=aA;have dM:=ie c.blocks.xs;have iU:=mF.1 (eM.1 hk).1;simp only[cv,dM]at iU;have xK:0<=((n -1)/c.pages):=avs oM oM;have N7:((n -1)/c.pages)<=n -1:=Int.ediv_le_self _ oM;have oN:0<=((n -1)%c.pages):=avt _ oM;have oT:((n -1)%c.pages)<c.pages:=avx _ oM;have nX:=yW (c:=c) (b:=((n -1)/c.pages));have L5:(c.blocks.xs.getD ((n -1)/c.pages).toNat q8).used=(aj (cv c) ((n -1)/c.pages)).used:=congrArg BV.used nX;refine um Tryz.func303 rfl Tryz.ntmps303 rfl ?_;refine Gc ?_;refine cm rfl fun b3=>av ?_;refine kf oK oK (ar ?_);refine cr (n9 rfl rfl oM oM) (ar ?_);refine cr (B7 rfl rfl oM oM) (P4 ?_);refine bJ rfl rfl rfl (fun hg=>(Ry.yl (bh (aF hg rfl) (aF hg rfl) (((n -1)/c.pages).toNat) (by simp only[Z0,Z1,Z2,Z3,Z4,Z5,Z6,Z7,Z8,Z9]at hg;omega) (by simp only[Z0,Z1,Z2,Z3,Z4,Z5,Z6,Z7,Z8,Z9]at hg;omega)))) (bJ rfl rfl rfl (fun hg=>(Ry.yl (aN (aF hg rfl) rfl))) (bJ rfl rfl rfl (fun hg=>(Ry.yl (bT (j:=1) (aF hg rfl) (((n -1)/c.pages).toNat) (po (xs:=c.blocks.xs) (i:=((n -1)/c.pages).toNat) (d:=q8) (by simp only[Z0,Z1,Z2,Z3,Z4,Z5,Z6,Z7,Z8,Z9]at hg;omega)) rfl (by decide)))) (al ?_)));refine Gb ?_ ?_<;>intro h0
 ·
  have hz:oG (cv c) id n=false:=by
   cases uU:lq (cv c) (n -1)with
   |false=>rw[oG,uU];rfl
   |true=>
    obtain⟨g1,g2,g3⟩:=ni.1 uU;change 2<=((n -1)/c.pages)at g1;change((n -1)/c.pages)<((jk c.blocks.xs).length:Int)at g2;change((n -1)%c.pages)<(aj (cv c) ((n -1)/c.pages)).used at g3;rw[dM]at g2;omega
  refine al ?_;refine Gr fun w1 hw=>?_;exact Ge (hz.symm) hw
 have ca:lq (cv c) (n -1)=true:=ni.2 ⟨show 2<=((n -1)/c.pages) by omega,by simp only[cv,dM];omega,show((n -1)%c.pages)<(aj (cv c) ((n -1)/c.pages)).used by omega⟩;obtain⟨B,hB⟩:=get_some (xs:=c.blocks.xs) (i:=((n -1)/c.pages).toNat) oM;have tB:Mb B c.blocks:=⟨List.mem_of_getElem? hB⟩;have fm:bv B=aj (cv c) ((n -1)/c.pages):=by rw[←nX];simp[List.getD,hB]
 have gI:=fu.1 ((eM.1 hk).2.2.2.2 (bv B) (alM (nP hB)));have je:=pC B.pages.xs;have DH:(B.pages.xs.length:Int)=c.pages:=by have:=gI.1;simp only[bv,cv,je]at this;exact this
 obtain⟨y,hy⟩:=get_some (xs:=B.pages.xs) (i:=((n -1)%c.pages).toNat) oM;have L6:Mb y B.pages:=⟨List.mem_of_getElem? hy⟩;have fw:bP (cv c) (n -1)=y.xs:=by
  show(aj (cv c) ((n -1)/c.pages)).pages.getD ((n -1)%c.pages).toNat []=y.xs;rw[←fm];simp[bv,List.getD,q9 hy]
 refine ar ?_;refine ag (bh rfl rfl (((n -1)/c.pages).toNat) oM oM) (ag (aN rfl rfl) (ag (bT (j:=0) rfl (((n -1)/c.pages).toNat) hB rfl (by decide)) ?_));have aqB:Mb B _:=⟨List.mem_of_getElem? hB⟩;refine Gs ?_;refine ag (bh rfl rfl (((n -1)%c.pages).toNat) oM oM) (ag (bT (j:=0) rfl (((n -1)%c.pages).toNat) hy rfl (by decide)) ?_);have aqC:Mb y _:=⟨List.mem_of_getElem? hy⟩;refine bb rfl trivial fun qE zu=>?_;have e1:qE.kind=(cM y.xs).1.kind:=congrArg PV.kind zu;have e2:qE.id=(cM y.xs).1.id:=congrArg PV.id zu;refine Gs ?_;refine ag (aE (v:= .agg (dj qE)) rfl rfl) (ag (aE (v:= .int .i64 ((cM y.xs).2)) rfl rfl) (bt fun b9=>P5 ?_));refine Gr fun w1 hw=>?_;exact⟨congrArg (fun b=>Ending.returned (Value.bool b)) ((by rw[oG,ca,fw,GH,←e1,←e2];rfl)),ah.mem hw⟩⟩
def oU(n:Int):Value:= .int .i64 n
def rp(_:Unit):Value:= .agg #[]
instance:Dx oU:=⟨fun h=>by simpa[oU]using h⟩
instance:Dw Tryz.prog 3:=⟨Maps.int_keyed Tryz.underlying3⟩
instance:Be Tryz.prog 318 3 319:=⟨Tryz.underlying318⟩
instance:eP Tryz.prog 319 (.agg #[]):=⟨by kernel_rfl⟩
instance:gn (#[]:Array Value) 0:=⟨rfl,by simp⟩
theorem L7{n:Int}(h: -9223372036854775808<=n/\n<=9223372036854775807): ∃l,keyOf Tryz.prog 3 (oU n)=some l:=⟨_,Maps.keyOf_int_mk Tryz.underlying3 (by simp[Lit.wf,IntKind.min,IntKind.max,IntKind.signed,IntKind.bits];omega)⟩
instance aqD{c:Cp}{t:Sv}{ts:List Int}[hc:aX w0 L c][ht:dy w0 L cf 1 t ts]:bU Tryz.prog 259 w0 L [.agg (aV c),t.val] (.bool (vQ (cv c) ts)) (aW (cv c)=true/\ ∀x∈ts,0<=x/\x<=65535):=⟨fun aA w hw=>by
 have hc:=hc.h w hw;have ht:=ht.h w hw;have lJ:cQ w c:=⟨hc⟩;have Dn:Gv w t cf 1 ts:=⟨ht⟩;obtain⟨hk,pU⟩:=aA;have kg:=ht.bd;refine dz Tryz.func259 rfl Tryz.ntmps259 rfl ?_;refine Gc ?_;refine cm rfl fun b2=>ar ?_;refine afg oU rp rfl fun wg=>aZ ?_;refine ck (X:=Nat) (fun U=>[(15, .int .i64 (U:Nat)),(5, .map (some wg)),(2, .pointer (some ⟨b2,0,none⟩)),(13,t.val),(14, .int .i64 (ts.length:Nat))]) (fun U=>[omap Tryz.prog 3 oU rp wg (kK ts U),aq b2 (aV c) 59]) (fun U=>U<=ts.length/\ ∀j,j<U->rO (cv c) ts j=true) (fun U=>ts.length -U) 0 ⟨Nat.zero_le _,fun j hj=>by first|omega|(simp only[];omega)⟩ sb (fun w hw=>by
  rw[←RB];exact ah.mem hw) ?_
 rintro i ⟨bl,aL⟩;refine al ?_;refine Gb ?_ ?_<;>intro h0
 ·
  obtain⟨y,hy⟩:=get_some (xs:=ts) (i:=i) oM;have hyr:=pU y (alM hy);have pV:=qu hy;have xV:=L7 (n:=y) oM;refine av ?_;refine ag (bh rfl rfl i rfl oM) (ag (bT (j:=0) rfl i hy rfl (by decide)) (aZ ?_));refine Gb ?_ ?_<;>intro h1
  ·
   subst h1;have bN:rO (cv c) ts i=true:=by rw[rO,pV];rfl
   refine al ?_;refine Gi ?_;exact bw (x:=(i)) (i+1) ⟨oF,fun j hj=>if e:j=i then e▸bN else aL j oF⟩ oF sb (fun w hw=>by
    rw[RC hy];exact ah.mem hw)
  refine al ?_;refine ag (LR (dv:=oU) (eH:=rp) (f:=kK ts i) (v:=y) (z:=()) rfl rfl xV) (Gs ?_);refine ag (aE (v:= .agg #[]) rfl rfl) (ag (aE (v:= .bool ((kK ts i y).isSome)) rfl rfl) (bt fun b8=>aQ ?_));refine bJ rfl rfl rfl (fun hg=>(Ry.yl (kC rfl))) (av ?_);refine bJ rfl rfl rfl (fun hg=>bM (fa (aF hg rfl) (fa (aF hg rfl) (fa (aF hg rfl) iZ))) ⟨hk,by omega,by omega⟩) (bJ rfl rfl rfl (fun hg=>(Ry.yl (nC (aF hg rfl)))) (av ?_));refine Gb ?_ ?_<;>intro h2
  ·
   have hz:vQ (cv c) ts=false:=by
    cases uU:vQ (cv c) ts with
    |false=>rfl
    |true=>
     have g:=C2.1 uU i oM;rw[rO,pV]at g;rw[C3]at h2;simp only[auA,ad2,decide_eq_true_eq,aus,av7,decide_eq_false_iff_not]at g h2;rcases g with g|g
     ·
      exact absurd g h1
     rcases h2 with h2|h2
     ·
      exact absurd h2.2 g.1
     rw[g.2]at h2;cases h2
   refine al ?_;refine Gr fun w1 hw=>?_;exact Ge (hz.symm) hw
  have bN:rO (cv c) ts i=true:=by
   rw[C3]at h2;rw[rO,pV];simp only[auA,ad2,decide_eq_true_eq,aus,av7,decide_eq_false_iff_not]at h2⊢;exact .inr ⟨fun hm=>h2.1 ⟨h1,hm⟩,h2.2⟩
  have fy:=RD hy h1;refine al ?_;refine ag (cV (v:= .agg #[]) rfl (fun w=>by kernel_rfl)) (LS (dv:=oU) (eH:=rp) (v:=y) (u:=()) rfl rfl rfl xV (al ?_));refine Gi ?_;exact bw (x:=(i)) (i+1) ⟨oF,fun j hj=>if e:j=i then e▸bN else aL j oF⟩ oF sb (fun w hw=>by
   rw[←fy];exact ah.mem hw)
 obtain rfl:i=ts.length:=by omega
 have hz:vQ (cv c) ts=true:=C2.2 fun j hj=>aL j hj;refine al ?_;refine Gr fun w1 hw=>?_;exact⟨congrArg (fun b=>Ending.returned (Value.bool b)) (hz.symm),ah.mem hw⟩⟩
instance:eP Tryz.prog 402 (.agg (bL dZ)):=⟨by kernel_rfl⟩
theorem afp(u v:Int)(b:Bool)(w:World):(Instr.build 402 #[(1, .int .i64 u),(2, .int .i64 v),(3, .bool b)]).run Tryz.prog w= .ok (.agg (bL ⟨0,u,v,b⟩)) w:=by
 unfold bL;kernel_rfl
instance aqE{c:Cp}{l:Sl (Sl Int)}[hc:aX w0 L c][hl:aX w0 L l]:bV Tryz.prog 326 w0 L [.agg (aV c),l.sv.val] (Sv) (fun U=>U.val) (fun U=>own bL 4 U (jm (cv c) (aw l.xs))::L) (fun U=>True) (xr (cv c) (aw l.xs)):=⟨fun aA w hw=>Gk (fun U=>[own bL 4 U (jm (cv c) (aw l.xs))]) hw (by
 have hc:=hc.h w hw;have hl:=hl.h w hw;have lJ:cQ w c:=⟨hc⟩;have qx:cQ w l:=⟨hl⟩;obtain⟨⟨hk,nh⟩,qX,iY⟩:=aA;have kg:=hl.1.bd;have dM:=ie c.blocks.xs;have pP:(cv c).blocks.length=c.blocks.xs.length:=dM;have iU:=mF.1 (eM.1 hk).1;simp only[cv,dM]at iU;have oA:=AL (cv c) (aw l.xs);rw[pP]at oA;have wc:(List.replicate (c.blocks.xs.length -2) dZ).length=c.blocks.xs.length -2:=List.length_replicate;refine dz Tryz.func326 rfl Tryz.ntmps326 rfl ?_;refine Gc ?_;refine cm rfl fun b2=>aZ ?_;refine vu (enc:=bL) (n:=(c.blocks.xs.length -2)) (cap:=(c.blocks.xs.length -2)) dZ rfl rfl rfl oM oM oM oM oM fun r8=>aZ ?_;refine ck (X:=Nat×List az) (fun U=>[(22, .int .i64 (U.1:Nat)),(5,(⟨false,r8,0,c.blocks.xs.length -2,c.blocks.xs.length -2,none⟩:Sv).val),(1,l.sv.val),(2, .pointer (some ⟨b2,0,none⟩)),(21, .int .i64 ((List.replicate (c.blocks.xs.length -2) dZ).length:Nat))]) (fun U=>[own bL 4 ⟨false,r8,0,c.blocks.xs.length -2,c.blocks.xs.length -2,none⟩ U.2,aq b2 (aV c) 59]) (fun U=>U.1<=c.blocks.xs.length -2/\U.2.length=c.blocks.xs.length -2/\U.2.take U.1=(kr (cv c) (aw l.xs) 0).take U.1) (fun U=>c.blocks.xs.length -2 -U.1) (0,List.replicate (c.blocks.xs.length -2) dZ) ⟨Nat.zero_le _,by simp,by simp⟩ sb (fun w hw=>ah.mem hw) ?_;rintro⟨i,zs⟩ ⟨bl,aL,bC⟩;dsimp only;simp only at bl aL bC;refine al ?_;refine Gb ?_ ?_<;>intro h0
 ·
  obtain⟨B,hB⟩:=get_some (xs:=c.blocks.xs) (i:=i+2) oM;have tB:Mb B c.blocks:=⟨List.mem_of_getElem? hB⟩;obtain⟨z,hz⟩:=get_some (xs:=zs) (i:=i) oM;have AA:(zs.set i (⟨0,B.used,B.aU,B.bad⟩:az)).take (i+1)=(kr (cv c) (aw l.xs) 0).take (i+1):=by
   have e1:=GC (f:=id) (z':=(⟨0,B.used,B.aU,B.bad⟩:az)) hz;simp only[List.map_id]at e1;rw[e1,bC,atr,ac6,atx,auU oM,at3,show aj (cv c) ((i:Int)+2)=bv B from KM (i:=i+2) hB];rfl
  refine fI ?_;refine ag (bh rfl rfl (i+2) rfl oM) (ag (iJ rfl (i+2) hB rfl) ?_);have TV:Mb B c.blocks:=⟨List.mem_of_getElem? hB⟩;refine bt fun b7=>qW ?_;refine ag (cV (v:= .agg (bL (⟨0,B.used,B.aU,B.bad⟩:az))) rfl (afp B.used B.aU B.bad)) (ag (bh rfl rfl i rfl oM) (mv (s:=⟨false,r8,0,c.blocks.xs.length -2,c.blocks.xs.length -2,none⟩) (n:=4) (k:=i) (j:=0) (a:=z) (a':=(⟨0,B.used,B.aU,B.bad⟩:az)) (xs:=zs) (enc:=bL) (c:=4) (v:= .agg (bL (⟨0,B.used,B.aU,B.bad⟩:az))) oK rfl rfl rfl hz (bp.one (enc:=bL) (c:=4) _) rfl (by decide) (by rfl) (al ?_)));refine Gi ?_;exact bw (x:=(i,zs)) (i+1,zs.set i (⟨0,B.used,B.aU,B.bad⟩:az)) ⟨oF,by rw[atV];exact aL,AA⟩ (by simp only;omega) sb (fun w hw=>ah.mem hw)
 obtain rfl:i=zs.length:=by omega
 rw[atP,atC (by rw[oA];omega)]at bC;subst bC;refine Gc ?_;refine TT oU rp fun Ho=>aZ ?_;refine ck (X:=Nat) (fun U=>[(45, .int .i64 (U:Nat)),(5,(⟨false,r8,0,c.blocks.xs.length -2,c.blocks.xs.length -2,none⟩:Sv).val),(8, .map (some Ho)),(2, .pointer (some ⟨b2,0,none⟩)),(43,l.sv.val),(44, .int .i64 (l.xs.length:Nat))]) (fun U=>[omap Tryz.prog 3 oU rp Ho (kK (aw l.xs) (aw (l.xs.take U)).length),own bL 4 ⟨false,r8,0,c.blocks.xs.length -2,c.blocks.xs.length -2,none⟩ (kr (cv c) (aw l.xs) (aw (l.xs.take U)).length),aq b2 (aV c) 59]) (fun U=>U<=l.xs.length) (fun U=>l.xs.length -U) 0 (atL _) sb (fun w hw=>by
  have e0:(aw (l.xs.take 0)).length=0:=by simp[aw]
  simp only[e0];rw[←RB];exact ah.mem hw) ?_
 rintro a L8;refine al ?_;refine Gb ?_ ?_<;>intro h1
 ·
  obtain⟨x,hx⟩:=get_some (xs:=l.xs) (i:=a) oM;have T3:Mb x l:=⟨List.mem_of_getElem? hx⟩;have eu:=(hl.2 x T3.h).1.bd;refine Gc ?_;refine ag (bh rfl rfl a rfl oM) (ag (bT (j:=0) rfl a hx rfl (by decide)) ?_);have aqF:Mb x _:=⟨List.mem_of_getElem? hx⟩;refine aZ ?_;refine ck (X:=Nat) (fun U=>[(51, .int .i64 (U:Nat)),(5,(⟨false,r8,0,c.blocks.xs.length -2,c.blocks.xs.length -2,none⟩:Sv).val),(8, .map (some Ho)),(2, .pointer (some ⟨b2,0,none⟩)),(43,l.sv.val),(44, .int .i64 (l.xs.length:Nat)),(45, .int .i64 (a:Nat)),(49,x.sv.val),(50, .int .i64 (x.xs.length:Nat))]) (fun U=>[omap Tryz.prog 3 oU rp Ho (kK (aw l.xs) ((aw (l.xs.take a)).length+U)),own bL 4 ⟨false,r8,0,c.blocks.xs.length -2,c.blocks.xs.length -2,none⟩ (kr (cv c) (aw l.xs) ((aw (l.xs.take a)).length+U)),aq b2 (aV c) 59]) (fun U=>U<=x.xs.length) (fun U=>x.xs.length -U) 0 (atL _) sb (fun w hw=>ah.mem hw) ?_;rintro j gA;refine al ?_;refine Gb ?_ ?_<;>intro h2
  ·
   obtain⟨y,hy⟩:=get_some (xs:=x.xs) (i:=j) oM;have Bj:=ac5 hx hy;have L9:=iY y (alM Bj);have pV:=qu Bj;have xV:=L7 (n:=y) oM;refine Gc ?_;refine ag (bh rfl rfl j rfl oM) (ag (bT (j:=0) rfl j hy rfl (by decide)) (ar ?_));refine ag (LR (dv:=oU) (eH:=rp) (f:=kK (aw l.xs) ((aw (l.xs.take a)).length+j)) (v:=y) (z:=()) rfl rfl xV) (Gs ?_);refine ag (aE (v:= .agg #[]) rfl rfl) (ag (aE (v:= .bool ((kK (aw l.xs) ((aw (l.xs.take a)).length+j) y).isSome)) rfl rfl) (bt fun jr=>ja ?_));refine Gb ?_ ?_<;>intro h3
   ·
    have uV:nQ (aw l.xs) ((aw (l.xs.take a)).length+j)=false:=by
     rw[nQ,pV];rw[C3]at h3;rcases h3 with h|h
     ·
      simp[h]
     simp only[decide_eq_true_eq]at h;simp[h.2]
    have hsk:kK (aw l.xs) (((aw (l.xs.take a)).length+j)+1)=kK (aw l.xs) ((aw (l.xs.take a)).length+j):=by
     rw[C3]at h3;rcases h3 with h|h
     ·
      exact RC (h▸Bj)
     exact ac3 Bj (by simpa using h)
    refine al ?_;refine Gi ?_;exact bw (x:=(j)) (j+1) oF oF sb (fun w hw=>by
     rw[←auW,hsk,ac2 uV];exact ah.mem hw)
   have og:y≠0:=h3.1;obtain⟨b1,b2,b3,b4⟩:=L9.resolve_left og;change 2<=((y -1)/c.pages)at b3;change((y -1)/c.pages)<((jk c.blocks.xs).length:Int)at b4;rw[dM]at b4;have uV:nQ (aw l.xs) ((aw (l.xs.take a)).length+j)=true:=by
    rw[nQ,pV];have h9:=h3.2;rw[C3]at h9;simp only[decide_eq_false_iff_not]at h9;simp only[ad2,decide_eq_true_eq,aus,av7,decide_eq_false_iff_not];exact⟨og,fun hm=>h9 ⟨og,hm⟩⟩
   have fy:=RD Bj og;have w8:=AL (cv c) (aw l.xs) ((aw (l.xs.take a)).length+j);rw[pP]at w8;obtain⟨z,hz⟩:=get_some (xs:=kr (cv c) (aw l.xs) ((aw (l.xs.take a)).length+j)) (i:=(((y -1)/c.pages) -2).toNat) oM;have rr:=ac4 uV (i:=(((y -1)/c.pages) -2).toNat) (by rw[pV];show((y -1)/c.pages)=_;omega) hz;have rn:=ac7 hz;have ca:=(zz.1 Bj).1;refine al ?_;refine ag (cV (v:= .agg #[]) rfl (fun w=>by kernel_rfl)) (LS (dv:=oU) (eH:=rp) (v:=y) (u:=()) rfl rfl rfl xV (aZ ?_));refine ag (n9 rfl rfl oM oM) (Gs ?_);refine ag (bh rfl rfl ((((y -1)/c.pages) -2).toNat) oM oM) (ag (aN rfl rfl) (ag (bT (j:=0) rfl ((((y -1)/c.pages) -2).toNat) hz rfl (by decide)) (Gs ?_)));refine ag (bh rfl rfl ((((y -1)/c.pages) -2).toNat) oM oM) (ag (aN rfl rfl) (mv (s:=⟨false,r8,0,c.blocks.xs.length -2,c.blocks.xs.length -2,none⟩) (n:=1) (k:=(((y -1)/c.pages) -2).toNat) (j:=0) (a:=z) (a':={z with live:=z.live+1}) (xs:=(kr (cv c) (aw l.xs) ((aw (l.xs.take a)).length+j))) (enc:=bL) (c:=4) (v:= .int .i64 (z.live+1)) oK rfl rfl rfl hz (by simp[Value.cells,Value.oneCell']) (by rfl) (by decide) (by rfl) (al ?_)))
   refine Gi ?_;exact bw (x:=(j)) (j+1) oF oF sb (fun w hw=>by
    rw[←auW,←fy,rr];exact ah.mem hw)
  obtain rfl:j=x.xs.length:=by omega
  refine al ?_;refine Gi ?_;exact bw (x:=(a)) (a+1) oF oF sb (fun w hw=>by
   rw[RN hx,adr];exact ah.mem hw)
 obtain rfl:a=l.xs.length:=by omega
 rw[atP];refine ar ?_;refine Gr fun w1 hw=>?_;exact⟨⟨false,r8,0,c.blocks.xs.length -2,c.blocks.xs.length -2,none⟩,rfl,trivial,by rw[jm];exact ah.mem hw⟩)⟩
instance:eP Tryz.prog 432 (.agg (fJ acL)):=⟨by kernel_rfl⟩
theorem Ma(x:az)(p:Int)(w:World):(Instr.build 432 #[(0, .agg (bL x)),(1, .int .i64 p)]).run Tryz.prog w= .ok (.agg (fJ ⟨x,p⟩)) w:=by
 obtain⟨a,b,c,d⟩:=x;unfold fJ bL;kernel_rfl
instance aqG{a:Int}:bU Tryz.prog 350 w0 L [.int .i64 a] (.bool false) (True):=⟨fun aA w hw=>by
 refine ct Tryz.func350 rfl Tryz.ntmps350 rfl ?_;refine fI ?_;refine Gr fun w1 hw=>?_;exact⟨congrArg (fun b=>Ending.returned (Value.bool b)) ((by simp)),ah.mem hw⟩⟩
instance aqH{a:Int}{b:Int}:bU Tryz.prog 349 w0 L [.int .i64 a, .int .i64 b] (.int .i64 (y0 a b)) (True):=⟨fun aA w hw=>by
 refine dz Tryz.func349 rfl Tryz.ntmps349 rfl ?_;refine JY ?_;refine lO rfl (fun h0=>?_) (fun h0=>?_)
 ·
  exfalso;simp at h0
 replace h0:=bz h0;refine al ?_;refine lO rfl (fun h2=>?_) (fun h2=>?_)
 ·
  exfalso;simp at h2
 replace h2:=bz h2;refine aQ ?_;refine Gb ?_ ?_<;>intro h3
 ·
  refine al ?_;refine Gr fun w1 hw=>?_;exact Gf ((by rw[y0,if_pos oM])) hw
 refine aQ ?_;refine Gb ?_ ?_<;>intro h4
 ·
  refine al ?_;refine Gr fun w1 hw=>?_;exact Gf ((by rw[y0,if_neg oM,if_pos oM])) hw
 refine al ?_;refine Gr fun w1 hw=>?_;exact⟨congrArg (fun b=>Ending.returned (Value.int .i64 b)) ((by rw[y0,if_neg oM,if_neg oM])),ah.mem hw⟩⟩
theorem T4(w:World)(b:jE):Calls Tryz.prog 335 #[.agg (fJ b)] w fun e w'=>e= .returned (.bool (nk b.pages b.w))/\Mem w [] w':=by
 refine ct Tryz.func335 rfl Tryz.ntmps335 rfl ?_;refine Gc ?_;refine cm rfl fun b1=>fI ?_;refine jw rfl rfl rfl (fun hg=>(Ry.yl (aN (o':=1) (aF hg rfl) rfl))) (di ?_);refine Gr fun w1 hw=>?_;exact Ge (by simp only[nk,Bool.and_assoc]) hw
instance aqI{b:jE}:bU Tryz.prog 335 w0 L [.agg (fJ b)] (.bool (nk b.pages b.w)) (True):=⟨fun hp w hw=>T4 w b⟩
theorem T5(w:World)(b:jE):Calls Tryz.prog 333 #[.agg (fJ b)] w fun e w'=>e= .returned (.bool (mL b.w))/\Mem w [] w':=by
 refine ct Tryz.func333 rfl Tryz.ntmps333 rfl ?_;refine Gc ?_;refine cm rfl fun b1=>fI ?_;refine jw rfl rfl rfl (fun hg=>(Ry.yl (aN (o':=0) (aF hg rfl) rfl))) (aQ ?_);refine jw rfl rfl rfl (fun hg=>(Ry.yl (aN (o':=1) (aF hg rfl) rfl))) (aQ ?_);refine Gr fun w1 hw=>?_;exact Ge (by simp only[mL,Bool.and_assoc]) hw
instance aqJ{b:jE}:bU Tryz.prog 333 w0 L [.agg (fJ b)] (.bool (mL b.w)) (True):=⟨fun hp w hw=>T5 w b⟩
theorem afq(w:World)(b:jE):Calls Tryz.prog 340 #[.agg (fJ b)] w fun e w'=>e= .returned (.bool (y5 b.pages b.w))/\Mem w [] w':=by
 refine ct Tryz.func340 rfl Tryz.ntmps340 rfl ?_;refine Gc ?_;refine cm rfl fun b1=>aZ ?_;refine Gb ?_ ?_<;>intro h0
 ·
  refine di ?_;refine Gr fun w1 hw=>?_;exact Ge (by rw[y5,if_pos h0]) hw
 refine ja ?_;refine jw rfl rfl rfl (fun hg=>(Ry.yl (aN (o':=0) (aF hg rfl) rfl))) (aQ ?_);refine jw rfl rfl rfl (fun hg=>(Ry.yl (aN (o':=0) (aF hg rfl) rfl))) (di ?_);refine Gr fun w1 hw=>?_;exact Ge (by rw[y5,if_neg (by rw[h0];simp)]) hw
theorem afr(w:World)(a:jE)(b:jE):Calls Tryz.prog 336 #[.agg (fJ a), .agg (fJ b)] w fun e w'=>e= .returned (.int .i64 (AM a.w b.w))/\Mem w [] w':=by
 refine dz Tryz.func336 rfl Tryz.ntmps336 rfl ?_;refine Gc ?_;refine cm rfl fun b2=>cm rfl fun b3=>qo ?_;refine Gr fun w1 hw=>?_;exact⟨rfl,ah.mem hw⟩
theorem afs(w:World)(a:jE)(b:jE):Calls Tryz.prog 334 #[.agg (fJ a), .agg (fJ b)] w fun e w'=>e= .returned (.int .i64 (s0 a.w b.w))/\Mem w [] w':=by
 refine dz Tryz.func334 rfl Tryz.ntmps334 rfl ?_;refine Gc ?_;refine cm rfl fun b2=>cm rfl fun b3=>qo ?_;refine Gr fun w1 hw=>?_;exact⟨rfl,ah.mem hw⟩
theorem aft(w:World)(a:jE)(b:jE):Calls Tryz.prog 342 #[.agg (fJ a), .agg (fJ b)] w fun e w'=>e= .returned (.int .i64 (KP a.w b.w))/\Mem w [] w':=by
 refine dz Tryz.func342 rfl Tryz.ntmps342 rfl ?_;refine Gc ?_;refine cm rfl fun b2=>cm rfl fun b3=>qo ?_;refine Gr fun w1 hw=>?_;exact⟨rfl,ah.mem hw⟩
theorem afu(w:World)(a:jE)(b:jE):Calls Tryz.prog 341 #[.agg (fJ a), .agg (fJ b)] w fun e w'=>e= .returned (.int .i64 (AN a.w b.w))/\Mem w [] w':=by
 refine dz Tryz.func341 rfl Tryz.ntmps341 rfl ?_;refine Gc ?_;refine cm rfl fun b2=>cm rfl fun b3=>fI ?_;refine ag (X2 rfl rfl Tryz.underlying4) (av ?_);refine Gb ?_ ?_<;>intro h0
 ·
  refine al ?_;refine Gr fun w1 hw=>?_;exact Gf ((by rw[AN,if_pos (by simpa using h0)])) hw
 refine aZ ?_;refine Gb ?_ ?_<;>intro h1
 ·
  refine al ?_;refine Gr fun w1 hw=>?_;exact Gf ((by rw[AN,if_neg (by simpa using h0),if_pos h1])) hw
 refine al ?_;refine Gr fun w1 hw=>?_;exact Gf ((by rw[AN,if_neg (by simpa using h0),if_neg (by rw[h1];simp)])) hw
instance aqK{l:Sv}{ls:List az}{p:Int}[hl:dy w0 L bL 4 l ls]:bU Tryz.prog 346 w0 L [l.val, .int .i64 p] (.bool (mM ls p)) (True):=⟨fun aA w hw=>by
 have hl:=hl.h w hw;have qx:Gv w l bL 4 ls:=⟨hl⟩;have qw:cS=1099511627776:=rfl;refine dz Tryz.func346 rfl Tryz.ntmps346 rfl ?_;refine aal ?_;refine Gb ?_ ?_<;>intro h0
 ·
  have hz:mM ls p=false:=by
   cases hk:mM ls p with
   |false=>rfl
   |true=>have g:=s8.1 hk;omega
  refine al ?_;refine Gr fun w1 hw=>?_;exact Ge (hz.symm) hw
 refine aQ ?_;refine ck (X:=Nat) (fun U=>[(25, .int .i64 (U:Nat)),(1, .int .i64 p),(23,l.val),(24, .int .i64 (ls.length:Nat))]) (fun U=>[]) (fun U=>U<=ls.length/\ ∀j x,j<U->ls[j]? =Option.some x->xu p x=true) (fun U=>ls.length -U) 0 ⟨Nat.zero_le _,fun j x hj=>by first|omega|(simp only[];omega)⟩ sb (fun w hw=>ah.mem hw) ?_;rintro i ⟨bl,aL⟩;refine al ?_;refine Gb ?_ ?_<;>intro h1
 ·
  refine mB ?_;obtain⟨x,hx⟩:=get_some (xs:=ls) (i:=i) oM;refine ag (bh rfl rfl i rfl oM) (ag (iJ rfl i hx rfl) (bt fun b6=>P6 ?_));refine Gb ?_ ?_<;>intro h2
  ·
   have hz:mM ls p=false:=by
    cases hk:mM ls p with
    |false=>rfl
    |true=>
     have g:=rP.1 ((s8.1 hk).2.2.2.2 x (alM hx));omega
   refine al ?_;refine Gr fun w1 hw=>?_;exact Ge (hz.symm) hw
  have xA:xu p x=true:=rP.2 ⟨by omega,by omega,by omega,by omega,by omega⟩;refine al ?_;refine Gi ?_;exact bw (x:=(i)) (i+1) ⟨oF,fun j y hj hy=>if e:j=i then(by subst e;rw[hx]at hy;cases hy;exact xA)else aL j y oF hy⟩ oF sb (fun w hw=>ah.mem hw)
 obtain rfl:i=ls.length:=by omega
 have hz:mM ls p=true:=s8.2 ⟨by omega,by omega,by omega,by omega,fun x hx=>by
  obtain⟨j,hj⟩:=atH hx;exact aL j x (zz.1 hj).1 hj⟩
 refine al ?_;refine Gr fun w1 hw=>?_;exact⟨congrArg (fun b=>Ending.returned (Value.bool b)) (hz.symm),ah.mem hw⟩⟩
def iV(f:FuncId):az->az->Int:=if f=336 then AM else if f=334 then s0 else if f=342 then KP else AN
theorem afv{f:FuncId}(h:f∈[336,334,342,341]):aI Tryz.prog f/\ ∀(w:World) (a b:jE),Calls Tryz.prog f #[.agg (fJ a), .agg (fJ b)] w fun e w'=>e= .returned (.int .i64 (iV f a.w b.w))/\Mem w [] w':=by
 simp only[atv,auX,or_false]at h;rcases h with rfl|rfl|rfl|rfl
 ·
  exact⟨inferInstance,fun w a b=>afr w a b⟩
 ·
  exact⟨inferInstance,fun w a b=>afs w a b⟩
 ·
  exact⟨inferInstance,fun w a b=>aft w a b⟩
 exact⟨inferInstance,fun w a b=>afu w a b⟩
def nv(f:FuncId)(p:Int):az->Bool:=if f=335 then nk p else if f=333 then mL else y5 p
theorem afw{f:FuncId}(h:f∈[335,333,340]):aI Tryz.prog f/\ ∀(w:World) (b:jE),Calls Tryz.prog f #[.agg (fJ b)] w fun e w'=>e= .returned (.bool (nv f b.pages b.w))/\Mem w [] w':=by
 simp only[atv,auX,or_false]at h;rcases h with rfl|rfl|rfl
 ·
  exact⟨inferInstance,fun w b=>T4 w b⟩
 ·
  exact⟨inferInstance,fun w b=>T5 w b⟩
 exact⟨inferInstance,fun w b=>afq w b⟩
instance aqL{a:jE}{b:jE}{o:Sv}{os:List FuncId}[ho:dy w0 L uM 1 o os]:bU Tryz.prog 348 w0 L [.agg (fJ a), .agg (fJ b),o.val] (.bool (uy a.w b.w (os.map iV))) (∀f∈os,f∈[336,334,342,341]):=⟨fun aA w hw=>by
 have ho:=ho.h w hw;have gho:Gv w o uM 1 os:=⟨ho⟩;have kg:=ho.bd;refine um Tryz.func348 rfl Tryz.ntmps348 rfl ?_;refine Gc ?_;refine cm rfl fun b3=>cm rfl fun b4=>aZ ?_;refine ck (X:=Nat) (fun U=>[(12, .int .i64 (U:Nat)),(3, .pointer (some ⟨b3,0,none⟩)),(4, .pointer (some ⟨b4,0,none⟩)),(10,o.val),(11, .int .i64 (os.length:Nat))]) (fun U=>[aq b4 (fJ b) 432,aq b3 (fJ a) 432]) (fun U=>U<=os.length/\uy a.w b.w (os.map iV)=uy a.w b.w ((os.drop U).map iV)) (fun U=>os.length -U) 0 ⟨Nat.zero_le _,rfl⟩ sb (fun w hw=>ah.mem hw) ?_;rintro i ⟨bl,aL⟩;refine al ?_;refine Gb ?_ ?_<;>intro h0
 ·
  obtain⟨f,hf⟩:=get_some (xs:=os) (i:=i) oM;obtain⟨isf,hfc⟩:=afv (aA f (alM hf));have bB:uy a.w b.w ((os.drop i).map iV)=if iV f a.w b.w≠0 then decide (iV f a.w b.w<0)else uy a.w b.w ((os.drop (i+1)).map iV):=by
   rw[drop_at hf,atI,uy]
  refine Gc ?_;refine ag (bh rfl rfl i rfl oM) (ag (bT (j:=0) rfl i hf rfl (by decide)) (aQ ?_));refine cO (FQ (f:=f) (vs:=[.agg (fJ a), .agg (fJ b)]) rfl rfl (fun w1 _=>hfc w1 a b)) (aQ ?_);refine Gb ?_ ?_<;>intro h1
  ·
   have hz:uy a.w b.w (os.map iV)=decide (iV f a.w b.w<0):=by rw[aL,bB,if_pos h1]
   refine aQ ?_;refine Gr fun w1 hw=>?_;exact Ge (hz.symm) hw
  rw[if_neg oM]at bB;refine al ?_;refine Gi ?_;exact bw (x:=(i)) (i+1) ⟨oF,by rw[aL,bB]⟩ oF sb (fun w hw=>ah.mem hw)
 obtain rfl:i=os.length:=by omega
 have hz:uy a.w b.w (os.map iV)=false:=by rw[aL,avG];rfl
 refine al ?_;refine Gr fun w1 hw=>?_;exact⟨congrArg (fun b=>Ending.returned (Value.bool b)) (hz.symm),ah.mem hw⟩⟩
instance aqM{r:FuncId}{l:Sv}{ls:List az}{p:Int}{o:Sv}{os:List FuncId}[hl:dy w0 L bL 4 l ls][ho:dy w0 L uM 1 o os]:bU Tryz.prog 332 w0 L [l.val, .int .i64 p, .func (.func r) #[] #[],o.val] (.tuple #[.int .i64 ((gg ls p (nv r p) (os.map iV)).1), .bool ((gg ls p (nv r p) (os.map iV)).2)]) (r∈[335,333,340]/\ ∀f∈os,f∈[336,334,342,341]):=⟨fun aA w hw=>by
 have hl:=hl.h w hw;have ho:=ho.h w hw;have qx:Gv w l bL 4 ls:=⟨hl⟩;have gho:Gv w o uM 1 os:=⟨ho⟩;obtain⟨gz,T6⟩:=aA;obtain⟨isr,hrc⟩:=afw gz;have kg:=hl.bd;refine P8 Tryz.func332 rfl Tryz.ntmps332 rfl ?_;refine ja ?_;refine Gb ?_ ?_<;>intro h0
 ·
  have hE:gg ls p (nv r p) (os.map iV)=(0,false):=if_neg (by rw[h0];simp);refine ar ?_;refine Gr fun w1 hw=>?_;exact⟨by rw[hE],ah.mem hw⟩
 have hE:gg ls p (nv r p) (os.map iV)=iM ls (nv r p) (os.map iV) ls.length:=if_pos h0;refine fI ?_;refine ck (X:=Nat) (fun U=>[(21, .int .i64 (U:Nat)),(10, .int .i64 ((iM ls (nv r p) (os.map iV) U).1)),(11, .bool ((iM ls (nv r p) (os.map iV) U).2)),(0,l.val),(1, .int .i64 p),(2, .func (.func r) #[] #[]),(3,o.val),(19,l.val),(20, .int .i64 (ls.length:Nat))]) (fun U=>[]) (fun U=>U<=ls.length) (fun U=>ls.length -U) 0 (atL _) sb (fun w hw=>ah.mem hw) ?_;rintro i bl;refine al ?_;refine Gb ?_ ?_<;>intro h1
 ·
  obtain⟨x,hx⟩:=get_some (xs:=ls) (i:=i) oM;have Mc:ls.getD i dZ=x:=by simp[List.getD,hx]
  have hle:=KQ ls (nv r p) (os.map iV) i;refine av ?_;refine ag (bh rfl rfl i rfl oM) (ag (iJ rfl i hx rfl) (bt fun jr=>aQ ?_));refine ag (cV (v:= .agg (fJ ⟨x,p⟩)) rfl (Ma x p)) (bt fun Hl=>ar ?_);refine cO (FQ (f:=r) (vs:=[.agg (fJ ⟨x,p⟩)]) rfl rfl (fun w1 _=>hrc w1 ⟨x,p⟩)) (av ?_);refine Gb ?_ ?_<;>intro h2
  ·
   have bB:(iM ls (nv r p) (os.map iV) (i+1))=(iM ls (nv r p) (os.map iV) i):=by rw[iM,AO,Mc,if_neg (by rw[h2];simp)]
   refine al ?_;refine Gi ?_;exact bw (x:=(i)) (i+1) oF oF (Sub.cons rfl (Sub.cons (look_eq rfl (by rw[bB])) (Sub.cons (look_eq rfl (by rw[bB])) sb))) (fun w hw=>ah.mem hw)
  refine Gc ?_;refine kf oK oK (al ?_);refine jx rfl rfl rfl (fun hg=>(Ry.yl (kC rfl))) (av ?_);refine jx rfl rfl rfl (fun hg=>(Ry.yl (bh (aF hg rfl) (aF hg rfl) ((iM ls (nv r p) (os.map iV) i).1.toNat) oM (by have:=hle.1;have:=hle.2.1;have:=(zz.1 hx).1;omega)))) ?_;refine jx rfl rfl rfl (fun hg=>(Ry.yl (iJ (aF hg rfl) ((iM ls (nv r p) (os.map iV) i).1.toNat) (po (d:=dZ) (by have:=hle.1;have:=hle.2.1;have:=(zz.1 hx).1;omega)) rfl))) ?_;refine Gh ?_;refine jx rfl rfl rfl (fun hg=>(Ry.yl (cV (v:= .agg (fJ ⟨(ls.getD (iM ls (nv r p) (os.map iV) i).1.toNat dZ),p⟩)) (B8 (aF hg rfl) (B8 (aF hg rfl) Oc)) (Ma (ls.getD (iM ls (nv r p) (os.map iV) i).1.toNat dZ) p)))) (Gh ?_);refine jx rfl rfl rfl (fun hg=>bM (fa (aF hg rfl) (fa (aF hg rfl) (fa (aF hg rfl) iZ))) T6) (av ?_);refine Gb ?_ ?_<;>intro h3
  ·
   have bB:(iM ls (nv r p) (os.map iV) (i+1))=((i:Int),true):=by
    rw[iM,AO,Mc,if_pos ⟨h2,h3⟩]
   refine Gi ?_;refine aZ ?_;refine Gi ?_;exact bw (x:=(i)) (i+1) oF oF (Sub.cons rfl (Sub.cons (look_eq rfl (by rw[bB])) (Sub.cons (look_eq rfl (by rw[bB])) sb))) (fun w hw=>ah.mem hw)
  have bB:(iM ls (nv r p) (os.map iV) (i+1))=(iM ls (nv r p) (os.map iV) i):=by
   rw[iM,AO,Mc,if_neg];rintro⟨_,g⟩;rcases g with g|g
   ·
    exact absurd (h3.1.symm.trans g) (by simp)
   exact absurd (h3.2.symm.trans g) (by simp)
  refine al ?_;refine Gi ?_;exact bw (x:=(i)) (i+1) oF oF (Sub.cons rfl (Sub.cons (look_eq rfl (by rw[bB])) (Sub.cons (look_eq rfl (by rw[bB])) sb))) (fun w hw=>ah.mem hw)
 obtain rfl:i=ls.length:=by omega
 refine aZ ?_;refine Gr fun w1 hw=>?_;exact⟨by rw[hE],ah.mem hw⟩⟩
instance aqN{l:Sv}{ls:List az}{p:Int}[hl:dy w0 L bL 4 l ls]:bU Tryz.prog 313 w0 L [l.val, .int .i64 p] (.tuple #[.int .i64 ((fD ls p).1), .bool ((fD ls p).2)]) (True):=⟨fun aA w hw=>by
 have hl:=hl.h w hw;have qx:Gv w l bL 4 ls:=⟨hl⟩;refine dz Tryz.func313 rfl Tryz.ntmps313 rfl ?_;refine aZ ?_;refine om (enc:=uM) (vals:=[.func (.func 336) #[] #[], .func (.func 334) #[] #[]]) [336,334] rfl rfl rfl (by decide) (by decide) fun b8=>?_;refine cO (bM rfl (by decide)) (ag (aE rfl rfl) (ag (aE rfl rfl) (al ?_)));refine Gr fun w1 hw=>?_;exact⟨rfl,ah.mem hw⟩⟩
instance aqO{l:Sv}{ls:List az}{p:Int}[hl:dy w0 L bL 4 l ls]:bU Tryz.prog 310 w0 L [l.val, .int .i64 p] (.tuple #[.int .i64 ((fG ls p).1), .bool ((fG ls p).2)]) (True):=⟨fun aA w hw=>by
 have hl:=hl.h w hw;have qx:Gv w l bL 4 ls:=⟨hl⟩;refine dz Tryz.func310 rfl Tryz.ntmps310 rfl ?_;refine aZ ?_;refine om (enc:=uM) (vals:=[.func (.func 334) #[] #[]]) [334] rfl rfl rfl (by decide) (by decide) fun b8=>?_;refine cO (bM rfl (by decide)) (ag (aE rfl rfl) (ag (aE rfl rfl) (al ?_)));refine Gr fun w1 hw=>?_;exact⟨rfl,ah.mem hw⟩⟩
instance aqP{l:Sv}{ls:List az}{p:Int}[hl:dy w0 L bL 4 l ls]:bU Tryz.prog 327 w0 L [l.val, .int .i64 p] (.tuple #[.int .i64 ((vR ls p).1), .bool ((vR ls p).2)]) (True):=⟨fun aA w hw=>by
 have hl:=hl.h w hw;have qx:Gv w l bL 4 ls:=⟨hl⟩;refine dz Tryz.func327 rfl Tryz.ntmps327 rfl ?_;refine aZ ?_;refine om (enc:=uM) (vals:=[.func (.func 341) #[] #[], .func (.func 342) #[] #[], .func (.func 334) #[] #[]]) [341,342,334] rfl rfl rfl (by decide) (by decide) fun b8=>?_;refine cO (bM rfl (by decide)) (ag (aE rfl rfl) (ag (aE rfl rfl) (al ?_)));refine Gr fun w1 hw=>?_;exact⟨rfl,ah.mem hw⟩⟩
instance aqQ{l:Sv}{ls:List az}{p:Int}[hl:dy w0 L bL 4 l ls]:bU Tryz.prog 330 w0 L [l.val, .int .i64 p] (.int .i64 (GJ ls p)) (True):=⟨fun aA w hw=>by
 have hl:=hl.h w hw;have qx:Gv w l bL 4 ls:=⟨hl⟩;refine dz Tryz.func330 rfl Tryz.ntmps330 rfl ?_;refine fI ?_;refine Gb ?_ ?_<;>intro h0
 ·
  have hE:GJ ls p=0:=if_neg (by rw[h0];simp);refine al ?_;refine Gr fun w1 hw=>?_;exact Gf (by rw[hE]) hw
 have hE:GJ ls p=fL (ls.map (oH p)):=if_pos h0;obtain⟨k1,k2,k3,k4,k5⟩:=s8.1 h0;refine di ?_;refine ck (X:=Nat) (fun U=>[(15, .int .i64 (U:Nat)),(5, .int .i64 (fL ((ls.take U).map (oH p)))),(1, .int .i64 p),(13,l.val),(14, .int .i64 (ls.length:Nat))]) (fun U=>[]) (fun U=>U<=ls.length) (fun U=>ls.length -U) 0 (atL _) sb (fun w hw=>ah.mem hw) ?_;rintro i bl;refine al ?_;refine Gb ?_ ?_<;>intro h1
 ·
  obtain⟨x,hx⟩:=get_some (xs:=ls) (i:=i) oM;have xA:=rP.1 (k5 x (alM hx));have fy:(fL ((ls.take (i+1)).map (oH p)))=(fL ((ls.take i).map (oH p)))+oH p x:=by rw[atr,hx,atS,RP];simp[fL]
  have hsb:=RR p (ls.take i) (fun x hx=>k5 x (avk hx)) oM;have qj:(ls.take i).length<=32:=by rw[atq];omega
  have iu:((ls.take i).length:Int)*p<=512:=room_le qj oM oM;refine Gc ?_;refine ag (bh rfl rfl i rfl oM) (ag (iJ rfl i hx rfl) (bt fun b7=>ar ?_));refine ag (cV (v:= .agg (fJ ⟨x,p⟩)) rfl (Ma x p)) (bt fun b8=>aZ ?_);refine Gb ?_ ?_<;>intro h2
  ·
   have hr:oH p x=p:=if_pos h2;refine Gi ?_;refine di ?_;refine Gi ?_;exact bw (x:=(i)) (i+1) oF oF (Sub.cons rfl (Sub.cons (look_eq rfl (by rw[fy,hr])) sb)) (fun w hw=>ah.mem hw)
  refine aQ ?_;refine Gb ?_ ?_<;>intro h3
  ·
   have hr:oH p x=p -x.used:=by rw[oH,if_neg (by rw[h2];simp),if_pos h3]
   refine Gi ?_;refine ar ?_;refine ag (Ry.to (v':= .int .i64 x.used) (bI rfl) rfl) (aZ ?_);refine Gi ?_;exact bw (x:=(i)) (i+1) oF oF (Sub.cons rfl (Sub.cons (look_eq rfl (by rw[fy,hr])) sb)) (fun w hw=>ah.mem hw)
  have hr:oH p x=0:=by rw[oH,if_neg (by rw[h2];simp),if_neg (by rw[h3];simp)]
  refine al ?_;refine Gi ?_;exact bw (x:=(i)) (i+1) oF oF (Sub.cons rfl (Sub.cons (look_eq rfl (by rw[fy,hr,Int.add_zero])) sb)) (fun w hw=>ah.mem hw)
 obtain rfl:i=ls.length:=by omega
 refine ar ?_;refine Gr fun w1 hw=>?_;exact⟨congrArg (fun b=>Ending.returned (Value.int .i64 b)) (by rw[hE,atP]),ah.mem hw⟩⟩
instance aqR{n:Nat}:bV Tryz.prog 302 w0 L [.slice none 0 0, .int .i64 (n:Nat)] (Sv) (fun U=>U.val) (fun U=>own (cq (τ:=UInt8)) 1 U ([]:List (Sl UInt8))::L) (fun U=>True) (n<=1000000000):=⟨fun aA w hw=>Gk (fun U=>[own (cq (τ:=UInt8)) 1 U ([]:List (Sl UInt8))]) hw (by
 refine dz Tryz.func302 rfl Tryz.ntmps302 rfl ?_;refine aZ ?_;refine Gb ?_ ?_<;>intro h0
 ·
  exfalso;omega
 refine al ?_;refine ag (F9 rfl) (Gs ?_);refine ag (yr rfl) (di ?_);refine Gb ?_ ?_<;>intro h1
 ·
  refine Gi ?_;refine av ?_;refine ag (F9 rfl) (ag (Ry.to (v':= .slice none 0 0) (wQ (s:=Sv.none) (h:=0) rfl rfl rfl Sv.Cc (att _)) rfl) (Gs ?_));refine QT (enc:=(cq (τ:=UInt8))) (k:=n) (⟨Sv.none,[]⟩:Sl UInt8) rfl rfl oM oM (by decide) rfl Tryz.underlying3 oM oM fun DC DD LW=>Gs ?_;refine ag (yr rfl) (ag (wQ (s:=⟨false,DC,0,n,DD,none⟩) (h:=0) rfl rfl rfl ⟨(fun h=>by cases h),LW,by simp only;omega,fun _=>rfl⟩ (atL _)) (aQ ?_));refine Gr fun w1 hw=>?_;refine⟨Sv.sub ⟨false,DC,0,n,DD,none⟩ 1 0 0,rfl,trivial,?_⟩;have fx:=Mem.QS (i:=0) (k:=0) hw rfl (atL _);rw[atW]at fx;exact fx
 have hn:n=0:=by omega
 refine ar ?_;refine Gr fun w1 hw=>?_;exact⟨Sv.none,rfl,trivial,(ah.mem hw:Mem w [] _).dK (cq (τ:=UInt8)) 1⟩)⟩
instance T8{a:Sl (Sl (Sl UInt8))}[ha:aX w0 L a]:bV Tryz.prog 258 w0 L [a.sv.val] (Sv) (fun U=>U.val) (fun U=>own (cq (τ:=UInt8)) 1 U (fK a.xs)::L) (fun U=>True) ((fK a.xs).length<=1000000):=⟨fun aA w hw=>Gk (fun U=>[own (cq (τ:=UInt8)) 1 U (fK a.xs)]) hw (by
 have ha:=ha.h w hw;have LX:cQ w a:=⟨ha⟩;have EC:=ha.1.bd;have eQ:=acW a.xs;refine ct Tryz.func258 rfl Tryz.ntmps258 rfl ?_;refine ja ?_;refine ck (X:=Nat) (fun U=>[(11, .int .i64 (U:Nat)),(3, .int .i64 ((fK (a.xs.take U)).length:Nat)),(0,a.sv.val),(9,a.sv.val),(10, .int .i64 (a.xs.length:Nat))]) (fun U=>[]) (fun U=>U<=a.xs.length) (fun U=>a.xs.length -U) 0 (atL _) sb (fun w hw=>ah.mem hw) ?_;rintro i hi;have Ar:=eQ i;have my:=eQ (i+1);refine al ?_;refine Gb ?_ ?_<;>intro h0
 ·
  refine mB ?_;obtain⟨x,hx⟩:=get_some (xs:=a.xs) (i:=i) oM;refine ag (bh rfl rfl i rfl oM) (ag (bT (j:=0) rfl i hx rfl (by decide)) ?_);have hfx:(fK (a.xs.take (i+1))).length=(fK (a.xs.take i)).length+x.xs.length:=by rw[GI hx,adr]
  have Hm:Mb x _:=⟨List.mem_of_getElem? hx⟩;refine qo ?_;refine Gb ?_ ?_<;>intro h1
  ·
   exfalso;omega
  refine al ?_;refine Gi ?_;exact bw (x:=(i)) (i+1) oF oF (Sub.cons rfl (Sub.cons (look_eq rfl (by rw[GI hx,adr];simp)) sb)) (fun w hw=>ah.mem hw)
 obtain rfl:i=a.xs.length:=by omega
 have mZ:=eQ a.xs.length;refine av ?_;refine bb rfl oM fun xU LY=>aZ ?_;refine ck (X:=Nat×Sv) (fun U=>[(27, .int .i64 (U.1:Nat)),(6,U.2.val),(25,a.sv.val),(26, .int .i64 (a.xs.length:Nat))]) (fun U=>[own (cq (τ:=UInt8)) 1 U.2 (fK (a.xs.take U.1))]) (fun U=>U.1<=a.xs.length) (fun U=>a.xs.length -U.1) (0,xU) (Nat.zero_le _) sb (fun w hw=>(ah.mem hw:Mem _ [own (cq (τ:=UInt8)) 1 xU ([]:List (Sl UInt8))] _)) ?_;rintro⟨k,s1⟩ hk;dsimp only;simp only at hk;have Ar:=eQ k;have my:=eQ (k+1);refine al ?_;refine Gb ?_ ?_<;>intro h2
 ·
  refine mB ?_;obtain⟨y,hy⟩:=get_some (xs:=a.xs) (i:=k) oM;refine ag (bh rfl rfl k rfl oM) (ag (bT (j:=0) rfl k hy rfl (by decide)) ?_);have hfy:(fK (a.xs.take (k+1))).length=(fK (a.xs.take k)).length+y.xs.length:=by rw[GI hy,adr]
  have TV:Mb y _:=⟨List.mem_of_getElem? hy⟩;refine ar ?_;refine nf (s:=s1) (enc:=(cq (τ:=UInt8))) (ys:=y.xs) rfl rfl (by decide) (fun w hw=>jy (s:=y.sv) Tryz.underlying178 (by decide) ((inferInstance:dy _ _ (cq (τ:=UInt8)) 1 y.sv y.xs).h w hw)) oM oM fun Bi TW TX=>?_;refine ar ?_;refine Gi ?_;exact bw (x:=(k,s1)) (k+1,Bi) (by simp only;omega) (by simp only;omega) sb (fun w hw=>by rw[GI hy];exact ah.mem hw)
 obtain rfl:k=a.xs.length:=by omega
 refine ar ?_;refine Gr fun w1 hw=>?_;exact⟨s1,rfl,trivial,by rw[atP]at hw;exact ah.mem hw⟩)⟩
instance aqS{x:Sv}{xs:List Int}{y:Sv}{ys:List Int}[hx:dy w0 L cf 1 x xs][hy:dy w0 L cf 1 y ys]:bU Tryz.prog 167 w0 L [x.val,y.val] (.bool (decide (xs=ys))) (True):=⟨fun aA w hw=>by
 have hx:=hx.h w hw;have hy:=hy.h w hw;have zr:Gv w x cf 1 xs:=⟨hx⟩;have T9:Gv w y cf 1 ys:=⟨hy⟩;have hbx:=hx.bd;refine dz Tryz.func167 rfl Tryz.ntmps167 rfl ?_;refine ja ?_;refine Gb ?_ ?_<;>intro h0
 ·
  have hz:decide (xs=ys)=false:=decide_eq_false fun e=>h0 (by rw[e]);refine al ?_;refine Gr fun w1 hw=>?_;exact Ge (hz.symm) hw
 have nh:xs.length=ys.length:=by omega
 refine aQ ?_;refine ck (X:=Nat) (fun U=>[(13, .int .i64 (U:Nat)),(0,x.val),(1,y.val),(12, .int .i64 (xs.length:Nat))]) (fun U=>[]) (fun U=>U<=xs.length/\ ∀j,j<U->xs[j]? =ys[j]?) (fun U=>xs.length -U) 0 ⟨Nat.zero_le _,fun j hj=>by first|omega|(simp only[];omega)⟩ sb (fun w hw=>ah.mem hw) ?_;rintro i ⟨bl,aL⟩;refine al ?_;refine Gb ?_ ?_<;>intro h1
 ·
  obtain⟨p,k9⟩:=get_some (xs:=xs) (i:=i) oM;obtain⟨q,wh⟩:=get_some (xs:=ys) (i:=i) oM;refine ar ?_;refine kf oK oK (av ?_);refine cr (bh rfl rfl i rfl oM) (cr (bT (j:=0) rfl i k9 rfl (by decide)) (av ?_));refine cr (bh rfl rfl i rfl oM) (cr (bT (j:=0) rfl i wh rfl (by decide)) (av ?_));refine Gb ?_ ?_<;>intro h2
  ·
   have hz:decide (xs=ys)=false:=decide_eq_false fun e=>h2 (by rw[e]at k9;rw[k9]at wh;cases wh;rfl);refine al ?_;refine Gr fun w1 hw=>?_;exact Ge (hz.symm) hw
  refine al ?_;refine Gi ?_;exact bw (x:=(i)) (i+1) ⟨oF,fun j hj=>if e:j=i then(by subst e;rw[k9,wh,h2])else aL j oF⟩ oF sb (fun w hw=>ah.mem hw)
 obtain rfl:i=xs.length:=by omega
 have hz:decide (xs=ys)=true:=decide_eq_true (auz fun j=>by
  rcases atA j xs.length with hj|hj
  ·
   exact aL j hj
  rw[atB hj,atB oM])
 refine al ?_;refine Gr fun w1 hw=>?_;exact⟨congrArg (fun b=>Ending.returned (Value.bool b)) (hz.symm),ah.mem hw⟩⟩
theorem afx(g:UInt64)(w:World):(Instr.build 314 #[(0, .int .u64 (g.toNat:Int))]).run Tryz.prog w= .ok (.agg (eR ⟨g,⟨Sv.none,[]⟩⟩)) w:=by
 unfold eR;kernel_rfl
instance aqT{b:Sv}{bs:List UInt8}[hb:dy w0 L aO 1 b bs]:bV Tryz.prog 297 w0 L [b.val] (dH) (fun U=> .tuple #[.agg (eR U), .int .i64 ((bF bs).2)]) (fun U=>own cf 1 U.at_.sv U.at_.xs::L) (fun U=>dL U=(bF bs).1) (True):=⟨fun aA w hw=>Gk (fun U:dH=>[own cf 1 U.at_.sv U.at_.xs]) hw (by
 have hb:=hb.h w hw;have zq:Gv w b aO 1 bs:=⟨hb⟩;refine ct Tryz.func297 rfl Tryz.ntmps297 rfl ?_;refine Gc ?_;refine bt fun b2=>al ?_;refine bb rfl trivial fun cZ r9=>?_;have Ua:cZ.kind=(cM bs).1.kind:=congrArg PV.kind r9;have Md:cZ.id=(cM bs).1.id:=congrArg PV.id r9;have qF:cZ.gen.toNat=(cM bs).1.gen:=congrArg PV.gen r9;have vX:cZ.body.xs=(cM bs).1.body:=congrArg PV.body r9;have dM:=KJ bs;rw[←vX]at dM;refine Gs ?_;refine ag (aE (v:= .agg (dj cZ)) rfl rfl) (ag (aE (v:= .int .i64 ((cM bs).2)) rfl rfl) (bt fun b4=>aZ ?_));refine Gb ?_ ?_<;>intro h0
 ·
  have hE:bF bs=(iq,(cM bs).2):=by rw[bF,if_pos h0]
  refine Gc ?_;refine ag (cV (v:= .agg (eR mG)) rfl (fun w=>by kernel_rfl)) (ar ?_);refine Gr fun w1 hw=>?_;exact⟨mG,by rw[hE],by rw[hE];rfl,Mem.dK cf 1 (ah.mem hw:Mem w [] _)⟩
 refine aQ ?_;refine Gb ?_ ?_<;>intro h1
 ·
  have hE:bF bs=(iq,6):=by rw[bF,if_neg oM,if_pos oM]
  refine Gc ?_;refine ag (cV (v:= .agg (eR mG)) rfl (fun w=>by kernel_rfl)) (al ?_);refine Gr fun w1 hw=>?_;exact⟨mG,by rw[hE],by rw[hE];rfl,Mem.dK cf 1 (ah.mem hw:Mem w [] _)⟩
 refine ar ?_;refine ag (n9 rfl rfl oM oM) (ja ?_);refine bJ rfl rfl rfl (fun hg=>(Ry.yl (wU (p:=cZ.body.xs.length) (q:=2) (aF hg rfl) rfl rfl rfl (by simp only[Z0,Z1,Z2,Z3,Z4,Z5,Z6,Z7,Z8,Z9]at hg;omega)))) (aZ ?_);refine bJ rfl rfl rfl (fun hg=>(Ry.yl (zT (aF hg rfl) rfl (by simp only[Z0,Z1,Z2,Z3,Z4,Z5,Z6,Z7,Z8,Z9]at hg;omega)))) (bJ rfl rfl rfl (fun hg=>(Ry.yl (yw rfl (aF hg rfl)))) (al ?_));refine Gb ?_ ?_<;>intro h2
 ·
  have lC:vP (cM bs).1=false:=by
   cases hk:vP (cM bs).1 with
   |false=>rfl
   |true=>
    simp only[vP,ad2,decide_eq_true_eq,←Ua,←Md,←vX]at hk;omega
  have hE:bF bs=(iq,2):=by rw[bF,if_neg oM,if_neg oM,if_pos lC]
  refine Gc ?_;refine ag (cV (v:= .agg (eR mG)) rfl (fun w=>by kernel_rfl)) (al ?_);refine Gr fun w1 hw=>?_;exact⟨mG,by rw[hE],by rw[hE];rfl,Mem.dK cf 1 (ah.mem hw:Mem w [] _)⟩
 have lC:vP (cM bs).1=true:=by
  simp only[vP,ad2,decide_eq_true_eq,←Ua,←Md,←vX];omega
 have hE:bF bs=(⟨cZ.gen.toNat,qt cZ.body.xs⟩,0):=by rw[bF,if_neg oM,if_neg oM,if_neg (by rw[lC];simp),qF,vX]
 have xW:=GG cZ.body.xs;refine al ?_;refine ag (cV (v:= .agg (eR ⟨cZ.gen,⟨Sv.none,[]⟩⟩)) rfl (afx cZ.gen)) (bt fun b7=>aQ ?_);refine ck (X:=Nat×Sv) (fun U=>[(49, .int .i64 (U.1:Nat)),(7, .pointer (some ⟨b7,0,none⟩)),(2, .pointer (some ⟨b2,0,none⟩)),(4, .pointer (some ⟨b4,0,none⟩)),(48, .int .i64 ((cZ.body.xs.length/2):Nat))]) (fun U=>[aq b7 (eR ⟨cZ.gen,⟨U.2,(qt cZ.body.xs).take U.1⟩⟩) 314,own cf 1 U.2 ((qt cZ.body.xs).take U.1),aq b4 (dj cZ) 324,own aO 1 cZ.body.sv cZ.body.xs,aq b2 (eR mG) 314]) (fun U=>U.1<=cZ.body.xs.length/2) (fun U=>cZ.body.xs.length/2 -U.1) (0,Sv.none) (atL _) sb (fun w hw=>by
  simp only[atW];exact ah.mem (Mem.dK cf 1 hw)) ?_
 rintro⟨i,s1⟩ bl;dsimp only;simp only at bl;refine al ?_;refine Gb ?_ ?_<;>intro h3
 ·
  have fy:=acT (b:=cZ.body.xs) (i:=i) oM;refine ar ?_;refine qn [19,20,22,1001,2019] [[],[],[],[],[],[],[],[],[],[],[],[],[],[],[],[],[],[],[],[],[1,19],[1,19,20],[1,19,20]] [0,1,2,3,4,5,6,7,8,9,10,11,12,13,14,15,16,17,18,19,20,21,22] [aq b4 (dj cZ) 324,own aO 1 cZ.body.sv cZ.body.xs] [(19,qm cf 1 1 [(rN cZ.body.xs i)])] oK (fun _ hw=>ah.mem hw) oK oK (an rfl (aN (o':=1) rfl rfl) (gE rfl (bI rfl) (an rfl (aN (o':=3) rfl rfl) (an rfl (bI rfl) (an rfl (bo rfl) (an rfl (vl rfl rfl oM) (an rfl (bh rfl rfl (2*i) rfl oM) (an rfl (bT (j:=0) rfl (2*i) (po (xs:=cZ.body.xs) (i:=2*i) (d:=0) oM) rfl (by decide)) (an rfl (wV rfl) (an rfl (OJ rfl rfl) (an rfl (aN (o':=3) rfl rfl) (an rfl (bI rfl) ?_))))))))))));refine an rfl (bo rfl) (an rfl (vl rfl rfl oM) (an rfl (yt rfl rfl oM) (an rfl (bh rfl rfl (2*i+1) rfl oM) (an rfl (bT (j:=0) rfl (2*i+1) (po (xs:=cZ.body.xs) (i:=2*i+1) (d:=0) oM) rfl (by decide)) (an rfl (wV rfl) (an rfl (OK rfl rfl) (pw (m:=qm cf 1 1 [(rN cZ.body.xs i)]) rfl rfl (As (enc:=cf) (c:=1) (n:=1) (vals:=[.int .i64 (rN cZ.body.xs i)]) [(rN cZ.body.xs i)] rfl rfl rfl (by decide) (by decide)) (Cert.none rfl) fun Hp=>?_)))))));change Ln _ _ _ _ _ _ _ _ (cy _ _ (Sv.val ⟨false,Hp,0,1,1,none⟩)) (own cf 1 ⟨false,Hp,0,1,1,none⟩ [(rN cZ.body.xs i)]::_) _;refine dr rfl (FO (s:=s1) (ys:=[(rN cZ.body.xs i)]) rfl rfl (by decide) (fun w hw=>jy (s:=⟨false,Hp,0,1,1,none⟩) Tryz.underlying60 (by decide) ((inferInstance:Hd _ _ ⟨false,Hp,0,1,1,none⟩ cf 1 [(rN cZ.body.xs i)]).h w hw)) (by simp only[atq,af0,anc];omega) (by simp only[atq,af0,anc];omega) fun Ub aqU aqV=>⟨fun _ hw=>ah.mem hw,?_⟩);refine an rfl (aN (o':=1) rfl rfl) ?_;refine dr rfl (uj (cs':=eR (⟨cZ.gen,⟨Ub,(((qt cZ.body.xs).take i)++[(rN cZ.body.xs i)])⟩⟩:dH)) rfl rfl (by show 1<2;decide) (by first|rfl|exact Sv.one _) rfl ⟨fun _ hw=>ah.mem hw,?_⟩);refine al ?_;refine Gi ?_;exact bw (x:=(i,s1)) (i+1,Ub) (by simp only;omega) (by simp only;omega) sb (fun w hw=>by
   simp only[fy];exact ah.mem hw)
 obtain rfl:i=cZ.body.xs.length/2:=by omega
 rw[atC oM]at*;refine aQ ?_;refine Gr fun w1 hw=>?_;exact⟨⟨cZ.gen,⟨s1,qt cZ.body.xs⟩⟩,by rw[hE],by rw[hE];rfl,ah.mem hw⟩)⟩
instance Uc{l:Sl (Sl UInt8)}[hl:aX w0 L l]:bV Tryz.prog 257 w0 L [l.sv.val] (dH) (fun U=> .tuple #[.int .i64 ((fT (aP l.xs)).1), .agg (eR U), .int .i64 ((fT (aP l.xs)).2.2)]) (fun U=>own cf 1 U.at_.sv U.at_.xs::L) (fun U=>dL U=(fT (aP l.xs)).2.1) (True):=⟨fun aA w hw=>Gk (fun U:dH=>[own cf 1 U.at_.sv U.at_.xs]) hw (by
 have hl:=hl.h w hw;have qx:cQ w l:=⟨hl⟩;have kg:=hl.1.bd;have je:=pC l.xs;refine ct Tryz.func257 rfl Tryz.ntmps257 rfl ?_;refine av ?_;refine bt fun b3=>av ?_;refine ag (cV (v:= .agg (eR mG)) rfl (fun w=>by kernel_rfl)) (bt fun b6=>ja ?_);refine ck (X:=Nat×dH) (fun U=>[(16, .int .i64 (U.1:Nat)),(5, .int .i64 ((dF (aP l.xs) U.1).at_)),(6, .pointer (some ⟨b6,0,none⟩)),(7, .bool ((dF (aP l.xs) U.1).found)),(8, .bool ((dF (aP l.xs) U.1).blank)),(3, .pointer (some ⟨b3,0,none⟩)),(14,l.sv.val),(15, .int .i64 (l.xs.length:Nat))]) (fun U=>[aq b6 (eR U.2) 314,own cf 1 U.2.at_.sv U.2.at_.xs,aq b3 (eR mG) 314]) (fun U=>U.1<=l.xs.length/\dL U.2=(dF (aP l.xs) U.1).new) (fun U=>l.xs.length -U.1) (0,mG) ⟨Nat.zero_le _,rfl⟩ sb (fun w hw=>by
  have h9:Mem _ [aq b6 (eR mG) 314,own cf 1 Sv.none [],aq b3 (eR mG) 314] _:=ah.mem (Mem.dK cf 1 hw);exact h9) ?_
 rintro⟨i,d⟩ ⟨bl,aL⟩;dsimp only;simp only at bl aL;refine al ?_;refine Gb ?_ ?_<;>intro h0
 ·
  obtain⟨y,hy⟩:=get_some (xs:=l.xs) (i:=i) oM;have L6:Mb y l:=⟨List.mem_of_getElem? hy⟩;have Ud:=q9 hy;have Ue:d.gen.toNat=(dF (aP l.xs) i).new.gen:=congrArg RV.gen aL;refine av ?_;refine ag (bh rfl rfl i rfl oM) (ag (bT (j:=0) rfl i hy rfl (by decide)) (aZ ?_));refine jw rfl rfl rfl (fun hg=>bM (fa (aF hg rfl) iZ) trivial) (ar ?_);refine bb rfl trivial fun dR oV=>?_;have Uf:dR.gen.toNat=(bF y.xs).1.gen:=congrArg RV.gen oV;refine Gs ?_;refine ag (aE (v:= .agg (eR dR)) rfl rfl) (ag (aE (v:= .int .i64 ((bF y.xs).2)) rfl rfl) (bt fun qG=>di ?_));refine jw rfl rfl rfl (fun hg=>(Ry.yl (nC (aF hg rfl)))) (jw rfl rfl rfl (fun hg=>(Ry.yl (bo (aF hg rfl)))) (vo rfl rfl rfl (fun hg=>(Ry.yl (aN (o':=0) rfl rfl))) (vo rfl rfl rfl (fun hg=>(Ry.yl (bI (aF hg rfl)))) (vo rfl rfl rfl (fun hg=>(Ry.yl (aN (o':=0) rfl rfl))) (vo rfl rfl rfl (fun hg=>(Ry.yl (bI (aF hg rfl)))) (vo rfl rfl rfl (fun hg=>(Ry.yl (fE (aF hg rfl) (aF hg rfl) rfl))) (jw rfl rfl rfl (fun hg=>(Ry.yl (zO (aF hg rfl) rfl (yy hg rfl)))) (av ?_))))))));refine Gb ?_ ?_<;>intro h1
  ·
   have hq:(bF y.xs).2=0/\((dF (aP l.xs) i).found=false\/(dF (aP l.xs) i).new.gen<=(bF y.xs).1.gen):=⟨h1.1,h1.2.imp (fun h=>h) (fun h=>by rw[←Ue,←Uf];omega)⟩;have wi:=Rz Ud hq;refine ji [3] [[],[],[],[],[3]] [0,1,2,3,4] [aq qG (eR dR) 314] (fun _ hw=>ah.mem hw) oK oK (an rfl (bo rfl) (an rfl (kC rfl) (an rfl (gS rfl) (dr rfl (ql rfl rfl ⟨fun _ hw=>ah.mem hw,?_⟩)))));refine an rfl (gS rfl) (al ?_);refine Gi ?_;exact bw (x:=(i,d)) (i+1,dR) ⟨oF,by rw[wi];exact oV⟩ (by simp only;omega) (Sub.cons rfl (Sub.cons (look_eq rfl (by simp only[wi])) (Sub.cons rfl (Sub.cons (look_eq rfl (by simp only[wi])) (Sub.cons (look_eq rfl (by simp only[wi])) sb))))) (fun w hw=>ah.mem hw)
  have hq: ¬((bF y.xs).2=0/\((dF (aP l.xs) i).found=false\/(dF (aP l.xs) i).new.gen<=(bF y.xs).1.gen)):=fun hq=>by
   rw[←Ue,←Uf]at hq;rcases h1 with h|h
   ·
    exact h hq.1
   rcases hq.2 with g|g
   ·
    exact absurd (h.1.symm.trans g) (by simp)
   omega
  have wi:=RA Ud hq;refine al ?_;refine Gi ?_;exact bw (x:=(i,d)) (i+1,d) ⟨oF,by rw[wi];exact aL⟩ (by simp only;omega) (Sub.cons rfl (Sub.cons (look_eq rfl (by simp only[wi])) (Sub.cons rfl (Sub.cons (look_eq rfl (by simp only[wi])) (Sub.cons (look_eq rfl (by simp only[wi])) sb))))) (fun w hw=>ah.mem hw)
 obtain rfl:i=l.xs.length:=by omega
 rw[←je]at aL;refine ar ?_;refine Gb ?_ ?_<;>intro h2
 ·
  have hE:fT (aP l.xs)=((dF (aP l.xs) (aP l.xs).length).at_,(dF (aP l.xs) (aP l.xs).length).new,0):=by rw[fT,if_pos (by rw[je];exact h2)]
  refine Gi ?_;refine ji [3] [[],[],[],[],[3]] [0,1,2,3,4] [aq b6 (eR d) 314] (fun _ hw=>ah.mem hw) oK oK (an rfl (bo rfl) (an rfl (kC rfl) (an rfl (gS rfl) (dr rfl (ql rfl rfl ⟨fun _ hw=>ah.mem hw,?_⟩)))));refine an rfl (gS rfl) (Gc ?_);refine Gr fun w1 hw=>?_;exact⟨d,by rw[hE,je],by rw[hE];exact aL,ah.mem hw⟩
 refine ar ?_;refine Gb ?_ ?_<;>intro h3
 ·
  have hE:fT (aP l.xs)=(0,iq,6):=by rw[fT,if_neg (by rw[je,h2];simp),if_pos (by rw[je];exact h3)]
  refine Gc ?_;refine ag (cV (v:= .agg (eR mG)) rfl (fun w=>by kernel_rfl)) (ar ?_);refine Gr fun w1 hw=>?_;exact⟨mG,by rw[hE],by rw[hE];rfl,Mem.dK cf 1 (ah.mem hw:Mem w [] _)⟩
 have hE:fT (aP l.xs)=(0,iq,2):=by rw[fT,if_neg (by rw[je,h2];simp),if_neg (by rw[je,h3];simp)]
 refine Gc ?_;refine ag (cV (v:= .agg (eR mG)) rfl (fun w=>by kernel_rfl)) (ar ?_);refine Gr fun w1 hw=>?_;exact⟨mG,by rw[hE],by rw[hE];rfl,Mem.dK cf 1 (ah.mem hw:Mem w [] _)⟩)⟩
theorem afy(c:Cp)(s:Sl Int)(g:UInt64)(l:Int)(w:World):(Instr.build 63 #[(0, .agg (aV c)),(1,s.sv.val),(2, .int .u64 (g.toNat:Int)),(3, .int .i64 l)]).run Tryz.prog w= .ok (.agg (cD ⟨c,s,g,l⟩)) w:=by
 obtain⟨s,xs⟩:=s;obtain⟨a1,a2,⟨a3,a4⟩,a5,a6,⟨a7,a8⟩⟩:=c;unfold cD aV;obtain⟨e,b,o,l,c,p⟩:=s;obtain⟨e3,b3,o3,l3,c3,p3⟩:=a3;obtain⟨e7,b7,o7,l7,c7,p7⟩:=a7
 cases e<;>cases e3<;>cases e7<;>kernel_rfl
instance aqW{c:Cp}[hc:aX w0 L c]:bV Tryz.prog 221 w0 L [.agg (aV c)] (cA) (fun U=> .tuple #[.agg (cD U), .int .i64 ((bE (cv c)).2)]) (fun U=>own cf 1 U.at_.sv U.at_.xs::L) (fun U=>vv U=(bE (cv c)).1/\((bE (cv c)).2=0->U.ae=c)) (True):=⟨fun aA w hw=>Gk (fun U:cA=>[own cf 1 U.at_.sv U.at_.xs]) hw (by
 have hc:=hc.h w hw;have lJ:cQ w c:=⟨hc⟩;refine ct Tryz.func221 rfl Tryz.ntmps221 rfl ?_;refine Gc ?_;refine cm rfl fun b1=>bt fun b2=>aZ ?_;refine Gb ?_ ?_<;>intro h0
 ·
  have hE:bE (cv c)=(lY,1):=by rw[bE,if_pos h0]
  have cd:(1:Int)≠0:=by decide
  refine Gc ?_;refine ag (cV (v:= .agg (cD mH)) rfl (fun w=>by kernel_rfl)) (al ?_);refine Gr fun w1 hw=>?_;exact⟨mH,by rw[hE],⟨by rw[hE];rfl,fun h=>absurd (by rw[hE]at h;exact h) cd⟩,Mem.dK cf 1 (ah.mem hw:Mem w [] _)⟩
 have nX:=fF.1 h0;have hk:=nX.1;have pP:(cv c).blocks.length=c.blocks.xs.length:=ie _;have iU:=mF.1 (eM.1 hk).1;obtain⟨B0,Bm⟩:=get_some (xs:=c.blocks.xs) (i:=0) oM;obtain⟨B1,uW⟩:=get_some (xs:=c.blocks.xs) (i:=1) oM;have afz:Mb B0 c.blocks:=⟨List.mem_of_getElem? Bm⟩;have afA:Mb B1 c.blocks:=⟨List.mem_of_getElem? uW⟩;have o0:=(fu.1 ((eM.1 hk).2.2.2.2 (bv B0) (alM (nP Bm)))).1;have o1:=(fu.1 ((eM.1 hk).2.2.2.2 (bv B1) (alM (nP uW)))).1;have Me:=pC B0.pages.xs;have zv:=pC B1.pages.xs;simp only[bv,cv]at o0 o1 iU;have hT:aP (fK [B0.pages,B1.pages])=(aj (cv c) 0).pages++(aj (cv c) 1).pages:=by
  rw[KL,show aj (cv c) 0=bv B0 from KM Bm,show aj (cv c) 1=bv B1 from KM uW];rfl
 have kO:=KK (l:=(aj (cv c) 0).pages++(aj (cv c) 1).pages) (by rw[←hT,KL,adr];omega);have je:((aj (cv c) 0).pages++(aj (cv c) 1).pages).length=B0.pages.xs.length+B1.pages.xs.length:=by rw[←hT,KL,adr];omega
 have vY:0<=(bW (cv c)).1:=kO.1;have zd:(bW (cv c)).1<c.pages+c.pages:=by have:=kO.2;rw[je]at this;change(bW (cv c)).1<_ at this;omega
 have gva:RE w (fK [B0.pages,B1.pages]):=⟨fun y hy=>by
  simp only[fK,atI,auv,auM,awn,auh,atu]at hy;rcases hy with hy|hy
  ·
   exact(hc.1.2 B0 afz.h).2 y hy
  exact(hc.1.2 B1 afA.h).2 y hy⟩
 have aqX:0<=((bW (cv c)).1/c.pages):=avs vY oM;have aqY:((bW (cv c)).1/c.pages)<2:=Int.ediv_lt_of_lt_mul oM oM;have bN:=RH ((aj (cv c) 0).pages++(aj (cv c) 1).pages);have L5:(c.blocks.xs.getD ((bW (cv c)).1/c.pages).toNat q8).used=(aj (cv c) ((bW (cv c)).1/c.pages)).used:=congrArg BV.used (yW (c:=c));refine ar ?_;refine Gb ?_ ?_<;>intro h1
 ·
  have hE:bE (cv c)=(lY,7):=by rw[bE,if_neg (by rw[h0];simp),if_pos (show(cv c).off=true from h1)]
  have cd:(7:Int)≠0:=by decide
  refine Gc ?_;refine ag (cV (v:= .agg (cD mH)) rfl (fun w=>by kernel_rfl)) (al ?_);refine Gr fun w1 hw=>?_;exact⟨mH,by rw[hE],⟨by rw[hE];rfl,fun h=>absurd (by rw[hE]at h;exact h) cd⟩,Mem.dK cf 1 (ah.mem hw:Mem w [] _)⟩
 have rE: ¬(cv c).off=true:=by rw[show(cv c).off=c.off from rfl,h1];simp
 refine Gc ?_;refine qn [10,11,12,17,19,2010,2017,4011,4012] [[],[],[],[],[],[],[],[],[],[],[],[10],[10,11],[10,11,12],[10,11,12],[10,11,12],[10,11,12],[],[10,11,12,17],[10,11,12,17],[10,11,12,17,19]] [0,1,2,3,4,5,6,7,8,9,10,11,12,13,14,15,16,17,18,19,20] [aq b1 (aV c) 59] [(10,qm (cq (τ:=Sl UInt8)) 1 2 [B0.pages,B1.pages]),(17,mz Tryz.prog 314)] oK (fun _ hw=>ah.mem hw) oK oK (an rfl (aN (o':=2) rfl rfl) (an rfl (bI rfl) (an rfl (bh rfl rfl 0 rfl oM) (an rfl (aN rfl rfl) (an rfl (bT (j:=0) rfl 0 Bm rfl (by decide)) (an rfl (aN (o':=2) rfl rfl) (an rfl (bI rfl) (an rfl (bh rfl rfl 1 rfl oM) (an rfl (aN rfl rfl) (an rfl (bT (j:=0) rfl 1 uW rfl (by decide)) (pw (m:=qm (cq (τ:=Sl UInt8)) 1 2 [B0.pages,B1.pages]) rfl rfl (As (enc:=(cq (τ:=Sl UInt8))) (c:=1) (n:=2) (vals:=[B0.pages.sv.val,B1.pages.sv.val]) [B0.pages,B1.pages] rfl (by simp only[atI,auv,Sv.jM];rfl) rfl (by decide) (by decide)) (Cert.one (i:=17) rfl rfl rfl mA (Cert.none rfl)) fun Hq=>?_)))))))))));change Ln _ _ _ _ _ _ _ _ (cy _ _ (Sv.val ⟨false,Hq,0,2,2,none⟩)) (own (cq (τ:=Sl UInt8)) 1 ⟨false,Hq,0,2,2,none⟩ [B0.pages,B1.pages]::_) _;refine vH (hc:=T8 (a:=(⟨⟨false,Hq,0,2,2,none⟩,[B0.pages,B1.pages]⟩:Sl (Sl (Sl UInt8))))) (JV:=fun e_=>T8 (a:=(⟨⟨false,Hq,0,2,2,none⟩,[B0.pages,B1.pages]⟩:Sl (Sl (Sl UInt8))))) rfl rfl (by simp only[fK,atI,auv,auM,awn,adr,anc];omega) (fun e x w hw=>ah.mem hw) (Cert.one (i:=17) rfl rfl rfl mA (Cert.none rfl)) fun sa uX=>⟨fun _ hw=>ah.mem hw,?_⟩;refine vH (hc:=Uc (l:=(⟨sa,(fK [B0.pages,B1.pages])⟩:Sl (Sl UInt8)))) (JV:=fun e_=>Uc (l:=(⟨sa,(fK [B0.pages,B1.pages])⟩:Sl (Sl UInt8)))) rfl rfl trivial (fun e x w hw=>ah.mem hw) (Cert.one (i:=17) rfl rfl rfl mA (Cert.none rfl)) fun dR oV=>⟨fun _ hw=>ah.mem hw,?_⟩;have gz:(fT (aP (fK [B0.pages,B1.pages]))).1=(bW (cv c)).1:=by rw[hT];rfl
 have Mf:(fT (aP (fK [B0.pages,B1.pages]))).2.2=(bW (cv c)).2.2:=by rw[hT];rfl
 have vZ:dL dR=(bW (cv c)).2.1:=by rw[oV,hT];rfl
 have pU:dR.gen.toNat=(bW (cv c)).2.1.gen:=congrArg RV.gen vZ;have AY:dR.at_.xs=(bW (cv c)).2.1.at_:=congrArg RV.at_ vZ;refine an rfl (bo rfl) (an rfl (aE (v:= .int .i64 ((fT (aP (fK [B0.pages,B1.pages]))).1)) rfl rfl) (an rfl (aE (v:= .agg (eR dR)) rfl rfl) (an rfl (aE (v:= .int .i64 ((fT (aP (fK [B0.pages,B1.pages]))).2.2)) rfl rfl) (pw (m:=mz Tryz.prog 314) rfl rfl mA (Cert.none rfl) fun b5=>?_))));change Ln _ _ _ _ _ _ _ _ (cy _ _ (.pointer (some ⟨b5,0,none⟩))) (aq b5 (eR mG) 314::_) _;refine an rfl (gS rfl) (dr rfl (ql rfl rfl ⟨fun _ hw=>ah.mem hw,?_⟩));refine an rfl (gS rfl) (ar ?_);refine Gb ?_ ?_<;>intro h2
 ·
  rw[Mf]at h2;have hE:bE (cv c)=(lY,(bW (cv c)).2.2):=by rw[bE,if_neg (by rw[h0];simp),if_neg rE,if_pos h2]
  have cd:=h2;refine Gc ?_;refine ag (cV (v:= .agg (cD mH)) rfl (fun w=>by kernel_rfl)) (ar ?_);refine Gr fun w1 hw=>?_;exact⟨mH,by rw[hE,Mf],⟨by rw[hE];rfl,fun h=>absurd (by rw[hE]at h;exact h) cd⟩,Mem.dK cf 1 (ah.mem hw:Mem w [] _)⟩
 rw[Mf]at h2;refine ar ?_;refine ag (n9 rfl rfl oM oM) (av ?_);refine kf oK oK (al ?_);refine cr (B7 rfl rfl oM oM) (al ?_);refine cr (bh rfl rfl (((fT (aP (fK [B0.pages,B1.pages]))).1/c.pages).toNat) (by rw[gz];omega) (by rw[gz];omega)) (cr (aN rfl rfl) (cr (bT (j:=1) rfl (((fT (aP (fK [B0.pages,B1.pages]))).1/c.pages).toNat) (po (xs:=c.blocks.xs) (i:=((fT (aP (fK [B0.pages,B1.pages]))).1/c.pages).toNat) (d:=q8) (by rw[gz];omega)) rfl (by decide)) (av ?_)));refine jx rfl rfl rfl (fun hg=>(Ry.yl (kC rfl))) (av ?_);refine jx rfl rfl rfl (fun hg=>bM (fa (aF hg rfl) (fa (aF hg rfl) iZ)) ⟨hk,fun x hx=>bN x (by rw[AY]at hx;exact hx)⟩) (jx rfl rfl rfl (fun hg=>(Ry.yl (nC (aF hg rfl)))) (av ?_));refine Gb ?_ ?_<;>intro h3
 ·
  have wY:nj (cv c)=false:=by
   rw[AY]at h3
   cases uU:nj (cv c)with
   |false=>rfl
   |true=>
    simp only[nj,ad2,decide_eq_true_eq]at uU;rw[uU.2]at h3;simp only[au9,or_false]at h3;have:=uU.1;rw[gz,L5]at h3;exact absurd this (by simp only[cv]at*;omega)
  have hE:bE (cv c)=(lY,2):=by rw[bE,if_neg (by rw[h0];simp),if_neg rE,if_neg oM,if_pos wY]
  have cd:(2:Int)≠0:=by decide
  refine Gc ?_;refine ag (cV (v:= .agg (cD mH)) rfl (fun w=>by kernel_rfl)) (al ?_);refine Gr fun w1 hw=>?_;exact⟨mH,by rw[hE],⟨by rw[hE];rfl,fun h=>absurd (by rw[hE]at h;exact h) cd⟩,Mem.dK cf 1 (ah.mem hw:Mem w [] _)⟩
 have wY:nj (cv c)=true:=by
  rw[AY,gz,L5]at h3;simp only[nj,ad2,decide_eq_true_eq];exact⟨by have:=h3.1;simp only[cv]at*;omega,h3.2⟩
 have hE:bE (cv c)=(⟨cv c,(bW (cv c)).2.1.at_,(bW (cv c)).2.1.gen,(bW (cv c)).1/c.pages⟩,0):=by rw[bE,if_neg (by rw[h0];simp),if_neg rE,if_neg oM,if_neg (by rw[wY];simp)];rfl
 refine di ?_;refine ag (cV (v:= .agg (cD ⟨c,dR.at_,dR.gen,((fT (aP (fK [B0.pages,B1.pages]))).1/c.pages)⟩)) rfl (afy c dR.at_ dR.gen ((fT (aP (fK [B0.pages,B1.pages]))).1/c.pages))) (al ?_);refine Gr fun w1 hw=>?_;exact⟨⟨c,dR.at_,dR.gen,(fT (aP (fK [B0.pages,B1.pages]))).1/c.pages⟩,by rw[hE],⟨by rw[hE];simp only[vv,AY,pU,gz],fun _=>rfl⟩,ah.mem hw⟩)⟩
instance aqZ{c:Cp}[hc:aX w0 L c]:bV Tryz.prog 180 w0 L [.agg (aV c)] (cA) (fun U=> .tuple #[.agg (cD U), .int .i64 ((bE (cv c)).2)]) (fun U=>fz U.ae::own cf 1 U.at_.sv U.at_.xs::L) (fun U=>vv U=(if(bE (cv c)).2=0 then(bE (cv c)).1 else lY)) (True):=⟨fun aA w hw=>Gk (fun U:cA=>[fz U.ae,own cf 1 U.at_.sv U.at_.xs]) hw (by
 have hc:=hc.h w hw;have lJ:cQ w c:=⟨hc⟩;refine ct Tryz.func180 rfl Tryz.ntmps180 rfl ?_;refine Gc ?_;refine cm rfl fun b1=>bt fun b2=>al ?_;refine bb rfl trivial fun x8 pS=>?_;obtain⟨Ug,Uh⟩:=pS;have hl8:=RJ (cv c);have ha8:x8.at_.xs=(bE (cv c)).1.at_:=congrArg VV.at_ Ug;rw[←ha8]at hl8;refine Gs ?_;refine ag (aE (v:= .agg (cD x8)) rfl rfl) (ag (aE (v:= .int .i64 ((bE (cv c)).2)) rfl rfl) (bt fun b4=>aZ ?_));refine Gb ?_ ?_<;>intro h0
 ·
  refine Gc ?_;refine ag (cV (v:= .agg (cD mH)) rfl (fun w=>by kernel_rfl)) (ar ?_);refine Gr fun w1 hw=>?_;exact⟨mH,rfl,by rw[if_neg h0];rfl,ac1 (Mem.dK cf 1 (ah.mem hw:Mem w [] _))⟩
 have oW:(bE (cv c)).2=0:=h0;have ec:RL x8.ae c:=⟨Uh oW⟩;have iu:gw x8.ae:=by rw[Uh oW];exact uw (fF.1 (KN oW)).1
 refine kD ?_;refine tZ [Deep.cz x8.at_,aq b4 (cD x8) 63,aq b2 (cD mH) 63,aq b1 (aV c) 59] (fun w hw=>ah.mem (Mem.QW (ah.mem hw:Mem _ [own cf 1 x8.at_.sv x8.at_.xs,aq b4 (cD x8) 63,aq b2 (cD mH) 63,aq b1 (aV c) 59] _))) (Gi ?_);refine Gs ?_;refine bb rfl ⟨by assumption,by omega⟩ fun aC lG=>al ?_;refine Gr fun w1 hw=>?_;exact⟨(⟨aC.1,⟨aC.2,x8.at_.xs⟩,x8.gen,x8.last⟩:cA),by rw[oW],by
  rw[if_pos oW,←Ug];simp only[vv,lG],ah.mem hw⟩)⟩
instance aq0{v:cA}[hv:aX w0 L v]:bU Tryz.prog 173 w0 L [.agg (cD v)] (.bool (mK (vv v))) (True):=⟨fun aA w hw=>by
 have hv:=hv.h w hw;have DF:cQ w v:=⟨hv⟩;refine ct Tryz.func173 rfl Tryz.ntmps173 rfl ?_;refine Gc ?_;refine cm rfl fun b1=>al ?_;refine ag (fW rfl) (bt fun b3=>al ?_);refine dO (cs':=aV (⟨v.ae.pages,v.ae.size,v.ae.blocks,v.ae.ops,false,v.ae.aD⟩:Cp)) rfl rfl (by show 4<6;decide) (by first|rfl|exact Sv.one _) rfl (av ?_);refine bb rfl trivial fun cZ r9=>?_;obtain⟨Mg,aq1⟩:=r9;have hvg:cZ.gen.toNat=(bE {(vv v).ae with off:=false}).1.gen:=congrArg VV.gen Mg
 have A5:cZ.last=(bE {(vv v).ae with off:=false}).1.last:=congrArg VV.last Mg
 have hva:cZ.at_.xs=(bE {(vv v).ae with off:=false}).1.at_:=congrArg VV.at_ Mg
 refine Gs ?_;refine ag (aE (v:= .agg (cD cZ)) rfl rfl) (ag (aE (v:= .int .i64 ((bE (cv (⟨v.ae.pages,v.ae.size,v.ae.blocks,v.ae.ops,false,v.ae.aD⟩:Cp))).2)) rfl rfl) (bt fun b4=>aao ?_));refine jw rfl rfl rfl (fun hg=>bM (fa (aF hg rfl) (fa (aF hg rfl) iZ)) trivial) (al ?_);refine Gr fun w1 hw=>?_;exact⟨congrArg (fun b=>Ending.returned (Value.bool b)) ((by rw[show decide (((cZ.gen.toNat:Nat):Int)=((v.gen.toNat:Nat):Int))=decide (cZ.gen.toNat=v.gen.toNat)from decide_eq_decide.2 oM,mK,←hvg,←A5,←hva];rfl)),ah.mem hw⟩⟩
instance Ui{v:cA}{id:Int}[hv:aX w0 L v]:bV Tryz.prog 347 w0 L [.agg (cD v), .int .i64 id] (Sv) (fun U=>U.val) (fun U=>own aO 1 U (jl (cv v.ae) (v.at_.xs.getD id.toNat 0))::L) (fun U=>True) (aW (cv v.ae)=true/\ ∃y,v.at_.xs[id.toNat]? =Option.some y/\0<=id/\1<=y/\y<=1000000/\2<=(y -1)/(cv v.ae).pages/\(y -1)/(cv v.ae).pages<((cv v.ae).blocks.length:Int)):=⟨fun aA w hw=>Gk (fun U=>[own aO 1 U (jl (cv v.ae) (v.at_.xs.getD id.toNat 0))]) hw (by
 have hv:=hv.h w hw;have DF:cQ w v:=⟨hv⟩;obtain⟨hk,y,hy,hid,Hj,hy2,g1,g2⟩:=aA;have pV:v.at_.xs.getD id.toNat 0=y:=qu hy;have fg:=(zz.1 hy).1;have dM:=ie v.ae.blocks.xs;have iU:=mF.1 (eM.1 hk).1;simp only[cv,dM]at iU;have xK:0<=((y -1)/v.ae.pages):=avs oM oM;have oN:0<=((y -1)%v.ae.pages):=avt _ oM;have oT:((y -1)%v.ae.pages)<v.ae.pages:=avx _ oM;have nX:=yW (c:=v.ae) (b:=((y -1)/v.ae.pages));change 2<=((y -1)/v.ae.pages)at g1;change((y -1)/v.ae.pages)<((jk v.ae.blocks.xs).length:Int)at g2;rw[dM]at g2;obtain⟨B,hB⟩:=get_some (xs:=v.ae.blocks.xs) (i:=((y -1)/v.ae.pages).toNat) oM;have tB:Mb B v.ae.blocks:=⟨List.mem_of_getElem? hB⟩;have fm:bv B=aj (cv v.ae) ((y -1)/v.ae.pages):=by rw[←nX];simp[List.getD,hB]
 have gI:=fu.1 ((eM.1 hk).2.2.2.2 (bv B) (alM (nP hB)));have je:=pC B.pages.xs;have DH:(B.pages.xs.length:Int)=v.ae.pages:=by have:=gI.1;simp only[bv,cv,je]at this;exact this
 obtain⟨z,hz⟩:=get_some (xs:=B.pages.xs) (i:=((y -1)%v.ae.pages).toNat) oM;have xT:Mb z B.pages:=⟨List.mem_of_getElem? hz⟩;have fw:bP (cv v.ae) (y -1)=z.xs:=by
  show(aj (cv v.ae) ((y -1)/v.ae.pages)).pages.getD ((y -1)%v.ae.pages).toNat []=z.xs;rw[←fm];simp[bv,List.getD,q9 hz]
 refine dz Tryz.func347 rfl Tryz.ntmps347 rfl ?_;refine Gc ?_;refine cm rfl fun b2=>aQ ?_;refine ag (bh rfl rfl id.toNat oM oM) (ag (bT (j:=0) rfl id.toNat hy rfl (by decide)) (al ?_));refine qn [18,22,23,2022,4018] [[],[],[],[],[],[],[],[],[],[],[],[],[],[],[],[],[],[],[],[18],[18],[18],[],[18,22],[18,22,23]] [0,1,2,3,4,5,6,7,8,9,10,11,12,13,14,15,16,17,18,19,20,21,22,23,24] [aq b2 (cD v) 63] [(22,mz Tryz.prog 324)] oK (fun _ hw=>ah.mem hw) oK oK (an rfl (aN (o':=0) rfl rfl) (an rfl (aN (o':=2) rfl rfl) (an rfl (bI rfl) (an rfl (bo rfl) (an rfl (aN (o':=0) rfl rfl) (an rfl (aN (o':=0) rfl rfl) (an rfl (bI rfl) (an rfl (n9 rfl rfl oM oM) (an rfl (bh rfl rfl (((y -1)/v.ae.pages).toNat) oM oM) (an rfl (aN rfl rfl) (an rfl (bT (j:=0) rfl (((y -1)/v.ae.pages).toNat) hB rfl (by decide)) (an rfl (bo rfl) ?_))))))))))));refine an rfl (aN (o':=0) rfl rfl) (an rfl (aN (o':=0) rfl rfl) (an rfl (bI rfl) (an rfl (B7 rfl rfl oM oM) (an rfl (bh rfl rfl (((y -1)%v.ae.pages).toNat) oM oM) (an rfl (bT (j:=0) rfl (((y -1)%v.ae.pages).toNat) hz rfl (by decide)) ?_)))));refine vH rfl rfl trivial (fun e x w hw=>ah.mem hw) (Cert.one (i:=22) rfl rfl rfl mA (Cert.none rfl)) fun kR xX=>⟨fun _ hw=>ah.mem hw,?_⟩;have e1:kR.body.xs=(cM z.xs).1.body:=congrArg PV.body xX;refine an rfl (bo rfl) (an rfl (aE (v:= .agg (dj kR)) rfl rfl) (an rfl (aE (v:= .int .i64 ((cM z.xs).2)) rfl rfl) (pw (m:=mz Tryz.prog 324) rfl rfl mA (Cert.none rfl) fun b6=>?_)));change Ln _ _ _ _ _ _ _ _ (cy _ _ (.pointer (some ⟨b6,0,none⟩))) (aq b6 (dj pH) 324::_) _;refine dr rfl (ql rfl rfl ⟨fun _ hw=>ah.mem hw,?_⟩);refine an rfl (gS rfl) (ar ?_);refine Gb ?_ ?_<;>intro h0
 ·
  have hE:(jl (cv v.ae) (v.at_.xs.getD id.toNat 0))=[]:=by rw[pV,jl,fw,if_neg h0]
  refine al ?_;refine Gr fun w1 hw=>?_;exact⟨Sv.none,rfl,trivial,by rw[hE];exact Mem.dK aO 1 (ah.mem hw:Mem w [] _)⟩
 have oW:(cM z.xs).2=0:=h0;have hE:(jl (cv v.ae) (v.at_.xs.getD id.toNat 0))=kR.body.xs:=by rw[pV,jl,fw,if_pos oW,e1]
 refine aQ ?_;refine Gr fun w1 hw=>?_;exact⟨kR.body.sv,rfl,trivial,by rw[hE];exact ah.mem hw⟩)⟩
instance aq2{x:fv}{n:Int}[hx:aX w0 L x]:bV Tryz.prog 255 w0 L [.agg (dj x), .int .i64 n] (Sv) (fun U=> .tuple #[U.val, .int .i64 ((dt (cW x) n).2)]) (fun U=>own aO 1 U (dt (cW x) n).1::L) (fun U=>True) (True):=⟨fun aA w hw=>Gk (fun U=>[own aO 1 U (dt (cW x) n).1]) hw (by
 have hx:=hx.h w hw;have zr:cQ w x:=⟨hx⟩;refine dz Tryz.func255 rfl Tryz.ntmps255 rfl ?_;refine Gc ?_;refine cm rfl fun b2=>fI ?_;refine Gb ?_ ?_<;>intro h0
 ·
  have hE:dt (cW x) n=([],1):=by rw[dt,if_neg (by rw[h0];simp)]
  refine ar ?_;refine Gr fun w1 hw=>?_;exact⟨Sv.none,by rw[hE];rfl,trivial,by rw[hE];exact Mem.dK aO 1 (ah.mem hw:Mem w [] _)⟩
 have hE:dt (cW x) n=((jR (cW x) n.toNat)++be (oB (jR (cW x) n.toNat)) 4,0):=by rw[dt,if_pos h0]
 obtain⟨m1,m2,m3,m4,m5,m6⟩:=rM.1 h0;have hft:=sZ.1 m1;have DG:dW n=n -16:=by rw[dW,if_pos m1]
 simp only[cW]at m2 m3 m4 m5 m6;have QU:(List.replicate (n.toNat -4) (0:UInt8)).length=n.toNat -4:=aue;have dM:x.body.xs.length+16<=n.toNat:=by omega
 have hg6:=jL x.gen.toNat 6;have Bn:=jL x.body.xs.length 2;have sE:=Ks (jR (cW x) n.toNat);have ca:(jR (cW x) n.toNat).length=n.toNat -4:=acS (by simp only[cW];omega);refine al ?_;refine vu (enc:=aO) (n:=(n.toNat -4)) (cap:=(n.toNat -4)) 0 rfl rfl rfl oM oM oM oM oM fun jr=>Gs ?_;refine kD ?_;have DI:=GD (b:=jr) (n:=(n.toNat -4)) oM;refine ji [9,11] [[],[],[],[],[],[],[],[],[],[],[9],[9]] [0,1,2,3,4,5,6,7,8,9,10,11] [aq b2 (dj x) 324] (fun _ hw=>ah.mem hw) oK oK (an rfl (bo rfl) (an rfl (bo rfl) (an rfl (aN (o':=0) rfl rfl) (an rfl (bI rfl) (an rfl (vk rfl (AI _)) (an rfl (aN (o':=1) rfl rfl) (an rfl (bI rfl) (an rfl (vk rfl (AI _)) (an rfl (pd (s:=⟨false,jr,0,(n.toNat -4),(n.toNat -4),none⟩) (i:=0) rfl rfl rfl DI (by simp only;omega)) (dr rfl (yQ (s:=⟨false,jr,0,(n.toNat -4),(n.toNat -4),none⟩) (n:=1) (k:=0) (j:=0) (a:=0) (a':=da x.kind) (xs:=(List.replicate (n.toNat -4) (0:UInt8))) (enc:=aO) (c:=1) (v:= .int .u8 (da x.kind).toNat) oK rfl rfl rfl (by rw[avN,if_pos oM]) (by simp[Value.cells,Value.oneCell']) rfl oM (by rfl) ⟨fun _ hw=>ah.mem hw,?_⟩)))))))))));refine an rfl (pd (s:=⟨false,jr,0,(n.toNat -4),(n.toNat -4),none⟩) (i:=1) rfl rfl rfl DI (by simp only;omega)) (dr rfl (yQ (s:=⟨false,jr,0,(n.toNat -4),(n.toNat -4),none⟩) (n:=1) (k:=1) (j:=0) (a:=0) (a':=da x.id) (xs:=((List.replicate (n.toNat -4) (0:UInt8)).set 0 (da x.kind))) (enc:=aO) (c:=1) (v:= .int .u8 (da x.id).toNat) oK rfl rfl rfl (by rw[atZ (by decide),avN,if_pos oM]) (by simp[Value.cells,Value.oneCell']) rfl oM (by rfl) ⟨fun _ hw=>ah.mem hw,?_⟩));refine kD ?_;refine tZ [own aO 1 ⟨false,jr,0,(n.toNat -4),(n.toNat -4),none⟩ ([da x.kind,da x.id]++List.replicate ((n.toNat -4) -2) (0:UInt8)),aq b2 (dj x) 324] (fun w hw=>by
  rw[acR oM]at hw;exact ah.mem hw) ?_
 refine ji [4,5] [[],[],[],[],[],[4]] [0,1,2,3,4,5] [aq b2 (dj x) 324] (fun _ hw=>ah.mem hw) oK oK (an rfl (bo rfl) ?_);have aeu:Rg 2 8 (List.replicate (n.toNat -4) (0:UInt8)).length:=⟨by omega⟩;refine an rfl (EZ (s:=⟨false,jr,0,(n.toNat -4),(n.toNat -4),none⟩) (l:=2) (h:=8) rfl rfl rfl rfl rfl DI oM (by simp only;omega)) (an rfl (aN (o':=2) rfl rfl) (an rfl (bI rfl) (dr rfl (qk (vs:=[_, .int .i64 ((6:Nat):Int)]) rfl ⟨by omega,by omega,by omega⟩ fun dR oV=>⟨fun _ hw=>ah.mem hw,?_⟩))));refine dr rfl (Kx (D:=Sv.sub ⟨false,jr,0,(n.toNat -4),(n.toNat -4),none⟩ 1 2 8) (S:=dR) (rm:=⟨false,jr,0,(n.toNat -4),(n.toNat -4),none⟩) (k:=2) (xs:=([da x.kind,da x.id]++List.replicate ((n.toNat -4) -2) (0:UInt8))) (ys:=(be x.gen.toNat 6)) rfl rfl rfl rfl (by simp only[Sv.sub];rw[if_neg oM]) rfl (by decide) rfl (by simp only[Sv.sub,jL];omega) (by simp only[adr,jL,aue,af0,anc];omega) ⟨fun _ hw=>ah.mem hw,?_⟩);refine kD ?_;refine tZ [own aO 1 ⟨false,jr,0,(n.toNat -4),(n.toNat -4),none⟩ ([da x.kind,da x.id]++(be x.gen.toNat 6)++List.replicate ((n.toNat -4) -2 -(be x.gen.toNat 6).length) (0:UInt8)),aq b2 (dj x) 324] (fun w hw=>by
  rw[KI (A:=[da x.kind,da x.id]) (k:=2) rfl]at hw;exact ah.mem hw) ?_
 refine ji [6,7] [[],[],[],[],[],[],[],[6]] [0,1,2,3,4,5,6,7] [aq b2 (dj x) 324] (fun _ hw=>ah.mem hw) oK oK (an rfl (bo rfl) ?_);have aq3:Rg 8 10 (List.replicate (n.toNat -4) (0:UInt8)).length:=⟨by omega⟩;refine an rfl (EZ (s:=⟨false,jr,0,(n.toNat -4),(n.toNat -4),none⟩) (l:=8) (h:=10) rfl rfl rfl rfl rfl DI oM (by simp only;omega)) (an rfl (aN (o':=3) rfl rfl) (an rfl (bI rfl) (an rfl (tY rfl) (an rfl (kX rfl (by simp only[nb];omega)) (dr rfl (qk (vs:=[_, .int .i64 ((2:Nat):Int)]) rfl ⟨by omega,by omega,by omega⟩ fun Mh afB=>⟨fun _ hw=>ah.mem hw,?_⟩))))));refine dr rfl (Kx (D:=Sv.sub ⟨false,jr,0,(n.toNat -4),(n.toNat -4),none⟩ 1 8 10) (S:=Mh) (rm:=⟨false,jr,0,(n.toNat -4),(n.toNat -4),none⟩) (k:=8) (xs:=([da x.kind,da x.id]++(be x.gen.toNat 6)++List.replicate ((n.toNat -4) -2 -(be x.gen.toNat 6).length) (0:UInt8))) (ys:=(be x.body.xs.length 2)) rfl rfl rfl rfl (by simp only[Sv.sub];rw[if_neg oM]) rfl (by decide) rfl (by simp only[Sv.sub,jL];omega) (by simp only[adr,jL,aue,af0,anc];omega) ⟨fun _ hw=>ah.mem hw,?_⟩);refine kD ?_;refine tZ [own aO 1 ⟨false,jr,0,(n.toNat -4),(n.toNat -4),none⟩ ([da x.kind,da x.id]++(be x.gen.toNat 6)++(be x.body.xs.length 2)++List.replicate ((n.toNat -4) -2 -(be x.gen.toNat 6).length -(be x.body.xs.length 2).length) (0:UInt8)),aq b2 (dj x) 324] (fun w hw=>by
  rw[KI (A:=[da x.kind,da x.id]++(be x.gen.toNat 6)) (k:=8) (by simp[jL])]at hw;exact ah.mem hw) ?_
 refine ji [4] [[],[],[],[],[]] [0,1,2,3,4] [aq b2 (dj x) 324] (fun _ hw=>ah.mem hw) oK oK (an rfl (bo rfl) ?_);have aq4:Rg 10 ((List.replicate (n.toNat -4) (0:UInt8)).length) (List.replicate (n.toNat -4) (0:UInt8)).length:=⟨by omega⟩;refine an rfl (tT (s:=⟨false,jr,0,(n.toNat -4),(n.toNat -4),none⟩) (l:=10) (n:=(n.toNat -4)) rfl rfl rfl DI rfl oM) (an rfl (aN (o':=3) rfl rfl) (an rfl (bI rfl) ?_));refine dr rfl (Kx (D:=Sv.sub ⟨false,jr,0,(n.toNat -4),(n.toNat -4),none⟩ 1 10 (n.toNat -4)) (S:=x.body.sv) (rm:=⟨false,jr,0,(n.toNat -4),(n.toNat -4),none⟩) (k:=10) (xs:=([da x.kind,da x.id]++(be x.gen.toNat 6)++(be x.body.xs.length 2)++List.replicate ((n.toNat -4) -2 -(be x.gen.toNat 6).length -(be x.body.xs.length 2).length) (0:UInt8))) (ys:=x.body.xs) rfl rfl rfl rfl (by simp only[Sv.sub];rw[if_neg oM]) rfl (by decide) rfl (by simp only[Sv.sub,jL];omega) (by simp only[adr,jL,aue,af0,anc];omega) ⟨fun _ hw=>ah.mem hw,?_⟩);refine kD ?_;refine tZ [own aO 1 ⟨false,jr,0,(n.toNat -4),(n.toNat -4),none⟩ (jR (cW x) n.toNat),aq b2 (dj x) 324] (fun w hw=>by
  rw[KI (A:=[da x.kind,da x.id]++(be x.gen.toNat 6)++(be x.body.xs.length 2)) (k:=10) (by simp[jL]),show([da x.kind,da x.id]++(be x.gen.toNat 6)++(be x.body.xs.length 2)++x.body.xs++List.replicate ((n.toNat -4) -2 -(be x.gen.toNat 6).length -(be x.body.xs.length 2).length -x.body.xs.length) (0:UInt8))=(jR (cW x) n.toNat)from by
   simp only[jR,cW,jL];congr 2<;>omega]at hw
  exact ah.mem hw) ?_
 refine Gi ?_;refine al ?_;refine ag (kX rfl (by simp only[nb];omega)) (bb (vs:=[_, .int .i64 ((4:Nat):Int)]) rfl ⟨by omega,by omega,by omega⟩ fun tC Mi=>?_);refine om (enc:=(cq (τ:=UInt8))) [(⟨⟨false,jr,0,(n.toNat -4),(n.toNat -4),none⟩,(jR (cW x) n.toNat)⟩:Sl UInt8),⟨tC,be (oB (jR (cW x) n.toNat)) 4⟩] (vals:=[(⟨false,jr,0,(n.toNat -4),(n.toNat -4),none⟩:Sv).val,tC.val]) rfl (by simp only[atI,auv,Sv.jM];rfl) rfl (by decide) (by decide) fun b48=>?_;refine ab9 (τ:=Sl UInt8) (xs:=[(⟨⟨false,jr,0,(n.toNat -4),(n.toNat -4),none⟩,(jR (cW x) n.toNat)⟩:Sl UInt8),⟨tC,be (oB (jR (cW x) n.toNat)) 4⟩]) fun a48 Km g48=>?_;have Uj:lh a48.xs=(dt (cW x) n).1:=by rw[Km,hE];simp[lh]
 have hf9:(dt (cW x) n).1.length<=1000:=by rw[hE,adr,jL];omega
 refine bb rfl (by rw[Uj];omega) fun x49 aq5=>al ?_;refine Gr fun w1 hw=>?_;exact⟨x49,by rw[hE],trivial,by rw[←Uj];exact ah.mem hw⟩)⟩
theorem afC(i:Int)(g:UInt64)(w:World):(Instr.build 324 #[(0, .int .i64 2),(1, .int .i64 i),(2, .int .u64 (g.toNat:Int))]).run Tryz.prog w= .ok (.agg (dj ⟨2,i,g,⟨Sv.none,[]⟩⟩)) w:=by
 unfold dj;kernel_rfl
instance aq6{r:dH}{n:Int}[hr:aX w0 L r]:bV Tryz.prog 218 w0 L [.agg (eR r), .int .i64 n] (Sv) (fun U=> .tuple #[U.val, .int .i64 ((cX (dL r) n).2)]) (fun U=>own aO 1 U (cX (dL r) n).1::L) (fun U=>True) (True):=⟨fun aA w hw=>Gk (fun U=>[own aO 1 U (cX (dL r) n).1]) hw (by
 have hr:=hr.h w hw;have ghr:cQ w r:=⟨hr⟩;have kg:=hr.1.bd;refine dz Tryz.func218 rfl Tryz.ntmps218 rfl ?_;refine Gc ?_;refine cm rfl fun b2=>fI ?_;refine Gb ?_ ?_<;>intro h0
 ·
  have hE:cX (dL r) n=([],1):=by rw[cX,if_neg (by rw[h0];simp)]
  refine ar ?_;refine Gr fun w1 hw=>?_;exact⟨Sv.none,by rw[hE];rfl,trivial,by rw[hE];exact Mem.dK aO 1 (ah.mem hw:Mem w [] _)⟩
 have hE:cX (dL r) n=dt (⟨2,(max 0 (r.at_.xs.length -1:Int)),r.gen.toNat,gZ r.at_.xs⟩:PV) n:=by rw[cX,if_pos h0];rfl
 obtain⟨m1,m2,m3,m4⟩:=xq.1 h0;have hmf:kJ n<=64:=by rw[kJ];omega
 simp only[dL]at m2 m3 m4;refine aQ ?_;refine ag (yw rfl rfl) (av ?_);refine ag (cV (v:= .agg (dj (⟨2,(max 0 (r.at_.xs.length -1:Int)),r.gen,⟨Sv.none,[]⟩⟩:fv))) rfl (afC _ r.gen)) (bt fun b6=>di ?_);refine ck (X:=Nat×Sv) (fun U=>[(24, .int .i64 (U.1:Nat)),(6, .pointer (some ⟨b6,0,none⟩)),(1, .int .i64 n),(22,r.at_.sv.val),(23, .int .i64 (r.at_.xs.length:Nat))]) (fun U=>[aq b6 (dj (⟨2,(max 0 (r.at_.xs.length -1:Int)),r.gen,⟨U.2,gZ (r.at_.xs.take U.1)⟩⟩:fv)) 324,own aO 1 U.2 (gZ (r.at_.xs.take U.1)),aq b2 (eR r) 314]) (fun U=>U.1<=r.at_.xs.length) (fun U=>r.at_.xs.length -U.1) (0,Sv.none) (atL _) sb (fun w hw=>by
  simp only[atW,gZ,auv,awn];exact ah.mem (Mem.dK aO 1 hw)) ?_
 rintro⟨i,s1⟩ bl;dsimp only;simp only at bl;refine al ?_;refine Gb ?_ ?_<;>intro h1
 ·
  obtain⟨y,hy⟩:=get_some (xs:=r.at_.xs) (i:=i) oM;have L3:=C1.1 (m4 y (alM hy));have fy:gZ (r.at_.xs.take (i+1))=gZ (r.at_.xs.take i)++[da (y/256),da y]:=acU hy;have xW:=AK (r.at_.xs.take i);have hnt:(r.at_.xs.take i).length<=64:=by rw[atq];omega
  refine Gc ?_;refine ag (bh rfl rfl i rfl oM) (ag (bT (j:=0) rfl i hy rfl (by decide)) (aQ ?_));refine ag (Ry.to (v':= .int .i64 (y/256)) (wM (p:=y.toNat) (Eq.trans (b:=some (Value.int .i64 y)) rfl (by rw[aun L3.1])) rfl (by simp only[nb];omega) oM) (by rw[show(8:Int).toNat=8 from rfl];congr 1;omega)) (ag (vk rfl (AI _)) (Gs ?_));refine ag (vk rfl (AI _)) ?_;refine om (enc:=aO) (vals:=[_,_]) [(da (y/256)),(da y)] rfl rfl rfl (by decide) (by decide) fun Uk=>?_;refine nf (s:=s1) (ys:=[(da (y/256)),(da y)]) rfl rfl (by decide) (fun w hw=>jy (s:=⟨false,Uk,0,2,2,none⟩) Tryz.underlying53 (by decide) ((inferInstance:Hd _ _ ⟨false,Uk,0,2,2,none⟩ aO 1 [(da (y/256)),(da y)]).h w hw)) (by simp only[af0,anc];omega) (by simp only[af0,anc];omega) fun Ul aq7 aq8=>?_;refine Gs ?_;refine dO (cs':=dj (⟨2,(max 0 (r.at_.xs.length -1:Int)),r.gen,⟨Ul,((gZ (r.at_.xs.take i))++[(da (y/256)),(da y)])⟩⟩:fv)) rfl rfl (by show 3<4;decide) (by first|rfl|exact Sv.one _) rfl (al ?_);refine Gi ?_;exact bw (x:=(i,s1)) (i+1,Ul) (by simp only;omega) (by simp only;omega) sb (fun w hw=>by
   simp only[fy];exact ah.mem hw)
 obtain rfl:i=r.at_.xs.length:=by omega
 rw[atP];refine mB ?_;refine tZ [Deep.cz (⟨s1,gZ r.at_.xs⟩:Sl UInt8),aq b6 (dj (⟨2,(max 0 (r.at_.xs.length -1:Int)),r.gen,⟨s1,gZ r.at_.xs⟩⟩:fv)) 324] (fun w hw=>ah.mem (Mem.QW (ah.mem hw:Mem _ [own aO 1 s1 (gZ r.at_.xs),aq b6 (dj (⟨2,(max 0 (r.at_.xs.length -1:Int)),r.gen,⟨s1,gZ r.at_.xs⟩⟩:fv)) 324] _))) (Gi ?_);refine av ?_;refine bb rfl trivial fun mh afD=>ag (aE (v:=mh.val) rfl rfl) (ag (aE (v:= .int .i64 ((dt (cW (⟨2,(max 0 (r.at_.xs.length -1:Int)),r.gen,⟨s1,gZ r.at_.xs⟩⟩:fv)) n).2)) rfl rfl) (al ?_));refine Gr fun w1 hw=>?_;exact⟨mh,by rw[hE];rfl,trivial,by
  have h1:Mem w [own aO 1 mh (dt (cW (⟨2,(max 0 (r.at_.xs.length -1:Int)),r.gen,⟨s1,gZ r.at_.xs⟩⟩:fv)) n).1] _:=ah.mem hw;rw[hE];exact h1⟩)⟩
instance aq9{xb:Nat}{xc:Cp}{xa:Sl Int}{xg:UInt64}{xl:Int}{xy:Bool}[eu:nt w0 L xb (aR (⟨⟨xc,xa,xg,xl⟩,xy⟩:aT)) 261][eF:aX w0 L xc]:bU Tryz.prog 176 w0 L [.pointer (some ⟨xb,0,none⟩)] (.int .i64 (nR (cv xc):Nat)) (True):=⟨fun aA w hw=>by
 have eu:=eu.h w hw;have eF:=eF.h w hw;have wj:rW w xb (aR (⟨⟨xc,xa,xg,xl⟩,xy⟩:aT)) 261:=⟨eu⟩;have wk:cQ w xc:=⟨eF⟩;have kg:=eF.1.1.bd;have dM:(cv xc).blocks.length=xc.blocks.xs.length:=ie _;refine ct Tryz.func176 rfl Tryz.ntmps176 rfl ?_;refine qW ?_;refine ag (Ry.to (v':=xc.blocks.sv.val) (oP rfl) rfl) (al ?_);refine ck (X:=Nat) (fun U=>[(13, .int .i64 (U:Nat)),(3, .int .i64 ((((jk xc.blocks.xs).take U).filter fun b=>b.bad).length:Nat)),(11,xc.blocks.sv.val),(12, .int .i64 (xc.blocks.xs.length:Nat))]) (fun U=>[]) (fun U=>U<=xc.blocks.xs.length) (fun U=>xc.blocks.xs.length -U) 0 (atL _) sb (fun w hw=>ah.mem hw) ?_;rintro i bl;refine al ?_;refine Gb ?_ ?_<;>intro h0
 ·
  obtain⟨B,hB⟩:=get_some (xs:=xc.blocks.xs) (i:=i) oM;have tB:Mb B xc.blocks:=⟨List.mem_of_getElem? hB⟩;have fy:=adl (nP hB);have hle:(((jk xc.blocks.xs).take i).filter fun b=>b.bad).length<=i:=avU (avJ _ _) (by rw[atq];omega);refine Gc ?_;refine ag (bh rfl rfl i rfl oM) (ag (iJ rfl i hB rfl) ?_);have afE:Mb B xc.blocks:=⟨List.mem_of_getElem? hB⟩;refine bt fun b5=>aQ ?_;refine Gb ?_ ?_<;>intro h1
  ·
   rw[if_pos (show(bv B).bad=true from h1)]at fy;refine Gi ?_;refine aZ ?_;refine Gi ?_;exact bw (x:=(i)) (i+1) oF oF (Sub.cons rfl (Sub.cons (look_eq rfl (by rw[fy];rfl)) sb)) (fun w hw=>ah.mem hw)
  rw[if_neg (show ¬(bv B).bad=true by rw[show(bv B).bad=B.bad from rfl,h1];simp)]at fy;refine al ?_;refine Gi ?_;exact bw (x:=(i)) (i+1) oF oF (Sub.cons rfl (Sub.cons (look_eq rfl (by rw[fy,auH])) sb)) (fun w hw=>ah.mem hw)
 obtain rfl:i=xc.blocks.xs.length:=by omega
 have hz:nR (cv xc)=(((jk xc.blocks.xs).take xc.blocks.xs.length).filter fun b=>b.bad).length:=by rw[←dM];exact congrArg (fun l:List BV=>(l.filter fun b=>b.bad).length) (atP).symm
 refine ar ?_;refine Gr fun w1 hw=>?_;exact⟨congrArg (fun b=>Ending.returned (Value.int .i64 b)) (by rw[hz]),ah.mem hw⟩⟩
instance ara{xb:Nat}{xc:Cp}{xa:Sl Int}{xg:UInt64}{xl:Int}{xy:Bool}{b:Int}[eu:nt w0 L xb (aR (⟨⟨xc,xa,xg,xl⟩,xy⟩:aT)) 261][eF:aX w0 L xc]:bU Tryz.prog 219 w0 L [.pointer (some ⟨xb,0,none⟩), .int .i64 b] (.int .i64 (ei (cv xc) b)) (aW (cv xc)=true/\0<=b/\b<(cv xc).blocks.length):=⟨fun aA w hw=>by
 have eu:=eu.h w hw;have eF:=eF.h w hw;have wj:rW w xb (aR (⟨⟨xc,xa,xg,xl⟩,xy⟩:aT)) 261:=⟨eu⟩;have wk:cQ w xc:=⟨eF⟩;obtain⟨hk,ru,uY⟩:=aA;have iu:gw xc:=uw hk;have dM:(cv xc).blocks.length=xc.blocks.xs.length:=ie _;obtain⟨B,hB⟩:=get_some (xs:=xc.blocks.xs) (i:=b.toNat) oM;have tB:Mb B xc.blocks:=⟨List.mem_of_getElem? hB⟩;have fm:=uB hB;have gI:=fu.1 ((eM.1 hk).2.2.2.2 (bv B) (alM (nP hB)));have iU:=mF.1 (eM.1 hk).1;have rv:(aj (cv xc) b).used=B.used:=by rw[fm];rfl
 simp only[bv,cv]at gI iU;refine dz Tryz.func219 rfl Tryz.ntmps219 rfl ?_;refine fI ?_;refine ag (Ry.to (v':=xc.blocks.sv.val) (oP rfl) rfl) (Gs ?_);refine ag (bh rfl rfl b.toNat oM oM) (ag (iJ rfl b.toNat hB rfl) ?_);have Hm:Mb B xc.blocks:=⟨List.mem_of_getElem? hB⟩;refine bt fun b5=>aQ ?_;refine Gb ?_ ?_<;>intro h0
 ·
  refine al ?_;refine Gr fun w1 hw=>?_;exact Gf ((by rw[ei,fm,if_pos (show(bv B).bad=true from h0)])) hw
 refine Gc ?_;refine kf oK oK (aQ ?_);refine cr (Ry.to (v':= .int .i64 xc.pages) (oP rfl) rfl) (aQ ?_);refine Gr fun w1 hw=>?_;exact⟨congrArg (fun b=>Ending.returned (Value.int .i64 b)) ((by rw[ei,fm,if_neg (show ¬(bv B).bad=true by rw[show(bv B).bad=B.bad from rfl,h0];simp)];rfl)),ah.mem hw⟩⟩
instance arb{er:Int}:bU Tryz.prog 311 w0 L [.int .i64 er] (.int .i64 (jS er)) (True):=⟨fun aA w hw=>by
 refine ct Tryz.func311 rfl Tryz.ntmps311 rfl ?_;refine aZ ?_;refine Gb ?_ ?_<;>intro h0
 ·
  refine al ?_;refine Gr fun w1 hw=>?_;exact Gf ((by rw[jS,if_pos h0])) hw
 refine ar ?_;refine Gr fun w1 hw=>?_;exact⟨congrArg (fun b=>Ending.returned (Value.int .i64 b)) ((by rw[jS,if_neg h0])),ah.mem hw⟩⟩
instance arc{xb:Nat}{xc:Cp}{xa:Sl Int}{xg:UInt64}{xl:Int}{xy:Bool}[eu:nt w0 L xb (aR (⟨⟨xc,xa,xg,xl⟩,xy⟩:aT)) 261][eF:aX w0 L xc]:bU Tryz.prog 306 w0 L [.pointer (some ⟨xb,0,none⟩)] (.bool (AR xg.toNat)) (xg.toNat<281474976710656):=⟨fun aA w hw=>by
 have eu:=eu.h w hw;have eF:=eF.h w hw;have wj:rW w xb (aR (⟨⟨xc,xa,xg,xl⟩,xy⟩:aT)) 261:=⟨eu⟩;have wk:cQ w xc:=⟨eF⟩;refine ct Tryz.func306 rfl Tryz.ntmps306 rfl ?_;refine di ?_;refine ag (Ry.to (v':= .int .u64 (xg.toNat:Nat)) (oP rfl) rfl) (ag (Ca (p:=xg.toNat) (q:=2) rfl rfl rfl rfl (by simp only[nb];omega)) (al ?_));refine Gr fun w1 hw=>?_;exact⟨congrArg (fun b=>Ending.returned (Value.bool b)) (by rw[AR];congr 1;simp only[eq_iff_iff];omega),ah.mem hw⟩⟩
instance ard{xb:Nat}{xc:Cp}{xa:Sl Int}{xg:UInt64}{xl:Int}{xy:Bool}{b:Int}[eu:nt w0 L xb (aR (⟨⟨xc,xa,xg,xl⟩,xy⟩:aT)) 261][eF:aX w0 L xc]:bU Tryz.prog 251 w0 L [.pointer (some ⟨xb,0,none⟩), .int .i64 b] (.int .u64 ((l6 (cv xc) b):Nat)) (aW (cv xc)=true/\0<=b/\b<(cv xc).blocks.length):=⟨fun aA w hw=>by
 have eu:=eu.h w hw;have eF:=eF.h w hw;have wj:rW w xb (aR (⟨⟨xc,xa,xg,xl⟩,xy⟩:aT)) 261:=⟨eu⟩;have wk:cQ w xc:=⟨eF⟩;obtain⟨hk,ru,uY⟩:=aA;have iu:gw xc:=uw hk;have dM:(cv xc).blocks.length=xc.blocks.xs.length:=ie _;obtain⟨B,hB⟩:=get_some (xs:=xc.blocks.xs) (i:=b.toNat) oM;have tB:Mb B xc.blocks:=⟨List.mem_of_getElem? hB⟩;have fm:=uB hB;have gI:=fu.1 ((eM.1 hk).2.2.2.2 (bv B) (alM (nP hB)));have iU:=mF.1 (eM.1 hk).1;have rv:(aj (cv xc) b).used=B.used:=by rw[fm];rfl
 simp only[bv,cv]at gI iU;have je:=pC B.pages.xs;have hgE:l6 (cv xc) b=uC (aP B.pages.xs):=by rw[l6,fm];rfl
 refine dz Tryz.func251 rfl Tryz.ntmps251 rfl ?_;refine qW ?_;refine ag (Ry.to (v':=xc.blocks.sv.val) (oP rfl) rfl) (Gs ?_);refine ag (bh rfl rfl b.toNat oM oM) (ag (aN rfl rfl) (ag (bT (j:=0) rfl b.toNat hB rfl (by decide)) (al ?_)));refine ck (X:=Nat) (fun U=>[(21, .int .i64 (U:Nat)),(5, .int .u64 ((uC ((aP B.pages.xs).take U)):Nat)),(19,B.pages.sv.val),(20, .int .i64 (B.pages.xs.length:Nat))]) (fun U=>[]) (fun U=>U<=B.pages.xs.length) (fun U=>B.pages.xs.length -U) 0 (atL _) sb (fun w hw=>ah.mem hw) ?_;rintro i bl;refine al ?_;refine Gb ?_ ?_<;>intro h0
 ·
  obtain⟨y,hy⟩:=get_some (xs:=B.pages.xs) (i:=i) oM;have L6:Mb y B.pages:=⟨List.mem_of_getElem? hy⟩;have fy:=adk (q9 hy);have zt:=KU ((aP B.pages.xs).take i);have wc:=R0 y.xs;refine Gc ?_;refine ag (bh rfl rfl i rfl oM) (ag (bT (j:=0) rfl i hy rfl (by decide)) (al ?_));refine bb rfl trivial fun sa uX=>?_;have qF:sa.gen.toNat=(bF y.xs).1.gen:=congrArg RV.gen uX;refine Gs ?_;refine ag (aE (v:= .agg (eR sa)) rfl rfl) (ag (aE (v:= .int .i64 ((bF y.xs).2)) rfl rfl) (bt fun b8=>aZ ?_));refine Gb ?_ ?_<;>intro h1
  ·
   have hr:lr y.xs=sa.gen.toNat:=by rw[lr,if_pos h1,←qF]
   refine Gi ?_;refine al ?_;refine ag (yw rfl rfl) (ar ?_);refine Gi ?_;exact bw (x:=(i)) (i+1) oF oF (Sub.cons rfl (Sub.cons (look_eq rfl (by rw[fy,hr];congr 1;omega)) sb)) (fun w hw=>ah.mem hw)
  have hr:lr y.xs=0:=by rw[lr,if_neg h1]
  refine al ?_;refine Gi ?_;exact bw (x:=(i)) (i+1) oF oF (Sub.cons rfl (Sub.cons (look_eq rfl (by rw[fy,hr];congr 1;omega)) sb)) (fun w hw=>ah.mem hw)
 obtain rfl:i=B.pages.xs.length:=by omega
 have hz:uC (aP B.pages.xs)=(uC ((aP B.pages.xs).take B.pages.xs.length)):=by rw[←je,atP]
 refine ar ?_;refine Gr fun w1 hw=>?_;exact⟨by rw[hgE,hz],ah.mem hw⟩⟩
instance are{xb:Nat}{xc:Cp}{xa:Sl Int}{xg:UInt64}{xl:Int}{xy:Bool}{b:Int}[eu:nt w0 L xb (aR (⟨⟨xc,xa,xg,xl⟩,xy⟩:aT)) 261][eF:aX w0 L xc]:bU Tryz.prog 215 w0 L [.pointer (some ⟨xb,0,none⟩), .int .i64 b] (.bool (C8 (cv xc) b)) (aW (cv xc)=true/\0<=b/\b<(cv xc).blocks.length):=⟨fun aA w hw=>by
 have eu:=eu.h w hw;have eF:=eF.h w hw;have wj:rW w xb (aR (⟨⟨xc,xa,xg,xl⟩,xy⟩:aT)) 261:=⟨eu⟩;have wk:cQ w xc:=⟨eF⟩;have afF:=aA;obtain⟨hk,ru,uY⟩:=aA;have iu:gw xc:=uw hk;have dM:(cv xc).blocks.length=xc.blocks.xs.length:=ie _;obtain⟨B,hB⟩:=get_some (xs:=xc.blocks.xs) (i:=b.toNat) oM;have tB:Mb B xc.blocks:=⟨List.mem_of_getElem? hB⟩;have fm:=uB hB;have gI:=fu.1 ((eM.1 hk).2.2.2.2 (bv B) (alM (nP hB)));have iU:=mF.1 (eM.1 hk).1;have rv:(aj (cv xc) b).used=B.used:=by rw[fm];rfl
 simp only[bv,cv]at gI iU;refine dz Tryz.func215 rfl Tryz.ntmps215 rfl ?_;refine fI ?_;refine ag (Ry.to (v':=xc.blocks.sv.val) (oP rfl) rfl) (Gs ?_);refine ag (bh rfl rfl b.toNat oM oM) (ag (iJ rfl b.toNat hB rfl) ?_);have Hm:Mb B xc.blocks:=⟨List.mem_of_getElem? hB⟩;refine bt fun b5=>ja ?_;refine jw rfl rfl rfl (fun hg=>(Ry.yl (bo (aF hg rfl)))) (vo rfl rfl rfl (fun hg=>(Ry.yl (bo rfl))) (vo rfl rfl rfl (fun hg=>(Ry.yl (fE (aF hg rfl) rfl rfl))) (vo rfl rfl rfl (fun hg=>(Ry.yl (bo (aF hg rfl)))) (pc rfl rfl rfl (fun hg=>(Ry.yl (bo rfl))) (pc rfl rfl rfl (fun hg=>(Ry.yl (bo rfl))) (pc rfl rfl rfl (fun hg=>bM (fa (aF hg rfl) (fa (aF hg rfl) iZ)) afF) (pc rfl rfl rfl (fun hg=>(Ry.yl (fE (aF hg rfl) rfl rfl))) (vo rfl rfl rfl (fun hg=>(Ry.yl (zN (aF hg rfl) (yy hg rfl) rfl))) (jw rfl rfl rfl (fun hg=>(Ry.yl (zO (aF hg rfl) rfl (yy hg rfl)))) (al ?_))))))))));refine Gr fun w1 hw=>?_;exact⟨congrArg (fun b=>Ending.returned (Value.bool b)) ((by
  have e:decide ((0:Int)<((l6 (cv xc) b:Nat):Int))=decide (0<l6 (cv xc) b):=decide_eq_decide.2 oM;rw[C8,fm,e];rfl)),ah.mem hw⟩⟩
instance arf{xb:Nat}{xc:Cp}{xa:Sl Int}{xg:UInt64}{xl:Int}{xy:Bool}{b:Int}[eu:nt w0 L xb (aR (⟨⟨xc,xa,xg,xl⟩,xy⟩:aT)) 261][eF:aX w0 L xc]:bU Tryz.prog 217 w0 L [.pointer (some ⟨xb,0,none⟩), .int .i64 b] (.int .u64 ((gP (cv xc) b):Nat)) (aW (cv xc)=true/\2<=(cv xc).blocks.length/\(b=0\/b=1)):=⟨fun aA w hw=>by
 have eu:=eu.h w hw;have eF:=eF.h w hw;have wj:rW w xb (aR (⟨⟨xc,xa,xg,xl⟩,xy⟩:aT)) 261:=⟨eu⟩;have wk:cQ w xc:=⟨eF⟩;obtain⟨hk,qX,Um⟩:=aA;have zt:=KU (aj (cv xc) (1 -b)).pages;change l6 (cv xc) (1 -b)<_ at zt;refine dz Tryz.func217 rfl Tryz.ntmps217 rfl ?_;refine ja ?_;refine cO (bM rfl ⟨hk,by omega,by omega⟩) (Gs ?_);refine ag (Ry.to (v':= .int .u64 (((1 -b).toNat:Nat):Int)) (IW rfl oM (by simp only[nb];omega)) (by congr 1;omega)) (ag (Ca (p:=(l6 (cv xc) (1 -b))) (q:=((1 -b).toNat)) rfl rfl rfl rfl (by simp only[nb];omega)) (ag (yw rfl rfl) (av ?_)));refine Gr fun w1 hw=>?_;exact⟨by rw[gP];congr 2;omega,ah.mem hw⟩⟩
instance arh{xb:Nat}{xc:Cp}{xa:Sl Int}{xg:UInt64}{xl:Int}{xy:Bool}[eu:nt w0 L xb (aR (⟨⟨xc,xa,xg,xl⟩,xy⟩:aT)) 261][eF:aX w0 L xc]:bU Tryz.prog 261 w0 L [.pointer (some ⟨xb,0,none⟩)] (.int .i64 (vS (cv xc) xl)) (aW (cv xc)=true/\2<=(cv xc).blocks.length/\(xl=0\/xl=1)):=⟨fun aA w hw=>by
 have eu:=eu.h w hw;have eF:=eF.h w hw;have wj:rW w xb (aR (⟨⟨xc,xa,xg,xl⟩,xy⟩:aT)) 261:=⟨eu⟩;have wk:cQ w xc:=⟨eF⟩;obtain⟨hk,qX,Um⟩:=aA;have iu:gw xc:=uw hk;have dM:(cv xc).blocks.length=xc.blocks.xs.length:=ie _;obtain⟨Bo,gI⟩:=get_some (xs:=xc.blocks.xs) (i:=(1 -xl).toNat) oM;obtain⟨Bl,oS⟩:=get_some (xs:=xc.blocks.xs) (i:=xl.toNat) oM;have Bp:=uB gI;have Un:=uB oS;refine ct Tryz.func261 rfl Tryz.ntmps261 rfl ?_;refine al ?_;refine kf oK oK (ar ?_);refine cr (Ry.to (v':= .int .i64 xl) (oP rfl) rfl) (ar ?_);refine cr (Ry.to (v':= .int .i64 xl) (oP rfl) rfl) (ja ?_);refine ag (Ry.to (v':=xc.blocks.sv.val) (oP rfl) rfl) (Gs ?_);refine ag (bh rfl rfl ((1 -xl).toNat) oM oM) (ag (aN rfl rfl) (ag (bT (j:=3) rfl ((1 -xl).toNat) gI rfl (by decide)) (av ?_)));refine Gb ?_ ?_<;>intro h0
 ·
  refine al ?_;refine cO (bM rfl ⟨hk,by omega,by omega⟩) (av ?_);refine Gr fun w1 hw=>?_;exact Gf ((by rw[vS,Bp,if_pos (show(bv Bo).bad=true from h0)])) hw
 refine aZ ?_;refine ag (Ry.to (v':=xc.blocks.sv.val) (oP rfl) rfl) (Gs ?_);refine ag (bh rfl rfl xl.toNat oM oM) (ag (aN rfl rfl) (ag (bT (j:=3) rfl xl.toNat oS rfl (by decide)) (al ?_)));refine jw rfl rfl rfl (fun hg=>bM (fa (aF hg rfl) (fa (aF hg rfl) iZ)) ⟨hk,by omega,by omega⟩) (ar ?_);refine Gb ?_ ?_<;>intro h1
 ·
  refine al ?_;refine cO (bM rfl ⟨hk,by omega,by omega⟩) (av ?_);refine Gr fun w1 hw=>?_;exact Gf ((by rw[vS,Bp,Un,if_neg (show ¬(bv Bo).bad=true by rw[show(bv Bo).bad=Bo.bad from rfl,h0];simp),if_pos ⟨h1.1,h1.2⟩])) hw
 refine aZ ?_;refine ag (Ry.to (v':= .int .i64 xc.pages) (oP rfl) rfl) (av ?_);refine Gr fun w1 hw=>?_;exact⟨congrArg (fun b=>Ending.returned (Value.int .i64 b)) ((by
  rw[vS,Bp,Un,if_neg (show ¬(bv Bo).bad=true by rw[show(bv Bo).bad=Bo.bad from rfl,h0];simp),if_neg]
  ·
   rfl
  rintro⟨g1,g2⟩;rcases h1 with h|h
  ·
   exact absurd (h.symm.trans g1) (by simp)
  omega)),ah.mem hw⟩⟩
instance ari{c:Cp}{b:Int}{g:Int}{x:Sv}{xs:List UInt8}[hc:aX w0 L c][hx:dy w0 L aO 1 x xs]:bV Tryz.prog 256 w0 L [.agg (aV c), .int .i64 b, .int .i64 g,x.val] (Cp) (fun U=> .tuple #[.agg (aV U), .int .i64 (kj (cv c) b g xs)]) (fun U=>fz U::L) (fun U=>cv U=gF (cv c) b g xs) (gw c):=⟨fun aA w hw=>Gk (fun U=>[fz U]) hw (by
 have hc:=hc.h w hw;have hx:=hx.h w hw;have lJ:cQ w c:=⟨hc⟩;have zr:Gv w x aO 1 xs:=⟨hx⟩;have iu:gw c:=aA;obtain⟨mf,jF,qD⟩:=aA;have qw:cS=1099511627776:=rfl;refine P8 Tryz.func256 rfl Tryz.ntmps256 rfl ?_;refine Gc ?_;refine cm rfl fun b4=>bt fun b8=>al ?_;refine bb rfl (by assumption) fun cx uZ=>bt fun tD=>P6 ?_;refine Gb ?_ ?_<;>intro h0
 ·
  have hz: ¬oC (cv c) b g xs=true:=fun hk=>by
   obtain⟨k1,k2,k3,k4,k5⟩:=jQ.1 hk;rw[k1]at h0;simp only[cv]at k3 k4 k5;simp only[au9,false_or]at h0;omega
  refine aQ ?_;refine Gr fun w1 hw=>?_;exact⟨cx,by rw[kj,if_neg hz],by rw[uZ,gF,if_neg (fun h=>hz h.1)],pG cx (ah.mem hw)⟩
 have hk:oC (cv c) b g xs=true:=by
  cases k1:ig (cv c) b with
  |false=>rw[k1]at h0;simp at h0
  |true=>
   rw[k1]at h0;simp only[au9,false_or]at h0;exact jQ.2 ⟨k1,by omega,by simp only[cv];omega,by simp only[cv];omega,by simp only[cv];omega⟩
 have hh:=(jQ.1 hk).1;have Hk:=(ij.1 hh).2;have dM:cx.blocks.xs.length=c.blocks.xs.length:=by have:=congrArg (fun v:CV=>v.blocks.length) uZ;simpa only[cv,ie]using this
 have Bh:cx.ops=c.ops:=congrArg CV.ops uZ;have pP:(cv c).blocks.length=c.blocks.xs.length:=ie _;obtain⟨B,hB⟩:=get_some (xs:=cx.blocks.xs) (i:=b.toNat) oM;have oS:b.toNat<cx.blocks.xs.length:=(zz.1 hB).1;have fm:bv B=aj (cv c) b:=by
  have h1:=Gp hh;have h2:=nP hB;rw[show jk cx.blocks.xs=(cv c).blocks from congrArg CV.blocks uZ,h1]at h2;exact(atl h2).symm
 have gI:ra c.pages c.size (bv B)=true:=by rw[fm];exact rb hh
 obtain⟨o1,o2,o3,o4,o5,o6⟩:=fu.1 gI;have iU:=mF.1 (eM.1 (ij.1 hh).1).1;have DB:=(eM.1 (ij.1 hh).1).2.1;simp only[bv,cv]at o1 o2 o3 o4 o5 o6 iU DB;have TU:=pC B.pages.xs;obtain⟨_,k2,k3,k4,k5⟩:=jQ.1 hk;simp only[cv]at k3 k4 k5;refine ar ?_;refine Gb ?_ ?_<;>intro h1
 ·
  refine aQ ?_;refine Gr fun w1 hw=>?_;exact⟨cx,by rw[kj,if_pos hk,if_pos (show(cv c).off=true from h1)],by rw[uZ,gF,if_neg (fun h=>absurd (h1.symm.trans h.2.1) (by simp))],pG cx (ah.mem hw)⟩
 have lK:(cv c).off=false:=h1;refine ar ?_;refine ag (bh rfl rfl b.toNat oM oS) (ar ?_);refine ag (aN rfl rfl) (ag (bT (j:=3) rfl b.toNat hB rfl (by decide)) (al ?_));refine bJ rfl rfl rfl (fun hg=>(Ry.yl (gq (aF hg rfl)))) (bJ rfl rfl rfl (fun hg=>(Ry.yl (aN (aF hg rfl) rfl))) (bJ rfl rfl rfl (fun hg=>(Ry.yl (bT (j:=1) (aF hg rfl) b.toNat hB rfl (by decide)))) (al ?_)));refine Gb ?_ ?_<;>intro h2
 ·
  have fx:(aj (cv c) b).bad=true\/g≠(aj (cv c) b).used:=by rw[←fm];exact h2
  refine aQ ?_;refine Gr fun w1 hw=>?_;exact⟨cx,by rw[kj,if_pos hk,if_neg (by rw[lK];simp),if_pos fx],by rw[uZ,gF,if_neg (fun h=>fx.elim (fun g1=>absurd (g1.symm.trans h.2.2.1) (by simp)) (fun g1=>g1 h.2.2.2))],pG cx (ah.mem hw)⟩
 have fx: ¬((aj (cv c) b).bad=true\/g≠(aj (cv c) b).used):=by
  rw[←fm];rintro(h|h)
  ·
   exact absurd (h2.1.symm.trans h) (by simp)
  exact h h2.2
 have hgu:g=B.used:=h2.2;obtain⟨q,hq⟩:=get_some (xs:=(aP B.pages.xs)) (i:=g.toNat) oM;have yi:=o6 q (alM hq);have cd:B.pages.xs≠[]:=fun e=>by
  have h9:(aP B.pages.xs).length=0:=by rw[e];rfl
  omega
 have uW:(cx.blocks.xs.set b.toNat ({B with used:=B.used+1}:Bk))[b.toNat]? =Option.some ({B with used:=B.used+1}:Bk):=atE oS
 have fU:gF (cv c) b g xs=iL (cv c) b g xs:=by
  rw[gF,if_pos ⟨hk,lK,by cases hb:(aj (cv c) b).bad with|false=>rfl|true=>exact absurd (.inl hb) fx,Decidable.not_not.1 fun h=>fx (.inr h)⟩]
 refine kD ?_;refine Rk (pr:=fun rm:Sv=>rm.nil=false/\rm.sp=none/\B.pages.xs=dG rm 0 (aP B.pages.xs)) (fun rm:Sv=>[own (cq (τ:=UInt8)) 1 B.pages.sv B.pages.xs,own aO 1 rm (aP B.pages.xs).flatten,own cl 4 cx.blocks.sv cx.blocks.xs,ai.all ((cx.blocks.xs.eraseIdx b.toNat).map fun b:Bk=>fC b.pages),own dA 4 cx.aD.sv cx.aD.xs,aq tD (aV cx) 59,aq b8 (aV gY) 59,aq b4 (aV c) 59]) (fun w hw=>Q4 hB cd (ah.mem hw)) fun rm DG=>?_;obtain⟨hn,hs,Bq⟩:=DG;have Br:B.pages.xs[g.toNat]? =Option.some ⟨(win rm ((aP B.pages.xs).take g.toNat).flatten.length (((aP B.pages.xs).take g.toNat).flatten.length+q.length)),q⟩:=by rw[Bq,xn,Gx hq,auf]
 have Uo: ∀r:List UInt8,r.length=q.length->B.pages.xs.map (fun x=>x.sv)=(dG rm 0 ((aP B.pages.xs).set g.toNat r)).map (fun x=>x.sv):=fun r hr=>(congrArg (List.map fun x:Sl UInt8=>x.sv) Bq).trans (acE hq hr);refine Gi ?_;refine Gs ?_;refine cO (bM rfl oM) (Gs ?_);refine ag (aE (v:= .agg (dA ((br (cv c)).1))) rfl rfl) (ag (aE (v:= .bool ((br (cv c)).2)) rfl rfl) (bt fun wg=>di ?_));refine dO (cs':=aV (⟨cx.pages,cx.size,cx.blocks,(cx.ops+1),cx.off,cx.aD⟩:Cp)) rfl rfl (by show 3<6;decide) (by first|rfl|exact Sv.one _) rfl (al ?_);refine ag (aN rfl rfl) (ag (bT (j:=1) rfl b.toNat hB rfl (by decide)) (av ?_));refine ag (aN rfl rfl) (mv (s:=cx.blocks.sv) (n:=1) (k:=b.toNat) (j:=1) (a:=B) (a':=({B with used:=B.used+1}:Bk)) (xs:=cx.blocks.xs) (enc:=cl) (c:=4) (v:= .int .i64 (B.used+1)) oK rfl rfl rfl hB (by simp[Value.cells,Value.oneCell']) (by rfl) (by decide) (by rfl) (al ?_))
 refine ag (aN rfl rfl) (ag (Ry.to (v':=B.pages.sv.val) (bT (j:=0) rfl b.toNat uW rfl (by decide)) rfl) (Gs ?_));refine ag (bh rfl rfl g.toNat oM oM) (ag (Ry.to (v':=(win rm ((aP B.pages.xs).take g.toNat).flatten.length (((aP B.pages.xs).take g.toNat).flatten.length+q.length)).val) (bT (j:=0) rfl g.toNat Br rfl (by decide)) rfl) (Gs ?_));refine acq (D:=(win rm ((aP B.pages.xs).take g.toNat).flatten.length (((aP B.pages.xs).take g.toNat).flatten.length+q.length))) (S:=x) (rm:=rm) (k:=((aP B.pages.xs).take g.toNat).flatten.length) (xs:=(aP B.pages.xs).flatten) (ys:=xs) rfl hn hs rfl (by rw[AH oM];omega) rfl (by decide) hn oM (by simp only[win];omega) (by have:=CW hq;have:=CX (aP B.pages.xs) (g.toNat+1);omega) (ar ?_);refine Gb ?_ ?_<;>intro h3
 ·
  have np:pE (cv c) xs=xs:=by rw[pE,if_neg (by rw[h3];simp)]
  refine aQ ?_;refine Gr fun w1 hw=>?_;exact⟨(⟨cx.pages,cx.size,⟨cx.blocks.sv,cx.blocks.xs.set b.toNat ⟨⟨B.pages.sv,dG rm 0 ((aP B.pages.xs).set g.toNat xs)⟩,B.used+1,B.aU,B.bad⟩⟩,cx.ops+1,cx.off,cx.aD⟩:Cp),by rw[kj,if_pos hk,if_neg (by rw[lK];simp),if_neg fx,if_neg (by rw[h3];simp)];rfl,by rw[Q9 uZ fm,fU,iL,np,h3,avR,show cx.off=(cv c).off from congrArg CV.off uZ,lK],(by
   rw[←Gw hq oM]at hw;exact pG (⟨cx.pages,cx.size,⟨cx.blocks.sv,cx.blocks.xs.set b.toNat ⟨⟨B.pages.sv,dG rm 0 ((aP B.pages.xs).set g.toNat xs)⟩,B.used+1,B.aU,B.bad⟩⟩,cx.ops+1,cx.off,cx.aD⟩:Cp) (Gy (rm:=rm) (l:=(aP B.pages.xs).set g.toNat xs) (B:=({B with used:=B.used+1}:Bk)) (B':=⟨⟨B.pages.sv,dG rm 0 ((aP B.pages.xs).set g.toNat xs)⟩,B.used+1,B.aU,B.bad⟩) (sp:=B.pages.sv) (ps:=B.pages.xs) oS (Uo _ oM) hn rfl rfl (ah.mem hw)))⟩
 have np:pE (cv c) xs=df (~~~(br (cv c)).1.mask) xs:=by rw[pE,if_pos h3]
 have oN:df (~~~(br (cv c)).1.mask) (xs.take 0)++xs.drop 0=xs:=by simp[df]
 refine aQ ?_;refine ck (X:=Nat) (fun U=>[(96, .int .i64 (U:Nat)),(2, .int .i64 g),(8, .pointer (some ⟨b8,0,none⟩)),(10, .pointer (some ⟨tD,0,none⟩)),(11, .pointer (some ⟨cx.blocks.sv.b,cx.blocks.sv.o+b.toNat*4,none⟩)),(12, .pointer (some ⟨wg,0,none⟩)),(95, .int .i64 c.size)]) (fun U=>[aq wg (dA (br (cv c)).1) 97,own (cq (τ:=UInt8)) 1 B.pages.sv B.pages.xs,own aO 1 rm ((aP B.pages.xs).set g.toNat (df (~~~(br (cv c)).1.mask) (xs.take U)++xs.drop U)).flatten,own cl 4 cx.blocks.sv (cx.blocks.xs.set b.toNat ({B with used:=B.used+1}:Bk)),ai.all ((cx.blocks.xs.eraseIdx b.toNat).map fun b:Bk=>fC b.pages),own dA 4 cx.aD.sv cx.aD.xs,aq tD (aV (⟨cx.pages,cx.size,cx.blocks,(cx.ops+1),cx.off,cx.aD⟩:Cp)) 59,aq b8 (aV gY) 59,aq b4 (aV c) 59]) (fun U=>U<=xs.length) (fun U=>xs.length -U) 0 (atL _) sb (fun w hw=>by
  rw[oN,Gw hq oM];exact ah.mem hw) ?_
 rintro i bl;refine al ?_;refine Gb ?_ ?_<;>intro h4
 ·
  have wc:(df (~~~(br (cv c)).1.mask) (xs.take i)++xs.drop i).length=xs.length:=KA oM;obtain⟨z,hz⟩:=get_some (xs:=xs) (i:=i) oM;have we:((aP B.pages.xs).set g.toNat (df (~~~(br (cv c)).1.mask) (xs.take i)++xs.drop i)).flatten[((aP B.pages.xs).take g.toNat).flatten.length+i]? =Option.some z:=by
   have h9:=AG (l:=(aP B.pages.xs).set g.toNat (df (~~~(br (cv c)).1.mask) (xs.take i)++xs.drop i)) (i:=g.toNat) (j:=i) (atE oM) oM;rw[Kz]at h9;rw[h9,Ra oM,hz]
  refine ar ?_;refine ji [15,1009] [[],[],[],[],[],[],[],[],[],[],[],[],[],[9],[9],[9]] [0,1,2,3,4,5,6,7,8,9,10,11,12,13,14,15] [own (cq (τ:=UInt8)) 1 B.pages.sv B.pages.xs,own cl 4 cx.blocks.sv (cx.blocks.xs.set b.toNat ({B with used:=B.used+1}:Bk)),aq wg (dA (br (cv c)).1) 97] (fun _ hw=>ah.mem hw) oK oK (an rfl (bo rfl) (an rfl (gq rfl) (an rfl (aN rfl rfl) (an rfl (Ry.to (v':=B.pages.sv.val) (bT (j:=0) rfl b.toNat uW rfl (by decide)) rfl) (an rfl (bo rfl) (an rfl (bh rfl rfl g.toNat oM oM) (an rfl (Ry.to (v':=(win rm ((aP B.pages.xs).take g.toNat).flatten.length (((aP B.pages.xs).take g.toNat).flatten.length+q.length)).val) (bT (j:=0) rfl g.toNat Br rfl (by decide)) rfl) (an rfl (bo rfl) ?_))))))))
  obtain⟨afG,afH⟩:=get_some (xs:=q) (i:=i) oM;refine an rfl (pd (s:=(win rm ((aP B.pages.xs).take g.toNat).flatten.length (((aP B.pages.xs).take g.toNat).flatten.length+q.length))) (i:=i) rfl rfl rfl (GA hn hs oM) (by simp only[win];omega)) (gE rfl (bT (s:=rm) (enc:=aO) (c:=1) (xs:=((aP B.pages.xs).set g.toNat (df (~~~(br (cv c)).1.mask) (xs.take i)++xs.drop i)).flatten) (a:=z) (j:=0) (v:= .int .u8 z.toNat) rfl (((aP B.pages.xs).take g.toNat).flatten.length+i) we (by rw[AH oM];omega) (by decide)) (an rfl (aN (o':=3) rfl rfl) (an rfl (bI rfl) (an rfl (acx rfl) (an rfl (Q5 rfl rfl) ?_)))));obtain⟨arj,ark⟩:=get_some (xs:=q) (i:=i) oM;refine an rfl (pd (s:=(win rm ((aP B.pages.xs).take g.toNat).flatten.length (((aP B.pages.xs).take g.toNat).flatten.length+q.length))) (i:=i) rfl rfl rfl (GA hn hs oM) (by simp only[win];omega)) ?_;refine dr rfl (yQ (s:=rm) (n:=1) (k:=((aP B.pages.xs).take g.toNat).flatten.length+i) (j:=0) (a:=z) (a':=z|||(~~~(br (cv c)).1.mask)) (xs:=((aP B.pages.xs).set g.toNat (df (~~~(br (cv c)).1.mask) (xs.take i)++xs.drop i)).flatten) (enc:=aO) (c:=1) (v:= .int .u8 (z|||(~~~(br (cv c)).1.mask)).toNat) oK rfl rfl (by rw[AH oM];omega) we (by simp[Value.cells,Value.oneCell']) rfl oM (by rfl) ⟨fun _ hw=>ah.mem hw,?_⟩);refine al ?_;refine Gi ?_;exact bw (x:=(i)) (i+1) oF oF sb (fun w hw=>by
   rw[Rb hq hz];exact ah.mem hw)
 obtain rfl:i=xs.length:=by omega
 have A6:df (~~~(br (cv c)).1.mask) (xs.take xs.length)++xs.drop xs.length=df (~~~(br (cv c)).1.mask) xs:=by rw[atP,avG,auh]
 refine ar ?_;refine ag (aE (v:= .bool (((br (cv c)).1).cut)) rfl rfl) (ag (aE (v:= .int .i64 (lW ((br (cv c)).1))) rfl rfl) (aQ ?_));refine dO (cs':=aV (⟨cx.pages,cx.size,cx.blocks,(cx.ops+1),((br (cv c)).1).cut,cx.aD⟩:Cp)) rfl rfl (by show 4<6;decide) (by first|rfl|exact Sv.one _) rfl (aZ ?_);refine Gr fun w1 hw=>?_;exact⟨(⟨cx.pages,cx.size,⟨cx.blocks.sv,cx.blocks.xs.set b.toNat ⟨⟨B.pages.sv,dG rm 0 ((aP B.pages.xs).set g.toNat (df (~~~(br (cv c)).1.mask) xs))⟩,B.used+1,B.aU,B.bad⟩⟩,cx.ops+1,(br (cv c)).1.cut,cx.aD⟩:Cp),by rw[kj,if_pos hk,if_neg (by rw[lK];simp),if_neg fx,if_pos h3];rfl,by rw[Q9 uZ fm,fU,iL,np,h3,aup],(by
  rw[A6]at hw;have hhl:(df (~~~(br (cv c)).1.mask) xs).length=xs.length:=by rw[df,atM]
  exact pG (⟨cx.pages,cx.size,⟨cx.blocks.sv,cx.blocks.xs.set b.toNat ⟨⟨B.pages.sv,dG rm 0 ((aP B.pages.xs).set g.toNat (df (~~~(br (cv c)).1.mask) xs))⟩,B.used+1,B.aU,B.bad⟩⟩,cx.ops+1,(br (cv c)).1.cut,cx.aD⟩:Cp) (Gy (rm:=rm) (l:=(aP B.pages.xs).set g.toNat (df (~~~(br (cv c)).1.mask) xs)) (B:=({B with used:=B.used+1}:Bk)) (B':=⟨⟨B.pages.sv,dG rm 0 ((aP B.pages.xs).set g.toNat (df (~~~(br (cv c)).1.mask) xs))⟩,B.used+1,B.aU,B.bad⟩) (sp:=B.pages.sv) (ps:=B.pages.xs) oS (Uo _ oM) hn rfl rfl (ah.mem hw)))⟩)⟩
instance arl{c:Cp}{b:Int}[hc:aX w0 L c]:bV Tryz.prog 252 w0 L [.agg (aV c), .int .i64 b] (Cp) (fun U=> .tuple #[.agg (aV U), .int .i64 (dY (cv c) b)]) (fun U=>fz U::L) (fun U=>cv U=gf (cv c) b) (gw c):=⟨fun aA w hw=>Gk (fun U=>[fz U]) hw (by
 have hc:=hc.h w hw;have lJ:cQ w c:=⟨hc⟩;have iu:gw c:=aA;obtain⟨mf,jF,qD⟩:=aA;have qw:cS=1099511627776:=rfl;have nX:=yW (c:=c) (b:=b);have hwe:(c.blocks.xs.getD b.toNat q8).aU=(aj (cv c) b).aU:=congrArg BV.aU nX;refine dz Tryz.func252 rfl Tryz.ntmps252 rfl ?_;refine Gc ?_;refine cm rfl fun b2=>bt fun b4=>al ?_;refine bb rfl (by assumption) fun aC lG=>bt fun b6=>JZ ?_;refine bJ rfl rfl rfl (fun hg=>(Ry.yl (bh (aF hg rfl) (aF hg rfl) b.toNat (by simp only[Z0,Z1,Z2,Z3,Z4,Z5,Z6,Z7,Z8,Z9]at hg;have:=(KC hg.1).1;omega) (by simp only[Z0,Z1,Z2,Z3,Z4,Z5,Z6,Z7,Z8,Z9]at hg;exact(KC hg.1).2)))) (bJ rfl rfl rfl (fun hg=>(Ry.yl (aN (aF hg rfl) rfl))) (bJ rfl rfl rfl (fun hg=>(Ry.yl (bT (j:=2) (aF hg rfl) b.toNat (po (xs:=c.blocks.xs) (i:=b.toNat) (d:=q8) (by simp only[Z0,Z1,Z2,Z3,Z4,Z5,Z6,Z7,Z8,Z9]at hg;exact(KC hg.1).2)) rfl (by decide)))) (al ?_)));refine Gb ?_ ?_<;>intro h0
 ·
  have hz: ¬pF (cv c) b=true:=fun hk=>by
   obtain⟨k1,k2,k3⟩:=qp.1 hk;rw[k1]at h0;simp only[cv]at k2;simp only[au9,false_or]at h0;omega
  refine aQ ?_;refine Gr fun w1 hw=>?_;exact⟨aC,by rw[dY,if_neg hz],by rw[lG,gf,if_neg (fun h=>hz h.1)],pG aC (ah.mem hw)⟩
 have hk:pF (cv c) b=true:=by
  cases k1:ig (cv c) b with
  |false=>rw[k1]at h0;simp at h0
  |true=>
   rw[k1]at h0;simp only[au9,false_or]at h0;exact qp.2 ⟨k1,by simp only[cv];omega,by omega⟩
 have hh:=(qp.1 hk).1;have Hk:=(ij.1 hh).2;have dM:aC.blocks.xs.length=c.blocks.xs.length:=by have:=congrArg (fun v:CV=>v.blocks.length) lG;simpa only[cv,ie]using this
 have Bh:aC.ops=c.ops:=congrArg CV.ops lG;have pP:(cv c).blocks.length=c.blocks.xs.length:=ie _;obtain⟨B,hB⟩:=get_some (xs:=aC.blocks.xs) (i:=b.toNat) oM;have oS:b.toNat<aC.blocks.xs.length:=(zz.1 hB).1;have fm:bv B=aj (cv c) b:=by
  have h1:=Gp hh;have h2:=nP hB;rw[show jk aC.blocks.xs=(cv c).blocks from congrArg CV.blocks lG,h1]at h2;exact(atl h2).symm
 have gI:ra c.pages c.size (bv B)=true:=by rw[fm];exact rb hh
 obtain⟨o1,o2,o3,o4,o5,o6⟩:=fu.1 gI;have iU:=mF.1 (eM.1 (ij.1 hh).1).1;have DB:=(eM.1 (ij.1 hh).1).2.1;simp only[bv,cv]at o1 o2 o3 o4 o5 o6 iU DB;have TU:=pC B.pages.xs;obtain⟨_,k2,k3⟩:=qp.1 hk;rw[←fm]at k3;simp only[cv,bv]at k2 k3;refine ar ?_;refine Gb ?_ ?_<;>intro h1
 ·
  refine aQ ?_;refine Gr fun w1 hw=>?_;exact⟨aC,by rw[dY,if_pos hk,if_pos (show(cv c).off=true from h1)],by rw[lG,gf,if_neg (fun h=>absurd (h1.symm.trans h.2.1) (by simp))],pG aC (ah.mem hw)⟩
 have lK:(cv c).off=false:=h1;refine ar ?_;refine ag (bh rfl rfl b.toNat oM oS) (ar ?_);refine ag (aN rfl rfl) (ag (bT (j:=3) rfl b.toNat hB rfl (by decide)) (Gc ?_));refine Gb ?_ ?_<;>intro h2
 ·
  have fx:(aj (cv c) b).bad=true:=by rw[←fm];exact h2
  refine aQ ?_;refine Gr fun w1 hw=>?_;exact⟨aC,by rw[dY,if_pos hk,if_neg (by rw[lK];simp),if_pos fx],by rw[lG,gf,if_neg (fun h=>absurd (fx.symm.trans h.2.2) (by simp))],pG aC (ah.mem hw)⟩
 have fx:(aj (cv c) b).bad=false:=by rw[←fm];exact h2
 have cd:B.pages.xs≠[]:=fun e=>by
  have h9:(aP B.pages.xs).length=0:=by rw[e];rfl
  omega
 have uW:(aC.blocks.xs.set b.toNat ({B with aU:=B.aU+1}:Bk))[b.toNat]? =Option.some ({B with aU:=B.aU+1}:Bk):=atE oS
 have fU:gf (cv c) b=lj (cv c) b:=by
  rw[gf,if_pos ⟨hk,lK,fx⟩]
 have CF: ∀x∈(aP B.pages.xs),((fun _:List UInt8=>ik c.size) x).length=x.length:=fun x hx=>by have:=o6 x hx;simp only[ik,aue];omega
 have Mj: ∀x∈(aP B.pages.xs),((df (br (cv c)).1.mask) x).length=x.length:=fun x _=>by rw[df,atM]
 refine kD ?_;refine Rk (pr:=fun rm:Sv=>rm.nil=false/\rm.sp=none/\B.pages.xs=dG rm 0 (aP B.pages.xs)) (fun rm:Sv=>[own (cq (τ:=UInt8)) 1 B.pages.sv B.pages.xs,own aO 1 rm (aP B.pages.xs).flatten,own cl 4 aC.blocks.sv aC.blocks.xs,ai.all ((aC.blocks.xs.eraseIdx b.toNat).map fun b:Bk=>fC b.pages),own dA 4 aC.aD.sv aC.aD.xs,aq b6 (aV aC) 59,aq b4 (aV gY) 59,aq b2 (aV c) 59]) (fun w hw=>Q4 hB cd (ah.mem hw)) fun rm DG=>?_;obtain⟨hn,hs,Bq⟩:=DG;have Up: ∀f:List UInt8->List UInt8,(∀x∈(aP B.pages.xs),(f x).length=x.length)->B.pages.xs.map (fun x=>x.sv)=(dG rm 0 ((aP B.pages.xs).map f)).map (fun x=>x.sv):=fun f hf=>(congrArg (List.map fun x:Sl UInt8=>x.sv) Bq).trans (acH hf);refine Gi ?_;refine Gs ?_;refine cO (bM rfl oM) (Gs ?_);refine ag (aE (v:= .agg (dA ((br (cv c)).1))) rfl rfl) (ag (aE (v:= .bool ((br (cv c)).2)) rfl rfl) (bt fun b8=>di ?_));refine dO (cs':=aV (⟨aC.pages,aC.size,aC.blocks,(aC.ops+1),aC.off,aC.aD⟩:Cp)) rfl rfl (by show 3<6;decide) (by first|rfl|exact Sv.one _) rfl (al ?_);refine ag (aN rfl rfl) (ag (bT (j:=2) rfl b.toNat hB rfl (by decide)) (av ?_));refine ag (aN rfl rfl) (mv (s:=aC.blocks.sv) (n:=1) (k:=b.toNat) (j:=2) (a:=B) (a':=({B with aU:=B.aU+1}:Bk)) (xs:=aC.blocks.xs) (enc:=cl) (c:=4) (v:= .int .i64 (B.aU+1)) oK rfl rfl rfl hB (by simp[Value.cells,Value.oneCell']) (by rfl) (by decide) (by rfl) ?_)
 try simp only[avM]
 refine ar ?_;refine Gb ?_ ?_<;>intro h3
 ·
  have np:sY (cv c) (aP B.pages.xs)=(aP B.pages.xs).map (fun _:List UInt8=>ik c.size):=by rw[sY,if_neg (by rw[h3];simp)];rfl
  have Mk:(aC.blocks.xs.set b.toNat ({B with aU:=B.aU+1,used:=0}:Bk))[b.toNat]? =Option.some ({B with aU:=B.aU+1,used:=0}:Bk):=atE oS
  refine al ?_;refine ag (aN rfl rfl) (mv (s:=aC.blocks.sv) (n:=1) (k:=b.toNat) (j:=1) (a:=({B with aU:=B.aU+1}:Bk)) (a':=({B with aU:=B.aU+1,used:=0}:Bk)) (xs:=(aC.blocks.xs.set b.toNat ({B with aU:=B.aU+1}:Bk))) (enc:=cl) (c:=4) (v:= .int .i64 0) oK rfl rfl rfl uW (by simp[Value.cells,Value.oneCell']) (by rfl) (by decide) (by rfl) ?_)
  try simp only[avM]
  refine aQ ?_;refine ck (X:=Nat) (fun U=>[(71, .int .i64 (U:Nat)),(4, .pointer (some ⟨b4,0,none⟩)),(6, .pointer (some ⟨b6,0,none⟩)),(7, .pointer (some ⟨aC.blocks.sv.b,aC.blocks.sv.o+b.toNat*4,none⟩)),(70, .int .i64 c.pages)]) (fun U=>[aq b8 (dA (br (cv c)).1) 97,own (cq (τ:=UInt8)) 1 B.pages.sv B.pages.xs,own aO 1 rm (mixed (fun _:List UInt8=>ik c.size) (aP B.pages.xs) U).flatten,own cl 4 aC.blocks.sv (aC.blocks.xs.set b.toNat ({B with aU:=B.aU+1,used:=0}:Bk)),ai.all ((aC.blocks.xs.eraseIdx b.toNat).map fun b:Bk=>fC b.pages),own dA 4 aC.aD.sv aC.aD.xs,aq b6 (aV (⟨aC.pages,aC.size,aC.blocks,(aC.ops+1),aC.off,aC.aD⟩:Cp)) 59,aq b4 (aV gY) 59,aq b2 (aV c) 59]) (fun U=>U<=(aP B.pages.xs).length) (fun U=>(aP B.pages.xs).length -U) 0 (atL _) sb (fun w hw=>by
   rw[Rc];exact ah.mem hw) ?_
  rintro k bl;refine al ?_;refine Gb ?_ ?_<;>intro h4
  ·
   obtain⟨q,hq⟩:=get_some (xs:=(aP B.pages.xs)) (i:=k) oM;have yi:=o6 q (alM hq);have Br:B.pages.xs[k]? =Option.some ⟨(win rm ((aP B.pages.xs).take k).flatten.length (((aP B.pages.xs).take k).flatten.length+q.length)),q⟩:=by rw[Bq,xn,Gx hq,auf]
   refine aZ ?_;refine ag (aN rfl rfl) (ag (Ry.to (v':=B.pages.sv.val) (bT (j:=0) rfl b.toNat Mk rfl (by decide)) rfl) (Gs ?_));refine ag (bh rfl rfl k rfl oM) (ag (Ry.to (v':= .slice (some ⟨rm.b,rm.o+((aP B.pages.xs).take k).flatten.length,none⟩) q.length q.length) (bT (j:=0) rfl k Br rfl (by decide)) (acI hn hs oM)) (bb rfl ⟨by have h9:=congrArg List.length (KB (f:=(fun _:List UInt8=>ik c.size)) hq);have h8:=CX (mixed (fun _:List UInt8=>ik c.size) (aP B.pages.xs) k) (k+1);have h7:=CW (CY (f:=(fun _:List UInt8=>ik c.size)) hq);rw[GB CF oM]at h7;omega,by omega⟩ fun x81 arn=>al ?_));refine Gi ?_;exact bw (x:=(k)) (k+1) oF oF sb (fun w hw=>by
    rw[acG hq CF (n:=q.length) (by simp only[ik];congr 1;omega) rfl];exact ah.mem hw)
  refine aQ ?_;refine Gr fun w1 hw=>?_;exact⟨(⟨aC.pages,aC.size,⟨aC.blocks.sv,aC.blocks.xs.set b.toNat ⟨⟨B.pages.sv,dG rm 0 ((aP B.pages.xs).map (fun _:List UInt8=>ik c.size))⟩,0,B.aU+1,B.bad⟩⟩,aC.ops+1,aC.off,aC.aD⟩:Cp),by rw[dY,if_pos hk,if_neg (by rw[lK];simp),if_neg (by rw[fx];simp),if_neg (by rw[h3];simp)];rfl,by rw[Re lG fm,fU,lj,←fm,show(bv B).pages=(aP B.pages.xs)from rfl,np,h3,avR,if_neg (by simp),show aC.off=(cv c).off from congrArg CV.off lG,lK],(by
   rw[Rd oM]at hw;exact pG (⟨aC.pages,aC.size,⟨aC.blocks.sv,aC.blocks.xs.set b.toNat ⟨⟨B.pages.sv,dG rm 0 ((aP B.pages.xs).map (fun _:List UInt8=>ik c.size))⟩,0,B.aU+1,B.bad⟩⟩,aC.ops+1,aC.off,aC.aD⟩:Cp) (Gy (rm:=rm) (l:=(aP B.pages.xs).map (fun _:List UInt8=>ik c.size)) (B:=({B with aU:=B.aU+1,used:=0}:Bk)) (B':=⟨⟨B.pages.sv,dG rm 0 ((aP B.pages.xs).map (fun _:List UInt8=>ik c.size))⟩,0,B.aU+1,B.bad⟩) (sp:=B.pages.sv) (ps:=B.pages.xs) oS (Up _ CF) hn rfl rfl (ah.mem hw)))⟩
 have np:sY (cv c) (aP B.pages.xs)=(aP B.pages.xs).map (df (br (cv c)).1.mask):=by rw[sY,if_pos h3]
 have Mk:(aC.blocks.xs.set b.toNat ({B with aU:=B.aU+1,used:=c.pages}:Bk))[b.toNat]? =Option.some ({B with aU:=B.aU+1,used:=c.pages}:Bk):=atE oS
 refine aQ ?_;refine ag (aN rfl rfl) (mv (s:=aC.blocks.sv) (n:=1) (k:=b.toNat) (j:=1) (a:=({B with aU:=B.aU+1}:Bk)) (a':=({B with aU:=B.aU+1,used:=c.pages}:Bk)) (xs:=(aC.blocks.xs.set b.toNat ({B with aU:=B.aU+1}:Bk))) (enc:=cl) (c:=4) (v:= .int .i64 c.pages) oK rfl rfl rfl uW (by simp[Value.cells,Value.oneCell']) (by rfl) (by decide) (by rfl) ?_)
 try simp only[avM]
 refine aQ ?_;refine ck (X:=Nat) (fun U=>[(91, .int .i64 (U:Nat)),(2, .pointer (some ⟨b2,0,none⟩)),(4, .pointer (some ⟨b4,0,none⟩)),(6, .pointer (some ⟨b6,0,none⟩)),(7, .pointer (some ⟨aC.blocks.sv.b,aC.blocks.sv.o+b.toNat*4,none⟩)),(8, .pointer (some ⟨b8,0,none⟩)),(90, .int .i64 c.pages)]) (fun U=>[aq b8 (dA (br (cv c)).1) 97,own (cq (τ:=UInt8)) 1 B.pages.sv B.pages.xs,own aO 1 rm (mixed (df (br (cv c)).1.mask) (aP B.pages.xs) U).flatten,own cl 4 aC.blocks.sv (aC.blocks.xs.set b.toNat ({B with aU:=B.aU+1,used:=c.pages}:Bk)),ai.all ((aC.blocks.xs.eraseIdx b.toNat).map fun b:Bk=>fC b.pages),own dA 4 aC.aD.sv aC.aD.xs,aq b6 (aV (⟨aC.pages,aC.size,aC.blocks,(aC.ops+1),aC.off,aC.aD⟩:Cp)) 59,aq b4 (aV gY) 59,aq b2 (aV c) 59]) (fun U=>U<=(aP B.pages.xs).length) (fun U=>(aP B.pages.xs).length -U) 0 (atL _) sb (fun w hw=>by
  rw[Rc];exact ah.mem hw) ?_
 rintro k CP;refine al ?_;refine Gb ?_ ?_<;>intro h5
 ·
  obtain⟨q,hq⟩:=get_some (xs:=(aP B.pages.xs)) (i:=k) oM;have yi:=o6 q (alM hq);have Br:B.pages.xs[k]? =Option.some ⟨(win rm ((aP B.pages.xs).take k).flatten.length (((aP B.pages.xs).take k).flatten.length+q.length)),q⟩:=by rw[Bq,xn,Gx hq,auf]
  refine fI ?_;refine ck (X:=Nat) (fun U=>[(96, .int .i64 (U:Nat)),(2, .pointer (some ⟨b2,0,none⟩)),(4, .pointer (some ⟨b4,0,none⟩)),(6, .pointer (some ⟨b6,0,none⟩)),(7, .pointer (some ⟨aC.blocks.sv.b,aC.blocks.sv.o+b.toNat*4,none⟩)),(8, .pointer (some ⟨b8,0,none⟩)),(11, .int .i64 (k:Nat)),(90, .int .i64 c.pages),(91, .int .i64 (k:Nat)),(95, .int .i64 c.size)]) (fun U=>[aq b8 (dA (br (cv c)).1) 97,own (cq (τ:=UInt8)) 1 B.pages.sv B.pages.xs,own aO 1 rm ((mixed (df (br (cv c)).1.mask) (aP B.pages.xs) k).set k (df (br (cv c)).1.mask (q.take U)++q.drop U)).flatten,own cl 4 aC.blocks.sv (aC.blocks.xs.set b.toNat ({B with aU:=B.aU+1,used:=c.pages}:Bk)),ai.all ((aC.blocks.xs.eraseIdx b.toNat).map fun b:Bk=>fC b.pages),own dA 4 aC.aD.sv aC.aD.xs,aq b6 (aV (⟨aC.pages,aC.size,aC.blocks,(aC.ops+1),aC.off,aC.aD⟩:Cp)) 59,aq b4 (aV gY) 59,aq b2 (aV c) 59]) (fun U=>U<=q.length) (fun U=>q.length -U) 0 (atL _) sb (fun w hw=>by
   rw[atW,auI,df,auv,aug,xo (CY hq)];exact ah.mem hw) ?_
  rintro j gA;refine al ?_;refine Gb ?_ ?_<;>intro h6
  ·
   have wc:(df (br (cv c)).1.mask (q.take j)++q.drop j).length=q.length:=KA oM;obtain⟨z,hz⟩:=get_some (xs:=q) (i:=j) oM;have we:((mixed (df (br (cv c)).1.mask) (aP B.pages.xs) k).set k (df (br (cv c)).1.mask (q.take j)++q.drop j)).flatten[((aP B.pages.xs).take k).flatten.length+j]? =Option.some z:=by
    have h9:=AG (l:=(mixed (df (br (cv c)).1.mask) (aP B.pages.xs) k).set k (df (br (cv c)).1.mask (q.take j)++q.drop j)) (i:=k) (j:=j) (atE (zz.1 (CY (f:=(df (br (cv c)).1.mask)) hq)).1) oM;rw[Kz,GB Mj oM]at h9;rw[h9,Ra oM,hz]
   refine ar ?_;refine ji [14,1009] [[],[],[],[],[],[],[],[],[],[],[],[],[9],[9],[9]] [0,1,2,3,4,5,6,7,8,9,10,11,12,13,14] [own (cq (τ:=UInt8)) 1 B.pages.sv B.pages.xs,own cl 4 aC.blocks.sv (aC.blocks.xs.set b.toNat ({B with aU:=B.aU+1,used:=c.pages}:Bk)),aq b8 (dA (br (cv c)).1) 97] (fun _ hw=>ah.mem hw) oK oK (an rfl (bo rfl) (an rfl (gq rfl) (an rfl (aN rfl rfl) (an rfl (Ry.to (v':=B.pages.sv.val) (bT (j:=0) rfl b.toNat Mk rfl (by decide)) rfl) (an rfl (bo rfl) (an rfl (bh rfl rfl k rfl oM) (an rfl (Ry.to (v':=(win rm ((aP B.pages.xs).take k).flatten.length (((aP B.pages.xs).take k).flatten.length+q.length)).val) (bT (j:=0) rfl k Br rfl (by decide)) rfl) (an rfl (bo rfl) ?_))))))))
   obtain⟨afG,afH⟩:=get_some (xs:=q) (i:=j) oM;refine an rfl (pd (s:=(win rm ((aP B.pages.xs).take k).flatten.length (((aP B.pages.xs).take k).flatten.length+q.length))) (i:=j) rfl rfl rfl (GA hn hs oM) (by simp only[win];omega)) (gE rfl (bT (s:=rm) (enc:=aO) (c:=1) (xs:=((mixed (df (br (cv c)).1.mask) (aP B.pages.xs) k).set k (df (br (cv c)).1.mask (q.take j)++q.drop j)).flatten) (a:=z) (j:=0) (v:= .int .u8 z.toNat) rfl (((aP B.pages.xs).take k).flatten.length+j) we (by rw[AH oM];omega) (by decide)) (an rfl (aN (o':=3) rfl rfl) (an rfl (bI rfl) (an rfl (Q5 rfl rfl) ?_))));obtain⟨aro,arp⟩:=get_some (xs:=q) (i:=j) oM;refine an rfl (pd (s:=(win rm ((aP B.pages.xs).take k).flatten.length (((aP B.pages.xs).take k).flatten.length+q.length))) (i:=j) rfl rfl rfl (GA hn hs oM) (by simp only[win];omega)) ?_;refine dr rfl (yQ (s:=rm) (n:=1) (k:=((aP B.pages.xs).take k).flatten.length+j) (j:=0) (a:=z) (a':=z|||(br (cv c)).1.mask) (xs:=((mixed (df (br (cv c)).1.mask) (aP B.pages.xs) k).set k (df (br (cv c)).1.mask (q.take j)++q.drop j)).flatten) (enc:=aO) (c:=1) (v:= .int .u8 (z|||(br (cv c)).1.mask).toNat) oK rfl rfl (by rw[AH oM];omega) we (by simp[Value.cells,Value.oneCell']) rfl oM (by rfl) ⟨fun _ hw=>ah.mem hw,?_⟩);refine al ?_;refine Gi ?_;exact bw (x:=(j)) (j+1) oF oF sb (fun w hw=>by
    rw[Rb (CY hq) hz,GB Mj oM];exact ah.mem hw)
  obtain rfl:j=q.length:=by omega
  refine al ?_;refine Gi ?_;exact bw (x:=(k)) (k+1) oF oF sb (fun w hw=>by
   rw[←KB hq];rw[atP,avG,auh]at hw;exact ah.mem hw)
 refine ar ?_;refine ag (aE (v:= .bool (((br (cv c)).1).cut)) rfl rfl) (ag (aE (v:= .int .i64 (lW ((br (cv c)).1))) rfl rfl) (aQ ?_));refine dO (cs':=aV (⟨aC.pages,aC.size,aC.blocks,(aC.ops+1),((br (cv c)).1).cut,aC.aD⟩:Cp)) rfl rfl (by show 4<6;decide) (by first|rfl|exact Sv.one _) rfl (aZ ?_);refine Gr fun w1 hw=>?_;exact⟨(⟨aC.pages,aC.size,⟨aC.blocks.sv,aC.blocks.xs.set b.toNat ⟨⟨B.pages.sv,dG rm 0 ((aP B.pages.xs).map (df (br (cv c)).1.mask))⟩,c.pages,B.aU+1,B.bad⟩⟩,aC.ops+1,(br (cv c)).1.cut,aC.aD⟩:Cp),by rw[dY,if_pos hk,if_neg (by rw[lK];simp),if_neg (by rw[fx];simp),if_pos h3];rfl,by rw[Re lG fm,fU,lj,←fm,show(bv B).pages=(aP B.pages.xs)from rfl,np,h3,aup,if_pos rfl];rfl,(by
  rw[Rd oM]at hw;exact pG (⟨aC.pages,aC.size,⟨aC.blocks.sv,aC.blocks.xs.set b.toNat ⟨⟨B.pages.sv,dG rm 0 ((aP B.pages.xs).map (df (br (cv c)).1.mask))⟩,c.pages,B.aU+1,B.bad⟩⟩,aC.ops+1,(br (cv c)).1.cut,aC.aD⟩:Cp) (Gy (rm:=rm) (l:=(aP B.pages.xs).map (df (br (cv c)).1.mask)) (B:=({B with aU:=B.aU+1,used:=c.pages}:Bk)) (B':=⟨⟨B.pages.sv,dG rm 0 ((aP B.pages.xs).map (df (br (cv c)).1.mask))⟩,c.pages,B.aU+1,B.bad⟩) (sp:=B.pages.sv) (ps:=B.pages.xs) oS (Up _ Mj) hn rfl rfl (ah.mem hw)))⟩)⟩
theorem afI(w:World):(Instr.build 324 #[(0, .int .i64 1)]).run Tryz.prog w= .ok (.agg (dj ⟨1,0,0,⟨Sv.none,[]⟩⟩)) w:=by kernel_rfl
theorem afJ(w0 w:World)(L:List ai)(k:Nat)(xc:Cp)(xa:Sl Int)(xg:UInt64)(xl:Int)(xy:Bool)(b:Int)(er:Int)(hw:Mem w0 (aq k (aR (⟨⟨xc,xa,xg,xl⟩,xy⟩:aT)) 261::fz xc::L) w)(aA:aW (cv xc)=true):Calls Tryz.prog 253 #[.pointer (some ⟨k,0,none⟩), .int .i64 b, .int .i64 er] w fun e w'=> ∃U:Cp,e= .returned (.tuple #[])/\(cv U=iN (cv xc) b er)/\Mem w0 (aq k (aR (⟨⟨U,xa,xg,xl⟩,xy⟩:aT)) 261::fz U::L) w':=by
 have iu:gw xc:=uw aA;refine gV (args:=[_,_,_]) Tryz.func253 rfl Tryz.ntmps253 rfl hw ?_;change Cw _ _ _ _ _ [(0, .pointer (some ⟨k,0,none⟩)),(1, .int .i64 b),(2, .int .i64 er)] (aq k (aR (⟨⟨xc,xa,xg,xl⟩,xy⟩:aT)) 261::fz xc::L);refine ar ?_;refine Gb ?_ ?_<;>intro h0
 ·
  have hE:iN (cv xc) b er=lX (cv xc) b:=by rw[iN,if_pos h0]
  refine Gi ?_;refine aQ ?_;refine ag (Ry.to (v':= .agg (aV xc)) (fW rfl) rfl) (Gs ?_);refine bb rfl (by assumption) fun aC lG=>Gs ?_;refine ag (aE (v:= .agg (aV aC)) rfl rfl) (ag (aE (v:= .int .i64 (qq (cv xc) b)) rfl rfl) (al ?_));refine qP (cs':=aR (⟨⟨aC,xa,xg,xl⟩,xy⟩:aT)) rfl rfl (by show 0+6<=10;decide) rfl (Gi ?_);refine ez (.inr rfl) (jW rfl) (fun w1 hw=>?_);exact⟨aC,rfl,by rw[hE,lG],ah.mem hw⟩
 have hE:iN (cv xc) b er=(cv xc):=by rw[iN,if_neg h0]
 refine Gi ?_;refine ez (.inr rfl) (jW rfl) (fun w1 hw=>?_);exact⟨xc,rfl,by rw[hE],ah.mem hw⟩
instance arq{w0:World}{L R1 L2:List ai}{i0 i1:Nat}{k:Nat}{xc:Cp}{xa:Sl Int}{xg:UInt64}{xl:Int}{xy:Bool}{b:Int}{er:Int}[q0:Has L k (aR (⟨⟨xc,xa,xg,xl⟩,xy⟩:aT)) 261 i0][d0:cn L i0 R1][q1:At R1 (fz xc) i1][d1:cn R1 i1 L2]:bV Tryz.prog 253 w0 L [.pointer (some ⟨k,0,none⟩), .int .i64 b, .int .i64 er] (Cp) (fun U=> .tuple #[]) (fun U=>aq k (aR (⟨⟨U,xa,xg,xl⟩,xy⟩:aT)) 261::fz U::L2) (fun U=>cv U=iN (cv xc) b er) (aW (cv xc)=true):=⟨fun hp w hw=>afJ w0 w L2 k xc xa xg xl xy b er (px q0.h d0.h q1.h d1.h hw) hp⟩
theorem afK(w0 w:World)(L:List ai)(k:Nat)(xc:Cp)(xa:Sl Int)(xg:UInt64)(xl:Int)(xy:Bool)(b:Int)(y:Sv)(ys:List UInt8)[hy:Hd w0 L y aO 1 ys](hw:Mem w0 (aq k (aR (⟨⟨xc,xa,xg,xl⟩,xy⟩:aT)) 261::fz xc::L) w)(aA:aW (cv xc)=true/\0<=b/\b<(cv xc).blocks.length):Calls Tryz.prog 220 #[.pointer (some ⟨k,0,none⟩), .int .i64 b,y.val] w fun e w'=> ∃U:Cp,e= .returned (.int .i64 (bA (cv xc) b ys))/\(cv U=bx (cv xc) b ys)/\Mem w0 (aq k (aR (⟨⟨U,xa,xg,xl⟩,xy⟩:aT)) 261::fz U::L) w':=by
 obtain⟨hk,ru,uY⟩:=aA;have iu:gw xc:=uw hk;have dM:(cv xc).blocks.length=xc.blocks.xs.length:=ie _;obtain⟨B,hB⟩:=get_some (xs:=xc.blocks.xs) (i:=b.toNat) oM;have tB:Mb B xc.blocks:=⟨List.mem_of_getElem? hB⟩;have fm:=uB hB;have gI:=fu.1 ((eM.1 hk).2.2.2.2 (bv B) (alM (nP hB)));have iU:=mF.1 (eM.1 hk).1;have rv:(aj (cv xc) b).used=B.used:=by rw[fm];rfl
 simp only[bv,cv]at gI iU;refine gV (args:=[_,_,_]) Tryz.func220 rfl Tryz.ntmps220 rfl hw ?_;change Cw _ _ _ _ _ [(0, .pointer (some ⟨k,0,none⟩)),(1, .int .i64 b),(2,y.val)] (aq k (aR (⟨⟨xc,xa,xg,xl⟩,xy⟩:aT)) 261::fz xc::L);refine al ?_;refine qn [17,21,22,2021,4017] [[],[],[],[],[],[],[],[],[],[],[],[],[],[],[],[],[],[],[17],[17],[17],[],[17,21],[17,21,22]] [0,1,2,3,4,5,6,7,8,9,10,11,12,13,14,15,16,17,18,19,20,21,22,23] [aq k (aR (⟨⟨xc,xa,xg,xl⟩,xy⟩:aT)) 261,fz xc] [(21,mz Tryz.prog 59)] oK (fun _ hw=>ah.mem hw) oK oK (an rfl (bo rfl) (an rfl (gq rfl) (an rfl (aN (o':=0) rfl rfl) (an rfl (aN (o':=0) rfl rfl) (an rfl (Ry.to (v':= .agg (aV xc)) (fW rfl) rfl) (an rfl (bo rfl) (an rfl (bo rfl) (an rfl (gq rfl) (an rfl (aN (o':=0) rfl rfl) (an rfl (aN (o':=0) rfl rfl) (an rfl (aN (o':=2) rfl rfl) (an rfl (Ry.to (v':=xc.blocks.sv.val) (bI rfl) rfl) ?_))))))))))));refine an rfl (bo rfl) (an rfl (bh rfl rfl b.toNat oM oM) (an rfl (aN rfl rfl) (an rfl (bT (j:=1) rfl b.toNat hB rfl (by decide)) (an rfl (bo rfl) ?_))));refine vH rfl rfl (by assumption) (fun e x w hw=>ah.mem hw) (Cert.one (i:=21) rfl rfl rfl mA (Cert.none rfl)) fun sa uX=>⟨fun _ hw=>ah.mem hw,?_⟩;refine an rfl (bo rfl) (an rfl (aE (v:= .agg (aV sa)) rfl rfl) (an rfl (aE (v:= .int .i64 (kj (cv xc) b B.used ys)) rfl rfl) (pw (m:=mz Tryz.prog 59) rfl rfl mA (Cert.none rfl) fun b7=>?_)));change Ln _ _ _ _ _ _ _ _ (cy _ _ (.pointer (some ⟨b7,0,none⟩))) (aq b7 (aV gY) 59::_) _;refine dr rfl (ql rfl rfl ⟨fun _ hw=>ah.mem hw,?_⟩);refine an rfl (gS rfl) (aZ ?_);refine qP (cs':=aR (⟨⟨sa,xa,xg,xl⟩,xy⟩:aT)) rfl rfl (by show 0+6<=10;decide) rfl (ar ?_);refine bb rfl (by rw[uX];exact KS hk _ _ _) fun mi wm=>ar ?_;refine Gr fun w1 hw=>?_;exact⟨mi,by rw[bA,rv],by rw[wm,uX,bx,bA,rv],ah.mem hw⟩
instance ars{w0:World}{L R1 L2:List ai}{i0 i1:Nat}{k:Nat}{xc:Cp}{xa:Sl Int}{xg:UInt64}{xl:Int}{xy:Bool}{b:Int}{y:Sv}{ys:List UInt8}[q0:Has L k (aR (⟨⟨xc,xa,xg,xl⟩,xy⟩:aT)) 261 i0][d0:cn L i0 R1][q1:At R1 (fz xc) i1][d1:cn R1 i1 L2][hy:Hd w0 L2 y aO 1 ys]:bV Tryz.prog 220 w0 L [.pointer (some ⟨k,0,none⟩), .int .i64 b,y.val] (Cp) (fun U=> .int .i64 (bA (cv xc) b ys)) (fun U=>aq k (aR (⟨⟨U,xa,xg,xl⟩,xy⟩:aT)) 261::fz U::L2) (fun U=>cv U=bx (cv xc) b ys) (aW (cv xc)=true/\0<=b/\b<(cv xc).blocks.length):=⟨fun hp w hw=>afK w0 w L2 k xc xa xg xl xy b y ys (px q0.h d0.h q1.h d1.h hw) hp⟩
theorem afL(w0 w:World)(L:List ai)(k:Nat)(xc:Cp)(xa:Sl Int)(xg:UInt64)(xl:Int)(xy:Bool)(b:Int)(hw:Mem w0 (aq k (aR (⟨⟨xc,xa,xg,xl⟩,xy⟩:aT)) 261::fz xc::L) w)(aA:aW (cv xc)=true/\0<=b/\b<(cv xc).blocks.length):Calls Tryz.prog 216 #[.pointer (some ⟨k,0,none⟩), .int .i64 b] w fun e w'=> ∃U:Cp,e= .returned (.int .i64 (dY (cv xc) b))/\(cv U=du (cv xc) b)/\Mem w0 (aq k (aR (⟨⟨U,xa,xg,xl⟩,xy⟩:aT)) 261::fz U::L) w':=by
 obtain⟨hk,ru,uY⟩:=aA;have iu:gw xc:=uw hk;have dM:(cv xc).blocks.length=xc.blocks.xs.length:=ie _;obtain⟨B,hB⟩:=get_some (xs:=xc.blocks.xs) (i:=b.toNat) oM;have tB:Mb B xc.blocks:=⟨List.mem_of_getElem? hB⟩;have fm:=uB hB;have gI:=fu.1 ((eM.1 hk).2.2.2.2 (bv B) (alM (nP hB)));have iU:=mF.1 (eM.1 hk).1;have rv:(aj (cv xc) b).used=B.used:=by rw[fm];rfl
 simp only[bv,cv]at gI iU;refine gV (args:=[_,_]) Tryz.func216 rfl Tryz.ntmps216 rfl hw ?_;change Cw _ _ _ _ _ [(0, .pointer (some ⟨k,0,none⟩)),(1, .int .i64 b)] (aq k (aR (⟨⟨xc,xa,xg,xl⟩,xy⟩:aT)) 261::fz xc::L);refine di ?_;refine ag (Ry.to (v':= .agg (aV xc)) (fW rfl) rfl) (Gs ?_);refine bb rfl (by assumption) fun nV A7=>Gs ?_;refine ag (aE (v:= .agg (aV nV)) rfl rfl) (ag (aE (v:= .int .i64 (dY (cv xc) b)) rfl rfl) (bt fun b5=>fI ?_));refine qP (cs':=aR (⟨⟨nV,xa,xg,xl⟩,xy⟩:aT)) rfl rfl (by show 0+6<=10;decide) rfl (ar ?_);refine bb rfl (by rw[A7];exact KT hk _) fun x25 afM=>ar ?_;refine Gr fun w1 hw=>?_;exact⟨x25,rfl,by rw[afM,A7,du],ah.mem hw⟩
instance art{w0:World}{L R1 L2:List ai}{i0 i1:Nat}{k:Nat}{xc:Cp}{xa:Sl Int}{xg:UInt64}{xl:Int}{xy:Bool}{b:Int}[q0:Has L k (aR (⟨⟨xc,xa,xg,xl⟩,xy⟩:aT)) 261 i0][d0:cn L i0 R1][q1:At R1 (fz xc) i1][d1:cn R1 i1 L2]:bV Tryz.prog 216 w0 L [.pointer (some ⟨k,0,none⟩), .int .i64 b] (Cp) (fun U=> .int .i64 (dY (cv xc) b)) (fun U=>aq k (aR (⟨⟨U,xa,xg,xl⟩,xy⟩:aT)) 261::fz U::L2) (fun U=>cv U=du (cv xc) b) (aW (cv xc)=true/\0<=b/\b<(cv xc).blocks.length):=⟨fun hp w hw=>afL w0 w L2 k xc xa xg xl xy b (px q0.h d0.h q1.h d1.h hw) hp⟩
theorem afN(w0 w:World)(L:List ai)(k:Nat)(xc:Cp)(xa:Sl Int)(xg:UInt64)(xl:Int)(xy:Bool)(b:Int)(hw:Mem w0 (aq k (aR (⟨⟨xc,xa,xg,xl⟩,xy⟩:aT)) 261::fz xc::L) w)(aA:aW (cv xc)=true/\0<=b/\b<(cv xc).blocks.length):Calls Tryz.prog 312 #[.pointer (some ⟨k,0,none⟩), .int .i64 b] w fun e w'=> ∃U:Cp,e= .returned (.int .i64 ((cG (cv xc) b).2))/\(cv U=(cG (cv xc) b).1)/\Mem w0 (aq k (aR (⟨⟨U,xa,xg,xl⟩,xy⟩:aT)) 261::fz U::L) w':=by
 obtain⟨hk,ru,uY⟩:=aA;refine gV (args:=[_,_]) Tryz.func312 rfl Tryz.ntmps312 rfl hw ?_;change Cw _ _ _ _ _ [(0, .pointer (some ⟨k,0,none⟩)),(1, .int .i64 b)] (aq k (aR (⟨⟨xc,xa,xg,xl⟩,xy⟩:aT)) 261::fz xc::L);refine al ?_;refine ck (X:=Cp) (fun U=>[(0, .pointer (some ⟨k,0,none⟩)),(1, .int .i64 b)]) (fun U=>aq k (aR (⟨⟨U,xa,xg,xl⟩,xy⟩:aT)) 261::fz U::L) (fun U=>cG (cv xc) b=cG (cv U) b/\aW (cv U)=true/\dU (cv xc) (cv U)) (fun U=>(ei (cv U) b).toNat) xc ⟨rfl,hk, .dk _⟩ sb (fun w hw=>ah.mem hw) ?_;rintro d ⟨bl,aL,bC⟩;have zk:=bC.len;refine al ?_;refine cO (bM rfl ⟨aL,by omega,by omega⟩) (av ?_);refine Gb ?_ ?_<;>intro h0
 ·
  have bB:=ade (c:=cv d) (b:=b) h0;refine Gc ?_;refine ag (cV (v:= .agg (dj ⟨1,0,0,⟨Sv.none,[]⟩⟩)) rfl afI) (aQ ?_);refine ag (Ry.to (v':= .int .i64 d.size) (bI rfl) rfl) (bb rfl trivial fun iF zp=>Gs ?_);refine ag (aE (v:=iF.val) rfl rfl) (ag (aE (v:= .int .i64 ((dt (cW (⟨1,0,0,⟨Sv.none,[]⟩⟩:fv)) d.size).2)) rfl rfl) (aZ ?_));refine bb rfl ⟨aL,by omega,by omega⟩ fun lH tt=>?_;have afO:cv lH=bx (cv d) b (iO (cv d)):=tt;clear tt;have tt:=afO;refine aQ ?_;refine Gb ?_ ?_<;>intro h1
  ·
   have eZ:bA (cv d) b (iO (cv d))≠0:=h1;refine ar ?_;refine Gr fun w1 hw=>?_;exact⟨lH,by rw[bl,bB,if_pos eZ];rfl,by rw[tt,bl,bB,if_pos eZ],ah.mem hw⟩
  have eZ:bA (cv d) b (iO (cv d))=0:=h1;refine gu ?_;exact bw (x:=(d)) lH ⟨by rw[bl,tt,bB,if_neg oF],by rw[tt];exact lZ aL _ _,by rw[tt];exact bC.trans (iP _ _ _)⟩ (by have h9:=RW (c:=cv d) (b:=b) (p:=iO (cv d)) oF;rw[tt];omega) sb (fun w hw=>ah.mem hw)
 have Hr:=adf (c:=cv d) (b:=b) oM;refine al ?_;refine bb rfl ⟨aL,by omega,by omega⟩ fun aB wa=>av ?_;refine Gr fun w1 hw=>?_;exact⟨aB,by rw[bl,Hr],by rw[wa,bl,Hr],ah.mem hw⟩
instance aru{w0:World}{L R1 L2:List ai}{i0 i1:Nat}{k:Nat}{xc:Cp}{xa:Sl Int}{xg:UInt64}{xl:Int}{xy:Bool}{b:Int}[q0:Has L k (aR (⟨⟨xc,xa,xg,xl⟩,xy⟩:aT)) 261 i0][d0:cn L i0 R1][q1:At R1 (fz xc) i1][d1:cn R1 i1 L2]:bV Tryz.prog 312 w0 L [.pointer (some ⟨k,0,none⟩), .int .i64 b] (Cp) (fun U=> .int .i64 ((cG (cv xc) b).2)) (fun U=>aq k (aR (⟨⟨U,xa,xg,xl⟩,xy⟩:aT)) 261::fz U::L2) (fun U=>cv U=(cG (cv xc) b).1) (aW (cv xc)=true/\0<=b/\b<(cv xc).blocks.length):=⟨fun hp w hw=>afN w0 w L2 k xc xa xg xl xy b (px q0.h d0.h q1.h d1.h hw) hp⟩
theorem Hs(w:World):(Instr.build 402 #[(3, .bool true)]).run Tryz.prog w= .ok (.agg (bL bc)) w:=by kernel_rfl
instance Ml{xb:Nat}{xc:Cp}{xa:Sl Int}{xg:UInt64}{xl:Int}{xy:Bool}{l:Sl (Sl Int)}[eu:nt w0 L xb (aR (⟨⟨xc,xa,xg,xl⟩,xy⟩:aT)) 261][eF:aX w0 L xc][hl:aX w0 L l]:bV Tryz.prog 304 w0 L [.pointer (some ⟨xb,0,none⟩),l.sv.val] (Sv) (fun U=>U.val) (fun U=>own bL 4 U (au (cv xc) (aw l.xs))::L) (fun U=>True) (xr (cv xc) (aw l.xs)):=⟨fun aA w hw=>Gk (fun U=>[own bL 4 U (au (cv xc) (aw l.xs))]) hw (by
 have eu:=eu.h w hw;have eF:=eF.h w hw;have hl:=hl.h w hw;have wj:rW w xb (aR (⟨⟨xc,xa,xg,xl⟩,xy⟩:aT)) 261:=⟨eu⟩;have wk:cQ w xc:=⟨eF⟩;have qx:cQ w l:=⟨hl⟩;refine dz Tryz.func304 rfl Tryz.ntmps304 rfl ?_;refine di ?_;refine ag (Ry.to (v':= .agg (aV xc)) (aez rfl) rfl) (Gs ?_);refine bb rfl (by assumption) fun zl TJ=>?_;have w8:(jm (cv xc) (aw l.xs)).length=(cv xc).blocks.length -2:=by rw[jm,AL]
 have iU:=mF.1 (eM.1 aA.1.1).1;have rn: ∀i,i<=(jm (cv xc) (aw l.xs)).length->(((jm (cv xc) (aw l.xs)).take i).map pK++(jm (cv xc) (aw l.xs)).drop i).length=(jm (cv xc) (aw l.xs)).length:=fun i hi=>by rw[adr,atM,atq,atD];omega
 refine aZ ?_;refine ck (X:=Nat) (fun U=>[(16, .int .i64 (U:Nat)),(5,zl.val),(15, .int .i64 ((jm (cv xc) (aw l.xs)).length:Nat))]) (fun U=>[own bL 4 zl (((jm (cv xc) (aw l.xs)).take U).map pK++(jm (cv xc) (aw l.xs)).drop U)]) (fun U=>U<=(jm (cv xc) (aw l.xs)).length) (fun U=>(jm (cv xc) (aw l.xs)).length -U) 0 (atL _) sb (fun w hw=>by simp only[atW,auv,aug,auI];exact ah.mem hw) ?_;rintro i bl;have qC:=rn i bl;refine al ?_;refine Gb ?_ ?_<;>intro h0
 ·
  obtain⟨z,hz⟩:=get_some (xs:=(jm (cv xc) (aw l.xs))) (i:=i) oM;have DJ:=R7 (f:=pK) hz;refine aZ ?_;refine ag (bh rfl rfl i rfl oM) (ag (aN rfl rfl) (ag (bT (j:=3) rfl i DJ rfl (by decide)) (Gc ?_)));refine Gb ?_ ?_<;>intro h1
  ·
   have hf:pK z=bc:=by rw[pK,if_pos h1]
   refine Gi ?_;refine av ?_;refine ag (cV (v:= .agg (bL bc)) rfl Hs) (ag (bh rfl rfl i rfl oM) (mv (n:=4) (k:=i) (j:=0) (a:=z) (a':=bc) (xs:=(((jm (cv xc) (aw l.xs)).take i).map pK++(jm (cv xc) (aw l.xs)).drop i)) (enc:=bL) (c:=4) (v:= .agg (bL bc)) oK rfl rfl rfl DJ (bp.one (enc:=bL) (c:=4) _) rfl (by decide) (by rfl) (al ?_)));refine Gi ?_;exact bw (x:=(i)) (i+1) oF oF sb (fun w hw=>by rw[←R5 hz,hf];exact ah.mem hw)
  have hf:pK z=z:=by rw[pK,if_neg (by rw[h1];simp)]
  refine al ?_;refine Gi ?_;exact bw (x:=(i)) (i+1) oF oF sb (fun w hw=>by rw[←R6 hz hf];exact ah.mem hw)
 obtain rfl:i=(jm (cv xc) (aw l.xs)).length:=by omega
 have hE:au (cv xc) (aw l.xs)=(((jm (cv xc) (aw l.xs)).take (jm (cv xc) (aw l.xs)).length).map pK++(jm (cv xc) (aw l.xs)).drop (jm (cv xc) (aw l.xs)).length):=by rw[au,atP,avG,auh]
 refine ar ?_;refine Gr fun w1 hw=>?_;exact⟨zl,rfl,trivial,by rw[hE];exact ah.mem hw⟩)⟩
instance arv{s:Sv}{ss:List az}[hs:dy w0 L bL 4 s ss]:bV Tryz.prog 328 w0 L [s.val] (Sv) (fun U=>U.val) (fun U=>own bL 4 U ss::L) (fun U=>True) (ss.length<=1000000):=⟨fun aA w hw=>Gk (fun U=>[own bL 4 U ss]) hw (by
 have hs:=hs.h w hw;have ze:Gv w s bL 4 ss:=⟨hs⟩;refine ct Tryz.func328 rfl Tryz.ntmps328 rfl ?_;refine ar ?_;refine ag (vw Tryz.underlying399 rfl) (Gc ?_);refine Gb ?_ ?_<;>intro h0
 ·
  have e0:ss=[]:=atJ.1 (by have:=hs.ok.nil h0;have:=hs.len;omega);refine al ?_;refine Gr fun w1 hw=>?_;exact⟨Sv.none,rfl,trivial,by rw[e0];exact(ah.mem hw:Mem w [] _).dK bL 4⟩
 refine Gc ?_;refine wW bL fun b5=>Gs ?_;refine nf (s:=⟨false,b5,0,0,0,none⟩) (enc:=bL) (ys:=ss) rfl rfl (by decide) (fun w hw=>jy (s:=s) Tryz.underlying399 (by decide) ((inferInstance:dy _ _ bL 4 s ss).h w hw)) (by simp only[anc];omega) (by simp only[anc];omega) fun s7 zf xM=>?_;refine av ?_;refine Gr fun w1 hw=>?_;exact⟨s7,rfl,trivial,by rw[aug]at hw;exact ah.mem hw⟩)⟩
theorem afP(w:World)(f:FuncId)(lU:Array Value)(R:az->Bool)(hr:tu Tryz.prog w [] f lU bL R)(l:Sv)(ls:List az)(hl:eJ bL 4 (hp w) l ls)(aA:ls.length<=1000000):Calls Tryz.prog 308 #[l.val, .func (.func f) #[] lU] w fun e w'=> ∃U:Sv,e= .returned (U.val)/\(True)/\Mem w [own bL 4 U (cg R ls)] w':=by
 have qx:Gv w l bL 4 ls:=⟨hl⟩;have isf:=hr.fn;have rn: ∀i,i<=ls.length->((ls.take i).map (iE R)++ls.drop i).length=ls.length:=fun i hi=>by rw[adr,atM,atq,atD];omega
 refine dz Tryz.func308 rfl Tryz.ntmps308 rfl ?_;refine ar ?_;refine bb rfl oM fun x9 DE=>aZ ?_;refine ck (X:=Nat) (fun U=>[(12, .int .i64 (U:Nat)),(5,x9.val),(10,x9.val),(1, .func (.func f) #[] lU),(11, .int .i64 (ls.length:Nat))]) (fun U=>[own bL 4 x9 ((ls.take U).map (iE R)++ls.drop U)]) (fun U=>U<=ls.length) (fun U=>ls.length -U) 0 (atL _) sb (fun w hw=>by simp only[atW,auv,aug,auI];exact ah.mem hw) ?_;rintro i bl;have qC:=rn i bl;refine al ?_;refine Gb ?_ ?_<;>intro h0
 ·
  obtain⟨z,hz⟩:=get_some (xs:=ls) (i:=i) oM;have DJ:=R7 (f:=iE R) hz;refine av ?_;refine ag (bh rfl rfl i rfl oM) (ag (iJ rfl i DJ rfl) (bt fun b7=>di ?_));refine bJ rfl rfl rfl (fun hg=>(Ry.yl (kC rfl))) (bJ rfl rfl rfl (fun hg=>FQ (f:=f) (vs:=[.agg (bL z)]) (aF hg rfl) (fa (aF hg rfl) iZ) (fun w1 mr=>hr.h w1 (ah.mem mr) z)) (bJ rfl rfl rfl (fun hg=>(Ry.yl (nC (aF hg rfl)))) (av ?_)));refine Gb ?_ ?_<;>intro h1
  ·
   have hf:iE R z=bc:=by rw[iE,if_pos (by simpa using h1)]
   refine Gi ?_;refine av ?_;refine ag (cV (v:= .agg (bL bc)) rfl Hs) (ag (bh rfl rfl i rfl oM) (mv (n:=4) (k:=i) (j:=0) (a:=z) (a':=bc) (xs:=((ls.take i).map (iE R)++ls.drop i)) (enc:=bL) (c:=4) (v:= .agg (bL bc)) oK rfl rfl rfl DJ (bp.one (enc:=bL) (c:=4) _) rfl (by decide) (by rfl) (al ?_)));refine Gi ?_;exact bw (x:=(i)) (i+1) oF oF sb (fun w hw=>by rw[←R5 hz,hf];exact ah.mem hw)
  have hf:iE R z=z:=by rw[iE,if_neg (by simpa using h1)]
  refine al ?_;refine Gi ?_;exact bw (x:=(i)) (i+1) oF oF sb (fun w hw=>by rw[←R6 hz hf];exact ah.mem hw)
 obtain rfl:i=ls.length:=by omega
 have hE:cg R ls=((ls.take ls.length).map (iE R)++ls.drop ls.length):=by rw[cg,atP,avG,auh]
 refine ar ?_;refine Gr fun w1 hw=>?_;exact⟨x9,rfl,trivial,by rw[hE];exact ah.mem hw⟩
instance arw{f:FuncId}{lU:Array Value}{R:az->Bool}{l:Sv}{ls:List az}[rq:tu Tryz.prog w0 L f lU bL R][hl:dy w0 L bL 4 l ls]:bV Tryz.prog 308 w0 L [l.val, .func (.func f) #[] lU] (Sv) (fun U=>U.val) (fun U=>own bL 4 U (cg R ls)::L) (fun U=>True) (ls.length<=1000000):=⟨fun hp w hw=>(afP w f lU R (rq.at hw) l ls (hl.h w hw) hp).mono fun e w' ⟨x,h1,h2,h3⟩=>⟨x,h1,h2,hw.call h3⟩⟩
instance:eP Tryz.prog 3 (.int .i64 0):=⟨by kernel_rfl⟩
theorem DK(a:Sl Int):aw [a]=a.xs:=by simp[aw]
theorem Mm(a b:Sl Int):aw [a,b]=a.xs++b.xs:=by simp[aw]
instance arx{xb:Nat}{xc:Cp}{xa:Sl Int}{xg:UInt64}{xl:Int}{xy:Bool}[eu:nt w0 L xb (aR (⟨⟨xc,xa,xg,xl⟩,xy⟩:aT)) 261][eF:aX w0 L xc][pM:aX w0 L xa]:bU Tryz.prog 260 w0 L [.pointer (some ⟨xb,0,none⟩)] (.tuple #[.int .i64 ((ly (cv xc) xa.xs).1), .int .i64 ((ly (cv xc) xa.xs).2)]) (xr (cv xc) xa.xs):=⟨fun aA w hw=>by
 have eu:=eu.h w hw;have eF:=eF.h w hw;have pM:=pM.h w hw;have wj:rW w xb (aR (⟨⟨xc,xa,xg,xl⟩,xy⟩:aT)) 261:=⟨eu⟩;have wk:cQ w xc:=⟨eF⟩;have ary:cQ w xa:=⟨pM⟩;have rr:xr (cv xc) (aw [xa]):=by rw[DK];exact aA
 have hk:=aA.1.1;have Uq: ∀z∈(au (cv xc) (aw [xa])),AS (cv xc) (aw [xa]).length z:=fun z hz=>uD hk hz;have wc:=Si hk (au (cv xc) (aw [xa])) Uq;have mR:=l5 (cv xc) (aw [xa]);have hd:=eU hk;change _/\_/\1<=xc.pages/\xc.pages<=16/\_/\_ at hd;refine ct Tryz.func260 rfl Tryz.ntmps260 rfl ?_;refine CI ?_;refine ag (Ry.to (v':=xa.sv.val) (oP rfl) rfl) ?_;refine om (enc:=cq) (vals:=[xa.sv.val]) [xa] rfl (by simp only[atI,auv,Sv.jM];rfl) rfl (by decide) (by decide) fun b15=>?_;refine bb (hc:=Ml (l:=(⟨⟨false,b15,0,1,1,none⟩,[xa]⟩:Sl (Sl Int)))) rfl rr fun aC lG=>al ?_;refine ck (X:=Nat) (fun U=>[(18, .int .i64 (U:Nat)),(4, .int .i64 ((fM xc.pages ((au (cv xc) (aw [xa])).take U)).1)),(5, .int .i64 ((fM xc.pages ((au (cv xc) (aw [xa])).take U)).2)),(0, .pointer (some ⟨xb,0,none⟩)),(16,aC.val),(17, .int .i64 ((au (cv xc) (aw [xa])).length:Nat))]) (fun U=>[own bL 4 aC (au (cv xc) (aw [xa]))]) (fun U=>U<=(au (cv xc) (aw [xa])).length) (fun U=>(au (cv xc) (aw [xa])).length -U) 0 (atL _) (Sub.cons rfl (Sub.cons (look_eq rfl (by rw[atW];rfl)) (Sub.cons (look_eq rfl (by rw[atW];rfl)) sb))) (fun w hw=>ah.mem hw) ?_;rintro i bl;refine al ?_;refine Gb ?_ ?_<;>intro h0
 ·
  obtain⟨z,hz⟩:=get_some (xs:=(au (cv xc) (aw [xa]))) (i:=i) oM;have fy:=Sh (p:=xc.pages) hz;have ht:=Uq z (alM hz);have DL:=ht.C9;have xY:z.used<=xc.pages:=ht.AT;have gz:0<=(fM xc.pages ((au (cv xc) (aw [xa])).take i)).1/\(fM xc.pages ((au (cv xc) (aw [xa])).take i)).1<=16*(i:Int)/\0<=(fM xc.pages ((au (cv xc) (aw [xa])).take i)).2/\(fM xc.pages ((au (cv xc) (aw [xa])).take i)).2<=16:=wc i oM;refine Gc ?_;refine ag (bh rfl rfl i rfl oM) (ag (iJ rfl i hz rfl) (bt fun b7=>aQ ?_));refine Gb ?_ ?_<;>intro h1
  ·
   have bB:(fM xc.pages ((au (cv xc) (aw [xa])).take (i+1)))=(fM xc.pages ((au (cv xc) (aw [xa])).take i)):=by rw[fy,td,if_pos h1]
   refine al ?_;refine Gi ?_;exact bw (x:=(i)) (i+1) oF oF (Sub.cons rfl (Sub.cons (look_eq rfl (by rw[bB])) (Sub.cons (look_eq rfl (by rw[bB])) sb))) (fun w hw=>ah.mem hw)
  have rR: ¬z.bad=true:=by rw[h1];simp
  refine Gc ?_;refine kf oK oK (aQ ?_);refine cr (Ry.to (v':= .int .i64 xc.pages) (oP rfl) rfl) (ja ?_);refine Gb ?_ ?_<;>intro h2
  ·
   refine ar ?_;refine Gb ?_ ?_<;>intro h3
   ·
    have hN:lu xc.pages z=xc.pages:=by rw[lu,if_pos ⟨h2,h3⟩]
    have bB:(fM xc.pages ((au (cv xc) (aw [xa])).take (i+1)))=((fM xc.pages ((au (cv xc) (aw [xa])).take i)).1+xc.pages,max (fM xc.pages ((au (cv xc) (aw [xa])).take i)).2 xc.pages):=by rw[fy,td,if_neg rR,if_pos h2,hN]
    refine Gi ?_;refine aQ ?_;refine ag (Ry.to (v':= .int .i64 xc.pages) (oP rfl) rfl) (ar ?_);refine ag (yw rfl rfl) (ja ?_);refine Gi ?_;exact bw (x:=(i)) (i+1) oF oF (Sub.cons rfl (Sub.cons (look_eq rfl (by rw[bB])) (Sub.cons (look_eq rfl (by rw[bB])) sb))) (fun w hw=>ah.mem hw)
   have hN:lu xc.pages z=xc.pages -z.used:=by rw[lu,if_neg (fun h=>h3 h.2)]
   have bB:(fM xc.pages ((au (cv xc) (aw [xa])).take (i+1)))=((fM xc.pages ((au (cv xc) (aw [xa])).take i)).1+(xc.pages -z.used),max (fM xc.pages ((au (cv xc) (aw [xa])).take i)).2 (xc.pages -z.used)):=by rw[fy,td,if_neg rR,if_pos h2,hN]
   refine al ?_;refine ag (yw rfl rfl) (ja ?_);refine Gi ?_;exact bw (x:=(i)) (i+1) oF oF (Sub.cons rfl (Sub.cons (look_eq rfl (by rw[bB])) (Sub.cons (look_eq rfl (by rw[bB])) sb))) (fun w hw=>ah.mem hw)
  have hN:lu xc.pages z=xc.pages -z.used:=by rw[lu,if_neg (fun h=>h2 h.1)]
  have bB:(fM xc.pages ((au (cv xc) (aw [xa])).take (i+1)))=((fM xc.pages ((au (cv xc) (aw [xa])).take i)).1+(xc.pages -z.used),(fM xc.pages ((au (cv xc) (aw [xa])).take i)).2):=by rw[fy,td,if_neg rR,if_neg h2,hN]
  refine fI ?_;refine Gi ?_;exact bw (x:=(i)) (i+1) oF oF (Sub.cons rfl (Sub.cons (look_eq rfl (by rw[bB])) (Sub.cons (look_eq rfl (by rw[bB])) sb))) (fun w hw=>ah.mem hw)
 obtain rfl:i=(au (cv xc) (aw [xa])).length:=by omega
 have hE:ly (cv xc) xa.xs=((fM xc.pages ((au (cv xc) (aw [xa])).take (au (cv xc) (aw [xa])).length)).1 -(fM xc.pages ((au (cv xc) (aw [xa])).take (au (cv xc) (aw [xa])).length)).2,(fM xc.pages ((au (cv xc) (aw [xa])).take (au (cv xc) (aw [xa])).length)).1):=by rw[ly,←DK xa,atP];rfl
 have gz:0<=(fM xc.pages ((au (cv xc) (aw [xa])).take (au (cv xc) (aw [xa])).length)).1/\(fM xc.pages ((au (cv xc) (aw [xa])).take (au (cv xc) (aw [xa])).length)).1<=16*((au (cv xc) (aw [xa])).length:Int)/\0<=(fM xc.pages ((au (cv xc) (aw [xa])).take (au (cv xc) (aw [xa])).length)).2/\(fM xc.pages ((au (cv xc) (aw [xa])).take (au (cv xc) (aw [xa])).length)).2<=16:=wc (au (cv xc) (aw [xa])).length (att _);refine fI ?_;refine Gr fun w1 hw=>?_;exact⟨by rw[hE],ah.mem hw⟩⟩
theorem afQ(w:World)(x:az):Calls Tryz.prog 314 #[.agg (bL x)] w fun e w'=>e= .returned (.bool (rQ x))/\Mem w [] w':=by
 refine ct Tryz.func314 rfl Tryz.ntmps314 rfl ?_;refine Gc ?_;refine cm rfl fun b1=>di ?_;refine Gr fun w1 hw=>?_;exact⟨rfl,ah.mem hw⟩
instance:tu Tryz.prog w0 L 314 #[] bL rQ:=⟨inferInstance,fun w _ x=>afQ w x⟩
theorem afR(w:World)(x:az):Calls Tryz.prog 315 #[.agg (bL x)] w fun e w'=>e= .returned (.bool (gG x))/\Mem w [] w':=by
 refine ct Tryz.func315 rfl Tryz.ntmps315 rfl ?_;refine Gc ?_;refine cm rfl fun b1=>di ?_;refine Gr fun w1 hw=>?_;exact⟨rfl,ah.mem hw⟩
instance:tu Tryz.prog w0 L 315 #[] bL gG:=⟨inferInstance,fun w _ x=>afR w x⟩
theorem afS(w0 w:World)(L:List ai)(k:Nat)(xc:Cp)(xa:Sl Int)(xg:UInt64)(xl:Int)(xy:Bool)(l:Sl (Sl Int))[hl:aX w0 L l](hw:Mem w0 (aq k (aR (⟨⟨xc,xa,xg,xl⟩,xy⟩:aT)) 261::fz xc::L) w)(aA:aW (cv xc)=true/\3<=(cv xc).blocks.length/\iQ (cv xc) (aw l.xs)/\(aw l.xs).length<=1000):Calls Tryz.prog 263 #[.pointer (some ⟨k,0,none⟩),l.sv.val] w fun e w'=> ∃U:Cp,e= .returned (.tuple #[.int .i64 ((bg (cv xc) (aw l.xs) xy).2.1), .int .i64 ((bg (cv xc) (aw l.xs) xy).2.2)])/\(cv U=(bg (cv xc) (aw l.xs) xy).1)/\Mem w0 (aq k (aR (⟨⟨U,xa,xg,xl⟩,xy⟩:aT)) 261::fz U::L) w':=by
 obtain⟨hk,Bs,wo,nh⟩:=aA;have rr:=wo.kn hk oM oM;have hd:=eU hk;have mR:=l5 (cv xc) (aw l.xs);refine gV (args:=[_,_]) Tryz.func263 rfl Tryz.ntmps263 rfl hw ?_;change Cw _ _ _ _ _ [(0, .pointer (some ⟨k,0,none⟩)),(1,l.sv.val)] (aq k (aR (⟨⟨xc,xa,xg,xl⟩,xy⟩:aT)) 261::fz xc::L);refine ar ?_;refine ji [2] [[],[],[],[],[],[],[],[],[],[2],[2]] [0,1,3,4,5,6,7,8,2,9,10] [aq k (aR (⟨⟨xc,xa,xg,xl⟩,xy⟩:aT)) 261,fz xc] (fun _ hw=>ah.mem hw) oK oK (an rfl (bo rfl) (an rfl (bo rfl) (an rfl (bo rfl) (an rfl (gq rfl) (an rfl (aN (o':=0) rfl rfl) (an rfl (aN (o':=0) rfl rfl) (an rfl (aN (o':=0) rfl rfl) (an rfl (Ry.to (v':= .int .i64 xc.pages) (bI rfl) rfl) (dr rfl (qk rfl rr fun iF zp=>⟨fun _ hw=>ah.mem hw,?_⟩))))))))));refine an rfl (gS rfl) (an rfl (gS rfl) (av ?_));refine bb rfl oM fun Bg LU=>al ?_;refine ag (aE (v:= .int .i64 ((fD (cg rQ (au (cv xc) (aw l.xs))) xc.pages).1)) rfl rfl) (ag (aE (v:= .bool ((fD (cg rQ (au (cv xc) (aw l.xs))) xc.pages).2)) rfl rfl) (aQ ?_));refine Gb ?_ ?_<;>intro h0
 ·
  have qH:(mN (cv xc) (aw l.xs)).2=true:=h0;have hE:(bg (cv xc) (aw l.xs) xy)=(cv xc,(mN (cv xc) (aw l.xs)).1+2,0):=by rw[bg,if_pos qH]
  have pU:=Sc qH;change 0<=(fD (cg rQ (au (cv xc) (aw l.xs))) xc.pages).1/\(fD (cg rQ (au (cv xc) (aw l.xs))) xc.pages).1<_/\_ at pU;refine aZ ?_;refine Gr fun w1 hw=>?_;exact⟨xc,by rw[hE];rfl,by rw[hE],ah.mem hw⟩
 have qH: ¬(mN (cv xc) (aw l.xs)).2=true:=fun h=>by rw[show(mN (cv xc) (aw l.xs)).2=false from h0]at h;cases h
 refine di ?_;refine ck (X:=Nat) (fun U=>[(39, .int .i64 (U:Nat)),(10, .int .i64 ((((au (cv xc) (aw l.xs)).take U).filter fun z=> !z.bad&&decide (z.live=0)).length:Nat)),(0, .pointer (some ⟨k,0,none⟩)),(6,iF.val),(7, .int .i64 xc.pages),(37,iF.val),(38, .int .i64 ((au (cv xc) (aw l.xs)).length:Nat))]) (fun U=>aq k (aR (⟨⟨xc,xa,xg,xl⟩,xy⟩:aT)) 261::fz xc::own bL 4 iF (au (cv xc) (aw l.xs))::L) (fun U=>U<=(au (cv xc) (aw l.xs)).length) (fun U=>(au (cv xc) (aw l.xs)).length -U) 0 (atL _) sb (fun w hw=>ah.mem hw) ?_;rintro i bl;refine al ?_;refine Gb ?_ ?_<;>intro h1
 ·
  obtain⟨z,hz⟩:=get_some (xs:=(au (cv xc) (aw l.xs))) (i:=i) oM;have fy:=ado hz;have hle:=adp ((au (cv xc) (aw l.xs)).take i);rw[atq]at hle;refine Gc ?_;refine ag (bh rfl rfl i rfl oM) (ag (iJ rfl i hz rfl) (bt fun wg=>qo ?_));refine Gb ?_ ?_<;>intro h2
  ·
   rw[if_pos (by simpa using h2)]at fy;refine Gi ?_;refine aZ ?_;refine Gi ?_;exact bw (x:=(i)) (i+1) oF oF (Sub.cons rfl (Sub.cons (look_eq rfl (by rw[fy];rfl)) sb)) (fun w hw=>ah.mem hw)
  rw[if_neg (fun g=>h2.elim (fun h=>absurd (h.symm.trans g.1) (by simp)) (fun h=>h g.2))]at fy;refine al ?_;refine Gi ?_;exact bw (x:=(i)) (i+1) oF oF (Sub.cons rfl (Sub.cons (look_eq rfl (by rw[fy,auH])) sb)) (fun w hw=>ah.mem hw)
 obtain rfl:i=(au (cv xc) (aw l.xs)).length:=by omega
 have hid:dV (au (cv xc) (aw l.xs))=(((au (cv xc) (aw l.xs)).take (au (cv xc) (aw l.xs)).length).filter fun z=> !z.bad&&decide (z.live=0)).length:=by rw[dV,atP]
 refine aZ ?_;refine bJ rfl rfl rfl (fun hg=>(Ry.yl (bo (aF hg rfl)))) (pc rfl rfl rfl (fun hg=>(Ry.yl (bo rfl))) (pc rfl rfl rfl (fun hg=>(Ry.yl (gq (aF hg rfl)))) (pc rfl rfl rfl (fun hg=>(Ry.yl (aN (o':=9) (aF hg rfl) rfl))) (pc rfl rfl rfl (fun hg=>(Ry.yl (Ry.to (v':= .bool xy) (bI (aF hg rfl)) rfl))) (pc rfl rfl rfl (fun hg=>(Ry.yl (nC (aF hg rfl)))) (bJ rfl rfl rfl (fun hg=>(Ry.yl (zN (aF hg rfl) (yy hg rfl) rfl))) (av ?_)))))));refine Gb ?_ ?_<;>intro h3
 ·
  have qI:dV (au (cv xc) (aw l.xs))=0\/(dV (au (cv xc) (aw l.xs))=1/\xy=false):=by
   rw[hid];rcases h3 with h|h
   ·
    exact .inl oM
   exact .inr ⟨by omega,h.2⟩
  have hE:(bg (cv xc) (aw l.xs) xy)=(cv xc,0,5):=by rw[bg,if_neg qH,if_pos qI]
  refine ar ?_;refine Gr fun w1 hw=>?_;exact⟨xc,by rw[hE],by rw[hE],ah.mem hw⟩
 have qI: ¬(dV (au (cv xc) (aw l.xs))=0\/(dV (au (cv xc) (aw l.xs))=1/\xy=false)):=by
  rw[hid];rintro(h|h)
  ·
   exact h3.1 oM
  rcases h3.2 with g|g
  ·
   exact g oM
  rw[h.2]at g;cases g
 refine av ?_;refine bb rfl oM fun fo Mn=>aZ ?_;refine ag (aE (v:= .int .i64 ((fD (cg gG (au (cv xc) (aw l.xs))) xc.pages).1)) rfl rfl) (ag (aE (v:= .bool ((fD (cg gG (au (cv xc) (aw l.xs))) xc.pages).2)) rfl rfl) (aQ ?_));refine Gb ?_ ?_<;>intro h4
 ·
  have jZ:(kt (cv xc) (aw l.xs)).2=true:=h4;have hE:(bg (cv xc) (aw l.xs) xy)=(cv xc,(kt (cv xc) (aw l.xs)).1+2,0):=by rw[bg,if_neg qH,if_neg qI,if_pos jZ]
  have pU:=Sd jZ;change 0<=(fD (cg gG (au (cv xc) (aw l.xs))) xc.pages).1/\(fD (cg gG (au (cv xc) (aw l.xs))) xc.pages).1<_/\_ at pU;refine aZ ?_;refine Gr fun w1 hw=>?_;exact⟨xc,by rw[hE];rfl,by rw[hE],ah.mem hw⟩
 have jZ: ¬(kt (cv xc) (aw l.xs)).2=true:=fun h=>by rw[show(kt (cv xc) (aw l.xs)).2=false from h4]at h;cases h
 obtain⟨d1,d2,d3⟩:=Sb hk Bs (fun e=>qI (.inl e)) jZ;change 0<=(fG (cg gG (au (cv xc) (aw l.xs))) xc.pages).1 at d1;change(fG (cg gG (au (cv xc) (aw l.xs))) xc.pages).1<_ at d2;have hE:(bg (cv xc) (aw l.xs) xy)=((cG (cv xc) (jG (cv xc) (aw l.xs)+2)).1,jG (cv xc) (aw l.xs)+2,(cG (cv xc) (jG (cv xc) (aw l.xs)+2)).2):=by rw[bg,if_neg qH,if_neg qI,if_neg jZ]
 refine aQ ?_;refine ag (aE (v:= .int .i64 ((fG (cg gG (au (cv xc) (aw l.xs))) xc.pages).1)) rfl rfl) (ag (aE (v:= .bool ((fG (cg gG (au (cv xc) (aw l.xs))) xc.pages).2)) rfl rfl) (fI ?_));refine bb rfl ⟨hk,by omega,by omega⟩ fun x89 afT=>al ?_;refine Gr fun w1 hw=>?_;exact⟨x89,by rw[hE];rfl,by rw[afT,hE];rfl,ah.mem hw⟩
instance arz{w0:World}{L R1 L2:List ai}{i0 i1:Nat}{k:Nat}{xc:Cp}{xa:Sl Int}{xg:UInt64}{xl:Int}{xy:Bool}{l:Sl (Sl Int)}[q0:Has L k (aR (⟨⟨xc,xa,xg,xl⟩,xy⟩:aT)) 261 i0][d0:cn L i0 R1][q1:At R1 (fz xc) i1][d1:cn R1 i1 L2][hl:aX w0 L2 l]:bV Tryz.prog 263 w0 L [.pointer (some ⟨k,0,none⟩),l.sv.val] (Cp) (fun U=> .tuple #[.int .i64 ((bg (cv xc) (aw l.xs) xy).2.1), .int .i64 ((bg (cv xc) (aw l.xs) xy).2.2)]) (fun U=>aq k (aR (⟨⟨U,xa,xg,xl⟩,xy⟩:aT)) 261::fz U::L2) (fun U=>cv U=(bg (cv xc) (aw l.xs) xy).1) (aW (cv xc)=true/\3<=(cv xc).blocks.length/\iQ (cv xc) (aw l.xs)/\(aw l.xs).length<=1000):=⟨fun hp w hw=>afS w0 w L2 k xc xa xg xl xy l (px q0.h d0.h q1.h d1.h hw) hp⟩
theorem afU(w0 w:World)(L:List ai)(k:Nat)(xc:Cp)(xa:Sl Int)(xg:UInt64)(xl:Int)(xy:Bool)(q:fv)(l:Sl (Sl Int))[hq:aX w0 L q][hl:aX w0 L l](hw:Mem w0 (aq k (aR (⟨⟨xc,xa,xg,xl⟩,xy⟩:aT)) 261::fz xc::L) w)(aA:aW (cv xc)=true/\3<=(cv xc).blocks.length/\iQ (cv xc) (aw l.xs)/\(aw l.xs).length<=1000):Calls Tryz.prog 223 #[.pointer (some ⟨k,0,none⟩), .agg (dj q),l.sv.val] w fun e w'=> ∃U:Cp,e= .returned (.tuple #[.int .i64 ((cT (cv xc) (aw l.xs) xy (cW q)).2.1), .int .i64 ((cT (cv xc) (aw l.xs) xy (cW q)).2.2)])/\(cv U=(cT (cv xc) (aw l.xs) xy (cW q)).1)/\Mem w0 (aq k (aR (⟨⟨U,xa,xg,xl⟩,xy⟩:aT)) 261::fz U::L) w':=by
 obtain⟨hk,Bs,wo,nh⟩:=aA;have hd:=eU hk;have yC:1<=xc.pages/\xc.pages<=16:=⟨hd.2.2.1,hd.2.2.2.1⟩;refine gV (args:=[_,_,_]) Tryz.func223 rfl Tryz.ntmps223 rfl hw ?_;change Cw _ _ _ _ _ [(0, .pointer (some ⟨k,0,none⟩)),(1, .agg (dj q)),(2,l.sv.val)] (aq k (aR (⟨⟨xc,xa,xg,xl⟩,xy⟩:aT)) 261::fz xc::L);refine Gc ?_;refine cm rfl fun b4=>al ?_;refine ji [7] [[],[],[],[],[],[],[],[],[7],[7],[7],[7],[7]] [0,1,2,3,4,5,6,7,8,9,10,11,12] [aq b4 (dj q) 324,aq k (aR (⟨⟨xc,xa,xg,xl⟩,xy⟩:aT)) 261,fz xc] (fun _ hw=>ah.mem hw) oK oK (an rfl (kC rfl) (an rfl (bo rfl) (an rfl (gq rfl) (an rfl (aN (o':=0) rfl rfl) (an rfl (aN (o':=0) rfl rfl) (an rfl (aN (o':=1) rfl rfl) (an rfl (Ry.to (v':= .int .i64 xc.size) (bI rfl) rfl) (dr rfl (qk rfl trivial fun j6 Mo=>⟨fun _ hw=>ah.mem hw,?_⟩)))))))))
 skip
 refine an rfl (bo rfl) (an rfl (aE (v:=j6.val) rfl rfl) (an rfl (aE (v:= .int .i64 ((dt (cW q) xc.size).2)) rfl rfl) (an rfl (gS rfl) (an rfl (gS rfl) (ar ?_)))));refine Gb ?_ ?_<;>intro h0
 ·
  have hE:(cT (cv xc) (aw l.xs) xy (cW q))=(cv xc,0,(dt (cW q) xc.size).2):=by rw[cT,if_pos (show(dt (cW q) (cv xc).size).2≠0 from h0)];rfl
  refine aQ ?_;refine Gr fun w1 hw=>?_;exact⟨xc,by rw[hE],by rw[hE],ah.mem hw⟩
 refine Gc ?_;refine ck (X:=Nat×Cp) (fun U=>[(0, .pointer (some ⟨k,0,none⟩)),(2,l.sv.val),(8,j6.val)]) (fun U=>aq k (aR (⟨⟨U.2,xa,xg,xl⟩,xy⟩:aT)) 261::fz U.2::own aO 1 j6 (dt (cW q) xc.size).1::L) (fun U=>(cT (cv xc) (aw l.xs) xy (cW q))=hH U.1 (cv U.2) (aw l.xs) xy (dt (cW q) xc.size).1/\aW (cv U.2)=true/\dU (cv xc) (cv U.2)/\(cS -(cv U.2).ops).toNat<U.1) (fun U=>U.1) ((cS -(cv xc).ops).toNat+1,xc) ⟨by rw[cT,if_neg (show ¬(dt (cW q) (cv xc).size).2≠0 from fun h=>h h0)];rfl,hk, .dk _,by simp only;omega⟩ sb (fun w hw=>ah.mem hw) ?_;rintro⟨m,d⟩ ⟨bl,aL,bC,dq⟩;dsimp only;simp only at bl aL bC dq;obtain⟨n,rfl⟩: ∃n,m=n+1:=⟨m -1,by omega⟩;refine al ?_;refine bb rfl ⟨aL,by rw[bC.len];exact Bs,wo.cj bC,nh⟩ fun kS u4=>?_;obtain⟨f1,f2,f3,f4,f5⟩:=KZ (c:=cv d) (fl:=(aw l.xs)) (aG:=xy) aL (by rw[bC.len];exact Bs);rw[←u4]at f1 f2 f3 f4 f5;have f6:=bC.trans f2;have dM:(cv kS).blocks.length=kS.blocks.xs.length:=ie _;have hl6:=f6.len;have qF:kS.pages=xc.pages:=f6.pages;have Ur:=bC.len;have zk:=tc f1;refine Gs ?_;refine ag (aE (v:= .int .i64 ((bg (cv d) (aw l.xs) xy).2.1)) rfl rfl) (ag (aE (v:= .int .i64 ((bg (cv d) (aw l.xs) xy).2.2)) rfl rfl) (aZ ?_));refine Gb ?_ ?_<;>intro h1
 ·
  have eZ:(bg (cv d) (aw l.xs) xy).2.2=0:=h1;obtain⟨g1,g2,g3⟩:=f4 eZ;obtain⟨B,hB⟩:=get_some (xs:=kS.blocks.xs) (i:=(bg (cv d) (aw l.xs) xy).2.1.toNat) oM;have tB:Mb B kS.blocks:=⟨List.mem_of_getElem? hB⟩;have fm:=uB hB;have gI:=fu.1 (s9 f1 (b:=(bg (cv d) (aw l.xs) xy).2.1) oM oM);have rv:(aj (cv kS) (bg (cv d) (aw l.xs) xy).2.1).used=B.used:=by rw[fm];rfl
  rw[rv]at gI;have hcp:(cv kS).pages=xc.pages:=qF;rw[hcp]at gI;have oN:0<=(bg (cv d) (aw l.xs) xy).2.1*xc.pages:=au6 oM oM;have oT:(bg (cv d) (aw l.xs) xy).2.1*xc.pages<=32*16:=awl oM oM oM oM;refine Gi ?_;refine kf oK oK (aZ ?_);refine cr (Ry.to (v':= .int .i64 xc.pages) (bI rfl) (by rw[←qF])) (cr (vl rfl rfl oM) (aQ ?_));refine cr (Ry.to (v':=kS.blocks.sv.val) (bI rfl) rfl) (Gq ?_);refine cr (bh rfl rfl ((bg (cv d) (aw l.xs) xy).2.1.toNat) oM oM) (cr (aN rfl rfl) (cr (bT (j:=1) rfl ((bg (cv d) (aw l.xs) xy).2.1.toNat) hB rfl (by decide)) (di ?_)));refine bb rfl ⟨f1,by omega,by omega⟩ fun Mp Bt=>aQ ?_;refine Gb ?_ ?_<;>intro h2
  ·
   have fH:(bA (cv kS) (bg (cv d) (aw l.xs) xy).2.1 (dt (cW q) xc.size).1)=0:=h2;have hE:(cT (cv xc) (aw l.xs) xy (cW q))=(bx (cv kS) (bg (cv d) (aw l.xs) xy).2.1 (dt (cW q) xc.size).1,(bg (cv d) (aw l.xs) xy).2.1*xc.pages+B.used+1,0):=by
    rw[bl,hH,←u4,if_pos eZ,if_pos fH,rv,show(cv d).pages=xc.pages from bC.pages]
   refine aQ ?_;refine Gr fun w1 hw=>?_;exact⟨Mp,by rw[hE],by rw[hE,Bt],ah.mem hw⟩
  have fH: ¬(bA (cv kS) (bg (cv d) (aw l.xs) xy).2.1 (dt (cW q) xc.size).1)=0:=h2;refine ar ?_;refine Gb ?_ ?_<;>intro h3
  ·
   refine aQ ?_;refine Gr fun w1 hw=>?_;exact⟨Mp,by rw[bl,hH,←u4,if_pos eZ,if_neg fH,if_pos (show(bA (cv kS) (bg (cv d) (aw l.xs) xy).2.1 (dt (cW q) xc.size).1)≠9 from h3)],by rw[Bt,bl,hH,←u4,if_pos eZ,if_neg fH,if_pos (show(bA (cv kS) (bg (cv d) (aw l.xs) xy).2.1 (dt (cW q) xc.size).1)≠9 from h3)],ah.mem hw⟩
  refine gu ?_;have qI:(bA (cv kS) (bg (cv d) (aw l.xs) xy).2.1 (dt (cW q) xc.size).1)=9:=h3;have DM:=uA g3 (p:=(dt (cW q) xc.size).1) (.inl qI);have Mq:=tc (lZ f1 (bg (cv d) (aw l.xs) xy).2.1 (dt (cW q) xc.size).1);rw[DM]at Mq;exact bw (x:=(n+1,d)) (n,Mp) ⟨by rw[bl,hH,←u4,if_pos eZ,if_neg fH,if_neg (by simpa using qI),Bt],by rw[Bt];exact lZ f1 _ _,by rw[Bt];exact f6.trans (iP _ _ _),by rw[Bt,DM];omega⟩ (by simp only;omega) sb (fun w hw=>ah.mem hw)
 have eZ: ¬(bg (cv d) (aw l.xs) xy).2.2=0:=h1;refine ar ?_;refine Gb ?_ ?_<;>intro h3
 ·
  refine aQ ?_;refine Gr fun w1 hw=>?_;exact⟨kS,by rw[bl,hH,if_neg eZ,if_pos (show(bg (cv d) (aw l.xs) xy).2.2≠9 from h3)],by rw[u4,bl,hH,if_neg eZ,if_pos (show(bg (cv d) (aw l.xs) xy).2.2≠9 from h3)],ah.mem hw⟩
 refine gu ?_;have qI:(bg (cv d) (aw l.xs) xy).2.2=9:=h3;exact bw (x:=(n+1,d)) (n,kS) ⟨by rw[bl,hH,if_neg eZ,if_neg (by simpa using qI),u4],f1,f6,by have:=f5 qI;simp only;omega⟩ (by simp only;omega) sb (fun w hw=>ah.mem hw)
instance afV{w0:World}{L R1 L2:List ai}{i0 i1:Nat}{k:Nat}{xc:Cp}{xa:Sl Int}{xg:UInt64}{xl:Int}{xy:Bool}{q:fv}{l:Sl (Sl Int)}[q0:Has L k (aR (⟨⟨xc,xa,xg,xl⟩,xy⟩:aT)) 261 i0][d0:cn L i0 R1][q1:At R1 (fz xc) i1][d1:cn R1 i1 L2][hq:aX w0 L2 q][hl:aX w0 L2 l]:bV Tryz.prog 223 w0 L [.pointer (some ⟨k,0,none⟩), .agg (dj q),l.sv.val] (Cp) (fun U=> .tuple #[.int .i64 ((cT (cv xc) (aw l.xs) xy (cW q)).2.1), .int .i64 ((cT (cv xc) (aw l.xs) xy (cW q)).2.2)]) (fun U=>aq k (aR (⟨⟨U,xa,xg,xl⟩,xy⟩:aT)) 261::fz U::L2) (fun U=>cv U=(cT (cv xc) (aw l.xs) xy (cW q)).1) (aW (cv xc)=true/\3<=(cv xc).blocks.length/\iQ (cv xc) (aw l.xs)/\(aw l.xs).length<=1000):=⟨fun hp w hw=>afU w0 w L2 k xc xa xg xl xy q l (px q0.h d0.h q1.h d1.h hw) hp⟩
theorem afW(w0 w:World)(L:List ai)(k:Nat)(xc:Cp)(xa:Sl Int)(xg:UInt64)(xl:Int)(xy:Bool)(hw:Mem w0 (aq k (aR (⟨⟨xc,xa,xg,xl⟩,xy⟩:aT)) 261::fz xc::L) w)(aA:aW (cv xc)=true/\2<=(cv xc).blocks.length/\(xl=0\/xl=1)):Calls Tryz.prog 264 #[.pointer (some ⟨k,0,none⟩)] w fun e w'=> ∃U:Cp,e= .returned (.tuple #[.int .i64 ((aY (cv xc) xl).2.1), .int .i64 ((aY (cv xc) xl).2.2)])/\(cv U=(aY (cv xc) xl).1)/\Mem w0 (aq k (aR (⟨⟨U,xa,xg,xl⟩,xy⟩:aT)) 261::fz U::L) w':=by
 obtain⟨hk,qX,Um⟩:=aA;have dM:(cv xc).blocks.length=xc.blocks.xs.length:=ie _;obtain⟨Bo,gI⟩:=get_some (xs:=xc.blocks.xs) (i:=(1 -xl).toNat) oM;have mbo:Mb Bo xc.blocks:=⟨List.mem_of_getElem? gI⟩;have Bp:=uB gI;refine gV (args:=[_]) Tryz.func264 rfl Tryz.ntmps264 rfl hw ?_;change Cw _ _ _ _ _ [(0, .pointer (some ⟨k,0,none⟩))] (aq k (aR (⟨⟨xc,xa,xg,xl⟩,xy⟩:aT)) 261::fz xc::L);refine fI ?_;refine ag (Ry.to (v':= .int .i64 xl) (bI rfl) rfl) (di ?_);refine ag (Ry.to (v':= .int .i64 xl) (bI rfl) rfl) (Gs ?_);refine om (enc:=cf) (vals:=[_,_]) [xl,1 -xl] rfl rfl rfl (by decide) (by decide) fun r8=>?_;refine al ?_;refine ck (X:=Nat) (fun U=>[(21, .int .i64 (U:Nat)),(0, .pointer (some ⟨k,0,none⟩)),(4, .int .i64 (1 -xl)),(19,(⟨false,r8,0,2,2,none⟩:Sv).val),(20, .int .i64 ([xl,1 -xl].length:Nat))]) (fun U=>aq k (aR (⟨⟨xc,xa,xg,xl⟩,xy⟩:aT)) 261::fz xc::own cf 1 ⟨false,r8,0,2,2,none⟩ [xl,1 -xl]::L) (fun U=>U<=2/\ ∀(j:Nat) (y:Int),j<U->[xl,1 -xl][j]? =Option.some y-> ¬0<ei (cv xc) y) (fun U=>2 -U) 0 ⟨Nat.zero_le _,fun j y hj=>by first|omega|(simp only[];omega)⟩ sb (fun w hw=>ah.mem hw) ?_;rintro i ⟨bl,aL⟩;refine al ?_;refine Gb ?_ ?_<;>intro h0
 ·
  obtain⟨y,hy⟩:=get_some (xs:=[xl,1 -xl]) (i:=i) (by simp only[af0,anc]at h0⊢;omega);have Mr:i=0\/i=1:=by simp only[af0,anc]at h0;omega
  have hyr:y=0\/y=1:=by
   have:=alM hy;simp only[atv,auX,or_false]at this;omega
  refine Gc ?_;refine ag (bh rfl rfl i rfl oM) (ag (bT (j:=0) rfl i hy rfl (by decide)) (ar ?_));refine cO (bM rfl ⟨hk,by omega,by omega⟩) (av ?_);refine Gb ?_ ?_<;>intro h1
  ·
   have hE:(aY (cv xc) xl)=(cv xc,y,0):=by
    rcases Mr with rfl|rfl
    ·
     obtain rfl:xl=y:=by simpa using hy
     rw[aY,if_pos h1]
    obtain rfl:1 -xl=y:=by simpa using hy
    rw[aY,if_neg (aL 0 xl oM rfl),if_pos h1]
   refine aQ ?_;refine Gr fun w1 hw=>?_;exact⟨xc,by rw[hE],by rw[hE],ah.mem hw⟩
  refine al ?_;refine Gi ?_;exact bw (x:=(i)) (i+1) ⟨oF,fun j z hj hz=>if e:j=i then(by subst e;rw[hy]at hz;cases hz;exact h1)else aL j z oF hz⟩ oF sb (fun w hw=>ah.mem hw)
 have hi9:i=2:=by simp only[af0,anc]at h0 bl;omega
 subst hi9;have vY:=aL 0 xl oM rfl;have zd:=aL 1 (1 -xl) oM rfl;refine aZ ?_;refine ag (Ry.to (v':=xc.blocks.sv.val) (bI rfl) rfl) (Gs ?_);refine ag (bh rfl rfl ((1 -xl).toNat) oM oM) (ag (aN rfl rfl) (ag (bT (j:=3) rfl ((1 -xl).toNat) gI rfl (by decide)) (Gc ?_)));refine Gb ?_ ?_<;>intro h2
 ·
  have hE:(aY (cv xc) xl)=(cv xc,0,9):=by rw[aY,if_neg vY,if_neg zd,Bp,if_pos (show(bv Bo).bad=true from h2)]
  refine ar ?_;refine Gr fun w1 hw=>?_;exact⟨xc,by rw[hE],by rw[hE],ah.mem hw⟩
 have hE:(aY (cv xc) xl)=(du (cv xc) (1 -xl),1 -xl,dY (cv xc) (1 -xl)):=by rw[aY,if_neg vY,if_neg zd,Bp,if_neg (show ¬(bv Bo).bad=true by rw[show(bv Bo).bad=Bo.bad from rfl,h2];simp)]
 refine ar ?_;refine bb rfl ⟨hk,by omega,by omega⟩ fun x44 afX=>al ?_;refine Gr fun w1 hw=>?_;exact⟨x44,by rw[hE],by rw[afX,hE],ah.mem hw⟩
instance arA{w0:World}{L R1 L2:List ai}{i0 i1:Nat}{k:Nat}{xc:Cp}{xa:Sl Int}{xg:UInt64}{xl:Int}{xy:Bool}[q0:Has L k (aR (⟨⟨xc,xa,xg,xl⟩,xy⟩:aT)) 261 i0][d0:cn L i0 R1][q1:At R1 (fz xc) i1][d1:cn R1 i1 L2]:bV Tryz.prog 264 w0 L [.pointer (some ⟨k,0,none⟩)] (Cp) (fun U=> .tuple #[.int .i64 ((aY (cv xc) xl).2.1), .int .i64 ((aY (cv xc) xl).2.2)]) (fun U=>aq k (aR (⟨⟨U,xa,xg,xl⟩,xy⟩:aT)) 261::fz U::L2) (fun U=>cv U=(aY (cv xc) xl).1) (aW (cv xc)=true/\2<=(cv xc).blocks.length/\(xl=0\/xl=1)):=⟨fun hp w hw=>afW w0 w L2 k xc xa xg xl xy (px q0.h d0.h q1.h d1.h hw) hp⟩
theorem Ms{g:UInt64}(h:g.toNat<281474976710656):(g+1).toNat=g.toNat+1:=by
 rw[UInt64.toNat_add,show(1:UInt64).toNat=1 from rfl,at5 oM]
theorem Us(g:UInt64)(s:Sv)(xs:List Int)(w:World):(Instr.build 314 #[(0, .int .u64 (g.toNat:Int)),(1,s.val)]).run Tryz.prog w= .ok (.agg (eR ⟨g,⟨s,xs⟩⟩)) w:=by
 obtain⟨e,b,o,l,c,p⟩:=s;unfold eR
 cases e<;>kernel_rfl
theorem afY(w0 w:World)(L:List ai)(k:Nat)(xc:Cp)(xa:Sl Int)(xg:UInt64)(xl:Int)(xy:Bool)(s:Sv)(ss:List Int)(hw:Mem w0 (aq k (aR (⟨⟨xc,xa,xg,xl⟩,xy⟩:aT)) 261::fz xc::fz xa::own cf 1 s ss::L) w)(aA:cY (⟨⟨cv xc,xa.xs,xg.toNat,xl⟩,xy⟩:WV)):Calls Tryz.prog 224 #[.pointer (some ⟨k,0,none⟩),s.val] w fun e w'=> ∃U:Cp×Sl Int×UInt64×Int,e= .returned (.int .i64 ((dQ (⟨⟨cv xc,xa.xs,xg.toNat,xl⟩,xy⟩:WV) ss).2))/\((⟨⟨cv U.1,U.2.1.xs,U.2.2.1.toNat,U.2.2.2⟩,xy⟩:WV)=(dQ (⟨⟨cv xc,xa.xs,xg.toNat,xl⟩,xy⟩:WV) ss).1)/\Mem w0 (aq k (aR (⟨⟨U.1,U.2.1,U.2.2.1,U.2.2.2⟩,xy⟩:aT)) 261::fz U.1::fz U.2.1::L) w':=by
 have hU:=aA;have hk:aW (cv xc)=true:=hU.ae;have zw:xg.toNat<281474976710656:=hU.gen;have u5:=Ms zw;have Bu:4<=(cv xc).blocks.length:=hU.te;have Ht:xl=0\/xl=1:=hU.last;have Bv:dL (⟨xg+1,⟨s,ss⟩⟩:dH)=⟨xg.toNat+1,ss⟩:=by simp only[dL,u5]
 refine gV (args:=[_,_]) Tryz.func224 rfl Tryz.ntmps224 rfl hw ?_;change Cw _ _ _ _ _ [(0, .pointer (some ⟨k,0,none⟩)),(1,s.val)] (aq k (aR (⟨⟨xc,xa,xg,xl⟩,xy⟩:aT)) 261::fz xc::fz xa::own cf 1 s ss::L);refine di ?_;refine ag (Ry.to (v':= .int .u64 (xg.toNat:Nat)) (bI rfl) rfl) (ag (Ry.to (v':= .int .u64 ((xg+1).toNat:Int)) (Ca (p:=xg.toNat) (q:=1) rfl rfl rfl rfl (by simp only[nb];omega)) (by rw[u5])) (ar ?_));refine ag (cV (v:= .agg (eR (⟨xg+1,⟨s,ss⟩⟩:dH))) rfl (Us (xg+1) s ss)) (aQ ?_);refine ag (Ry.to (v':= .int .i64 xc.size) (bI rfl) rfl) (bb rfl trivial fun lH tt=>Gs ?_);refine ag (aE (v:=lH.val) rfl rfl) (ag (aE (v:= .int .i64 ((cX (dL (⟨xg+1,⟨s,ss⟩⟩:dH)) xc.size).2)) rfl rfl) (aZ ?_));refine Gb ?_ ?_<;>intro h0
 ·
  have hE:(dQ (⟨⟨cv xc,xa.xs,xg.toNat,xl⟩,xy⟩:WV) ss)=((⟨⟨cv xc,xa.xs,xg.toNat,xl⟩,xy⟩:WV),(cX (dL (⟨xg+1,⟨s,ss⟩⟩:dH)) xc.size).2):=by rw[dQ,if_pos (show(cX ⟨xg.toNat+1,ss⟩ (cv xc).size).2≠0 by rw[←Bv];exact h0),Bv];rfl
  refine ar ?_;refine Gr fun w1 hw=>?_;exact⟨(xc,xa,xg,xl),by rw[hE],by rw[hE],ah.mem hw⟩
 refine Gc ?_;refine ck (X:=Nat×Cp) (fun U=>[(0, .pointer (some ⟨k,0,none⟩)),(1,s.val),(5, .int .u64 ((xg+1).toNat:Nat)),(6,lH.val)]) (fun U=>aq k (aR (⟨⟨U.2,xa,xg,xl⟩,xy⟩:aT)) 261::fz U.2::fz xa::own cf 1 s ss::own aO 1 lH (cX (dL (⟨xg+1,⟨s,ss⟩⟩:dH)) xc.size).1::L) (fun U=>(dQ (⟨⟨cv xc,xa.xs,xg.toNat,xl⟩,xy⟩:WV) ss)=gh U.1 ((⟨⟨cv xc,xa.xs,xg.toNat,xl⟩,xy⟩:WV).on (cv U.2)) ss (cX (dL (⟨xg+1,⟨s,ss⟩⟩:dH)) xc.size).1/\aW (cv U.2)=true/\dU (cv xc) (cv U.2)/\(cS -(cv U.2).ops).toNat<U.1) (fun U=>U.1) ((cS -(cv xc).ops).toNat+1,xc) ⟨by rw[dQ,if_neg (show ¬(cX ⟨xg.toNat+1,ss⟩ (cv xc).size).2≠0 by rw[←Bv];exact fun h=>h h0),Bv];rfl,hk, .dk _,by simp only;omega⟩ sb (fun w hw=>ah.mem hw) ?_;rintro⟨m,d⟩ ⟨bl,aL,bC,dq⟩;dsimp only;simp only at bl aL bC dq;obtain⟨n,rfl⟩: ∃n,m=n+1:=⟨m -1,by omega⟩;refine av ?_;refine bb rfl ⟨aL,by rw[bC.len];omega,Ht⟩ fun nY Hu=>?_;obtain⟨r1,r2,r3,r4⟩:=GQ (c:=cv d) (last:=xl) aL Ht;rw[←Hu]at r1 r2 r3 r4;have r7:=bC.trans r2;have xM:=r7.len;have Ur:=bC.len;have zk:=tc r1;refine Gs ?_;refine ag (aE (v:= .int .i64 ((aY (cv d) xl).2.1)) rfl rfl) (ag (aE (v:= .int .i64 ((aY (cv d) xl).2.2)) rfl rfl) (aZ ?_));refine Gb ?_ ?_<;>intro h1
 ·
  have hE:(dQ (⟨⟨cv xc,xa.xs,xg.toNat,xl⟩,xy⟩:WV) ss)=((⟨⟨cv xc,xa.xs,xg.toNat,xl⟩,xy⟩:WV).on (cv nY),(aY (cv d) xl).2.2):=by
   rw[bl,gh];refine(if_pos h1).trans ?_;rw[Hu];rfl
  refine ar ?_;refine Gr fun w1 hw=>?_;exact⟨(nY,xa,xg,xl),by rw[hE],by rw[hE];rfl,ah.mem hw⟩
 have eZ:(aY (cv d) xl).2.2=0:=h1;obtain⟨r5,r6⟩:=r4 eZ;have bB:(dQ (⟨⟨cv xc,xa.xs,xg.toNat,xl⟩,xy⟩:WV) ss)=(if(bA (cv nY) (aY (cv d) xl).2.1 (cX (dL (⟨xg+1,⟨s,ss⟩⟩:dH)) xc.size).1)=0 then((⟨⟨(bx (cv nY) (aY (cv d) xl).2.1 (cX (dL (⟨xg+1,⟨s,ss⟩⟩:dH)) xc.size).1),ss,xg.toNat+1,if l6 (bx (cv nY) (aY (cv d) xl).2.1 (cX (dL (⟨xg+1,⟨s,ss⟩⟩:dH)) xc.size).1) 1=xg.toNat+1 then 1 else(aY (cv d) xl).2.1⟩,xy⟩:WV),(0:Int))else if(bA (cv nY) (aY (cv d) xl).2.1 (cX (dL (⟨xg+1,⟨s,ss⟩⟩:dH)) xc.size).1)≠9 then((⟨⟨cv xc,xa.xs,xg.toNat,xl⟩,xy⟩:WV).on (bx (cv nY) (aY (cv d) xl).2.1 (cX (dL (⟨xg+1,⟨s,ss⟩⟩:dH)) xc.size).1),(bA (cv nY) (aY (cv d) xl).2.1 (cX (dL (⟨xg+1,⟨s,ss⟩⟩:dH)) xc.size).1))else gh n ((⟨⟨cv xc,xa.xs,xg.toNat,xl⟩,xy⟩:WV).on (bx (cv nY) (aY (cv d) xl).2.1 (cX (dL (⟨xg+1,⟨s,ss⟩⟩:dH)) xc.size).1)) ss (cX (dL (⟨xg+1,⟨s,ss⟩⟩:dH)) xc.size).1):=by
  rw[bl,gh];refine(if_neg (fun h=>h eZ)).trans ?_;rw[Hu];rfl
 refine ar ?_;refine bb rfl ⟨r1,by omega,by omega⟩ fun ky sd=>aQ ?_;refine Gb ?_ ?_<;>intro h2
 ·
  have fH:(bA (cv nY) (aY (cv d) xl).2.1 (cX (dL (⟨xg+1,⟨s,ss⟩⟩:dH)) xc.size).1)=0:=h2;rw[if_pos fH]at bB;refine av ?_;refine cO (bM rfl ⟨by rw[sd];exact lZ r1 _ _,by omega,by rw[sd,(iP _ _ _).len];omega⟩) (al ?_);refine Gb ?_ ?_<;>intro h3
  ·
   have hE:=bB;rw[if_pos (show l6 (bx (cv nY) (aY (cv d) xl).2.1 (cX (dL (⟨xg+1,⟨s,ss⟩⟩:dH)) xc.size).1) 1=xg.toNat+1 by rw[←sd];omega)]at hE;refine Gi ?_;refine qo ?_;refine dO (cs':=aR (⟨⟨ky,⟨s,ss⟩,xg,xl⟩,xy⟩:aT)) rfl rfl (by show 6<10;decide) (by first|rfl|exact Sv.one _) rfl (al ?_);refine dO (cs':=aR (⟨⟨ky,⟨s,ss⟩,(xg+1),xl⟩,xy⟩:aT)) rfl rfl (by show 7<10;decide) (by first|rfl|exact Sv.one _) rfl (al ?_);refine dO (cs':=aR (⟨⟨ky,⟨s,ss⟩,(xg+1),1⟩,xy⟩:aT)) rfl rfl (by show 8<10;decide) (by first|rfl|exact Sv.one _) rfl (al ?_);refine Gr fun w1 hw=>?_;exact⟨(ky,⟨s,ss⟩,xg+1,1),by rw[hE],by rw[hE,sd,u5],ah.mem (yU (a:=⟨s,ss⟩) (ah.mem hw:Mem w0 (own cf 1 s ss::aq k (aR (⟨⟨ky,⟨s,ss⟩,xg+1,1⟩,xy⟩:aT)) 261::fz ky::L) _))⟩
  have hE:=bB;rw[if_neg (show ¬l6 (bx (cv nY) (aY (cv d) xl).2.1 (cX (dL (⟨xg+1,⟨s,ss⟩⟩:dH)) xc.size).1) 1=xg.toNat+1 by rw[←sd];omega)]at hE;refine qW ?_;refine dO (cs':=aR (⟨⟨ky,⟨s,ss⟩,xg,xl⟩,xy⟩:aT)) rfl rfl (by show 6<10;decide) (by first|rfl|exact Sv.one _) rfl (al ?_);refine dO (cs':=aR (⟨⟨ky,⟨s,ss⟩,(xg+1),xl⟩,xy⟩:aT)) rfl rfl (by show 7<10;decide) (by first|rfl|exact Sv.one _) rfl (al ?_);refine dO (cs':=aR (⟨⟨ky,⟨s,ss⟩,(xg+1),(aY (cv d) xl).2.1⟩,xy⟩:aT)) rfl rfl (by show 8<10;decide) (by first|rfl|exact Sv.one _) rfl (al ?_);refine Gr fun w1 hw=>?_;exact⟨(ky,⟨s,ss⟩,xg+1,(aY (cv d) xl).2.1),by rw[hE],by rw[hE,sd,u5],ah.mem (yU (a:=⟨s,ss⟩) (ah.mem hw:Mem w0 (own cf 1 s ss::aq k (aR (⟨⟨ky,⟨s,ss⟩,xg+1,(aY (cv d) xl).2.1⟩,xy⟩:aT)) 261::fz ky::L) _))⟩
 have fH: ¬(bA (cv nY) (aY (cv d) xl).2.1 (cX (dL (⟨xg+1,⟨s,ss⟩⟩:dH)) xc.size).1)=0:=h2;refine ar ?_;refine Gb ?_ ?_<;>intro h4
 ·
  have hE:=bB;rw[if_neg fH,if_pos (show(bA (cv nY) (aY (cv d) xl).2.1 (cX (dL (⟨xg+1,⟨s,ss⟩⟩:dH)) xc.size).1)≠9 from h4)]at hE;refine ar ?_;refine Gr fun w1 hw=>?_;exact⟨(ky,xa,xg,xl),by rw[hE],by rw[hE,sd];rfl,ah.mem hw⟩
 refine gu ?_;have jZ:(bA (cv nY) (aY (cv d) xl).2.1 (cX (dL (⟨xg+1,⟨s,ss⟩⟩:dH)) xc.size).1)=9:=h4;have DM:=uA r6 (p:=(cX (dL (⟨xg+1,⟨s,ss⟩⟩:dH)) xc.size).1) (.inl jZ);have Mq:=tc (lZ r1 (aY (cv d) xl).2.1 (cX (dL (⟨xg+1,⟨s,ss⟩⟩:dH)) xc.size).1);rw[DM]at Mq;exact bw (x:=(n+1,d)) (n,ky) ⟨by rw[bB,if_neg fH,if_neg (fun h=>h jZ),sd],by rw[sd];exact lZ r1 _ _,by rw[sd];exact r7.trans (iP _ _ _),by rw[sd,DM];omega⟩ (by simp only;omega) sb (fun w hw=>ah.mem hw)
instance arB{w0:World}{L R1 R2 R3 L2:List ai}{i0 i1 i2 i3:Nat}{k:Nat}{xc:Cp}{xa:Sl Int}{xg:UInt64}{xl:Int}{xy:Bool}{s:Sv}{ss:List Int}[q0:Has L k (aR (⟨⟨xc,xa,xg,xl⟩,xy⟩:aT)) 261 i0][d0:cn L i0 R1][q1:At R1 (fz xc) i1][d1:cn R1 i1 R2][q2:At R2 (fz xa) i2][d2:cn R2 i2 R3][q3:fX R3 s cf 1 ss i3][d3:cn R3 i3 L2]:bV Tryz.prog 224 w0 L [.pointer (some ⟨k,0,none⟩),s.val] (Cp×Sl Int×UInt64×Int) (fun U=> .int .i64 ((dQ (⟨⟨cv xc,xa.xs,xg.toNat,xl⟩,xy⟩:WV) ss).2)) (fun U=>aq k (aR (⟨⟨U.1,U.2.1,U.2.2.1,U.2.2.2⟩,xy⟩:aT)) 261::fz U.1::fz U.2.1::L2) (fun U=>(⟨⟨cv U.1,U.2.1.xs,U.2.2.1.toNat,U.2.2.2⟩,xy⟩:WV)=(dQ (⟨⟨cv xc,xa.xs,xg.toNat,xl⟩,xy⟩:WV) ss).1) (cY (⟨⟨cv xc,xa.xs,xg.toNat,xl⟩,xy⟩:WV)):=⟨fun hp w hw=>afY w0 w L2 k xc xa xg xl xy s ss (Tq q0.h d0.h q1.h d1.h q2.h d2.h q3.h d3.h hw) hp⟩
theorem afZ(i:Int)(g:UInt64)(s:Sv)(xs:List UInt8)(w:World):(Instr.build 324 #[(0, .int .i64 1),(1, .int .i64 i),(2, .int .u64 (g.toNat:Int)),(3,s.val)]).run Tryz.prog w= .ok (.agg (dj ⟨1,i,g,⟨s,xs⟩⟩)) w:=by
 obtain⟨e,b,o,l,c,p⟩:=s;unfold dj
 cases e<;>kernel_rfl
theorem af1(w0 w:World)(L:List ai)(k:Nat)(xc:Cp)(xa:Sl Int)(xg:UInt64)(xl:Int)(xy:Bool)(f:Int)(t:Int)(hw:Mem w0 (aq k (aR (⟨⟨xc,xa,xg,xl⟩,xy⟩:aT)) 261::fz xc::fz xa::L) w)(aA:cY (⟨⟨cv xc,xa.xs,xg.toNat,xl⟩,xy⟩:WV)/\2<=f/\f<(cv xc).blocks.length/\(0<=t->2<=t/\t<(cv xc).blocks.length)):Calls Tryz.prog 331 #[.pointer (some ⟨k,0,none⟩), .int .i64 f, .int .i64 t] w fun e w'=> ∃U:Cp×Sl Int×UInt64×Int,e= .returned (.tuple #[.bool ((cU (⟨⟨cv xc,xa.xs,xg.toNat,xl⟩,xy⟩:WV) f t).2.1), .int .i64 ((cU (⟨⟨cv xc,xa.xs,xg.toNat,xl⟩,xy⟩:WV) f t).2.2)])/\((⟨⟨cv U.1,U.2.1.xs,U.2.2.1.toNat,U.2.2.2⟩,xy⟩:WV)=(cU (⟨⟨cv xc,xa.xs,xg.toNat,xl⟩,xy⟩:WV) f t).1)/\Mem w0 (aq k (aR (⟨⟨U.1,U.2.1,U.2.2.1,U.2.2.2⟩,xy⟩:aT)) 261::fz U.1::fz U.2.1::L) w':=by
 obtain⟨hU,mZ,Ar,Me⟩:=aA;have hk:aW (cv xc)=true:=hU.ae;have Bu:4<=(cv xc).blocks.length:=hU.te;have hd:=eU hk;have zw:xg.toNat<281474976710656:=hU.gen;have u5:=Ms zw;have dE:xa.xs.length<=64:=hU.kM;have wo:iQ (cv xc) xa.xs:=hU.vU;have Ut:1<=xc.pages/\xc.pages<=16:=⟨hd.2.2.1,hd.2.2.2.1⟩;refine gV (args:=[_,_,_]) Tryz.func331 rfl Tryz.ntmps331 rfl hw ?_;change Cw _ _ _ _ _ [(0, .pointer (some ⟨k,0,none⟩)),(1, .int .i64 f),(2, .int .i64 t)] (aq k (aR (⟨⟨xc,xa,xg,xl⟩,xy⟩:aT)) 261::fz xc::fz xa::L);refine ja ?_;refine ag (Ry.to (v':= .int .i64 xc.pages) (bI rfl) rfl) (aZ ?_);refine ag (Ry.to (v':=xa.sv.val) (bI rfl) rfl) (bb rfl oM fun aB wa=>aZ ?_);refine ag (Ry.to (v':=xa.sv.val) (bI rfl) rfl) (al ?_);refine ck (X:=Nat×Cp×List Int) (fun U=>[(39, .int .i64 (U.1:Nat)),(0, .pointer (some ⟨k,0,none⟩)),(9,aB.val),(1, .int .i64 f),(2, .int .i64 t),(8, .int .i64 xc.pages),(37,xa.sv.val),(38, .int .i64 (xa.xs.length:Nat))]) (fun U=>aq k (aR (⟨⟨U.2.1,xa,xg,xl⟩,xy⟩:aT)) 261::fz U.2.1::fz xa::own cf 1 aB U.2.2::L) (fun U=>U.1<=xa.xs.length/\(cc (⟨cv xc,xa.xs,xg.toNat,xl⟩:VV) f t xa.xs 0 (cv xc) xa.xs)=(cc (⟨cv xc,xa.xs,xg.toNat,xl⟩:VV) f t (xa.xs.drop U.1) U.1 (cv U.2.1) U.2.2)/\aW (cv U.2.1)=true/\dU (cv xc) (cv U.2.1)/\U.2.2.length=xa.xs.length/\iQ (cv xc) U.2.2) (fun U=>xa.xs.length -U.1) (0,xc,xa.xs) ⟨Nat.zero_le _,rfl,hk, .dk _,rfl,wo⟩ sb (fun w hw=>ah.mem hw) ?_;rintro⟨i,d,zs⟩ ⟨bl,aL,bC,dq,DN,Hv⟩;dsimp only;simp only at bl aL bC dq DN Hv;have Hw:=dq.len;have DO:d.pages=xc.pages:=dq.pages;have kg:(cv d).blocks.length=d.blocks.xs.length:=ie _;refine al ?_;refine Gb ?_ ?_<;>intro h0
 ·
  obtain⟨n,xL⟩:=get_some (xs:=xa.xs) (i:=i) oM;obtain⟨zi,qC⟩:=get_some (xs:=zs) (i:=i) oM;have Mt:=wo n (alM xL);have Hx:0<=n:=by rcases Mt with h|h<;>omega
  have hnp:n<=512:=by
   rcases Mt with h|h
   ·
    omega
   exact KV Ut.1 Ut.2 hd.2.1 h.2.2
  have bB:(cc (⟨cv xc,xa.xs,xg.toNat,xl⟩:VV) f t (xa.xs.drop i) i (cv d) zs)=(if n=0\/(n -1)/xc.pages≠f then(cc (⟨cv xc,xa.xs,xg.toNat,xl⟩:VV) f t (xa.xs.drop (i+1)) (i+1) (cv d) zs)else if(cB (cv d) xa.xs zs f t).2=false then(⟨cv d,zs,some 6⟩:MV)else if(eo (cv d) ((xg.toNat:Int)+1) i n).2≠0 then⟨cv d,zs,some (eo (cv d) ((xg.toNat:Int)+1) i n).2⟩else if(bA (cv d) (cB (cv d) xa.xs zs f t).1 (eo (cv d) ((xg.toNat:Int)+1) i n).1)≠0 then⟨(bx (cv d) (cB (cv d) xa.xs zs f t).1 (eo (cv d) ((xg.toNat:Int)+1) i n).1),zs,some (jS (bA (cv d) (cB (cv d) xa.xs zs f t).1 (eo (cv d) ((xg.toNat:Int)+1) i n).1))⟩else(cc (⟨cv xc,xa.xs,xg.toNat,xl⟩:VV) f t (xa.xs.drop (i+1)) (i+1) (bx (cv d) (cB (cv d) xa.xs zs f t).1 (eo (cv d) ((xg.toNat:Int)+1) i n).1) (zs.set i ((cB (cv d) xa.xs zs f t).1*xc.pages+(aj (cv d) (cB (cv d) xa.xs zs f t).1).used+1)))):=by
   rw[drop_at xL,cc];rfl
  refine av ?_;refine ag (bh rfl rfl i rfl oM) (ag (bT (j:=0) rfl i xL rfl (by decide)) (di ?_));refine bJ rfl rfl rfl (fun hg=>(Ry.yl (zT (aF hg rfl) rfl (by simp only[Z0,Z1,Z2,Z3,Z4,Z5,Z6,Z7,Z8,Z9]at hg;omega)))) (Gg ?_);refine bJ rfl rfl rfl (fun hg=>(Ry.yl (n9 (aF hg rfl) (aF hg rfl) (by simp only[Z0,Z1,Z2,Z3,Z4,Z5,Z6,Z7,Z8,Z9]at hg;omega) (by simp only[Z0,Z1,Z2,Z3,Z4,Z5,Z6,Z7,Z8,Z9]at hg;omega)))) (ar ?_);refine Gb ?_ ?_<;>intro h1
  ·
   refine al ?_;refine Gi ?_;exact bw (x:=(i,d,zs)) (i+1,d,zs) ⟨by simp only;omega,by rw[aL,bB,if_pos h1],bC,dq,DN,Hv⟩ (by simp only;omega) sb (fun w hw=>ah.mem hw)
  have eZ: ¬(n=0\/(n -1)/xc.pages≠f):=fun g=>g.elim h1.1 (fun g=>g h1.2);have Hy:1<=n/\n<=1000000/\2<=(n -1)/d.pages/\(n -1)/d.pages<((cv d).blocks.length:Int):=by
   rw[DO,Hw];rcases Mt with h|h
   ·
    exact absurd (.inl h) eZ
   exact⟨h.1,by omega,h.2.1,h.2.2⟩
  refine al ?_;refine gu ?_;refine sB (X:=Unit) (fun U=>[(12, .int .i64 ((cB (cv d) xa.xs zs f t).1)),(0, .pointer (some ⟨k,0,none⟩)),(1, .int .i64 f),(2, .int .i64 t),(8, .int .i64 xc.pages),(9,aB.val),(10, .int .i64 (i:Nat)),(37,xa.sv.val),(38, .int .i64 (xa.xs.length:Nat)),(39, .int .i64 (i:Nat))]) (fun U=>aq k (aR (⟨⟨d,xa,xg,xl⟩,xy⟩:aT)) 261::fz d::fz xa::own cf 1 aB zs::L) (fun U=>(cB (cv d) xa.xs zs f t).2=true/\2<=(cB (cv d) xa.xs zs f t).1/\(cB (cv d) xa.xs zs f t).1<(cv d).blocks.length) ?_ ?_
  ·
   refine ar ?_;refine Gb ?_ ?_<;>intro h2
   ·
    refine Gi ?_;have eQ:aw [xa,(⟨aB,zs⟩:Sl Int)]=xa.xs++zs:=Mm _ _;have mR:=l5 (cv d) (aw [xa,(⟨aB,zs⟩:Sl Int)]);obtain⟨q,hq⟩:=get_some (xs:=(au (cv d) (aw [xa,(⟨aB,zs⟩:Sl Int)]))) (i:=(f -2).toNat) (by rw[l5];omega);have rr:xr (cv d) (aw [xa,(⟨aB,zs⟩:Sl Int)]):=by
     rw[Mm];exact((wo.cj dq).append (Hv.cj dq)).kn bC oM (by rw[adr];omega)
    refine Gi ?_;refine aQ ?_;refine ag (Ry.to (v':=xa.sv.val) (bI rfl) rfl) (Gs ?_);refine om (enc:=cq) (vals:=[xa.sv.val,aB.val]) [xa,(⟨aB,zs⟩:Sl Int)] rfl (by simp only[atI,auv,Sv.jM];rfl) rfl (by decide) (by decide) fun b64=>?_;refine bb (hc:=Ml (l:=(⟨⟨false,b64,0,2,2,none⟩,[xa,⟨aB,zs⟩]⟩:Sl (Sl Int)))) rfl rr fun x65 arC=>aQ ?_;refine ag (cV (v:= .agg (bL bc)) rfl Hs) (ag (bh rfl rfl ((f -2).toNat) oM (show(f -2).toNat<(au (cv d) (aw [xa,(⟨aB,zs⟩:Sl Int)])).length by omega)) (mv (s:=x65) (n:=4) (k:=(f -2).toNat) (j:=0) (a:=q) (a':=bc) (xs:=(au (cv d) (aw [xa,(⟨aB,zs⟩:Sl Int)]))) (enc:=bL) (c:=4) (v:= .agg (bL bc)) oK rfl rfl rfl hq (bp.one (enc:=bL) (c:=4) _) rfl (by decide) (by rfl) (aQ ?_)));refine ag (aE (v:= .int .i64 ((fD ((au (cv d) (aw [xa,(⟨aB,zs⟩:Sl Int)])).set (f -2).toNat bc) xc.pages).1)) rfl rfl) (ag (aE (v:= .bool ((fD ((au (cv d) (aw [xa,(⟨aB,zs⟩:Sl Int)])).set (f -2).toNat bc) xc.pages).2)) rfl rfl) (aZ ?_));refine Gb ?_ ?_<;>intro h3
    ·
     have Bm:(cB (cv d) xa.xs zs f t).2=false:=by rw[cB,if_pos h2,←eQ,if_neg];rw[show(cv d).pages=xc.pages from DO,h3];simp
     have hE:=K6 (x:=(⟨⟨cv xc,xa.xs,xg.toNat,xl⟩,xy⟩:WV)) (src:=f) (tgt:=t) (show cc _ _ _ _ _ _ _=_ from(aL.trans (bB.trans ((if_neg eZ).trans (if_pos Bm)))));refine ar ?_;refine Gr fun w1 hw=>?_;exact⟨(d,xa,xg,xl),by rw[hE],by rw[hE];rfl,ah.mem hw⟩
    have uV:=AP (show(gg _ _ _ _).2=true from h3);have Hz:(cB (cv d) xa.xs zs f t)=((fD ((au (cv d) (aw [xa,(⟨aB,zs⟩:Sl Int)])).set (f -2).toNat bc) xc.pages).1+2,true):=by rw[cB,if_pos h2,←eQ,show(cv d).pages=xc.pages from DO,if_pos h3]
    have arD:0<=(fD ((au (cv d) (aw [xa,(⟨aB,zs⟩:Sl Int)])).set (f -2).toNat bc) xc.pages).1:=uV.2.1;have af2:(fD ((au (cv d) (aw [xa,(⟨aB,zs⟩:Sl Int)])).set (f -2).toNat bc) xc.pages).1<(((au (cv d) (aw [xa,(⟨aB,zs⟩:Sl Int)])).set (f -2).toNat bc).length:Int):=uV.2.2.1;rw[atV,l5]at af2;refine ar ?_;refine Gi ?_;exact hY () ⟨by rw[Hz],by rw[Hz];simp only;omega,by rw[Hz];simp only;omega⟩ (Sub.cons (look_eq rfl (by rw[Hz])) sb) (fun w hw=>ah.mem hw)
   refine Gi ?_;exact hY () ⟨by rw[cB,if_neg h2],by rw[cB,if_neg h2];exact(Me oF).1,by rw[cB,if_neg h2,Hw];exact(Me oF).2⟩ (Sub.cons (look_eq rfl (by rw[cB,if_neg h2])) sb) (fun w hw=>ah.mem hw)
  rintro⟨⟩ ⟨wq,xZ,Bw⟩;obtain⟨B,hB⟩:=get_some (xs:=d.blocks.xs) (i:=(cB (cv d) xa.xs zs f t).1.toNat) oM;have tB:Mb B d.blocks:=⟨List.mem_of_getElem? hB⟩;have fm:=uB hB;have rv:(aj (cv d) (cB (cv d) xa.xs zs f t).1).used=B.used:=by rw[fm];rfl
  have gI:=fu.1 (s9 bC (b:=(cB (cv d) xa.xs zs f t).1) oM oM);rw[rv,show(cv d).pages=xc.pages from DO]at gI;have oN:0<=(cB (cv d) xa.xs zs f t).1*xc.pages:=au6 oM oM;have oT:(cB (cv d) xa.xs zs f t).1*xc.pages<=32*16:=awl oM oM oM oM;refine Gi ?_;refine qn [12,14,15,2014,4012] [[],[],[],[],[],[],[],[],[],[],[],[],[],[12],[],[12,14]] [0,1,2,3,4,5,6,7,8,9,10,11,12,13,14,15] [aq k (aR (⟨⟨d,xa,xg,xl⟩,xy⟩:aT)) 261,fz d,fz xa] [(14,mz Tryz.prog 324)] oK (fun _ hw=>ah.mem hw) oK oK (an rfl (bo rfl) (an rfl (bo rfl) (an rfl (gq rfl) (an rfl (aN (o':=0) rfl rfl) (an rfl (aN (o':=7) rfl rfl) (an rfl (Ry.to (v':= .int .u64 (xg.toNat:Nat)) (bI rfl) rfl) (an rfl (Ry.to (v':= .int .u64 ((xg+1).toNat:Int)) (Ca (p:=xg.toNat) (q:=1) rfl rfl rfl rfl (by simp only[nb];omega)) (by rw[u5])) (an rfl (bo rfl) (an rfl (gq rfl) (an rfl (aN (o':=0) rfl rfl) (an rfl (Ry.to (v':= .agg (cD (⟨d,xa,xg,xl⟩:cA))) (fW rfl) rfl) (an rfl (bo rfl) ?_))))))))))));refine vH (hc:=Ui (v:=(⟨d,xa,xg,xl⟩:cA)) (id:=((i:Nat):Int))) (JV:=fun e_=>Ui (v:=(⟨d,xa,xg,xl⟩:cA)) (id:=((i:Nat):Int))) rfl rfl ⟨bC,n,by rw[auy];exact xL,by omega,Hy.1,Hy.2.1,Hy.2.2.1,Hy.2.2.2⟩ (fun e x w hw=>ah.mem hw) (Cert.one (i:=14) rfl rfl rfl mA (Cert.none rfl)) fun DP arE=>⟨fun _ hw=>ah.mem hw,?_⟩;refine an rfl (cV (v:= .agg (dj (⟨1,((i:Nat):Int),xg+1,⟨DP,(jl (cv d) (xa.xs.getD ((i:Nat):Int).toNat 0))⟩⟩:fv))) rfl (afZ ((i:Nat):Int) (xg+1) DP _)) (pw (m:=mz Tryz.prog 324) rfl rfl mA (Cert.none rfl) fun DQ=>?_);change Ln _ _ _ _ _ _ _ _ (cy _ _ (.pointer (some ⟨DQ,0,none⟩))) (aq DQ (dj pH) 324::_) _;refine dr rfl (ql rfl rfl ⟨fun _ hw=>ah.mem hw,?_⟩);refine kD ?_;have np:(dt (cW (⟨1,((i:Nat):Int),xg+1,⟨DP,(jl (cv d) (xa.xs.getD ((i:Nat):Int).toNat 0))⟩⟩:fv)) d.size)=(eo (cv d) ((xg.toNat:Int)+1) i n):=by
   have e1:xa.xs.getD ((i:Nat):Int).toNat 0=n:=by rw[auy];exact qu xL
   rw[eo,e1];simp only[cW,u5];congr 2
  refine ji [7] [[],[],[],[],[],[],[],[],[7],[7],[7],[7],[7]] [0,1,2,3,4,5,6,7,8,9,10,11,12] [aq k (aR (⟨⟨d,xa,xg,xl⟩,xy⟩:aT)) 261,fz d,aq DQ (dj (⟨1,((i:Nat):Int),xg+1,⟨DP,(jl (cv d) (xa.xs.getD ((i:Nat):Int).toNat 0))⟩⟩:fv)) 324] (fun _ hw=>ah.mem hw) oK oK (an rfl (kC rfl) (an rfl (bo rfl) (an rfl (gq rfl) (an rfl (aN (o':=0) rfl rfl) (an rfl (aN (o':=0) rfl rfl) (an rfl (aN (o':=1) rfl rfl) (an rfl (Ry.to (v':= .int .i64 d.size) (bI rfl) rfl) (dr rfl (qk rfl trivial fun af3 arF=>⟨fun _ hw=>ah.mem hw,?_⟩)))))))));refine an rfl (bo rfl) (an rfl (aE (v:=af3.val) rfl rfl) (an rfl (aE (v:= .int .i64 ((dt (cW (⟨1,((i:Nat):Int),xg+1,⟨DP,(jl (cv d) (xa.xs.getD ((i:Nat):Int).toNat 0))⟩⟩:fv)) d.size).2)) rfl rfl) (an rfl (gS rfl) (an rfl (gS rfl) (ar ?_)))));refine Gb ?_ ?_<;>intro h4
  ·
   have jZ:(eo (cv d) ((xg.toNat:Int)+1) i n).2≠0:=by rw[←np];exact h4
   have hE:=K6 (x:=(⟨⟨cv xc,xa.xs,xg.toNat,xl⟩,xy⟩:WV)) (src:=f) (tgt:=t) (show cc _ _ _ _ _ _ _=_ from(aL.trans (bB.trans ((if_neg eZ).trans ((if_neg (by rw[wq];simp)).trans (if_pos jZ))))));refine aQ ?_;refine Gr fun w1 hw=>?_;exact⟨(d,xa,xg,xl),by rw[hE,np],by rw[hE];rfl,ah.mem hw⟩
  have jZ:(eo (cv d) ((xg.toNat:Int)+1) i n).2=0:=by rw[←np];exact h4
  refine aZ ?_;refine ag (Ry.to (v':=d.blocks.sv.val) (bI rfl) rfl) (Gs ?_);refine ag (bh rfl rfl ((cB (cv d) xa.xs zs f t).1.toNat) oM oM) (ag (aN rfl rfl) (ag (bT (j:=1) rfl ((cB (cv d) xa.xs zs f t).1.toNat) hB rfl (by decide)) (aQ ?_)));refine bb rfl ⟨bC,by omega,by omega⟩ fun Uu DR=>?_;rw[np]at DR;refine aQ ?_;refine Gb ?_ ?_<;>intro h5
  ·
   have pW:(bA (cv d) (cB (cv d) xa.xs zs f t).1 (eo (cv d) ((xg.toNat:Int)+1) i n).1)≠0:=by rw[←np];exact h5
   have hE:=K6 (x:=(⟨⟨cv xc,xa.xs,xg.toNat,xl⟩,xy⟩:WV)) (src:=f) (tgt:=t) (show cc _ _ _ _ _ _ _=_ from(aL.trans (bB.trans ((if_neg eZ).trans ((if_neg (by rw[wq];simp)).trans ((if_neg (fun h=>h jZ)).trans (if_pos pW)))))));refine aZ ?_;refine Gr fun w1 hw=>?_;exact⟨(Uu,xa,xg,xl),by rw[hE,np],by rw[hE,DR];rfl,ah.mem hw⟩
  have pW:(bA (cv d) (cB (cv d) xa.xs zs f t).1 (eo (cv d) ((xg.toNat:Int)+1) i n).1)=0:=by rw[←np];exact h5
  have fU:=jQ.1 (qv pW).1;rw[rv,show(cv d).pages=xc.pages from DO]at fU;have Bx:((cB (cv d) xa.xs zs f t).1*xc.pages+B.used+1)=0\/(1<=((cB (cv d) xa.xs zs f t).1*xc.pages+B.used+1)/\2<=(((cB (cv d) xa.xs zs f t).1*xc.pages+B.used+1) -1)/(cv xc).pages/\(((cB (cv d) xa.xs zs f t).1*xc.pages+B.used+1) -1)/(cv xc).pages<((cv xc).blocks.length:Int)):=by
   have hq:(((cB (cv d) xa.xs zs f t).1*xc.pages+B.used+1) -1)/xc.pages=(cB (cv d) xa.xs zs f t).1:=by
    rw[auS,avi,auE _ _ oM,aum fU.2.1 fU.2.2.1,avn]
   exact .inr ⟨by omega,by rw[show(cv xc).pages=xc.pages from rfl,hq];exact xZ,by rw[show(cv xc).pages=xc.pages from rfl,hq];omega⟩
  refine aQ ?_;refine ag (vl rfl rfl oM) (al ?_);refine ag (bh rfl rfl i rfl oM) (mv (s:=aB) (n:=1) (k:=i) (j:=0) (a:=zi) (a':=((cB (cv d) xa.xs zs f t).1*xc.pages+B.used+1)) (xs:=zs) (enc:=cf) (c:=1) (v:= .int .i64 ((cB (cv d) xa.xs zs f t).1*xc.pages+B.used+1)) oK rfl rfl rfl qC (by simp[Value.cells,Value.oneCell']) rfl (by decide) (by rfl) (al ?_));refine Gi ?_;exact bw (x:=(i,d,zs)) (i+1,Uu,zs.set i ((cB (cv d) xa.xs zs f t).1*xc.pages+B.used+1)) ⟨by simp only;omega,by rw[aL,bB,if_neg eZ,if_neg (by rw[wq];simp),if_neg (fun h=>h jZ),if_neg (fun h=>h pW),DR,rv],by rw[DR];exact lZ bC _ _,by rw[DR];exact dq.trans (iP _ _ _),by rw[atV];exact DN,fun y hy=>(at0 hy).elim (Hv y) fun hy=>hy▸Bx⟩ (by simp only;omega) sb (fun w hw=>ah.mem hw)
 obtain rfl:i=xa.xs.length:=by omega
 have wu:(cc (⟨cv xc,xa.xs,xg.toNat,xl⟩:VV) f t xa.xs 0 (cv xc) xa.xs)=⟨cv d,zs,none⟩:=by rw[aL,avG];rfl
 have hE:=adt (x:=(⟨⟨cv xc,xa.xs,xg.toNat,xl⟩,xy⟩:WV)) (src:=f) (tgt:=t) wu;have Mu:cY (⟨⟨cv d,xa.xs,xg.toNat,xl⟩,xy⟩:WV):=hU.on bC dq;refine al ?_;refine bb rfl Mu fun HA af4=>fI ?_;refine Gr fun w1 hw=>?_;exact⟨(HA.1,HA.2.1,HA.2.2.1,HA.2.2.2),by rw[hE];rfl,by rw[hE];exact af4,ah.mem hw⟩
instance arG{w0:World}{L R1 R2 L2:List ai}{i0 i1 i2:Nat}{k:Nat}{xc:Cp}{xa:Sl Int}{xg:UInt64}{xl:Int}{xy:Bool}{f:Int}{t:Int}[q0:Has L k (aR (⟨⟨xc,xa,xg,xl⟩,xy⟩:aT)) 261 i0][d0:cn L i0 R1][q1:At R1 (fz xc) i1][d1:cn R1 i1 R2][q2:At R2 (fz xa) i2][d2:cn R2 i2 L2]:bV Tryz.prog 331 w0 L [.pointer (some ⟨k,0,none⟩), .int .i64 f, .int .i64 t] (Cp×Sl Int×UInt64×Int) (fun U=> .tuple #[.bool ((cU (⟨⟨cv xc,xa.xs,xg.toNat,xl⟩,xy⟩:WV) f t).2.1), .int .i64 ((cU (⟨⟨cv xc,xa.xs,xg.toNat,xl⟩,xy⟩:WV) f t).2.2)]) (fun U=>aq k (aR (⟨⟨U.1,U.2.1,U.2.2.1,U.2.2.2⟩,xy⟩:aT)) 261::fz U.1::fz U.2.1::L2) (fun U=>(⟨⟨cv U.1,U.2.1.xs,U.2.2.1.toNat,U.2.2.2⟩,xy⟩:WV)=(cU (⟨⟨cv xc,xa.xs,xg.toNat,xl⟩,xy⟩:WV) f t).1) (cY (⟨⟨cv xc,xa.xs,xg.toNat,xl⟩,xy⟩:WV)/\2<=f/\f<(cv xc).blocks.length/\(0<=t->2<=t/\t<(cv xc).blocks.length)):=⟨fun hp w hw=>af1 w0 w L2 k xc xa xg xl xy f t (wb q0.h d0.h q1.h d1.h q2.h d2.h hw) hp⟩
instance arH{xb:Nat}{xc:Cp}{xa:Sl Int}{xg:UInt64}{xl:Int}{xy:Bool}{l:Sv}{ls:List az}[eu:nt w0 L xb (aR (⟨⟨xc,xa,xg,xl⟩,xy⟩:aT)) 261][eF:aX w0 L xc][hl:dy w0 L bL 4 l ls]:bU Tryz.prog 305 w0 L [.pointer (some ⟨xb,0,none⟩),l.val] (.tuple #[.int .i64 ((iR ls xc.pages).1), .bool ((iR ls xc.pages).2)]) (ls.length<=1000000/\ ∀x∈ls,0<=x.live/\x.live<=1000000/\0<=x.used/\x.used<=1000000):=⟨fun aA w hw=>by
 have eu:=eu.h w hw;have eF:=eF.h w hw;have hl:=hl.h w hw;have wj:rW w xb (aR (⟨⟨xc,xa,xg,xl⟩,xy⟩:aT)) 261:=⟨eu⟩;have wk:cQ w xc:=⟨eF⟩;have qx:Gv w l bL 4 ls:=⟨hl⟩;obtain⟨mf,jF⟩:=aA;have qw:cS=1099511627776:=rfl;refine dz Tryz.func305 rfl Tryz.ntmps305 rfl ?_;refine qW ?_;refine ag (Ry.to (v':= .int .i64 xc.pages) (oP rfl) rfl) (av ?_);refine ag (aE (v:= .int .i64 ((vR ls xc.pages).1)) rfl rfl) (ag (aE (v:= .bool ((vR ls xc.pages).2)) rfl rfl) (aQ ?_));refine Gb ?_ ?_<;>intro h0
 ·
  have hE:iR ls xc.pages=((vR ls xc.pages).1,true):=by rw[iR,if_pos h0]
  refine aQ ?_;refine Gr fun w1 hw=>?_;exact⟨by rw[hE],ah.mem hw⟩
 have hE:iR ls xc.pages=((gH ls ls.length).1,decide (0<(gH ls ls.length).2)):=by rw[iR,if_neg (by rw[h0];simp)]
 refine fI ?_;refine ck (X:=Nat) (fun U=>[(28, .int .i64 (U:Nat)),(8, .int .i64 ((gH ls U).1)),(9, .int .i64 ((gH ls U).2)),(26,l.val),(27, .int .i64 (ls.length:Nat))]) (fun U=>[]) (fun U=>U<=ls.length) (fun U=>ls.length -U) 0 (atL _) sb (fun w hw=>ah.mem hw) ?_;rintro i bl;refine al ?_;refine Gb ?_ ?_<;>intro h1
 ·
  obtain⟨z,hz⟩:=get_some (xs:=ls) (i:=i) oM;have zx:ls.getD i dZ=z:=by simp[List.getD,hz]
  have hzb:=jF z (alM hz);have A5:=K3 ls i;have fy:(gH ls (i+1))=xD (gH ls i) i z:=by rw[gH,zx]
  refine av ?_;refine ag (bh rfl rfl i rfl oM) (ag (iJ rfl i hz rfl) (bt fun qG=>J0 ?_));refine Gb ?_ ?_<;>intro h2
  ·
   have bB:(gH ls (i+1))=(gH ls i):=by rw[fy,xD,if_pos (h2.elim (fun h=>h.elim (fun h=> .inl h) fun h=> .inr (.inl h)) fun h=> .inr (.inr oM))]
   refine al ?_;refine Gi ?_;exact bw (x:=(i)) (i+1) oF oF (Sub.cons rfl (Sub.cons (look_eq rfl (by rw[bB])) (Sub.cons (look_eq rfl (by rw[bB])) sb))) (fun w hw=>ah.mem hw)
  have fH: ¬(z.bad=true\/z.live=0\/cS<=z.aU):=fun g=>g.elim (fun g=>absurd (h2.1.1.symm.trans g) (by simp)) (fun g=>g.elim h2.1.2 (fun g=>h2.2 oM));refine CI ?_;refine Gb ?_ ?_<;>intro h3
  ·
   have bB:(gH ls (i+1))=((i:Int),z.used -z.live):=by rw[fy,xD,if_neg fH,if_pos h3]
   refine Gi ?_;refine di ?_;refine Gi ?_;exact bw (x:=(i)) (i+1) oF oF (Sub.cons rfl (Sub.cons (look_eq rfl (by rw[bB])) (Sub.cons (look_eq rfl (by rw[bB])) sb))) (fun w hw=>ah.mem hw)
  have bB:(gH ls (i+1))=(gH ls i):=by rw[fy,xD,if_neg fH,if_neg h3]
  refine al ?_;refine Gi ?_;exact bw (x:=(i)) (i+1) oF oF (Sub.cons rfl (Sub.cons (look_eq rfl (by rw[bB])) (Sub.cons (look_eq rfl (by rw[bB])) sb))) (fun w hw=>ah.mem hw)
 obtain rfl:i=ls.length:=by omega
 refine di ?_;refine Gr fun w1 hw=>?_;exact⟨by rw[hE],ah.mem hw⟩⟩
theorem af5(w:World)(x:az):Calls Tryz.prog 343 #[.agg (bL x)] w fun e w'=>e= .returned (.bool (rT x))/\Mem w [] w':=by
 refine ct Tryz.func343 rfl Tryz.ntmps343 rfl ?_;refine Gc ?_;refine cm rfl fun b1=>di ?_;refine Gr fun w1 hw=>?_;exact⟨rfl,ah.mem hw⟩
instance:tu Tryz.prog w0 L 343 #[] bL rT:=⟨inferInstance,fun w _ x=>af5 w x⟩
theorem af6(w:World)(x:az):Calls Tryz.prog 345 #[.agg (bL x)] w fun e w'=>e= .returned (.bool (th x))/\Mem w [] w':=by
 refine ct Tryz.func345 rfl Tryz.ntmps345 rfl ?_;refine Gc ?_;refine cm rfl fun b1=>di ?_;refine Gr fun w1 hw=>?_;exact⟨rfl,ah.mem hw⟩
instance:tu Tryz.prog w0 L 345 #[] bL th:=⟨inferInstance,fun w _ x=>af6 w x⟩
theorem af7(w:World)(cb:Nat)(cp:Int)(pP:w.cell? ⟨cb,0,none⟩=Option.some (.int .i64 cp))(x:az):Calls Tryz.prog 344 #[.agg (bL x), .pointer (some ⟨cb,0,none⟩)] w fun e w'=>e= .returned (.bool (tg cp x))/\Mem w [] w':=by
 refine dz Tryz.func344 rfl Tryz.ntmps344 rfl ?_;refine Gc ?_;refine cm rfl fun b2=>ar ?_;refine ag (Tt rfl pP) (al ?_);refine Gr fun w1 hw=>?_;exact⟨rfl,ah.mem hw⟩
instance{cb i:Nat}{cp:Int}{T:TypeId}[q:Has L cb #[.int .i64 cp] T i]:tu Tryz.prog w0 L 344 #[.pointer (some ⟨cb,0,none⟩)] bL (tg cp):=⟨inferInstance,fun w hw x=>af7 w cb cp (by rw[hw.cell q.h];rfl) x⟩
theorem af8(w0 w:World)(L:List ai)(k:Nat)(xc:Cp)(xa:Sl Int)(xg:UInt64)(xl:Int)(xy:Bool)(l:Sv)(ls:List az)[hl:Hd w0 L l bL 4 ls](hw:Mem w0 (aq k (aR (⟨⟨xc,xa,xg,xl⟩,xy⟩:aT)) 261::fz xc::L) w)(aA:aW (cv xc)=true/\lz (cv xc) ls):Calls Tryz.prog 329 #[.pointer (some ⟨k,0,none⟩),l.val] w fun e w'=> ∃U:Cp,e= .returned (.tuple #[.int .i64 ((bY (cv xc) ls).2.1), .int .i64 ((bY (cv xc) ls).2.2)])/\(cv U=(bY (cv xc) ls).1)/\Mem w0 (aq k (aR (⟨⟨U,xa,xg,xl⟩,xy⟩:aT)) 261::fz U::L) w':=by
 have hk:=aA.1;have je:=aA.2.1;have hd:=eU hk;refine gV (args:=[_,_]) Tryz.func329 rfl Tryz.ntmps329 rfl hw ?_;change Cw _ _ _ _ _ [(0, .pointer (some ⟨k,0,none⟩)),(1,l.val)] (aq k (aR (⟨⟨xc,xa,xg,xl⟩,xy⟩:aT)) 261::fz xc::L);refine ja ?_;refine ag (Ry.to (v':= .int .i64 xc.pages) (bI rfl) rfl) (aeE (z:= .int .i64 0) rfl fun b6=>aeF (by first|rfl|exact Sv.one _) rfl rfl (av ?_));refine bb rfl oM fun nu DA=>aZ ?_;refine ag (aE (v:= .int .i64 ((fD (cg rT ls) xc.pages).1)) rfl rfl) (ag (aE (v:= .bool ((fD (cg rT ls) xc.pages).2)) rfl rfl) (aQ ?_));refine Gb ?_ ?_<;>intro h0
 ·
  have qH:(mO (cv xc) ls).2=true:=h0;have hE:(bY (cv xc) ls)=(cv xc,(mO (cv xc) ls).1+2,0):=by rw[bY,if_pos qH]
  have pU:=xE aA.2 (fun x h=>(ta h).1) qH;change 0<=(fD (cg rT ls) xc.pages).1/\(fD (cg rT ls) xc.pages).1<_/\_ at pU;refine aZ ?_;refine Gr fun w1 hw=>?_;exact⟨xc,by rw[hE];rfl,by rw[hE],ah.mem hw⟩
 have qH: ¬(mO (cv xc) ls).2=true:=fun h=>by rw[show(mO (cv xc) ls).2=false from h0]at h;cases h
 refine av ?_;refine ag (J2 rfl) (bb rfl oM fun DS Uv=>aZ ?_);refine ag (aE (v:= .int .i64 ((fG (cg (tg xc.pages) ls) xc.pages).1)) rfl rfl) (ag (aE (v:= .bool ((fG (cg (tg xc.pages) ls) xc.pages).2)) rfl rfl) (aQ ?_));refine Gb ?_ ?_<;>intro h1
 ·
  have eZ:(jT (cv xc) ls).2=true:=h1;have hE:(bY (cv xc) ls)=((cG (cv xc) ((jT (cv xc) ls).1+2)).1,(jT (cv xc) ls).1+2,(cG (cv xc) ((jT (cv xc) ls).1+2)).2):=by rw[bY,if_neg qH,if_pos eZ]
  have pU:=xE aA.2 (fun x h=>(l8 h).1) eZ;change 0<=(fG (cg (tg xc.pages) ls) xc.pages).1/\(fG (cg (tg xc.pages) ls) xc.pages).1<_/\_ at pU;refine aZ ?_;refine bb rfl ⟨hk,by omega,by omega⟩ fun ya Uw=>al ?_;refine Gr fun w1 hw=>?_;exact⟨ya,by rw[hE];rfl,by rw[Uw,hE];rfl,ah.mem hw⟩
 have eZ: ¬(jT (cv xc) ls).2=true:=fun h=>by rw[show(jT (cv xc) ls).2=false from h1]at h;cases h
 refine av ?_;refine bb rfl oM fun qE zu=>aZ ?_;refine ag (aE (v:= .int .i64 ((fG (cg th ls) xc.pages).1)) rfl rfl) (ag (aE (v:= .bool ((fG (cg th ls) xc.pages).2)) rfl rfl) (aQ ?_));refine Gb ?_ ?_<;>intro h2
 ·
  have fH:(jU (cv xc) ls).2=true:=h2;have hE:(bY (cv xc) ls)=((cG (cv xc) ((jU (cv xc) ls).1+2)).1,(jU (cv xc) ls).1+2,(cG (cv xc) ((jU (cv xc) ls).1+2)).2):=by rw[bY,if_neg qH,if_neg eZ,if_pos fH]
  have pU:=xE aA.2 (fun x h=>(l8 h).1) fH;change 0<=(fG (cg th ls) xc.pages).1/\(fG (cg th ls) xc.pages).1<_/\_ at pU;refine aZ ?_;refine bb rfl ⟨hk,by omega,by omega⟩ fun Ux Uy=>al ?_;refine Gr fun w1 hw=>?_;exact⟨Ux,by rw[hE];rfl,by rw[Uy,hE];rfl,ah.mem hw⟩
 have fH: ¬(jU (cv xc) ls).2=true:=fun h=>by rw[show(jU (cv xc) ls).2=false from h2]at h;cases h
 refine ar ?_;refine Gr fun w1 hw=>?_;exact⟨xc,by rw[bY,if_neg qH,if_neg eZ,if_neg fH],by rw[bY,if_neg qH,if_neg eZ,if_neg fH],ah.mem hw⟩
instance arI{w0:World}{L R1 L2:List ai}{i0 i1:Nat}{k:Nat}{xc:Cp}{xa:Sl Int}{xg:UInt64}{xl:Int}{xy:Bool}{l:Sv}{ls:List az}[q0:Has L k (aR (⟨⟨xc,xa,xg,xl⟩,xy⟩:aT)) 261 i0][d0:cn L i0 R1][q1:At R1 (fz xc) i1][d1:cn R1 i1 L2][hl:Hd w0 L2 l bL 4 ls]:bV Tryz.prog 329 w0 L [.pointer (some ⟨k,0,none⟩),l.val] (Cp) (fun U=> .tuple #[.int .i64 ((bY (cv xc) ls).2.1), .int .i64 ((bY (cv xc) ls).2.2)]) (fun U=>aq k (aR (⟨⟨U,xa,xg,xl⟩,xy⟩:aT)) 261::fz U::L2) (fun U=>cv U=(bY (cv xc) ls).1) (aW (cv xc)=true/\lz (cv xc) ls):=⟨fun hp w hw=>af8 w0 w L2 k xc xa xg xl xy l ls (px q0.h d0.h q1.h d1.h hw) hp⟩
end Go.Proofs.YtkggjjnhnjjokaaGreatDoor
