/- Laws and walks by which the law LabRight is proved, each with its own conditions. -/
import Derived.Test.YtkggjjnhnjjokaaGreatDoorI5
set_option maxRecDepth 20000
set_option linter.unusedSimpArgs false
set_option linter.unusedVariables false
namespace Go.Proofs.YtkggjjnhnjjokaaGreatDoor
open Go.ay Go.Kb Go.RowKit
theorem aax(i:Int)(g:UInt64)(s:Sv)(xs:List UInt8)(w:World):(Instr.build 324 #[(0, .int .i64 1),(1, .int .i64 i),(2, .int .u64 (g.toNat:Int)),(3,s.val)]).run Tryz.prog w= .ok (.agg (cG ⟨1,i,g,⟨s,xs⟩⟩)) w:=by
 obtain⟨e,b,o,l,c,p⟩:=s;unfold cG
 cases e<;>kernel_rfl
theorem aay(w0 w:World)(L:List ah)(k:Nat)(xc:Cp)(xa:Sl Int)(xg:UInt64)(xl:Int)(xy:Bool)(f:Int)(t:Int)(hw:Mem w0 (al k (aP (⟨⟨xc,xa,xg,xl⟩,xy⟩:aR)) 261::fz xc::fz xa::L) w)(aw:dn (⟨⟨cv xc,xa.xs,xg.toNat,xl⟩,xy⟩:WV)/\2<=f/\f<(cv xc).blocks.length/\(0<=t->2<=t/\t<(cv xc).blocks.length)):Calls Tryz.prog 331 #[.pointer (some ⟨k,0,none⟩), .int .i64 f, .int .i64 t] w fun e w'=> ∃U:Cp×Sl Int×UInt64×Int,e= .returned (.tuple #[.bool ((di (⟨⟨cv xc,xa.xs,xg.toNat,xl⟩,xy⟩:WV) f t).2.1), .int .i64 ((di (⟨⟨cv xc,xa.xs,xg.toNat,xl⟩,xy⟩:WV) f t).2.2)])/\((⟨⟨cv U.1,U.2.1.xs,U.2.2.1.toNat,U.2.2.2⟩,xy⟩:WV)=(di (⟨⟨cv xc,xa.xs,xg.toNat,xl⟩,xy⟩:WV) f t).1)/\Mem w0 (al k (aP (⟨⟨U.1,U.2.1,U.2.2.1,U.2.2.2⟩,xy⟩:aR)) 261::fz U.1::fz U.2.1::L) w':=by
 obtain⟨fP,kN,xJ,Is⟩:=aw;have hk:bl (cv xc)=true:=fP.ai;have yU:4<=(cv xc).blocks.length:=fP.tm;have hd:=kU hk;have Bb:xg.toNat<281474976710656:=fP.gen;have sk:=IG Bb;have hM:xa.xs.length<=64:=fP.tl;have wT:gV (cv xc) xa.xs:=fP.tk;have PN:1<=xc.ab/\xc.ab<=16:=⟨hd.2.2.1,hd.2.2.2.1⟩;refine fI (args:=[_,_,_]) Tryz.func331 rfl Tryz.ntmps331 rfl hw ?_;change Cw _ _ _ _ _ [(0, .pointer (some ⟨k,0,none⟩)),(1, .int .i64 f),(2, .int .i64 t)] (al k (aP (⟨⟨xc,xa,xg,xl⟩,xy⟩:aR)) 261::fz xc::fz xa::L);refine fS ?_;refine ae (Ry.to (v':= .int .i64 xc.ab) (bA rfl) rfl) (aQ ?_);refine ae (Ry.to (v':=xa.sv.val) (bA rfl) rfl) (aW rfl oM fun az uX=>aQ ?_);refine ae (Ry.to (v':=xa.sv.val) (bA rfl) rfl) (aj ?_);refine bI (X:=Nat×Cp×List Int) (fun U=>[(39, .int .i64 (U.1:Nat)),(0, .pointer (some ⟨k,0,none⟩)),(9,az.val),(1, .int .i64 f),(2, .int .i64 t),(8, .int .i64 xc.ab),(37,xa.sv.val),(38, .int .i64 (xa.xs.length:Nat))]) (fun U=>al k (aP (⟨⟨U.2.1,xa,xg,xl⟩,xy⟩:aR)) 261::fz U.2.1::fz xa::own bT 1 az U.2.2::L) (fun U=>U.1<=xa.xs.length/\(dP (⟨cv xc,xa.xs,xg.toNat,xl⟩:VV) f t xa.xs 0 (cv xc) xa.xs)=(dP (⟨cv xc,xa.xs,xg.toNat,xl⟩:VV) f t (xa.xs.drop U.1) U.1 (cv U.2.1) U.2.2)/\bl (cv U.2.1)=true/\eO (cv xc) (cv U.2.1)/\U.2.2.length=xa.xs.length/\gV (cv xc) U.2.2) (fun U=>xa.xs.length -U.1) (0,xc,xa.xs) ⟨Nat.zero_le _,rfl,hk, .gy _,rfl,wT⟩ sb (fun w hw=>ag.mem hw) ?_;rintro⟨i,d,zs⟩ ⟨bf,aF,bo,cI,Bc,DW⟩;dsimp only;simp only at bf aF bo cI Bc DW;have DX:=cI.len;have Bd:d.ab=xc.ab:=cI.ab;have iZ:(cv d).blocks.length=d.blocks.xs.length:=fT _;refine aj ?_;refine Gb ?_ ?_<;>intro h0
 ·
  obtain⟨n,uT⟩:=get_some (xs:=xa.xs) (i:=i) oM;obtain⟨zi,u6⟩:=get_some (xs:=zs) (i:=i) oM;have IH:=wT n (amm uT);have hnn:0<=n:=by rcases IH with h|h<;>omega
  have hnp:n<=512:=by
   rcases IH with h|h
   ·
    omega
   exact NA PN.1 PN.2 hd.2.1 h.2.2
  have bE:(dP (⟨cv xc,xa.xs,xg.toNat,xl⟩:VV) f t (xa.xs.drop i) i (cv d) zs)=(if n=0\/(n -1)/xc.ab≠f then(dP (⟨cv xc,xa.xs,xg.toNat,xl⟩:VV) f t (xa.xs.drop (i+1)) (i+1) (cv d) zs)else if(cy (cv d) xa.xs zs f t).2=false then(⟨cv d,zs,some 6⟩:MV)else if(fV (cv d) ((xg.toNat:Int)+1) i n).2≠0 then⟨cv d,zs,some (fV (cv d) ((xg.toNat:Int)+1) i n).2⟩else if(cm (cv d) (cy (cv d) xa.xs zs f t).1 (fV (cv d) ((xg.toNat:Int)+1) i n).1)≠0 then⟨(dh (cv d) (cy (cv d) xa.xs zs f t).1 (fV (cv d) ((xg.toNat:Int)+1) i n).1),zs,some (kT (cm (cv d) (cy (cv d) xa.xs zs f t).1 (fV (cv d) ((xg.toNat:Int)+1) i n).1))⟩else(dP (⟨cv xc,xa.xs,xg.toNat,xl⟩:VV) f t (xa.xs.drop (i+1)) (i+1) (dh (cv d) (cy (cv d) xa.xs zs f t).1 (fV (cv d) ((xg.toNat:Int)+1) i n).1) (zs.set i ((cy (cv d) xa.xs zs f t).1*xc.ab+(aN (cv d) (cy (cv d) xa.xs zs f t).1).used+1)))):=by
   rw[drop_at uT,dP];rfl
  refine ao ?_;refine ae (aY rfl rfl i rfl oM) (ae (bB (j:=0) rfl i uT rfl (by decide)) (ct ?_));refine aV rfl rfl rfl (fun hg=>(Ry.yl (vr (au hg rfl) rfl (by simp only[Z0,Z1,Z2,Z3,Z4,Z5,Z6,Z7,Z8,Z9]at hg;omega)))) (Gg ?_);refine aV rfl rfl rfl (fun hg=>(Ry.yl (kL (au hg rfl) (au hg rfl) (by simp only[Z0,Z1,Z2,Z3,Z4,Z5,Z6,Z7,Z8,Z9]at hg;omega) (by simp only[Z0,Z1,Z2,Z3,Z4,Z5,Z6,Z7,Z8,Z9]at hg;omega)))) (an ?_);refine Gb ?_ ?_<;>intro h1
  ·
   refine aj ?_;refine Gi ?_;exact bg (x:=(i,d,zs)) (i+1,d,zs) ⟨by simp only;omega,by rw[aF,bE,if_pos h1],bo,cI,Bc,DW⟩ (by simp only;omega) sb (fun w hw=>ag.mem hw)
  have dJ: ¬(n=0\/(n -1)/xc.ab≠f):=fun g=>g.elim h1.1 (fun g=>g h1.2);have DY:1<=n/\n<=1000000/\2<=(n -1)/d.ab/\(n -1)/d.ab<((cv d).blocks.length:Int):=by
   rw[Bd,DX];rcases IH with h|h
   ·
    exact absurd (.inl h) dJ
   exact⟨h.1,by omega,h.2.1,h.2.2⟩
  refine aj ?_;refine fb ?_;refine mB (X:=Unit) (fun U=>[(12, .int .i64 ((cy (cv d) xa.xs zs f t).1)),(0, .pointer (some ⟨k,0,none⟩)),(1, .int .i64 f),(2, .int .i64 t),(8, .int .i64 xc.ab),(9,az.val),(10, .int .i64 (i:Nat)),(37,xa.sv.val),(38, .int .i64 (xa.xs.length:Nat)),(39, .int .i64 (i:Nat))]) (fun U=>al k (aP (⟨⟨d,xa,xg,xl⟩,xy⟩:aR)) 261::fz d::fz xa::own bT 1 az zs::L) (fun U=>(cy (cv d) xa.xs zs f t).2=true/\2<=(cy (cv d) xa.xs zs f t).1/\(cy (cv d) xa.xs zs f t).1<(cv d).blocks.length) ?_ ?_
  ·
   refine an ?_;refine Gb ?_ ?_<;>intro h2
   ·
    refine Gi ?_;have dM:ar [xa,(⟨az,zs⟩:Sl Int)]=xa.xs++zs:=IB _ _;have kB:=qp (cv d) (ar [xa,(⟨az,zs⟩:Sl Int)]);obtain⟨q,hq⟩:=get_some (xs:=(aT (cv d) (ar [xa,(⟨az,zs⟩:Sl Int)]))) (i:=(f -2).toNat) (by rw[qp];omega);have pN:uI (cv d) (ar [xa,(⟨az,zs⟩:Sl Int)]):=by
     rw[IB];exact((wT.jL cI).append (DW.jL cI)).kn bo oM (by rw[adr];omega)
    refine Gi ?_;refine aG ?_;refine ae (Ry.to (v':=xa.sv.val) (bA rfl) rfl) (Gs ?_);refine kO (enc:=bX) (vals:=[xa.sv.val,az.val]) [xa,(⟨az,zs⟩:Sl Int)] rfl (by simp only[amR,anl,Sv.iC];rfl) rfl (by decide) (by decide) fun b64=>?_;refine aW (hc:=IA (l:=(⟨⟨false,b64,0,2,2,none⟩,[xa,⟨az,zs⟩]⟩:Sl (Sl Int)))) rfl pN fun x65 aky=>aG ?_;refine ae (cr (v:= .agg (bF bV)) rfl DS) (ae (aY rfl rfl ((f -2).toNat) oM (show(f -2).toNat<(aT (cv d) (ar [xa,(⟨az,zs⟩:Sl Int)])).length by omega)) (kj (s:=x65) (n:=4) (k:=(f -2).toNat) (j:=0) (a:=q) (a':=bV) (xs:=(aT (cv d) (ar [xa,(⟨az,zs⟩:Sl Int)]))) (enc:=bF) (c:=4) (v:= .agg (bF bV)) oK rfl rfl rfl hq (bn.one (enc:=bF) (c:=4) _) rfl (by decide) (by rfl) (aG ?_)));refine ae (ax (v:= .int .i64 ((fM ((aT (cv d) (ar [xa,(⟨az,zs⟩:Sl Int)])).set (f -2).toNat bV) xc.ab).1)) rfl rfl) (ae (ax (v:= .bool ((fM ((aT (cv d) (ar [xa,(⟨az,zs⟩:Sl Int)])).set (f -2).toNat bV) xc.ab).2)) rfl rfl) (aQ ?_));refine Gb ?_ ?_<;>intro h3
    ·
     have yP:(cy (cv d) xa.xs zs f t).2=false:=by rw[cy,if_pos h2,←dM,if_neg];rw[show(cv d).ab=xc.ab from Bd,h3];simp
     have hE:=Hm (x:=(⟨⟨cv xc,xa.xs,xg.toNat,xl⟩,xy⟩:WV)) (src:=f) (tgt:=t) (show dP _ _ _ _ _ _ _=_ from(aF.trans (bE.trans ((if_neg dJ).trans (if_pos yP)))));refine an ?_;refine Gr fun w1 hw=>?_;exact⟨(d,xa,xg,xl),by rw[hE],by rw[hE];rfl,ag.mem hw⟩
    have yO:=Dh (show(gH _ _ _ _).2=true from h3);have DZ:(cy (cv d) xa.xs zs f t)=((fM ((aT (cv d) (ar [xa,(⟨az,zs⟩:Sl Int)])).set (f -2).toNat bV) xc.ab).1+2,true):=by rw[cy,if_pos h2,←dM,show(cv d).ab=xc.ab from Bd,if_pos h3]
    have akz:0<=(fM ((aT (cv d) (ar [xa,(⟨az,zs⟩:Sl Int)])).set (f -2).toNat bV) xc.ab).1:=yO.2.1;have aaz:(fM ((aT (cv d) (ar [xa,(⟨az,zs⟩:Sl Int)])).set (f -2).toNat bV) xc.ab).1<(((aT (cv d) (ar [xa,(⟨az,zs⟩:Sl Int)])).set (f -2).toNat bV).length:Int):=yO.2.2.1;rw[anb,qp]at aaz;refine an ?_;refine Gi ?_;exact eD () ⟨by rw[DZ],by rw[DZ];simp only;omega,by rw[DZ];simp only;omega⟩ (Sub.cons (look_eq rfl (by rw[DZ])) sb) (fun w hw=>ag.mem hw)
   refine Gi ?_;exact eD () ⟨by rw[cy,if_neg h2],by rw[cy,if_neg h2];exact(Is oF).1,by rw[cy,if_neg h2,DX];exact(Is oF).2⟩ (Sub.cons (look_eq rfl (by rw[cy,if_neg h2])) sb) (fun w hw=>ag.mem hw)
  rintro⟨⟩ ⟨tM,yW,II⟩;obtain⟨B,hB⟩:=get_some (xs:=d.blocks.xs) (i:=(cy (cv d) xa.xs zs f t).1.toNat) oM;have qJ:Mb B d.blocks:=⟨List.mem_of_getElem? hB⟩;have dQ:=rL hB;have o8:(aN (cv d) (cy (cv d) xa.xs zs f t).1).used=B.used:=by rw[dQ];rfl
  have fm:=gF.1 (AH bo (b:=(cy (cv d) xa.xs zs f t).1) oM oM);rw[o8,show(cv d).ab=xc.ab from Bd]at fm;have rU:0<=(cy (cv d) xa.xs zs f t).1*xc.ab:=aoM oM oM;have A4:(cy (cv d) xa.xs zs f t).1*xc.ab<=32*16:=aoL oM oM oM oM;refine Gi ?_;refine nN [12,14,15,2014,4012] [[],[],[],[],[],[],[],[],[],[],[],[],[],[12],[],[12,14]] [0,1,2,3,4,5,6,7,8,9,10,11,12,13,14,15] [al k (aP (⟨⟨d,xa,xg,xl⟩,xy⟩:aR)) 261,fz d,fz xa] [(14,km Tryz.prog 324)] oK (fun _ hw=>ag.mem hw) oK oK (ak rfl (ba rfl) (ak rfl (ba rfl) (ak rfl (fa rfl) (ak rfl (aK (o':=0) rfl rfl) (ak rfl (aK (o':=7) rfl rfl) (ak rfl (Ry.to (v':= .int .u64 (xg.toNat:Nat)) (bA rfl) rfl) (ak rfl (Ry.to (v':= .int .u64 ((xg+1).toNat:Int)) (zv (p:=xg.toNat) (q:=1) rfl rfl rfl rfl (by simp only[nb];omega)) (by rw[sk])) (ak rfl (ba rfl) (ak rfl (fa rfl) (ak rfl (aK (o':=0) rfl rfl) (ak rfl (Ry.to (v':= .agg (cj (⟨d,xa,xg,xl⟩:ca))) (dy rfl) rfl) (ak rfl (ba rfl) ?_))))))))))));refine sV (hc:=PA (v:=(⟨d,xa,xg,xl⟩:ca)) (id:=((i:Nat):Int))) (FT:=fun e_=>PA (v:=(⟨d,xa,xg,xl⟩:ca)) (id:=((i:Nat):Int))) rfl rfl ⟨bo,n,by rw[am1];exact uT,by omega,DY.1,DY.2.1,DY.2.2.1,DY.2.2.2⟩ (fun e x w hw=>ag.mem hw) (Cert.one (i:=14) rfl rfl rfl ko (Cert.none rfl)) fun Be akA=>⟨fun _ hw=>ag.mem hw,?_⟩;refine ak rfl (cr (v:= .agg (cG (⟨1,((i:Nat):Int),xg+1,⟨Be,(kR (cv d) (xa.xs.getD ((i:Nat):Int).toNat 0))⟩⟩:dW))) rfl (aax ((i:Nat):Int) (xg+1) Be _)) (mL (m:=km Tryz.prog 324) rfl rfl ko (Cert.none rfl) fun Bf=>?_);change Ln _ _ _ _ _ _ _ _ (bZ _ _ (.pointer (some ⟨Bf,0,none⟩))) (al Bf (cG mY) 324::_) _;refine cC rfl (lV rfl rfl ⟨fun _ hw=>ag.mem hw,?_⟩);refine iY ?_;have kW:(dX (cA (⟨1,((i:Nat):Int),xg+1,⟨Be,(kR (cv d) (xa.xs.getD ((i:Nat):Int).toNat 0))⟩⟩:dW)) d.size)=(fV (cv d) ((xg.toNat:Int)+1) i n):=by
   have e1:xa.xs.getD ((i:Nat):Int).toNat 0=n:=by rw[am1];exact wj uT
   rw[fV,e1];simp only[cA,sk];congr 2
  refine gB [7] [[],[],[],[],[],[],[],[],[7],[7],[7],[7],[7]] [0,1,2,3,4,5,6,7,8,9,10,11,12] [al k (aP (⟨⟨d,xa,xg,xl⟩,xy⟩:aR)) 261,fz d,al Bf (cG (⟨1,((i:Nat):Int),xg+1,⟨Be,(kR (cv d) (xa.xs.getD ((i:Nat):Int).toNat 0))⟩⟩:dW)) 324] (fun _ hw=>ag.mem hw) oK oK (ak rfl (fu rfl) (ak rfl (ba rfl) (ak rfl (fa rfl) (ak rfl (aK (o':=0) rfl rfl) (ak rfl (aK (o':=0) rfl rfl) (ak rfl (aK (o':=1) rfl rfl) (ak rfl (Ry.to (v':= .int .i64 d.size) (bA rfl) rfl) (cC rfl (nL rfl trivial fun aaA akB=>⟨fun _ hw=>ag.mem hw,?_⟩)))))))));refine ak rfl (ba rfl) (ak rfl (ax (v:=aaA.val) rfl rfl) (ak rfl (ax (v:= .int .i64 ((dX (cA (⟨1,((i:Nat):Int),xg+1,⟨Be,(kR (cv d) (xa.xs.getD ((i:Nat):Int).toNat 0))⟩⟩:dW)) d.size).2)) rfl rfl) (ak rfl (fG rfl) (ak rfl (fG rfl) (an ?_)))));refine Gb ?_ ?_<;>intro h4
  ·
   have iM:(fV (cv d) ((xg.toNat:Int)+1) i n).2≠0:=by rw[←kW];exact h4
   have hE:=Hm (x:=(⟨⟨cv xc,xa.xs,xg.toNat,xl⟩,xy⟩:WV)) (src:=f) (tgt:=t) (show dP _ _ _ _ _ _ _=_ from(aF.trans (bE.trans ((if_neg dJ).trans ((if_neg (by rw[tM];simp)).trans (if_pos iM))))));refine aG ?_;refine Gr fun w1 hw=>?_;exact⟨(d,xa,xg,xl),by rw[hE,kW],by rw[hE];rfl,ag.mem hw⟩
  have iM:(fV (cv d) ((xg.toNat:Int)+1) i n).2=0:=by rw[←kW];exact h4
  refine aQ ?_;refine ae (Ry.to (v':=d.blocks.sv.val) (bA rfl) rfl) (Gs ?_);refine ae (aY rfl rfl ((cy (cv d) xa.xs zs f t).1.toNat) oM oM) (ae (aK rfl rfl) (ae (bB (j:=1) rfl ((cy (cv d) xa.xs zs f t).1.toNat) hB rfl (by decide)) (aG ?_)));refine aW rfl ⟨bo,by omega,by omega⟩ fun PO Bg=>?_;rw[kW]at Bg;refine aG ?_;refine Gb ?_ ?_<;>intro h5
  ·
   have nw:(cm (cv d) (cy (cv d) xa.xs zs f t).1 (fV (cv d) ((xg.toNat:Int)+1) i n).1)≠0:=by rw[←kW];exact h5
   have hE:=Hm (x:=(⟨⟨cv xc,xa.xs,xg.toNat,xl⟩,xy⟩:WV)) (src:=f) (tgt:=t) (show dP _ _ _ _ _ _ _=_ from(aF.trans (bE.trans ((if_neg dJ).trans ((if_neg (by rw[tM];simp)).trans ((if_neg (fun h=>h iM)).trans (if_pos nw)))))));refine aQ ?_;refine Gr fun w1 hw=>?_;exact⟨(PO,xa,xg,xl),by rw[hE,kW],by rw[hE,Bg];rfl,ag.mem hw⟩
  have nw:(cm (cv d) (cy (cv d) xa.xs zs f t).1 (fV (cv d) ((xg.toNat:Int)+1) i n).1)=0:=by rw[←kW];exact h5
  have j8:=qm.1 (yn nw).1;rw[o8,show(cv d).ab=xc.ab from Bd]at j8;have aaB:((cy (cv d) xa.xs zs f t).1*xc.ab+B.used+1)=0\/(1<=((cy (cv d) xa.xs zs f t).1*xc.ab+B.used+1)/\2<=(((cy (cv d) xa.xs zs f t).1*xc.ab+B.used+1) -1)/(cv xc).ab/\(((cy (cv d) xa.xs zs f t).1*xc.ab+B.used+1) -1)/(cv xc).ab<((cv xc).blocks.length:Int)):=by
   have hq:(((cy (cv d) xa.xs zs f t).1*xc.ab+B.used+1) -1)/xc.ab=(cy (cv d) xa.xs zs f t).1:=by
    rw[Int.add_sub_cancel,Int.add_comm,Int.add_mul_ediv_right _ _ oM,Int.ediv_eq_zero_of_lt j8.2.1 j8.2.2.1,Int.zero_add]
   exact .inr ⟨by omega,by rw[show(cv xc).ab=xc.ab from rfl,hq];exact yW,by rw[show(cv xc).ab=xc.ab from rfl,hq];omega⟩
  refine aG ?_;refine ae (jX rfl rfl oM) (aj ?_);refine ae (aY rfl rfl i rfl oM) (kj (s:=az) (n:=1) (k:=i) (j:=0) (a:=zi) (a':=((cy (cv d) xa.xs zs f t).1*xc.ab+B.used+1)) (xs:=zs) (enc:=bT) (c:=1) (v:= .int .i64 ((cy (cv d) xa.xs zs f t).1*xc.ab+B.used+1)) oK rfl rfl rfl u6 (by simp[Value.cells,Value.oneCell']) rfl (by decide) (by rfl) (aj ?_));refine Gi ?_;exact bg (x:=(i,d,zs)) (i+1,PO,zs.set i ((cy (cv d) xa.xs zs f t).1*xc.ab+B.used+1)) ⟨by simp only;omega,by rw[aF,bE,if_neg dJ,if_neg (by rw[tM];simp),if_neg (fun h=>h iM),if_neg (fun h=>h nw),Bg,o8],by rw[Bg];exact l6 bo _ _,by rw[Bg];exact cI.trans (ng _ _ _),by rw[anb];exact Bc,fun y hy=>(ani hy).elim (DW y) fun hy=>hy▸aaB⟩ (by simp only;omega) sb (fun w hw=>ag.mem hw)
 obtain rfl:i=xa.xs.length:=by omega
 have tN:(dP (⟨cv xc,xa.xs,xg.toNat,xl⟩:VV) f t xa.xs 0 (cv xc) xa.xs)=⟨cv d,zs,none⟩:=by rw[aF,aob];rfl
 have hE:=WU (x:=(⟨⟨cv xc,xa.xs,xg.toNat,xl⟩,xy⟩:WV)) (src:=f) (tgt:=t) tN;have IJ:dn (⟨⟨cv d,xa.xs,xg.toNat,xl⟩,xy⟩:WV):=fP.on bo cI;refine aj ?_;refine aW rfl IJ fun D0 aaC=>dV ?_;refine Gr fun w1 hw=>?_;exact⟨(D0.1,D0.2.1,D0.2.2.1,D0.2.2.2),by rw[hE];rfl,by rw[hE];exact aaC,ag.mem hw⟩
instance akC{w0:World}{L R1 R2 L2:List ah}{i0 i1 i2:Nat}{k:Nat}{xc:Cp}{xa:Sl Int}{xg:UInt64}{xl:Int}{xy:Bool}{f:Int}{t:Int}[q0:Has L k (aP (⟨⟨xc,xa,xg,xl⟩,xy⟩:aR)) 261 i0][d0:bW L i0 R1][q1:At R1 (fz xc) i1][d1:bW R1 i1 R2][q2:At R2 (fz xa) i2][d2:bW R2 i2 L2]:bK Tryz.prog 331 w0 L [.pointer (some ⟨k,0,none⟩), .int .i64 f, .int .i64 t] (Cp×Sl Int×UInt64×Int) (fun U=> .tuple #[.bool ((di (⟨⟨cv xc,xa.xs,xg.toNat,xl⟩,xy⟩:WV) f t).2.1), .int .i64 ((di (⟨⟨cv xc,xa.xs,xg.toNat,xl⟩,xy⟩:WV) f t).2.2)]) (fun U=>al k (aP (⟨⟨U.1,U.2.1,U.2.2.1,U.2.2.2⟩,xy⟩:aR)) 261::fz U.1::fz U.2.1::L2) (fun U=>(⟨⟨cv U.1,U.2.1.xs,U.2.2.1.toNat,U.2.2.2⟩,xy⟩:WV)=(di (⟨⟨cv xc,xa.xs,xg.toNat,xl⟩,xy⟩:WV) f t).1) (dn (⟨⟨cv xc,xa.xs,xg.toNat,xl⟩,xy⟩:WV)/\2<=f/\f<(cv xc).blocks.length/\(0<=t->2<=t/\t<(cv xc).blocks.length)):=⟨fun hp w hw=>aay w0 w L2 k xc xa xg xl xy f t (tB q0.h d0.h q1.h d1.h q2.h d2.h hw) hp⟩
variable {w0:World}{L:List ah}
instance akD{xb:Nat}{xc:Cp}{xa:Sl Int}{xg:UInt64}{xl:Int}{xy:Bool}{l:Sv}{ls:List aI}[dR:kZ w0 L xb (aP (⟨⟨xc,xa,xg,xl⟩,xy⟩:aR)) 261][dz:aU w0 L xc][hl:cS w0 L bF 4 l ls]:bD Tryz.prog 305 w0 L [.pointer (some ⟨xb,0,none⟩),l.val] (.tuple #[.int .i64 ((jP ls xc.ab).1), .bool ((jP ls xc.ab).2)]) (ls.length<=1000000/\ ∀x∈ls,0<=x.live/\x.live<=1000000/\0<=x.used/\x.used<=1000000):=⟨fun aw w hw=>by
 have dR:=dR.h w hw;have dz:=dz.h w hw;have hl:=hl.h w hw;have tJ:pJ w xb (aP (⟨⟨xc,xa,xg,xl⟩,xy⟩:aR)) 261:=⟨dR⟩;have tK:cw w xc:=⟨dz⟩;have pI:Gv w l bF 4 ls:=⟨hl⟩;obtain⟨lG,kV⟩:=aw;have ti:dG=1099511627776:=rfl;refine cD Tryz.func305 rfl Tryz.ntmps305 rfl ?_;refine nO ?_;refine ae (Ry.to (v':= .int .i64 xc.ab) (mi rfl) rfl) (ao ?_);refine ae (ax (v:= .int .i64 ((wm ls xc.ab).1)) rfl rfl) (ae (ax (v:= .bool ((wm ls xc.ab).2)) rfl rfl) (aG ?_));refine Gb ?_ ?_<;>intro h0
 ·
  have hE:jP ls xc.ab=((wm ls xc.ab).1,true):=by rw[jP,if_pos h0]
  refine aG ?_;refine Gr fun w1 hw=>?_;exact⟨by rw[hE],ag.mem hw⟩
 have hE:jP ls xc.ab=((jO ls ls.length).1,decide (0<(jO ls ls.length).2)):=by rw[jP,if_neg (by rw[h0];simp)]
 refine dV ?_;refine bI (X:=Nat) (fun U=>[(28, .int .i64 (U:Nat)),(8, .int .i64 ((jO ls U).1)),(9, .int .i64 ((jO ls U).2)),(26,l.val),(27, .int .i64 (ls.length:Nat))]) (fun U=>[]) (fun U=>U<=ls.length) (fun U=>ls.length -U) 0 (amK _) sb (fun w hw=>ag.mem hw) ?_;rintro i bf;refine aj ?_;refine Gb ?_ ?_<;>intro h1
 ·
  obtain⟨z,hz⟩:=get_some (xs:=ls) (i:=i) oM;have wU:ls.getD i hY=z:=by simp[List.getD,hz]
  have hzb:=kV z (amm hz);have DD:=Hj ls i;have dZ:(jO ls (i+1))=yt (jO ls i) i z:=by rw[jO,wU]
  refine ao ?_;refine ae (aY rfl rfl i rfl oM) (ae (gq rfl i hz rfl) (bc fun mu=>FY ?_));refine Gb ?_ ?_<;>intro h2
  ·
   have bE:(jO ls (i+1))=(jO ls i):=by rw[dZ,yt,if_pos (h2.elim (fun h=>h.elim (fun h=> .inl h) fun h=> .inr (.inl h)) fun h=> .inr (.inr oM))]
   refine aj ?_;refine Gi ?_;exact bg (x:=(i)) (i+1) oF oF (Sub.cons rfl (Sub.cons (look_eq rfl (by rw[bE])) (Sub.cons (look_eq rfl (by rw[bE])) sb))) (fun w hw=>ag.mem hw)
  have eE: ¬(z.bad=true\/z.live=0\/dG<=z.bC):=fun g=>g.elim (fun g=>absurd (h2.1.1.symm.trans g) (by simp)) (fun g=>g.elim h2.1.2 (fun g=>h2.2 oM));refine Ae ?_;refine Gb ?_ ?_<;>intro h3
  ·
   have bE:(jO ls (i+1))=((i:Int),z.used -z.live):=by rw[dZ,yt,if_neg eE,if_pos h3]
   refine Gi ?_;refine ct ?_;refine Gi ?_;exact bg (x:=(i)) (i+1) oF oF (Sub.cons rfl (Sub.cons (look_eq rfl (by rw[bE])) (Sub.cons (look_eq rfl (by rw[bE])) sb))) (fun w hw=>ag.mem hw)
  have bE:(jO ls (i+1))=(jO ls i):=by rw[dZ,yt,if_neg eE,if_neg h3]
  refine aj ?_;refine Gi ?_;exact bg (x:=(i)) (i+1) oF oF (Sub.cons rfl (Sub.cons (look_eq rfl (by rw[bE])) (Sub.cons (look_eq rfl (by rw[bE])) sb))) (fun w hw=>ag.mem hw)
 obtain rfl:i=ls.length:=by omega
 refine ct ?_;refine Gr fun w1 hw=>?_;exact⟨by rw[hE],ag.mem hw⟩⟩
theorem aaD(w:World)(x:aI):Calls Tryz.prog 343 #[.agg (bF x)] w fun e w'=>e= .returned (.bool (wz x))/\Mem w [] w':=by
 refine bQ Tryz.func343 rfl Tryz.ntmps343 rfl ?_;refine Gc ?_;refine bJ rfl fun b1=>ct ?_;refine Gr fun w1 hw=>?_;exact⟨rfl,ag.mem hw⟩
instance:qD Tryz.prog w0 L 343 #[] bF wz:=⟨inferInstance,fun w _ x=>aaD w x⟩
theorem aaE(w:World)(x:aI):Calls Tryz.prog 345 #[.agg (bF x)] w fun e w'=>e= .returned (.bool (wB x))/\Mem w [] w':=by
 refine bQ Tryz.func345 rfl Tryz.ntmps345 rfl ?_;refine Gc ?_;refine bJ rfl fun b1=>ct ?_;refine Gr fun w1 hw=>?_;exact⟨rfl,ag.mem hw⟩
instance:qD Tryz.prog w0 L 345 #[] bF wB:=⟨inferInstance,fun w _ x=>aaE w x⟩
theorem aaF(w:World)(cb:Nat)(cp:Int)(pL:w.cell? ⟨cb,0,none⟩=Option.some (.int .i64 cp))(x:aI):Calls Tryz.prog 344 #[.agg (bF x), .pointer (some ⟨cb,0,none⟩)] w fun e w'=>e= .returned (.bool (wA cp x))/\Mem w [] w':=by
 refine cD Tryz.func344 rfl Tryz.ntmps344 rfl ?_;refine Gc ?_;refine bJ rfl fun b2=>an ?_;refine ae (OR rfl pL) (aj ?_);refine Gr fun w1 hw=>?_;exact⟨rfl,ag.mem hw⟩
instance{cb i:Nat}{cp:Int}{T:TypeId}[q:Has L cb #[.int .i64 cp] T i]:qD Tryz.prog w0 L 344 #[.pointer (some ⟨cb,0,none⟩)] bF (wA cp):=⟨inferInstance,fun w hw x=>aaF w cb cp (by rw[hw.cell q.h];rfl) x⟩
theorem aaG(w0 w:World)(L:List ah)(k:Nat)(xc:Cp)(xa:Sl Int)(xg:UInt64)(xl:Int)(xy:Bool)(l:Sv)(ls:List aI)[hl:Hd w0 L l bF 4 ls](hw:Mem w0 (al k (aP (⟨⟨xc,xa,xg,xl⟩,xy⟩:aR)) 261::fz xc::L) w)(aw:bl (cv xc)=true/\kx (cv xc) ls):Calls Tryz.prog 329 #[.pointer (some ⟨k,0,none⟩),l.val] w fun e w'=> ∃U:Cp,e= .returned (.tuple #[.int .i64 ((cK (cv xc) ls).2.1), .int .i64 ((cK (cv xc) ls).2.2)])/\(cv U=(cK (cv xc) ls).1)/\Mem w0 (al k (aP (⟨⟨U,xa,xg,xl⟩,xy⟩:aR)) 261::fz U::L) w':=by
 have hk:=aw.1;have ic:=aw.2.1;have hd:=kU hk;refine fI (args:=[_,_]) Tryz.func329 rfl Tryz.ntmps329 rfl hw ?_;change Cw _ _ _ _ _ [(0, .pointer (some ⟨k,0,none⟩)),(1,l.val)] (al k (aP (⟨⟨xc,xa,xg,xl⟩,xy⟩:aR)) 261::fz xc::L);refine fS ?_;refine ae (Ry.to (v':= .int .i64 xc.ab) (bA rfl) rfl) (Yt (z:= .int .i64 0) rfl fun b6=>Yu (by first|rfl|exact Sv.one _) rfl rfl (ao ?_));refine aW rfl oM fun k8 AV=>aQ ?_;refine ae (ax (v:= .int .i64 ((fM (cx wz ls) xc.ab).1)) rfl rfl) (ae (ax (v:= .bool ((fM (cx wz ls) xc.ab).2)) rfl rfl) (aG ?_));refine Gb ?_ ?_<;>intro h0
 ·
  have nZ:(rO (cv xc) ls).2=true:=h0;have hE:(cK (cv xc) ls)=(cv xc,(rO (cv xc) ls).1+2,0):=by rw[cK,if_pos nZ]
  have nu:=uN aw.2 (fun x h=>(AI h).1) nZ;change 0<=(fM (cx wz ls) xc.ab).1/\(fM (cx wz ls) xc.ab).1<_/\_ at nu;refine aQ ?_;refine Gr fun w1 hw=>?_;exact⟨xc,by rw[hE];rfl,by rw[hE],ag.mem hw⟩
 have nZ: ¬(rO (cv xc) ls).2=true:=fun h=>by rw[show(rO (cv xc) ls).2=false from h0]at h;cases h
 refine ao ?_;refine ae (F0 rfl) (aW rfl oM fun Bh PQ=>aQ ?_);refine ae (ax (v:= .int .i64 ((gx (cx (wA xc.ab) ls) xc.ab).1)) rfl rfl) (ae (ax (v:= .bool ((gx (cx (wA xc.ab) ls) xc.ab).2)) rfl rfl) (aG ?_));refine Gb ?_ ?_<;>intro h1
 ·
  have dJ:(nk (cv xc) ls).2=true:=h1;have hE:(cK (cv xc) ls)=((dO (cv xc) ((nk (cv xc) ls).1+2)).1,(nk (cv xc) ls).1+2,(dO (cv xc) ((nk (cv xc) ls).1+2)).2):=by rw[cK,if_neg nZ,if_pos dJ]
  have nu:=uN aw.2 (fun x h=>(wu h).1) dJ;change 0<=(gx (cx (wA xc.ab) ls) xc.ab).1/\(gx (cx (wA xc.ab) ls) xc.ab).1<_/\_ at nu;refine aQ ?_;refine aW rfl ⟨hk,by omega,by omega⟩ fun vd PR=>aj ?_;refine Gr fun w1 hw=>?_;exact⟨vd,by rw[hE];rfl,by rw[PR,hE];rfl,ag.mem hw⟩
 have dJ: ¬(nk (cv xc) ls).2=true:=fun h=>by rw[show(nk (cv xc) ls).2=false from h1]at h;cases h
 refine ao ?_;refine aW rfl oM fun nY wS=>aQ ?_;refine ae (ax (v:= .int .i64 ((gx (cx wB ls) xc.ab).1)) rfl rfl) (ae (ax (v:= .bool ((gx (cx wB ls) xc.ab).2)) rfl rfl) (aG ?_));refine Gb ?_ ?_<;>intro h2
 ·
  have eE:(nm (cv xc) ls).2=true:=h2;have hE:(cK (cv xc) ls)=((dO (cv xc) ((nm (cv xc) ls).1+2)).1,(nm (cv xc) ls).1+2,(dO (cv xc) ((nm (cv xc) ls).1+2)).2):=by rw[cK,if_neg nZ,if_neg dJ,if_pos eE]
  have nu:=uN aw.2 (fun x h=>(wu h).1) eE;change 0<=(gx (cx wB ls) xc.ab).1/\(gx (cx wB ls) xc.ab).1<_/\_ at nu;refine aQ ?_;refine aW rfl ⟨hk,by omega,by omega⟩ fun PS PT=>aj ?_;refine Gr fun w1 hw=>?_;exact⟨PS,by rw[hE];rfl,by rw[PT,hE];rfl,ag.mem hw⟩
 have eE: ¬(nm (cv xc) ls).2=true:=fun h=>by rw[show(nm (cv xc) ls).2=false from h2]at h;cases h
 refine an ?_;refine Gr fun w1 hw=>?_;exact⟨xc,by rw[cK,if_neg nZ,if_neg dJ,if_neg eE],by rw[cK,if_neg nZ,if_neg dJ,if_neg eE],ag.mem hw⟩
instance akE{w0:World}{L R1 L2:List ah}{i0 i1:Nat}{k:Nat}{xc:Cp}{xa:Sl Int}{xg:UInt64}{xl:Int}{xy:Bool}{l:Sv}{ls:List aI}[q0:Has L k (aP (⟨⟨xc,xa,xg,xl⟩,xy⟩:aR)) 261 i0][d0:bW L i0 R1][q1:At R1 (fz xc) i1][d1:bW R1 i1 L2][hl:Hd w0 L2 l bF 4 ls]:bK Tryz.prog 329 w0 L [.pointer (some ⟨k,0,none⟩),l.val] (Cp) (fun U=> .tuple #[.int .i64 ((cK (cv xc) ls).2.1), .int .i64 ((cK (cv xc) ls).2.2)]) (fun U=>al k (aP (⟨⟨U,xa,xg,xl⟩,xy⟩:aR)) 261::fz U::L2) (fun U=>cv U=(cK (cv xc) ls).1) (bl (cv xc)=true/\kx (cv xc) ls):=⟨fun hp w hw=>aaG w0 w L2 k xc xa xg xl xy l ls (mM q0.h d0.h q1.h d1.h hw) hp⟩
theorem aaH(w0 w:World)(L:List ah)(k:Nat)(xc:Cp)(xa:Sl Int)(xg:UInt64)(xl:Int)(xy:Bool)(l:Sv)(ls:List aI)(i:Int)[hl:Hd w0 L l bF 4 ls](hw:Mem w0 (al k (aP (⟨⟨xc,xa,xg,xl⟩,xy⟩:aR)) 261::fz xc::fz xa::L) w)(aw:dn (⟨⟨cv xc,xa.xs,xg.toNat,xl⟩,xy⟩:WV)/\kx (cv xc) ls/\0<=i/\i<ls.length):Calls Tryz.prog 307 #[.pointer (some ⟨k,0,none⟩),l.val, .int .i64 i] w fun e w'=> ∃U:Cp×Sl Int×UInt64×Int,e= .returned (.int .i64 ((iv (⟨⟨cv xc,xa.xs,xg.toNat,xl⟩,xy⟩:WV) ls i).2))/\((⟨⟨cv U.1,U.2.1.xs,U.2.2.1.toNat,U.2.2.2⟩,xy⟩:WV)=(iv (⟨⟨cv xc,xa.xs,xg.toNat,xl⟩,xy⟩:WV) ls i).1)/\Mem w0 (al k (aP (⟨⟨U.1,U.2.1,U.2.2.1,U.2.2.2⟩,xy⟩:aR)) 261::fz U.1::fz U.2.1::L) w':=by
 obtain⟨fP,qN,w7,bf⟩:=aw;have hk:bl (cv xc)=true:=fP.ai;have yU:4<=(cv xc).blocks.length:=fP.tm;have hd:=kU hk;have ic:=qN.1;obtain⟨z,hz⟩:=get_some (xs:=ls) (i:=i.toNat) oM;have wU:ls.getD i.toNat hY=z:=by simp[List.getD,hz]
 have AW:(ls.set i.toNat bV).length=ls.length:=anb;refine fI (args:=[_,_,_]) Tryz.func307 rfl Tryz.ntmps307 rfl hw ?_;change Cw _ _ _ _ _ [(0, .pointer (some ⟨k,0,none⟩)),(1,l.val),(2, .int .i64 i)] (al k (aP (⟨⟨xc,xa,xg,xl⟩,xy⟩:aR)) 261::fz xc::fz xa::L);refine an ?_;refine aW rfl oM fun nV qG=>an ?_;refine ae (cr (v:= .agg (bF bV)) rfl DS) (ae (aY rfl rfl i.toNat oM oM) (kj (s:=nV) (n:=4) (k:=i.toNat) (j:=0) (a:=z) (a':=bV) (xs:=ls) (enc:=bF) (c:=4) (v:= .agg (bF bV)) oK rfl rfl rfl hz (bn.one (enc:=bF) (c:=4) _) rfl (by decide) (by rfl) (aj ?_)));refine aW rfl ⟨hk,qN.set i.toNat⟩ fun gz wQ=>?_;obtain⟨t1,t2,t3,t4,t5,t6⟩:=Hl hk (qN.set i.toNat);rw[←wQ]at t1 t2 t3 t4 t5 t6;have pf:dn (⟨⟨cv gz,xa.xs,xg.toNat,xl⟩,xy⟩:WV):=fP.on t1 t2;refine Gs ?_;refine ae (ax (v:= .int .i64 ((cK (cv xc) (ls.set i.toNat bV)).2.1)) rfl rfl) (ae (ax (v:= .int .i64 ((cK (cv xc) (ls.set i.toNat bV)).2.2)) rfl rfl) (ao ?_));refine fb ?_;refine mB (X:=Unit) (fun U=>[(8, .int .i64 ((c1 (cv xc) ls i).1)),(9, .int .i64 ((c1 (cv xc) ls i).2)),(0, .pointer (some ⟨k,0,none⟩)),(1,l.val),(2, .int .i64 i)]) (fun U=>al k (aP (⟨⟨gz,xa,xg,xl⟩,xy⟩:aR)) 261::fz gz::fz xa::L) (fun U=>True) ?_ ?_
 ·
  refine Gi ?_;refine gO oK oK (aG ?_);refine eZ rfl rfl rfl (fun hg=>(Ry.yl (fa (au hg rfl)))) (eZ rfl rfl rfl (fun hg=>(Ry.yl (aK (o':=0) (au hg rfl) rfl))) (eZ rfl rfl rfl (fun hg=>(Ry.yl (aK (o':=0) (au hg rfl) rfl))) (eZ rfl rfl rfl (fun hg=>(Ry.yl (aK (o':=0) (au hg rfl) rfl))) (eZ rfl rfl rfl (fun hg=>(Ry.yl (Ry.to (v':= .int .i64 gz.ab) (bA (au hg rfl)) rfl))) (eZ rfl rfl rfl (fun hg=>br (dB (au hg rfl) (dB (au hg rfl) gk)) trivial) (ao ?_))))));refine eZ rfl rfl rfl (fun hg=>(Ry.yl (aY (au hg rfl) (au hg rfl) i.toNat oM oM))) (eZ rfl rfl rfl (fun hg=>(Ry.yl (aK (au hg rfl) rfl))) (eZ rfl rfl rfl (fun hg=>(Ry.yl (bB (j:=0) (au hg rfl) i.toNat hz rfl (by decide)))) (aj ?_)));refine Gb ?_ ?_<;>intro h0
  ·
   have hA:wC (cv xc) ls i=true:=by
    rw[wC,wU,alM,decide_eq_true_eq,decide_eq_true_eq,←show gz.ab=(cv xc).ab from t2.ab];exact h0
   refine Gi ?_;refine ao ?_;refine Gi ?_;exact eD () trivial (Sub.cons (look_eq rfl (by rw[c1,if_pos hA])) (Sub.cons (look_eq rfl (by rw[c1,if_pos hA])) sb)) (fun w hw=>ag.mem hw)
  have hA: ¬wC (cv xc) ls i=true:=by
   rw[wC,wU,alM,decide_eq_true_eq,decide_eq_true_eq,←show gz.ab=(cv xc).ab from t2.ab];rintro⟨ga,gb⟩;rcases h0 with h|h
   ·
    exact h ga
   exact h gb
  refine Gi ?_;exact eD () trivial (Sub.cons (look_eq rfl (by rw[c1,if_neg hA])) (Sub.cons (look_eq rfl (by rw[c1,if_neg hA])) sb)) (fun w hw=>ag.mem hw)
 rintro⟨⟩ _;refine an ?_;refine Gb ?_ ?_<;>intro h1
 ·
  have hE:(iv (⟨⟨cv xc,xa.xs,xg.toNat,xl⟩,xy⟩:WV) ls i)=(((⟨⟨cv xc,xa.xs,xg.toNat,xl⟩,xy⟩:WV).on (cv gz)),kT (c1 (cv xc) ls i).2):=by rw[iv,if_pos h1,show((⟨⟨cv xc,xa.xs,xg.toNat,xl⟩,xy⟩:WV)).v.ai=cv xc from rfl,←wQ]
  refine aG ?_;refine Gr fun w1 hw=>?_;exact⟨(gz,xa,xg,xl),by rw[hE],by rw[hE];rfl,ag.mem hw⟩
 have dJ: ¬(c1 (cv xc) ls i).2≠0:=fun h=>h h1;have bE:(iv (⟨⟨cv xc,xa.xs,xg.toNat,xl⟩,xy⟩:WV) ls i)=(if(di (⟨⟨cv gz,xa.xs,xg.toNat,xl⟩,xy⟩:WV) (i+2) (c1 (cv xc) ls i).1).2.1=false\/z.used=xc.ab then((di (⟨⟨cv gz,xa.xs,xg.toNat,xl⟩,xy⟩:WV) (i+2) (c1 (cv xc) ls i).1).1,(di (⟨⟨cv gz,xa.xs,xg.toNat,xl⟩,xy⟩:WV) (i+2) (c1 (cv xc) ls i).1).2.2)else((di (⟨⟨cv gz,xa.xs,xg.toNat,xl⟩,xy⟩:WV) (i+2) (c1 (cv xc) ls i).1).1.on (dO (di (⟨⟨cv gz,xa.xs,xg.toNat,xl⟩,xy⟩:WV) (i+2) (c1 (cv xc) ls i).1).1.v.ai (i+2)).1,kT (dO (di (⟨⟨cv gz,xa.xs,xg.toNat,xl⟩,xy⟩:WV) (i+2) (c1 (cv xc) ls i).1).1.v.ai (i+2)).2)):=by
  rw[iv];refine(if_neg dJ).trans ?_;rw[wU,show((⟨⟨cv xc,xa.xs,xg.toNat,xl⟩,xy⟩:WV)).v.ai=cv xc from rfl,←wQ];rfl
 refine aG ?_;refine aW rfl ⟨pf,by omega,by rw[t2.len];omega,fun h=>by rw[t2.len];have:=Hs (i:=i) hk qN h1 h;exact⟨this.1,this.2.1⟩⟩ fun nY wS=>?_;have hm:=W0 (x:=(⟨⟨cv gz,xa.xs,xg.toNat,xl⟩,xy⟩:WV)) (src:=i+2) (tgt:=(c1 (cv xc) ls i).1) pf (fun h=>by
  have:=Hs (i:=i) hk qN h1 h;exact⟨this.1,by rw[show((⟨⟨cv gz,xa.xs,xg.toNat,xl⟩,xy⟩:WV)).v.ai.blocks.length=(cv xc).blocks.length from t2.len];exact this.2.1,by rw[show((⟨⟨cv gz,xa.xs,xg.toNat,xl⟩,xy⟩:WV)).v.ai=(cK (cv xc) (ls.set i.toNat bV)).1 from wQ];exact this.2.2⟩)
 rw[←wS]at hm;obtain⟨aaI,PU⟩:=hm;have tI:nY.1.ab=xc.ab:=PU.ab.trans t2.ab;refine Gs ?_;refine ae (ax (v:= .bool ((di (⟨⟨cv gz,xa.xs,xg.toNat,xl⟩,xy⟩:WV) (i+2) ((c1 (cv xc) ls i).1)).2.1)) rfl rfl) (ae (ax (v:= .int .i64 ((di (⟨⟨cv gz,xa.xs,xg.toNat,xl⟩,xy⟩:WV) (i+2) ((c1 (cv xc) ls i).1)).2.2)) rfl rfl) (aj ?_));refine gO oK oK (aG ?_);refine ie rfl rfl rfl (fun hg=>(Ry.yl (aY (au hg rfl) (au hg rfl) i.toNat oM oM))) (ie rfl rfl rfl (fun hg=>(Ry.yl (aK (au hg rfl) rfl))) (ie rfl rfl rfl (fun hg=>(Ry.yl (bB (j:=1) (au hg rfl) i.toNat hz rfl (by decide)))) (Gh ?_)));refine ie rfl rfl rfl (fun hg=>(Ry.yl (fa (au hg rfl)))) (ie rfl rfl rfl (fun hg=>(Ry.yl (aK (o':=0) (au hg rfl) rfl))) (ie rfl rfl rfl (fun hg=>(Ry.yl (aK (o':=0) (au hg rfl) rfl))) (ie rfl rfl rfl (fun hg=>(Ry.yl (aK (o':=0) (au hg rfl) rfl))) (ie rfl rfl rfl (fun hg=>(Ry.yl (Ry.to (v':= .int .i64 nY.1.ab) (bA (au hg rfl)) rfl))) (aj ?_)))));refine Gb ?_ ?_<;>intro h2
 ·
  have hE:=bE;rw[if_pos (by rw[←tI];exact h2),←wS]at hE;refine an ?_;refine Gr fun w1 hw=>?_;exact⟨(nY.1,nY.2.1,nY.2.2.1,nY.2.2.2),by rw[hE],by rw[hE],ag.mem hw⟩
 have hE:=bE
 rw[if_neg (by rw[←tI];rintro(g|g)
               ·exact absurd (h2.1.symm.trans g) (by simp)
               ·exact h2.2 g),←wS]at hE
 refine an ?_;refine aW rfl ⟨aaI.ai,by omega,by rw[PU.len,t2.len];omega⟩ fun x73 aaJ=>aj ?_;refine Gr fun w1 hw=>?_;exact⟨(x73,nY.2.1,nY.2.2.1,nY.2.2.2),by rw[hE],by rw[hE,aaJ];rfl,ag.mem hw⟩
instance akF{w0:World}{L R1 R2 L2:List ah}{i0 i1 i2:Nat}{k:Nat}{xc:Cp}{xa:Sl Int}{xg:UInt64}{xl:Int}{xy:Bool}{l:Sv}{ls:List aI}{i:Int}[q0:Has L k (aP (⟨⟨xc,xa,xg,xl⟩,xy⟩:aR)) 261 i0][d0:bW L i0 R1][q1:At R1 (fz xc) i1][d1:bW R1 i1 R2][q2:At R2 (fz xa) i2][d2:bW R2 i2 L2][hl:Hd w0 L2 l bF 4 ls]:bK Tryz.prog 307 w0 L [.pointer (some ⟨k,0,none⟩),l.val, .int .i64 i] (Cp×Sl Int×UInt64×Int) (fun U=> .int .i64 ((iv (⟨⟨cv xc,xa.xs,xg.toNat,xl⟩,xy⟩:WV) ls i).2)) (fun U=>al k (aP (⟨⟨U.1,U.2.1,U.2.2.1,U.2.2.2⟩,xy⟩:aR)) 261::fz U.1::fz U.2.1::L2) (fun U=>(⟨⟨cv U.1,U.2.1.xs,U.2.2.1.toNat,U.2.2.2⟩,xy⟩:WV)=(iv (⟨⟨cv xc,xa.xs,xg.toNat,xl⟩,xy⟩:WV) ls i).1) (dn (⟨⟨cv xc,xa.xs,xg.toNat,xl⟩,xy⟩:WV)/\kx (cv xc) ls/\0<=i/\i<ls.length):=⟨fun hp w hw=>aaH w0 w L2 k xc xa xg xl xy l ls i (tB q0.h d0.h q1.h d1.h q2.h d2.h hw) hp⟩
theorem aaK(w:World)(cb k:Nat)(xc:Cp)(xa:Sl Int)(xg:UInt64)(xl:Int)(xy:Bool)(pL:w.cell? ⟨cb,0,none⟩=Option.some (.pointer (some ⟨k,0,none⟩)))(hkb:w.heap[k]? =Option.some (.cells (aP (⟨⟨xc,xa,xg,xl⟩,xy⟩:aR)) 261 (0,0)))(x:aI):Calls Tryz.prog 309 #[.agg (bF x), .pointer (some ⟨cb,0,none⟩)] w fun e w'=>e= .returned (.bool (pC xc.ab x))/\Mem w [] w':=by
 have gkb:pJ w k (aP (⟨⟨xc,xa,xg,xl⟩,xy⟩:aR)) 261:=⟨hkb⟩;have ti:dG=1099511627776:=rfl;refine cD Tryz.func309 rfl Tryz.ntmps309 rfl ?_;refine Gc ?_;refine bJ rfl fun b2=>ao ?_;refine gO oK oK (ao ?_);refine bm (OR rfl pL) (an ?_);refine bm (Ry.to (v':= .int .i64 xc.ab) (mi rfl) rfl) (dV ?_);refine Gr fun w1 hw=>?_;exact⟨rfl,ag.mem hw⟩
instance{cb k i j:Nat}{xc:Cp}{xa:Sl Int}{xg:UInt64}{xl:Int}{xy:Bool}{T:TypeId}[q:Has L cb #[.pointer (some ⟨k,0,none⟩)] T i][q2:Has L k (aP (⟨⟨xc,xa,xg,xl⟩,xy⟩:aR)) 261 j]:qD Tryz.prog w0 L 309 #[.pointer (some ⟨cb,0,none⟩)] bF (pC xc.ab):=⟨inferInstance,fun w hw x=>aaK w cb k xc xa xg xl xy (by rw[hw.cell q.h];rfl) (hw.block q2.h) x⟩
theorem aaL(w0 w:World)(L:List ah)(k:Nat)(xc:Cp)(xa:Sl Int)(xg:UInt64)(xl:Int)(xy:Bool)(hw:Mem w0 (al k (aP (⟨⟨xc,xa,xg,xl⟩,xy⟩:aR)) 261::fz xc::fz xa::L) w)(aw:dn (⟨⟨cv xc,xa.xs,xg.toNat,xl⟩,xy⟩:WV)):Calls Tryz.prog 262 #[.pointer (some ⟨k,0,none⟩)] w fun e w'=> ∃U:Cp×Sl Int×UInt64×Int,e= .returned (.int .i64 ((fD (⟨⟨cv xc,xa.xs,xg.toNat,xl⟩,xy⟩:WV)).2))/\((⟨⟨cv U.1,U.2.1.xs,U.2.2.1.toNat,U.2.2.2⟩,xy⟩:WV)=(fD (⟨⟨cv xc,xa.xs,xg.toNat,xl⟩,xy⟩:WV)).1)/\Mem w0 (al k (aP (⟨⟨U.1,U.2.1,U.2.2.1,U.2.2.2⟩,xy⟩:aR)) 261::fz U.1::fz U.2.1::L) w':=by
 have fP:=aw;have hk:bl (cv xc)=true:=fP.ai;have yU:4<=(cv xc).blocks.length:=fP.tm;have hd:=kU hk;have Bb:xg.toNat<281474976710656:=fP.gen;have pN:uI (cv xc) (ar [xa]):=by rw[A9];exact(show gV (cv xc) xa.xs from fP.tk).kn hk oM (by have:xa.xs.length<=64:=fP.tl;omega)
 have qN:kx (cv xc) (aT (cv xc) (ar [xa])):=Hk _ _;have ic:=qN.1;have dM:(ar [xa]).length<=64:=by rw[A9];exact fP.tl
 have iZ: ∀x∈(aT (cv xc) (ar [xa])),0<=x.live/\x.live<=1000000/\0<=x.used/\x.used<=1000000:=fun x hx=>by
  have t:=Dp hk hx;have:=t.WE;have:=t.WG;have:=t.Dm;have:=t.Dn;exact⟨by omega,by omega,by omega,by omega⟩
 have IK:(fD (⟨⟨cv xc,xa.xs,xg.toNat,xl⟩,xy⟩:WV))=(if(jP (aT (cv xc) (ar [xa])) xc.ab).2=true/\AG xg.toNat=false then(if(iv (⟨⟨cv xc,xa.xs,xg.toNat,xl⟩,xy⟩:WV) (aT (cv xc) (ar [xa])) (jP (aT (cv xc) (ar [xa])) xc.ab).1).2≠6 then(iv (⟨⟨cv xc,xa.xs,xg.toNat,xl⟩,xy⟩:WV) (aT (cv xc) (ar [xa])) (jP (aT (cv xc) (ar [xa])) xc.ab).1)else nn (iv (⟨⟨cv xc,xa.xs,xg.toNat,xl⟩,xy⟩:WV) (aT (cv xc) (ar [xa])) (jP (aT (cv xc) (ar [xa])) xc.ab).1).1 (aT (cv xc) (ar [xa])))else nn (⟨⟨cv xc,xa.xs,xg.toNat,xl⟩,xy⟩:WV) (aT (cv xc) (ar [xa]))):=by
  have e:(aT (cv xc) (ar [xa]))=tn (⟨⟨cv xc,xa.xs,xg.toNat,xl⟩,xy⟩:WV):=by rw[A9];rfl
  rw[e];rfl
 refine fI (args:=[_]) Tryz.func262 rfl Tryz.ntmps262 rfl hw ?_;change Cw _ _ _ _ _ [(0, .pointer (some ⟨k,0,none⟩))] (al k (aP (⟨⟨xc,xa,xg,xl⟩,xy⟩:aR)) 261::fz xc::fz xa::L);refine Gc ?_;refine Ys (by first|rfl|exact Sv.iC _) rfl fun b1=>ao ?_;refine gB [6,7] [[],[],[],[],[],[],[],[6],[6,7]] [0,1,2,3,4,5,6,7,8] [al b1 #[.pointer (some ⟨k,0,none⟩)] 259,al k (aP (⟨⟨xc,xa,xg,xl⟩,xy⟩:aR)) 261,fz xa] (fun _ hw=>ag.mem hw) oK oK (ak rfl (bA rfl) (ak rfl (bA rfl) (ak rfl (fa rfl) (ak rfl (aK (o':=0) rfl rfl) (ak rfl (aK (o':=6) rfl rfl) (ak rfl (Ry.to (v':=xa.sv.val) (bA rfl) rfl) ?_))))));refine cC rfl (K8 (enc:=bX) (vals:=[xa.sv.val]) [xa] rfl (by simp only[amR,anl,Sv.iC];rfl) rfl (by decide) (by decide) fun Bf=>⟨fun _ hw=>ag.mem hw,?_⟩);refine cC rfl (nL (hc:=IA (l:=(⟨⟨false,Bf,0,1,1,none⟩,[xa]⟩:Sl (Sl Int)))) rfl pN fun fZ D1=>⟨fun _ hw=>ag.mem hw,?_⟩);refine ak rfl (fG rfl) (fb ?_);refine mB (X:=Cp×Sl Int×UInt64×Int) (fun U=>[(1, .pointer (some ⟨b1,0,none⟩)),(3,fZ.val)]) (fun U=>al b1 #[.pointer (some ⟨k,0,none⟩)] 259::al k (aP (⟨⟨U.1,U.2.1,U.2.2.1,U.2.2.2⟩,xy⟩:aR)) 261::fz U.1::fz U.2.1::own bF 4 fZ (aT (cv xc) (ar [xa]))::L) (fun U=>(fD (⟨⟨cv xc,xa.xs,xg.toNat,xl⟩,xy⟩:WV))=nn (⟨⟨cv U.1,U.2.1.xs,U.2.2.1.toNat,U.2.2.2⟩,xy⟩:WV) (aT (cv xc) (ar [xa]))/\dn (⟨⟨cv U.1,U.2.1.xs,U.2.2.1.toNat,U.2.2.2⟩,xy⟩:WV)/\kx (cv U.1) (aT (cv xc) (ar [xa]))) ?_ ?_
 ·
  refine aj ?_;refine ck (br rfl ⟨show(aT (cv xc) (ar [xa])).length<=1000000 by omega,iZ⟩) (Gs ?_);refine ae (ax (v:= .int .i64 ((jP (aT (cv xc) (ar [xa])) xc.ab).1)) rfl rfl) (ae (ax (v:= .bool ((jP (aT (cv xc) (ar [xa])) xc.ab).2)) rfl rfl) (aG ?_));refine gm rfl rfl rfl (fun hg=>(Ry.yl (bA rfl))) (gm rfl rfl rfl (fun hg=>br (dB (au hg rfl) gk) Bb) (gm rfl rfl rfl (fun hg=>(Ry.yl (kg (au hg rfl)))) (ao ?_)));refine Gb ?_ ?_<;>intro h0
  ·
   have hv:=WT h0.1;refine an ?_;refine aW rfl ⟨fP,qN,hv.1,hv.2⟩ fun jx vc=>aG ?_;refine Gb ?_ ?_<;>intro h1
   ·
    have hE:(fD (⟨⟨cv xc,xa.xs,xg.toNat,xl⟩,xy⟩:WV))=(iv (⟨⟨cv xc,xa.xs,xg.toNat,xl⟩,xy⟩:WV) (aT (cv xc) (ar [xa])) (jP (aT (cv xc) (ar [xa])) xc.ab).1):=by rw[IK,if_pos h0,if_pos h1]
    refine an ?_;refine Gr fun w1 hw=>?_;exact⟨(jx.1,jx.2.1,jx.2.2.1,jx.2.2.2),by rw[hE],by rw[hE];exact vc,ag.mem hw⟩
   have dJ:(iv (⟨⟨cv xc,xa.xs,xg.toNat,xl⟩,xy⟩:WV) (aT (cv xc) (ar [xa])) (jP (aT (cv xc) (ar [xa])) xc.ab).1).2=6:=h1;obtain⟨r1,r2,r3⟩:=NY (i:=(jP (aT (cv xc) (ar [xa])) xc.ab).1) fP qN;refine Gi ?_;exact eD (jx.1,jx.2.1,jx.2.2.1,jx.2.2.2) ⟨by rw[IK,if_pos h0,if_neg (fun h=>h dJ),←vc],by rw[vc];exact r1.ok,qN.jL (by have:=r1.jL;rw[←vc]at this;exact this) (by have:=r3 dJ;rw[←vc]at this;exact this)⟩ sb (fun w hw=>ag.mem hw)
  have tz: ¬((jP (aT (cv xc) (ar [xa])) xc.ab).2=true/\AG xg.toNat=false):=fun g=>h0.elim (fun h=>absurd (h.symm.trans g.1) (by simp)) (fun h=>absurd (h.symm.trans g.2) (by simp));refine Gi ?_;exact eD (xc,xa,xg,xl) ⟨by rw[IK,if_neg tz],fP,qN⟩ sb (fun w hw=>ag.mem hw)
 rintro⟨c,a,g,m⟩ ⟨tM,yW,II⟩;dsimp only;simp only at tM yW II;have hc4:4<=(cv c).blocks.length:=yW.tm;have hdc:=kU (show bl (cv c)=true from yW.ai);refine ao ?_;refine ae (F0 rfl) (aW rfl oM fun D2 Bi=>dV ?_);refine ae (Ry.to (v':= .int .i64 c.ab) (bA rfl) rfl) (ao ?_);refine ae (ax (v:= .int .i64 ((gx (cx (pC c.ab) (aT (cv xc) (ar [xa]))) c.ab).1)) rfl rfl) (ae (ax (v:= .bool ((gx (cx (pC c.ab) (aT (cv xc) (ar [xa]))) c.ab).2)) rfl rfl) (aQ ?_));refine Gb ?_ ?_<;>intro h2
 ·
  have hE:nn (⟨⟨cv c,a.xs,g.toNat,m⟩,xy⟩:WV) (aT (cv xc) (ar [xa]))=((⟨⟨cv c,a.xs,g.toNat,m⟩,xy⟩:WV),6):=by
   rw[nn];exact if_pos (show(gx (cx (pC c.ab) (aT (cv xc) (ar [xa]))) c.ab).2=false from h2)
  refine aj ?_;refine Gr fun w1 hw=>?_;exact⟨(c,a,g,m),by rw[tM,hE],by rw[tM,hE],ag.mem hw⟩
 have nu:=uN II (fun x h=>(wu h).1) (show(gx (cx (pC c.ab) (aT (cv xc) (ar [xa]))) c.ab).2=true from h2);change 0<=(gx (cx (pC c.ab) (aT (cv xc) (ar [xa]))) c.ab).1/\(gx (cx (pC c.ab) (aT (cv xc) (ar [xa]))) c.ab).1<_/\_ at nu;have hE:nn (⟨⟨cv c,a.xs,g.toNat,m⟩,xy⟩:WV) (aT (cv xc) (ar [xa]))=((⟨⟨cv c,a.xs,g.toNat,m⟩,xy⟩:WV).on (dO (cv c) ((gx (cx (pC c.ab) (aT (cv xc) (ar [xa]))) c.ab).1+2)).1,kT (dO (cv c) ((gx (cx (pC c.ab) (aT (cv xc) (ar [xa]))) c.ab).1+2)).2):=by
  rw[nn];exact if_neg (fun g=>absurd ((show(gx (cx (pC c.ab) (aT (cv xc) (ar [xa]))) c.ab).2=true from h2).symm.trans g) (by simp))
 refine an ?_;refine aW rfl ⟨yW.ai,by omega,by omega⟩ fun DH HP=>aj ?_;refine Gr fun w1 hw=>?_;exact⟨(DH,a,g,m),by rw[tM,hE],by rw[tM,hE,HP];rfl,ag.mem hw⟩
instance akG{w0:World}{L R1 R2 L2:List ah}{i0 i1 i2:Nat}{k:Nat}{xc:Cp}{xa:Sl Int}{xg:UInt64}{xl:Int}{xy:Bool}[q0:Has L k (aP (⟨⟨xc,xa,xg,xl⟩,xy⟩:aR)) 261 i0][d0:bW L i0 R1][q1:At R1 (fz xc) i1][d1:bW R1 i1 R2][q2:At R2 (fz xa) i2][d2:bW R2 i2 L2]:bK Tryz.prog 262 w0 L [.pointer (some ⟨k,0,none⟩)] (Cp×Sl Int×UInt64×Int) (fun U=> .int .i64 ((fD (⟨⟨cv xc,xa.xs,xg.toNat,xl⟩,xy⟩:WV)).2)) (fun U=>al k (aP (⟨⟨U.1,U.2.1,U.2.2.1,U.2.2.2⟩,xy⟩:aR)) 261::fz U.1::fz U.2.1::L2) (fun U=>(⟨⟨cv U.1,U.2.1.xs,U.2.2.1.toNat,U.2.2.2⟩,xy⟩:WV)=(fD (⟨⟨cv xc,xa.xs,xg.toNat,xl⟩,xy⟩:WV)).1) (dn (⟨⟨cv xc,xa.xs,xg.toNat,xl⟩,xy⟩:WV)):=⟨fun hp w hw=>aaL w0 w L2 k xc xa xg xl xy (tB q0.h d0.h q1.h d1.h q2.h d2.h hw) hp⟩
theorem aaM(w0 w:World)(L:List ah)(k:Nat)(xc:Cp)(xa:Sl Int)(xg:UInt64)(xl:Int)(xy:Bool)(n:Int)(hw:Mem w0 (al k (aP (⟨⟨xc,xa,xg,xl⟩,xy⟩:aR)) 261::fz xc::fz xa::L) w)(aw:dn (⟨⟨cv xc,xa.xs,xg.toNat,xl⟩,xy⟩:WV)):Calls Tryz.prog 222 #[.pointer (some ⟨k,0,none⟩), .int .i64 n] w fun e w'=> ∃U:Cp×Sl Int×UInt64×Int×Bool,e= .returned (.int .i64 ((oL (⟨⟨cv xc,xa.xs,xg.toNat,xl⟩,xy⟩:WV) n).2))/\((⟨⟨cv U.1,U.2.1.xs,U.2.2.1.toNat,U.2.2.2.1⟩,U.2.2.2.2⟩:WV)=(oL (⟨⟨cv xc,xa.xs,xg.toNat,xl⟩,xy⟩:WV) n).1)/\Mem w0 (al k (aP (⟨⟨U.1,U.2.1,U.2.2.1,U.2.2.2.1⟩,U.2.2.2.2⟩:aR)) 261::fz U.1::fz U.2.1::L) w':=by
 refine fI (args:=[_,_]) Tryz.func222 rfl Tryz.ntmps222 rfl hw ?_;change Cw _ _ _ _ _ [(0, .pointer (some ⟨k,0,none⟩)),(1, .int .i64 n)] (al k (aP (⟨⟨xc,xa,xg,xl⟩,xy⟩:aR)) 261::fz xc::fz xa::L);refine aj ?_;refine bI (X:=Nat×Cp×Sl Int×UInt64×Int) (fun U=>[(0, .pointer (some ⟨k,0,none⟩)),(1, .int .i64 n)]) (fun U=>al k (aP (⟨⟨U.2.1,U.2.2.1,U.2.2.2.1,U.2.2.2.2⟩,xy⟩:aR)) 261::fz U.2.1::fz U.2.2.1::L) (fun U=>(oL (⟨⟨cv xc,xa.xs,xg.toNat,xl⟩,xy⟩:WV) n)=tr U.1 (⟨⟨cv U.2.1,U.2.2.1.xs,U.2.2.2.1.toNat,U.2.2.2.2⟩,xy⟩:WV) n/\dn (⟨⟨cv U.2.1,U.2.2.1.xs,U.2.2.2.1.toNat,U.2.2.2.2⟩,xy⟩:WV)/\(dG -(cv U.2.1).ops).toNat<U.1) (fun U=>U.1) ((dG -(cv xc).ops).toNat+1,xc,xa,xg,xl) ⟨rfl,aw,by simp only;omega⟩ sb (fun w hw=>ag.mem hw) ?_;rintro⟨m,c,a,g,q⟩ ⟨bf,aF,bo⟩;dsimp only;simp only at bf aF bo;obtain⟨r,rfl⟩: ∃r,m=r+1:=⟨m -1,by omega⟩;have hk:bl (cv c)=true:=aF.ai;have yU:4<=(cv c).blocks.length:=aF.tm;have pN:uI (cv c) a.xs:=(show gV (cv c) a.xs from aF.tk).kn hk oM (by have:a.xs.length<=64:=aF.tl;omega);have DU:q=0\/q=1:=aF.last;have bE:(oL (⟨⟨cv xc,xa.xs,xg.toNat,xl⟩,xy⟩:WV) n)=(if n<=(oJ (cv c) a.xs).1 then((⟨⟨cv c,a.xs,g.toNat,q⟩,xy⟩:WV),0)else if n<=(oJ (cv c) a.xs).2/\wq (cv c) q<2 then({(⟨⟨cv c,a.xs,g.toNat,q⟩,xy⟩:WV)with beyond:=true},0)else if(fD (⟨⟨cv c,a.xs,g.toNat,q⟩,xy⟩:WV)).2=0 then tr r (fD (⟨⟨cv c,a.xs,g.toNat,q⟩,xy⟩:WV)).1 n else if(fD (⟨⟨cv c,a.xs,g.toNat,q⟩,xy⟩:WV)).2≠6 then(fD (⟨⟨cv c,a.xs,g.toNat,q⟩,xy⟩:WV))else if n<=(oJ (cv c) a.xs).2 then({(fD (⟨⟨cv c,a.xs,g.toNat,q⟩,xy⟩:WV)).1 with beyond:=true},0)else((fD (⟨⟨cv c,a.xs,g.toNat,q⟩,xy⟩:WV)).1,5)):=by rw[bf,tr]
 refine ao ?_;refine ck (br rfl pN) (Gs ?_);refine ae (ax (v:= .int .i64 ((oJ (cv c) a.xs).1)) rfl rfl) (ae (ax (v:= .int .i64 ((oJ (cv c) a.xs).2)) rfl rfl) (ct ?_));refine Gb ?_ ?_<;>intro h0
 ·
  have hE:(oL (⟨⟨cv xc,xa.xs,xg.toNat,xl⟩,xy⟩:WV) n)=((⟨⟨cv c,a.xs,g.toNat,q⟩,xy⟩:WV),0):=by rw[bE,if_pos h0]
  refine aj ?_;refine Gr fun w1 hw=>?_;exact⟨(c,a,g,q,xy),by rw[hE],by rw[hE],ag.mem hw⟩
 refine aQ ?_;refine gm rfl rfl rfl (fun hg=>br (dB (au hg rfl) gk) ⟨hk,by omega,DU⟩) (aj ?_);refine Gb ?_ ?_<;>intro h1
 ·
  have hE:(oL (⟨⟨cv xc,xa.xs,xg.toNat,xl⟩,xy⟩:WV) n)=({(⟨⟨cv c,a.xs,g.toNat,q⟩,xy⟩:WV)with beyond:=true},0):=by rw[bE,if_neg h0,if_pos h1]
  refine an ?_;refine cR (cs':=aP (⟨⟨c,a,g,q⟩,true⟩:aR)) rfl rfl (by show 9<10;decide) (by first|rfl|exact Sv.one _) rfl (aj ?_);refine Gr fun w1 hw=>?_;exact⟨(c,a,g,q,true),by rw[hE],by rw[hE],ag.mem hw⟩
 have dJ: ¬(n<=(oJ (cv c) a.xs).2/\wq (cv c) q<2):=fun g=>h1.elim (fun h=>h g.1) (fun h=>h g.2);refine ao ?_;refine aW rfl aF fun cQ lf=>?_;obtain⟨k1,k2⟩:=N1 aF;refine aQ ?_;refine Gb ?_ ?_<;>intro h2
 ·
  refine Gi ?_;refine Rx rfl (fb ?_);have eE:(fD (⟨⟨cv c,a.xs,g.toNat,q⟩,xy⟩:WV)).2=0:=h2;have ho:(cv c).ops<(fD (⟨⟨cv c,a.xs,g.toNat,q⟩,xy⟩:WV)).1.v.ai.ops:=k2 eE;rw[←lf]at ho;have hle:=uL (show bl (cv cQ.1)=true by have:=k1.ok.ai;rw[←lf]at this;exact this);change(cv c).ops<(cv cQ.1).ops at ho;exact bg (x:=(r+1,c,a,g,q)) (r,cQ.1,cQ.2.1,cQ.2.2.1,cQ.2.2.2) ⟨by rw[bE,if_neg h0,if_neg dJ,if_pos eE,←lf],by have:=k1.ok;rw[←lf]at this;exact this,by simp only;omega⟩ (by simp only;omega) sb (fun w hw=>ag.mem hw)
 have eE: ¬(fD (⟨⟨cv c,a.xs,g.toNat,q⟩,xy⟩:WV)).2=0:=h2;refine aG ?_;refine Gb ?_ ?_<;>intro h3
 ·
  have hE:(oL (⟨⟨cv xc,xa.xs,xg.toNat,xl⟩,xy⟩:WV) n)=(fD (⟨⟨cv c,a.xs,g.toNat,q⟩,xy⟩:WV)):=by rw[bE,if_neg h0,if_neg dJ,if_neg eE,if_pos h3]
  refine an ?_;refine Gr fun w1 hw=>?_;exact⟨(cQ.1,cQ.2.1,cQ.2.2.1,cQ.2.2.2,xy),by rw[hE],by rw[hE];exact lf,ag.mem hw⟩
 have n7: ¬(fD (⟨⟨cv c,a.xs,g.toNat,q⟩,xy⟩:WV)).2≠6:=fun h=>h h3;refine aQ ?_;refine Gb ?_ ?_<;>intro h4
 ·
  have hE:(oL (⟨⟨cv xc,xa.xs,xg.toNat,xl⟩,xy⟩:WV) n)=({(fD (⟨⟨cv c,a.xs,g.toNat,q⟩,xy⟩:WV)).1 with beyond:=true},0):=by rw[bE,if_neg h0,if_neg dJ,if_neg eE,if_neg n7,if_pos h4]
  refine an ?_;refine cR (cs':=aP (⟨⟨cQ.1,cQ.2.1,cQ.2.2.1,cQ.2.2.2⟩,true⟩:aR)) rfl rfl (by show 9<10;decide) (by first|rfl|exact Sv.one _) rfl (aj ?_);refine Gr fun w1 hw=>?_;exact⟨(cQ.1,cQ.2.1,cQ.2.2.1,cQ.2.2.2,true),by rw[hE],by rw[hE,←lf],ag.mem hw⟩
 have hE:(oL (⟨⟨cv xc,xa.xs,xg.toNat,xl⟩,xy⟩:WV) n)=((fD (⟨⟨cv c,a.xs,g.toNat,q⟩,xy⟩:WV)).1,5):=by rw[bE,if_neg h0,if_neg dJ,if_neg eE,if_neg n7,if_neg h4]
 refine aj ?_;refine Gr fun w1 hw=>?_;exact⟨(cQ.1,cQ.2.1,cQ.2.2.1,cQ.2.2.2,xy),by rw[hE],by rw[hE];exact lf,ag.mem hw⟩
instance akH{w0:World}{L R1 R2 L2:List ah}{i0 i1 i2:Nat}{k:Nat}{xc:Cp}{xa:Sl Int}{xg:UInt64}{xl:Int}{xy:Bool}{n:Int}[q0:Has L k (aP (⟨⟨xc,xa,xg,xl⟩,xy⟩:aR)) 261 i0][d0:bW L i0 R1][q1:At R1 (fz xc) i1][d1:bW R1 i1 R2][q2:At R2 (fz xa) i2][d2:bW R2 i2 L2]:bK Tryz.prog 222 w0 L [.pointer (some ⟨k,0,none⟩), .int .i64 n] (Cp×Sl Int×UInt64×Int×Bool) (fun U=> .int .i64 ((oL (⟨⟨cv xc,xa.xs,xg.toNat,xl⟩,xy⟩:WV) n).2)) (fun U=>al k (aP (⟨⟨U.1,U.2.1,U.2.2.1,U.2.2.2.1⟩,U.2.2.2.2⟩:aR)) 261::fz U.1::fz U.2.1::L2) (fun U=>(⟨⟨cv U.1,U.2.1.xs,U.2.2.1.toNat,U.2.2.2.1⟩,U.2.2.2.2⟩:WV)=(oL (⟨⟨cv xc,xa.xs,xg.toNat,xl⟩,xy⟩:WV) n).1) (dn (⟨⟨cv xc,xa.xs,xg.toNat,xl⟩,xy⟩:WV)):=⟨fun hp w hw=>aaM w0 w L2 k xc xa xg xl xy n (tB q0.h d0.h q1.h d1.h q2.h d2.h hw) hp⟩
theorem aaN(i:Int)(g:UInt64)(b:Sl UInt8)(w:World):(Instr.build 324 #[(0, .int .i64 1),(1, .int .i64 i),(2, .int .u64 (g.toNat:Int)),(3,b.sv.val)]).run Tryz.prog w= .ok (.agg (cG ⟨1,i,g,b⟩)) w:=by
 obtain⟨⟨e,b,o,l,c,p⟩,xs⟩:=b;unfold cG
 cases e<;>kernel_rfl
instance (x:It):eY (nF x) 2:=⟨rfl,bn.one x⟩
def D3(k:Nat)(a:Sl Int)(g:UInt64)(T:TypeId):ah:=⟨fun b=>b=k,fun h=> ∃(c:Cp) (l:Int) (y:Bool),h k=Option.some (.cells (aP ⟨⟨c,a,g,l⟩,y⟩) T (0,0)),fun h h' e s=>by obtain⟨c,l,y,hs⟩:=s;exact⟨c,l,y,by rw[e k rfl];exact hs⟩⟩
theorem IL{w0 w:World}{L:List ah}{k:Nat}{a:Sl Int}{g:UInt64}{T:TypeId}{c:Cp}{l:Int}{y:Bool}(h:Mem w0 (al k (aP ⟨⟨c,a,g,l⟩,y⟩) T::L) w):Mem w0 (D3 k a g T::L) w:=by
 have hs:w.heap[k]? =Option.some (.cells (aP ⟨⟨c,a,g,l⟩,y⟩) T (0,0)):=h.block (i:=0) rfl;refine⟨h.below,fun e he=>?_,fun e he b hb=>?_,anm.2 ⟨fun x hx b hb=>(anm.1 h.ny).1 x hx b hb,(anm.1 h.ny).2⟩⟩
 ·
  rcases amA.1 he with rfl|he
  ·
   exact⟨c,l,y,hs⟩
  exact h.sat e (ans _ he)
 rcases amA.1 he with rfl|he
 ·
  exact h.iO _ List.mem_cons_self b hb
 exact h.iO e (ans _ he) b hb
section
variable {P:Program} {N:cc} {w0:World} {env:Env} {L:List ah} {d:Option Tmp} {ty:TypeId} {ps:String} {af:Array Edge} {gd:Option (Nat×Bool)}
theorem aaO{t:TypeId}{x:Operand}{k i:Nat}{a:Sl Int}{g:UInt64}{T:TypeId}(hx:ev env x=some (.pointer (some ⟨k,6,none⟩)))[ht:ft P t](q:At L (D3 k a g T) i):Ry P N w0 env L ⟨d, .load t x,ty,ps,af,gd⟩ a.sv.val:=xd ht hx fun w hw=>by
 obtain⟨c,l,y,hs⟩:=hw.get q.h;simp[World.cell?,show w.heap[k]? =_ from hs,aP]
theorem aaP{t:TypeId}{x:Operand}{k i:Nat}{a:Sl Int}{g:UInt64}{T:TypeId}(hx:ev env x=some (.pointer (some ⟨k,7,none⟩)))[ht:ft P t](q:At L (D3 k a g T) i):Ry P N w0 env L ⟨d, .load t x,ty,ps,af,gd⟩ (.int .u64 g.toNat):=xd ht hx fun w hw=>by
 obtain⟨c,l,y,hs⟩:=hw.get q.h;simp[World.cell?,show w.heap[k]? =_ from hs,aP]
end
instance:dH Tryz.prog 269 (.agg (nF ⟨0,⟨Sv.none,[]⟩⟩)):=⟨by kernel_rfl⟩
theorem aaQ(w0 w:World)(L:List ah)(k:Nat)(xc:Cp)(xa:Sl Int)(xg:UInt64)(xl:Int)(xy:Bool)(it:Sl It)[hit:aU w0 L it](hw:Mem w0 (al k (aP (⟨⟨xc,xa,xg,xl⟩,xy⟩:aR)) 261::fz xc::fz xa::L) w)(aw:dn (⟨⟨cv xc,xa.xs,xg.toNat,xl⟩,xy⟩:WV)/\it.xs.length<=1000000/\ ∀x∈it.xs,0<=x.id/\x.id<xa.xs.length/\x.id<64):Calls Tryz.prog 177 #[.pointer (some ⟨k,0,none⟩),it.sv.val] w fun e w'=> ∃U:Cp×Sl Int×UInt64×Int×Bool,e= .returned (.int .i64 ((ja (⟨⟨cv xc,xa.xs,xg.toNat,xl⟩,xy⟩:WV) (it.xs.map bu)).2))/\((⟨⟨cv U.1,U.2.1.xs,U.2.2.1.toNat,U.2.2.2.1⟩,U.2.2.2.2⟩:WV)=(ja (⟨⟨cv xc,xa.xs,xg.toNat,xl⟩,xy⟩:WV) (it.xs.map bu)).1)/\Mem w0 (al k (aP (⟨⟨U.1,U.2.1,U.2.2.1,U.2.2.2.1⟩,U.2.2.2.2⟩:aR)) 261::fz U.1::fz U.2.1::L) w':=by
 obtain⟨fP,mW,IM⟩:=aw;have hws:dn (⟨⟨cv xc,xa.xs,xg.toNat,xl⟩,false⟩:WV):=fP.by false
 have hK:(it.xs.map bu).length=it.xs.length:=amF _;refine fI (args:=[_,_]) Tryz.func177 rfl Tryz.ntmps177 rfl hw ?_;change Cw _ _ _ _ _ [(0, .pointer (some ⟨k,0,none⟩)),(1,it.sv.val)] (al k (aP (⟨⟨xc,xa,xg,xl⟩,xy⟩:aR)) 261::fz xc::fz xa::L);refine fS ?_;refine bI (X:=Nat) (fun U=>[(16, .int .i64 (U:Nat)),(5, .int .i64 ((((it.xs.map bu).take U).filter fun x=>decide (0<x.2.length)).length:Nat)),(0, .pointer (some ⟨k,0,none⟩)),(1,it.sv.val),(14,it.sv.val),(15, .int .i64 (it.xs.length:Nat))]) (fun U=>al k (aP (⟨⟨xc,xa,xg,xl⟩,xy⟩:aR)) 261::fz xc::fz xa::L) (fun U=>U<=it.xs.length) (fun U=>it.xs.length -U) 0 (amK _) sb (fun w hw=>ag.mem hw) ?_;rintro i bf;refine aj ?_;refine Gb ?_ ?_<;>intro h0
 ·
  obtain⟨z,hz⟩:=get_some (xs:=it.xs) (i:=i) oM;have u7:Mb z it:=⟨List.mem_of_getElem? hz⟩;have ve:(it.xs.map bu)[i]? =Option.some (bu z):=by rw[amx,hz];rfl
  have dZ:=W4 ve;have Ps:(((it.xs.map bu).take i).filter fun x=>decide (0<x.2.length)).length<=i:=Nat.le_trans (aos _ _) (by rw[amo];omega);refine Gc ?_;refine ae (aY rfl rfl i rfl oM) (ae (gq rfl i hz rfl) ?_);have akI:Mb z it:=⟨List.mem_of_getElem? hz⟩;refine bc fun b7=>ct ?_;refine Gb ?_ ?_<;>intro h1
  ·
   rw[if_pos (show 0<(bu z).2.length from by simp only[bu];omega)]at dZ;refine Gi ?_;refine aQ ?_;refine Gi ?_;exact bg (x:=(i)) (i+1) oF oF (Sub.cons rfl (Sub.cons (look_eq rfl (by rw[dZ];rfl)) sb)) (fun w hw=>ag.mem hw)
  rw[if_neg (show ¬0<(bu z).2.length from by simp only[bu];omega)]at dZ;refine aj ?_;refine Gi ?_;exact bg (x:=(i)) (i+1) oF oF (Sub.cons rfl (Sub.cons (look_eq rfl (by rw[dZ,anA])) sb)) (fun w hw=>ag.mem hw)
 obtain rfl:i=it.xs.length:=by omega
 refine an ?_;refine cR (cs':=aP (⟨⟨xc,xa,xg,xl⟩,false⟩:aR)) rfl rfl (by show 9<10;decide) (by first|rfl|exact Sv.one _) rfl (vY ?_);have IN:(((it.xs.map bu).take it.xs.length).filter fun x=>decide (0<x.2.length)).length=((it.xs.map bu).filter fun x=>decide (0<x.2.length)).length:=by rw[←hK,amN]
 refine Gi ?_;refine ao ?_;refine aW rfl hws fun az uX=>?_;have hb:=N3 (l:=(it.xs.map bu)) fP;have Bj:(⟨(⟨cv az.1,az.2.1.xs,az.2.2.1.toNat,az.2.2.2.1⟩:VV),az.2.2.2.2⟩:WV)=(ky (⟨⟨cv xc,xa.xs,xg.toNat,xl⟩,xy⟩:WV) (it.xs.map bu)).1:=by rw[uX,ky,yw,←hK,amN]
 rw[←Bj]at hb;have wV:=hb.ok;have CP:bl (cv az.1)=true:=wV.ai;have yU:4<=(cv az.1).blocks.length:=wV.tm;have hM:az.2.1.xs.length<=64:=wV.tl;have akJ:az.2.1.xs.length=xa.xs.length:=hb.yr;have hg3:az.2.2.1.toNat<281474976710656:=wV.gen;have sk:=IG hg3;refine aG ?_;refine Gb ?_ ?_<;>intro h2
 ·
  have eE:(ky (⟨⟨cv xc,xa.xs,xg.toNat,xl⟩,xy⟩:WV) (it.xs.map bu)).2≠0:=by rw[ky,yw,←IN];exact h2
  have hE:(ja (⟨⟨cv xc,xa.xs,xg.toNat,xl⟩,xy⟩:WV) (it.xs.map bu))=(ky (⟨⟨cv xc,xa.xs,xg.toNat,xl⟩,xy⟩:WV) (it.xs.map bu)):=by rw[ja,if_pos eE]
  refine an ?_;refine Gr fun w1 hw=>?_;exact⟨(az.1,az.2.1,az.2.2.1,az.2.2.2.1,az.2.2.2.2),by rw[hE,ky,yw,←IN],by rw[hE];exact Bj,ag.mem hw⟩
 have eE: ¬(ky (⟨⟨cv xc,xa.xs,xg.toNat,xl⟩,xy⟩:WV) (it.xs.map bu)).2≠0:=by rw[ky,yw,←IN];exact fun h=>h h2
 refine aG ?_;refine ae (Ry.to (v':=az.2.1.sv.val) (bA rfl) rfl) (aW rfl oM fun kd aaa=>aQ ?_);refine bI (X:=Nat×Cp×List Int) (fun U=>[(44, .int .i64 (U.1:Nat)),(0, .pointer (some ⟨k,0,none⟩)),(9,kd.val),(42,it.sv.val),(43, .int .i64 (it.xs.length:Nat))]) (fun U=>al k (aP (⟨⟨U.2.1,az.2.1,az.2.2.1,az.2.2.2.1⟩,az.2.2.2.2⟩:aR)) 261::fz U.2.1::fz az.2.1::own bT 1 kd U.2.2::L) (fun U=>U.1<=it.xs.length/\(tt (⟨⟨cv xc,xa.xs,xg.toNat,xl⟩,xy⟩:WV) (it.xs.map bu))=(ma (⟨cv az.1,az.2.1.xs,az.2.2.1.toNat,az.2.2.2.1⟩:VV) az.2.2.2.2 ((it.xs.map bu).drop U.1) (cv U.2.1) U.2.2)/\bl (cv U.2.1)=true/\eO (cv az.1) (cv U.2.1)/\gV (cv U.2.1) U.2.2/\U.2.2.length=az.2.1.xs.length) (fun U=>it.xs.length -U.1) (0,az.1,az.2.1.xs) ⟨Nat.zero_le _,by rw[tt,←Bj];rfl,CP, .gy _,wV.tk,rfl⟩ sb (fun w hw=>ag.mem hw) ?_;rintro⟨j,d,zs⟩ ⟨jc,dk,fN,iL,yX,IP⟩;dsimp only;simp only at jc dk fN iL yX IP;refine aj ?_;refine Gb ?_ ?_<;>intro h3
 ·
  obtain⟨z,hz⟩:=get_some (xs:=it.xs) (i:=j) oM;have u7:Mb z it:=⟨List.mem_of_getElem? hz⟩;have akK:=IM z (amm hz);obtain⟨zi,u6⟩:=get_some (xs:=zs) (i:=z.id.toNat) oM;have ve:(it.xs.map bu)[j]? =Option.some (bu z):=by rw[amx,hz];rfl
  have bE:(ma (⟨cv az.1,az.2.1.xs,az.2.2.1.toNat,az.2.2.2.1⟩:VV) az.2.2.2.2 ((it.xs.map bu).drop j) (cv d) zs)=(if(bu z).2.length=0 then(ma (⟨cv az.1,az.2.1.xs,az.2.2.1.toNat,az.2.2.2.1⟩:VV) az.2.2.2.2 ((it.xs.map bu).drop (j+1)) (cv d) (zs.set z.id.toNat 0))else if(dw (cv d) (az.2.1.xs++zs) az.2.2.2.2 (jr (⟨cv az.1,az.2.1.xs,az.2.2.1.toNat,az.2.2.2.1⟩:VV) (bu z))).2.2≠0 then((dw (cv d) (az.2.1.xs++zs) az.2.2.2.2 (jr (⟨cv az.1,az.2.1.xs,az.2.2.1.toNat,az.2.2.2.1⟩:VV) (bu z))).1,zs,(dw (cv d) (az.2.1.xs++zs) az.2.2.2.2 (jr (⟨cv az.1,az.2.1.xs,az.2.2.1.toNat,az.2.2.2.1⟩:VV) (bu z))).2.2)else(ma (⟨cv az.1,az.2.1.xs,az.2.2.1.toNat,az.2.2.2.1⟩:VV) az.2.2.2.2 ((it.xs.map bu).drop (j+1)) (dw (cv d) (az.2.1.xs++zs) az.2.2.2.2 (jr (⟨cv az.1,az.2.1.xs,az.2.2.1.toNat,az.2.2.2.1⟩:VV) (bu z))).1 (zs.set z.id.toNat (dw (cv d) (az.2.1.xs++zs) az.2.2.2.2 (jr (⟨cv az.1,az.2.1.xs,az.2.2.1.toNat,az.2.2.2.1⟩:VV) (bu z))).2.1))):=by
   rw[drop_at ve,ma];rfl
  have dM:(ar [az.2.1,(⟨kd,zs⟩:Sl Int)])=az.2.1.xs++zs:=IB _ _;have hpv:cA (⟨1,z.id,az.2.2.1+1,z.body⟩:dW)=jr (⟨cv az.1,az.2.1.xs,az.2.2.1.toNat,az.2.2.2.1⟩:VV) (bu z):=by simp only[cA,jr,bu,sk]
  have wW:(dw (cv d) (ar [az.2.1,(⟨kd,zs⟩:Sl Int)]) az.2.2.2.2 (cA (⟨1,z.id,az.2.2.1+1,z.body⟩:dW)))=(dw (cv d) (az.2.1.xs++zs) az.2.2.2.2 (jr (⟨cv az.1,az.2.1.xs,az.2.2.1.toNat,az.2.2.2.1⟩:VV) (bu z))):=by rw[dM,hpv]
  have aaR:gV (cv d) (ar [az.2.1,(⟨kd,zs⟩:Sl Int)]):=by rw[dM];exact((show gV (cv az.1) az.2.1.xs from wV.tk).jL iL).append yX
  have aaS:(ar [az.2.1,(⟨kd,zs⟩:Sl Int)]).length<=1000:=by rw[dM,adr];omega
  refine Gc ?_;refine ae (aY rfl rfl j rfl oM) (ae (gq rfl j hz rfl) ?_);have akL:Mb z it:=⟨List.mem_of_getElem? hz⟩;refine bc fun mu=>ct ?_;refine Gb ?_ ?_<;>intro h4
  ·
   have iM:(bu z).2.length=0:=by simp only[bu];omega
   refine an ?_;refine ae (aY rfl rfl z.id.toNat oM oM) (kj (s:=kd) (n:=1) (k:=z.id.toNat) (j:=0) (a:=zi) (a':=0) (xs:=zs) (enc:=bT) (c:=1) (v:= .int .i64 0) oK rfl rfl rfl u6 (by simp[Value.cells,Value.oneCell']) rfl (by decide) (by rfl) (aj ?_));refine Gi ?_;exact bg (x:=(j,d,zs)) (j+1,d,zs.set z.id.toNat 0) ⟨by simp only;omega,by rw[dk,bE,if_pos iM],fN,iL,fun y hy=>(ani hy).elim (yX y) fun hy=> .inl hy,by rw[anb];exact IP⟩ (by simp only;omega) sb (fun w hw=>ag.mem hw)
  have iM: ¬(bu z).2.length=0:=by simp only[bu];omega
  refine Gc ?_;refine gB [18,19] [[],[],[],[],[],[],[],[],[],[],[],[],[],[],[],[],[],[],[],[18],[18,19],[18,19],[18,19],[18,19],[18,19]] [0,1,2,3,4,5,6,7,8,9,10,11,12,13,14,15,16,17,18,19,20,21,22,23,24] [D3 k az.2.1 az.2.2.1 261,al mu (nF z) 269] (fun _ hw=>(IL (ag.mem hw:Mem w0 [al k (aP (⟨⟨d,az.2.1,az.2.2.1,az.2.2.2.1⟩,az.2.2.2.2⟩:aR)) 261,al mu (nF z) 269] _))) oK oK (ak rfl (ba rfl) (ak rfl (aK (o':=0) rfl rfl) (ak rfl (bA rfl) (ak rfl (ba rfl) (ak rfl (fa rfl) (ak rfl (aK (o':=0) rfl rfl) (ak rfl (aK (o':=7) rfl rfl) ?_)))))));refine ak rfl (aaP (a:=az.2.1) (g:=az.2.2.1) (T:=261) rfl inferInstance) ?_;refine ak rfl (Ry.to (v':= .int .u64 ((az.2.2.1+1).toNat:Int)) (zv (p:=az.2.2.1.toNat) (q:=1) rfl rfl rfl rfl (by simp only[nb];omega)) (by rw[sk])) (ak rfl (aK (o':=1) rfl rfl) (ak rfl (bA rfl) (ak rfl (cr (v:= .agg (cG (⟨1,z.id,az.2.2.1+1,z.body⟩:dW))) rfl (aaN z.id (az.2.2.1+1) z.body)) (ak rfl (ba rfl) (ak rfl (fa rfl) (ak rfl (aK (o':=0) rfl rfl) (ak rfl (aK (o':=6) rfl rfl) ?_)))))));refine ak rfl (aaO (a:=az.2.1) (g:=az.2.2.1) (T:=261) rfl inferInstance) ?_;refine ak rfl (ba rfl) ?_;refine cC rfl (K8 (enc:=bX) (vals:=[az.2.1.sv.val,kd.val]) [az.2.1,(⟨kd,zs⟩:Sl Int)] rfl (by simp only[amR,anl,Sv.iC];rfl) rfl (by decide) (by decide) fun b75=>⟨fun _ hw=>(IL (ag.mem hw:Mem w0 [al k (aP (⟨⟨d,az.2.1,az.2.2.1,az.2.2.2.1⟩,az.2.2.2.2⟩:aR)) 261,al mu (nF z) 269] _)),?_⟩);refine cC rfl (nL (hc:=aas (q:=(⟨1,z.id,az.2.2.1+1,z.body⟩:dW)) (l:=(⟨⟨false,b75,0,2,2,none⟩,[az.2.1,(⟨kd,zs⟩:Sl Int)]⟩:Sl (Sl Int)))) rfl ⟨fN,by rw[iL.len];omega,aaR,aaS⟩ fun IQ IS=>⟨fun _ hw=>(IL (ag.mem hw:Mem w0 [al k (aP (⟨⟨IQ,az.2.1,az.2.2.1,az.2.2.2.1⟩,az.2.2.2.2⟩:aR)) 261,al mu (nF z) 269] _)),?_⟩);refine ak rfl (ba rfl) (ak rfl (ax (v:= .int .i64 ((dw (cv d) (ar [az.2.1,(⟨kd,zs⟩:Sl Int)]) az.2.2.2.2 (cA (⟨1,z.id,az.2.2.1+1,z.body⟩:dW))).2.1)) rfl rfl) (ak rfl (ax (v:= .int .i64 ((dw (cv d) (ar [az.2.1,(⟨kd,zs⟩:Sl Int)]) az.2.2.2.2 (cA (⟨1,z.id,az.2.2.1+1,z.body⟩:dW))).2.2)) rfl rfl) (ak rfl (fG rfl) (ak rfl (fG rfl) (an ?_)))));refine Gb ?_ ?_<;>intro h5
  ·
   have nw:(dw (cv d) (az.2.1.xs++zs) az.2.2.2.2 (jr (⟨cv az.1,az.2.1.xs,az.2.2.1.toNat,az.2.2.2.1⟩:VV) (bu z))).2.2≠0:=by rw[←wW];exact h5
   have tN:(tt (⟨⟨cv xc,xa.xs,xg.toNat,xl⟩,xy⟩:WV) (it.xs.map bu))=((dw (cv d) (az.2.1.xs++zs) az.2.2.2.2 (jr (⟨cv az.1,az.2.1.xs,az.2.2.1.toNat,az.2.2.2.1⟩:VV) (bu z))).1,zs,(dw (cv d) (az.2.1.xs++zs) az.2.2.2.2 (jr (⟨cv az.1,az.2.1.xs,az.2.2.1.toNat,az.2.2.2.1⟩:VV) (bu z))).2.2):=by rw[dk,bE,if_neg iM,if_pos nw]
   have hE:(ja (⟨⟨cv xc,xa.xs,xg.toNat,xl⟩,xy⟩:WV) (it.xs.map bu))=((⟨(⟨cv az.1,az.2.1.xs,az.2.2.1.toNat,az.2.2.2.1⟩:VV),az.2.2.2.2⟩:WV).on (dw (cv d) (az.2.1.xs++zs) az.2.2.2.2 (jr (⟨cv az.1,az.2.1.xs,az.2.2.1.toNat,az.2.2.2.1⟩:VV) (bu z))).1,(dw (cv d) (az.2.1.xs++zs) az.2.2.2.2 (jr (⟨cv az.1,az.2.1.xs,az.2.2.1.toNat,az.2.2.2.1⟩:VV) (bu z))).2.2):=by rw[ja,if_neg eE,tN,←Bj];exact if_pos nw
   refine an ?_;refine Gr fun w1 hw=>?_;exact⟨(IQ,az.2.1,az.2.2.1,az.2.2.2.1,az.2.2.2.2),by rw[hE,wW],by rw[hE,IS,wW];rfl,ag.mem hw⟩
  have nw:(dw (cv d) (az.2.1.xs++zs) az.2.2.2.2 (jr (⟨cv az.1,az.2.1.xs,az.2.2.1.toNat,az.2.2.2.1⟩:VV) (bu z))).2.2=0:=by rw[←wW];exact h5
  obtain⟨p1,p2,p3,p4⟩:=NK (fl:=az.2.1.xs++zs) (bt:=az.2.2.2.2) (p:=jr (⟨cv az.1,az.2.1.xs,az.2.2.1.toNat,az.2.2.2.1⟩:VV) (bu z)) fN (by rw[iL.len];omega);have p5:=p4 nw;rw[←wW,←IS]at p1 p2;refine aG ?_;refine ae (aY rfl rfl z.id.toNat oM oM) (kj (s:=kd) (n:=1) (k:=z.id.toNat) (j:=0) (a:=zi) (a':=(dw (cv d) (ar [az.2.1,(⟨kd,zs⟩:Sl Int)]) az.2.2.2.2 (cA (⟨1,z.id,az.2.2.1+1,z.body⟩:dW))).2.1) (xs:=zs) (enc:=bT) (c:=1) (v:= .int .i64 (dw (cv d) (ar [az.2.1,(⟨kd,zs⟩:Sl Int)]) az.2.2.2.2 (cA (⟨1,z.id,az.2.2.1+1,z.body⟩:dW))).2.1) oK rfl rfl rfl u6 (by simp[Value.cells,Value.oneCell']) rfl (by decide) (by rfl) (aj ?_));refine Gi ?_
  exact bg (x:=(j,d,zs)) (j+1,IQ,zs.set z.id.toNat (dw (cv d) (ar [az.2.1,(⟨kd,zs⟩:Sl Int)]) az.2.2.2.2 (cA (⟨1,z.id,az.2.2.1+1,z.body⟩:dW))).2.1) ⟨by simp only;omega,by rw[dk,bE,if_neg iM,if_neg (fun h=>h nw),IS,wW],p1,iL.trans p2,fun y hy=>by
             rw[p2.ab,p2.len];exact(ani hy).elim (yX y) fun hy=>hy▸ .inr (by rw[wW];exact p5),by rw[anb];exact IP⟩ (by simp only;omega) sb (fun w hw=>ag.mem hw)
 obtain rfl:j=it.xs.length:=by omega
 have tN:(tt (⟨⟨cv xc,xa.xs,xg.toNat,xl⟩,xy⟩:WV) (it.xs.map bu))=(cv d,zs,0):=by rw[dk,←hK,aob];rfl
 have hE:(ja (⟨⟨cv xc,xa.xs,xg.toNat,xl⟩,xy⟩:WV) (it.xs.map bu))=ia ((⟨(⟨cv az.1,az.2.1.xs,az.2.2.1.toNat,az.2.2.2.1⟩:VV),az.2.2.2.2⟩:WV).on (cv d)) zs:=by rw[ja,if_neg eE,tN,←Bj];simp only[ne_eq,not_true_eq_false,if_false]
 have IJ:dn ((⟨(⟨cv az.1,az.2.1.xs,az.2.2.1.toNat,az.2.2.2.1⟩:VV),az.2.2.2.2⟩:WV).on (cv d)):=wV.on fN iL;refine aj ?_;refine aW rfl IJ fun D4 aaT=>ao ?_;refine Gr fun w1 hw=>?_;exact⟨(D4.1,D4.2.1,D4.2.2.1,D4.2.2.2,az.2.2.2.2),by rw[hE];rfl,by rw[hE];exact aaT,ag.mem hw⟩
instance akM{w0:World}{L R1 R2 L2:List ah}{i0 i1 i2:Nat}{k:Nat}{xc:Cp}{xa:Sl Int}{xg:UInt64}{xl:Int}{xy:Bool}{it:Sl It}[q0:Has L k (aP (⟨⟨xc,xa,xg,xl⟩,xy⟩:aR)) 261 i0][d0:bW L i0 R1][q1:At R1 (fz xc) i1][d1:bW R1 i1 R2][q2:At R2 (fz xa) i2][d2:bW R2 i2 L2][hit:aU w0 L2 it]:bK Tryz.prog 177 w0 L [.pointer (some ⟨k,0,none⟩),it.sv.val] (Cp×Sl Int×UInt64×Int×Bool) (fun U=> .int .i64 ((ja (⟨⟨cv xc,xa.xs,xg.toNat,xl⟩,xy⟩:WV) (it.xs.map bu)).2)) (fun U=>al k (aP (⟨⟨U.1,U.2.1,U.2.2.1,U.2.2.2.1⟩,U.2.2.2.2⟩:aR)) 261::fz U.1::fz U.2.1::L2) (fun U=>(⟨⟨cv U.1,U.2.1.xs,U.2.2.1.toNat,U.2.2.2.1⟩,U.2.2.2.2⟩:WV)=(ja (⟨⟨cv xc,xa.xs,xg.toNat,xl⟩,xy⟩:WV) (it.xs.map bu)).1) (dn (⟨⟨cv xc,xa.xs,xg.toNat,xl⟩,xy⟩:WV)/\it.xs.length<=1000000/\ ∀x∈it.xs,0<=x.id/\x.id<xa.xs.length/\x.id<64):=⟨fun hp w hw=>aaQ w0 w L2 k xc xa xg xl xy it (tB q0.h d0.h q1.h d1.h q2.h d2.h hw) hp⟩
theorem aaU(w0 w:World)(L:List ah)(k:Nat)(xc:Cp)(xa:Sl Int)(xg:UInt64)(xl:Int)(xy:Bool)(n:Int)(hw:Mem w0 (al k (aP (⟨⟨xc,xa,xg,xl⟩,xy⟩:aR)) 261::fz xc::fz xa::L) w)(aw:dn (⟨⟨cv xc,xa.xs,xg.toNat,xl⟩,xy⟩:WV)/\0<=n/\n<=64):Calls Tryz.prog 166 #[.pointer (some ⟨k,0,none⟩), .int .i64 n] w fun e w'=> ∃U:Cp×Sl Int×UInt64×Int,e= .returned (.int .i64 ((pB (⟨⟨cv xc,xa.xs,xg.toNat,xl⟩,xy⟩:WV) n.toNat).2))/\((⟨⟨cv U.1,U.2.1.xs,U.2.2.1.toNat,U.2.2.2⟩,xy⟩:WV)=(pB (⟨⟨cv xc,xa.xs,xg.toNat,xl⟩,xy⟩:WV) n.toNat).1)/\Mem w0 (al k (aP (⟨⟨U.1,U.2.1,U.2.2.1,U.2.2.2⟩,xy⟩:aR)) 261::fz U.1::fz U.2.1::L) w':=by
 obtain⟨fP,tz,wE⟩:=aw;have hk:bl (cv xc)=true:=fP.ai;have yU:4<=(cv xc).blocks.length:=fP.tm;have hd:=kU hk;have dY:(cv xc).blocks.length=xc.blocks.xs.length:=fT _;refine fI (args:=[_,_]) Tryz.func166 rfl Tryz.ntmps166 rfl hw ?_;change Cw _ _ _ _ _ [(0, .pointer (some ⟨k,0,none⟩)),(1, .int .i64 n)] (al k (aP (⟨⟨xc,xa,xg,xl⟩,xy⟩:aR)) 261::fz xc::fz xa::L);refine dV ?_;refine ae (Ry.to (v':=xc.blocks.sv.val) (bA rfl) rfl) (aj ?_);refine bI (X:=Nat×Cp) (fun U=>[(18, .int .i64 (U.1:Nat)),(0, .pointer (some ⟨k,0,none⟩)),(1, .int .i64 n),(17, .int .i64 (xc.blocks.xs.length:Nat))]) (fun U=>al k (aP (⟨⟨U.2,xa,xg,xl⟩,xy⟩:aR)) 261::fz U.2::fz xa::L) (fun U=>U.1<=(cv xc).blocks.length/\(lD (cv xc).blocks.length 0 (cv xc))=lD ((cv xc).blocks.length -U.1) (U.1:Int) (cv U.2)/\bl (cv U.2)=true/\eO (cv xc) (cv U.2)) (fun U=>(cv xc).blocks.length -U.1) (0,xc) ⟨Nat.zero_le _,rfl,hk, .gy _⟩ sb (fun w hw=>ag.mem hw) ?_;rintro⟨i,d⟩ ⟨bf,aF,bo,cI⟩;dsimp only;simp only at bf aF bo cI;have DX:=cI.len;have hid:(⟨i,d⟩:Nat×Cp)=(i,d):=rfl;refine aj ?_;refine Gb ?_ ?_<;>intro h0
 ·
  have bE:lD ((cv xc).blocks.length -i) (i:Int) (cv d)=(if AF (cv d) i=false then lD ((cv xc).blocks.length -(i+1)) ((i:Int)+1) (cv d)else if eG (cv d) i≠0/\eG (cv d) i≠9 then(jo (cv d) i,eG (cv d) i)else lD ((cv xc).blocks.length -(i+1)) ((i:Int)+1) (jo (cv d) i)):=by
   rw[show(cv xc).blocks.length -i=((cv xc).blocks.length -(i+1))+1 by omega,lD]
  refine aQ ?_;refine ck (br rfl ⟨bo,by omega,by omega⟩) (ao ?_);refine Gb ?_ ?_<;>intro h1
  ·
   refine aj ?_;refine Gi ?_;exact bg (x:=(i,d)) (i+1,d) ⟨by simp only;omega,by rw[aF,bE,if_pos h1];rfl,bo,cI⟩ (by simp only;omega) sb (fun w hw=>ag.mem hw)
  have dJ: ¬AF (cv d) i=false:=by rw[h1];simp
  refine aj ?_;refine aW rfl ⟨bo,by omega,by omega⟩ fun pP sh=>fS ?_;refine Gb ?_ ?_<;>intro h2
  ·
   have hE:(pB (⟨⟨cv xc,xa.xs,xg.toNat,xl⟩,xy⟩:WV) n.toNat)=((⟨⟨cv xc,xa.xs,xg.toNat,xl⟩,xy⟩:WV).on (jo (cv d) i),eG (cv d) i):=by
    have hz:(lD (cv xc).blocks.length 0 (cv xc))=(jo (cv d) i,eG (cv d) i):=by rw[aF,bE,if_neg dJ,if_pos h2]
    rw[pB,if_pos (show(lD (cv xc).blocks.length 0 (cv xc)).2≠0 by rw[hz];exact h2.1),hz]
   refine an ?_;refine Gr fun w1 hw=>?_;exact⟨(pP,xa,xg,xl),by rw[hE],by rw[hE,sh];rfl,ag.mem hw⟩
  have eE:eG (cv d) i≠0->eG (cv d) i≠9->False:=fun ga gb=>by omega
  refine aj ?_;refine Gi ?_;exact bg (x:=(i,d)) (i+1,pP) ⟨by simp only;omega,by rw[aF,bE,if_neg dJ,if_neg (fun h=>eE h.1 h.2),sh];rfl,by rw[sh];exact Hc bo _,by rw[sh];exact cI.trans (He _ _)⟩ (by simp only;omega) sb (fun w hw=>ag.mem hw)
 obtain rfl:i=(cv xc).blocks.length:=by omega
 have hz:(lD (cv xc).blocks.length 0 (cv xc))=(cv d,0):=by rw[aF,anZ];rfl
 refine aj ?_;refine bI (X:=Nat×Cp) (fun U=>[(36, .int .i64 (U.1:Nat)),(0, .pointer (some ⟨k,0,none⟩)),(1, .int .i64 n)]) (fun U=>al k (aP (⟨⟨U.2,xa,xg,xl⟩,xy⟩:aR)) 261::fz U.2::fz xa::L) (fun U=>U.1<=2/\(pB (⟨⟨cv xc,xa.xs,xg.toNat,xl⟩,xy⟩:WV) n.toNat)=uM (2 -U.1) (U.1:Int) ((⟨⟨cv xc,xa.xs,xg.toNat,xl⟩,xy⟩:WV).on (cv U.2)) n.toNat/\bl (cv U.2)=true/\eO (cv xc) (cv U.2)) (fun U=>2 -U.1) (0,d) ⟨Nat.zero_le _,by rw[pB,if_neg (show ¬(lD (cv xc).blocks.length 0 (cv xc)).2≠0 by rw[hz];simp),show(lD (cv xc).blocks.length 0 (cv xc)).1=cv d by rw[hz]];rfl,bo,cI⟩ sb (fun w hw=>ag.mem hw) ?_;rintro⟨j,e⟩ ⟨jc,dk,fN,iL⟩;dsimp only;simp only at jc dk fN iL;have DX:=iL.len;have A2:=Hg (aN (cv e) (1 -(j:Int))).ab;change nS (cv e) (1 -(j:Int))<_ at A2;have dM:fC (cv e) j<281474976710656+2\/ ¬j<2:=by
  by_cases hj9:j<2
  ·
   left;rw[fC];omega
  exact .inr hj9
 refine aj ?_;refine Gb ?_ ?_<;>intro h3
 ·
  have akN:fC (cv e) j<281474976710656+2:=dM.resolve_right (fun h=>h oM);have IT:(UInt64.ofNat (fC (cv e) j)).toNat=fC (cv e) j:=by rw[UInt64.toNat_ofNat'];omega
  refine an ?_;refine nN [4,6,7,2004,2006] [[],[],[],[],[],[4],[],[4,6]] [0,1,2,3,4,5,6,7] [al k (aP (⟨⟨e,xa,xg,xl⟩,xy⟩:aR)) 261,fz e] [(4,nM bT 1 n.toNat (List.replicate n.toNat 0)),(6,km Tryz.prog 314)] oK (fun _ hw=>ag.mem hw) oK oK (ak rfl (ba rfl) (ak rfl (ba rfl) (qi rfl (br rfl ⟨fN,by omega,by omega⟩) (ak rfl (ba rfl) (mL (m:=nM bT 1 n.toNat (List.replicate n.toNat 0)) rfl rfl (Yp (enc:=bT) (c:=1) (n:=n.toNat) 0 rfl rfl rfl oM oM oM oM) (Cert.one (i:=6) rfl rfl rfl ko (Cert.none rfl)) fun je=>?_)))));change Ln _ _ _ _ _ _ _ _ (bZ _ _ (Sv.val ⟨false,je,0,n.toNat,n.toNat,none⟩)) (own bT 1 ⟨false,je,0,n.toNat,n.toNat,none⟩ (List.replicate n.toNat 0)::_) _;refine ak rfl (cr (v:= .agg (dI (⟨UInt64.ofNat (fC (cv e) j),⟨⟨false,je,0,n.toNat,n.toNat,none⟩,(List.replicate n.toNat 0)⟩⟩:cU))) rfl (by rw[show(.int .u64 ((fC (cv e) j:Nat):Int):Value)= .int .u64 ((UInt64.ofNat (fC (cv e) j)).toNat:Int) by rw[IT]];exact PM _ _ _)) (mL (m:=km Tryz.prog 314) rfl rfl ko (Cert.none rfl) fun b8=>?_);change Ln _ _ _ _ _ _ _ _ (bZ _ _ (.pointer (some ⟨b8,0,none⟩))) (al b8 (dI ku) 314::_) _;refine cC rfl (lV rfl rfl ⟨fun _ hw=>ag.mem hw,?_⟩);refine iY ?_;have yV:cZ (⟨UInt64.ofNat (fC (cv e) j),⟨⟨false,je,0,n.toNat,n.toNat,none⟩,(List.replicate n.toNat 0)⟩⟩:cU)=⟨fC (cv e) j,(List.replicate n.toNat 0)⟩:=by simp only[cZ,IT]
  have hrp:nj (cv e) j n.toNat=(df (cZ (⟨UInt64.ofNat (fC (cv e) j),⟨⟨false,je,0,n.toNat,n.toNat,none⟩,(List.replicate n.toNat 0)⟩⟩:cU)) e.size):=by rw[yV];rfl
  have hjj:2 -j=(2 -(j+1))+1:=by omega
  have bE:(uM (2 -j) (j:Int) ((⟨⟨cv xc,xa.xs,xg.toNat,xl⟩,xy⟩:WV).on (cv e)) n.toNat)=(if(nj (cv e) j n.toNat).2≠0\/fU (cv e) j=0 then uM (2 -(j+1)) ((j:Int)+1) ((⟨⟨cv xc,xa.xs,xg.toNat,xl⟩,xy⟩:WV).on (cv e)) n.toNat else if(cm (cv e) j (nj (cv e) j n.toNat).1)=0 then((⟨Ds (dh (cv e) j (nj (cv e) j n.toNat).1) j n.toNat (fC (cv e) j),xy⟩:WV),(0:Int))else if(cm (cv e) j (nj (cv e) j n.toNat).1)≠9 then((⟨⟨cv xc,xa.xs,xg.toNat,xl⟩,xy⟩:WV).on (dh (cv e) j (nj (cv e) j n.toNat).1),(cm (cv e) j (nj (cv e) j n.toNat).1))else uM (2 -(j+1)) ((j:Int)+1) ((⟨⟨cv xc,xa.xs,xg.toNat,xl⟩,xy⟩:WV).on (dh (cv e) j (nj (cv e) j n.toNat).1)) n.toNat):=by
   rw[hjj,uM];rfl
  rw[hrp]at bE;refine gB [7] [[],[],[],[],[],[],[],[],[7],[7],[7],[7],[7]] [0,1,2,3,4,5,6,7,8,9,10,11,12] [al k (aP (⟨⟨e,xa,xg,xl⟩,xy⟩:aR)) 261,fz e,al b8 (dI (⟨UInt64.ofNat (fC (cv e) j),⟨⟨false,je,0,n.toNat,n.toNat,none⟩,(List.replicate n.toNat 0)⟩⟩:cU)) 314] (fun _ hw=>ag.mem hw) oK oK (ak rfl (fu rfl) (ak rfl (ba rfl) (ak rfl (fa rfl) (ak rfl (aK (o':=0) rfl rfl) (ak rfl (aK (o':=0) rfl rfl) (ak rfl (aK (o':=1) rfl rfl) (ak rfl (Ry.to (v':= .int .i64 e.size) (bA rfl) rfl) (cC rfl (nL rfl trivial fun x53 akO=>⟨fun _ hw=>ag.mem hw,?_⟩)))))))));refine ak rfl (ba rfl) (ak rfl (ax (v:=x53.val) rfl rfl) (ak rfl (ax (v:= .int .i64 ((df (cZ (⟨UInt64.ofNat (fC (cv e) j),⟨⟨false,je,0,n.toNat,n.toNat,none⟩,(List.replicate n.toNat 0)⟩⟩:cU)) e.size).2)) rfl rfl) (ak rfl (fG rfl) (ak rfl (fG rfl) (aQ ?_)))));refine aV rfl rfl rfl (fun hg=>br (dB (au hg rfl) (dB (au hg rfl) gk)) ⟨fN,by omega,by omega⟩) (aj ?_);refine Gb ?_ ?_<;>intro h4
  ·
   have iM:(df (cZ (⟨UInt64.ofNat (fC (cv e) j),⟨⟨false,je,0,n.toNat,n.toNat,none⟩,(List.replicate n.toNat 0)⟩⟩:cU)) e.size).2≠0\/fU (cv e) j=0:=h4;refine aj ?_;refine Gi ?_;exact bg (x:=(j,e)) (j+1,e) ⟨by simp only;omega,by rw[dk,bE,if_pos iM];rfl,fN,iL⟩ (by simp only;omega) sb (fun w hw=>ag.mem hw)
  have iM: ¬((df (cZ (⟨UInt64.ofNat (fC (cv e) j),⟨⟨false,je,0,n.toNat,n.toNat,none⟩,(List.replicate n.toNat 0)⟩⟩:cU)) e.size).2≠0\/fU (cv e) j=0):=fun h=>h.elim (fun g=>g h4.1) h4.2;refine an ?_;refine aW rfl ⟨fN,by omega,by omega⟩ fun vf Bm=>aG ?_;refine Gb ?_ ?_<;>intro h5
  ·
   have nw:(cm (cv e) j (df (cZ (⟨UInt64.ofNat (fC (cv e) j),⟨⟨false,je,0,n.toNat,n.toNat,none⟩,(List.replicate n.toNat 0)⟩⟩:cU)) e.size).1)=0:=h5;have hE:(pB (⟨⟨cv xc,xa.xs,xg.toNat,xl⟩,xy⟩:WV) n.toNat)=((⟨Ds (dh (cv e) j (df (cZ (⟨UInt64.ofNat (fC (cv e) j),⟨⟨false,je,0,n.toNat,n.toNat,none⟩,(List.replicate n.toNat 0)⟩⟩:cU)) e.size).1) j n.toNat (fC (cv e) j),xy⟩:WV),0):=by rw[dk,bE,if_neg iM,if_pos nw]
   refine Gi ?_;refine gB [11,15,19,1003,1004,1009,1010,1013,1014,1017,1018] [[],[],[],[],[3],[],[],[],[3,4],[3,4],[3,4,9],[3,4,9,10],[3,4,9,10,11],[3,4,9,10,11],[3,4,9,10,11,13],[3,4,9,10,11,13,14],[3,4,9,10,11,13,14,15],[3,4,9,10,11,13,14,15],[3,4,9,10,11,13,14,15,17],[3,4,9,10,11,13,14,15,17,18]] [0,1,2,3,4,5,6,7,8,9,10,11,12,13,14,15,16,17,18,19] [al b8 (dI (⟨UInt64.ofNat (fC (cv e) j),⟨⟨false,je,0,n.toNat,n.toNat,none⟩,(List.replicate n.toNat 0)⟩⟩:cU)) 314] (fun _ hw=>ag.mem hw) oK oK (ak rfl (ba rfl) (ak rfl (ba rfl) (ak rfl (ba rfl) (fh rfl (aK (o':=1) rfl rfl) (fh rfl (bA rfl) (ak rfl (aK (o':=0) rfl rfl) (ak rfl (bA rfl) (ak rfl (ba rfl) (ak rfl (fa rfl) (fh rfl (aK (o':=0) rfl rfl) (fh rfl (aK (o':=6) rfl rfl) ?_)))))))))));refine cC rfl (rn (cs':=aP (⟨⟨vf,⟨⟨false,je,0,n.toNat,n.toNat,none⟩,(List.replicate n.toNat 0)⟩,xg,xl⟩,xy⟩:aR)) rfl rfl (by show 6<10;decide) (by first|rfl|exact Sv.one _) rfl ⟨fun _ hw=>ag.mem hw,?_⟩);refine ak rfl (fa rfl) (fh rfl (aK (o':=0) rfl rfl) (fh rfl (aK (o':=7) rfl rfl) ?_));refine cC rfl (rn (cs':=aP (⟨⟨vf,⟨⟨false,je,0,n.toNat,n.toNat,none⟩,(List.replicate n.toNat 0)⟩,(UInt64.ofNat (fC (cv e) j)),xl⟩,xy⟩:aR)) rfl rfl (by show 7<10;decide) (by first|rfl|exact Sv.one _) rfl ⟨fun _ hw=>ag.mem hw,?_⟩);refine ak rfl (fa rfl) (fh rfl (aK (o':=0) rfl rfl) (fh rfl (aK (o':=8) rfl rfl) ?_));refine cC rfl (rn (cs':=aP (⟨⟨vf,⟨⟨false,je,0,n.toNat,n.toNat,none⟩,(List.replicate n.toNat 0)⟩,(UInt64.ofNat (fC (cv e) j)),((j:Nat):Int)⟩,xy⟩:aR)) rfl rfl (by show 8<10;decide) (by first|rfl|exact Sv.one _) rfl ⟨fun _ hw=>ag.mem hw,?_⟩);refine aj ?_;refine Gr fun w1 hw=>?_;exact⟨(vf,⟨⟨false,je,0,n.toNat,n.toNat,none⟩,(List.replicate n.toNat 0)⟩,UInt64.ofNat (fC (cv e) j),(j:Int)),by rw[hE],by rw[hE,Bm,Ds];simp only[IT],ag.mem (wc (a:=⟨⟨false,je,0,n.toNat,n.toNat,none⟩,(List.replicate n.toNat 0)⟩) (ag.mem hw:Mem w0 (own bT 1 ⟨false,je,0,n.toNat,n.toNat,none⟩ (List.replicate n.toNat 0)::al k (aP (⟨⟨vf,⟨⟨false,je,0,n.toNat,n.toNat,none⟩,(List.replicate n.toNat 0)⟩,(UInt64.ofNat (fC (cv e) j)),(j:Int)⟩,xy⟩:aR)) 261::fz vf::L) _))⟩
  have nw: ¬(cm (cv e) j (df (cZ (⟨UInt64.ofNat (fC (cv e) j),⟨⟨false,je,0,n.toNat,n.toNat,none⟩,(List.replicate n.toNat 0)⟩⟩:cU)) e.size).1)=0:=h5;refine an ?_;refine Gb ?_ ?_<;>intro h6
  ·
   have hE:(pB (⟨⟨cv xc,xa.xs,xg.toNat,xl⟩,xy⟩:WV) n.toNat)=((⟨⟨cv xc,xa.xs,xg.toNat,xl⟩,xy⟩:WV).on (dh (cv e) j (df (cZ (⟨UInt64.ofNat (fC (cv e) j),⟨⟨false,je,0,n.toNat,n.toNat,none⟩,(List.replicate n.toNat 0)⟩⟩:cU)) e.size).1),(cm (cv e) j (df (cZ (⟨UInt64.ofNat (fC (cv e) j),⟨⟨false,je,0,n.toNat,n.toNat,none⟩,(List.replicate n.toNat 0)⟩⟩:cU)) e.size).1)):=by rw[dk,bE,if_neg iM,if_neg nw,if_pos (show(cm (cv e) j (df (cZ (⟨UInt64.ofNat (fC (cv e) j),⟨⟨false,je,0,n.toNat,n.toNat,none⟩,(List.replicate n.toNat 0)⟩⟩:cU)) e.size).1)≠9 from h6)]
   refine an ?_;refine Gr fun w1 hw=>?_;exact⟨(vf,xa,xg,xl),by rw[hE],by rw[hE,Bm];rfl,ag.mem hw⟩
  refine aj ?_;refine Gi ?_;exact bg (x:=(j,e)) (j+1,vf) ⟨by simp only;omega,by rw[dk,bE,if_neg iM,if_neg nw,if_neg (fun h=>h h6),Bm];rfl,by rw[Bm];exact l6 fN _ _,by rw[Bm];exact iL.trans (ng _ _ _)⟩ (by simp only;omega) sb (fun w hw=>ag.mem hw)
 obtain rfl:j=2:=by omega
 have hE:(pB (⟨⟨cv xc,xa.xs,xg.toNat,xl⟩,xy⟩:WV) n.toNat)=((⟨⟨cv xc,xa.xs,xg.toNat,xl⟩,xy⟩:WV).on (cv e),9):=by rw[dk];rfl
 refine aj ?_;refine Gr fun w1 hw=>?_;exact⟨(e,xa,xg,xl),by rw[hE],by rw[hE];rfl,ag.mem hw⟩
instance akP{w0:World}{L R1 R2 L2:List ah}{i0 i1 i2:Nat}{k:Nat}{xc:Cp}{xa:Sl Int}{xg:UInt64}{xl:Int}{xy:Bool}{n:Int}[q0:Has L k (aP (⟨⟨xc,xa,xg,xl⟩,xy⟩:aR)) 261 i0][d0:bW L i0 R1][q1:At R1 (fz xc) i1][d1:bW R1 i1 R2][q2:At R2 (fz xa) i2][d2:bW R2 i2 L2]:bK Tryz.prog 166 w0 L [.pointer (some ⟨k,0,none⟩), .int .i64 n] (Cp×Sl Int×UInt64×Int) (fun U=> .int .i64 ((pB (⟨⟨cv xc,xa.xs,xg.toNat,xl⟩,xy⟩:WV) n.toNat).2)) (fun U=>al k (aP (⟨⟨U.1,U.2.1,U.2.2.1,U.2.2.2⟩,xy⟩:aR)) 261::fz U.1::fz U.2.1::L2) (fun U=>(⟨⟨cv U.1,U.2.1.xs,U.2.2.1.toNat,U.2.2.2⟩,xy⟩:WV)=(pB (⟨⟨cv xc,xa.xs,xg.toNat,xl⟩,xy⟩:WV) n.toNat).1) (dn (⟨⟨cv xc,xa.xs,xg.toNat,xl⟩,xy⟩:WV)/\0<=n/\n<=64):=⟨fun hp w hw=>aaU w0 w L2 k xc xa xg xl xy n (tB q0.h d0.h q1.h d1.h q2.h d2.h hw) hp⟩
instance akQ{b:Int}{p:Int}:bD Tryz.prog 142 w0 L [.int .i64 b, .int .i64 p] (.int .i64 (wD b p)) (True):=⟨fun aw w hw=>by
 refine cD Tryz.func142 rfl Tryz.ntmps142 rfl ?_;refine Lh ?_;refine Gb ?_ ?_<;>intro h0
 ·
  have hE:wD b p=0:=if_pos oM;refine aj ?_;refine Gr fun w1 hw=>?_;exact Gf (hE.symm) hw
 have hE:wD b p=(b -4)*p:=if_neg oM;have rU:0<=(b -4)*p:=aoM oM oM;have A4:(b -4)*p<=28*16:=aoL oM oM oM oM;refine an ?_;refine ae (jX rfl rfl oM) (ao ?_);refine Gr fun w1 hw=>?_;exact⟨congrArg (fun b=>Ending.returned (Value.int .i64 b)) (hE.symm),ag.mem hw⟩⟩
instance akR{v:ca}{it:Sl It}[hv:aU w0 L v][hit:aU w0 L it]:bD Tryz.prog 174 w0 L [.agg (cj v),it.sv.val] (.bool (rP (vv v) (it.xs.map bu))) (True):=⟨fun aw w hw=>by
 have hv:=hv.h w hw;have hit:=hit.h w hw;have A1:cw w v:=⟨hv⟩;have aaV:cw w it:=⟨hit⟩;have iZ:=hit.1.bd;have D5:=hv.2.1.bd;have hK:(it.xs.map bu).length=it.xs.length:=amF _;refine cD Tryz.func174 rfl Tryz.ntmps174 rfl ?_;refine Gc ?_;refine bJ rfl fun b2=>ao ?_;refine Pa mr oY fun qL=>aQ ?_;refine bI (X:=Nat) (fun U=>[(13, .int .i64 (U:Nat)),(5, .map (some qL)),(2, .pointer (some ⟨b2,0,none⟩)),(11,it.sv.val),(12, .int .i64 (it.xs.length:Nat))]) (fun U=>[omap Tryz.prog 3 mr oY qL (rQ ((it.xs.map bu).map Prod.fst) U),al b2 (cj v) 63]) (fun U=>U<=it.xs.length/\ ∀j,j<U->uQ (vv v) (it.xs.map bu) j=true) (fun U=>it.xs.length -U) 0 ⟨Nat.zero_le _,fun j hj=>by first|omega|(simp only[];omega)⟩ sb (fun w hw=>by
  rw[←W7];exact ag.mem hw) ?_
 rintro i ⟨bf,aF⟩;refine aj ?_;refine Gb ?_ ?_<;>intro h0
 ·
  obtain⟨z,hz⟩:=get_some (xs:=it.xs) (i:=i) oM;have u7:Mb z it:=⟨List.mem_of_getElem? hz⟩;have ve:(it.xs.map bu)[i]? =Option.some (bu z):=by rw[amx,hz];rfl
  have wU:(it.xs.map bu).getD i (0,[])=bu z:=by simp[List.getD,ve]
  have aaW:((it.xs.map bu).map Prod.fst)[i]? =Option.some z.id:=by rw[amx,ve];rfl
  have Ac:(uQ (vv v) (it.xs.map bu) i)=(uP (vv v) (bu z)&& !(((it.xs.map bu).map Prod.fst).take i).contains z.id):=by rw[uQ,wU,List.map_take];rfl
  have cF:(uQ (vv v) (it.xs.map bu) i)=false->rP (vv v) (it.xs.map bu)=false:=fun h=>by
   cases sd:rP (vv v) (it.xs.map bu)with
   |false=>rfl
   |true=>have:=Hu.1 sd i oM;rw[h]at this;cases this
  have iQ:uP (vv v) (bu z)=true↔0<=z.id/\z.id<v.at_.xs.length/\(z.body.xs.length:Int)<=fj v.ai.size:=by
   rw[uP,alM,alM,decide_eq_true_eq,decide_eq_true_eq,decide_eq_true_eq,and_assoc];rfl
  refine Gc ?_;refine ae (aY rfl rfl i rfl oM) (ae (gq rfl i hz rfl) ?_);have aab:Mb z it:=⟨List.mem_of_getElem? hz⟩;refine bc fun b7=>ao ?_;refine gO oK oK (FY ?_);refine ie rfl rfl rfl (fun hg=>(Ry.yl (aK (o':=1) (au hg rfl) rfl))) (Gh ?_);refine ie rfl rfl rfl (fun hg=>br (dB (au hg rfl) gk) trivial) (aj ?_);refine Gb ?_ ?_<;>intro h1
  ·
   have hE:rP (vv v) (it.xs.map bu)=false:=cF (by
    have: ¬uP (vv v) (bu z)=true:=fun h=>by have:=iQ.1 h;omega
    rw[Ac,show uP (vv v) (bu z)=false by simpa using this];rfl)
   refine aj ?_;refine Gr fun w1 hw=>?_;exact Ge (hE.symm) hw
  have lp:uP (vv v) (bu z)=true:=iQ.2 ⟨by omega,by omega,by omega⟩;have vb:=Im (n:=z.id) oM;refine an ?_;refine ae (H6 (cL:=mr) (dA:=oY) (f:=rQ ((it.xs.map bu).map Prod.fst) i) (v:=z.id) (z:=()) rfl rfl vb) (Gs ?_);refine ae (ax (v:= .agg #[]) rfl rfl) (ae (ax (v:= .bool ((rQ ((it.xs.map bu).map Prod.fst) i z.id).isSome)) rfl rfl) (bc fun b8=>aG ?_));refine Gb ?_ ?_<;>intro h2
  ·
   have hE:rP (vv v) (it.xs.map bu)=false:=cF (by
    rw[N4]at h2;rw[Ac,lp,aow,h2];rfl)
   refine aj ?_;refine Gr fun w1 hw=>?_;exact Ge (hE.symm) hw
  have cd:(uQ (vv v) (it.xs.map bu) i)=true:=by
   rw[N4]at h2;rw[Ac,lp,aow,h2];rfl
  have dZ:=W8 aaW;refine an ?_;refine ae (cr (v:= .agg #[]) rfl (fun w=>by kernel_rfl)) (H8 (cL:=mr) (dA:=oY) (v:=z.id) (u:=()) rfl rfl rfl vb (aj ?_));refine Gi ?_;exact bg (x:=(i)) (i+1) ⟨oF,fun j hj=>if e:j=i then e▸cd else aF j oF⟩ oF sb (fun w hw=>by
   rw[←dZ];exact ag.mem hw)
 obtain rfl:i=it.xs.length:=by omega
 have hE:rP (vv v) (it.xs.map bu)=true:=Hu.2 fun j hj=>aF j oM;refine aj ?_;refine Gr fun w1 hw=>?_;exact⟨congrArg (fun b=>Ending.returned (Value.bool b)) (hE.symm),ag.mem hw⟩⟩
theorem PW(v:ca)(w:World):(Instr.build 261 #[(0, .agg (cj v))]).run Tryz.prog w= .ok (.agg (aP ⟨v,false⟩)) w:=by
 obtain⟨⟨a1,a2,⟨a3,a4⟩,a5,a6,⟨a7,a8⟩⟩,⟨s,xs⟩,g,l⟩:=v;unfold cj aP;obtain⟨e,b,o,l,c,p⟩:=s;obtain⟨e3,b3,o3,l3,c3,p3⟩:=a3;obtain⟨e7,b7,o7,l7,c7,p7⟩:=a7
 cases e<;>cases e3<;>cases e7<;>kernel_rfl
theorem Bn(c:Cp)(w:World):(Instr.build 63 #[(0, .agg (aS c))]).run Tryz.prog w= .ok (.agg (cj ⟨c,⟨Sv.none,[]⟩,0,0⟩)) w:=by
 obtain⟨a1,a2,⟨a3,a4⟩,a5,a6,⟨a7,a8⟩⟩:=c;unfold cj aS;obtain⟨e3,b3,o3,l3,c3,p3⟩:=a3;obtain⟨e7,b7,o7,l7,c7,p7⟩:=a7
 cases e3<;>cases e7<;>kernel_rfl
theorem Bp{w0 w:World}{L:List ah}(h:Mem w0 L w):Mem w0 (fz (⟨Sv.none,[]⟩:Sl Int)::L) w:=wc (a:=⟨Sv.none,[]⟩) (Mem.cJ bT 1 h)
theorem PX{w0 w:World}{c:Cp}{a:Sl Int}(h:Mem w0 [fz c,own bT 1 a.sv a.xs] w):Mem w0 [fz c,fz a] w:=ag.mem (wc (ag.mem h:Mem w0 [own bT 1 a.sv a.xs,fz c] w))
instance akS{v:ca}{it:Sl It}[hv:aU w0 L v][hit:aU w0 L it]:bK Tryz.prog 103 w0 L [.agg (cj v),it.sv.val] (Cp×Sl Int×UInt64×Int) (fun U=> .tuple #[.agg (cj (⟨U.1,U.2.1,U.2.2.1,U.2.2.2⟩:ca)), .int .i64 ((gI (vv v) (it.xs.map bu)).2)]) (fun U=>fz U.1::fz U.2.1::L) (fun U=>(⟨cv U.1,U.2.1.xs,U.2.2.1.toNat,U.2.2.2⟩:VV)=(gI (vv v) (it.xs.map bu)).1) (fe v.ai/\v.at_.xs.length<=1000000/\it.xs.length<=1000000):=⟨fun aw w hw=>Gk (fun U:Cp×Sl Int×UInt64×Int=>[fz U.1,fz U.2.1]) hw (by
 have hv:=hv.h w hw;have hit:=hit.h w hw;have A1:cw w v:=⟨hv⟩;have aaV:cw w it:=⟨hit⟩;obtain⟨fY,hM,hK⟩:=aw;refine cD Tryz.func103 rfl Tryz.ntmps103 rfl ?_;refine Gc ?_;refine bJ rfl fun b2=>bc fun b4=>ou ?_;refine aV rfl rfl rfl (fun hg=>(Ry.yl (fu rfl))) (Gg ?_);refine aV rfl rfl rfl (fun hg=>br (dB (au hg rfl) (dB (au hg rfl) gk)) trivial) (aV rfl rfl rfl (fun hg=>(Ry.yl (kg (au hg rfl)))) (ao ?_));refine Gb ?_ ?_<;>intro h0
 ·
  have hE:(gI (vv v) (it.xs.map bu))=(vv v,1):=by
   rw[gI,if_pos];rintro⟨g1,g2,g3⟩;rcases h0 with(h|h)|h
   ·
    rw[g1]at h;cases h
   ·
    change v.gen.toNat<_ at g2;omega
   rw[g3]at h;cases h
  refine ao ?_;refine aW rfl ⟨fY,hM⟩ fun u9 Ie=>aj ?_;refine Gr fun w1 hw=>?_;exact⟨(u9.1,⟨u9.2,v.at_.xs⟩,v.gen,v.last),by rw[hE],by rw[hE,Ie];rfl,PX (ag.mem hw)⟩
 have hq:py (vv v)=true/\(vv v).gen<281474976710655/\rP (vv v) (it.xs.map bu)=true:=⟨h0.1.1,by show v.gen.toNat<_;omega,h0.2⟩;have IU:dn (⟨vv v,false⟩:WV):=Xb hq.1;have IM: ∀x∈it.xs,0<=x.id/\x.id<v.at_.xs.length:=fun x hx=>by
  obtain⟨j,hj⟩:=am9 hx;have ve:(it.xs.map bu)[j]? =Option.some (bu x):=by rw[amx,hj];rfl
  have hg:=Hu.1 hq.2.2 j (by rw[amF];exact(zz.1 hj).1);rw[uQ,show(it.xs.map bu).getD j (0,[])=bu x by simp[List.getD,ve],alM,uP,alM,alM,decide_eq_true_eq,decide_eq_true_eq]at hg;exact⟨hg.1.1.1,hg.1.1.2⟩
 have dY:(cv v.ai).blocks.length=v.ai.blocks.xs.length:=fT _;refine aG ?_;refine Gb ?_ ?_<;>intro h1
 ·
  have hE:(gI (vv v) (it.xs.map bu))=(vv v,7):=by rw[gI,if_neg (fun h=>h hq),if_pos (show(vv v).ai.off=true from h1)]
  refine ao ?_;refine aW rfl ⟨fY,hM⟩ fun yL H9=>aj ?_;refine Gr fun w1 hw=>?_;exact⟨(yL.1,⟨yL.2,v.at_.xs⟩,v.gen,v.last),by rw[hE],by rw[hE,H9];rfl,PX (ag.mem hw)⟩
 have hE:(gI (vv v) (it.xs.map bu))=((pD (v.ai.blocks.xs.length+1) (⟨vv v,false⟩:WV) (it.xs.map bu)).1.v,(pD (v.ai.blocks.xs.length+1) (⟨vv v,false⟩:WV) (it.xs.map bu)).2):=by rw[gI,if_neg (fun h=>h hq),if_neg (show ¬(vv v).ai.off=true by rw[show(vv v).ai.off=v.ai.off from rfl,h1];simp)];rw[show(vv v).ai.blocks.length=v.ai.blocks.xs.length from dY]
 refine ao ?_;refine aW rfl ⟨fY,hM⟩ fun kF tO=>ae (cr (v:= .agg (aP (⟨⟨kF.1,⟨kF.2,v.at_.xs⟩,v.gen,v.last⟩,false⟩:aR))) rfl (PW _)) (bJ rfl fun iA=>ao ?_);refine bI (X:=Nat×Cp×Sl Int×UInt64×Int×Bool) (fun U=>[(6, .pointer (some ⟨iA,0,none⟩)),(1,it.sv.val),(4, .pointer (some ⟨b4,0,none⟩))]) (fun U=>[al iA (aP (⟨⟨U.2.1,U.2.2.1,U.2.2.2.1,U.2.2.2.2.1⟩,U.2.2.2.2.2⟩:aR)) 261,fz U.2.1,fz U.2.2.1,al b4 (cj kv) 63]) (fun U=>(pD (v.ai.blocks.xs.length+1) (⟨vv v,false⟩:WV) (it.xs.map bu))=pD U.1 (⟨⟨cv U.2.1,U.2.2.1.xs,U.2.2.2.1.toNat,U.2.2.2.2.1⟩,U.2.2.2.2.2⟩:WV) (it.xs.map bu)/\dn (⟨⟨cv U.2.1,U.2.2.1.xs,U.2.2.2.1.toNat,U.2.2.2.2.1⟩,U.2.2.2.2.2⟩:WV)/\U.2.2.1.xs.length=v.at_.xs.length/\eO (cv v.ai) (cv U.2.1)/\v.ai.blocks.xs.length<U.1+l8 (cv U.2.1)) (fun U=>U.1) (v.ai.blocks.xs.length+1,kF.1,⟨kF.2,v.at_.xs⟩,v.gen,v.last,false) ⟨by rw[tO];rfl,by rw[tO];exact IU,rfl,by rw[tO];exact .gy _,by simp only;omega⟩ sb (fun w hw=>ag.mem (wc (a:=(⟨kF.2,v.at_.xs⟩:Sl Int)) (ag.mem hw:Mem _ [own bT 1 kF.2 v.at_.xs,al iA (aP (⟨⟨kF.1,⟨kF.2,v.at_.xs⟩,v.gen,v.last⟩,false⟩:aR)) 261,fz kF.1,al b4 (cj kv) 63] _))) ?_;rintro⟨n,c,a,g,q,y⟩ ⟨bf,aF,bo,cI,Bc⟩;dsimp only;simp only at bf aF bo cI Bc;have hbc:=W6 (cv c);have hlc:(cv c).blocks.length=(cv v.ai).blocks.length:=cI.len;have yx:a.xs.length<=64:=aF.tl;have aaX: ∀x∈it.xs,0<=x.id/\x.id<a.xs.length/\x.id<64:=fun x hx=>by have:=IM x hx;omega
 obtain⟨r,rfl⟩: ∃r,n=r+1:=⟨n -1,by omega⟩;refine ct ?_;refine aW rfl ⟨aF,hK,aaX⟩ fun ke tL=>?_;have hb:=W5 (l:=(it.xs.map bu)) aF;rw[←tL]at hb;refine aQ ?_;refine gm rfl rfl rfl (fun hg=>br (dB (au hg rfl) gk) trivial) (an ?_);refine Gb ?_ ?_<;>intro h2
 ·
  have eE:(ja (⟨⟨cv c,a.xs,g.toNat,q⟩,y⟩:WV) (it.xs.map bu)).2=5/\l8 (cv c)<l8 (ja (⟨⟨cv c,a.xs,g.toNat,q⟩,y⟩:WV) (it.xs.map bu)).1.v.ai:=⟨h2.1,by rw[←tL];show l8 (cv c)<l8 (cv ke.1);omega⟩;refine iY ?_;exact bg (x:=(r+1,c,a,g,q,y)) (r,ke.1,ke.2.1,ke.2.2.1,ke.2.2.2.1,ke.2.2.2.2) ⟨by rw[bf,pD,if_pos eE,←tL],hb.ok,hb.yr.trans bo,cI.trans hb.jL,by have:=eE.2;rw[←tL]at this;change l8 (cv c)<l8 (cv ke.1)at this;simp only;omega⟩ (by simp only;omega) sb (fun w hw=>ag.mem hw)
 have eE: ¬((ja (⟨⟨cv c,a.xs,g.toNat,q⟩,y⟩:WV) (it.xs.map bu)).2=5/\l8 (cv c)<l8 (ja (⟨⟨cv c,a.xs,g.toNat,q⟩,y⟩:WV) (it.xs.map bu)).1.v.ai):=by
  rw[←tL];rintro⟨ga,gb⟩;change l8 (cv c)<l8 (cv ke.1)at gb;rcases h2 with h|h
  ·
   exact h ga
  omega
 have PY:(pD (v.ai.blocks.xs.length+1) (⟨vv v,false⟩:WV) (it.xs.map bu))=ja (⟨⟨cv c,a.xs,g.toNat,q⟩,y⟩:WV) (it.xs.map bu):=by rw[bf,pD,if_neg eE]
 refine an ?_;refine ae (Ry.to (v':= .agg (cj (⟨ke.1,ke.2.1,ke.2.2.1,ke.2.2.2.1⟩:ca))) (dy rfl) rfl) (an ?_);refine Gr fun w1 hw=>?_;exact⟨(ke.1,ke.2.1,ke.2.2.1,ke.2.2.2.1),by rw[hE,PY],by rw[hE,PY,←tL],ag.mem hw⟩)⟩
instance akT{c:Cp}{n:Int}[hc:aU w0 L c]:bK Tryz.prog 97 w0 L [.agg (aS c), .int .i64 n] (Cp×Sl Int×UInt64×Int) (fun U=> .tuple #[.agg (cj (⟨U.1,U.2.1,U.2.2.1,U.2.2.2⟩:ca)), .int .i64 ((np (cv c) n).2)]) (fun U=>fz U.1::fz U.2.1::L) (fun U=>(⟨cv U.1,U.2.1.xs,U.2.2.1.toNat,U.2.2.2⟩:VV)=(np (cv c) n).1) (fe c):=⟨fun aw w hw=>Gk (fun U:Cp×Sl Int×UInt64×Int=>[fz U.1,fz U.2.1]) hw (by
 have hc:=hc.h w hw;have jS:cw w c:=⟨hc⟩;have fY:fe c:=aw;refine cD Tryz.func97 rfl Tryz.ntmps97 rfl ?_;refine Gc ?_;refine bJ rfl fun b2=>bc fun b4=>FX ?_;refine aV rfl rfl rfl (fun hg=>br (dB (au hg rfl) gk) trivial) (aj ?_);refine Gb ?_ ?_<;>intro h0
 ·
  have hE:(np (cv c) n)=(⟨cv c,[],0,0⟩,1):=by
   rw[np,if_pos];rintro⟨g1,g2,g3⟩;rcases h0 with(h|h)|h
   ·
    rw[g1]at h;cases h
   ·
    omega
   change _<=lB c.size at g3;omega
  refine ao ?_;refine aW rfl (by assumption) fun k8 AV=>ae (cr (v:= .agg (cj (⟨k8,⟨Sv.none,[]⟩,0,0⟩:ca))) rfl (Bn k8)) (aj ?_);refine Gr fun w1 hw=>?_;exact⟨(k8,⟨Sv.none,[]⟩,0,0),by rw[hE],by rw[hE,AV];rfl,ag.mem (Bp (ag.mem hw:Mem w [fz k8] _))⟩
 have hq:rG (cv c)=true/\1<=n/\n<=lB (cv c).size:=⟨h0.1.1,by omega,by show n<=lB c.size;omega⟩;obtain⟨e1,e2,e3,e4⟩:=Ay.1 hq.1;have Ab:=WS (cv c).size;have IU:dn (⟨⟨cv c,[],0,0⟩,false⟩:WV):=⟨e1,e2,e3,e4, .inl rfl,(by show(0:Nat)<_;omega),(fun n hn=>by cases hn),(by show(0:Nat)<=64;omega)⟩;refine an ?_;refine Gb ?_ ?_<;>intro h1
 ·
  have hE:(np (cv c) n)=(⟨cv c,[],0,0⟩,7):=by rw[np,if_neg (fun h=>h hq),if_pos (show(cv c).off=true from h1)]
  refine ao ?_;refine aW rfl (by assumption) fun cQ lf=>ae (cr (v:= .agg (cj (⟨cQ,⟨Sv.none,[]⟩,0,0⟩:ca))) rfl (Bn cQ)) (aj ?_);refine Gr fun w1 hw=>?_;exact⟨(cQ,⟨Sv.none,[]⟩,0,0),by rw[hE],by rw[hE,lf];rfl,ag.mem (Bp (ag.mem hw:Mem w [fz cQ] _))⟩
 have Cx:(np (cv c) n)=(if(mb (cv c) n).2≠0 then(⟨(mb (cv c) n).1.v.ai,[],0,0⟩,(mb (cv c) n).2)else((mb (cv c) n).1.v,0)):=by rw[np,if_neg (fun h=>h hq),if_neg (show ¬(cv c).off=true by rw[show(cv c).off=c.off from rfl,h1];simp)]
 refine ao ?_;refine aW rfl (by assumption) fun kF tO=>ae (cr (v:= .agg (cj (⟨kF,⟨Sv.none,[]⟩,0,0⟩:ca))) rfl (Bn kF)) (ae (cr (v:= .agg (aP (⟨(⟨kF,⟨Sv.none,[]⟩,0,0⟩:ca),false⟩:aR))) rfl (PW _)) (bJ rfl fun Bq=>Gs ?_));refine vY ?_;refine q7 [al Bq (aP (⟨⟨kF,⟨Sv.none,[]⟩,0,0⟩,false⟩:aR)) 261,fz kF,fz (⟨Sv.none,[]⟩:Sl Int),al b4 (cj kv) 63] (fun w hw=>ag.mem (Bp (ag.mem hw:Mem _ [al Bq (aP (⟨⟨kF,⟨Sv.none,[]⟩,0,0⟩,false⟩:aR)) 261,fz kF,al b4 (cj kv) 63] _))) (Gi ?_);refine ao ?_;refine aW rfl ⟨by rw[tO];exact IU,by omega,by omega⟩ fun kC ON=>?_;have yx:(⟨⟨cv kC.1,kC.2.1.xs,kC.2.2.1.toNat,kC.2.2.2⟩,false⟩:WV)=(mb (cv c) n).1:=by rw[ON,mb,←tO];rfl
 refine aG ?_;refine Gb ?_ ?_<;>intro h2
 ·
  have hE:(np (cv c) n)=(⟨(mb (cv c) n).1.v.ai,[],0,0⟩,(mb (cv c) n).2):=by rw[Cx,if_pos (by rw[mb,←tO];exact h2)]
  refine aG ?_;refine ae (Ry.to (v':= .agg (aS kC.1)) (dy rfl) rfl) (ae (cr (v:= .agg (cj (⟨kC.1,⟨Sv.none,[]⟩,0,0⟩:ca))) rfl (Bn kC.1)) (an ?_));refine Gr fun w1 hw=>?_;exact⟨(kC.1,⟨Sv.none,[]⟩,0,0),by rw[hE,mb,←tO];rfl,by rw[hE,←yx];rfl,ag.mem (Bp (ag.mem hw:Mem w [fz kC.1] _))⟩
 have hE:(np (cv c) n)=((mb (cv c) n).1.v,0):=by rw[Cx,if_neg (by rw[mb,←tO];exact fun h=>h h2)]
 refine an ?_;refine ae (Ry.to (v':= .agg (cj (⟨kC.1,kC.2.1,kC.2.2.1,kC.2.2.2⟩:ca))) (dy rfl) rfl) (aj ?_);refine Gr fun w1 hw=>?_;exact⟨(kC.1,kC.2.1,kC.2.2.1,kC.2.2.2),by rw[hE],by rw[hE,←yx],ag.mem hw⟩)⟩
instance (i:Int)(s:Sv):pX Tryz.prog 269 [(0, .int .i64 i),(1,s.val)] (.agg #[.int .i64 i,s.val]):=⟨fun w=>by
 obtain⟨n,b,o,l,c⟩:=s
 cases n<;>kernel_rfl⟩
instance akU{s:Sl (Sl UInt8)}{i:Nat}[hs:aU w0 L s]:bD Tryz.prog 171 w0 L [s.sv.val, .int .i64 (i:Nat)] (((q8 s i).sv).val) (True):=⟨fun aw w hw=>by
 have hs:=hs.h w hw;have wG:cw w s:=⟨hs⟩;refine cD Tryz.func171 rfl Tryz.ntmps171 rfl ?_;refine dV ?_;refine Gb ?_ ?_<;>intro h0
 ·
  refine aj ?_;refine Gr fun w1 hw=>?_;exact⟨by rw[Ca oM];rfl,ag.mem hw⟩
 refine aj ?_;obtain⟨u,hu⟩:=get_some (xs:=s.xs) (i:=i) oM;refine ae (aY rfl rfl i rfl oM) (ae (bB (j:=0) rfl i hu rfl (by decide)) ?_);have akV:Mb u _:=⟨List.mem_of_getElem? hu⟩;refine ao ?_;refine Gr fun w1 hw=>?_;exact⟨by rw[B9 hu],ag.mem hw⟩⟩
instance akW{x:Sv}{xs:List UInt8}{y:Sv}{ys:List UInt8}[hx:cS w0 L aL 1 x xs][hy:cS w0 L aL 1 y ys]:bD Tryz.prog 172 w0 L [x.val,y.val] (.bool (decide (xs=ys))) (True):=⟨fun aw w hw=>by
 have hx:=hx.h w hw;have hy:=hy.h w hw;have va:Gv w x aL 1 xs:=⟨hx⟩;have Ir:Gv w y aL 1 ys:=⟨hy⟩;refine cD Tryz.func172 rfl Tryz.ntmps172 rfl ?_;refine an ?_;refine ae (EX Tryz.underlying53 Tryz.underlying5 Tryz.underlying9 rfl) (Gs ?_);refine ae (EX Tryz.underlying53 Tryz.underlying5 Tryz.underlying9 rfl) (ae (nC rfl rfl) (ao ?_));refine Gr fun w1 hw=>?_;exact⟨congrArg (fun b=>Ending.returned (Value.bool b)) (rfl),ag.mem hw⟩⟩
instance akX{x:Sv}{xs:List UInt8}[hx:cS w0 L aL 1 x xs]:bK Tryz.prog 110 w0 L [x.val] (Sv) (fun U=>U.val) (fun U=>own aL 1 U xs::L) (fun U=>True) (xs.length<=140737488355328):=⟨fun aw w hw=>Gk (fun U=>[own aL 1 U xs]) hw (by
 have hx:=hx.h w hw;have va:Gv w x aL 1 xs:=⟨hx⟩;refine bQ Tryz.func110 rfl Tryz.ntmps110 rfl ?_;refine an ?_;refine ae (sL Tryz.underlying53 rfl) (Gc ?_);refine Gb ?_ ?_<;>intro h0
 ·
  have e0:xs=[]:=amB.1 (by have:=hx.ok.nil h0;have:=hx.len;omega);refine aj ?_;refine Gr fun w1 hw=>?_;exact⟨Sv.none,rfl,trivial,by rw[e0];exact(ag.mem hw:Mem w [] _).cJ aL 1⟩
 refine Gc ?_;refine uj aL fun b5=>Gs ?_;refine jY (s:=⟨false,b5,0,0,0,none⟩) (ys:=xs) rfl rfl (by decide) (fun w hw=>gP (s:=x) Tryz.underlying53 (by decide) ((inferInstance:Hd _ _ x aL 1 xs).h w hw)) (by simp only[adr,ad2,af0];omega) (by simp only[adr,ad2,af0];omega) fun s7 wH uU=>?_;refine ao ?_;refine Gr fun w1 hw=>?_;exact⟨s7,rfl,trivial,by simpa using hw⟩)⟩
instance akY{a:Sl (Sl UInt8)}{b:Sl (Sl UInt8)}[ha:aU w0 L a][hb:aU w0 L b]:bK Tryz.prog 102 w0 L [a.sv.val,b.sv.val] (Sl It) (fun U=>U.sv.val) (fun U=>Deep.cg U::L) (fun U=>xB U=kz (lx a) (lx b)) (a.xs.length<=1000000/\b.xs.length<=1000000/\ ∀x∈b.xs,x.xs.length<=140737488355328):=⟨fun aw w hw=>Gk (fun U=>[Deep.cg U]) hw (by
 have ha:=ha.h w hw;have hb:=hb.h w hw;have Ic:cw w a:=⟨ha⟩;have wR:cw w b:=⟨hb⟩;obtain⟨eQ,tw,Hp⟩:=aw;refine cD Tryz.func102 rfl Tryz.ntmps102 rfl ?_;refine fS ?_;refine ae (vw rfl rfl) (ao ?_);refine bI (X:=Nat×Sl It) (fun U=>[(13, .int .i64 (U.1:Nat)),(5,U.2.sv.val),(0,a.sv.val),(1,b.sv.val),(12, .int .i64 (max (a.xs.length:Int) (b.xs.length:Int)))]) (fun U=>[Deep.cg U.2]) (fun U=>U.1<=max a.xs.length b.xs.length/\xB U.2=rR (lx a) (lx b) U.1) (fun U=>max a.xs.length b.xs.length -U.1) (0,⟨Sv.none,[]⟩) ⟨oF,rfl⟩ sb (fun w hw=>Mem.B8 (enc:=nF) (c:=2) hw) ?_;rintro⟨i,l⟩ ⟨bf,aF⟩;dsimp only;refine aj ?_;refine Gb ?_ ?_<;>intro h0
 ·
  refine FY ?_;refine Gb ?_ ?_<;>intro h1
  ·
   refine Gi ?_;refine aj ?_;refine aW rfl (by rcases amv i b.xs.length with h|h;exact Hp _ (by rw[B9 (amG h)];exact aoN h);rw[Ca h];exact amK _) fun cQ lf=>?_
   refine ae (cX rfl) ?_;refine kO (enc:=nF) (vals:=[_]) [(⟨((i:Nat):Int),⟨cQ,((q8 b i).xs)⟩⟩:It)] rfl rfl rfl (by decide) (by decide) fun eJ=>?_;refine R0 (s:=⟨false,eJ,0,1,1,none⟩) l [(⟨((i:Nat):Int),⟨cQ,((q8 b i).xs)⟩⟩:It)] rfl rfl (by decide) (by have:=congrArg List.length aF;have h9:=Hz (lx a) (lx b) i;simp only[xB,amF]at this;simp only[ad2,af0];omega) (by have:=congrArg List.length aF;have h9:=Hz (lx a) (lx b) i;simp only[xB,amF]at this;simp only[ad2,af0];omega) fun kF aaY=>an ?_;refine Gi ?_;exact bg (x:=(i,l)) (i+1,kF) ⟨oF,by rw[xB,aaY,am0,Xl (by rw[←zN,←zN];exact h1),←aF,←zN];rfl⟩ (by simp only;omega) sb (fun w hw=>ag.mem hw)
  refine aj ?_;refine Gi ?_;exact bg (x:=(i,l)) (i+1,l) ⟨oF,by rw[Xk (by rw[←zN,←zN];exact h1)];exact aF⟩ (by simp only;omega) sb (fun w hw=>ag.mem hw)
 refine an ?_;refine Gr fun w1 hw=>?_;exact⟨l,rfl,(by rw[aF,kz,vE,vE,show i=max a.xs.length b.xs.length by omega]),ag.mem hw⟩)⟩
instance akZ{b:Sv}{bs:List UInt8}[hb:cS w0 L aL 1 b bs]:bD Tryz.prog 228 w0 L [b.val] (.tuple #[.agg (av (rdv bs)), .bool (qu bs)]) (bs.length=20):=⟨fun aw w hw=>by
 have hb:=hb.h w hw;have wR:Gv w b aL 1 bs:=⟨hb⟩;have eg: ∀(i:Nat) e,bs[i]? =some e->bs.getD i 0=e:=fun i e h=>by simp[List.getD,h]
 obtain⟨e6,PZ⟩:=get_some (xs:=bs) (i:=0) oM;have Br:=eg 0 e6 PZ;refine bQ Tryz.func228 rfl Tryz.ntmps228 rfl ?_;refine Gc ?_;refine bc fun b2=>ao ?_;refine bc fun b4=>fb ?_;refine mB (X:=Unit) (fun U=>[(0,b.val),(2, .pointer (some ⟨b2,0,none⟩)),(4, .pointer (some ⟨b4,0,none⟩))]) (fun U=>[al b4 ((av bp).setIfInBounds 0 (.int .i64 (if e6=1 then 128 else 32))) 34,al b2 (av bp) 34]) (fun U=>e6<=1) ?_ ?_
 ·
  refine ao ?_;refine ae (aY rfl rfl 0 rfl oM) (ae (bB (j:=0) rfl 0 PZ rfl (by decide)) (an ?_));refine Gb ?_ ?_<;>intro h0
  ·
   obtain rfl:e6=0:=an5.1 (by simp;omega);refine Gi ?_;refine ao ?_;refine cR rfl rfl (by simp[fw]) rfl rfl (fb ?_);exact eD () (by decide) sb (fun w hw=>hw)
  refine an ?_;refine Gb ?_ ?_<;>intro h1
  ·
   obtain rfl:e6=1:=an5.1 (by simp;omega);refine Gi ?_;refine ao ?_;refine cR rfl rfl (by simp[fw]) rfl rfl (fb ?_);exact eD () (by decide) sb (fun w hw=>hw)
  have P0: ¬e6<=1:=fun h=>by rw[UInt8.le_iff_toNat_le]at h;simp at h;omega
  refine Gc ?_;refine ae (cX rfl) (aj ?_);refine Gr fun w1 hw=>?_;exact⟨by rw[show qu bs=false from by rw[qu,Br];exact decide_eq_false P0,show rdv bs=bp from if_neg (by rw[qu,Br];simpa using P0)],ag.mem hw⟩
 rintro⟨⟩ hJ;refine ao ?_;obtain⟨e18,P1⟩:=get_some (xs:=bs) (i:=1) oM;refine ae (aY rfl rfl 1 rfl oM) (ae (bB (j:=0) rfl 1 P1 rfl (by decide)) ?_);have eg1:=eg 1 e18 P1;refine ae (sK rfl) (ao ?_);refine cR rfl rfl (by simp[fw]) rfl rfl (Gc ?_);refine gB [5] [[],[],[],[],[],[]] [0,1,2,3,4,5] [] (fun _ hw=>ag.mem hw) oK oK (ak rfl (aK (o':=0) rfl rfl) (ak rfl (aK (o':=2) rfl rfl) (ak rfl (vu rfl) (ak rfl (ba rfl) ?_))));have DM:Rg 2 18 bs.length:=⟨by omega⟩;refine ak rfl (zJ rfl rfl rfl 2 18 rfl rfl DM.h.1 DM.h.2) ?_;refine cC rfl (TT (ys:=(bs.drop 2).take 16) rfl rfl (by simp;omega) (by simp;omega) (by simp[fw];omega) rfl ⟨fun _ hw=>ag.mem hw,?_⟩);refine Gc ?_;refine gB [11] [[],[],[],[],[],[],[],[],[],[],[],[]] [0,1,2,3,4,5,6,7,8,9,10,11] [] (fun _ hw=>ag.mem hw) oK oK (ak rfl (ba rfl) ?_);obtain⟨e30,P2⟩:=get_some (xs:=bs) (i:=18) oM;refine ak rfl (aY rfl rfl 18 rfl oM) (ak rfl (bB (j:=0) rfl 18 P2 rfl (by decide)) ?_);have aaZ:=eg 18 e30 P2;refine ak rfl (sK rfl) (ak rfl (JZ rfl rfl) (ak rfl (ba rfl) ?_));obtain⟨e35,P3⟩:=get_some (xs:=bs) (i:=19) oM;refine ak rfl (aY rfl rfl 19 rfl oM) (ak rfl (bB (j:=0) rfl 19 P3 rfl (by decide)) ?_);have aa0:=eg 19 e35 P3;refine ak rfl (sK rfl) (ak rfl (J0 rfl rfl) (ak rfl (aK (o':=18) rfl rfl) ?_));refine cC rfl (rn rfl rfl (by rw[mE (by rw[am2,gp];simp[fw];omega)];simp[fw]) rfl rfl ⟨fun _ hw=>ag.mem hw,?_⟩);refine iY ?_;refine q7 [al b4 (av (oP bs)) 34,al b2 (av bp) 34] (fun w hw=>?_) ?_
 ·
  rw[←Xo (b:=bs) aw (if e6=1 then 128 else 32) (by rw[Br]),eg1,aaZ,aa0];exact hw
 refine Gi ?_;refine an ?_;refine Gr fun w1 hw=>?_;exact⟨by rw[show rdv bs=oP bs from if_pos (by rw[qu,Br];exact decide_eq_true hJ),show qu bs=true from by rw[qu,Br];exact decide_eq_true hJ],ag.mem hw⟩⟩
instance ak0{s:Sv}{xs:List UInt8}{r:Rt}{i:Nat}{L':Sv->List ah}[q:eS L s aL 1 xs i][u: ∀s',eK L i (own aL 1 s' (xs++gU r)) (L' s')]:bK Tryz.prog 170 w0 L [s.val, .agg (av r)] Sv (fun s=>s.val) L' (fun _=>True) (xs.length<=1000000):=⟨fun hp w hw=>
 (X9 w0 w (L.eraseIdx i) s xs r (hw.perm (mH q.h)) hp).mono fun e w' ⟨s',h1,h2,h3,h4⟩=>⟨s',h1,trivial,by
  rw[←(u s').h];exact h4.perm (set_perm _ L i (At.lt q.h))⟩⟩
instance aa1{a:Sl (Sl UInt8)}[ha:aU w0 L a]:bK Tryz.prog 182 w0 L [a.sv.val] (Sv) (fun U=> .tuple #[U.val, .int .i64 (oQ (lx a))]) (fun U=>own av 19 U (me (lx a))::L) (fun U=>True) (a.xs.length<=1000/\ ∀x∈a.xs,x.xs.length<=100000):=⟨fun aw w hw=>Gk (fun U=>[own av 19 U (me (lx a))]) hw (by
 have ha:=ha.h w hw;have Ic:cw w a:=⟨ha⟩;obtain⟨eQ,tw⟩:=aw;have hl:=vE a;refine bQ Tryz.func182 rfl Tryz.ntmps182 rfl ?_;refine nO ?_;refine bI (X:=Nat×Sv×List Rt) (fun U=>[(11, .int .i64 (U.1:Nat)),(4,U.2.1.val),(9,a.sv.val),(10, .int .i64 (a.xs.length:Nat))]) (fun U=>[own av 19 U.2.1 U.2.2]) (fun U=>U.1<=a.xs.length/\iz ((lx a).take U.1)=some U.2.2/\U.2.2.length<=U.1*100000) (fun U=>a.xs.length -U.1) (0,Sv.none,[]) ⟨oF,rfl,by simp⟩ sb (fun w hw=>Mem.cJ av 19 hw) ?_;rintro⟨i,t,q⟩ ⟨bf,aF,bo⟩;dsimp only;simp only at bf aF bo;refine aj ?_;refine Gb ?_ ?_<;>intro h0
 ·
  refine kp ?_;obtain⟨x,hx⟩:=get_some (xs:=a.xs) (i:=i) oM;refine ae (aY rfl rfl i rfl oM) (ae (bB (j:=0) rfl i hx rfl (by decide)) ?_);have Pm:Mb x _:=⟨List.mem_of_getElem? hx⟩;have ex:(lx a)[i]? =some x.xs:=by simp[lx,hx]
  have DL:Mb x _:=⟨List.mem_of_getElem? hx⟩;refine an ?_;refine ae (EV (p:=x.xs.length) (q:=20) rfl rfl rfl rfl oM) (ao ?_);refine Gb ?_ ?_<;>intro h1
  ·
   have gN:iz (lx a)=none:=N9 (i:=i+1) (by rw[Hy ex,aF,N8 _ x.xs (amz _) oM];rfl);refine an ?_;refine Gr fun w1 hw=>?_;exact⟨Sv.none,by rw[(Dv gN).2];rfl,trivial,by rw[(Dv gN).1];exact(ag.mem hw:Mem w [] _).cJ av 19⟩
  refine Gc ?_;refine bI (X:=Sv×List UInt8×Sv×List Rt) (fun U=>[(6,U.1.val),(4,U.2.2.1.val),(9,a.sv.val),(10, .int .i64 (a.xs.length:Nat)),(11, .int .i64 (i:Nat))]) (fun U=>[own av 19 U.2.2.1 U.2.2.2]) (fun U=> ∃pre,U.2.2.2=q++pre/\lE x.xs=(lE U.2.1).map (pre++ ·)/\dL aL 1 (hp w) U.1 U.2.1/\U.2.1.length%20=0/\U.2.2.2.length+U.2.1.length<=(i+1)*100000) (fun U=>U.2.1.length) (x.sv,x.xs,t,q) ⟨[],by simp,by cases lE x.xs<;>rfl,(ha.2 x (List.mem_of_getElem? hx)).1,oF,by have:=tw x (List.mem_of_getElem? hx);simp only;omega⟩ sb (fun w hw=>ag.mem hw) ?_;rintro⟨cu,cs,t2,q2⟩ ⟨pre,jc,dk,fN,iL,yX⟩;dsimp only;simp only at jc dk fN iL yX;have gcu:Gv w cu aL 1 cs:=⟨fN⟩;refine aG ?_;refine Gb ?_ ?_<;>intro h2
  ·
   have aa2:20<=cs.length:=by omega
   have IV:(cs.drop 0).take (20 -0)=cs.take 20:=by simp
   have ec:=N7 aa2;rw[Xm]at ec;refine ao ?_;have aa3:Rg 0 20 cs.length:=⟨by omega⟩;refine ae (J2 rfl rfl 20 rfl aa3.h.2) (ck (br rfl (by simp;omega)) (Gs ?_));refine ae (ax (v:= .agg (av (rdv ((cs.drop 0).take (20 -0))))) rfl rfl) (ae (ax (v:= .bool (qu ((cs.drop 0).take (20 -0)))) rfl rfl) (bc fun b7=>aQ ?_));refine Gb ?_ ?_<;>intro h3
   ·
    rw[IV]at h3;have gN:iz (lx a)=none:=N9 (i:=i+1) (by rw[Hy ex,aF,dk,ec,h3];rfl);refine an ?_;refine Gr fun w1 hw=>?_;exact⟨Sv.none,by rw[(Dv gN).2];rfl,trivial,by rw[(Dv gN).1];exact(ag.mem hw:Mem w [] _).cJ av 19⟩
   rw[IV]at h3;rw[h3]at ec;simp only[if_true,Option.bind_some]at ec;have ev0:rdv ((cs.drop 0).take (20 -0))=oP (cs.take 20):=by rw[IV,rdv,if_pos h3]
   refine aj ?_;refine kO (enc:=av) (vals:=[_]) [(rdv ((cs.drop 0).take (20 -0)))] rfl rfl rfl (by decide) (by decide) fun Bq=>?_;refine jY (s:=t2) (ys:=[(rdv ((cs.drop 0).take (20 -0)))]) rfl rfl (by decide) (fun w hw=>gP (s:=⟨false,Bq,0,1,1,none⟩) Tryz.underlying22 (by decide) ((inferInstance:Hd _ _ ⟨false,Bq,0,1,1,none⟩ av 19 [(rdv ((cs.drop 0).take (20 -0)))]).h w hw)) (by simp only[ad2,af0];omega) (by simp only[ad2,af0];omega) fun s35 ak1 ak2=>?_;refine aj ?_;have IW:Rg 20 cs.length cs.length:=⟨by omega⟩;refine ae (zK rfl rfl 20 rfl IW.h.1) (Gs ?_);refine Gi ?_;exact bg (x:=(cu,cs,t2,q2)) (_,cs.drop 20,s35,q2++[oP (cs.take 20)]) ⟨pre++[oP (cs.take 20)],by simp[jc],by rw[dk,ec];cases lE (cs.drop 20)<;>simp,by have:=fN.sub (lo:=20) (hi:=cs.length) oF (amz _);rwa [amr (by rw[amu];omega)]at this,by simp only[amu];omega,by simp only[adr,amu,ad2,af0];omega⟩ (by simp only[amu];omega) sb (fun w hw=>by rw[ev0]at hw;exact ag.mem hw)
  refine aj ?_;refine Gi ?_;exact bg (x:=(i,t,q)) (i+1,t2,q2) ⟨oF,by rw[Hy ex,aF,Option.bind_some,dk,show cs=[]from amB.1 oF,Xj];simp[jc],by simp only;omega⟩ (by simp only;omega) sb (fun w hw=>ag.mem hw)
 refine T9 ?_;have hM:iz (lx a)=some q:=by rw[←aF,amr oM]
 refine Gi ?_;refine an ?_;refine Gb ?_ ?_<;>intro h4
 ·
  refine an ?_;refine Gr fun w1 hw=>?_;exact⟨Sv.none,by rw[(Oa hM h4).2];rfl,trivial,by rw[(Oa hM h4).1];exact(ag.mem hw:Mem w [] _).cJ av 19⟩
 refine aG ?_;refine Gr fun w1 hw=>?_;exact⟨t,by rw[(Ob hM h4).2],trivial,by rw[(Ob hM h4).1];exact hw⟩)⟩
instance ak3{t:Sv}{ts:List Rt}{ids:Int}{room:Int}[ht:cS w0 L av 19 t ts]:bK Tryz.prog 101 w0 L [t.val, .int .i64 ids, .int .i64 room] (Sl (Sl UInt8)) (fun U=> .tuple #[U.sv.val, .int .i64 (jt ts ids room)]) (fun U=>Deep.cg U::L) (fun U=>lx U=kX ts ids room) (True):=⟨fun aw w hw=>Gk (fun U=>[Deep.cg U]) hw (by
 have ht:=ht.h w hw;have DB:Gv w t av 19 ts:=⟨ht⟩;refine rr Tryz.func101 rfl Tryz.ntmps101 rfl ?_;refine FX ?_;refine aV rfl rfl rfl (fun hg=>br (dB (au hg rfl) gk) trivial) (aV rfl rfl rfl (fun hg=>(Ry.yl (kg (au hg rfl)))) (ao ?_));refine Gb ?_ ?_<;>intro h0
 ·
  refine an ?_;refine Gr fun w1 hw=>?_;exact⟨⟨Sv.none,[]⟩,by rw[(Oc h0).1];rfl,(Oc h0).2.symm,Mem.B8 (enc:=bX) (c:=1) (ag.mem hw)⟩
 obtain⟨D6,IX⟩:=h0;have hm:=Hw D6;obtain⟨k,hk⟩: ∃k:Nat,ids=k:=⟨ids.toNat,by omega⟩;obtain⟨n,hn⟩: ∃n:Nat,room/20=n:=⟨(room/20).toNat,by omega⟩;have pN:ids*(room/20)=((k*n:Nat):Int):=by rw[hk,hn,Int.natCast_mul]
 have ek:ids.toNat=k:=by omega
 have en:(room/20).toNat=n:=by omega
 refine aQ ?_;refine Gb ?_ ?_<;>intro h1
 ·
  refine an ?_;refine Gr fun w1 hw=>?_;exact⟨⟨Sv.none,[]⟩,by rw[(Od D6 IX h1).1];rfl,(Od D6 IX h1).2.symm,Mem.B8 (enc:=bX) (c:=1) (ag.mem hw)⟩
 have hE:=Oe D6 IX h1;rw[ek,en]at hE;have yK:ts.length<=k*n:=by omega
 have hl:=ht.bd;refine ao ?_;refine R5 (τ:=UInt8) (n:=k) (cap:=k) rfl rfl oM oM oM oM oM fun cQ aa4=>aQ ?_;refine bI (X:=Nat×Sl (Sl UInt8)) (fun U=>[(31, .int .i64 (U.1:Nat)),(9,U.2.sv.val),(2, .int .i64 room),(29,t.val),(30, .int .i64 (ts.length:Nat))]) (fun U=>[Deep.cg U.2]) (fun U=>U.1<=ts.length/\lx U.2=oO (ts.take U.1) k n) (fun U=>ts.length -U.1) (0,cQ) ⟨oF,by rw[Xi];show List.map _ _=_;rw[aa4];simp⟩ sb (fun w hw=>ag.mem hw) ?_;rintro⟨i,a⟩ ⟨bf,aF⟩;dsimp only;simp only at bf aF;refine aj ?_;refine Gb ?_ ?_<;>intro h2
 ·
  refine ao ?_;obtain⟨wX,IY⟩:=get_some (xs:=ts) (i:=i) oM;refine ae (aY rfl rfl i rfl oM) (ae (gq rfl i IY rfl) (bc fun mu=>aG ?_));refine ae (kL rfl rfl oM oM) (ae (kL rfl rfl oM oM) (Gs ?_));refine fb ?_;have bx:i/n<k:=Nat.div_lt_of_lt_mul (by rw[anv];omega);have IZ:i/n<a.xs.length:=by rw[←vE,aF,uR];exact bx
  obtain⟨x,hx⟩:=get_some (xs:=a.xs) (i:=i/n) IZ;have ex:(lx a)[i/n]? =some x.xs:=by simp[lx,hx]
  have P4:((i:Nat):Int)/(room/20)=((i/n:Nat):Int):=by rw[hn];exact(Int.natCast_ediv i n).symm
  have xW:x.xs.length<=240:=by
   rw[aF,oO,amx]at ex;obtain⟨j,_,hj⟩:=anH.1 ex;have:=N6 (ts.take i) n j;rw[hj]at this;omega
  refine q7 (own bX 1 a.sv a.xs::own aL 1 x.sv x.xs::al mu (av wX) 34::(a.xs.eraseIdx (i/n)).map Deep.cg) (fun w hw=>(Tr.R6 (B:=[al mu (av wX) 34]) hx).mem hw) (JF 9 [7] [own bX 1 a.sv a.xs,al mu (av wX) 34] (fun w hw=>ag.mem hw) oK oK ?_);simp only[ane,amL];refine an ?_;refine bm (aY rfl rfl (i/n) P4 IZ) (bm (bB (j:=0) rfl (i/n) hx rfl (by decide)) ?_);have ak4:Mb x _:=⟨List.mem_of_getElem? hx⟩;refine Gq ?_;refine JC (bm (aY rfl rfl (i/n) P4 IZ) (sG ?_ (fun _ hw=>ag.mem hw)));refine RT rfl rfl oM (fun _ w hw=>ag.mem hw) fun qK Ix=>sH ?_;simp only[anK,anh];refine Cb (k:=i/n) ⟨qK,x.xs++gU wX⟩ oK rfl rfl rfl hx (aj ?_);refine Gi ?_;exact bg (x:=(i,a)) (i+1,⟨a.sv,a.xs.set (i/n) ⟨qK,x.xs++gU wX⟩⟩) ⟨oF,by rw[Xp,Xh oF IY (by rw[←aF];exact ex),←aF];rfl⟩ oF sb (fun w hw=>ag.mem ((Tr.R7 (B:=[al mu (av wX) 34]) (enc:=aL) (c:=1) (by rw[←vE,aF,uR];exact bx)).mem hw))
 refine aG ?_;refine Gr fun w1 hw=>?_;exact⟨a,by rw[hE.1],by rw[aF,hE.2,amr oM],hw⟩)⟩
instance:dH Tryz.prog 65 (.agg (cV kY)):=⟨by kernel_rfl⟩
theorem I0(v:ca)(t:Sl Rt)(w:World):(Instr.build 65 #[(0, .agg (cj v)),(1,t.sv.val)]).run Tryz.prog w= .ok (.agg (cV ⟨v,t⟩)) w:=by
 obtain⟨s,xs⟩:=t;obtain⟨⟨a1,a2,⟨a3,a4⟩,a5,a6,⟨a7,a8⟩⟩,⟨a9,a10⟩,a11,a12⟩:=v;unfold cV;obtain⟨e,b,o,l,c,p⟩:=s;obtain⟨e3,b3,o3,l3,c3,p3⟩:=a3;obtain⟨e7,b7,o7,l7,c7,p7⟩:=a7;obtain⟨e9,b9,o9,l9,c9,p9⟩:=a9
 cases e<;>cases e3<;>cases e7<;>cases e9<;>kernel_rfl
instance ak5{b:Int}{p:Int}{s:Int}:bD Tryz.prog 75 w0 L [.int .i64 b, .int .i64 p, .int .i64 s] (.int .i64 (AK b p s)) (True):=⟨fun aw w hw=>by
 have qB:=XV b p;have Pb:=OF s;refine rr Tryz.func75 rfl Tryz.ntmps75 rfl ?_;refine aQ ?_;refine ae (kL rfl rfl oM oM) (ao ?_);refine ae (EB rfl rfl) (ao ?_);refine Gr fun w1 hw=>?_;exact⟨congrArg (fun b=>Ending.returned (Value.int .i64 b)) ((by rw[AK])),ag.mem hw⟩⟩
instance ak6{b:Int}{p:Int}{s:Int}:bD Tryz.prog 25 w0 L [.int .i64 b, .int .i64 p, .int .i64 s] (.int .i64 (HJ b p s)) (True):=⟨fun aw w hw=>by
 refine rr Tryz.func25 rfl Tryz.ntmps25 rfl ?_;refine Ae ?_;refine Gr fun w1 hw=>?_;exact⟨congrArg (fun b=>Ending.returned (Value.int .i64 b)) ((by rw[HJ])),ag.mem hw⟩⟩
instance ak7{c:Cp}[hc:aU w0 L c]:bD Tryz.prog 98 w0 L [.agg (aS c)] (.int .i64 (gW (cv c))) (True):=⟨fun aw w hw=>by
 have hc:=hc.h w hw;have jS:cw w c:=⟨hc⟩;refine bQ Tryz.func98 rfl Tryz.ntmps98 rfl ?_;refine Gc ?_;refine bJ rfl fun b1=>Ae ?_;refine Gr fun w1 hw=>?_;exact⟨congrArg (fun b=>Ending.returned (Value.int .i64 b)) ((by simp only[gW,cv,fT])),ag.mem hw⟩⟩
instance ak8{c:Cp}[hc:aU w0 L c]:bD Tryz.prog 95 w0 L [.agg (aS c)] (.int .i64 (qy (cv c))) (True):=⟨fun aw w hw=>by
 have hc:=hc.h w hw;have jS:cw w c:=⟨hc⟩;refine bQ Tryz.func95 rfl Tryz.ntmps95 rfl ?_;refine Gc ?_;refine bJ rfl fun b1=>Ae ?_;refine Gr fun w1 hw=>?_;exact⟨congrArg (fun b=>Ending.returned (Value.int .i64 b)) ((by simp only[qy,cv,fT])),ag.mem hw⟩⟩
instance ak9{v:ca}{id:Nat}[hv:aU w0 L v]:bK Tryz.prog 181 w0 L [.agg (cj v), .int .i64 (id:Nat)] (Sv) (fun U=>U.val) (fun U=>own aL 1 U (ka (cv v.ai) (v.at_.xs.getD id 0))::L) (fun U=>True) (bl (cv v.ai)=true/\id<v.at_.xs.length/\ ∀y∈v.at_.xs,0<=y/\y<=65535/\(y≠0->uE (cv v.ai) (y -1)=true)):=⟨fun aw w hw=>Gk (fun U=>[own aL 1 U (ka (cv v.ai) (v.at_.xs.getD id 0))]) hw (by
 have hv:=hv.h w hw;have A1:cw w v:=⟨hv⟩;obtain⟨hk,hid,mz⟩:=aw;obtain⟨y,hy⟩:=get_some (xs:=v.at_.xs) (i:=id) hid;have nv:v.at_.xs.getD id 0=y:=wj hy;obtain⟨vB,H7,gA⟩:=mz y (amm hy);refine cD Tryz.func181 rfl Tryz.ntmps181 rfl ?_;refine Gc ?_;refine bJ rfl fun b2=>aG ?_;refine ae (aY rfl rfl id rfl oM) (ae (bB (j:=0) rfl id hy rfl (by decide)) (aQ ?_));refine Gb ?_ ?_<;>intro h0
 ·
  have hE:(ka (cv v.ai) (v.at_.xs.getD id 0))=[]:=by rw[nv,ka,if_pos oM]
  refine aj ?_;refine Gr fun w1 hw=>?_;exact⟨Sv.none,rfl,trivial,by rw[hE];exact Mem.cJ aL 1 (ag.mem hw:Mem w [] _)⟩
 have h1y:1<=y:=by omega
 obtain⟨g1,g2,g3⟩:=Dd.1 (gA oM);have dY:=fT v.ai.blocks.xs;have fO:=kt.1 (eB.1 hk).1;simp only[cv,dY]at fO;have pH:0<=((y -1)/v.ai.ab):=aoF oM oM;have rU:0<=((y -1)%v.ai.ab):=Int.emod_nonneg _ oM;have A4:((y -1)%v.ai.ab)<v.ai.ab:=Int.emod_lt_of_pos _ oM;have sa:=wh (c:=v.ai) (b:=((y -1)/v.ai.ab));change 2<=((y -1)/v.ai.ab)at g1;change((y -1)/v.ai.ab)<((hU v.ai.blocks.xs).length:Int)at g2;rw[dY]at g2;obtain⟨B,hB⟩:=get_some (xs:=v.ai.blocks.xs) (i:=((y -1)/v.ai.ab).toNat) oM;have qJ:Mb B v.ai.blocks:=⟨List.mem_of_getElem? hB⟩;have dQ:bv B=aN (cv v.ai) ((y -1)/v.ai.ab):=by rw[←sa];simp[List.getD,hB]
 have fm:=gF.1 ((eB.1 hk).2.2.2.2 (bv B) (amm (ly hB)));have ic:=mR B.ab.xs;have Pl:(B.ab.xs.length:Int)=v.ai.ab:=by have:=fm.1;simp only[bv,cv,ic]at this;exact this
 obtain⟨z,hz⟩:=get_some (xs:=B.ab.xs) (i:=((y -1)%v.ai.ab).toNat) oM;have u7:Mb z B.ab:=⟨List.mem_of_getElem? hz⟩;have eQ:yg (cv v.ai) (y -1)=z.xs:=by
  show(aN (cv v.ai) ((y -1)/v.ai.ab)).ab.getD ((y -1)%v.ai.ab).toNat []=z.xs;rw[←dQ];simp[bv,List.getD,oA hz]
 have hI:(ka (cv v.ai) (v.at_.xs.getD id 0))=kR (cv v.ai) y:=by rw[nv,ka,if_neg oM]
 refine Gc ?_;refine nN [18,22,23,2022,4018] [[],[],[],[],[],[],[],[],[],[],[],[],[],[],[],[],[],[],[],[18],[18],[18],[],[18,22],[18,22,23]] [0,1,2,3,4,5,6,7,8,9,10,11,12,13,14,15,16,17,18,19,20,21,22,23,24] [al b2 (cj v) 63] [(22,km Tryz.prog 324)] oK (fun _ hw=>ag.mem hw) oK oK (ak rfl (aK (o':=0) rfl rfl) (ak rfl (aK (o':=2) rfl rfl) (ak rfl (bA rfl) (ak rfl (ba rfl) (ak rfl (aK (o':=0) rfl rfl) (ak rfl (aK (o':=0) rfl rfl) (ak rfl (bA rfl) (ak rfl (kL rfl rfl oM oM) (ak rfl (aY rfl rfl (((y -1)/v.ai.ab).toNat) oM oM) (ak rfl (aK rfl rfl) (ak rfl (bB (j:=0) rfl (((y -1)/v.ai.ab).toNat) hB rfl (by decide)) (ak rfl (ba rfl) ?_))))))))))));refine ak rfl (aK (o':=0) rfl rfl) (ak rfl (aK (o':=0) rfl rfl) (ak rfl (bA rfl) (ak rfl (vt rfl rfl oM oM) (ak rfl (aY rfl rfl (((y -1)%v.ai.ab).toNat) oM oM) (ak rfl (bB (j:=0) rfl (((y -1)%v.ai.ab).toNat) hz rfl (by decide)) ?_)))));refine sV rfl rfl trivial (fun e x w hw=>ag.mem hw) (Cert.one (i:=22) rfl rfl rfl ko (Cert.none rfl)) fun Bh PQ=>⟨fun _ hw=>ag.mem hw,?_⟩;have e1:Bh.body.xs=(db z.xs).1.body:=congrArg PV.body PQ;refine ak rfl (ba rfl) (ak rfl (ax (v:= .agg (cG Bh)) rfl rfl) (ak rfl (ax (v:= .int .i64 ((db z.xs).2)) rfl rfl) (mL (m:=km Tryz.prog 324) rfl rfl ko (Cert.none rfl) fun b6=>?_)));change Ln _ _ _ _ _ _ _ _ (bZ _ _ (.pointer (some ⟨b6,0,none⟩))) (al b6 (cG mY) 324::_) _;refine cC rfl (lV rfl rfl ⟨fun _ hw=>ag.mem hw,?_⟩);refine ak rfl (fG rfl) (an ?_);refine Gb ?_ ?_<;>intro h1
 ·
  have hE:(ka (cv v.ai) (v.at_.xs.getD id 0))=[]:=by rw[hI,kR,eQ,if_neg h1]
  refine aj ?_;refine Gr fun w1 hw=>?_;exact⟨Sv.none,rfl,trivial,by rw[hE];exact Mem.cJ aL 1 (ag.mem hw:Mem w [] _)⟩
 have qO:(db z.xs).2=0:=h1;have hE:(ka (cv v.ai) (v.at_.xs.getD id 0))=Bh.body.xs:=by rw[hI,kR,eQ,if_pos qO,e1]
 refine aG ?_;refine Gr fun w1 hw=>?_;exact⟨Bh.body.sv,rfl,trivial,by rw[hE];exact ag.mem hw⟩)⟩
instance ala{s:Sl (Sl UInt8)}[hs:aU w0 L s]:bK Tryz.prog 163 w0 L [s.sv.val] (Sv) (fun U=>U.val) (fun U=>own (bX (τ:=UInt8)) 1 U s.xs::L) (fun U=>True) (s.xs.length<=1000000):=⟨fun aw w hw=>Gk (fun U=>[own (bX (τ:=UInt8)) 1 U s.xs]) hw (by
 have hs:=hs.h w hw;have wG:cw w s:=⟨hs⟩;refine bQ Tryz.func163 rfl Tryz.ntmps163 rfl ?_;refine an ?_;refine ae (sL Tryz.underlying178 rfl) (Gc ?_);refine Gb ?_ ?_<;>intro h0
 ·
  have e0:s.xs=[]:=amB.1 (by have:=hs.1.ok.nil h0;have:=hs.1.len;omega);refine aj ?_;refine Gr fun w1 hw=>?_;exact⟨Sv.none,rfl,trivial,by rw[e0];exact(ag.mem hw:Mem w [] _).cJ (bX (τ:=UInt8)) 1⟩
 refine Gc ?_;refine uj (bX (τ:=UInt8)) fun b5=>Gs ?_;refine jY (s:=⟨false,b5,0,0,0,none⟩) (enc:=(bX (τ:=UInt8))) (ys:=s.xs) rfl rfl (by decide) (fun w hw=>gP (s:=s.sv) Tryz.underlying178 (by decide) ((inferInstance:cS _ _ (bX (τ:=UInt8)) 1 s.sv s.xs).h w hw)) (by simp only[af0];omega) (by simp only[af0];omega) fun s7 wH uU=>?_;refine ao ?_;refine Gr fun w1 hw=>?_;exact⟨s7,rfl,trivial,by rw[am6]at hw;exact ag.mem hw⟩)⟩
instance alb{c:Cp}[hc:aU w0 L c]:bK Tryz.prog 96 w0 L [.agg (aS c)] (Cp) (fun U=> .agg (aS U)) (fun U=>fz U::L) (fun U=>cv U=cv c) (fe c):=⟨fun aw w hw=>Gk (fun U=>[fz U]) hw (by
 have hc:=hc.h w hw;have jS:cw w c:=⟨hc⟩;obtain⟨lG,kV,oX⟩:=aw;refine bQ Tryz.func96 rfl Tryz.ntmps96 rfl ?_;refine Gc ?_;refine bJ rfl fun b1=>bc fun b2=>aj ?_;refine aW rfl oM fun x9 A0=>Gs ?_;refine cR (cs':=aS (⟨c.ab,c.size,⟨x9,c.blocks.xs⟩,c.ops,c.off,c.bb⟩:Cp)) rfl rfl (by show 2<6;decide) (by first|rfl|exact Sv.one _) rfl (aQ ?_);refine bI (X:=Nat×List Bk) (fun U=>[(14, .int .i64 (U.1:Nat)),(1, .pointer (some ⟨b1,0,none⟩)),(2, .pointer (some ⟨b2,0,none⟩)),(12,x9.val),(13, .int .i64 (c.blocks.xs.length:Nat))]) (fun U=>[own bU 4 x9 U.2,ah.all ((U.2.take U.1).map fun b:Bk=>fz b.ab),al b2 (aS fL) 59,al b1 (aS (⟨c.ab,c.size,⟨x9,U.2⟩,c.ops,c.off,c.bb⟩:Cp)) 59]) (fun U=>U.1<=c.blocks.xs.length/\U.2.length=c.blocks.xs.length/\hU U.2=hU c.blocks.xs/\ ∀j,U.1<=j->U.2[j]? =c.blocks.xs[j]?) (fun U=>c.blocks.xs.length -U.1) (0,c.blocks.xs) ⟨Nat.zero_le _,rfl,rfl,fun _ _=>rfl⟩ sb (fun w hw=>by
  simp only[amL,anl];exact ag.mem (Mem.wb hw)) ?_
 rintro⟨i,zs⟩ ⟨bf,aF,bo,cI⟩;dsimp only;simp only at bf aF bo cI;refine aj ?_;refine Gb ?_ ?_<;>intro h0
 ·
  obtain⟨z,hz⟩:=get_some (xs:=zs) (i:=i) oM;have u7:Mb z c.blocks:=⟨List.mem_of_getElem? (by rw[←cI i (amz _)];exact hz)⟩;have dU:=oX z u7.h;obtain⟨aa5,alc⟩:=dU;rw[mR]at aa5;refine ao ?_;refine ae (aY rfl rfl i rfl oM) (ae (gq rfl i hz rfl) (bc fun b4=>aG ?_));refine aW rfl oM fun iN ID=>aQ ?_;refine bI (X:=Nat×List (Sl UInt8)) (fun U=>[(24, .int .i64 (U.1:Nat)),(5,iN.val),(1, .pointer (some ⟨b1,0,none⟩)),(2, .pointer (some ⟨b2,0,none⟩)),(3, .int .i64 (i:Nat)),(12,x9.val),(13, .int .i64 (c.blocks.xs.length:Nat)),(14, .int .i64 (i:Nat)),(23, .int .i64 (z.ab.xs.length:Nat))]) (fun U=>[own (bX (τ:=UInt8)) 1 iN U.2,ah.all ((U.2.take U.1).map fun b:Sl UInt8=>fz b),al b4 (bU z) 180,own bU 4 x9 zs,ah.all ((zs.take i).map fun b:Bk=>fz b.ab),al b2 (aS fL) 59,al b1 (aS (⟨c.ab,c.size,⟨x9,zs⟩,c.ops,c.off,c.bb⟩:Cp)) 59]) (fun U=>U.1<=z.ab.xs.length/\U.2.length=z.ab.xs.length/\aM U.2=aM z.ab.xs/\ ∀k,U.1<=k->U.2[k]? =z.ab.xs[k]?) (fun U=>z.ab.xs.length -U.1) (0,z.ab.xs) ⟨Nat.zero_le _,rfl,rfl,fun _ _=>rfl⟩ sb (fun w hw=>by
   simp only[amL,anl];exact ag.mem (Mem.wb hw)) ?_
  rintro⟨j,qs⟩ ⟨jc,dk,fN,iL⟩;dsimp only;simp only at jc dk fN iL;refine aj ?_;refine Gb ?_ ?_<;>intro h1
  ·
   obtain⟨y,hy⟩:=get_some (xs:=qs) (i:=j) oM;have I1:z.ab.xs[j]? =some y:=by rw[←iL j (amz _)];exact hy
   have Il:Mb y z.ab:=⟨List.mem_of_getElem? I1⟩;have yK:=Ar (oA I1);have ic:=As (aM z.ab.xs) (j+1);have hyl:y.xs.length<=140737488355328:=by rw[yK]at ic;omega
   refine aj ?_;refine fb ?_;refine CQ (s:=iN) (enc:=bX (τ:=UInt8)) (c:=1) (xs:=qs) inferInstance oM fun ald ale aa6 alf=>?_;refine Gi ?_;refine an ?_;refine ae (aY rfl rfl j rfl oM) (ae (bB (j:=0) rfl j hy rfl (by decide)) (aW rfl hyl fun jx vc=>?_));obtain⟨wX,IY⟩:=get_some (xs:=qs) (i:=j) oM;refine ae (mC (s:=iN) (i:=j) rfl rfl rfl aa6 oM) (Cb (s:=iN) (xs:=qs) (k:=j) (a:=y) (⟨jx,y.xs⟩:Sl UInt8) oK rfl rfl rfl hy (aj ?_));refine Gi ?_;exact bg (x:=(j,qs)) (j+1,qs.set j (⟨jx,y.xs⟩:Sl UInt8)) ⟨oF,by rw[anb];exact dk,by rw[aM,aoh,←aM,fN];exact xX (z:=y.xs) (oA I1),fun k hk=>by rw[aog oF];exact iL k oF⟩ (by simp only;omega) sb (fun w hw=>by
    have h1:=GL (a:=(⟨jx,y.xs⟩:Sl UInt8)) (ag.mem hw:Mem _ (own aL 1 jx y.xs::[own (bX (τ:=UInt8)) 1 iN (qs.set j (⟨jx,y.xs⟩:Sl UInt8)),ah.all ((qs.take j).map fun b:Sl UInt8=>fz b),al b4 (bU z) 180,own bU 4 x9 zs,ah.all ((zs.take i).map fun b:Bk=>fz b.ab),al b2 (aS fL) 59,al b1 (aS (⟨c.ab,c.size,⟨x9,zs⟩,c.ops,c.off,c.bb⟩:Cp)) 59]) _);have h3:=Mem.xV (ag.mem h1:Mem _ (fz (⟨jx,y.xs⟩:Sl UInt8)::ah.all ((qs.take j).map fun b:Sl UInt8=>fz b)::[own (bX (τ:=UInt8)) 1 iN (qs.set j (⟨jx,y.xs⟩:Sl UInt8)),al b4 (bU z) 180,own bU 4 x9 zs,ah.all ((zs.take i).map fun b:Bk=>fz b.ab),al b2 (aS fL) 59,al b1 (aS (⟨c.ab,c.size,⟨x9,zs⟩,c.ops,c.off,c.bb⟩:Cp)) 59]) _);rw[GV (z':=(⟨jx,y.xs⟩:Sl UInt8)) hy]at h3;exact ag.mem h3)
  obtain rfl:j=qs.length:=by omega
  rw[amr (amz _)]at*;refine FZ ?_;refine CQ (s:=x9) (enc:=bU) (c:=4) (xs:=zs) inferInstance oM fun P5 hs9 ho9 hl9=>?_;refine Gi ?_;refine an ?_;obtain⟨e40,aa7⟩:=get_some (xs:=zs) (i:=i) oM;refine ae (mC (s:=x9) (i:=i) rfl rfl rfl ho9 oM) (ae (aK rfl rfl) (kj (n:=1) (k:=i) (j:=0) (a:=z) (a':=({z with ab:=⟨iN,qs⟩}:Bk)) (xs:=zs) (enc:=bU) (c:=4) (v:=iN.val) oK rfl rfl rfl hz (by rw[Sv.iC];simp[Sv.one]) (by rw[Sv.iC];rfl) (by decide) (by rw[Sv.iC];rfl) (aj ?_)))
  refine Gi ?_;exact bg (x:=(i,zs)) (i+1,zs.set i ({z with ab:=⟨iN,qs⟩}:Bk)) ⟨oF,by rw[anb];exact aF,by rw[wg,←bo,show bv ({z with ab:=⟨iN,qs⟩}:Bk)=bv z from by rw[bv,bv,fN],←wg,xX hz],fun j hj=>by rw[aog oF];exact cI j oF⟩ (by simp only;omega) sb (fun w hw=>by
   have h1:=GU (ag.mem hw:Mem _ (own (bX (τ:=UInt8)) 1 iN qs::ah.all (qs.map fun b:Sl UInt8=>fz b)::[own bU 4 x9 (zs.set i ({z with ab:=⟨iN,qs⟩}:Bk)),ah.all ((zs.take i).map fun b:Bk=>fz b.ab),al b2 (aS fL) 59,al b1 (aS (⟨c.ab,c.size,⟨x9,zs⟩,c.ops,c.off,c.bb⟩:Cp)) 59]) _)
   have h3:=Mem.xV (ag.mem h1:Mem _ (fz (⟨iN,qs⟩:Sl (Sl UInt8))::ah.all ((zs.take i).map fun b:Bk=>fz b.ab)::[own bU 4 x9 (zs.set i ({z with ab:=⟨iN,qs⟩}:Bk)),al b2 (aS fL) 59,al b1 (aS (⟨c.ab,c.size,⟨x9,zs⟩,c.ops,c.off,c.bb⟩:Cp)) 59]) _)
   rw[MP (z':=({z with ab:=⟨iN,qs⟩}:Bk)) hz]at h3
   exact(ag.mem h3:Mem _ [own bU 4 x9 (zs.set i ({z with ab:=⟨iN,qs⟩}:Bk)),ah.all (((zs.set i ({z with ab:=⟨iN,qs⟩}:Bk)).take (i+1)).map fun b:Bk=>fz b.ab),al b2 (aS fL) 59,al b1 (aS (⟨c.ab,c.size,⟨x9,zs⟩,c.ops,c.off,c.bb⟩:Cp)) 59] _))
 obtain rfl:i=zs.length:=by omega
 rw[amr (amz _)]at*;refine ao ?_;refine ae (Ry.to (v':=c.bb.sv.val) (bA rfl) rfl) (aW rfl oM fun qP P6=>Gs ?_);refine cR (cs':=aS (⟨c.ab,c.size,⟨x9,zs⟩,c.ops,c.off,⟨qP,c.bb.xs⟩⟩:Cp)) rfl rfl (by show 5<6;decide) (by first|rfl|exact Sv.one _) rfl (an ?_);refine Gr fun w1 hw=>?_;exact⟨(⟨c.ab,c.size,⟨x9,zs⟩,c.ops,c.off,⟨qP,c.bb.xs⟩⟩:Cp),rfl,by simp only[cv,bo],C0 (d:=(⟨c.ab,c.size,⟨x9,zs⟩,c.ops,c.off,⟨qP,c.bb.xs⟩⟩:Cp)) ((GK (a:=(⟨qP,c.bb.xs⟩:Sl Ft)) ((MM (ag.mem hw:Mem w (own bU 4 x9 zs::ah.all (zs.map fun b:Bk=>fz b.ab)::[own cO 4 qP c.bb.xs]) _)).perm (List.Perm.swap _ _ _))).perm (List.Perm.swap _ _ _))⟩)⟩
instance alg{c:Cp}[hc:aU w0 L c]:bK Tryz.prog 108 w0 L [.agg (aS c)] (bM×Sl (Sl UInt8)) (fun U=> .tuple #[.agg (cV U.1),U.2.sv.val, .int .i64 ((c6 (cv c)).2)]) (fun U=>fz U.1::fz U.2::L) (fun U=>aJ U.1=(c6 (cv c)).1/\lx U.2=kA (cv c)) (True):=⟨fun aw w hw=>Gk (fun U:bM×Sl (Sl UInt8)=>[fz U.1,fz U.2]) hw (by
 have hc:=hc.h w hw;have jS:cw w c:=⟨hc⟩;refine bQ Tryz.func108 rfl Tryz.ntmps108 rfl ?_;refine Gc ?_;refine bJ rfl fun b1=>bc fun b2=>ct ?_;refine Gb ?_ ?_<;>intro h0
 ·
  have hE:=OA h0;refine Gc ?_;refine ae (cr (v:= .agg (cV kY)) rfl (fun w=>by kernel_rfl)) (an ?_);refine Gr fun w1 hw=>?_;exact⟨(kY,⟨Sv.none,[]⟩),by rw[hE.1];rfl,⟨by rw[hE.1];rfl,by rw[hE.2];rfl⟩,Dz (yD (ag.mem hw:Mem w [] _))⟩
 refine ao ?_;refine aW rfl trivial fun aA jQ=>?_;have aa8:=Nc (cv c);rw[Xd]at jQ;have D7:aA.at_.xs=(bL (cv c)).1.at_:=congrArg VV.at_ jQ;rw[←D7]at aa8;have alh: ∀(L:List ah) [Hd w L aA.at_.sv bT 1 aA.at_.xs],aU w L aA.at_:=fun L q=>⟨fun w h=>⟨q.h w h,fun _ _=>trivial⟩⟩;have ali: ∀(L:List ah) [aU w L aA.ai] [aU w L aA.at_],aU w L aA:=fun L p q=>⟨fun w h=>⟨p.h w h,q.h w h⟩⟩;refine Gs ?_;refine ae (ax (v:= .agg (cj aA)) rfl rfl) (ae (ax (v:= .int .i64 ((bL (cv c)).2)) rfl rfl) (bc fun b5=>aQ ?_));refine Gb ?_ ?_<;>intro h1
 ·
  have hE:=OB h0 h1;refine Gc ?_;refine ae (cr (v:= .agg (cV kY)) rfl (fun w=>by kernel_rfl)) (aG ?_);refine Gr fun w1 hw=>?_;exact⟨(kY,⟨Sv.none,[]⟩),by rw[hE.1];rfl,⟨by rw[hE.1];rfl,by rw[hE.2];rfl⟩,Dz (yD (ag.mem hw:Mem w [] _))⟩
 have qO:(bL (cv c)).2=0:=h1;have I2:py (vv aA)=true:=by rw[jQ];exact XY qO
 have mA:cv aA.ai=(vv aA).ai:=rfl;have hbr:bl (cv aA.ai)=true:=(Df I2).1;have hby: ∀y∈aA.at_.xs,0<=y/\y<=65535/\(y≠0->uE (cv aA.ai) (y -1)=true):=fun y hy=>by
  obtain⟨g1,g2⟩:=(Df I2).2.2 y hy;obtain⟨j,hj⟩:=am9 hy;exact⟨g1,g2,fun g=>(Ng I2 hj g).2.2⟩
 refine Gc ?_;refine gO oK oK (an ?_);refine kM (br rfl trivial) (ao ?_);refine Gb ?_ ?_<;>intro h2
 ·
  have Bs:(((bL (cv c)).1.at_.length:Nat):Int)≠gW (cv c):=by rw[←D7];exact h2
  have hE:=OC h0 qO Bs;refine Gc ?_;refine ae (cr (v:= .agg (cV kY)) rfl (fun w=>by kernel_rfl)) (an ?_);refine Gr fun w1 hw=>?_;exact⟨(kY,⟨Sv.none,[]⟩),by rw[hE.1];rfl,⟨by rw[hE.1];rfl,by rw[hE.2];rfl⟩,Dz (yD (ag.mem hw:Mem w [] _))⟩
 have Bs:(((bL (cv c)).1.at_.length:Nat):Int)=gW (cv c):=by rw[←D7];exact h2
 have alj:aA.at_.xs.length<=64:=by have:=OG (cv c);rw[←D7]at Bs;omega
 refine an ?_;refine sJ (enc:=bX (τ:=UInt8)) (n:=aA.at_.xs.length) (cap:=aA.at_.xs.length) (⟨Sv.none,[]⟩:Sl UInt8) rfl rfl rfl rfl rfl oM oM oM fun iA=>aQ ?_;refine bI (X:=Nat×List (Sl UInt8)) (fun U=>[(36, .int .i64 (U.1:Nat)),(7,(⟨false,iA,0,aA.at_.xs.length,aA.at_.xs.length,none⟩:Sv).val),(2, .pointer (some ⟨b2,0,none⟩)),(5, .pointer (some ⟨b5,0,none⟩)),(35, .int .i64 ((List.replicate aA.at_.xs.length (⟨Sv.none,[]⟩:Sl UInt8)).length:Nat))]) (fun U=>[own (bX (τ:=UInt8)) 1 ⟨false,iA,0,aA.at_.xs.length,aA.at_.xs.length,none⟩ U.2,ah.all ((U.2.take U.1).map fun b:Sl UInt8=>fz b),al b5 (cj aA) 63,fz aA.ai,own bT 1 aA.at_.sv aA.at_.xs,al b2 (cV kY) 65,al b1 (aS c) 59]) (fun U=>U.1<=aA.at_.xs.length/\U.2.length=aA.at_.xs.length/\aM (U.2.take U.1)=(aA.at_.xs.take U.1).map (ka (cv aA.ai))) (fun U=>aA.at_.xs.length -U.1) (0,List.replicate aA.at_.xs.length (⟨Sv.none,[]⟩:Sl UInt8)) ⟨Nat.zero_le _,by simp,by simp[aM]⟩ sb (fun w hw=>by
  simp only[amL,anl];exact ag.mem (Mem.wb hw)) ?_
 rintro⟨i,qs⟩ ⟨bf,aF,bo⟩;dsimp only;simp only at bf aF bo;refine aj ?_;refine Gb ?_ ?_<;>intro h3
 ·
  rw[amZ]at h3;obtain⟨q,hq⟩:=get_some (xs:=qs) (i:=i) oM;obtain⟨y,hy⟩:=get_some (xs:=aA.at_.xs) (i:=i) oM;have nv:aA.at_.xs.getD i 0=y:=wj hy;refine aj ?_;refine fb ?_;have aa9:=Da (b:=iA) (n:=aA.at_.xs.length) oM;refine Gi ?_;refine an ?_;refine aW rfl ⟨hbr,by omega,hby⟩ fun jd pQ=>?_;obtain⟨e44,alk⟩:=get_some (xs:=qs) (i:=i) oM;refine ae (mC (s:=⟨false,iA,0,aA.at_.xs.length,aA.at_.xs.length,none⟩) (i:=i) rfl rfl rfl aa9 (by simp only;omega)) (Cb (s:=⟨false,iA,0,aA.at_.xs.length,aA.at_.xs.length,none⟩) (xs:=qs) (k:=i) (a:=q) (⟨jd,ka (cv aA.ai) (aA.at_.xs.getD i 0)⟩:Sl UInt8) oK rfl rfl oM hq (aj ?_));refine Gi ?_;exact bg (x:=(i,qs)) (i+1,qs.set i (⟨jd,ka (cv aA.ai) (aA.at_.xs.getD i 0)⟩:Sl UInt8)) ⟨oF,by rw[anb];exact aF,by rw[aM,C9 hq,←aM,bo,amq,hy,am0,nv];rfl⟩ (by simp only;omega) sb (fun w hw=>by
   have h1:=GL (a:=(⟨jd,ka (cv aA.ai) (aA.at_.xs.getD i 0)⟩:Sl UInt8)) (ag.mem hw:Mem _ (own aL 1 jd (ka (cv aA.ai) (aA.at_.xs.getD i 0))::[own (bX (τ:=UInt8)) 1 ⟨false,iA,0,aA.at_.xs.length,aA.at_.xs.length,none⟩ (qs.set i (⟨jd,ka (cv aA.ai) (aA.at_.xs.getD i 0)⟩:Sl UInt8)),ah.all ((qs.take i).map fun b:Sl UInt8=>fz b),al b5 (cj aA) 63,fz aA.ai,own bT 1 aA.at_.sv aA.at_.xs,al b2 (cV kY) 65,al b1 (aS c) 59]) _);have h3:=Mem.xV (ag.mem h1:Mem _ (fz (⟨jd,ka (cv aA.ai) (aA.at_.xs.getD i 0)⟩:Sl UInt8)::ah.all ((qs.take i).map fun b:Sl UInt8=>fz b)::[own (bX (τ:=UInt8)) 1 ⟨false,iA,0,aA.at_.xs.length,aA.at_.xs.length,none⟩ (qs.set i (⟨jd,ka (cv aA.ai) (aA.at_.xs.getD i 0)⟩:Sl UInt8)),al b5 (cj aA) 63,fz aA.ai,own bT 1 aA.at_.sv aA.at_.xs,al b2 (cV kY) 65,al b1 (aS c) 59]) _);rw[GV (z':=(⟨jd,ka (cv aA.ai) (aA.at_.xs.getD i 0)⟩:Sl UInt8)) hq]at h3;exact ag.mem h3)
 rw[amZ]at h3;obtain rfl:i=qs.length:=by omega
 rw[amr (amz _)]at*;rw[amr oM]at bo;have tA:lx (⟨⟨false,iA,0,aA.at_.xs.length,aA.at_.xs.length,none⟩,qs⟩:Sl (Sl UInt8))=oU (bL (cv c)).1:=by rw[←jQ];exact bo
 have dY: ∀x∈qs,x.xs.length<=100000:=fun x hx=>by
  have hm:x.xs∈aM qs:=am5 (f:=fun x:Sl UInt8=>x.xs) hx;rw[bo]at hm;obtain⟨y,_,hye⟩:=anB.1 hm;rw[←hye];exact Nat.le_trans (X1 _ _) (by decide)
 refine kp ?_;refine q7 [fz (⟨⟨false,iA,0,aA.at_.xs.length,aA.at_.xs.length,none⟩,qs⟩:Sl (Sl UInt8)),al b5 (cj aA) 63,fz aA.ai,own bT 1 aA.at_.sv aA.at_.xs,al b2 (cV kY) 65,al b1 (aS c) 59] (fun w hw=>ag.mem (GU (ag.mem hw:Mem _ (own (bX (τ:=UInt8)) 1 ⟨false,iA,0,aA.at_.xs.length,aA.at_.xs.length,none⟩ qs::ah.all (qs.map fun b:Sl UInt8=>fz b)::[al b5 (cj aA) 63,fz aA.ai,own bT 1 aA.at_.sv aA.at_.xs,al b2 (cV kY) 65,al b1 (aS c) 59]) _))) (Gi ?_);refine Gs ?_;refine aW (hc:=aa1 (a:=(⟨⟨false,iA,0,aA.at_.xs.length,aA.at_.xs.length,none⟩,qs⟩:Sl (Sl UInt8)))) rfl ⟨by show qs.length<=1000;omega,dY⟩ fun vd PR=>Gs ?_;refine ae (ax (v:=vd.val) rfl rfl) (ae (ax (v:= .int .i64 (oQ (lx (⟨⟨false,iA,0,aA.at_.xs.length,aA.at_.xs.length,none⟩,qs⟩:Sl (Sl UInt8))))) rfl rfl) (aQ ?_));refine Gb ?_ ?_<;>intro h4
 ·
  rw[tA]at h4;have hE:=OD h0 qO Bs h4;refine Gc ?_;refine ae (cr (v:= .agg (cV kY)) rfl (fun w=>by kernel_rfl)) (an ?_);refine Gr fun w1 hw=>?_;exact⟨(kY,⟨Sv.none,[]⟩),by rw[hE.1];rfl,⟨by rw[hE.1];rfl,by rw[hE.2];rfl⟩,Dz (yD (ag.mem hw:Mem w [] _))⟩
 have yY:=h4;rw[tA]at yY;have hE:=XS h0 qO Bs yY;refine aj ?_;refine ae (cr (v:= .agg (cV (⟨aA,⟨vd,me (lx (⟨⟨false,iA,0,aA.at_.xs.length,aA.at_.xs.length,none⟩,qs⟩:Sl (Sl UInt8)))⟩⟩:bM))) rfl (I0 aA ⟨vd,me (lx (⟨⟨false,iA,0,aA.at_.xs.length,aA.at_.xs.length,none⟩,qs⟩:Sl (Sl UInt8)))⟩)) (aG ?_);refine Gr fun w1 hw=>?_;exact⟨((⟨aA,⟨vd,me (lx (⟨⟨false,iA,0,aA.at_.xs.length,aA.at_.xs.length,none⟩,qs⟩:Sl (Sl UInt8)))⟩⟩:bM),(⟨⟨false,iA,0,aA.at_.xs.length,aA.at_.xs.length,none⟩,qs⟩:Sl (Sl UInt8))),by rw[hE.1],⟨by rw[hE.1];simp only[aJ,tA,jQ],by rw[hE.2];exact tA⟩,OE (f:=(⟨aA,⟨vd,me (lx (⟨⟨false,iA,0,aA.at_.xs.length,aA.at_.xs.length,none⟩,qs⟩:Sl (Sl UInt8)))⟩⟩:bM)) (ag.mem hw:Mem w [fz aA.ai,own bT 1 aA.at_.sv aA.at_.xs,own av 19 vd (me (lx (⟨⟨false,iA,0,aA.at_.xs.length,aA.at_.xs.length,none⟩,qs⟩:Sl (Sl UInt8)))),fz (⟨⟨false,iA,0,aA.at_.xs.length,aA.at_.xs.length,none⟩,qs⟩:Sl (Sl UInt8))] _)⟩)⟩
instance alm{x:Sv}{xs:List Rt}{y:Sv}{ys:List Rt}[hx:cS w0 L av 19 x xs][hy:cS w0 L av 19 y ys]:bD Tryz.prog 168 w0 L [x.val,y.val] (.bool (decide (xs=ys))) (True):=⟨fun aw w hw=>by
 have hx:=hx.h w hw;have hy:=hy.h w hw;have va:Gv w x av 19 xs:=⟨hx⟩;have Ir:Gv w y av 19 ys:=⟨hy⟩;have ZM:=hx.bd;refine cD Tryz.func168 rfl Tryz.ntmps168 rfl ?_;refine fS ?_;refine Gb ?_ ?_<;>intro h0
 ·
  have hz:decide (xs=ys)=false:=decide_eq_false fun e=>h0 (by rw[e]);refine aj ?_;refine Gr fun w1 hw=>?_;exact Ge (hz.symm) hw
 have mW:xs.length=ys.length:=by omega
 refine aG ?_;refine bI (X:=Nat) (fun U=>[(13, .int .i64 (U:Nat)),(0,x.val),(1,y.val),(12, .int .i64 (xs.length:Nat))]) (fun U=>[]) (fun U=>U<=xs.length/\ ∀j,j<U->xs[j]? =ys[j]?) (fun U=>xs.length -U) 0 ⟨Nat.zero_le _,fun j hj=>by first|omega|(simp only[];omega)⟩ sb (fun w hw=>ag.mem hw) ?_;rintro i ⟨bf,aF⟩;refine aj ?_;refine Gb ?_ ?_<;>intro h1
 ·
  obtain⟨p,jE⟩:=get_some (xs:=xs) (i:=i) oM;obtain⟨q,tH⟩:=get_some (xs:=ys) (i:=i) oM;refine an ?_;refine gO oK oK (ao ?_);refine bm (aY rfl rfl i rfl oM) (bm (gq rfl i jE rfl) (ao ?_));refine bm (aY rfl rfl i rfl oM) (bm (gq rfl i tH rfl) (bm (sF rfl rfl) (Gc ?_)));refine Gb ?_ ?_<;>intro h2
  ·
   have hz:decide (xs=ys)=false:=decide_eq_false fun e=>h2 (by rw[e]at jE;rw[jE]at tH;cases tH;rfl);refine aj ?_;refine Gr fun w1 hw=>?_;exact Ge (hz.symm) hw
  refine aj ?_;refine Gi ?_;exact bg (x:=(i)) (i+1) ⟨oF,fun j hj=>if e:j=i then(by subst e;rw[jE,tH,h2])else aF j oF⟩ oF sb (fun w hw=>ag.mem hw)
 obtain rfl:i=xs.length:=by omega
 have hz:decide (xs=ys)=true:=decide_eq_true (anq fun j=>by
  rcases amv j xs.length with hj|hj
  ·
   exact aF j hj
  rw[amD hj,amD oM])
 refine aj ?_;refine Gr fun w1 hw=>?_;exact⟨congrArg (fun b=>Ending.returned (Value.bool b)) (hz.symm),ag.mem hw⟩⟩
instance aln{f:bM}[hf:aU w0 L f]:bK Tryz.prog 99 w0 L [.agg (cV f)] (Sl (Sl UInt8)) (fun U=> .tuple #[U.sv.val, .bool (ju (aJ f))]) (fun U=>fz U::L) (fun U=>ju (aJ f)=true->lx U=kA {(aJ f).aq.ai with off:=false}) (True):=⟨fun aw w hw=>Gk (fun U=>[fz U]) hw (by
 have hf:=hf.h w hw;have D8:cw w f:=⟨hf⟩;refine bQ Tryz.func99 rfl Tryz.ntmps99 rfl ?_;refine Gc ?_;refine bJ rfl fun b1=>aG ?_;refine ae (dy rfl) (bc fun b4=>aj ?_);refine cR (cs':=aS (⟨f.aq.ai.ab,f.aq.ai.size,f.aq.ai.blocks,f.aq.ai.ops,false,f.aq.ai.bb⟩:Cp)) rfl rfl (by show 4<6;decide) (by first|rfl|exact Sv.one _) rfl (ao ?_);refine aW rfl trivial fun kD wI=>?_;have D9:aJ kD.1=(c6 {(aJ f).aq.ai with off:=false}).1:=wI.1
 have g1:kD.1.aq.gen.toNat=(c6 {(aJ f).aq.ai with off:=false}).1.aq.gen:=congrArg (fun z:FV=>z.aq.gen) D9
 have g2:kD.1.aq.last=(c6 {(aJ f).aq.ai with off:=false}).1.aq.last:=congrArg (fun z:FV=>z.aq.last) D9
 have g3:kD.1.aq.at_.xs=(c6 {(aJ f).aq.ai with off:=false}).1.aq.at_:=congrArg (fun z:FV=>z.aq.at_) D9
 have g4:kD.1.table.xs=(c6 {(aJ f).aq.ai with off:=false}).1.table:=congrArg FV.table D9
 have hS:ju (aJ f)=true↔(c6 {(aJ f).aq.ai with off:=false}).2=0/\f.aq.gen.toNat=kD.1.aq.gen.toNat/\f.aq.last=kD.1.aq.last/\f.aq.at_.xs=kD.1.aq.at_.xs/\f.table.xs=kD.1.table.xs:=by rw[XU,g1,g2,g3,g4];rfl
 refine Gs ?_;refine ae (ax (v:= .agg (cV kD.1)) rfl rfl) (ae (ax (v:=kD.2.sv.val) rfl rfl) (ae (ax (v:= .int .i64 ((c6 (cv (⟨f.aq.ai.ab,f.aq.ai.size,f.aq.ai.blocks,f.aq.ai.ops,false,f.aq.ai.bb⟩:Cp))).2)) rfl rfl) (bc fun b5=>dV ?_)));refine aV rfl rfl rfl (fun hg=>(Ry.yl (aK (o':=7) (au hg rfl) rfl))) (ao ?_);refine aV rfl rfl rfl (fun hg=>(Ry.yl (aK (o':=7) (au hg rfl) rfl))) (aG ?_);refine aV rfl rfl rfl (fun hg=>(Ry.yl (aK (o':=8) (au hg rfl) rfl))) (ao ?_);refine aV rfl rfl rfl (fun hg=>(Ry.yl (aK (o':=8) (au hg rfl) rfl))) (an ?_);refine Gb ?_ ?_<;>intro h0
 ·
  have hE:ju (aJ f)=false:=by
   cases hk:ju (aJ f)with
   |false=>rfl
   |true=>
    obtain⟨q1,q2,q3,q4,q5⟩:=hS.1 hk;rcases h0 with(h|h)|h
    ·
     exact absurd q1 h
    ·
     omega
    exact absurd q3 h
  refine an ?_;refine Gr fun w1 hw=>?_;exact⟨⟨Sv.none,[]⟩,by rw[hE];rfl,(fun h=>by rw[hE]at h;cases h),yD (ag.mem hw:Mem w [] _)⟩
 refine T1 ?_;refine aV rfl rfl rfl (fun hg=>br (dB (au hg rfl) (dB (au hg rfl) gk)) trivial) (aV rfl rfl rfl (fun hg=>(Ry.yl (kg (au hg rfl)))) (ao ?_));refine Gb ?_ ?_<;>intro h1
 ·
  have hE:ju (aJ f)=false:=by
   cases hk:ju (aJ f)with
   |false=>rfl
   |true=>
    obtain⟨q1,q2,q3,q4,q5⟩:=hS.1 hk;rcases h1 with h|h
    ·
     exact absurd q4 h
    exact absurd q5 h
  refine an ?_;refine Gr fun w1 hw=>?_;exact⟨⟨Sv.none,[]⟩,by rw[hE];rfl,(fun h=>by rw[hE]at h;cases h),yD (ag.mem hw:Mem w [] _)⟩
 have hE:ju (aJ f)=true:=hS.2 ⟨h0.1.1,by have:=h0.1.2;omega,h0.2,h1.1,h1.2⟩;refine aG ?_;refine Gr fun w1 hw=>?_;exact⟨kD.2,by rw[hE],(fun _=>wI.2),ag.mem hw⟩)⟩
instance alo{f:bM}[hf:aU w0 L f]:bD Tryz.prog 51 w0 L [.agg (cV f)] (.bool (ju (aJ f))) (True):=⟨fun aw w hw=>by
 have hf:=hf.h w hw;have D8:cw w f:=⟨hf⟩;refine bQ Tryz.func51 rfl Tryz.ntmps51 rfl ?_;refine Gc ?_;refine bJ rfl fun b1=>aj ?_;refine aW rfl trivial fun x7 Yz=>Gs ?_;refine ae (ax (v:=x7.sv.val) rfl rfl) (ae (ax (v:= .bool (ju (aJ f))) rfl rfl) (aQ ?_));refine Gr fun w1 hw=>?_;exact⟨congrArg (fun b=>Ending.returned (Value.bool b)) (rfl),ag.mem hw⟩⟩
instance alp{c:Cp}[hc:aU w0 L c]:bK Tryz.prog 43 w0 L [.agg (aS c)] (bM) (fun U=> .tuple #[.agg (cV U), .int .i64 ((c6 (cv c)).2)]) (fun U=>fz U::L) (fun U=>aJ U=(c6 (cv c)).1) (True):=⟨fun aw w hw=>Gk (fun U=>[fz U]) hw (by
 have hc:=hc.h w hw;have jS:cw w c:=⟨hc⟩;refine bQ Tryz.func43 rfl Tryz.ntmps43 rfl ?_;refine Gc ?_;refine bJ rfl fun b1=>bc fun b2=>aj ?_;refine aW rfl trivial fun x9 A0=>Gs ?_;refine ae (ax (v:= .agg (cV x9.1)) rfl rfl) (ae (ax (v:=x9.2.sv.val) rfl rfl) (ae (ax (v:= .int .i64 ((c6 (cv c)).2)) rfl rfl) (bc fun b4=>fS ?_)));refine Gr fun w1 hw=>?_;exact⟨x9.1,rfl,A0.1,ag.mem hw⟩)⟩
instance alq{f:bM}{k:Key}{bits:Int}[hf:aU w0 L f]:bD Tryz.prog 27 w0 L [.agg (cV f), .agg (bw k), .int .i64 bits] (.tuple #[.agg (av (oV (aJ f) k bits)), .int .i64 (qz (aJ f) k bits)]) (True):=⟨fun aw w hw=>by
 have hf:=hf.h w hw;have D8:cw w f:=⟨hf⟩;refine rr Tryz.func27 rfl Tryz.ntmps27 rfl ?_;refine Gc ?_;refine bJ rfl fun b3=>bJ rfl fun b4=>bc fun b6=>aQ ?_;refine Gb ?_ ?_<;>intro h0
 ·
  refine Gc ?_;refine ae (cX rfl) (aj ?_);refine Gr fun w1 hw=>?_;exact⟨(by rw[oV,qz,if_neg (by rw[h0];simp),if_neg (by rw[h0];simp)]),ag.mem hw⟩
 refine aQ ?_;refine ae (ax (v:= .agg (av (yB f.table.xs k bits))) rfl rfl) (ae (ax (v:= .int .i64 (uS f.table.xs k bits)) rfl rfl) (aj ?_));refine Gr fun w1 hw=>?_;exact⟨(by rw[oV,qz,if_pos h0,if_pos h0];rfl),ag.mem hw⟩⟩
theorem aba(w0 w:World)[tb:gS w0](L:List ah)(k:Nat)(xf:bM)(xb:Sl Ch)(xa:Option Nat)(xt:Sl UInt8)(x:aO)(hw:Mem w0 (al k (bR (⟨xf,xb,xa,xt⟩:bP)) 174::fz xf::c8 5 xt.sv xt.xs::L) w)(aw:xt.xs.length<=800000000/\(xa=none\/xa=Option.some k)):Calls Tryz.prog 158 #[.pointer (some ⟨k,0,none⟩), .agg (aZ x)] w fun e w'=> ∃U:Sv,e= .returned (.tuple #[])/\(True)/\Mem w0 (al k (bR (⟨xf,xb,(Option.some k),⟨U,(mn (⟨aJ xf,xb.xs,xt.xs⟩:bq) x).told⟩⟩:bP)) 174::fz xf::c8 5 U (mn (⟨aJ xf,xb.xs,xt.xs⟩:bq) x).told::L) w':=by
 obtain⟨wJ,eQ⟩:=aw;have mW:=CJ (oV (aJ xf) x.key x.bits);refine fI (args:=[_,_]) Tryz.func158 rfl Tryz.ntmps158 rfl hw ?_;change Cw _ _ _ _ _ [(0, .pointer (some ⟨k,0,none⟩)),(1, .agg (aZ x))] (al k (bR (⟨xf,xb,xa,xt⟩:bP)) 174::fz xf::c8 5 xt.sv xt.xs::L);refine Gc ?_;refine bJ rfl fun b3=>Gc ?_;refine nN [12,13,2012] [[],[],[],[],[],[],[],[],[],[],[],[],[],[12],[12,13]] [0,1,2,3,4,5,6,7,8,9,10,11,12,13,14] [al k (bR (⟨xf,xb,xa,xt⟩:bP)) 174,fz xf,c8 5 xt.sv xt.xs,al b3 (aZ x) 73] [(12,km Tryz.prog 34)] oK (fun _ hw=>ag.mem hw) oK oK (ak rfl (ba rfl) (ak rfl (fa rfl) (ak rfl (aK (o':=0) rfl rfl) (ak rfl (Ry.to (v':= .agg (cV xf)) (dy rfl) rfl) (ak rfl (aK (o':=20) rfl rfl) (ak rfl (dy rfl) (ak rfl (aK (o':=36) rfl rfl) (ak rfl (bA rfl) (qi rfl (br rfl trivial) (ak rfl (ba rfl) (ak rfl (ax (v:= .agg (av (oV (aJ xf) x.key x.bits))) rfl rfl) (ak rfl (ax (v:= .int .i64 (qz (aJ xf) x.key x.bits)) rfl rfl) ?_))))))))))));refine mL (m:=km Tryz.prog 34) rfl rfl ko (Cert.none rfl) fun b4=>?_;change Ln _ _ _ _ _ _ _ _ (bZ _ _ (.pointer (some ⟨b4,0,none⟩))) (al b4 (av bp) 34::_) _;refine cC rfl (lV rfl rfl ⟨fun _ hw=>ag.mem hw,?_⟩);refine ak rfl (fG rfl) (an ?_);refine Gb ?_ ?_<;>intro h0
 ·
  have hE:(mn (⟨aJ xf,xb.xs,xt.xs⟩:bq) x).told=xt.xs++kb [] (qz (aJ xf) x.key x.bits)++[10]:=by rw[mn,if_pos h0];rfl
  rw[hE];refine aj ?_;refine aW rfl ⟨by simp only[af0];omega,eQ,YX _ _ _⟩ fun k8 AV=>Gc ?_;refine cY (.inl rfl) (iJ rfl) (fun w1 hw=>?_);exact⟨k8,rfl,trivial,ag.mem hw⟩
 have hE:(mn (⟨aJ xf,xb.xs,xt.xs⟩:bq) x).told=xt.xs++kb (iG (oV (aJ xf) x.key x.bits)) (eo (bO (oV (aJ xf) x.key x.bits).p))++[10]:=by rw[mn,if_neg (fun g=>g h0)];rfl
 rw[hE];refine an ?_;refine ae (ax (v:= .string ⟨(iG (oV (aJ xf) x.key x.bits)).toArray⟩) rfl rfl) (ae (ax (v:= .int .i64 (eo (bO (oV (aJ xf) x.key x.bits).p))) rfl rfl) (aQ ?_));refine aW rfl ⟨by omega,eQ,HX _⟩ fun az uX=>Gi ?_;refine cY (.inr rfl) (iJ rfl) (fun w1 hw=>?_);exact⟨az,rfl,trivial,ag.mem hw⟩
instance alr{w0:World}[tb:gS w0]{L R1 R2 L2:List ah}{i0 i1 i2:Nat}{k:Nat}{xf:bM}{xb:Sl Ch}{xa:Option Nat}{xt:Sl UInt8}{x:aO}[q0:Has L k (bR (⟨xf,xb,xa,xt⟩:bP)) 174 i0][d0:bW L i0 R1][q1:At R1 (fz xf) i1][d1:bW R1 i1 R2][q2:kr R2 xt.sv 5 xt.xs i2][d2:bW R2 i2 L2]:bK Tryz.prog 158 w0 L [.pointer (some ⟨k,0,none⟩), .agg (aZ x)] (Sv) (fun U=> .tuple #[]) (fun U=>al k (bR (⟨xf,xb,(Option.some k),⟨U,(mn (⟨aJ xf,xb.xs,xt.xs⟩:bq) x).told⟩⟩:bP)) 174::fz xf::c8 5 U (mn (⟨aJ xf,xb.xs,xt.xs⟩:bq) x).told::L2) (fun U=>True) (xt.xs.length<=800000000/\(xa=none\/xa=Option.some k)):=⟨fun hp w hw=>aba w0 w L2 k xf xb xa xt x (tB q0.h d0.h q1.h d1.h q2.h d2.h hw) hp⟩
theorem abb{w0 w:World}{L:List ah}{f:bM}{a:Sl Ft}(h:Mem w0 (fz f::own cO 4 a.sv a.xs::L) w):Mem w0 (fz (⟨⟨⟨f.aq.ai.ab,f.aq.ai.size,f.aq.ai.blocks,f.aq.ai.ops,f.aq.ai.off,a⟩,f.aq.at_,f.aq.gen,f.aq.last⟩,f.table⟩:bM)::L) w:=by
 have h2:=(GK (a:=a) (h.perm (List.Perm.swap _ _ _))).perm (List.Perm.swap _ _ _);have hf:=h2.sat (fz f) (by simp);refine Mem.freeze (es:=[fz f,fz a]) _ ⟨⟨⟨hf.1.1.1,h2.sat (fz a) (by simp)⟩,hf.1.2⟩,hf.2⟩ (fun k hk=>?_) h2;rcases hk with((hk|hk)|hk)|hk
 ·
  exact⟨fz f,by simp, .inl (.inl (.inl hk))⟩
 ·
  exact⟨fz a,by simp,hk⟩
 ·
  exact⟨fz f,by simp, .inl (.inr hk)⟩
 exact⟨fz f,by simp, .inr hk⟩
theorem abc(w0 w:World)[tb:gS w0](L:List ah)(k:Nat)(xf:bM)(xb:Sl Ch)(xa:Option Nat)(xt:Sl UInt8)(x:aO)(hw:Mem w0 (al k (bR (⟨xf,xb,xa,xt⟩:bP)) 174::fz xf::L) w)(aw:fe xf.aq.ai/\xf.aq.ai.ops+x.n.toInt<=9223372036854775807/\ -9223372036854775808<=xf.aq.ai.ops+x.n.toInt):Calls Tryz.prog 159 #[.pointer (some ⟨k,0,none⟩), .agg (aZ x)] w fun e w'=> ∃U:bM,e= .returned (.tuple #[])/\(aJ U=(qE (⟨aJ xf,xb.xs,xt.xs⟩:bq) x).f)/\Mem w0 (al k (bR (⟨U,xb,xa,xt⟩:bP)) 174::fz U::L) w':=by
 obtain⟨fY,Hv,DO⟩:=aw;have hcf:(aJ xf).aq.ai.bb.length=xf.aq.ai.bb.xs.length:=rfl;refine fI (args:=[_,_]) Tryz.func159 rfl Tryz.ntmps159 rfl hw ?_;change Cw _ _ _ _ _ [(0, .pointer (some ⟨k,0,none⟩)),(1, .agg (aZ x))] (al k (bR (⟨xf,xb,xa,xt⟩:bP)) 174::fz xf::L);refine Gc ?_;refine bJ rfl fun b3=>ou ?_;refine ae (Ry.to (v':=xf.aq.ai.bb.sv.val) (bA rfl) rfl) (aj ?_);refine Gb ?_ ?_<;>intro h0
 ·
  have hE:(qE (⟨aJ xf,xb.xs,xt.xs⟩:bq) x).f=aJ xf:=by rw[qE,if_pos (by show 64<=(aJ xf).aq.ai.bb.length;omega)]
  refine Gc ?_;refine cY (.inl rfl) (iJ rfl) (fun w1 hw=>?_);exact⟨xf,rfl,hE.symm,ag.mem hw⟩
 have hE:(qE (⟨aJ xf,xb.xs,xt.xs⟩:bq) x).f=⟨{(aJ xf).aq with ai:=OV (aJ xf).aq.ai x},(aJ xf).table⟩:=by rw[qE,if_neg (by show ¬64<=(aJ xf).aq.ai.bb.length;omega)]
 refine Gc ?_;refine gB [14,15] [[],[],[],[],[],[],[],[],[],[],[],[],[],[],[],[14]] [0,1,2,3,4,5,6,7,8,9,10,11,12,13,14,15] [al k (bR (⟨xf,xb,xa,xt⟩:bP)) 174,fz xf,al b3 (aZ x) 73] (fun _ hw=>ag.mem hw) oK oK (ak rfl (ba rfl) (ak rfl (fa rfl) (ak rfl (aK (o':=3) rfl rfl) (ak rfl (Ry.to (v':= .int .i64 xf.aq.ai.ops) (bA rfl) rfl) (ak rfl (aK (o':=37) rfl rfl) (ak rfl (bA rfl) (ak rfl (zr rfl rfl oM) (ak rfl (aK (o':=0) rfl rfl) (ak rfl (bA rfl) (ak rfl (da rfl rfl rfl) (ak rfl (aK (o':=0) rfl rfl) (ak rfl (bA rfl) ?_))))))))))));refine ak rfl (da rfl rfl rfl) (ak rfl (cr (v:= .agg (cO (⟨xf.aq.ai.ops+x.n.toInt,decide (x.kind=6),decide (x.kind=5),0⟩:Ft))) rfl (fun w=>by kernel_rfl)) (cC rfl (Cz fun b5=>⟨fun _ hw=>ag.mem hw,?_⟩)));refine cC rfl (lV rfl rfl ⟨fun _ hw=>ag.mem hw,?_⟩);refine Gc ?_;refine nN [5,7,8,11,1004,2007,4005] [[],[],[],[],[],[4],[],[],[4,5,7],[4,5,7,8],[4,5,7,8],[4,5,7,8]] [0,1,2,3,4,6,5,7,8,9,10,11] [al b5 (cO (⟨xf.aq.ai.ops+x.n.toInt,decide (x.kind=6),decide (x.kind=5),0⟩:Ft)) 97] [(7,nM cO 4 1 [(⟨xf.aq.ai.ops+x.n.toInt,decide (x.kind=6),decide (x.kind=5),0⟩:Ft)])] oK (fun _ hw=>ag.mem hw) oK oK (ak rfl (ba rfl) (ak rfl (ba rfl) (ak rfl (fa rfl) (ak rfl (aK (o':=5) rfl rfl) (fh rfl (Ry.to (v':=xf.aq.ai.bb.sv.val) (bA rfl) rfl) (ak rfl (fu rfl) ?_))))));refine sV rfl rfl oM (fun e x w hw=>ag.mem hw) (Cert.one (i:=7) rfl rfl rfl (xK (enc:=cO) (c:=4) (n:=1) (vals:=[.agg (cO (⟨xf.aq.ai.ops+x.n.toInt,decide (x.kind=6),decide (x.kind=5),0⟩:Ft))]) [(⟨xf.aq.ai.ops+x.n.toInt,decide (x.kind=6),decide (x.kind=5),0⟩:Ft)] rfl rfl rfl (by decide) (by decide)) (Cert.none rfl)) fun Iw ZW=>⟨fun _ hw=>ag.mem hw,?_⟩;refine mL (m:=nM cO 4 1 [(⟨xf.aq.ai.ops+x.n.toInt,decide (x.kind=6),decide (x.kind=5),0⟩:Ft)]) rfl rfl (xK (enc:=cO) (c:=4) (n:=1) (vals:=[.agg (cO (⟨xf.aq.ai.ops+x.n.toInt,decide (x.kind=6),decide (x.kind=5),0⟩:Ft))]) [(⟨xf.aq.ai.ops+x.n.toInt,decide (x.kind=6),decide (x.kind=5),0⟩:Ft)] rfl rfl rfl (by decide) (by decide)) (Cert.none rfl) fun Ea=>?_;change Ln _ _ _ _ _ _ _ _ (bZ _ _ (Sv.val ⟨false,Ea,0,1,1,none⟩)) (own cO 4 ⟨false,Ea,0,1,1,none⟩ [(⟨xf.aq.ai.ops+x.n.toInt,decide (x.kind=6),decide (x.kind=5),0⟩:Ft)]::_) _;refine cC rfl (CA (s:=Iw) (ys:=[(⟨xf.aq.ai.ops+x.n.toInt,decide (x.kind=6),decide (x.kind=5),0⟩:Ft)]) rfl rfl (by decide) (fun w hw=>gP (s:=⟨false,Ea,0,1,1,none⟩) Tryz.underlying57 (by decide) ((inferInstance:Hd _ _ ⟨false,Ea,0,1,1,none⟩ cO 4 [(⟨xf.aq.ai.ops+x.n.toInt,decide (x.kind=6),decide (x.kind=5),0⟩:Ft)]).h w hw)) (by simp only[adr,ad2,af0];omega) (by simp only[adr,ad2,af0];omega) fun Bt P7 als=>⟨fun _ hw=>ag.mem hw,?_⟩);refine ak rfl (fa rfl) (ak rfl (aK (o':=5) rfl rfl) ?_);refine cC rfl (rn (cs':=bR (⟨(⟨⟨(⟨xf.aq.ai.ab,xf.aq.ai.size,xf.aq.ai.blocks,xf.aq.ai.ops,xf.aq.ai.off,⟨Bt,xf.aq.ai.bb.xs++[(⟨xf.aq.ai.ops+x.n.toInt,decide (x.kind=6),decide (x.kind=5),0⟩:Ft)]⟩⟩:Cp),xf.aq.at_,xf.aq.gen,xf.aq.last⟩,xf.table⟩:bM),xb,xa,xt⟩:bP)) rfl rfl (by show 5<13;decide) (by first|rfl|exact Sv.one _) rfl ⟨fun _ hw=>ag.mem hw,?_⟩);refine Gi ?_;refine cY (.inr rfl) (iJ rfl) (fun w1 hw=>?_);exact⟨(⟨⟨(⟨xf.aq.ai.ab,xf.aq.ai.size,xf.aq.ai.blocks,xf.aq.ai.ops,xf.aq.ai.off,⟨Bt,xf.aq.ai.bb.xs++[(⟨xf.aq.ai.ops+x.n.toInt,decide (x.kind=6),decide (x.kind=5),0⟩:Ft)]⟩⟩:Cp),xf.aq.at_,xf.aq.gen,xf.aq.last⟩,xf.table⟩:bM),rfl,by rw[hE];rfl,(abb (f:=xf) (a:=⟨Bt,xf.aq.ai.bb.xs++[(⟨xf.aq.ai.ops+x.n.toInt,decide (x.kind=6),decide (x.kind=5),0⟩:Ft)]⟩) (ag.mem hw:Mem w0 (fz xf::own cO 4 Bt (xf.aq.ai.bb.xs++[(⟨xf.aq.ai.ops+x.n.toInt,decide (x.kind=6),decide (x.kind=5),0⟩:Ft)])::al k (bR (⟨(⟨⟨(⟨xf.aq.ai.ab,xf.aq.ai.size,xf.aq.ai.blocks,xf.aq.ai.ops,xf.aq.ai.off,⟨Bt,xf.aq.ai.bb.xs++[(⟨xf.aq.ai.ops+x.n.toInt,decide (x.kind=6),decide (x.kind=5),0⟩:Ft)]⟩⟩:Cp),xf.aq.at_,xf.aq.gen,xf.aq.last⟩,xf.table⟩:bM),xb,xa,xt⟩:bP)) 174::L) _)).perm (List.Perm.swap _ _ _)⟩
instance alu{w0:World}[tb:gS w0]{L R1 L2:List ah}{i0 i1:Nat}{k:Nat}{xf:bM}{xb:Sl Ch}{xa:Option Nat}{xt:Sl UInt8}{x:aO}[q0:Has L k (bR (⟨xf,xb,xa,xt⟩:bP)) 174 i0][d0:bW L i0 R1][q1:At R1 (fz xf) i1][d1:bW R1 i1 L2]:bK Tryz.prog 159 w0 L [.pointer (some ⟨k,0,none⟩), .agg (aZ x)] (bM) (fun U=> .tuple #[]) (fun U=>al k (bR (⟨U,xb,xa,xt⟩:bP)) 174::fz U::L2) (fun U=>aJ U=(qE (⟨aJ xf,xb.xs,xt.xs⟩:bq) x).f) (fe xf.aq.ai/\xf.aq.ai.ops+x.n.toInt<=9223372036854775807/\ -9223372036854775808<=xf.aq.ai.ops+x.n.toInt):=⟨fun hp w hw=>abc w0 w L2 k xf xb xa xt x (mM q0.h d0.h q1.h d1.h hw) hp⟩
theorem abd(w0 w:World)[tb:gS w0](L:List ah)(k:Nat)(xf:bM)(xb:Sl Ch)(xa:Option Nat)(xt:Sl UInt8)(hw:Mem w0 (al k (bR (⟨xf,xb,xa,xt⟩:bP)) 174::fz xf::c8 5 xt.sv xt.xs::L) w)(aw:fe xf.aq.ai/\xt.xs.length<=800000000/\(xa=none\/xa=Option.some k)):Calls Tryz.prog 160 #[.pointer (some ⟨k,0,none⟩)] w fun e w'=> ∃U:bM×Sv,e= .returned (.tuple #[])/\(aJ U.1=(kc (⟨aJ xf,xb.xs,xt.xs⟩:bq)).f)/\Mem w0 (al k (bR (⟨U.1,xb,(Option.some k),⟨U.2,(kc (⟨aJ xf,xb.xs,xt.xs⟩:bq)).told⟩⟩:bP)) 174::fz U.1::c8 5 U.2 (kc (⟨aJ xf,xb.xs,xt.xs⟩:bq)).told::L) w':=by
 obtain⟨fY,wJ,eQ⟩:=aw;refine fI (args:=[_]) Tryz.func160 rfl Tryz.ntmps160 rfl hw ?_;change Cw _ _ _ _ _ [(0, .pointer (some ⟨k,0,none⟩))] (al k (bR (⟨xf,xb,xa,xt⟩:bP)) 174::fz xf::c8 5 xt.sv xt.xs::L);refine aQ ?_;refine ae (Ry.to (v':= .agg (aS xf.aq.ai)) (dy rfl) rfl) (aW (vs:=[_,Sv.none.val]) rfl fY fun nV qG=>?_);have abe:cv nV=oC (aJ xf).aq.ai []:=qG;clear qG;have qG:=abe;refine Gs ?_;refine ae (ax (v:= .agg (aS nV)) rfl rfl) (ae (ax (v:= .int .i64 (lX (cv xf.aq.ai) [])) rfl rfl) (bc fun b2=>aQ ?_));refine Gb ?_ ?_<;>intro h0
 ·
  have mv:lX (aJ xf).aq.ai []=0:=h0;refine Gc ?_;refine bc fun b4=>ao ?_;refine aW rfl trivial fun yZ P8=>Gs ?_;refine ae (ax (v:= .agg (cV yZ)) rfl rfl) (ae (ax (v:= .int .i64 ((c6 (cv nV)).2)) rfl rfl) (aQ ?_));refine Gb ?_ ?_<;>intro h1
  ·
   have qO:(c6 (oC (aJ xf).aq.ai [])).2=0:=by rw[←qG];exact h1
   have hE:kc (⟨aJ xf,xb.xs,xt.xs⟩:bq)=mj {(⟨aJ xf,xb.xs,xt.xs⟩:bq)with f:=(c6 (oC (aJ xf).aq.ai [])).1} tC 0:=by rw[kc,if_neg (fun g=>g mv),if_neg (fun g=>g qO)]
   have hT:(kc (⟨aJ xf,xb.xs,xt.xs⟩:bq)).told=xt.xs++kb [111,107] (c6 (cv nV)).2++[10]:=by rw[hE,qG,qO];rfl
   rw[hT];refine Gi ?_;refine an ?_;refine lL (cs':=bR (⟨yZ,xb,xa,xt⟩:bP)) rfl rfl (by show 0+10<=13;decide) rfl (aj ?_);refine aW rfl ⟨by simp only[ad2,af0];omega,eQ,by first|exact HW _ _|exact HV _⟩ fun jy sj=>Gi ?_;refine cY (.inr rfl) (iJ rfl) (fun w1 hw=>?_);exact⟨(yZ,jy),rfl,by rw[hE,P8,qG];rfl,ag.mem hw⟩
  have qO:(c6 (oC (aJ xf).aq.ai [])).2≠0:=by rw[←qG];exact h1
  have hE:kc (⟨aJ xf,xb.xs,xt.xs⟩:bq)=mj (⟨aJ xf,xb.xs,xt.xs⟩:bq) tC (c6 (oC (aJ xf).aq.ai [])).2:=by rw[kc,if_neg (fun g=>g mv),if_pos qO]
  have hT:(kc (⟨aJ xf,xb.xs,xt.xs⟩:bq)).told=xt.xs++kb [111,107] (c6 (cv nV)).2++[10]:=by rw[hE,qG];rfl
  rw[hT];refine aj ?_;refine aW rfl ⟨by simp only[ad2,af0];omega,eQ,by first|exact HW _ _|exact HV _⟩ fun jy sj=>Gi ?_;refine cY (.inr rfl) (iJ rfl) (fun w1 hw=>?_);exact⟨(xf,jy),rfl,by rw[hE];rfl,ag.mem hw⟩
 have mv:lX (aJ xf).aq.ai []≠0:=h0;have hE:kc (⟨aJ xf,xb.xs,xt.xs⟩:bq)=mj (⟨aJ xf,xb.xs,xt.xs⟩:bq) tC (lX (aJ xf).aq.ai []):=by rw[kc,if_pos mv]
 have hT:(kc (⟨aJ xf,xb.xs,xt.xs⟩:bq)).told=xt.xs++kb [111,107] (lX (cv xf.aq.ai) [])++[10]:=by rw[hE];rfl
 rw[hT];refine aj ?_;refine aW rfl ⟨by simp only[ad2,af0];omega,eQ,by first|exact HW _ _|exact HV _⟩ fun jy sj=>Gi ?_;refine cY (.inr rfl) (iJ rfl) (fun w1 hw=>?_);exact⟨(xf,jy),rfl,by rw[hE];rfl,ag.mem hw⟩
instance alv{w0:World}[tb:gS w0]{L R1 R2 L2:List ah}{i0 i1 i2:Nat}{k:Nat}{xf:bM}{xb:Sl Ch}{xa:Option Nat}{xt:Sl UInt8}[q0:Has L k (bR (⟨xf,xb,xa,xt⟩:bP)) 174 i0][d0:bW L i0 R1][q1:At R1 (fz xf) i1][d1:bW R1 i1 R2][q2:kr R2 xt.sv 5 xt.xs i2][d2:bW R2 i2 L2]:bK Tryz.prog 160 w0 L [.pointer (some ⟨k,0,none⟩)] (bM×Sv) (fun U=> .tuple #[]) (fun U=>al k (bR (⟨U.1,xb,(Option.some k),⟨U.2,(kc (⟨aJ xf,xb.xs,xt.xs⟩:bq)).told⟩⟩:bP)) 174::fz U.1::c8 5 U.2 (kc (⟨aJ xf,xb.xs,xt.xs⟩:bq)).told::L2) (fun U=>aJ U.1=(kc (⟨aJ xf,xb.xs,xt.xs⟩:bq)).f) (fe xf.aq.ai/\xt.xs.length<=800000000/\(xa=none\/xa=Option.some k)):=⟨fun hp w hw=>abd w0 w L2 k xf xb xa xt (tB q0.h d0.h q1.h d1.h q2.h d2.h hw) hp⟩
end Go.Proofs.YtkggjjnhnjjokaaGreatDoor
namespace Go.Kb
variable {t:List Rt} {k:Key} {bits:Int}
variable {t u:List Rt} {r:Rt} {k:Key} {bits:Int}
variable {t u:List Rt} {r:Rt} {q p:cz}
open Go.ay
theorem abf{line:aB}{e:Int}(hl:line.length<=42)(he:Er e):(kb line e).length<=42:=by
 rw[kb];split
 ·
  have h1:=iV 1 e.toNat (by have:=he.1;have:=he.2;omega) (by decide);rw[adr];have:OU.length=6:=rfl;omega
 exact hl
theorem abg(p:bq){line:aB}{e:Int}(hl:line.length<=42)(he:Er e):(mj p line e).told.length<=p.told.length+43:=by
 have:=abf hl he;simp only[mj,nT,adr,ad2,af0];omega
theorem Eb: ∀(l:List Rt) (p:bq),(l.foldl nU p).f=p.f/\(l.foldl nU p).batch=p.batch/\(l.foldl nU p).told.length<=p.told.length+43*l.length
 |[],p=>⟨rfl,rfl,amz _⟩
 |r::l,p=>by
  obtain⟨h1,h2,h3⟩:=Eb l (nU p r);have h4:(nU p r).told.length<=p.told.length+43:=abg p (CJ r) (HX _);refine⟨h1,h2,?_⟩;simp only[aoq,ad2];omega
end Go.Kb
namespace Go.Proofs.YtkggjjnhnjjokaaGreatDoor
open Go.ay Go.Kb Go.RowKit
theorem abh(w0 w:World)[tb:gS w0](L:List ah)(k:Nat)(xf:bM)(xb:Sl Ch)(xa:Option Nat)(xt:Sl UInt8)(hw:Mem w0 (al k (bR (⟨xf,xb,xa,xt⟩:bP)) 174::fz xf::c8 5 xt.sv xt.xs::L) w)(aw:xf.table.xs.length<=1000000/\xt.xs.length<=800000000/\(xa=none\/xa=Option.some k)):Calls Tryz.prog 161 #[.pointer (some ⟨k,0,none⟩)] w fun e w'=> ∃U:Sv,e= .returned (.tuple #[])/\(True)/\Mem w0 (al k (bR (⟨xf,xb,(Option.some k),⟨U,(pK (⟨aJ xf,xb.xs,xt.xs⟩:bq)).told⟩⟩:bP)) 174::fz xf::c8 5 U (pK (⟨aJ xf,xb.xs,xt.xs⟩:bq)).told::L) w':=by
 obtain⟨fY,wJ,eQ⟩:=aw;have uY:=iV 7 xf.table.xs.length oM (by decide);have vh:((nT (⟨aJ xf,xb.xs,xt.xs⟩:bq) (rX++dec xf.table.xs.length))).told.length<=xt.xs.length+15:=by
  show(xt.xs++([114,111,117,116,101,115,32]++dec xf.table.xs.length)++[10]).length<=_;simp only[adr,ad2,af0];omega
 refine fI (args:=[_]) Tryz.func161 rfl Tryz.ntmps161 rfl hw ?_;change Cw _ _ _ _ _ [(0, .pointer (some ⟨k,0,none⟩))] (al k (bR (⟨xf,xb,xa,xt⟩:bP)) 174::fz xf::c8 5 xt.sv xt.xs::L);refine aQ ?_;refine ae (Ry.to (v':=xf.table.sv.val) (bA rfl) rfl) (Gs ?_);refine ck (br rfl (by first|omega|exact Nat.lt_trans (UInt8.toNat_lt _) (by decide)|exact Nat.lt_trans (UInt16.toNat_lt _) (by decide))) (ae (jC rfl rfl (by simp only[List.length_cons,List.length_nil];omega)) (aW rfl ⟨by simp only[List.length_append,List.length_cons,List.length_nil];omega,eQ⟩ fun tP P9=>aG ?_));refine ae (Ry.to (v':=xf.table.sv.val) (bA rfl) rfl) (aj ?_);refine bI (X:=Nat×Sv) (fun U=>[(22, .int .i64 (U.1:Nat)),(0, .pointer (some ⟨k,0,none⟩)),(20,xf.table.sv.val),(21, .int .i64 (xf.table.xs.length:Nat))]) (fun U=>al k (bR (⟨xf,xb,(Option.some k),⟨U.2,((xf.table.xs.take U.1).foldl nU (nT (⟨aJ xf,xb.xs,xt.xs⟩:bq) (rX++dec xf.table.xs.length))).told⟩⟩:bP)) 174::fz xf::c8 5 U.2 (((xf.table.xs.take U.1).foldl nU (nT (⟨aJ xf,xb.xs,xt.xs⟩:bq) (rX++dec xf.table.xs.length))).told)::L) (fun U=>U.1<=xf.table.xs.length) (fun U=>xf.table.xs.length -U.1) (0,tP) (Nat.zero_le _) sb (fun w hw=>(show Mem w0 (al k (bR (⟨xf,xb,(Option.some k),⟨tP,((xf.table.xs.take 0).foldl nU (nT (⟨aJ xf,xb.xs,xt.xs⟩:bq) (rX++dec xf.table.xs.length))).told⟩⟩:bP)) 174::fz xf::c8 5 tP (((xf.table.xs.take 0).foldl nU (nT (⟨aJ xf,xb.xs,xt.xs⟩:bq) (rX++dec xf.table.xs.length))).told)::L) _ from(ag.mem hw:Mem w0 (al k (bR (⟨xf,xb,(Option.some k),⟨tP,xt.xs++([114,111,117,116,101,115,32]++dec xf.table.xs.length)++[10]⟩⟩:bP)) 174::fz xf::c8 5 tP (xt.xs++([114,111,117,116,101,115,32]++dec xf.table.xs.length)++[10])::L) _))) ?_;rintro⟨i,u⟩ bf;dsimp only;simp only at bf;have hrf:=(Eb (xf.table.xs.take i) (nT (⟨aJ xf,xb.xs,xt.xs⟩:bq) (rX++dec xf.table.xs.length))).2.2;rw[List.length_take]at hrf;refine aj ?_;refine Gb ?_ ?_<;>intro h0
 ·
  refine FZ ?_;have abi: ∀r,xf.table.xs[i]? =some r->((xf.table.xs.take (i+1)).foldl nU (nT (⟨aJ xf,xb.xs,xt.xs⟩:bq) (rX++dec xf.table.xs.length))).told=((xf.table.xs.take i).foldl nU (nT (⟨aJ xf,xb.xs,xt.xs⟩:bq) (rX++dec xf.table.xs.length))).told++kb (iG r) (eo (bO r.p))++[10]:=by
   intro r hr;rw[amq,hr,anT];rfl
  refine Gi ?_;obtain⟨r,hr⟩:=get_some (xs:=xf.table.xs) (i:=i) oM;refine ae (aY rfl rfl i rfl oM) (ae (gq rfl i hr rfl) (bc fun b3=>aG ?_));refine ae (ax (v:= .string ⟨(iG r).toArray⟩) rfl rfl) (ae (ax (v:= .int .i64 (eo (bO r.p))) rfl rfl) (aQ ?_));refine aW rfl ⟨by have mW:=CJ r;simp only;omega, .inr rfl,HX _⟩ fun lJ DV=>aj ?_;refine Gi ?_;exact bg (x:=(i,u)) (i+1,lJ) (by simp only;omega) (by simp only;omega) sb (fun w hw=>by simp only[abi r hr];exact ag.mem hw)
 obtain rfl:i=xf.table.xs.length:=by omega
 have hD:(pK (⟨aJ xf,xb.xs,xt.xs⟩:bq)).told=((xf.table.xs.take xf.table.xs.length).foldl nU (nT (⟨aJ xf,xb.xs,xt.xs⟩:bq) (rX++dec xf.table.xs.length))).told:=by rw[amN];rfl
 rw[hD];refine Gc ?_;refine cY (.inr rfl) (iJ rfl) (fun w1 hw=>?_);exact⟨u,rfl,trivial,ag.mem hw⟩
instance alw{w0:World}[tb:gS w0]{L R1 R2 L2:List ah}{i0 i1 i2:Nat}{k:Nat}{xf:bM}{xb:Sl Ch}{xa:Option Nat}{xt:Sl UInt8}[q0:Has L k (bR (⟨xf,xb,xa,xt⟩:bP)) 174 i0][d0:bW L i0 R1][q1:At R1 (fz xf) i1][d1:bW R1 i1 R2][q2:kr R2 xt.sv 5 xt.xs i2][d2:bW R2 i2 L2]:bK Tryz.prog 161 w0 L [.pointer (some ⟨k,0,none⟩)] (Sv) (fun U=> .tuple #[]) (fun U=>al k (bR (⟨xf,xb,(Option.some k),⟨U,(pK (⟨aJ xf,xb.xs,xt.xs⟩:bq)).told⟩⟩:bP)) 174::fz xf::c8 5 U (pK (⟨aJ xf,xb.xs,xt.xs⟩:bq)).told::L2) (fun U=>True) (xf.table.xs.length<=1000000/\xt.xs.length<=800000000/\(xa=none\/xa=Option.some k)):=⟨fun hp w hw=>abh w0 w L2 k xf xb xa xt (tB q0.h d0.h q1.h d1.h q2.h d2.h hw) hp⟩
theorem Qa(v:ca)(w:World):(Instr.build 65 #[(0, .agg (cj v))]).run Tryz.prog w= .ok (.agg (cV ⟨v,⟨Sv.none,[]⟩⟩)) w:=by
 obtain⟨⟨a1,a2,⟨a3,a4⟩,a5,a6,⟨a7,a8⟩⟩,⟨a9,a10⟩,a11,a12⟩:=v;unfold cV cj;obtain⟨e3,b3,o3,l3,c3,p3⟩:=a3;obtain⟨e7,b7,o7,l7,c7,p7⟩:=a7;obtain⟨e9,b9,o9,l9,c9,p9⟩:=a9
 cases e3<;>cases e7<;>cases e9<;>kernel_rfl
theorem Qb{w0 w:World}{L:List ah}{v:ca}(h:Mem w0 (fz v.ai::fz v.at_::L) w):Mem w0 (fz (⟨v,⟨Sv.none,[]⟩⟩:bM)::L) w:=
 Dy (f:=⟨v,⟨Sv.none,[]⟩⟩) ((AL (a:=⟨Sv.none,[]⟩) (Mem.cJ av 19 h)).perm ((List.Perm.swap _ _ _).trans (List.Perm.cons _ (List.Perm.swap _ _ _))))
variable {w0:World}{L:List ah}
instance alx{c:Cp}[hc:aU w0 L c]:bK Tryz.prog 38 w0 L [.agg (aS c)] (bM) (fun U=> .tuple #[.agg (cV U), .int .i64 ((pG (cv c)).2)]) (fun U=>fz U::L) (fun U=>aJ U=(pG (cv c)).1) (fe c):=⟨fun aw w hw=>Gk (fun U=>[fz U]) hw (by
 have hc:=hc.h w hw;have jS:cw w c:=⟨hc⟩;have fY:fe c:=aw;refine bQ Tryz.func38 rfl Tryz.ntmps38 rfl ?_;refine Gc ?_;refine bJ rfl fun b1=>bc fun b2=>aQ ?_;refine Gb ?_ ?_<;>intro h0
 ·
  have hE:pG (cv c)=(⟨⟨cv c,[],0,0⟩,[]⟩,1):=by rw[pG,if_pos h0]
  refine ao ?_;refine aW rfl (by assumption) fun wY abj=>ae (cr (v:= .agg (cj (⟨wY,⟨Sv.none,[]⟩,0,0⟩:ca))) rfl (Bn wY)) (ae (cr (v:= .agg (cV (⟨(⟨wY,⟨Sv.none,[]⟩,0,0⟩:ca),⟨Sv.none,[]⟩⟩:bM))) rfl (Qa (⟨wY,⟨Sv.none,[]⟩,0,0⟩:ca))) (aj ?_));refine Gr fun w1 hw=>?_;exact⟨(⟨(⟨wY,⟨Sv.none,[]⟩,0,0⟩:ca),⟨Sv.none,[]⟩⟩:bM),by rw[hE],by rw[hE];simp only[aJ,vv,abj];rfl,Qb (v:=(⟨wY,⟨Sv.none,[]⟩,0,0⟩:ca)) (ag.mem (Bp (ag.mem hw:Mem w [fz wY] _)))⟩
 have hE:pG (cv c)=(⟨(np (cv c) (gW (cv c))).1,[]⟩,(np (cv c) (gW (cv c))).2):=by rw[pG,if_neg h0]
 refine Gc ?_;refine nN [3,7,8,2007,4003] [[],[],[],[],[3],[3],[3],[],[3,7],[3,7,8]] [0,1,2,3,4,5,6,7,8,9] [al b1 (aS c) 59] [(7,km Tryz.prog 63)] oK (fun _ hw=>ag.mem hw) oK oK (ak rfl (fu rfl) (ak rfl (fu rfl) (qi rfl (br rfl trivial) ?_)));refine sV rfl rfl (by assumption) (fun e x w hw=>ag.mem hw) (Cert.one (i:=7) rfl rfl rfl ko (Cert.none rfl)) fun fZ D1=>⟨fun _ hw=>ag.mem hw,?_⟩;refine ak rfl (ba rfl) (ak rfl (ax (v:= .agg (cj (⟨fZ.1,fZ.2.1,fZ.2.2.1,fZ.2.2.2⟩:ca))) rfl rfl) (ak rfl (ax (v:= .int .i64 ((np (cv c) (gW (cv c))).2)) rfl rfl) (mL (m:=km Tryz.prog 63) rfl rfl ko (Cert.none rfl) fun b4=>?_)));change Ln _ _ _ _ _ _ _ _ (bZ _ _ (.pointer (some ⟨b4,0,none⟩))) (al b4 (cj kv) 63::_) _;refine cC rfl (lV rfl rfl ⟨fun _ hw=>ag.mem hw,?_⟩);refine ak rfl (fG rfl) (ao ?_);refine ae (cr (v:= .agg (cV (⟨(⟨fZ.1,fZ.2.1,fZ.2.2.1,fZ.2.2.2⟩:ca),⟨Sv.none,[]⟩⟩:bM))) rfl (Qa (⟨fZ.1,fZ.2.1,fZ.2.2.1,fZ.2.2.2⟩:ca))) (an ?_);refine Gr fun w1 hw=>?_;exact⟨(⟨(⟨fZ.1,fZ.2.1,fZ.2.2.1,fZ.2.2.2⟩:ca),⟨Sv.none,[]⟩⟩:bM),by rw[hE],by rw[hE];simp only[aJ,vv,D1],Qb (v:=(⟨fZ.1,fZ.2.1,fZ.2.2.1,fZ.2.2.2⟩:ca)) (ag.mem hw)⟩)⟩
theorem abk{w0 w:World}{L:List ah}{f:bM}{a:Sl Rt}(h:Mem w0 (fz f::own av 19 a.sv a.xs::L) w):Mem w0 (fz (⟨f.aq,a⟩:bM)::L) w:=by
 have h2:=(AL (a:=a) (h.perm (List.Perm.swap _ _ _))).perm (List.Perm.swap _ _ _);refine Mem.freeze (es:=[fz f,fz a]) (⟨f.aq,a⟩:bM) ⟨(h2.sat (fz f) (by simp)).1,h2.sat (fz a) (by simp)⟩ (fun k hk=>?_) h2;rcases hk with hk|hk
 ·
  exact⟨fz f,by simp, .inl hk⟩
 exact⟨fz a,by simp,hk⟩
instance aly{f:bM}[hf:aU w0 L f]:bK Tryz.prog 100 w0 L [.agg (cV f)] (bM) (fun U=> .agg (cV U)) (fun U=>fz U::L) (fun U=>aJ U=aJ f) (fe f.aq.ai/\f.aq.at_.xs.length<=1000000/\f.table.xs.length<=1000000):=⟨fun aw w hw=>Gk (fun U=>[fz U]) hw (by
 have hf:=hf.h w hw;have D8:cw w f:=⟨hf⟩;obtain⟨lG,kV,oX⟩:=aw;refine bQ Tryz.func100 rfl Tryz.ntmps100 rfl ?_;refine Gc ?_;refine bJ rfl fun b1=>bc fun b2=>aj ?_;refine ae (dy rfl) (aW rfl lG fun x6 HQ=>ao ?_);refine lL (cs':=cV ({f with aq:=({f.aq with ai:=x6}:ca)}:bM)) rfl rfl (by show 0+6<=10;decide) rfl (an ?_)
 refine aW rfl kV fun nV qG=>ao ?_;refine cR (cs':=cV ({f with aq:=({f.aq with ai:=x6,at_:=⟨nV,f.aq.at_.xs⟩}:ca)}:bM)) rfl rfl (by show 6<10;decide) (by first|rfl|exact Sv.one _) rfl (aj ?_)
 refine aW rfl oX fun fZ D1=>Gs ?_;refine cR (cs':=cV (⟨({f.aq with ai:=x6,at_:=⟨nV,f.aq.at_.xs⟩}:ca),⟨fZ,f.table.xs⟩⟩:bM)) rfl rfl (by show 9<10;decide) (by first|rfl|exact Sv.one _) rfl (an ?_)
 refine Gr fun w1 hw=>?_;exact⟨(⟨({f.aq with ai:=x6,at_:=⟨nV,f.aq.at_.xs⟩}:ca),⟨fZ,f.table.xs⟩⟩:bM),rfl,by simp only[aJ,vv,HQ],OE (f:=(⟨({f.aq with ai:=x6,at_:=⟨nV,f.aq.at_.xs⟩}:ca),⟨fZ,f.table.xs⟩⟩:bM)) (ag.mem hw)⟩)⟩
end Go.Proofs.YtkggjjnhnjjokaaGreatDoor
namespace Go.Kb
open Go.ay
theorem Qc{t:List Rt}{ids room:Int}(h:jt t ids room=0): ¬mc ids room=0/\iD t=true/\ ¬mc ids room<t.length/\kX t ids room=oO t ids.toNat (room/20).toNat:=by
 unfold jt at h;split at h
 ·
  cases h
 rename_i hn;split at h
 ·
  cases h
 rename_i hm;have h1: ¬mc ids room=0:=fun e=>hn (.inr e);have h2:iD t=true:=by cases hr:iD t;exact absurd (.inl hr) hn;rfl
 exact⟨h1,h2,hm,(Oe h1 h2 hm).2⟩
theorem abl{t:List Rt}{ids room:Int}(h: ¬jt t ids room=0):kX t ids room=[]:=by rw[kX,if_neg h]
theorem abm{t:List Rt}{ids room:Int}(h:jt t ids room=0):((kX t ids room).length:Int)=ids/\1<=ids/\ids<=64:=by
 obtain⟨h1,_,_,hV⟩:=Qc h;have:=Hw h1;rw[hV,uR];omega
theorem abn{t:List Rt}{ids room:Int}:(kX t ids room).length<=64/\ ∀x∈kX t ids room,x.length<=240:=by
 by_cases h:jt t ids room=0
 ·
  have h2:=abm h;obtain⟨h1,_,_,hV⟩:=Qc h;have hm:=Hw h1;refine⟨by omega,fun x hx=>?_⟩;rw[hV]at hx;obtain⟨j,_,rfl⟩:=anB.1 hx;have:=N6 t (room/20).toNat j;omega
 rw[abl h];simp
end Go.Kb
namespace Go.Proofs.YtkggjjnhnjjokaaGreatDoor
open Go.ay Go.Kb Go.RowKit
variable {w0:World}{L:List ah}
instance alz{f:bM}{l:Sv}{ls:List Ch}[hf:aU w0 L f][hl:cS w0 L dt 20 l ls]:bK Tryz.prog 39 w0 L [.agg (cV f),l.val] (bM) (fun U=> .tuple #[.agg (cV U), .int .i64 ((gJ (aJ f) ls).2)]) (fun U=>fz U::L) (fun U=>aJ U=(gJ (aJ f) ls).1) (fe f.aq.ai/\f.aq.at_.xs.length<=1000000/\f.table.xs.length<=1000000):=⟨fun aw w hw=>Gk (fun U=>[fz U]) hw (by
 have hf:=hf.h w hw;have hl:=hl.h w hw;have D8:cw w f:=⟨hf⟩;have pI:Gv w l dt 20 ls:=⟨hl⟩;have w4:=aw;obtain⟨lG,kV,oX⟩:=aw;refine cD Tryz.func39 rfl Tryz.ntmps39 rfl ?_;refine Gc ?_;refine bJ rfl fun b2=>bc fun b4=>aj ?_;refine aW rfl trivial fun tP P9=>Gs ?_;refine ae (ax (v:=tP.sv.val) rfl rfl) (ae (ax (v:= .bool (ju (aJ f))) rfl rfl) (aQ ?_));refine Gb ?_ ?_<;>intro h0
 ·
  have hE:(gJ (aJ f) ls)=(aJ f,1):=X3 h0;refine ao ?_;refine aW rfl w4 fun iN ID=>aj ?_;refine Gr fun w1 hw=>?_;exact⟨iN,by rw[hE],by rw[hE];exact ID,ag.mem hw⟩
 have um:lx tP=mh (aJ f):=P9 h0;refine an ?_;refine aW rfl oX fun jR qC=>Gs ?_;refine ae (ax (v:=jR.val) rfl rfl) (ae (ax (v:= .int .i64 (j9 f.table.xs ls)) rfl rfl) (aQ ?_));refine Gb ?_ ?_<;>intro h1
 ·
  have hE:(gJ (aJ f) ls)=(aJ f,j9 f.table.xs ls):=X4 h0 h1;refine ao ?_;refine aW rfl w4 fun az uX=>an ?_;refine Gr fun w1 hw=>?_;exact⟨az,by rw[hE],by rw[hE];exact uX,ag.mem hw⟩
 refine Gc ?_;refine gB [10] [[],[],[],[],[],[],[],[],[],[],[],[10],[10],[10],[10],[10]] [0,1,2,3,4,5,6,7,8,9,10,11,12,13,14,15] _ (fun _ hw=>hw) oK oK (ak rfl (ba rfl) (ak rfl (aK (o':=0) rfl rfl) (ak rfl (aK (o':=0) rfl rfl) (ak rfl (dy rfl) (qi rfl (br rfl trivial) (ak rfl (aK (o':=0) rfl rfl) (ak rfl (aK (o':=0) rfl rfl) (ak rfl (aK (o':=1) rfl rfl) (ak rfl (bA rfl) (qi rfl (br rfl trivial) (cC rfl (nL rfl trivial fun qP P6=>⟨fun _ hw=>ag.mem hw,?_⟩))))))))))));refine ak rfl (ba rfl) (ak rfl (ax (v:=qP.sv.val) rfl rfl) (ak rfl (ax (v:= .int .i64 (jt (eU f.table.xs ls) (gW (cv f.aq.ai)) (fj f.aq.ai.size))) rfl rfl) (ak rfl (fG rfl) (ak rfl (fG rfl) (an ?_)))));refine Gb ?_ ?_<;>intro h2
 ·
  have hE:(gJ (aJ f) ls)=(aJ f,(jt (eU f.table.xs ls) (gW (cv f.aq.ai)) (fj f.aq.ai.size))):=X5 h0 h1 h2;refine ao ?_;refine aW rfl w4 fun x51 abo=>an ?_;refine Gr fun w1 hw=>?_;exact⟨x51,by rw[hE],by rw[hE];exact abo,ag.mem hw⟩
 have rN:lx qP=lF (aJ f) ls:=P6;have AW:(mh (aJ f)).length<=64:=X2 _;have qB:tP.xs.length<=1000000:=by rw[←um,vE]at AW;omega
 have D5:(lF (aJ f) ls).length<=64/\ ∀x∈lF (aJ f) ls,x.length<=240:=abn;have abp:qP.xs.length<=1000000:=by have:=D5.1;rw[←rN,vE]at this;omega
 have abq: ∀x∈qP.xs,x.xs.length<=140737488355328:=fun x hx=>by
  have hm:x.xs∈lx qP:=am5 (f:=fun x:Sl UInt8=>x.xs) hx;rw[rN]at hm;have:=D5.2 _ hm;omega
 refine aj ?_;refine aW rfl ⟨qB,abp,abq⟩ fun pR Qd=>aQ ?_;refine Gb ?_ ?_<;>intro h3
 ·
  have Bu:kz (mh (aJ f)) (lF (aJ f) ls)=[]:=by rw[←um,←rN,←Qd,xB,amB.1 (by omega:pR.xs.length=0)];rfl
  have hE:(gJ (aJ f) ls)=(⟨(aJ f).aq,(eU f.table.xs ls)⟩,0):=X6 h0 h1 h2 Bu;refine ao ?_;refine aW rfl w4 fun tT Bv=>an ?_;refine cR (cs':=cV (⟨tT.aq,⟨jR,(eU f.table.xs ls)⟩⟩:bM)) rfl rfl (by show 9<10;decide) (by first|rfl|exact Sv.one _) rfl (aG ?_);refine Gr fun w1 hw=>?_;exact⟨(⟨tT.aq,⟨jR,(eU f.table.xs ls)⟩⟩:bM),by rw[hE],by rw[hE,←Bv];rfl,abk (f:=tT) (ag.mem hw:Mem w [fz tT,own av 19 jR (eU f.table.xs ls)] _)⟩
 have Bu:kz (mh (aJ f)) (lF (aJ f) ls)=pR.xs.map bu:=by rw[←um,←rN,←Qd];rfl
 have h3n: ¬kz (mh (aJ f)) (lF (aJ f) ls)=[]:=by rw[Bu];intro h;have:=congrArg List.length h;rw[amF,af0]at this;omega
 have abr:pR.xs.length<=1000000:=by have:=congrArg List.length Bu;have hq:=Hz (mh (aJ f)) (lF (aJ f) ls) (max (mh (aJ f)).length (lF (aJ f) ls).length);rw[amF]at this;have h7:=D5.1;rw[kz]at this;omega
 have tN:=X7 h0 h1 h2 h3n;rw[Bu]at tN;refine ao ?_;refine ae (dy rfl) (Gs ?_);refine aW rfl ⟨lG,kV,abr⟩ fun dS IC=>Gs ?_;refine ae (ax (v:= .agg (cj (⟨dS.1,dS.2.1,dS.2.2.1,dS.2.2.2⟩:ca))) rfl rfl) (ae (ax (v:= .int .i64 ((gI (vv f.aq) (pR.xs.map bu)).2)) rfl rfl) (bc fun tG=>aQ ?_));refine Gb ?_ ?_<;>intro h4
 ·
  have hE:(gJ (aJ f) ls)=(⟨(gI (vv f.aq) (pR.xs.map bu)).1,f.table.xs⟩,(gI (vv f.aq) (pR.xs.map bu)).2):=tN.trans (congrArg (fun z=>((⟨(gI (vv f.aq) (pR.xs.map bu)).1,z⟩:FV),(gI (vv f.aq) (pR.xs.map bu)).2)) (if_pos h4));refine Gi ?_;refine ao ?_;refine aW rfl oX fun y0 alA=>an ?_;refine ae (cr (v:= .agg (cV (⟨(⟨dS.1,dS.2.1,dS.2.2.1,dS.2.2.2⟩:ca),⟨y0,f.table.xs⟩⟩:bM))) rfl (I0 (⟨dS.1,dS.2.1,dS.2.2.1,dS.2.2.2⟩:ca) ⟨y0,f.table.xs⟩)) (an ?_);refine Gr fun w1 hw=>?_;exact⟨(⟨(⟨dS.1,dS.2.1,dS.2.2.1,dS.2.2.2⟩:ca),⟨y0,f.table.xs⟩⟩:bM),by rw[hE],by rw[hE];simp only[aJ,vv,IC],Dy (f:=(⟨(⟨dS.1,dS.2.1,dS.2.2.1,dS.2.2.2⟩:ca),⟨y0,f.table.xs⟩⟩:bM)) (ag.mem (AL (a:=(⟨y0,f.table.xs⟩:Sl Rt)) (ag.mem hw:Mem w [own av 19 y0 f.table.xs,fz dS.1,fz dS.2.1] _)))⟩
 have hE:(gJ (aJ f) ls)=(⟨(gI (vv f.aq) (pR.xs.map bu)).1,(eU f.table.xs ls)⟩,(gI (vv f.aq) (pR.xs.map bu)).2):=tN.trans (congrArg (fun z=>((⟨(gI (vv f.aq) (pR.xs.map bu)).1,z⟩:FV),(gI (vv f.aq) (pR.xs.map bu)).2)) (if_neg (fun h=>h h4)));refine aj ?_;refine ae (cr (v:= .agg (cV (⟨(⟨dS.1,dS.2.1,dS.2.2.1,dS.2.2.2⟩:ca),⟨jR,(eU f.table.xs ls)⟩⟩:bM))) rfl (I0 (⟨dS.1,dS.2.1,dS.2.2.1,dS.2.2.2⟩:ca) ⟨jR,(eU f.table.xs ls)⟩)) (an ?_);refine Gr fun w1 hw=>?_;exact⟨(⟨(⟨dS.1,dS.2.1,dS.2.2.1,dS.2.2.2⟩:ca),⟨jR,(eU f.table.xs ls)⟩⟩:bM),by rw[hE],by rw[hE];simp only[aJ,vv,IC],Dy (f:=(⟨(⟨dS.1,dS.2.1,dS.2.2.1,dS.2.2.2⟩:ca),⟨jR,(eU f.table.xs ls)⟩⟩:bM)) (ag.mem (AL (a:=(⟨jR,(eU f.table.xs ls)⟩:Sl Rt)) (ag.mem hw:Mem w [own av 19 jR (eU f.table.xs ls),fz dS.1,fz dS.2.1] _)))⟩)⟩
theorem abt(w0 w:World)[tb:gS w0](L:List ah)(k:Nat)(xf:bM)(xb:Sl Ch)(xa:Option Nat)(xt:Sl UInt8)(x:aO)(hw:Mem w0 (al k (bR (⟨xf,xb,xa,xt⟩:bP)) 174::fz xf::own dt 20 xb.sv xb.xs::c8 5 xt.sv xt.xs::L) w)(aw:qF (⟨aJ xf,xb.xs,xt.xs⟩:bq)=true/\et x=true/\(xa=none\/xa=Option.some k)):Calls Tryz.prog 91 #[.pointer (some ⟨k,0,none⟩), .agg (aZ x)] w fun e w'=> ∃U:bM×Sl Ch×Option Nat×Sv,e= .returned (.tuple #[])/\(aJ U.1=(dx (⟨aJ xf,xb.xs,xt.xs⟩:bq) x).f/\U.2.1.xs=(dx (⟨aJ xf,xb.xs,xt.xs⟩:bq) x).batch/\(U.2.2.1=none\/U.2.2.1=Option.some k))/\Mem w0 (al k (bR (⟨U.1,U.2.1,U.2.2.1,⟨U.2.2.2,(dx (⟨aJ xf,xb.xs,xt.xs⟩:bq) x).told⟩⟩:bP)) 174::fz U.1::own dt 20 U.2.1.sv U.2.1.xs::c8 5 U.2.2.2 (dx (⟨aJ xf,xb.xs,xt.xs⟩:bq) x).told::L) w':=by
 obtain⟨eR,cd,eQ⟩:=aw;simp only[qF,yF,alM,decide_eq_true_eq]at eR;obtain⟨⟨⟨⟨zP,oN⟩,htb⟩,dY⟩,ic⟩:=eR;have fY:fe xf.aq.ai:=rC zP;have abu:xf.aq.at_.xs.length<=1000000:=oN;have Qe:xf.table.xs.length<=1000000:=htb;obtain⟨_,abv,abw,_,_⟩:=eB.1 zP;have ti:dG=1099511627776:=rfl;have alB:0<=xf.aq.ai.ops:=abv;have alC:xf.aq.ai.ops<=dG:=abw;have P5:x.kind=5\/x.kind=6->0<=x.n.toInt/\x.n.toInt<=999:=by
  intro h;have:=(lW.1 cd).1;rw[gD,if_neg oM,if_neg oM,if_pos h]at this;exact of_decide_eq_true this
 refine fI (args:=[_,_]) Tryz.func91 rfl Tryz.ntmps91 rfl hw ?_;change Cw _ _ _ _ _ [(0, .pointer (some ⟨k,0,none⟩)),(1, .agg (aZ x))] (al k (bR (⟨xf,xb,xa,xt⟩:bP)) 174::fz xf::own dt 20 xb.sv xb.xs::c8 5 xt.sv xt.xs::L);refine Gc ?_;refine bJ rfl fun b3=>ct ?_;refine Gb ?_ ?_<;>intro h0
 ·
  have hE:(dx (⟨aJ xf,xb.xs,xt.xs⟩:bq) x)={(⟨aJ xf,xb.xs,xt.xs⟩:bq)with batch:=xb.xs++[(⟨x.r,false⟩:Ch)]}:=by rw[dx,if_pos h0]
  have hT:(dx (⟨aJ xf,xb.xs,xt.xs⟩:bq) x).told=xt.xs:=by rw[hE]
  rw[hT];refine nN [8,9,12,1004,2008] [[],[],[],[],[],[],[],[],[],[4,8],[4,8,9],[4,8,9],[4,8,9]] [0,1,2,3,4,5,6,7,8,9,10,11,12] [al b3 (aZ x) 73] [(8,nM dt 20 1 [(⟨x.r,false⟩:Ch)])] oK (fun _ hw=>ag.mem hw) oK oK (ak rfl (ba rfl) (ak rfl (ba rfl) (ak rfl (fa rfl) (ak rfl (aK (o':=10) rfl rfl) (fh rfl (Ry.to (v':=xb.sv.val) (bA rfl) rfl) (ak rfl (aK (o':=1) rfl rfl) (ak rfl (dy rfl) (ak rfl (cr (v:= .agg (dt (⟨x.r,false⟩:Ch))) rfl (fun w=>by kernel_rfl)) (mL (m:=nM dt 20 1 [(⟨x.r,false⟩:Ch)]) rfl rfl (xK (enc:=dt) (c:=20) (n:=1) (vals:=[.agg (dt (⟨x.r,false⟩:Ch))]) [(⟨x.r,false⟩:Ch)] rfl rfl rfl (by decide) (by decide)) (Cert.none rfl) fun Ec=>?_)))))))));change Ln _ _ _ _ _ _ _ _ (bZ _ _ (Sv.val ⟨false,Ec,0,1,1,none⟩)) (own dt 20 ⟨false,Ec,0,1,1,none⟩ [(⟨x.r,false⟩:Ch)]::_) _;refine cC rfl (CA (s:=xb.sv) (ys:=[(⟨x.r,false⟩:Ch)]) rfl rfl (by decide) (fun w hw=>gP (s:=⟨false,Ec,0,1,1,none⟩) Tryz.underlying45 (by decide) ((inferInstance:Hd _ _ ⟨false,Ec,0,1,1,none⟩ dt 20 [(⟨x.r,false⟩:Ch)]).h w hw)) (by simp only[adr,ad2,af0];omega) (by simp only[adr,ad2,af0];omega) fun Qf alD alE=>⟨fun _ hw=>ag.mem hw,?_⟩);refine ak rfl (fa rfl) (ak rfl (aK (o':=10) rfl rfl) ?_);refine cC rfl (rn (cs':=bR (⟨xf,⟨Qf,xb.xs++[(⟨x.r,false⟩:Ch)]⟩,xa,xt⟩:bP)) rfl rfl (by show 10<13;decide) (by first|rfl|exact Sv.one _) rfl ⟨fun _ hw=>ag.mem hw,?_⟩);refine Gc ?_;refine cY (.inr rfl) (iJ rfl) (fun w1 hw=>?_);exact⟨(xf,⟨Qf,xb.xs++[(⟨x.r,false⟩:Ch)]⟩,xa,xt.sv),rfl,⟨by rw[hE],by rw[hE],eQ⟩,ag.mem hw⟩
 refine an ?_;refine Gb ?_ ?_<;>intro h1
 ·
  have hE:(dx (⟨aJ xf,xb.xs,xt.xs⟩:bq) x)={(⟨aJ xf,xb.xs,xt.xs⟩:bq)with batch:=xb.xs++[(⟨x.r,true⟩:Ch)]}:=by rw[dx,if_neg h0,if_pos h1]
  have hT:(dx (⟨aJ xf,xb.xs,xt.xs⟩:bq) x).told=xt.xs:=by rw[hE]
  rw[hT];refine nN [8,9,12,1004,2008] [[],[],[],[],[],[],[],[],[],[4,8],[4,8,9],[4,8,9],[4,8,9]] [0,1,2,3,4,5,6,7,8,9,10,11,12] [al b3 (aZ x) 73] [(8,nM dt 20 1 [(⟨x.r,true⟩:Ch)])] oK (fun _ hw=>ag.mem hw) oK oK (ak rfl (ba rfl) (ak rfl (ba rfl) (ak rfl (fa rfl) (ak rfl (aK (o':=10) rfl rfl) (fh rfl (Ry.to (v':=xb.sv.val) (bA rfl) rfl) (ak rfl (aK (o':=1) rfl rfl) (ak rfl (dy rfl) (ak rfl (cr (v:= .agg (dt (⟨x.r,true⟩:Ch))) rfl (fun w=>by kernel_rfl)) (mL (m:=nM dt 20 1 [(⟨x.r,true⟩:Ch)]) rfl rfl (xK (enc:=dt) (c:=20) (n:=1) (vals:=[.agg (dt (⟨x.r,true⟩:Ch))]) [(⟨x.r,true⟩:Ch)] rfl rfl rfl (by decide) (by decide)) (Cert.none rfl) fun Ed=>?_)))))))));change Ln _ _ _ _ _ _ _ _ (bZ _ _ (Sv.val ⟨false,Ed,0,1,1,none⟩)) (own dt 20 ⟨false,Ed,0,1,1,none⟩ [(⟨x.r,true⟩:Ch)]::_) _;refine cC rfl (CA (s:=xb.sv) (ys:=[(⟨x.r,true⟩:Ch)]) rfl rfl (by decide) (fun w hw=>gP (s:=⟨false,Ed,0,1,1,none⟩) Tryz.underlying45 (by decide) ((inferInstance:Hd _ _ ⟨false,Ed,0,1,1,none⟩ dt 20 [(⟨x.r,true⟩:Ch)]).h w hw)) (by simp only[adr,ad2,af0];omega) (by simp only[adr,ad2,af0];omega) fun yM Pf Pg=>⟨fun _ hw=>ag.mem hw,?_⟩);refine ak rfl (fa rfl) (ak rfl (aK (o':=10) rfl rfl) ?_);refine cC rfl (rn (cs':=bR (⟨xf,⟨yM,xb.xs++[(⟨x.r,true⟩:Ch)]⟩,xa,xt⟩:bP)) rfl rfl (by show 10<13;decide) (by first|rfl|exact Sv.one _) rfl ⟨fun _ hw=>ag.mem hw,?_⟩);refine Gc ?_;refine cY (.inr rfl) (iJ rfl) (fun w1 hw=>?_);exact⟨(xf,⟨yM,xb.xs++[(⟨x.r,true⟩:Ch)]⟩,xa,xt.sv),rfl,⟨by rw[hE],by rw[hE],eQ⟩,ag.mem hw⟩
 refine an ?_;refine Gb ?_ ?_<;>intro h2
 ·
  have hE:(dx (⟨aJ xf,xb.xs,xt.xs⟩:bq) x)=mj {(⟨aJ xf,xb.xs,xt.xs⟩:bq)with f:=(gJ (aJ xf) xb.xs).1,batch:=[]} tC (gJ (aJ xf) xb.xs).2:=by rw[dx,if_neg h0,if_neg h1,if_pos h2]
  have hT:(dx (⟨aJ xf,xb.xs,xt.xs⟩:bq) x).told=xt.xs++kb [111,107] (gJ (aJ xf) xb.xs).2++[10]:=by rw[hE];rfl
  rw[hT];refine Gi ?_;refine nN [8,12,13,2012,4008] [[],[],[],[],[],[],[],[],[],[8],[8],[8],[],[8,12],[8,12,13]] [0,1,2,3,4,5,6,7,8,9,10,11,12,13,14] [al k (bR (⟨xf,xb,xa,xt⟩:bP)) 174,fz xf,own dt 20 xb.sv xb.xs,c8 5 xt.sv xt.xs,al b3 (aZ x) 73] [(12,km Tryz.prog 65)] oK (fun _ hw=>ag.mem hw) oK oK (ak rfl (ba rfl) (ak rfl (fa rfl) (ak rfl (aK (o':=0) rfl rfl) (ak rfl (Ry.to (v':= .agg (cV xf)) (dy rfl) rfl) (ak rfl (ba rfl) (ak rfl (fa rfl) (ak rfl (aK (o':=10) rfl rfl) (ak rfl (Ry.to (v':=xb.sv.val) (bA rfl) rfl) ?_))))))));refine sV rfl rfl ⟨fY,abu,Qe⟩ (fun e x w hw=>ag.mem hw) (Cert.one (i:=12) rfl rfl rfl ko (Cert.none rfl)) fun qK Ix=>⟨fun _ hw=>ag.mem hw,?_⟩;refine ak rfl (ba rfl) (ak rfl (ax (v:= .agg (cV qK)) rfl rfl) (ak rfl (ax (v:= .int .i64 ((gJ (aJ xf) xb.xs).2)) rfl rfl) (mL (m:=km Tryz.prog 65) rfl rfl ko (Cert.none rfl) fun b4=>?_)));change Ln _ _ _ _ _ _ _ _ (bZ _ _ (.pointer (some ⟨b4,0,none⟩))) (al b4 (cV kY) 65::_) _;refine cC rfl (lV rfl rfl ⟨fun _ hw=>ag.mem hw,?_⟩);refine ak rfl (fG rfl) (aQ ?_);refine lL (cs':=bR (⟨qK,xb,xa,xt⟩:bP)) rfl rfl (by show 0+10<=13;decide) rfl (ao ?_);refine cR (cs':=bR (⟨qK,⟨Sv.none,[]⟩,xa,xt⟩:bP)) rfl rfl (by show 10<13;decide) rfl rfl (aj ?_);refine aW rfl ⟨by simp only[ad2,af0];omega,eQ,YT _ _⟩ fun x59 alF=>Gc ?_;refine cY (.inr rfl) (iJ rfl) (fun w1 hw=>?_);exact⟨(qK,⟨Sv.none,[]⟩,(Option.some k),x59),rfl,⟨by rw[hE,Ix];rfl,by rw[hE];rfl, .inr rfl⟩,ag.mem (Mem.cJ dt 20 hw)⟩
 refine an ?_;refine Gb ?_ ?_<;>intro h3
 ·
  have hE:(dx (⟨aJ xf,xb.xs,xt.xs⟩:bq) x)=mn (⟨aJ xf,xb.xs,xt.xs⟩:bq) x:=by rw[dx,if_neg h0,if_neg h1,if_neg h2,if_pos h3]
  have hT:(dx (⟨aJ xf,xb.xs,xt.xs⟩:bq) x).told=(mn (⟨aJ xf,xb.xs,xt.xs⟩:bq) x).told:=by rw[hE]
  rw[hT];have hF:(mn (⟨aJ xf,xb.xs,xt.xs⟩:bq) x).f=aJ xf/\(mn (⟨aJ xf,xb.xs,xt.xs⟩:bq) x).batch=xb.xs:=by rw[mn];split<;>exact⟨rfl,rfl⟩
  refine Gi ?_;refine ao ?_;refine aW rfl ⟨by omega,eQ⟩ fun x64 alG=>Gc ?_;refine cY (.inr rfl) (iJ rfl) (fun w1 hw=>?_);exact⟨(xf,xb,(Option.some k),x64),rfl,⟨by rw[hE];exact hF.1.symm,by rw[hE];exact hF.2.symm, .inr rfl⟩,ag.mem hw⟩
 refine mB (X:=Bool) (fun U=>[(65, .bool U),(0, .pointer (some ⟨k,0,none⟩)),(3, .pointer (some ⟨b3,0,none⟩)),(7, .int .i64 x.kind)]) (fun U=>al b3 (aZ x) 73::al k (bR (⟨xf,xb,xa,xt⟩:bP)) 174::fz xf::own dt 20 xb.sv xb.xs::c8 5 xt.sv xt.xs::L) (fun U=>U=decide (x.kind=5\/x.kind=6)) ?_ ?_
 ·
  refine an ?_;refine Gb ?_ ?_<;>intro h4
  ·
   refine Gi ?_;exact eD (decide (x.kind=5)) (by simp[h4]) sb (fun w hw=>ag.mem hw)
  refine Gi ?_;refine ao ?_;refine Gi ?_;exact eD (decide (x.kind=6)) (by simp[h4]) sb (fun w hw=>ag.mem hw)
 rintro z hz;refine Gb ?_ ?_<;>intro h5
 ·
  have nX:x.kind=5\/x.kind=6:=of_decide_eq_true (hz.symm.trans h5);obtain⟨tz,wE⟩:=P5 nX;have hE:(dx (⟨aJ xf,xb.xs,xt.xs⟩:bq) x)=qE (⟨aJ xf,xb.xs,xt.xs⟩:bq) x:=by rw[dx,if_neg h0,if_neg h1,if_neg h2,if_neg h3,if_pos nX]
  have hT:(dx (⟨aJ xf,xb.xs,xt.xs⟩:bq) x).told=xt.xs:=by rw[hE];rw[qE];split<;>rfl
  rw[hT];have hB:(qE (⟨aJ xf,xb.xs,xt.xs⟩:bq) x).batch=xb.xs:=by rw[qE];split<;>rfl
  refine Gi ?_;refine ao ?_;refine aW rfl ⟨fY,by omega,by omega⟩ fun x70 abx=>Gc ?_;refine cY (.inr rfl) (iJ rfl) (fun w1 hw=>?_);exact⟨(x70,xb,xa,xt.sv),rfl,⟨by rw[hE];exact abx,by rw[hE];exact hB.symm,eQ⟩,ag.mem hw⟩
 have nX: ¬(x.kind=5\/x.kind=6):=of_decide_eq_false (hz.symm.trans h5);refine an ?_;refine Gb ?_ ?_<;>intro h6
 ·
  have hE:(dx (⟨aJ xf,xb.xs,xt.xs⟩:bq) x)=kc (⟨aJ xf,xb.xs,xt.xs⟩:bq):=by rw[dx,if_neg h0,if_neg h1,if_neg h2,if_neg h3,if_neg nX,if_pos h6]
  have hT:(dx (⟨aJ xf,xb.xs,xt.xs⟩:bq) x).told=(kc (⟨aJ xf,xb.xs,xt.xs⟩:bq)).told:=by rw[hE]
  rw[hT];have hB:(kc (⟨aJ xf,xb.xs,xt.xs⟩:bq)).batch=xb.xs:=by
   rw[kc];split
   ·
    rfl
   split<;>rfl
  refine Gi ?_;refine Gs ?_;refine aW rfl ⟨fY,by omega,eQ⟩ fun Qg aby=>Gc ?_;refine cY (.inr rfl) (iJ rfl) (fun w1 hw=>?_);exact⟨(Qg.1,xb,(Option.some k),Qg.2),rfl,⟨by rw[hE];exact aby,by rw[hE];exact hB.symm, .inr rfl⟩,ag.mem hw⟩
 refine an ?_;refine Gb ?_ ?_<;>intro h7
 ·
  have hE:(dx (⟨aJ xf,xb.xs,xt.xs⟩:bq) x)=pK (⟨aJ xf,xb.xs,xt.xs⟩:bq):=by rw[dx,if_neg h0,if_neg h1,if_neg h2,if_neg h3,if_neg nX,if_neg h6,if_pos h7]
  have hT:(dx (⟨aJ xf,xb.xs,xt.xs⟩:bq) x).told=(pK (⟨aJ xf,xb.xs,xt.xs⟩:bq)).told:=by rw[hE]
  rw[hT];have hF:(pK (⟨aJ xf,xb.xs,xt.xs⟩:bq)).f=aJ xf/\(pK (⟨aJ xf,xb.xs,xt.xs⟩:bq)).batch=xb.xs:=⟨(Eb _ _).1,(Eb _ _).2.1⟩;refine Gi ?_;refine Gs ?_;refine aW rfl ⟨Qe,by omega,eQ⟩ fun x78 alH=>Gc ?_;refine cY (.inr rfl) (iJ rfl) (fun w1 hw=>?_);exact⟨(xf,xb,(Option.some k),x78),rfl,⟨by rw[hE];exact hF.1.symm,by rw[hE];exact hF.2.symm, .inr rfl⟩,ag.mem hw⟩
 have hE:(dx (⟨aJ xf,xb.xs,xt.xs⟩:bq) x)=(⟨aJ xf,xb.xs,xt.xs⟩:bq):=by rw[dx,if_neg h0,if_neg h1,if_neg h2,if_neg h3,if_neg nX,if_neg h6,if_neg h7]
 have hT:(dx (⟨aJ xf,xb.xs,xt.xs⟩:bq) x).told=xt.xs:=by rw[hE]
 rw[hT];refine Gc ?_;refine cY (.inr rfl) (iJ rfl) (fun w1 hw=>?_);exact⟨(xf,xb,xa,xt.sv),rfl,⟨by rw[hE],by rw[hE],eQ⟩,ag.mem hw⟩
instance alI{w0:World}[tb:gS w0]{L R1 R2 R3 L2:List ah}{i0 i1 i2 i3:Nat}{k:Nat}{xf:bM}{xb:Sl Ch}{xa:Option Nat}{xt:Sl UInt8}{x:aO}[q0:Has L k (bR (⟨xf,xb,xa,xt⟩:bP)) 174 i0][d0:bW L i0 R1][q1:At R1 (fz xf) i1][d1:bW R1 i1 R2][q2:eS R2 xb.sv dt 20 xb.xs i2][d2:bW R2 i2 R3][q3:kr R3 xt.sv 5 xt.xs i3][d3:bW R3 i3 L2]:bK Tryz.prog 91 w0 L [.pointer (some ⟨k,0,none⟩), .agg (aZ x)] (bM×Sl Ch×Option Nat×Sv) (fun U=> .tuple #[]) (fun U=>al k (bR (⟨U.1,U.2.1,U.2.2.1,⟨U.2.2.2,(dx (⟨aJ xf,xb.xs,xt.xs⟩:bq) x).told⟩⟩:bP)) 174::fz U.1::own dt 20 U.2.1.sv U.2.1.xs::c8 5 U.2.2.2 (dx (⟨aJ xf,xb.xs,xt.xs⟩:bq) x).told::L2) (fun U=>aJ U.1=(dx (⟨aJ xf,xb.xs,xt.xs⟩:bq) x).f/\U.2.1.xs=(dx (⟨aJ xf,xb.xs,xt.xs⟩:bq) x).batch/\(U.2.2.1=none\/U.2.2.1=Option.some k)) (qF (⟨aJ xf,xb.xs,xt.xs⟩:bq)=true/\et x=true/\(xa=none\/xa=Option.some k)):=⟨fun hp w hw=>abt w0 w L2 k xf xb xa xt x (OP q0.h d0.h q1.h d1.h q2.h d2.h q3.h d3.h hw) hp⟩
instance alJ{s:List UInt8}[tb:gS w0]:bD Tryz.prog 147 w0 L [.string ⟨s.toArray⟩] (.tuple #[.int .i64 (((bj s 999).getD 0):Nat), .bool ((bj s 999).isSome)]) (s.length<=1000000000):=⟨fun aw w hw=>by
 have tb:=tb.at hw;refine bQ Tryz.func147 rfl Tryz.ntmps147 rfl ?_;refine aG ?_;refine aW rfl oM fun x8 nr=>?_;obtain⟨Io,ha2⟩:=nr;refine Gs ?_;refine ae (ax (v:= .int .i64 x8.1) rfl rfl) (ae (ax (v:=Af x8.2) rfl rfl) (an ?_));refine ae (Uq (ms:=_) Tryz.underlying303 rfl) (nO ?_);refine aV rfl rfl rfl (fun hg=>br (dB (au hg rfl) gk) (by simp only[Z0,Z1,Z2,Z3,Z4,Z5,Z6,Z7,Z8,Z9]at hg;first|omega|exact ano (aod _) (by decide)|exact ano (anN _) (by decide))) (Gg ?_);refine aV rfl rfl rfl (fun hg=>(Ry.yl (xu (au hg rfl) (au hg rfl)))) (ao ?_);refine Gb ?_ ?_<;>intro h0
 ·
  have hn:bj s 999=none:=by
   cases hq:bj s 999 with
   |none=>rfl
   |some n=>
    refine False.elim ?_;obtain⟨e1,e2,e3⟩:=U1 hq
    cases ho:x8.2 with
    |none=>
     have e4:=(Io ho).symm.trans e3;injection e4 with e4
     simp[ho,e4,e1]at h0;omega
    |some q=>exact ha2 (by rw[ho];simp) _ e3
  refine an ?_;refine Gr fun w1 hw=>?_;exact⟨(by rw[hn];rfl),ag.mem hw⟩
 have ho:x8.2=none:=by simpa using h0.1.1.1
 have hy:=U0 (Io ho) oM oM h0.2;refine aG ?_;refine Gr fun w1 hw=>?_;exact⟨(by rw[hy,aok,an8 oM];rfl),ag.mem hw⟩⟩
instance:pX Tryz.prog 25 [] (.agg (bw 0#128)):=⟨fun w=>by rw[qw];kernel_rfl⟩
instance:pX Tryz.prog 32 [] (.agg (cl ⟨0,0,0#128⟩)):=⟨fun w=>by unfold cl;rw[qw];kernel_rfl⟩
instance:pX Tryz.prog 34 [] (.agg (av bp)):=⟨fun w=>by unfold av cl bp;rw[qw];kernel_rfl⟩
instance alK{s:List UInt8}[tb:oo w0]:bD Tryz.prog 208 w0 L [.string ⟨s.toArray⟩] (.tuple #[.agg (bw ((iW s).getD 0#128)), .bool ((iW s).isSome)]) (s.length<=60):=⟨fun aw w hw=>by
 have tb:=tb.at hw;refine bQ Tryz.func208 rfl Tryz.ntmps208 rfl ?_;refine Gc ?_;refine bc fun b2=>aj ?_;refine aW rfl oM fun cB pO=>aQ ?_;refine Gb ?_ ?_<;>intro h0
 ·
  refine Gc ?_;refine ae (cX rfl) (aj ?_);refine Gr fun w1 hw=>?_;exact⟨(by rw[Lw oM];rfl),ag.mem hw⟩
 refine Gc ?_;refine bc fun b5=>aG ?_;refine bI (X:=Nat×Key) (fun U=>[(18, .int .i64 (U.1:Nat)),(5, .pointer (some ⟨b5,0,none⟩)),(2, .pointer (some ⟨b2,0,none⟩)),(16,(⟨false,cB,0,(aE 46 s).length,(aE 46 s).length,none⟩:Sv).val),(17, .int .i64 ((aE 46 s).length:Nat))]) (fun U=>[al b5 (bw U.2) 25,own gu 1 ⟨false,cB,0,(aE 46 s).length,(aE 46 s).length,none⟩ (aE 46 s),al b2 (bw 0#128) 25]) (fun U=>U.1<=4/\vZ (aE 46 s) U.1 U.2) (fun U=>4 -U.1) (0,0#128) ⟨Nat.zero_le _,Lu _⟩ sb (fun w hw=>ag.mem hw) ?_;rintro⟨i,kk⟩ ⟨hi,hp⟩;dsimp only;simp only at hi hp;refine aj ?_;refine Gb ?_ ?_<;>intro h1
 ·
  refine ao ?_;obtain⟨x,hx⟩:=get_some (xs:=(aE 46 s)) (i:=i) oM;refine ae (aY rfl rfl i rfl oM) (ae (bB (j:=0) rfl i hx rfl (by decide)) (an ?_));refine ck (br (vs:=[_, .int .i64 ((255:Nat):Int)]) rfl ⟨by decide,by have:=ri s (amm hx);omega⟩) (Gs ?_);refine ae (ax (v:= .int .i64 (((bj x 255).getD 0):Nat)) rfl rfl) (ae (ax (v:= .bool ((bj x 255).isSome)) rfl rfl) (aQ ?_));refine Gb ?_ ?_<;>intro h2
  ·
   refine Gc ?_;refine ae (cX rfl) (aj ?_);refine Gr fun w1 hw=>?_;exact⟨(by rw[Ly oM hx h2];rfl),ag.mem hw⟩
  refine aj ?_;refine ae (xi (n:=(((bj x 255).getD 0:Nat):Int)) rfl oM (by have:=Ag x;simp only[nb];omega)) (ae (iR rfl rfl oM oM) (cR (cs':=bw (nP kk i ((bj x 255).getD 0))) rfl rfl (by rw[du];omega) rfl (CE kk i oM (Ag x)) (aj ?_)));refine Gi ?_;exact bg (x:=(i,kk)) (i+1,nP kk i ((bj x 255).getD 0)) ⟨oF,hp.step hx h2 oF⟩ (by simp only;omega) sb (fun w hw=>ag.mem hw)
 refine aG ?_;refine Gr fun w1 hw=>?_;exact⟨(by rw[Lz oM (by rw[show i=4 by omega]at hp;exact hp)];rfl),ag.mem hw⟩⟩
instance alL{s:List UInt8}:bD Tryz.prog 209 w0 L [.string ⟨s.toArray⟩] (.tuple #[.agg (bw ((jD s).getD 0#128)), .bool ((jD s).isSome)]) (s.length<=60):=⟨fun aw w hw=>by
 refine bQ Tryz.func209 rfl Tryz.ntmps209 rfl ?_;refine Gc ?_;refine bc fun b2=>ao ?_;refine bc fun b4=>ao ?_;refine ae (hH (s:=s) Tryz.underlying9 rfl) (ao ?_);refine Gb ?_ ?_<;>intro h0
 ·
  refine Gc ?_;refine ae (cX rfl) (aj ?_);refine Gr fun w1 hw=>?_;exact⟨(by rw[LB oM];rfl),ag.mem hw⟩
 refine ao ?_;refine ae (hH (s:=s) Tryz.underlying9 rfl) (ao ?_);refine bI (X:=Nat×Key) (fun U=>[(13, .int .i64 (U.1:Nat)),(4, .pointer (some ⟨b4,0,none⟩)),(0, .string ⟨s.toArray⟩),(2, .pointer (some ⟨b2,0,none⟩)),(12, .int .i64 (s.length:Nat))]) (fun U=>[al b4 (bw U.2) 25,al b2 (bw 0#128) 25]) (fun U=>U.1<=32/\uu s U.1 U.2) (fun U=>32 -U.1) (0,0#128) ⟨Nat.zero_le _,Uu s⟩ sb (fun w hw=>ag.mem hw) ?_;rintro⟨i,kk⟩ ⟨hi,hp⟩;dsimp only;simp only at hi hp;refine aj ?_;refine Gb ?_ ?_<;>intro h1
 ·
  refine aQ ?_;refine ae (lr (s:=s) i Tryz.underlying9 rfl rfl rfl oM) (Gs ?_);rw[Ut];refine aG ?_;refine Gb ?_ ?_<;>intro h2
  ·
   refine Gc ?_;refine ae (cX rfl) (aj ?_);refine Gr fun w1 hw=>?_;exact⟨(by rw[F4 h2 oM];rfl),ag.mem hw⟩
  refine fb ?_;obtain⟨he,hx,ho⟩:=F3 h2;have bx:=hp.lt (show i<32 by omega);have aF:(((i:Nat):Int)/2).toNat=i/2:=by omega
  refine Gi ?_;refine Gs ?_;refine ae (kL rfl rfl oM oM) (Gs ?_);refine ae (kL rfl rfl oM oM) (ae (iR rfl rfl oM oM) (ae (Ry.as (v':= .int .u8 ((aX kk (i/2):Nat):Int)) (pV rfl (fK kk (((i:Nat):Int)/2).toNat oM)) (by rw[aF])) (ae (Sf (p:=aX kk (i/2)) rfl rfl rfl oM) (Gs ?_))));refine ae (xi rfl oM (by simp only[nb];omega)) (ae (zu (p:=aX kk (i/2)*16) (q:=fR s i) rfl rfl rfl he (by simp only[nb];omega) (by simp only[nb];omega)) (ae (iR rfl rfl oM oM) (cR (cs':=bw (nP kk (i/2) (aX kk (i/2)*16|||fR s i))) rfl rfl (by rw[du];omega) rfl (by rw[aF];exact CE kk (i/2) oM (by rw[LA hx];omega)) (aj ?_))));refine Gi ?_;exact bg (x:=(i,kk)) (i+1,nP kk (i/2) (aX kk (i/2)*16|||fR s i)) ⟨oF,hp.step oF ho⟩ (by simp only;omega) sb (fun w hw=>ag.mem hw)
 refine aG ?_;refine Gr fun w1 hw=>?_;exact⟨(by rw[Uv oM (by rw[show i=32 by omega]at hp;exact hp)];rfl),ag.mem hw⟩⟩
instance alN{s:List UInt8}[tb:oo w0]:bD Tryz.prog 149 w0 L [.string ⟨s.toArray⟩] (.tuple #[.agg (bw (eM s)), .int .i64 ((dF s):Nat), .int .i64 (fy s)]) (s.length<=1000000000):=⟨fun aw w hw=>by
 have tb:=tb.at hw;refine bQ Tryz.func149 rfl Tryz.ntmps149 rfl ?_;refine Gc ?_;refine bc fun b2=>an ?_;refine ae (hH (s:=s) Tryz.underlying9 rfl) (ao ?_);refine Gb ?_ ?_<;>intro h0
 ·
  refine Gc ?_;refine ae (cX rfl) (an ?_);refine Gr fun w1 hw=>?_;exact⟨(by obtain⟨e1,e2,e3⟩:=F5 (s:=s) oM;rw[e1,e2,e3];rfl),ag.mem hw⟩
 refine ao ?_;refine ck (br rfl oM) (Gs ?_);refine ae (ax (v:= .agg (bw ((iW s).getD 0#128))) rfl rfl) (ae (ax (v:= .bool ((iW s).isSome)) rfl rfl) (bc fun b5=>aG ?_));refine Gb ?_ ?_<;>intro h1
 ·
  obtain⟨q,hq⟩:=amH.1 h1;refine aQ ?_;refine Gr fun w1 hw=>?_;exact⟨(by obtain⟨e1,e2,e3⟩:=LD oM hq;rw[e1,e2,e3,hq];rfl),ag.mem hw⟩
 have hs:iW s=none:=by simpa using h1
 refine ao ?_;refine ck (br rfl oM) (Gs ?_);refine ae (ax (v:= .agg (bw ((jD s).getD 0#128))) rfl rfl) (ae (ax (v:= .bool ((jD s).isSome)) rfl rfl) (bc fun b7=>aG ?_));refine Gb ?_ ?_<;>intro h2
 ·
  obtain⟨q,hq⟩:=amH.1 h2;refine aQ ?_;refine Gr fun w1 hw=>?_;exact⟨(by obtain⟨e1,e2,e3⟩:=LF oM hs hq;rw[e1,e2,e3,hq];rfl),ag.mem hw⟩
 have hw0:jD s=none:=by simpa using h2
 refine Gc ?_;refine ae (cX rfl) (an ?_);refine Gr fun w1 hw=>?_;exact⟨(by obtain⟨e1,e2,e3⟩:=CF oM hs hw0;rw[e1,e2,e3];rfl),ag.mem hw⟩⟩
instance alO{s:List UInt8}[tb:oo w0]:bD Tryz.prog 116 w0 L [.string ⟨s.toArray⟩] (.tuple #[.agg (cl (gQ s)), .int .i64 (hO s)]) (s.length<=1000000000):=⟨fun aw w hw=>by
 have tb:=tb.at hw;obtain⟨hca,pL⟩:=CG 47 s;refine bQ Tryz.func116 rfl Tryz.ntmps116 rfl ?_;refine Gc ?_;refine bc fun b2=>aj ?_;refine ae (hH (s:=s) Tryz.underlying9 rfl) (ao ?_);refine Gb ?_ ?_<;>intro h0
 ·
  refine Gc ?_;refine ae (cX rfl) (aj ?_);refine Gr fun w1 hw=>?_;exact⟨(by obtain⟨e1,e2⟩:=LH (s:=s) oM;rw[e1,e2]),ag.mem hw⟩
 refine ao ?_;refine ck (br rfl oM) (Gs ?_);refine ae (ax (v:= .string ⟨((aD 47 s).1).toArray⟩) rfl rfl) (ae (ax (v:= .string ⟨((aD 47 s).2.1).toArray⟩) rfl rfl) (ae (ax (v:= .bool ((aD 47 s).2.2)) rfl rfl) (ct ?_)));refine Gb ?_ ?_<;>intro h1
 ·
  refine Gc ?_;refine ae (cX rfl) (aj ?_);refine Gr fun w1 hw=>?_;exact⟨(by obtain⟨e1,e2⟩:=xM (s:=s) oM (Uz h1);rw[e1,e2]),ag.mem hw⟩
 refine ao ?_;refine ck (br rfl oM) (Gs ?_);refine ae (ax (v:= .agg (bw (eM ((aD 47 s).1)))) rfl rfl) (ae (ax (v:= .int .i64 ((dF ((aD 47 s).1)):Nat)) rfl rfl) (ae (ax (v:= .int .i64 (fy ((aD 47 s).1))) rfl rfl) (bc fun b7=>ct ?_)));refine Gb ?_ ?_<;>intro h2
 ·
  refine Gc ?_;refine ae (cX rfl) (aj ?_);refine Gr fun w1 hw=>?_;exact⟨(by obtain⟨e1,e2⟩:=xM (s:=s) oM (by rw[CH h1];exact LL oM oM);rw[e1,e2]),ag.mem hw⟩
 have hr:fy (aD 47 s).1=0:=by omega
 obtain⟨_,hm⟩:=Ah oM hr;refine aj ?_;refine ck (br rfl ⟨by omega,by omega⟩) (Gs ?_);refine ae (ax (v:= .int .i64 (((bj ((aD 47 s).2.1) (dF ((aD 47 s).1))).getD 0):Nat)) rfl rfl) (ae (ax (v:= .bool ((bj ((aD 47 s).2.1) (dF ((aD 47 s).1))).isSome)) rfl rfl) (aQ ?_));refine Gb ?_ ?_<;>intro h3
 ·
  refine Gc ?_;refine ae (cX rfl) (aj ?_);refine Gr fun w1 hw=>?_;exact⟨(by obtain⟨e1,e2⟩:=xM (s:=s) oM (by rw[CH h1];exact UF oM hr h3);rw[e1,e2]),ag.mem hw⟩
 refine an ?_;refine ae (cX rfl) (bc fun mu=>aQ ?_);refine Gb ?_ ?_<;>intro h4
 ·
  refine Gc ?_;refine ae (cX rfl) (aj ?_);refine Gr fun w1 hw=>?_;exact⟨(by obtain⟨e1,e2⟩:=xM (s:=s) oM (by rw[CH h1,LM oM hr h3,h4];rfl);rw[e1,e2]),ag.mem hw⟩
 refine aG ?_;refine Gr fun w1 hw=>?_;exact⟨(by obtain⟨e1,e2⟩:=LK (s:=s) (p:=(⟨((dF (aD 47 s).1:Nat):Int),(((bj (aD 47 s).2.1 (dF (aD 47 s).1)).getD 0:Nat):Int),eM (aD 47 s).1⟩:cz)) oM (by rw[CH h1,LM oM hr h3,if_pos h4]);rw[e1,e2]),ag.mem hw⟩⟩
instance alP{s:List UInt8}[tb:oo w0]:bD Tryz.prog 50 w0 L [.string ⟨s.toArray⟩] (.tuple #[.agg (av (j7 s)), .int .i64 (kP s)]) (s.length<=1000000000):=⟨fun aw w hw=>by
 have tb:=tb.at hw;obtain⟨hca,pL⟩:=CG 32 s;refine bQ Tryz.func50 rfl Tryz.ntmps50 rfl ?_;refine Gc ?_;refine bc fun b2=>aj ?_;refine ae (hH (s:=s) Tryz.underlying9 rfl) (ao ?_);refine Gb ?_ ?_<;>intro h0
 ·
  refine Gc ?_;refine ae (cX rfl) (aj ?_);refine Gr fun w1 hw=>?_;exact⟨(by obtain⟨e1,e2⟩:=F9 (s:=s) oM;rw[e1,e2]),ag.mem hw⟩
 refine ao ?_;refine ck (br rfl oM) (Gs ?_);refine ae (ax (v:= .string ⟨((aD 32 s).1).toArray⟩) rfl rfl) (ae (ax (v:= .string ⟨((aD 32 s).2.1).toArray⟩) rfl rfl) (ae (ax (v:= .bool ((aD 32 s).2.2)) rfl rfl) (ct ?_)));refine Gb ?_ ?_<;>intro h1
 ·
  refine Gc ?_;refine ae (cX rfl) (aj ?_);refine Gr fun w1 hw=>?_;exact⟨(by obtain⟨e1,e2⟩:=xN (s:=s) oM (UA h1);rw[e1,e2]),ag.mem hw⟩
 refine ao ?_;refine ck (br rfl oM) (Gs ?_);refine ae (ax (v:= .agg (cl (gQ ((aD 32 s).1)))) rfl rfl) (ae (ax (v:= .int .i64 (hO ((aD 32 s).1))) rfl rfl) (bc fun b7=>aQ ?_));refine Gb ?_ ?_<;>intro h2
 ·
  refine Gc ?_;refine ae (cX rfl) (aj ?_);refine Gr fun w1 hw=>?_;exact⟨(by obtain⟨e1,e2⟩:=xN (s:=s) oM (by rw[F8 h1];exact LO oM oM);rw[e1,e2]),ag.mem hw⟩
 refine ao ?_;refine ck (br (vs:=[_, .int .i64 ((65535:Nat):Int)]) rfl ⟨by omega,by omega⟩) (Gs ?_);refine ae (ax (v:= .int .i64 (((bj ((aD 32 s).2.1) 65535).getD 0):Nat)) rfl rfl) (ae (ax (v:= .bool ((bj ((aD 32 s).2.1) 65535).isSome)) rfl rfl) (aQ ?_));refine Gb ?_ ?_<;>intro h3
 ·
  refine Gc ?_;refine ae (cX rfl) (aj ?_);refine Gr fun w1 hw=>?_;exact⟨(by obtain⟨e1,e2⟩:=xN (s:=s) oM (by rw[F8 h1];exact LP (by simpa using h3));rw[e1,e2]),ag.mem hw⟩
 obtain⟨m,hm⟩:=amH.1 h3;have ZV:=(gZ.1 hm).2;refine aj ?_;refine ae (Ry.as (v':= .int .u16 (((UInt16.ofNat ((bj (aD 32 s).2.1 65535).getD 0)).toNat:Nat):Int)) (iS rfl (by have:=Ai (aD 32 s).2.1 65535;simp only[nb];omega)) (LR (Ai (aD 32 s).2.1 65535))) (ae (cX rfl) (aj ?_));refine Gr fun w1 hw=>?_;exact⟨(by obtain⟨e1,e2⟩:=Ga (s:=s) oM ((F8 h1).trans (LQ oM oM hm));rw[e1,e2,hm];rfl),ag.mem hw⟩⟩
instance alQ{s:List UInt8}[tb:gS w0]:bD Tryz.prog 80 w0 L [.string ⟨s.toArray⟩] (.tuple #[.agg (aZ (dm s)), .int .i64 (eu s)]) (s.length<=1000000000):=⟨fun aw w hw=>by
 have tb:=tb.at hw;have zB:=CG 32 s;have Gj:=(Aj (aD 32 s).1).1;refine bQ Tryz.func80 rfl Tryz.ntmps80 rfl ?_;refine Gc ?_;refine bc fun b2=>aj ?_;refine ck (br rfl oM) (Gs ?_);refine ae (ax (v:= .string ⟨((aD 32 s).1).toArray⟩) rfl rfl) (ae (ax (v:= .string ⟨((aD 32 s).2.1).toArray⟩) rfl rfl) (ae (ax (v:= .bool ((aD 32 s).2.2)) rfl rfl) (aQ ?_)));refine ae (cX rfl) (bc fun b7=>an ?_);refine fb ?_;refine mB (X:=aO×Bool×Int) (fun U=>[(7, .pointer (some ⟨b7,0,none⟩)),(8, .bool U.2.1),(9, .int .i64 U.2.2),(0, .string ⟨s.toArray⟩),(2, .pointer (some ⟨b2,0,none⟩))]) (fun U=>[al b7 (aZ U.1) 73,al b2 (aZ gC) 73]) (fun U=>(U.2.2=0/\U.2.1=true->Gl s U.1)/\(¬(U.2.2=0/\U.2.1=true)->ji s=none)/\bh (aD 32 s).1≠0) ?_ ?_
 ·
  refine ct ?_;refine Gb ?_ ?_<;>intro h0
  ·
   have k0:bh (aD 32 s).1=0:=by omega
   refine Gc ?_;refine ae (cX rfl) (aj ?_);refine Gr fun w1 hw=>?_;exact⟨(by rw[(Gu k0).1,(Gu k0).2]),ag.mem hw⟩
  have k0:bh (aD 32 s).1≠0:=by omega
  refine an ?_;refine Gb ?_ ?_<;>intro h1
  ·
   have k1:bh (aD 32 s).1=1:=by omega
   refine Gi ?_;refine Gs ?_;refine ck (br rfl oM) (Gs ?_);refine ae (ax (v:= .agg (av (j7 ((aD 32 s).2.1)))) rfl rfl) (ae (ax (v:= .int .i64 (kP ((aD 32 s).2.1))) rfl rfl) (Gs ?_));refine lL (cs':=aZ (⟨((bh (aD 32 s).1:Nat):Int),j7 (aD 32 s).2.1,0#128,0,0⟩:aO)) rfl rfl (by rw[iK];decide) (HZ (⟨((bh (aD 32 s).1:Nat):Int),bp,0#128,0,0⟩:aO) _) (Gs ?_);refine fb ?_;exact eD ((⟨((bh (aD 32 s).1:Nat):Int),j7 (aD 32 s).2.1,0#128,0,0⟩:aO),true,kP (aD 32 s).2.1) ⟨fun g=>Al (by rw[Gm k1];exact if_pos g.1),fun g=>by rw[Gm k1];exact if_neg fun q=>g ⟨q,rfl⟩,k0⟩ sb (fun w hw=>ag.mem hw)
  refine an ?_;refine Gb ?_ ?_<;>intro h2
  ·
   have k1:bh (aD 32 s).1=2:=by omega
   refine Gi ?_;refine Gs ?_;refine ck (br rfl oM) (Gs ?_);refine ae (ax (v:= .agg (cl (gQ ((aD 32 s).2.1)))) rfl rfl) (ae (ax (v:= .int .i64 (hO ((aD 32 s).2.1))) rfl rfl) (ao ?_));refine lL (cs':=aZ (⟨((bh (aD 32 s).1:Nat):Int),⟨gQ (aD 32 s).2.1,0⟩,0#128,0,0⟩:aO)) rfl rfl (by rw[iK];decide) (H2 (⟨((bh (aD 32 s).1:Nat):Int),bp,0#128,0,0⟩:aO) _) (Gs ?_);refine fb ?_;exact eD ((⟨((bh (aD 32 s).1:Nat):Int),⟨gQ (aD 32 s).2.1,0⟩,0#128,0,0⟩:aO),true,hO (aD 32 s).2.1) ⟨fun g=>Al (by rw[Gn k1];exact if_pos g.1),fun g=>by rw[Gn k1];exact if_neg fun q=>g ⟨q,rfl⟩,k0⟩ sb (fun w hw=>ag.mem hw)
  refine an ?_;refine Gb ?_ ?_<;>intro h3
  ·
   have k1:bh (aD 32 s).1=4:=by omega
   refine Gi ?_;refine Gs ?_;refine ck (br rfl oM) (Gs ?_);refine ae (ax (v:= .agg (bw (eM ((aD 32 s).2.1)))) rfl rfl) (ae (ax (v:= .int .i64 ((dF ((aD 32 s).2.1)):Nat)) rfl rfl) (ae (ax (v:= .int .i64 (fy ((aD 32 s).2.1))) rfl rfl) (Gs ?_)));refine lL (cs':=aZ (⟨((bh (aD 32 s).1:Nat):Int),bp,eM (aD 32 s).2.1,0,0⟩:aO)) rfl rfl (by rw[iK];decide) (H3 (⟨((bh (aD 32 s).1:Nat):Int),bp,0#128,0,0⟩:aO) _) (Gs ?_);refine cR (cs':=aZ (⟨((bh (aD 32 s).1:Nat):Int),bp,eM (aD 32 s).2.1,(dF (aD 32 s).2.1:Nat),0⟩:aO)) rfl rfl (by rw[iK];decide) rfl (H4 (⟨((bh (aD 32 s).1:Nat):Int),bp,eM (aD 32 s).2.1,0,0⟩:aO) _) (Gs ?_);refine fb ?_;exact eD ((⟨((bh (aD 32 s).1:Nat):Int),bp,eM (aD 32 s).2.1,(dF (aD 32 s).2.1:Nat),0⟩:aO),true,fy (aD 32 s).2.1) ⟨fun g=>Al (by rw[Gp k1];exact if_pos g.1),fun g=>by rw[Gp k1];exact if_neg fun q=>g ⟨q,rfl⟩,k0⟩ sb (fun w hw=>ag.mem hw)
  refine mB (X:=Bool) (fun U=>[(53, .bool U),(0, .string ⟨s.toArray⟩),(2, .pointer (some ⟨b2,0,none⟩)),(5, .string ⟨((aD 32 s).2.1).toArray⟩),(7, .pointer (some ⟨b7,0,none⟩)),(8, .bool true),(9, .int .i64 0)]) (fun U=>[al b7 (aZ (⟨((bh (aD 32 s).1:Nat):Int),bp,0#128,0,0⟩:aO)) 73,al b2 (aZ gC) 73]) (fun U=>U=decide (((bh (aD 32 s).1:Nat):Int)=5\/((bh (aD 32 s).1:Nat):Int)=6)) ?_ ?_
  ·
   refine an ?_;refine Gb ?_ ?_<;>intro h4
   ·
    refine Gi ?_;exact eD (decide (((bh (aD 32 s).1:Nat):Int)=5)) (by simp[h4]) sb (fun w hw=>ag.mem hw)
   refine Gi ?_;refine ao ?_;refine Gi ?_;exact eD (decide (((bh (aD 32 s).1:Nat):Int)=6)) (by simp[h4]) sb (fun w hw=>ag.mem hw)
  rintro z hz;refine Gb ?_ ?_<;>intro h5
  ·
   have k5:((bh (aD 32 s).1:Nat):Int)=5\/((bh (aD 32 s).1:Nat):Int)=6:=of_decide_eq_true (hz.symm.trans h5);have k1:bh (aD 32 s).1=5\/bh (aD 32 s).1=6:=by omega
   have I3:=Y1 (aD 32 s).2.1;refine Gi ?_;refine Gs ?_;refine ck (br rfl oM) (Gs ?_);refine ae (ax (v:= .int .i64 (((bj ((aD 32 s).2.1) 999).getD 0):Nat)) rfl rfl) (ae (ax (v:= .bool ((bj ((aD 32 s).2.1) 999).isSome)) rfl rfl) (Gs ?_));refine cR (cs':=aZ (⟨((bh (aD 32 s).1:Nat):Int),bp,0#128,0,Int64.ofInt ((((bj (aD 32 s).2.1 999).getD 0:Nat)):Int)⟩:aO)) rfl rfl (by rw[iK];decide) rfl (Y2 (⟨((bh (aD 32 s).1:Nat):Int),bp,0#128,0,0⟩:aO) I3) (Gs ?_);refine fb ?_;exact eD ((⟨((bh (aD 32 s).1:Nat):Int),bp,0#128,0,Int64.ofInt ((((bj (aD 32 s).2.1 999).getD 0:Nat)):Int)⟩:aO),(bj (aD 32 s).2.1 999).isSome,0) ⟨fun g=>Al (by rw[Gt k1];obtain⟨n,hn⟩:=amH.1 g.2;rw[hn];rfl),fun g=>by rw[Gt k1];cases hn:bj (aD 32 s).2.1 999 with|none=>rfl|some n=>exact absurd ⟨rfl,by simp only[hn];rfl⟩ g,k0⟩ sb (fun w hw=>ag.mem hw)
  have k5: ¬(((bh (aD 32 s).1:Nat):Int)=5\/((bh (aD 32 s).1:Nat):Int)=6):=of_decide_eq_false (hz.symm.trans h5);refine fb ?_;exact eD ((⟨((bh (aD 32 s).1:Nat):Int),bp,0#128,0,0⟩:aO),true,0) ⟨fun _=>UR k0 oF oF oF oF,fun g=>absurd ⟨rfl,rfl⟩ g,k0⟩ sb (fun w hw=>ag.mem hw)
 rintro⟨y,ok,e⟩ ⟨jc,dk,k0⟩;dsimp only;simp only at jc dk;refine aG ?_;refine aV rfl rfl rfl (fun hg=>(Ry.yl (kg (au hg rfl)))) (ao ?_);refine Gb ?_ ?_<;>intro h6
 ·
  have cF:=(ow k0).2 (dk fun g=>h6.elim (fun q=>q g.1) fun q=>by rw[g.2]at q;cases q);refine Gc ?_;refine ae (cX rfl) (aj ?_);refine Gr fun w1 hw=>?_;exact⟨(by rw[cF.1,cF.2]),ag.mem hw⟩
 obtain⟨cd,bE⟩:=jc ⟨h6.1,h6.2⟩;obtain⟨zD,hl2⟩:=jG cd;refine an ?_;refine ae (ax (v:= .string ⟨(ru y).toArray⟩) rfl rfl) (ae (ax (v:= .int .i64 (ov y)) rfl rfl) (dV ?_));refine aV rfl rfl rfl (fun hg=>(Ry.yl (xu (au hg rfl) (au hg rfl)))) (ao ?_);refine Gb ?_ ?_<;>intro h7
 ·
  have cF:dm s=gC/\eu s=2:=by
   rcases bE with⟨g1,g2⟩|⟨g1,g2⟩
   ·
    rcases h7 with q|q
    ·
     exact absurd hl2 q
    exact absurd (zD.trans g1) q
   exact(ow k0).2 g2
  refine Gc ?_;refine ae (cX rfl) (aj ?_);refine Gr fun w1 hw=>?_;exact⟨(by rw[cF.1,cF.2]),ag.mem hw⟩
 have cW:dm s=y/\eu s=0:=by
  rcases bE with⟨g1,g2⟩|⟨g1,g2⟩
  ·
   exact(ow k0).1 y g2
  exact absurd (zD.symm.trans h7.2) g1
 refine aG ?_;refine Gr fun w1 hw=>?_;exact⟨(by rw[cW.1,cW.2]),ag.mem hw⟩⟩
end Go.Proofs.YtkggjjnhnjjokaaGreatDoor
