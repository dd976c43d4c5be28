/- Laws and walks by which the law LabTells is proved, each with its own conditions. -/
import Derived.Test.YtkggjjnhnjjokaaGreatDoorH5
set_option maxRecDepth 20000
set_option linter.unusedSimpArgs false
set_option linter.unusedVariables false
namespace Go.Proofs.YtkggjjnhnjjokaaGreatDoor
open Go.ax Go.Kb Go.RowKit Go.Proofs.Tryz
theorem ago(i:Int)(g:UInt64)(s:Sv)(xs:List UInt8)(w:World):(Instr.build 324 #[(0, .int .i64 1),(1, .int .i64 i),(2, .int .u64 (g.toNat:Int)),(3,s.val)]).run prog w= .ok (.agg (dt ⟨1,i,g,⟨s,xs⟩⟩)) w:=by
 obtain⟨e,b,o,l,c,p⟩:=s;unfold dt
 cases e<;>kernel_rfl
theorem agp(w0 w:World)(L:List ai)(k:Nat)(xc:Cp)(xa:Sl Int)(xg:UInt64)(xl:Int)(xy:Bool)(f:Int)(t:Int)(hw:Mem w0 (aq k (aS (⟨⟨xc,xa,xg,xl⟩,xy⟩:aT)) 261::fz xc::fz xa::L) w)(aC:db (⟨⟨cv xc,xa.xs,xg.toNat,xl⟩,xy⟩:WV)/\2<=f/\f<(cv xc).blocks.length/\(0<=t->2<=t/\t<(cv xc).blocks.length)):Calls prog 331 #[.pointer (some ⟨k,0,none⟩), .int .i64 f, .int .i64 t] w fun e w'=> ∃U:Cp×Sl Int×UInt64×Int,e= .returned (.tuple #[.bool ((cZ (⟨⟨cv xc,xa.xs,xg.toNat,xl⟩,xy⟩:WV) f t).2.1), .int .i64 ((cZ (⟨⟨cv xc,xa.xs,xg.toNat,xl⟩,xy⟩:WV) f t).2.2)])/\((⟨⟨cv U.1,U.2.1.xs,U.2.2.1.toNat,U.2.2.2⟩,xy⟩:WV)=(cZ (⟨⟨cv xc,xa.xs,xg.toNat,xl⟩,xy⟩:WV) f t).1)/\Mem w0 (aq k (aS (⟨⟨U.1,U.2.1,U.2.2.1,U.2.2.2⟩,xy⟩:aT)) 261::fz U.1::fz U.2.1::L) w':=by
 obtain⟨ij,lV,AH,MF⟩:=aC;have hk:aW (cv xc)=true:=ij.ae;have BG:4<=(cv xc).blocks.length:=ij.tB;have hd:=fe hk;have zJ:xg.toNat<281474976710656:=ij.gen;have vg:=MU zJ;have dj:xa.xs.length<=64:=ij.kT;have wD:iZ (cv xc) xa.xs:=ij.wg;have U4:1<=xc.pages/\xc.pages<=16:=⟨hd.2.2.1,hd.2.2.2.1⟩;refine hY (args:=[_,_,_]) func331 rfl ntmps331 rfl hw ?_;change Cw _ _ _ _ _ [(0, .pointer (some ⟨k,0,none⟩)),(1, .int .i64 f),(2, .int .i64 t)] (aq k (aS (⟨⟨xc,xa,xg,xl⟩,xy⟩:aT)) 261::fz xc::fz xa::L);refine iS ?_;refine ag (Ry.to (v':= .int .i64 xc.pages) (bE rfl) rfl) (aY ?_);refine ag (Ry.to (v':=xa.sv.val) (bE rfl) rfl) (bb rfl oM fun aD xY=>aY ?_);refine ag (Ry.to (v':=xa.sv.val) (bE rfl) rfl) (al ?_);refine cg (X:=Nat×Cp×List Int) (fun U=>[(39, .int .i64 (U.1:Nat)),(0, .pointer (some ⟨k,0,none⟩)),(9,aD.val),(1, .int .i64 f),(2, .int .i64 t),(8, .int .i64 xc.pages),(37,xa.sv.val),(38, .int .i64 (xa.xs.length:Nat))]) (fun U=>aq k (aS (⟨⟨U.2.1,xa,xg,xl⟩,xy⟩:aT)) 261::fz U.2.1::fz xa::own ck 1 aD U.2.2::L) (fun U=>U.1<=xa.xs.length/\(cj (⟨cv xc,xa.xs,xg.toNat,xl⟩:VV) f t xa.xs 0 (cv xc) xa.xs)=(cj (⟨cv xc,xa.xs,xg.toNat,xl⟩:VV) f t (xa.xs.drop U.1) U.1 (cv U.2.1) U.2.2)/\aW (cv U.2.1)=true/\dV (cv xc) (cv U.2.1)/\U.2.2.length=xa.xs.length/\iZ (cv xc) U.2.2) (fun U=>xa.xs.length -U.1) (0,xc,xa.xs) ⟨Nat.zero_le _,rfl,hk, .du _,rfl,wD⟩ sb (fun w hw=>ah.mem hw) ?_;rintro⟨i,d,zs⟩ ⟨bg,aK,bx,di,D1,HO⟩;dsimp only;simp only at bg aK bx di D1 HO;have HP:=di.len;have D2:d.pages=xc.pages:=di.pages;have kv:(cv d).blocks.length=d.blocks.xs.length:=iv _;refine al ?_;refine Gb ?_ ?_<;>intro h0
 ·
  obtain⟨n,xT⟩:=get_some (xs:=xa.xs) (i:=i) oM;obtain⟨zi,qK⟩:=get_some (xs:=zs) (i:=i) oM;have MW:=wD n (atl xT);have hnn:0<=n:=by rcases MW with h|h<;>omega
  have hnp:n<=512:=by
   rcases MW with h|h
   ·omega
   exact Lm U4.1 U4.2 hd.2.1 h.2.2
  have bD:(cj (⟨cv xc,xa.xs,xg.toNat,xl⟩:VV) f t (xa.xs.drop i) i (cv d) zs)=(if n=0\/(n -1)/xc.pages≠f then(cj (⟨cv xc,xa.xs,xg.toNat,xl⟩:VV) f t (xa.xs.drop (i+1)) (i+1) (cv d) zs)else if(cC (cv d) xa.xs zs f t).2=false then(⟨cv d,zs,some 6⟩:MV)else if(eA (cv d) ((xg.toNat:Int)+1) i n).2≠0 then⟨cv d,zs,some (eA (cv d) ((xg.toNat:Int)+1) i n).2⟩else if(bC (cv d) (cC (cv d) xa.xs zs f t).1 (eA (cv d) ((xg.toNat:Int)+1) i n).1)≠0 then⟨(bB (cv d) (cC (cv d) xa.xs zs f t).1 (eA (cv d) ((xg.toNat:Int)+1) i n).1),zs,some (j9 (bC (cv d) (cC (cv d) xa.xs zs f t).1 (eA (cv d) ((xg.toNat:Int)+1) i n).1))⟩else(cj (⟨cv xc,xa.xs,xg.toNat,xl⟩:VV) f t (xa.xs.drop (i+1)) (i+1) (bB (cv d) (cC (cv d) xa.xs zs f t).1 (eA (cv d) ((xg.toNat:Int)+1) i n).1) (zs.set i ((cC (cv d) xa.xs zs f t).1*xc.pages+(ak (cv d) (cC (cv d) xa.xs zs f t).1).used+1)))):=by
   rw[drop_at xT,cj];rfl
  refine au ?_;refine ag (bf rfl rfl i rfl oM) (ag (bW (j:=0) rfl i xT rfl dDq) (cX ?_));refine bU rfl rfl rfl (fun hg=>(Ry.yl (Ag (aG hg rfl) rfl (by simp only[Z0,Z1,Z2,Z3,Z4,Z5,Z6,Z7,Z8,Z9]at hg;omega)))) (Gg ?_);refine bU rfl rfl rfl (fun hg=>(Ry.yl (ou (aG hg rfl) (aG hg rfl) (by simp only[Z0,Z1,Z2,Z3,Z4,Z5,Z6,Z7,Z8,Z9]at hg;omega) (by simp only[Z0,Z1,Z2,Z3,Z4,Z5,Z6,Z7,Z8,Z9]at hg;omega)))) (ar ?_);refine Gb ?_ ?_<;>intro h1
  ·refine al ?_;refine Gi ?_;exact bo (x:=(i,d,zs)) (i+1,d,zs) ⟨by simp only;omega,by rw[aK,bD,if_pos h1],bx,di,D1,HO⟩ (by simp only;omega) sb (fun w hw=>ah.mem hw)
  have fk: ¬(n=0\/(n -1)/xc.pages≠f):=fun g=>g.elim h1.1 (fun g=>g h1.2);have HQ:1<=n/\n<=1000000/\2<=(n -1)/d.pages/\(n -1)/d.pages<((cv d).blocks.length:Int):=by
   rw[D2,HP];rcases MW with h|h
   ·exact absurd (.inl h) fk
   exact⟨h.1,oM,h.2.1,h.2.2⟩
  refine al ?_;refine gF ?_;refine qY (X:=Unit) (fun U=>[(12, .int .i64 ((cC (cv d) xa.xs zs f t).1)),(0, .pointer (some ⟨k,0,none⟩)),(1, .int .i64 f),(2, .int .i64 t),(8, .int .i64 xc.pages),(9,aD.val),(10, .int .i64 (i:Nat)),(37,xa.sv.val),(38, .int .i64 (xa.xs.length:Nat)),(39, .int .i64 (i:Nat))]) (fun U=>aq k (aS (⟨⟨d,xa,xg,xl⟩,xy⟩:aT)) 261::fz d::fz xa::own ck 1 aD zs::L) (fun U=>(cC (cv d) xa.xs zs f t).2=true/\2<=(cC (cv d) xa.xs zs f t).1/\(cC (cv d) xa.xs zs f t).1<(cv d).blocks.length) ?_ ?_
  ·
   refine ar ?_;refine Gb ?_ ?_<;>intro h2
   ·
    refine Gi ?_;have eS:aw [xa,(⟨aD,zs⟩:Sl Int)]=xa.xs++zs:=MO _ _;have mX:=mh (cv d) (aw [xa,(⟨aD,zs⟩:Sl Int)]);obtain⟨q,hq⟩:=get_some (xs:=(av (cv d) (aw [xa,(⟨aD,zs⟩:Sl Int)]))) (i:=(f -2).toNat) (by rw[mh];omega);have rE:xA (cv d) (aw [xa,(⟨aD,zs⟩:Sl Int)]):=by
     rw[MO];exact((wD.cm di).append (HO.cm di)).kn bx oM (by rw[adr];omega)
    refine Gi ?_;refine aP ?_;refine ag (Ry.to (v':=xa.sv.val) (bE rfl) rfl) (Gs ?_);refine nP (enc:=cw) (vals:=[xa.sv.val,aD.val]) [xa,(⟨aD,zs⟩:Sl Int)] rfl (by simp only[aum,au4,Sv.jW];rfl) rfl dDq dDq fun b64=>?_;refine bb (hc:=MN (l:=(⟨⟨false,b64,0,2,2,none⟩,[xa,⟨aD,zs⟩]⟩:Sl (Sl Int)))) rfl rE fun x65 asb=>aP ?_;refine ag (cR (v:= .agg (bM bc)) rfl HM) (ag (bf rfl rfl ((f -2).toNat) oM (show(f -2).toNat<(av (cv d) (aw [xa,(⟨aD,zs⟩:Sl Int)])).length by omega)) (mC (s:=x65) (n:=4) (k:=(f -2).toNat) (j:=0) (a:=q) (a':=bc) (xs:=(av (cv d) (aw [xa,(⟨aD,zs⟩:Sl Int)]))) (enc:=bM) (c:=4) (v:= .agg (bM bc)) oK rfl rfl rfl hq (bp.one (enc:=bM) (c:=4) _) rfl dDq (by rfl) (aP ?_)));refine ag (aB (v:= .int .i64 ((fL ((av (cv d) (aw [xa,(⟨aD,zs⟩:Sl Int)])).set (f -2).toNat bc) xc.pages).1)) rfl rfl) (ag (aB (v:= .bool ((fL ((av (cv d) (aw [xa,(⟨aD,zs⟩:Sl Int)])).set (f -2).toNat bc) xc.pages).2)) rfl rfl) (aY ?_));refine Gb ?_ ?_<;>intro h3
    ·
     have Bx:(cC (cv d) xa.xs zs f t).2=false:=by rw[cC,if_pos h2,←eS,if_neg];rw[show(cv d).pages=xc.pages from D2,h3];simp
     have hE:=LB (x:=(⟨⟨cv xc,xa.xs,xg.toNat,xl⟩,xy⟩:WV)) (src:=f) (tgt:=t) (show cj _ _ _ _ _ _ _=_ from(aK.trans (bD.trans ((if_neg fk).trans (if_pos Bx)))));refine ar ?_;refine Gr fun w1 hw=>?_;exact⟨(d,xa,xg,xl),by rw[hE],by rw[hE];rfl,ah.mem hw⟩
    have va:=A0 (show(gw _ _ _ _).2=true from h3);have HR:(cC (cv d) xa.xs zs f t)=((fL ((av (cv d) (aw [xa,(⟨aD,zs⟩:Sl Int)])).set (f -2).toNat bc) xc.pages).1+2,true):=by rw[cC,if_pos h2,←eS,show(cv d).pages=xc.pages from D2,if_pos h3]
    have asc:0<=(fL ((av (cv d) (aw [xa,(⟨aD,zs⟩:Sl Int)])).set (f -2).toNat bc) xc.pages).1:=va.2.1;have agq:(fL ((av (cv d) (aw [xa,(⟨aD,zs⟩:Sl Int)])).set (f -2).toNat bc) xc.pages).1<(((av (cv d) (aw [xa,(⟨aD,zs⟩:Sl Int)])).set (f -2).toNat bc).length:Int):=va.2.2.1;rw[auA,mh]at agq;refine ar ?_;refine Gi ?_;exact gD () ⟨by rw[HR],by rw[HR];simp only;omega,by rw[HR];simp only;omega⟩ (Sub.cons (look_eq rfl (by rw[HR])) sb) (fun w hw=>ah.mem hw)
   refine Gi ?_;exact gD () ⟨by rw[cC,if_neg h2],by rw[cC,if_neg h2];exact(MF oF).1,by rw[cC,if_neg h2,HP];exact(MF oF).2⟩ (Sub.cons (look_eq rfl (by rw[cC,if_neg h2])) sb) (fun w hw=>ah.mem hw)
  rintro⟨⟩ ⟨wE,yp,BI⟩;obtain⟨B,hB⟩:=get_some (xs:=d.blocks.xs) (i:=(cC (cv d) xa.xs zs f t).1.toNat) oM;have tT:Mb B d.blocks:=⟨List.mem_of_getElem? hB⟩;have ft:=uN hB;have rG:(ak (cv d) (cC (cv d) xa.xs zs f t).1).used=B.used:=by rw[ft];rfl
  have gR:=fy.1 (tu bx (b:=(cC (cv d) xa.xs zs f t).1) oM oM);rw[rG,show(cv d).pages=xc.pages from D2]at gR;have oW:0<=(cC (cv d) xa.xs zs f t).1*xc.pages:=avG oM oM;have qM:(cC (cv d) xa.xs zs f t).1*xc.pages<=32*16:=awX oM oM oM oM;refine Gi ?_;refine pA [12,14,15,2014,4012] [[],[],[],[],[],[],[],[],[],[],[],[],[],[12],[],[12,14]] [0,1,2,3,4,5,6,7,8,9,10,11,12,13,14,15] [aq k (aS (⟨⟨d,xa,xg,xl⟩,xy⟩:aT)) 261,fz d,fz xa] [(14,mG prog 324)] oK (fun _ hw=>ah.mem hw) oK oK (an rfl (bm rfl) (an rfl (bm rfl) (an rfl (gE rfl) (an rfl (aM (o':=0) rfl rfl) (an rfl (aM (o':=7) rfl rfl) (an rfl (Ry.to (v':= .int .u64 (xg.toNat:Nat)) (bE rfl) rfl) (an rfl (Ry.to (v':= .int .u64 ((xg+1).toNat:Int)) (Co (p:=xg.toNat) (q:=1) rfl rfl rfl rfl (by simp only[nb];omega)) (by rw[vg])) (an rfl (bm rfl) (an rfl (gE rfl) (an rfl (aM (o':=0) rfl rfl) (an rfl (Ry.to (v':= .agg (cF (⟨d,xa,xg,xl⟩:cB))) (fM rfl) rfl) (an rfl (bm rfl) ?_))))))))))));refine vR (hc:=UU (v:=(⟨d,xa,xg,xl⟩:cB)) (id:=((i:Nat):Int))) (Kn:=fun e_=>UU (v:=(⟨d,xa,xg,xl⟩:cB)) (id:=((i:Nat):Int))) rfl rfl ⟨bx,n,by rw[avb];exact xT,oM,HQ.1,HQ.2.1,HQ.2.2.1,HQ.2.2.2⟩ (fun e x w hw=>ah.mem hw) (Cert.one (i:=14) rfl rfl rfl mH (Cert.none rfl)) fun D3 asd=>⟨fun _ hw=>ah.mem hw,?_⟩;refine an rfl (cR (v:= .agg (dt (⟨1,((i:Nat):Int),xg+1,⟨D3,(jw (cv d) (xa.xs.getD ((i:Nat):Int).toNat 0))⟩⟩:fA))) rfl (ago ((i:Nat):Int) (xg+1) D3 _)) (oI (m:=mG prog 324) rfl rfl mH (Cert.none rfl) fun pf=>?_);change Ln _ _ _ _ _ _ _ _ (cr _ _ (.pointer (some ⟨pf,0,none⟩))) (aq pf (dt pO) 324::_) _;refine dr rfl (qw rfl rfl ⟨fun _ hw=>ah.mem hw,?_⟩);refine j6 ?_;have nw:(dy (c8 (⟨1,((i:Nat):Int),xg+1,⟨D3,(jw (cv d) (xa.xs.getD ((i:Nat):Int).toNat 0))⟩⟩:fA)) d.size)=(eA (cv d) ((xg.toNat:Int)+1) i n):=by
   have e1:xa.xs.getD ((i:Nat):Int).toNat 0=n:=by rw[avb];exact qC xT
   rw[eA,e1];simp only[c8,vg];congr 2
  refine jt [7] [[],[],[],[],[],[],[],[],[7],[7],[7],[7],[7]] [0,1,2,3,4,5,6,7,8,9,10,11,12] [aq k (aS (⟨⟨d,xa,xg,xl⟩,xy⟩:aT)) 261,fz d,aq pf (dt (⟨1,((i:Nat):Int),xg+1,⟨D3,(jw (cv d) (xa.xs.getD ((i:Nat):Int).toNat 0))⟩⟩:fA)) 324] (fun _ hw=>ah.mem hw) oK oK (an rfl (jU rfl) (an rfl (bm rfl) (an rfl (gE rfl) (an rfl (aM (o':=0) rfl rfl) (an rfl (aM (o':=0) rfl rfl) (an rfl (aM (o':=1) rfl rfl) (an rfl (Ry.to (v':= .int .i64 d.size) (bE rfl) rfl) (dr rfl (qv rfl trivial fun agr ase=>⟨fun _ hw=>ah.mem hw,?_⟩)))))))));refine an rfl (bm rfl) (an rfl (aB (v:=agr.val) rfl rfl) (an rfl (aB (v:= .int .i64 ((dy (c8 (⟨1,((i:Nat):Int),xg+1,⟨D3,(jw (cv d) (xa.xs.getD ((i:Nat):Int).toNat 0))⟩⟩:fA)) d.size).2)) rfl rfl) (an rfl (hO rfl) (an rfl (hO rfl) (ar ?_)))));refine Gb ?_ ?_<;>intro h4
  ·
   have ki:(eA (cv d) ((xg.toNat:Int)+1) i n).2≠0:=by rw[←nw];exact h4
   have hE:=LB (x:=(⟨⟨cv xc,xa.xs,xg.toNat,xl⟩,xy⟩:WV)) (src:=f) (tgt:=t) (show cj _ _ _ _ _ _ _=_ from(aK.trans (bD.trans ((if_neg fk).trans ((if_neg (by rw[wE];simp)).trans (if_pos ki))))));refine aP ?_;refine Gr fun w1 hw=>?_;exact⟨(d,xa,xg,xl),by rw[hE,nw],by rw[hE];rfl,ah.mem hw⟩
  have ki:(eA (cv d) ((xg.toNat:Int)+1) i n).2=0:=by rw[←nw];exact h4
  refine aY ?_;refine ag (Ry.to (v':=d.blocks.sv.val) (bE rfl) rfl) (Gs ?_);refine ag (bf rfl rfl ((cC (cv d) xa.xs zs f t).1.toNat) oM oM) (ag (aM rfl rfl) (ag (bW (j:=1) rfl ((cC (cv d) xa.xs zs f t).1.toNat) hB rfl dDq) (aP ?_)));refine bb rfl ⟨bx,oM,oM⟩ fun U5 D4=>?_;rw[nw]at D4;refine aP ?_;refine Gb ?_ ?_<;>intro h5
  ·
   have qc:(bC (cv d) (cC (cv d) xa.xs zs f t).1 (eA (cv d) ((xg.toNat:Int)+1) i n).1)≠0:=by rw[←nw];exact h5
   have hE:=LB (x:=(⟨⟨cv xc,xa.xs,xg.toNat,xl⟩,xy⟩:WV)) (src:=f) (tgt:=t) (show cj _ _ _ _ _ _ _=_ from(aK.trans (bD.trans ((if_neg fk).trans ((if_neg (by rw[wE];simp)).trans ((if_neg (fun h=>h ki)).trans (if_pos qc)))))));refine aY ?_;refine Gr fun w1 hw=>?_;exact⟨(U5,xa,xg,xl),by rw[hE,nw],by rw[hE,D4];rfl,ah.mem hw⟩
  have qc:(bC (cv d) (cC (cv d) xa.xs zs f t).1 (eA (cv d) ((xg.toNat:Int)+1) i n).1)=0:=by rw[←nw];exact h5
  have gn:=j7.1 (qD qc).1;rw[rG,show(cv d).pages=xc.pages from D2]at gn;have BJ:((cC (cv d) xa.xs zs f t).1*xc.pages+B.used+1)=0\/(1<=((cC (cv d) xa.xs zs f t).1*xc.pages+B.used+1)/\2<=(((cC (cv d) xa.xs zs f t).1*xc.pages+B.used+1) -1)/(cv xc).pages/\(((cC (cv d) xa.xs zs f t).1*xc.pages+B.used+1) -1)/(cv xc).pages<((cv xc).blocks.length:Int)):=by
   have hq:(((cC (cv d) xa.xs zs f t).1*xc.pages+B.used+1) -1)/xc.pages=(cC (cv d) xa.xs zs f t).1:=by
    rw[avt,avT,avh _ _ oM,auZ gn.2.1 gn.2.2.1,avY]
   exact .inr ⟨oM,by rw[show(cv xc).pages=xc.pages from rfl,hq];exact yp,by rw[show(cv xc).pages=xc.pages from rfl,hq];omega⟩
  refine aP ?_;refine ag (vC rfl rfl oM) (al ?_);refine ag (bf rfl rfl i rfl oM) (mC (s:=aD) (n:=1) (k:=i) (j:=0) (a:=zi) (a':=((cC (cv d) xa.xs zs f t).1*xc.pages+B.used+1)) (xs:=zs) (enc:=ck) (c:=1) (v:= .int .i64 ((cC (cv d) xa.xs zs f t).1*xc.pages+B.used+1)) oK rfl rfl rfl qK (by simp[Value.cells,Value.oneCell']) rfl dDq (by rfl) (al ?_));refine Gi ?_;exact bo (x:=(i,d,zs)) (i+1,U5,zs.set i ((cC (cv d) xa.xs zs f t).1*xc.pages+B.used+1)) ⟨by simp only;omega,by rw[aK,bD,if_neg fk,if_neg (by rw[wE];simp),if_neg (fun h=>h ki),if_neg (fun h=>h qc),D4,rG],by rw[D4];exact mg bx _ _,by rw[D4];exact di.trans (iY _ _ _),by rw[auA];exact D1,fun y hy=>(auG hy).elim (HO y) fun hy=>hy▸BJ⟩ (by simp only;omega) sb (fun w hw=>ah.mem hw)
 obtain rfl:i=xa.xs.length:=by omega
 have wF:(cj (⟨cv xc,xa.xs,xg.toNat,xl⟩:VV) f t xa.xs 0 (cv xc) xa.xs)=⟨cv d,zs,none⟩:=by rw[aK,awf];rfl
 have hE:=adR (x:=(⟨⟨cv xc,xa.xs,xg.toNat,xl⟩,xy⟩:WV)) (src:=f) (tgt:=t) wF;have MX:db (⟨⟨cv d,xa.xs,xg.toNat,xl⟩,xy⟩:WV):=ij.on bx di;refine al ?_;refine bb rfl MX fun HS ags=>fS ?_;refine Gr fun w1 hw=>?_;exact⟨(HS.1,HS.2.1,HS.2.2.1,HS.2.2.2),by rw[hE];rfl,by rw[hE];exact ags,ah.mem hw⟩
instance asf{w0:World}{L R1 R2 L2:List ai}{i0 i1 i2:Nat}{k:Nat}{xc:Cp}{xa:Sl Int}{xg:UInt64}{xl:Int}{xy:Bool}{f:Int}{t:Int}[q0:Has L k (aS (⟨⟨xc,xa,xg,xl⟩,xy⟩:aT)) 261 i0][d0:ct L i0 R1][q1:At R1 (fz xc) i1][d1:ct R1 i1 R2][q2:At R2 (fz xa) i2][d2:ct R2 i2 L2]:bY prog 331 w0 L [.pointer (some ⟨k,0,none⟩), .int .i64 f, .int .i64 t] (Cp×Sl Int×UInt64×Int) (fun U=> .tuple #[.bool ((cZ (⟨⟨cv xc,xa.xs,xg.toNat,xl⟩,xy⟩:WV) f t).2.1), .int .i64 ((cZ (⟨⟨cv xc,xa.xs,xg.toNat,xl⟩,xy⟩:WV) f t).2.2)]) (fun U=>aq k (aS (⟨⟨U.1,U.2.1,U.2.2.1,U.2.2.2⟩,xy⟩:aT)) 261::fz U.1::fz U.2.1::L2) (fun U=>(⟨⟨cv U.1,U.2.1.xs,U.2.2.1.toNat,U.2.2.2⟩,xy⟩:WV)=(cZ (⟨⟨cv xc,xa.xs,xg.toNat,xl⟩,xy⟩:WV) f t).1) (db (⟨⟨cv xc,xa.xs,xg.toNat,xl⟩,xy⟩:WV)/\2<=f/\f<(cv xc).blocks.length/\(0<=t->2<=t/\t<(cv xc).blocks.length)):=⟨fun hp w hw=>agp w0 w L2 k xc xa xg xl xy f t (wq q0.h d0.h q1.h d1.h q2.h d2.h hw) hp⟩
variable {w0:World}{L:List ai}
instance asg{xb:Nat}{xc:Cp}{xa:Sl Int}{xg:UInt64}{xl:Int}{xy:Bool}{l:Sv}{ls:List az}[et:nA w0 L xb (aS (⟨⟨xc,xa,xg,xl⟩,xy⟩:aT)) 261][eM:aX w0 L xc][hl:dG w0 L bM 4 l ls]:bV prog 305 w0 L [.pointer (some ⟨xb,0,none⟩),l.val] (.tuple #[.int .i64 ((ja ls xc.pages).1), .bool ((ja ls xc.pages).2)]) (ls.length<=1000000/\ ∀x∈ls,0<=x.live/\x.live<=1000000/\0<=x.used/\x.used<=1000000):=⟨fun aC w hw=>by
 have et:=et.h w hw;have eM:=eM.h w hw;have hl:=hl.h w hw;have wB:sB w xb (aS (⟨⟨xc,xa,xg,xl⟩,xy⟩:aT)) 261:=⟨et⟩;have wC:cQ w xc:=⟨eM⟩;have qF:Gv w l bM 4 ls:=⟨hl⟩;obtain⟨mq,jM⟩:=aC;have pS:cT=1099511627776:=rfl;refine dD func305 rfl ntmps305 rfl ?_;refine rZ ?_;refine ag (Ry.to (v':= .int .i64 xc.pages) (oX rfl) rfl) (au ?_);refine ag (aB (v:= .int .i64 ((wb ls xc.pages).1)) rfl rfl) (ag (aB (v:= .bool ((wb ls xc.pages).2)) rfl rfl) (aP ?_));refine Gb ?_ ?_<;>intro h0
 ·
  have hE:ja ls xc.pages=((wb ls xc.pages).1,true):=by rw[ja,if_pos h0]
  refine aP ?_;refine Gr fun w1 hw=>?_;exact⟨by rw[hE],ah.mem hw⟩
 have hE:ja ls xc.pages=((gP ls ls.length).1,decide (0<(gP ls ls.length).2)):=by rw[ja,if_neg (by rw[h0];simp)]
 refine fS ?_;refine cg (X:=Nat) (fun U=>[(28, .int .i64 (U:Nat)),(8, .int .i64 ((gP ls U).1)),(9, .int .i64 ((gP ls U).2)),(26,l.val),(27, .int .i64 (ls.length:Nat))]) (fun U=>[]) (fun U=>U<=ls.length) (fun U=>ls.length -U) 0 (auo _) sb (fun w hw=>ah.mem hw) ?_;rintro i bg;refine al ?_;refine Gb ?_ ?_<;>intro h1
 ·
  obtain⟨z,hz⟩:=get_some (xs:=ls) (i:=i) oM;have zK:ls.getD i eu=z:=by simp[List.getD,hz]
  have hzb:=jM z (atl hz);have Be:=Ly ls i;have fE:(gP ls (i+1))=xJ (gP ls i) i z:=by rw[gP,zK]
  refine au ?_;refine ag (bf rfl rfl i rfl oM) (ag (gV rfl i hz rfl) (bn fun qP=>Ks ?_));refine Gb ?_ ?_<;>intro h2
  ·
   have bD:(gP ls (i+1))=(gP ls i):=by rw[fE,xJ,if_pos (h2.elim (fun h=>h.elim (fun h=> .inl h) fun h=> .inr (.inl h)) fun h=> .inr (.inr oM))]
   refine al ?_;refine Gi ?_;exact bo (x:=(i)) (i+1) oF oF (Sub.cons rfl (Sub.cons (look_eq rfl (by rw[bD])) (Sub.cons (look_eq rfl (by rw[bD])) sb))) (fun w hw=>ah.mem hw)
  have fQ: ¬(z.bad=true\/z.live=0\/cT<=z.aU):=fun g=>g.elim (fun g=>absurd (h2.1.1.symm.trans g) (by simp)) (fun g=>g.elim h2.1.2 (fun g=>h2.2 oM));refine CX ?_;refine Gb ?_ ?_<;>intro h3
  ·
   have bD:(gP ls (i+1))=((i:Int),z.used -z.live):=by rw[fE,xJ,if_neg fQ,if_pos h3]
   refine Gi ?_;refine cX ?_;refine Gi ?_;exact bo (x:=(i)) (i+1) oF oF (Sub.cons rfl (Sub.cons (look_eq rfl (by rw[bD])) (Sub.cons (look_eq rfl (by rw[bD])) sb))) (fun w hw=>ah.mem hw)
  have bD:(gP ls (i+1))=(gP ls i):=by rw[fE,xJ,if_neg fQ,if_neg h3]
  refine al ?_;refine Gi ?_;exact bo (x:=(i)) (i+1) oF oF (Sub.cons rfl (Sub.cons (look_eq rfl (by rw[bD])) (Sub.cons (look_eq rfl (by rw[bD])) sb))) (fun w hw=>ah.mem hw)
 obtain rfl:i=ls.length:=by omega
 refine cX ?_;refine Gr fun w1 hw=>?_;exact⟨by rw[hE],ah.mem hw⟩⟩
theorem agt(w:World)(x:az):Calls prog 343 #[.agg (bM x)] w fun e w'=>e= .returned (.bool (sq x))/\Mem w [] w':=by
 refine cx func343 rfl ntmps343 rfl ?_;refine Gc ?_;refine cn rfl fun b1=>cX ?_;refine Gr fun w1 hw=>?_;exact⟨rfl,ah.mem hw⟩
instance:tL prog w0 L 343 #[] bM sq:=⟨inferInstance,fun w _ x=>agt w x⟩
theorem agu(w:World)(x:az):Calls prog 345 #[.agg (bM x)] w fun e w'=>e= .returned (.bool (tD x))/\Mem w [] w':=by
 refine cx func345 rfl ntmps345 rfl ?_;refine Gc ?_;refine cn rfl fun b1=>cX ?_;refine Gr fun w1 hw=>?_;exact⟨rfl,ah.mem hw⟩
instance:tL prog w0 L 345 #[] bM tD:=⟨inferInstance,fun w _ x=>agu w x⟩
theorem agv(w:World)(cb:Nat)(cp:Int)(pX:w.cell? ⟨cb,0,none⟩=Option.some (.int .i64 cp))(x:az):Calls prog 344 #[.agg (bM x), .pointer (some ⟨cb,0,none⟩)] w fun e w'=>e= .returned (.bool (tC cp x))/\Mem w [] w':=by
 refine dD func344 rfl ntmps344 rfl ?_;refine Gc ?_;refine cn rfl fun b2=>ar ?_;refine ag (T9 rfl pX) (al ?_);refine Gr fun w1 hw=>?_;exact⟨rfl,ah.mem hw⟩
instance{cb i:Nat}{cp:Int}{T:TypeId}[q:Has L cb #[.int .i64 cp] T i]:tL prog w0 L 344 #[.pointer (some ⟨cb,0,none⟩)] bM (tC cp):=⟨inferInstance,fun w hw x=>agv w cb cp (by rw[hw.cell q.h];rfl) x⟩
theorem agw(w0 w:World)(L:List ai)(k:Nat)(xc:Cp)(xa:Sl Int)(xg:UInt64)(xl:Int)(xy:Bool)(l:Sv)(ls:List az)[hl:Hd w0 L l bM 4 ls](hw:Mem w0 (aq k (aS (⟨⟨xc,xa,xg,xl⟩,xy⟩:aT)) 261::fz xc::L) w)(aC:aW (cv xc)=true/\lD (cv xc) ls):Calls prog 329 #[.pointer (some ⟨k,0,none⟩),l.val] w fun e w'=> ∃U:Cp,e= .returned (.tuple #[.int .i64 ((cc (cv xc) ls).2.1), .int .i64 ((cc (cv xc) ls).2.2)])/\(cv U=(cc (cv xc) ls).1)/\Mem w0 (aq k (aS (⟨⟨U,xa,xg,xl⟩,xy⟩:aT)) 261::fz U::L) w':=by
 have hk:=aC.1;have jl:=aC.2.1;have hd:=fe hk;refine hY (args:=[_,_]) func329 rfl ntmps329 rfl hw ?_;change Cw _ _ _ _ _ [(0, .pointer (some ⟨k,0,none⟩)),(1,l.val)] (aq k (aS (⟨⟨xc,xa,xg,xl⟩,xy⟩:aT)) 261::fz xc::L);refine iS ?_;refine ag (Ry.to (v':= .int .i64 xc.pages) (bE rfl) rfl) (ae2 (z:= .int .i64 0) rfl fun b6=>ae3 (by first|rfl|exact Sv.one _) rfl rfl (au ?_));refine bb rfl oM fun nB DN=>aY ?_;refine ag (aB (v:= .int .i64 ((fL (cl sq ls) xc.pages).1)) rfl rfl) (ag (aB (v:= .bool ((fL (cl sq ls) xc.pages).2)) rfl rfl) (aP ?_));refine Gb ?_ ?_<;>intro h0
 ·
  have qQ:(mU (cv xc) ls).2=true:=h0;have hE:(cc (cv xc) ls)=(cv xc,(mU (cv xc) ls).1+2,0):=by rw[cc,if_pos qQ]
  have qa:=xK aC.2 (fun x h=>(tv h).1) qQ;change 0<=(fL (cl sq ls) xc.pages).1/\(fL (cl sq ls) xc.pages).1<_/\_ at qa;refine aY ?_;refine Gr fun w1 hw=>?_;exact⟨xc,by rw[hE];rfl,by rw[hE],ah.mem hw⟩
 have qQ: ¬(mU (cv xc) ls).2=true:=fun h=>by rw[show(mU (cv xc) ls).2=false from h0]at h;cases h
 refine au ?_;refine ag (Kv rfl) (bb rfl oM fun D5 U6=>aY ?_);refine ag (aB (v:= .int .i64 ((fO (cl (tC xc.pages) ls) xc.pages).1)) rfl rfl) (ag (aB (v:= .bool ((fO (cl (tC xc.pages) ls) xc.pages).2)) rfl rfl) (aP ?_));refine Gb ?_ ?_<;>intro h1
 ·
  have fk:(ka (cv xc) ls).2=true:=h1;have hE:(cc (cv xc) ls)=((cJ (cv xc) ((ka (cv xc) ls).1+2)).1,(ka (cv xc) ls).1+2,(cJ (cv xc) ((ka (cv xc) ls).1+2)).2):=by rw[cc,if_neg qQ,if_pos fk]
  have qa:=xK aC.2 (fun x h=>(mj h).1) fk;change 0<=(fO (cl (tC xc.pages) ls) xc.pages).1/\(fO (cl (tC xc.pages) ls) xc.pages).1<_/\_ at qa;refine aY ?_;refine bb rfl ⟨hk,oM,oM⟩ fun yq U7=>al ?_;refine Gr fun w1 hw=>?_;exact⟨yq,by rw[hE];rfl,by rw[U7,hE];rfl,ah.mem hw⟩
 have fk: ¬(ka (cv xc) ls).2=true:=fun h=>by rw[show(ka (cv xc) ls).2=false from h1]at h;cases h
 refine au ?_;refine bb rfl oM fun qN zH=>aY ?_;refine ag (aB (v:= .int .i64 ((fO (cl tD ls) xc.pages).1)) rfl rfl) (ag (aB (v:= .bool ((fO (cl tD ls) xc.pages).2)) rfl rfl) (aP ?_));refine Gb ?_ ?_<;>intro h2
 ·
  have fQ:(kb (cv xc) ls).2=true:=h2;have hE:(cc (cv xc) ls)=((cJ (cv xc) ((kb (cv xc) ls).1+2)).1,(kb (cv xc) ls).1+2,(cJ (cv xc) ((kb (cv xc) ls).1+2)).2):=by rw[cc,if_neg qQ,if_neg fk,if_pos fQ]
  have qa:=xK aC.2 (fun x h=>(mj h).1) fQ;change 0<=(fO (cl tD ls) xc.pages).1/\(fO (cl tD ls) xc.pages).1<_/\_ at qa;refine aY ?_;refine bb rfl ⟨hk,oM,oM⟩ fun U8 U9=>al ?_;refine Gr fun w1 hw=>?_;exact⟨U8,by rw[hE];rfl,by rw[U9,hE];rfl,ah.mem hw⟩
 have fQ: ¬(kb (cv xc) ls).2=true:=fun h=>by rw[show(kb (cv xc) ls).2=false from h2]at h;cases h
 refine ar ?_;refine Gr fun w1 hw=>?_;exact⟨xc,by rw[cc,if_neg qQ,if_neg fk,if_neg fQ],by rw[cc,if_neg qQ,if_neg fk,if_neg fQ],ah.mem hw⟩
instance ash{w0:World}{L R1 L2:List ai}{i0 i1:Nat}{k:Nat}{xc:Cp}{xa:Sl Int}{xg:UInt64}{xl:Int}{xy:Bool}{l:Sv}{ls:List az}[q0:Has L k (aS (⟨⟨xc,xa,xg,xl⟩,xy⟩:aT)) 261 i0][d0:ct L i0 R1][q1:At R1 (fz xc) i1][d1:ct R1 i1 L2][hl:Hd w0 L2 l bM 4 ls]:bY prog 329 w0 L [.pointer (some ⟨k,0,none⟩),l.val] (Cp) (fun U=> .tuple #[.int .i64 ((cc (cv xc) ls).2.1), .int .i64 ((cc (cv xc) ls).2.2)]) (fun U=>aq k (aS (⟨⟨U,xa,xg,xl⟩,xy⟩:aT)) 261::fz U::L2) (fun U=>cv U=(cc (cv xc) ls).1) (aW (cv xc)=true/\lD (cv xc) ls):=⟨fun hp w hw=>agw w0 w L2 k xc xa xg xl xy l ls (pB q0.h d0.h q1.h d1.h hw) hp⟩
theorem agx(w0 w:World)(L:List ai)(k:Nat)(xc:Cp)(xa:Sl Int)(xg:UInt64)(xl:Int)(xy:Bool)(l:Sv)(ls:List az)(i:Int)[hl:Hd w0 L l bM 4 ls](hw:Mem w0 (aq k (aS (⟨⟨xc,xa,xg,xl⟩,xy⟩:aT)) 261::fz xc::fz xa::L) w)(aC:db (⟨⟨cv xc,xa.xs,xg.toNat,xl⟩,xy⟩:WV)/\lD (cv xc) ls/\0<=i/\i<ls.length):Calls prog 307 #[.pointer (some ⟨k,0,none⟩),l.val, .int .i64 i] w fun e w'=> ∃U:Cp×Sl Int×UInt64×Int,e= .returned (.int .i64 ((ff (⟨⟨cv xc,xa.xs,xg.toNat,xl⟩,xy⟩:WV) ls i).2))/\((⟨⟨cv U.1,U.2.1.xs,U.2.2.1.toNat,U.2.2.2⟩,xy⟩:WV)=(ff (⟨⟨cv xc,xa.xs,xg.toNat,xl⟩,xy⟩:WV) ls i).1)/\Mem w0 (aq k (aS (⟨⟨U.1,U.2.1,U.2.2.1,U.2.2.2⟩,xy⟩:aT)) 261::fz U.1::fz U.2.1::L) w':=by
 obtain⟨ij,rH,Cd,bg⟩:=aC;have hk:aW (cv xc)=true:=ij.ae;have BG:4<=(cv xc).blocks.length:=ij.tB;have hd:=fe hk;have jl:=rH.1;obtain⟨z,hz⟩:=get_some (xs:=ls) (i:=i.toNat) oM;have zK:ls.getD i.toNat eu=z:=by simp[List.getD,hz]
 have Bt:(ls.set i.toNat bc).length=ls.length:=auA;refine hY (args:=[_,_,_]) func307 rfl ntmps307 rfl hw ?_;change Cw _ _ _ _ _ [(0, .pointer (some ⟨k,0,none⟩)),(1,l.val),(2, .int .i64 i)] (aq k (aS (⟨⟨xc,xa,xg,xl⟩,xy⟩:aT)) 261::fz xc::fz xa::L);refine ar ?_;refine bb rfl oM fun qI tM=>ar ?_;refine ag (cR (v:= .agg (bM bc)) rfl HM) (ag (bf rfl rfl i.toNat oM oM) (mC (s:=qI) (n:=4) (k:=i.toNat) (j:=0) (a:=z) (a':=bc) (xs:=ls) (enc:=bM) (c:=4) (v:= .agg (bM bc)) oK rfl rfl rfl hz (bp.one (enc:=bM) (c:=4) _) rfl dDq (by rfl) (al ?_)));refine bb rfl ⟨hk,rH.set i.toNat⟩ fun iL zE=>?_;obtain⟨t1,t2,t3,t4,t5,t6⟩:=LA hk (rH.set i.toNat);rw[←zE]at t1 t2 t3 t4 t5 t6;have rP:db (⟨⟨cv iL,xa.xs,xg.toNat,xl⟩,xy⟩:WV):=ij.on t1 t2;refine Gs ?_;refine ag (aB (v:= .int .i64 ((cc (cv xc) (ls.set i.toNat bc)).2.1)) rfl rfl) (ag (aB (v:= .int .i64 ((cc (cv xc) (ls.set i.toNat bc)).2.2)) rfl rfl) (au ?_));refine gF ?_;refine qY (X:=Unit) (fun U=>[(8, .int .i64 ((cU (cv xc) ls i).1)),(9, .int .i64 ((cU (cv xc) ls i).2)),(0, .pointer (some ⟨k,0,none⟩)),(1,l.val),(2, .int .i64 i)]) (fun U=>aq k (aS (⟨⟨iL,xa,xg,xl⟩,xy⟩:aT)) 261::fz iL::fz xa::L) (fun U=>True) ?_ ?_
 ·
  refine Gi ?_;refine jI oK oK (aP ?_);refine gC rfl rfl rfl (fun hg=>(Ry.yl (gE (aG hg rfl)))) (gC rfl rfl rfl (fun hg=>(Ry.yl (aM (o':=0) (aG hg rfl) rfl))) (gC rfl rfl rfl (fun hg=>(Ry.yl (aM (o':=0) (aG hg rfl) rfl))) (gC rfl rfl rfl (fun hg=>(Ry.yl (aM (o':=0) (aG hg rfl) rfl))) (gC rfl rfl rfl (fun hg=>(Ry.yl (Ry.to (v':= .int .i64 iL.pages) (bE (aG hg rfl)) rfl))) (gC rfl rfl rfl (fun hg=>bK (fG (aG hg rfl) (fG (aG hg rfl) jG)) trivial) (au ?_))))));refine gC rfl rfl rfl (fun hg=>(Ry.yl (bf (aG hg rfl) (aG hg rfl) i.toNat oM oM))) (gC rfl rfl rfl (fun hg=>(Ry.yl (aM (aG hg rfl) rfl))) (gC rfl rfl rfl (fun hg=>(Ry.yl (bW (j:=0) (aG hg rfl) i.toNat hz rfl dDq))) (al ?_)));refine Gb ?_ ?_<;>intro h0
  ·
   have hA:rv (cv xc) ls i=true:=by
    rw[rv,zK,af0,decide_eq_true_eq,decide_eq_true_eq,←show iL.pages=(cv xc).pages from t2.pages];exact h0
   refine Gi ?_;refine au ?_;refine Gi ?_;exact gD () trivial (Sub.cons (look_eq rfl (by rw[cU,if_pos hA])) (Sub.cons (look_eq rfl (by rw[cU,if_pos hA])) sb)) (fun w hw=>ah.mem hw)
  have hA: ¬rv (cv xc) ls i=true:=by
   rw[rv,zK,af0,decide_eq_true_eq,decide_eq_true_eq,←show iL.pages=(cv xc).pages from t2.pages];rintro⟨ga,gb⟩;rcases h0 with h|h
   ·exact h ga
   exact h gb
  refine Gi ?_;exact gD () trivial (Sub.cons (look_eq rfl (by rw[cU,if_neg hA])) (Sub.cons (look_eq rfl (by rw[cU,if_neg hA])) sb)) (fun w hw=>ah.mem hw)
 rintro⟨⟩ _;refine ar ?_;refine Gb ?_ ?_<;>intro h1
 ·
  have hE:(ff (⟨⟨cv xc,xa.xs,xg.toNat,xl⟩,xy⟩:WV) ls i)=(((⟨⟨cv xc,xa.xs,xg.toNat,xl⟩,xy⟩:WV).on (cv iL)),j9 (cU (cv xc) ls i).2):=by rw[ff,if_pos h1,show((⟨⟨cv xc,xa.xs,xg.toNat,xl⟩,xy⟩:WV)).v.ae=cv xc from rfl,←zE]
  refine aP ?_;refine Gr fun w1 hw=>?_;exact⟨(iL,xa,xg,xl),by rw[hE],by rw[hE];rfl,ah.mem hw⟩
 have fk: ¬(cU (cv xc) ls i).2≠0:=fun h=>h h1;have bD:(ff (⟨⟨cv xc,xa.xs,xg.toNat,xl⟩,xy⟩:WV) ls i)=(if(cZ (⟨⟨cv iL,xa.xs,xg.toNat,xl⟩,xy⟩:WV) (i+2) (cU (cv xc) ls i).1).2.1=false\/z.used=xc.pages then((cZ (⟨⟨cv iL,xa.xs,xg.toNat,xl⟩,xy⟩:WV) (i+2) (cU (cv xc) ls i).1).1,(cZ (⟨⟨cv iL,xa.xs,xg.toNat,xl⟩,xy⟩:WV) (i+2) (cU (cv xc) ls i).1).2.2)else((cZ (⟨⟨cv iL,xa.xs,xg.toNat,xl⟩,xy⟩:WV) (i+2) (cU (cv xc) ls i).1).1.on (cJ (cZ (⟨⟨cv iL,xa.xs,xg.toNat,xl⟩,xy⟩:WV) (i+2) (cU (cv xc) ls i).1).1.v.ae (i+2)).1,j9 (cJ (cZ (⟨⟨cv iL,xa.xs,xg.toNat,xl⟩,xy⟩:WV) (i+2) (cU (cv xc) ls i).1).1.v.ae (i+2)).2)):=by
  rw[ff];refine(if_neg fk).trans ?_;rw[zK,show((⟨⟨cv xc,xa.xs,xg.toNat,xl⟩,xy⟩:WV)).v.ae=cv xc from rfl,←zE];rfl
 refine aP ?_;refine bb rfl ⟨rP,oM,by rw[t2.len];omega,fun h=>by rw[t2.len];have:=Hg (i:=i) hk rH h1 h;exact⟨this.1,this.2.1⟩⟩ fun qN zH=>?_;have hm:=adT (x:=(⟨⟨cv iL,xa.xs,xg.toNat,xl⟩,xy⟩:WV)) (src:=i+2) (tgt:=(cU (cv xc) ls i).1) rP (fun h=>by
  have:=Hg (i:=i) hk rH h1 h;exact⟨this.1,by rw[show((⟨⟨cv iL,xa.xs,xg.toNat,xl⟩,xy⟩:WV)).v.ae.blocks.length=(cv xc).blocks.length from t2.len];exact this.2.1,by rw[show((⟨⟨cv iL,xa.xs,xg.toNat,xl⟩,xy⟩:WV)).v.ae=(cc (cv xc) (ls.set i.toNat bc)).1 from zE];exact this.2.2⟩)
 rw[←zH]at hm;obtain⟨agy,Va⟩:=hm;have qO:qN.1.pages=xc.pages:=Va.pages.trans t2.pages;refine Gs ?_;refine ag (aB (v:= .bool ((cZ (⟨⟨cv iL,xa.xs,xg.toNat,xl⟩,xy⟩:WV) (i+2) ((cU (cv xc) ls i).1)).2.1)) rfl rfl) (ag (aB (v:= .int .i64 ((cZ (⟨⟨cv iL,xa.xs,xg.toNat,xl⟩,xy⟩:WV) (i+2) ((cU (cv xc) ls i).1)).2.2)) rfl rfl) (al ?_));refine jI oK oK (aP ?_);refine jH rfl rfl rfl (fun hg=>(Ry.yl (bf (aG hg rfl) (aG hg rfl) i.toNat oM oM))) (jH rfl rfl rfl (fun hg=>(Ry.yl (aM (aG hg rfl) rfl))) (jH rfl rfl rfl (fun hg=>(Ry.yl (bW (j:=1) (aG hg rfl) i.toNat hz rfl dDq))) (Gh ?_)));refine jH rfl rfl rfl (fun hg=>(Ry.yl (gE (aG hg rfl)))) (jH rfl rfl rfl (fun hg=>(Ry.yl (aM (o':=0) (aG hg rfl) rfl))) (jH rfl rfl rfl (fun hg=>(Ry.yl (aM (o':=0) (aG hg rfl) rfl))) (jH rfl rfl rfl (fun hg=>(Ry.yl (aM (o':=0) (aG hg rfl) rfl))) (jH rfl rfl rfl (fun hg=>(Ry.yl (Ry.to (v':= .int .i64 qN.1.pages) (bE (aG hg rfl)) rfl))) (al ?_)))));refine Gb ?_ ?_<;>intro h2
 ·have hE:=bD;rw[if_pos (by rw[←qO];exact h2),←zH]at hE;refine ar ?_;refine Gr fun w1 hw=>?_;exact⟨(qN.1,qN.2.1,qN.2.2.1,qN.2.2.2),by rw[hE],by rw[hE],ah.mem hw⟩
 have hE:=bD
 rw[if_neg (by rw[←qO];rintro(g|g)
               ·exact absurd (h2.1.symm.trans g) (by simp)
               ·exact h2.2 g),←zH]at hE
 refine ar ?_;refine bb rfl ⟨agy.ae,oM,by rw[Va.len,t2.len];omega⟩ fun x73 agz=>al ?_;refine Gr fun w1 hw=>?_;exact⟨(x73,qN.2.1,qN.2.2.1,qN.2.2.2),by rw[hE],by rw[hE,agz];rfl,ah.mem hw⟩
instance asi{w0:World}{L R1 R2 L2:List ai}{i0 i1 i2:Nat}{k:Nat}{xc:Cp}{xa:Sl Int}{xg:UInt64}{xl:Int}{xy:Bool}{l:Sv}{ls:List az}{i:Int}[q0:Has L k (aS (⟨⟨xc,xa,xg,xl⟩,xy⟩:aT)) 261 i0][d0:ct L i0 R1][q1:At R1 (fz xc) i1][d1:ct R1 i1 R2][q2:At R2 (fz xa) i2][d2:ct R2 i2 L2][hl:Hd w0 L2 l bM 4 ls]:bY prog 307 w0 L [.pointer (some ⟨k,0,none⟩),l.val, .int .i64 i] (Cp×Sl Int×UInt64×Int) (fun U=> .int .i64 ((ff (⟨⟨cv xc,xa.xs,xg.toNat,xl⟩,xy⟩:WV) ls i).2)) (fun U=>aq k (aS (⟨⟨U.1,U.2.1,U.2.2.1,U.2.2.2⟩,xy⟩:aT)) 261::fz U.1::fz U.2.1::L2) (fun U=>(⟨⟨cv U.1,U.2.1.xs,U.2.2.1.toNat,U.2.2.2⟩,xy⟩:WV)=(ff (⟨⟨cv xc,xa.xs,xg.toNat,xl⟩,xy⟩:WV) ls i).1) (db (⟨⟨cv xc,xa.xs,xg.toNat,xl⟩,xy⟩:WV)/\lD (cv xc) ls/\0<=i/\i<ls.length):=⟨fun hp w hw=>agx w0 w L2 k xc xa xg xl xy l ls i (wq q0.h d0.h q1.h d1.h q2.h d2.h hw) hp⟩
theorem agA(w:World)(cb k:Nat)(xc:Cp)(xa:Sl Int)(xg:UInt64)(xl:Int)(xy:Bool)(pX:w.cell? ⟨cb,0,none⟩=Option.some (.pointer (some ⟨k,0,none⟩)))(vh:w.heap[k]? =Option.some (.cells (aS (⟨⟨xc,xa,xg,xl⟩,xy⟩:aT)) 261 (0,0)))(x:az):Calls prog 309 #[.agg (bM x), .pointer (some ⟨cb,0,none⟩)] w fun e w'=>e= .returned (.bool (n9 xc.pages x))/\Mem w [] w':=by
 have gkb:sB w k (aS (⟨⟨xc,xa,xg,xl⟩,xy⟩:aT)) 261:=⟨vh⟩;have pS:cT=1099511627776:=rfl;refine dD func309 rfl ntmps309 rfl ?_;refine Gc ?_;refine cn rfl fun b2=>au ?_;refine jI oK oK (au ?_);refine bX (T9 rfl pX) (ar ?_);refine bX (Ry.to (v':= .int .i64 xc.pages) (oX rfl) rfl) (fS ?_);refine Gr fun w1 hw=>?_;exact⟨rfl,ah.mem hw⟩
instance{cb k i j:Nat}{xc:Cp}{xa:Sl Int}{xg:UInt64}{xl:Int}{xy:Bool}{T:TypeId}[q:Has L cb #[.pointer (some ⟨k,0,none⟩)] T i][q2:Has L k (aS (⟨⟨xc,xa,xg,xl⟩,xy⟩:aT)) 261 j]:tL prog w0 L 309 #[.pointer (some ⟨cb,0,none⟩)] bM (n9 xc.pages):=⟨inferInstance,fun w hw x=>agA w cb k xc xa xg xl xy (by rw[hw.cell q.h];rfl) (hw.block q2.h) x⟩
theorem agB(w0 w:World)(L:List ai)(k:Nat)(xc:Cp)(xa:Sl Int)(xg:UInt64)(xl:Int)(xy:Bool)(hw:Mem w0 (aq k (aS (⟨⟨xc,xa,xg,xl⟩,xy⟩:aT)) 261::fz xc::fz xa::L) w)(aC:db (⟨⟨cv xc,xa.xs,xg.toNat,xl⟩,xy⟩:WV)):Calls prog 262 #[.pointer (some ⟨k,0,none⟩)] w fun e w'=> ∃U:Cp×Sl Int×UInt64×Int,e= .returned (.int .i64 ((eC (⟨⟨cv xc,xa.xs,xg.toNat,xl⟩,xy⟩:WV)).2))/\((⟨⟨cv U.1,U.2.1.xs,U.2.2.1.toNat,U.2.2.2⟩,xy⟩:WV)=(eC (⟨⟨cv xc,xa.xs,xg.toNat,xl⟩,xy⟩:WV)).1)/\Mem w0 (aq k (aS (⟨⟨U.1,U.2.1,U.2.2.1,U.2.2.2⟩,xy⟩:aT)) 261::fz U.1::fz U.2.1::L) w':=by
 have ij:=aC;have hk:aW (cv xc)=true:=ij.ae;have BG:4<=(cv xc).blocks.length:=ij.tB;have hd:=fe hk;have zJ:xg.toNat<281474976710656:=ij.gen;have rE:xA (cv xc) (aw [xa]):=by rw[DX];exact(show iZ (cv xc) xa.xs from ij.wg).kn hk oM (by have:xa.xs.length<=64:=ij.kT;omega)
 have rH:lD (cv xc) (av (cv xc) (aw [xa])):=zr _ _;have jl:=rH.1;have eS:(aw [xa]).length<=64:=by rw[DX];exact ij.kT
 have kv: ∀x∈(av (cv xc) (aw [xa])),0<=x.live/\x.live<=1000000/\0<=x.used/\x.used<=1000000:=fun x hx=>by
  have t:=uP hk hx;have:=t.SP;have:=t.adL;have:=t.Dp;have:=t.A4;exact⟨oM,oM,oM,oM⟩
 have MY:(eC (⟨⟨cv xc,xa.xs,xg.toNat,xl⟩,xy⟩:WV))=(if(ja (av (cv xc) (aw [xa])) xc.pages).2=true/\A2 xg.toNat=false then(if(ff (⟨⟨cv xc,xa.xs,xg.toNat,xl⟩,xy⟩:WV) (av (cv xc) (aw [xa])) (ja (av (cv xc) (aw [xa])) xc.pages).1).2≠6 then(ff (⟨⟨cv xc,xa.xs,xg.toNat,xl⟩,xy⟩:WV) (av (cv xc) (aw [xa])) (ja (av (cv xc) (aw [xa])) xc.pages).1)else jz (ff (⟨⟨cv xc,xa.xs,xg.toNat,xl⟩,xy⟩:WV) (av (cv xc) (aw [xa])) (ja (av (cv xc) (aw [xa])) xc.pages).1).1 (av (cv xc) (aw [xa])))else jz (⟨⟨cv xc,xa.xs,xg.toNat,xl⟩,xy⟩:WV) (av (cv xc) (aw [xa]))):=by
  have e:(av (cv xc) (aw [xa]))=dv (⟨⟨cv xc,xa.xs,xg.toNat,xl⟩,xy⟩:WV):=by rw[DX];rfl
  rw[e];rfl
 refine hY (args:=[_]) func262 rfl ntmps262 rfl hw ?_;change Cw _ _ _ _ _ [(0, .pointer (some ⟨k,0,none⟩))] (aq k (aS (⟨⟨xc,xa,xg,xl⟩,xy⟩:aT)) 261::fz xc::fz xa::L);refine Gc ?_;refine ae1 (by first|rfl|exact Sv.jW _) rfl fun b1=>au ?_;refine jt [6,7] [[],[],[],[],[],[],[],[6],[6,7]] [0,1,2,3,4,5,6,7,8] [aq b1 #[.pointer (some ⟨k,0,none⟩)] 259,aq k (aS (⟨⟨xc,xa,xg,xl⟩,xy⟩:aT)) 261,fz xa] (fun _ hw=>ah.mem hw) oK oK (an rfl (bE rfl) (an rfl (bE rfl) (an rfl (gE rfl) (an rfl (aM (o':=0) rfl rfl) (an rfl (aM (o':=6) rfl rfl) (an rfl (Ry.to (v':=xa.sv.val) (bE rfl) rfl) ?_))))));refine dr rfl (Qz (enc:=cw) (vals:=[xa.sv.val]) [xa] rfl (by simp only[aum,au4,Sv.jW];rfl) rfl dDq dDq fun pf=>⟨fun _ hw=>ah.mem hw,?_⟩);refine dr rfl (qv (hc:=MN (l:=(⟨⟨false,pf,0,1,1,none⟩,[xa]⟩:Sl (Sl Int)))) rfl rE fun jm MZ=>⟨fun _ hw=>ah.mem hw,?_⟩);refine an rfl (hO rfl) (gF ?_);refine qY (X:=Cp×Sl Int×UInt64×Int) (fun U=>[(1, .pointer (some ⟨b1,0,none⟩)),(3,jm.val)]) (fun U=>aq b1 #[.pointer (some ⟨k,0,none⟩)] 259::aq k (aS (⟨⟨U.1,U.2.1,U.2.2.1,U.2.2.2⟩,xy⟩:aT)) 261::fz U.1::fz U.2.1::own bM 4 jm (av (cv xc) (aw [xa]))::L) (fun U=>(eC (⟨⟨cv xc,xa.xs,xg.toNat,xl⟩,xy⟩:WV))=jz (⟨⟨cv U.1,U.2.1.xs,U.2.2.1.toNat,U.2.2.2⟩,xy⟩:WV) (av (cv xc) (aw [xa]))/\db (⟨⟨cv U.1,U.2.1.xs,U.2.2.1.toNat,U.2.2.2⟩,xy⟩:WV)/\lD (cv U.1) (av (cv xc) (aw [xa]))) ?_ ?_
 ·
  refine al ?_;refine cO (bK rfl ⟨show(av (cv xc) (aw [xa])).length<=1000000 by omega,kv⟩) (Gs ?_);refine ag (aB (v:= .int .i64 ((ja (av (cv xc) (aw [xa])) xc.pages).1)) rfl rfl) (ag (aB (v:= .bool ((ja (av (cv xc) (aw [xa])) xc.pages).2)) rfl rfl) (aP ?_));refine jo rfl rfl rfl (fun hg=>(Ry.yl (bE rfl))) (jo rfl rfl rfl (fun hg=>bK (fG (aG hg rfl) jG) zJ) (jo rfl rfl rfl (fun hg=>(Ry.yl (nJ (aG hg rfl)))) (au ?_)));refine Gb ?_ ?_<;>intro h0
  ·
   have hv:=Lz h0.1;refine ar ?_;refine bb rfl ⟨ij,rH,hv.1,hv.2⟩ fun kY ym=>aP ?_;refine Gb ?_ ?_<;>intro h1
   ·
    have hE:(eC (⟨⟨cv xc,xa.xs,xg.toNat,xl⟩,xy⟩:WV))=(ff (⟨⟨cv xc,xa.xs,xg.toNat,xl⟩,xy⟩:WV) (av (cv xc) (aw [xa])) (ja (av (cv xc) (aw [xa])) xc.pages).1):=by rw[MY,if_pos h0,if_pos h1]
    refine ar ?_;refine Gr fun w1 hw=>?_;exact⟨(kY.1,kY.2.1,kY.2.2.1,kY.2.2.2),by rw[hE],by rw[hE];exact ym,ah.mem hw⟩
   have fk:(ff (⟨⟨cv xc,xa.xs,xg.toNat,xl⟩,xy⟩:WV) (av (cv xc) (aw [xa])) (ja (av (cv xc) (aw [xa])) xc.pages).1).2=6:=h1;obtain⟨r1,r2,r3⟩:=LH (i:=(ja (av (cv xc) (aw [xa])) xc.pages).1) ij rH;refine Gi ?_;exact gD (kY.1,kY.2.1,kY.2.2.1,kY.2.2.2) ⟨by rw[MY,if_pos h0,if_neg (fun h=>h fk),←ym],by rw[ym];exact r1.ok,rH.cm (by have:=r1.cm;rw[←ym]at this;exact this) (by have:=r3 fk;rw[←ym]at this;exact this)⟩ sb (fun w hw=>ah.mem hw)
  have uY: ¬((ja (av (cv xc) (aw [xa])) xc.pages).2=true/\A2 xg.toNat=false):=fun g=>h0.elim (fun h=>absurd (h.symm.trans g.1) (by simp)) (fun h=>absurd (h.symm.trans g.2) (by simp));refine Gi ?_;exact gD (xc,xa,xg,xl) ⟨by rw[MY,if_neg uY],ij,rH⟩ sb (fun w hw=>ah.mem hw)
 rintro⟨c,a,g,m⟩ ⟨wE,yp,BI⟩;dsimp only;simp only at wE yp BI;have hc4:4<=(cv c).blocks.length:=yp.tB;have hdc:=fe (show aW (cv c)=true from yp.ae);refine au ?_;refine ag (Kv rfl) (bb rfl oM fun HT D6=>fS ?_);refine ag (Ry.to (v':= .int .i64 c.pages) (bE rfl) rfl) (au ?_);refine ag (aB (v:= .int .i64 ((fO (cl (n9 c.pages) (av (cv xc) (aw [xa]))) c.pages).1)) rfl rfl) (ag (aB (v:= .bool ((fO (cl (n9 c.pages) (av (cv xc) (aw [xa]))) c.pages).2)) rfl rfl) (aY ?_));refine Gb ?_ ?_<;>intro h2
 ·
  have hE:jz (⟨⟨cv c,a.xs,g.toNat,m⟩,xy⟩:WV) (av (cv xc) (aw [xa]))=((⟨⟨cv c,a.xs,g.toNat,m⟩,xy⟩:WV),6):=by
   rw[jz];exact if_pos (show(fO (cl (n9 c.pages) (av (cv xc) (aw [xa]))) c.pages).2=false from h2)
  refine al ?_;refine Gr fun w1 hw=>?_;exact⟨(c,a,g,m),by rw[wE,hE],by rw[wE,hE],ah.mem hw⟩
 have qa:=xK BI (fun x h=>(mj h).1) (show(fO (cl (n9 c.pages) (av (cv xc) (aw [xa]))) c.pages).2=true from h2);change 0<=(fO (cl (n9 c.pages) (av (cv xc) (aw [xa]))) c.pages).1/\(fO (cl (n9 c.pages) (av (cv xc) (aw [xa]))) c.pages).1<_/\_ at qa;have hE:jz (⟨⟨cv c,a.xs,g.toNat,m⟩,xy⟩:WV) (av (cv xc) (aw [xa]))=((⟨⟨cv c,a.xs,g.toNat,m⟩,xy⟩:WV).on (cJ (cv c) ((fO (cl (n9 c.pages) (av (cv xc) (aw [xa]))) c.pages).1+2)).1,j9 (cJ (cv c) ((fO (cl (n9 c.pages) (av (cv xc) (aw [xa]))) c.pages).1+2)).2):=by
  rw[jz];exact if_neg (fun g=>absurd ((show(fO (cl (n9 c.pages) (av (cv xc) (aw [xa]))) c.pages).2=true from h2).symm.trans g) (by simp))
 refine ar ?_;refine bb rfl ⟨yp.ae,oM,oM⟩ fun Hy Mf=>al ?_;refine Gr fun w1 hw=>?_;exact⟨(Hy,a,g,m),by rw[wE,hE],by rw[wE,hE,Mf];rfl,ah.mem hw⟩
instance asj{w0:World}{L R1 R2 L2:List ai}{i0 i1 i2:Nat}{k:Nat}{xc:Cp}{xa:Sl Int}{xg:UInt64}{xl:Int}{xy:Bool}[q0:Has L k (aS (⟨⟨xc,xa,xg,xl⟩,xy⟩:aT)) 261 i0][d0:ct L i0 R1][q1:At R1 (fz xc) i1][d1:ct R1 i1 R2][q2:At R2 (fz xa) i2][d2:ct R2 i2 L2]:bY prog 262 w0 L [.pointer (some ⟨k,0,none⟩)] (Cp×Sl Int×UInt64×Int) (fun U=> .int .i64 ((eC (⟨⟨cv xc,xa.xs,xg.toNat,xl⟩,xy⟩:WV)).2)) (fun U=>aq k (aS (⟨⟨U.1,U.2.1,U.2.2.1,U.2.2.2⟩,xy⟩:aT)) 261::fz U.1::fz U.2.1::L2) (fun U=>(⟨⟨cv U.1,U.2.1.xs,U.2.2.1.toNat,U.2.2.2⟩,xy⟩:WV)=(eC (⟨⟨cv xc,xa.xs,xg.toNat,xl⟩,xy⟩:WV)).1) (db (⟨⟨cv xc,xa.xs,xg.toNat,xl⟩,xy⟩:WV)):=⟨fun hp w hw=>agB w0 w L2 k xc xa xg xl xy (wq q0.h d0.h q1.h d1.h q2.h d2.h hw) hp⟩
theorem agC(w0 w:World)(L:List ai)(k:Nat)(xc:Cp)(xa:Sl Int)(xg:UInt64)(xl:Int)(xy:Bool)(n:Int)(hw:Mem w0 (aq k (aS (⟨⟨xc,xa,xg,xl⟩,xy⟩:aT)) 261::fz xc::fz xa::L) w)(aC:db (⟨⟨cv xc,xa.xs,xg.toNat,xl⟩,xy⟩:WV)):Calls prog 222 #[.pointer (some ⟨k,0,none⟩), .int .i64 n] w fun e w'=> ∃U:Cp×Sl Int×UInt64×Int×Bool,e= .returned (.int .i64 ((kU (⟨⟨cv xc,xa.xs,xg.toNat,xl⟩,xy⟩:WV) n).2))/\((⟨⟨cv U.1,U.2.1.xs,U.2.2.1.toNat,U.2.2.2.1⟩,U.2.2.2.2⟩:WV)=(kU (⟨⟨cv xc,xa.xs,xg.toNat,xl⟩,xy⟩:WV) n).1)/\Mem w0 (aq k (aS (⟨⟨U.1,U.2.1,U.2.2.1,U.2.2.2.1⟩,U.2.2.2.2⟩:aT)) 261::fz U.1::fz U.2.1::L) w':=by
 refine hY (args:=[_,_]) func222 rfl ntmps222 rfl hw ?_;change Cw _ _ _ _ _ [(0, .pointer (some ⟨k,0,none⟩)),(1, .int .i64 n)] (aq k (aS (⟨⟨xc,xa,xg,xl⟩,xy⟩:aT)) 261::fz xc::fz xa::L);refine al ?_;refine cg (X:=Nat×Cp×Sl Int×UInt64×Int) (fun U=>[(0, .pointer (some ⟨k,0,none⟩)),(1, .int .i64 n)]) (fun U=>aq k (aS (⟨⟨U.2.1,U.2.2.1,U.2.2.2.1,U.2.2.2.2⟩,xy⟩:aT)) 261::fz U.2.1::fz U.2.2.1::L) (fun U=>(kU (⟨⟨cv xc,xa.xs,xg.toNat,xl⟩,xy⟩:WV) n)=lE U.1 (⟨⟨cv U.2.1,U.2.2.1.xs,U.2.2.2.1.toNat,U.2.2.2.2⟩,xy⟩:WV) n/\db (⟨⟨cv U.2.1,U.2.2.1.xs,U.2.2.2.1.toNat,U.2.2.2.2⟩,xy⟩:WV)/\(cT -(cv U.2.1).ops).toNat<U.1) (fun U=>U.1) ((cT -(cv xc).ops).toNat+1,xc,xa,xg,xl) ⟨rfl,aC,by simp only;omega⟩ sb (fun w hw=>ah.mem hw) ?_;rintro⟨m,c,a,g,q⟩ ⟨bg,aK,bx⟩;dsimp only;simp only at bg aK bx;obtain⟨r,rfl⟩: ∃r,m=r+1:=⟨m -1,oM⟩;have hk:aW (cv c)=true:=aK.ae;have BG:4<=(cv c).blocks.length:=aK.tB;have rE:xA (cv c) a.xs:=(show iZ (cv c) a.xs from aK.wg).kn hk oM (by have:a.xs.length<=64:=aK.kT;omega);have D0:q=0\/q=1:=aK.last;have bD:(kU (⟨⟨cv xc,xa.xs,xg.toNat,xl⟩,xy⟩:WV) n)=(if n<=(lC (cv c) a.xs).1 then((⟨⟨cv c,a.xs,g.toNat,q⟩,xy⟩:WV),0)else if n<=(lC (cv c) a.xs).2/\wc (cv c) q<2 then({(⟨⟨cv c,a.xs,g.toNat,q⟩,xy⟩:WV)with beyond:=true},0)else if(eC (⟨⟨cv c,a.xs,g.toNat,q⟩,xy⟩:WV)).2=0 then lE r (eC (⟨⟨cv c,a.xs,g.toNat,q⟩,xy⟩:WV)).1 n else if(eC (⟨⟨cv c,a.xs,g.toNat,q⟩,xy⟩:WV)).2≠6 then(eC (⟨⟨cv c,a.xs,g.toNat,q⟩,xy⟩:WV))else if n<=(lC (cv c) a.xs).2 then({(eC (⟨⟨cv c,a.xs,g.toNat,q⟩,xy⟩:WV)).1 with beyond:=true},0)else((eC (⟨⟨cv c,a.xs,g.toNat,q⟩,xy⟩:WV)).1,5)):=by rw[bg,lE]
 refine au ?_;refine cO (bK rfl rE) (Gs ?_);refine ag (aB (v:= .int .i64 ((lC (cv c) a.xs).1)) rfl rfl) (ag (aB (v:= .int .i64 ((lC (cv c) a.xs).2)) rfl rfl) (cX ?_));refine Gb ?_ ?_<;>intro h0
 ·
  have hE:(kU (⟨⟨cv xc,xa.xs,xg.toNat,xl⟩,xy⟩:WV) n)=((⟨⟨cv c,a.xs,g.toNat,q⟩,xy⟩:WV),0):=by rw[bD,if_pos h0]
  refine al ?_;refine Gr fun w1 hw=>?_;exact⟨(c,a,g,q,xy),by rw[hE],by rw[hE],ah.mem hw⟩
 refine aY ?_;refine jo rfl rfl rfl (fun hg=>bK (fG (aG hg rfl) jG) ⟨hk,oM,D0⟩) (al ?_);refine Gb ?_ ?_<;>intro h1
 ·
  have hE:(kU (⟨⟨cv xc,xa.xs,xg.toNat,xl⟩,xy⟩:WV) n)=({(⟨⟨cv c,a.xs,g.toNat,q⟩,xy⟩:WV)with beyond:=true},0):=by rw[bD,if_neg h0,if_pos h1]
  refine ar ?_;refine dO (cs':=aS (⟨⟨c,a,g,q⟩,true⟩:aT)) rfl rfl (by show 9<10;decide) (by first|rfl|exact Sv.one _) rfl (al ?_);refine Gr fun w1 hw=>?_;exact⟨(c,a,g,q,true),by rw[hE],by rw[hE],ah.mem hw⟩
 have fk: ¬(n<=(lC (cv c) a.xs).2/\wc (cv c) q<2):=fun g=>h1.elim (fun h=>h g.1) (fun h=>h g.2);refine au ?_;refine bb rfl aK fun dR pc=>?_;obtain⟨k1,k2⟩:=Hh aK;refine aY ?_;refine Gb ?_ ?_<;>intro h2
 ·refine Gi ?_;refine YX rfl (gF ?_);have fQ:(eC (⟨⟨cv c,a.xs,g.toNat,q⟩,xy⟩:WV)).2=0:=h2;have ho:(cv c).ops<(eC (⟨⟨cv c,a.xs,g.toNat,q⟩,xy⟩:WV)).1.v.ae.ops:=k2 fQ;rw[←pc]at ho;have hle:=tw (show aW (cv dR.1)=true by have:=k1.ok.ae;rw[←pc]at this;exact this);change(cv c).ops<(cv dR.1).ops at ho;exact bo (x:=(r+1,c,a,g,q)) (r,dR.1,dR.2.1,dR.2.2.1,dR.2.2.2) ⟨by rw[bD,if_neg h0,if_neg fk,if_pos fQ,←pc],by have:=k1.ok;rw[←pc]at this;exact this,by simp only;omega⟩ (by simp only;omega) sb (fun w hw=>ah.mem hw)
 have fQ: ¬(eC (⟨⟨cv c,a.xs,g.toNat,q⟩,xy⟩:WV)).2=0:=h2;refine aP ?_;refine Gb ?_ ?_<;>intro h3
 ·
  have hE:(kU (⟨⟨cv xc,xa.xs,xg.toNat,xl⟩,xy⟩:WV) n)=(eC (⟨⟨cv c,a.xs,g.toNat,q⟩,xy⟩:WV)):=by rw[bD,if_neg h0,if_neg fk,if_neg fQ,if_pos h3]
  refine ar ?_;refine Gr fun w1 hw=>?_;exact⟨(dR.1,dR.2.1,dR.2.2.1,dR.2.2.2,xy),by rw[hE],by rw[hE];exact pc,ah.mem hw⟩
 have qR: ¬(eC (⟨⟨cv c,a.xs,g.toNat,q⟩,xy⟩:WV)).2≠6:=fun h=>h h3;refine aY ?_;refine Gb ?_ ?_<;>intro h4
 ·
  have hE:(kU (⟨⟨cv xc,xa.xs,xg.toNat,xl⟩,xy⟩:WV) n)=({(eC (⟨⟨cv c,a.xs,g.toNat,q⟩,xy⟩:WV)).1 with beyond:=true},0):=by rw[bD,if_neg h0,if_neg fk,if_neg fQ,if_neg qR,if_pos h4]
  refine ar ?_;refine dO (cs':=aS (⟨⟨dR.1,dR.2.1,dR.2.2.1,dR.2.2.2⟩,true⟩:aT)) rfl rfl (by show 9<10;decide) (by first|rfl|exact Sv.one _) rfl (al ?_);refine Gr fun w1 hw=>?_;exact⟨(dR.1,dR.2.1,dR.2.2.1,dR.2.2.2,true),by rw[hE],by rw[hE,←pc],ah.mem hw⟩
 have hE:(kU (⟨⟨cv xc,xa.xs,xg.toNat,xl⟩,xy⟩:WV) n)=((eC (⟨⟨cv c,a.xs,g.toNat,q⟩,xy⟩:WV)).1,5):=by rw[bD,if_neg h0,if_neg fk,if_neg fQ,if_neg qR,if_neg h4]
 refine al ?_;refine Gr fun w1 hw=>?_;exact⟨(dR.1,dR.2.1,dR.2.2.1,dR.2.2.2,xy),by rw[hE],by rw[hE];exact pc,ah.mem hw⟩
instance asl{w0:World}{L R1 R2 L2:List ai}{i0 i1 i2:Nat}{k:Nat}{xc:Cp}{xa:Sl Int}{xg:UInt64}{xl:Int}{xy:Bool}{n:Int}[q0:Has L k (aS (⟨⟨xc,xa,xg,xl⟩,xy⟩:aT)) 261 i0][d0:ct L i0 R1][q1:At R1 (fz xc) i1][d1:ct R1 i1 R2][q2:At R2 (fz xa) i2][d2:ct R2 i2 L2]:bY prog 222 w0 L [.pointer (some ⟨k,0,none⟩), .int .i64 n] (Cp×Sl Int×UInt64×Int×Bool) (fun U=> .int .i64 ((kU (⟨⟨cv xc,xa.xs,xg.toNat,xl⟩,xy⟩:WV) n).2)) (fun U=>aq k (aS (⟨⟨U.1,U.2.1,U.2.2.1,U.2.2.2.1⟩,U.2.2.2.2⟩:aT)) 261::fz U.1::fz U.2.1::L2) (fun U=>(⟨⟨cv U.1,U.2.1.xs,U.2.2.1.toNat,U.2.2.2.1⟩,U.2.2.2.2⟩:WV)=(kU (⟨⟨cv xc,xa.xs,xg.toNat,xl⟩,xy⟩:WV) n).1) (db (⟨⟨cv xc,xa.xs,xg.toNat,xl⟩,xy⟩:WV)):=⟨fun hp w hw=>agC w0 w L2 k xc xa xg xl xy n (wq q0.h d0.h q1.h d1.h q2.h d2.h hw) hp⟩
theorem agD(i:Int)(g:UInt64)(b:Sl UInt8)(w:World):(Instr.build 324 #[(0, .int .i64 1),(1, .int .i64 i),(2, .int .u64 (g.toNat:Int)),(3,b.sv.val)]).run prog w= .ok (.agg (dt ⟨1,i,g,b⟩)) w:=by
 obtain⟨⟨e,b,o,l,c,p⟩,xs⟩:=b;unfold dt
 cases e<;>kernel_rfl
instance (x:It):gB (qo x) 2:=⟨rfl,bp.one x⟩
def HU(k:Nat)(a:Sl Int)(g:UInt64)(T:TypeId):ai:=⟨fun b=>b=k,fun h=> ∃(c:Cp) (l:Int) (y:Bool),h k=Option.some (.cells (aS ⟨⟨c,a,g,l⟩,y⟩) T (0,0)),fun h h' e s=>by obtain⟨c,l,y,hs⟩:=s;exact⟨c,l,y,by rw[e k rfl];exact hs⟩⟩
theorem M0{w0 w:World}{L:List ai}{k:Nat}{a:Sl Int}{g:UInt64}{T:TypeId}{c:Cp}{l:Int}{y:Bool}(h:Mem w0 (aq k (aS ⟨⟨c,a,g,l⟩,y⟩) T::L) w):Mem w0 (HU k a g T::L) w:=by
 have hs:w.heap[k]? =Option.some (.cells (aS ⟨⟨c,a,g,l⟩,y⟩) T (0,0)):=h.block (i:=0) rfl;refine⟨h.below,fun e he=>?_,fun e he b hb=>?_,auV.2 ⟨fun x hx b hb=>(auV.1 h.qi).1 x hx b hb,(auV.1 h.qi).2⟩⟩
 ·
  rcases auc.1 he with rfl|he
  ·exact⟨c,l,y,hs⟩
  exact h.sat e (aui _ he)
 rcases auc.1 he with rfl|he
 ·exact h.kl _ auD b hb
 exact h.kl e (aui _ he) b hb
section
variable {P:Program} {N:cA} {w0:World} {env:Env} {L:List ai} {d:Option Tmp} {ty:TypeId} {ps:String} {af:Array Edge} {gd:Option (Nat×Bool)}
theorem agE{t:TypeId}{x:Operand}{k i:Nat}{a:Sl Int}{g:UInt64}{T:TypeId}(hx:ev env x=some (.pointer (some ⟨k,6,none⟩)))[ht:gT P t](q:At L (HU k a g T) i):Ry P N w0 env L ⟨d, .load t x,ty,ps,af,gd⟩ a.sv.val:=Ab ht hx fun w hw=>by
 obtain⟨c,l,y,hs⟩:=hw.get q.h;simp[World.cell?,show w.heap[k]? =_ from hs,aS]
theorem agF{t:TypeId}{x:Operand}{k i:Nat}{a:Sl Int}{g:UInt64}{T:TypeId}(hx:ev env x=some (.pointer (some ⟨k,7,none⟩)))[ht:gT P t](q:At L (HU k a g T) i):Ry P N w0 env L ⟨d, .load t x,ty,ps,af,gd⟩ (.int .u64 g.toNat):=Ab ht hx fun w hw=>by
 obtain⟨c,l,y,hs⟩:=hw.get q.h;simp[World.cell?,show w.heap[k]? =_ from hs,aS]
end
instance:eY prog 269 (.agg (qo ⟨0,⟨Sv.none,[]⟩⟩)):=⟨kRq⟩
theorem agG(w0 w:World)(L:List ai)(k:Nat)(xc:Cp)(xa:Sl Int)(xg:UInt64)(xl:Int)(xy:Bool)(it:Sl It)[hit:aX w0 L it](hw:Mem w0 (aq k (aS (⟨⟨xc,xa,xg,xl⟩,xy⟩:aT)) 261::fz xc::fz xa::L) w)(aC:db (⟨⟨cv xc,xa.xs,xg.toNat,xl⟩,xy⟩:WV)/\it.xs.length<=1000000/\ ∀x∈it.xs,0<=x.id/\x.id<xa.xs.length/\x.id<64):Calls prog 177 #[.pointer (some ⟨k,0,none⟩),it.sv.val] w fun e w'=> ∃U:Cp×Sl Int×UInt64×Int×Bool,e= .returned (.int .i64 ((gI (⟨⟨cv xc,xa.xs,xg.toNat,xl⟩,xy⟩:WV) (it.xs.map bw)).2))/\((⟨⟨cv U.1,U.2.1.xs,U.2.2.1.toNat,U.2.2.2.1⟩,U.2.2.2.2⟩:WV)=(gI (⟨⟨cv xc,xa.xs,xg.toNat,xl⟩,xy⟩:WV) (it.xs.map bw)).1)/\Mem w0 (aq k (aS (⟨⟨U.1,U.2.1,U.2.2.1,U.2.2.2.1⟩,U.2.2.2.2⟩:aT)) 261::fz U.1::fz U.2.1::L) w':=by
 obtain⟨ij,mL,M1⟩:=aC;have hws:db (⟨⟨cv xc,xa.xs,xg.toNat,xl⟩,false⟩:WV):=ij.by false
 have fo:(it.xs.map bw).length=it.xs.length:=aur _;refine hY (args:=[_,_]) func177 rfl ntmps177 rfl hw ?_;change Cw _ _ _ _ _ [(0, .pointer (some ⟨k,0,none⟩)),(1,it.sv.val)] (aq k (aS (⟨⟨xc,xa,xg,xl⟩,xy⟩:aT)) 261::fz xc::fz xa::L);refine iS ?_;refine cg (X:=Nat) (fun U=>[(16, .int .i64 (U:Nat)),(5, .int .i64 ((((it.xs.map bw).take U).filter fun x=>decide (0<x.2.length)).length:Nat)),(0, .pointer (some ⟨k,0,none⟩)),(1,it.sv.val),(14,it.sv.val),(15, .int .i64 (it.xs.length:Nat))]) (fun U=>aq k (aS (⟨⟨xc,xa,xg,xl⟩,xy⟩:aT)) 261::fz xc::fz xa::L) (fun U=>U<=it.xs.length) (fun U=>it.xs.length -U) 0 (auo _) sb (fun w hw=>ah.mem hw) ?_;rintro i bg;refine al ?_;refine Gb ?_ ?_<;>intro h0
 ·
  obtain⟨z,hz⟩:=get_some (xs:=it.xs) (i:=i) oM;have yg:Mb z it:=⟨List.mem_of_getElem? hz⟩;have yt:(it.xs.map bw)[i]? =Option.some (bw z):=by rw[aua,hz];rfl
  have fE:=adW yt;have yk:(((it.xs.map bw).take i).filter fun x=>decide (0<x.2.length)).length<=i:=awu (awi _ _) (by rw[at3];omega);refine Gc ?_;refine ag (bf rfl rfl i rfl oM) (ag (gV rfl i hz rfl) ?_);have asm:Mb z it:=⟨List.mem_of_getElem? hz⟩;refine bn fun b7=>cX ?_;refine Gb ?_ ?_<;>intro h1
  ·rw[if_pos (show 0<(bw z).2.length from by simp only[bw];omega)]at fE;refine Gi ?_;refine aY ?_;refine Gi ?_;exact bo (x:=(i)) (i+1) oF oF (Sub.cons rfl (Sub.cons (look_eq rfl (by rw[fE];rfl)) sb)) (fun w hw=>ah.mem hw)
  rw[if_neg (show ¬0<(bw z).2.length from by simp only[bw];omega)]at fE;refine al ?_;refine Gi ?_;exact bo (x:=(i)) (i+1) oF oF (Sub.cons rfl (Sub.cons (look_eq rfl (by rw[fE,avk])) sb)) (fun w hw=>ah.mem hw)
 obtain rfl:i=it.xs.length:=by omega
 refine ar ?_;refine dO (cs':=aS (⟨⟨xc,xa,xg,xl⟩,false⟩:aT)) rfl rfl (by show 9<10;decide) (by first|rfl|exact Sv.one _) rfl (Kt ?_);have M3:(((it.xs.map bw).take it.xs.length).filter fun x=>decide (0<x.2.length)).length=((it.xs.map bw).filter fun x=>decide (0<x.2.length)).length:=by rw[←fo,aup]
 refine Gi ?_;refine au ?_;refine bb rfl hws fun aD xY=>?_;have hb:=Hi (l:=(it.xs.map bw)) ij;have D7:(⟨(⟨cv aD.1,aD.2.1.xs,aD.2.2.1.toNat,aD.2.2.2.1⟩:VV),aD.2.2.2.2⟩:WV)=(cN (⟨⟨cv xc,xa.xs,xg.toNat,xl⟩,xy⟩:WV) (it.xs.map bw)).1:=by rw[xY,cN,mV,←fo,aup]
 rw[←D7]at hb;have zL:=hb.ok;have GB:aW (cv aD.1)=true:=zL.ae;have BG:4<=(cv aD.1).blocks.length:=zL.tB;have dj:aD.2.1.xs.length<=64:=zL.kT;have asn:aD.2.1.xs.length=xa.xs.length:=hb.xH;have hg3:aD.2.2.1.toNat<281474976710656:=zL.gen;have vg:=MU hg3;refine aP ?_;refine Gb ?_ ?_<;>intro h2
 ·
  have fQ:(cN (⟨⟨cv xc,xa.xs,xg.toNat,xl⟩,xy⟩:WV) (it.xs.map bw)).2≠0:=by rw[cN,mV,←M3];exact h2
  have hE:(gI (⟨⟨cv xc,xa.xs,xg.toNat,xl⟩,xy⟩:WV) (it.xs.map bw))=(cN (⟨⟨cv xc,xa.xs,xg.toNat,xl⟩,xy⟩:WV) (it.xs.map bw)):=by rw[gI,if_pos fQ]
  refine ar ?_;refine Gr fun w1 hw=>?_;exact⟨(aD.1,aD.2.1,aD.2.2.1,aD.2.2.2.1,aD.2.2.2.2),by rw[hE,cN,mV,←M3],by rw[hE];exact D7,ah.mem hw⟩
 have fQ: ¬(cN (⟨⟨cv xc,xa.xs,xg.toNat,xl⟩,xy⟩:WV) (it.xs.map bw)).2≠0:=by rw[cN,mV,←M3];exact fun h=>h h2
 refine aP ?_;refine ag (Ry.to (v':=aD.2.1.sv.val) (bE rfl) rfl) (bb rfl oM fun mr af1=>aY ?_);refine cg (X:=Nat×Cp×List Int) (fun U=>[(44, .int .i64 (U.1:Nat)),(0, .pointer (some ⟨k,0,none⟩)),(9,mr.val),(42,it.sv.val),(43, .int .i64 (it.xs.length:Nat))]) (fun U=>aq k (aS (⟨⟨U.2.1,aD.2.1,aD.2.2.1,aD.2.2.2.1⟩,aD.2.2.2.2⟩:aT)) 261::fz U.2.1::fz aD.2.1::own ck 1 mr U.2.2::L) (fun U=>U.1<=it.xs.length/\(gy (⟨⟨cv xc,xa.xs,xg.toNat,xl⟩,xy⟩:WV) (it.xs.map bw))=(gp (⟨cv aD.1,aD.2.1.xs,aD.2.2.1.toNat,aD.2.2.2.1⟩:VV) aD.2.2.2.2 ((it.xs.map bw).drop U.1) (cv U.2.1) U.2.2)/\aW (cv U.2.1)=true/\dV (cv aD.1) (cv U.2.1)/\iZ (cv U.2.1) U.2.2/\U.2.2.length=aD.2.1.xs.length) (fun U=>it.xs.length -U.1) (0,aD.1,aD.2.1.xs) ⟨Nat.zero_le _,by rw[gy,←D7];rfl,GB, .du _,zL.wg,rfl⟩ sb (fun w hw=>ah.mem hw) ?_;rintro⟨j,d,zs⟩ ⟨fP,dB,gJ,kh,BK,M4⟩;dsimp only;simp only at fP dB gJ kh BK M4;refine al ?_;refine Gb ?_ ?_<;>intro h3
 ·
  obtain⟨z,hz⟩:=get_some (xs:=it.xs) (i:=j) oM;have yg:Mb z it:=⟨List.mem_of_getElem? hz⟩;have aso:=M1 z (atl hz);obtain⟨zi,qK⟩:=get_some (xs:=zs) (i:=z.id.toNat) oM;have yt:(it.xs.map bw)[j]? =Option.some (bw z):=by rw[aua,hz];rfl
  have bD:(gp (⟨cv aD.1,aD.2.1.xs,aD.2.2.1.toNat,aD.2.2.2.1⟩:VV) aD.2.2.2.2 ((it.xs.map bw).drop j) (cv d) zs)=(if(bw z).2.length=0 then(gp (⟨cv aD.1,aD.2.1.xs,aD.2.2.1.toNat,aD.2.2.2.1⟩:VV) aD.2.2.2.2 ((it.xs.map bw).drop (j+1)) (cv d) (zs.set z.id.toNat 0))else if(cY (cv d) (aD.2.1.xs++zs) aD.2.2.2.2 (jb (⟨cv aD.1,aD.2.1.xs,aD.2.2.1.toNat,aD.2.2.2.1⟩:VV) (bw z))).2.2≠0 then((cY (cv d) (aD.2.1.xs++zs) aD.2.2.2.2 (jb (⟨cv aD.1,aD.2.1.xs,aD.2.2.1.toNat,aD.2.2.2.1⟩:VV) (bw z))).1,zs,(cY (cv d) (aD.2.1.xs++zs) aD.2.2.2.2 (jb (⟨cv aD.1,aD.2.1.xs,aD.2.2.1.toNat,aD.2.2.2.1⟩:VV) (bw z))).2.2)else(gp (⟨cv aD.1,aD.2.1.xs,aD.2.2.1.toNat,aD.2.2.2.1⟩:VV) aD.2.2.2.2 ((it.xs.map bw).drop (j+1)) (cY (cv d) (aD.2.1.xs++zs) aD.2.2.2.2 (jb (⟨cv aD.1,aD.2.1.xs,aD.2.2.1.toNat,aD.2.2.2.1⟩:VV) (bw z))).1 (zs.set z.id.toNat (cY (cv d) (aD.2.1.xs++zs) aD.2.2.2.2 (jb (⟨cv aD.1,aD.2.1.xs,aD.2.2.1.toNat,aD.2.2.2.1⟩:VV) (bw z))).2.1))):=by
   rw[drop_at yt,gp];rfl
  have eS:(aw [aD.2.1,(⟨mr,zs⟩:Sl Int)])=aD.2.1.xs++zs:=MO _ _;have hpv:c8 (⟨1,z.id,aD.2.2.1+1,z.body⟩:fA)=jb (⟨cv aD.1,aD.2.1.xs,aD.2.2.1.toNat,aD.2.2.2.1⟩:VV) (bw z):=by simp only[c8,jb,bw,vg]
  have zM:(cY (cv d) (aw [aD.2.1,(⟨mr,zs⟩:Sl Int)]) aD.2.2.2.2 (c8 (⟨1,z.id,aD.2.2.1+1,z.body⟩:fA)))=(cY (cv d) (aD.2.1.xs++zs) aD.2.2.2.2 (jb (⟨cv aD.1,aD.2.1.xs,aD.2.2.1.toNat,aD.2.2.2.1⟩:VV) (bw z))):=by rw[eS,hpv]
  have agH:iZ (cv d) (aw [aD.2.1,(⟨mr,zs⟩:Sl Int)]):=by rw[eS];exact((show iZ (cv aD.1) aD.2.1.xs from zL.wg).cm kh).append BK
  have agI:(aw [aD.2.1,(⟨mr,zs⟩:Sl Int)]).length<=1000:=by rw[eS,adr];omega
  refine Gc ?_;refine ag (bf rfl rfl j rfl oM) (ag (gV rfl j hz rfl) ?_);have asq:Mb z it:=⟨List.mem_of_getElem? hz⟩;refine bn fun qP=>cX ?_;refine Gb ?_ ?_<;>intro h4
  ·
   have ki:(bw z).2.length=0:=by simp only[bw];omega
   refine ar ?_;refine ag (bf rfl rfl z.id.toNat oM oM) (mC (s:=mr) (n:=1) (k:=z.id.toNat) (j:=0) (a:=zi) (a':=0) (xs:=zs) (enc:=ck) (c:=1) (v:= .int .i64 0) oK rfl rfl rfl qK (by simp[Value.cells,Value.oneCell']) rfl dDq (by rfl) (al ?_));refine Gi ?_;exact bo (x:=(j,d,zs)) (j+1,d,zs.set z.id.toNat 0) ⟨by simp only;omega,by rw[dB,bD,if_pos ki],gJ,kh,fun y hy=>(auG hy).elim (BK y) fun hy=> .inl hy,by rw[auA];exact M4⟩ (by simp only;omega) sb (fun w hw=>ah.mem hw)
  have ki: ¬(bw z).2.length=0:=by simp only[bw];omega
  refine Gc ?_;refine jt [18,19] [[],[],[],[],[],[],[],[],[],[],[],[],[],[],[],[],[],[],[],[18],[18,19],[18,19],[18,19],[18,19],[18,19]] [0,1,2,3,4,5,6,7,8,9,10,11,12,13,14,15,16,17,18,19,20,21,22,23,24] [HU k aD.2.1 aD.2.2.1 261,aq qP (qo z) 269] (fun _ hw=>(M0 (ah.mem hw:Mem w0 [aq k (aS (⟨⟨d,aD.2.1,aD.2.2.1,aD.2.2.2.1⟩,aD.2.2.2.2⟩:aT)) 261,aq qP (qo z) 269] _))) oK oK (an rfl (bm rfl) (an rfl (aM (o':=0) rfl rfl) (an rfl (bE rfl) (an rfl (bm rfl) (an rfl (gE rfl) (an rfl (aM (o':=0) rfl rfl) (an rfl (aM (o':=7) rfl rfl) ?_)))))));refine an rfl (agF (a:=aD.2.1) (g:=aD.2.2.1) (T:=261) rfl inferInstance) ?_;refine an rfl (Ry.to (v':= .int .u64 ((aD.2.2.1+1).toNat:Int)) (Co (p:=aD.2.2.1.toNat) (q:=1) rfl rfl rfl rfl (by simp only[nb];omega)) (by rw[vg])) (an rfl (aM (o':=1) rfl rfl) (an rfl (bE rfl) (an rfl (cR (v:= .agg (dt (⟨1,z.id,aD.2.2.1+1,z.body⟩:fA))) rfl (agD z.id (aD.2.2.1+1) z.body)) (an rfl (bm rfl) (an rfl (gE rfl) (an rfl (aM (o':=0) rfl rfl) (an rfl (aM (o':=6) rfl rfl) ?_)))))));refine an rfl (agE (a:=aD.2.1) (g:=aD.2.2.1) (T:=261) rfl inferInstance) ?_;refine an rfl (bm rfl) ?_;refine dr rfl (Qz (enc:=cw) (vals:=[aD.2.1.sv.val,mr.val]) [aD.2.1,(⟨mr,zs⟩:Sl Int)] rfl (by simp only[aum,au4,Sv.jW];rfl) rfl dDq dDq fun b75=>⟨fun _ hw=>(M0 (ah.mem hw:Mem w0 [aq k (aS (⟨⟨d,aD.2.1,aD.2.2.1,aD.2.2.2.1⟩,aD.2.2.2.2⟩:aT)) 261,aq qP (qo z) 269] _)),?_⟩);refine dr rfl (qv (hc:=agk (q:=(⟨1,z.id,aD.2.2.1+1,z.body⟩:fA)) (l:=(⟨⟨false,b75,0,2,2,none⟩,[aD.2.1,(⟨mr,zs⟩:Sl Int)]⟩:Sl (Sl Int)))) rfl ⟨gJ,by rw[kh.len];omega,agH,agI⟩ fun M5 M6=>⟨fun _ hw=>(M0 (ah.mem hw:Mem w0 [aq k (aS (⟨⟨M5,aD.2.1,aD.2.2.1,aD.2.2.2.1⟩,aD.2.2.2.2⟩:aT)) 261,aq qP (qo z) 269] _)),?_⟩);refine an rfl (bm rfl) (an rfl (aB (v:= .int .i64 ((cY (cv d) (aw [aD.2.1,(⟨mr,zs⟩:Sl Int)]) aD.2.2.2.2 (c8 (⟨1,z.id,aD.2.2.1+1,z.body⟩:fA))).2.1)) rfl rfl) (an rfl (aB (v:= .int .i64 ((cY (cv d) (aw [aD.2.1,(⟨mr,zs⟩:Sl Int)]) aD.2.2.2.2 (c8 (⟨1,z.id,aD.2.2.1+1,z.body⟩:fA))).2.2)) rfl rfl) (an rfl (hO rfl) (an rfl (hO rfl) (ar ?_)))));refine Gb ?_ ?_<;>intro h5
  ·
   have qc:(cY (cv d) (aD.2.1.xs++zs) aD.2.2.2.2 (jb (⟨cv aD.1,aD.2.1.xs,aD.2.2.1.toNat,aD.2.2.2.1⟩:VV) (bw z))).2.2≠0:=by rw[←zM];exact h5
   have wF:(gy (⟨⟨cv xc,xa.xs,xg.toNat,xl⟩,xy⟩:WV) (it.xs.map bw))=((cY (cv d) (aD.2.1.xs++zs) aD.2.2.2.2 (jb (⟨cv aD.1,aD.2.1.xs,aD.2.2.1.toNat,aD.2.2.2.1⟩:VV) (bw z))).1,zs,(cY (cv d) (aD.2.1.xs++zs) aD.2.2.2.2 (jb (⟨cv aD.1,aD.2.1.xs,aD.2.2.1.toNat,aD.2.2.2.1⟩:VV) (bw z))).2.2):=by rw[dB,bD,if_neg ki,if_pos qc]
   have hE:(gI (⟨⟨cv xc,xa.xs,xg.toNat,xl⟩,xy⟩:WV) (it.xs.map bw))=((⟨(⟨cv aD.1,aD.2.1.xs,aD.2.2.1.toNat,aD.2.2.2.1⟩:VV),aD.2.2.2.2⟩:WV).on (cY (cv d) (aD.2.1.xs++zs) aD.2.2.2.2 (jb (⟨cv aD.1,aD.2.1.xs,aD.2.2.1.toNat,aD.2.2.2.1⟩:VV) (bw z))).1,(cY (cv d) (aD.2.1.xs++zs) aD.2.2.2.2 (jb (⟨cv aD.1,aD.2.1.xs,aD.2.2.1.toNat,aD.2.2.2.1⟩:VV) (bw z))).2.2):=by rw[gI,if_neg fQ,wF,←D7];exact if_pos qc
   refine ar ?_;refine Gr fun w1 hw=>?_;exact⟨(M5,aD.2.1,aD.2.2.1,aD.2.2.2.1,aD.2.2.2.2),by rw[hE,zM],by rw[hE,M6,zM];rfl,ah.mem hw⟩
  have qc:(cY (cv d) (aD.2.1.xs++zs) aD.2.2.2.2 (jb (⟨cv aD.1,aD.2.1.xs,aD.2.2.1.toNat,aD.2.2.2.1⟩:VV) (bw z))).2.2=0:=by rw[←zM];exact h5
  obtain⟨p1,p2,p3,p4⟩:=SX (fl:=aD.2.1.xs++zs) (aF:=aD.2.2.2.2) (p:=jb (⟨cv aD.1,aD.2.1.xs,aD.2.2.1.toNat,aD.2.2.2.1⟩:VV) (bw z)) gJ (by rw[kh.len];omega);have p5:=p4 qc;rw[←zM,←M6]at p1 p2;refine aP ?_;refine ag (bf rfl rfl z.id.toNat oM oM) (mC (s:=mr) (n:=1) (k:=z.id.toNat) (j:=0) (a:=zi) (a':=(cY (cv d) (aw [aD.2.1,(⟨mr,zs⟩:Sl Int)]) aD.2.2.2.2 (c8 (⟨1,z.id,aD.2.2.1+1,z.body⟩:fA))).2.1) (xs:=zs) (enc:=ck) (c:=1) (v:= .int .i64 (cY (cv d) (aw [aD.2.1,(⟨mr,zs⟩:Sl Int)]) aD.2.2.2.2 (c8 (⟨1,z.id,aD.2.2.1+1,z.body⟩:fA))).2.1) oK rfl rfl rfl qK (by simp[Value.cells,Value.oneCell']) rfl dDq (by rfl) (al ?_));refine Gi ?_
  exact bo (x:=(j,d,zs)) (j+1,M5,zs.set z.id.toNat (cY (cv d) (aw [aD.2.1,(⟨mr,zs⟩:Sl Int)]) aD.2.2.2.2 (c8 (⟨1,z.id,aD.2.2.1+1,z.body⟩:fA))).2.1) ⟨by simp only;omega,by rw[dB,bD,if_neg ki,if_neg (fun h=>h qc),M6,zM],p1,kh.trans p2,fun y hy=>by
             rw[p2.pages,p2.len];exact(auG hy).elim (BK y) fun hy=>hy▸ .inr (by rw[zM];exact p5),by rw[auA];exact M4⟩ (by simp only;omega) sb (fun w hw=>ah.mem hw)
 obtain rfl:j=it.xs.length:=by omega
 have wF:(gy (⟨⟨cv xc,xa.xs,xg.toNat,xl⟩,xy⟩:WV) (it.xs.map bw))=(cv d,zs,0):=by rw[dB,←fo,awf];rfl
 have hE:(gI (⟨⟨cv xc,xa.xs,xg.toNat,xl⟩,xy⟩:WV) (it.xs.map bw))=dQ ((⟨(⟨cv aD.1,aD.2.1.xs,aD.2.2.1.toNat,aD.2.2.2.1⟩:VV),aD.2.2.2.2⟩:WV).on (cv d)) zs:=by rw[gI,if_neg fQ,wF,←D7];simp only[ne_eq,not_true_eq_false,if_false]
 have MX:db ((⟨(⟨cv aD.1,aD.2.1.xs,aD.2.2.1.toNat,aD.2.2.2.1⟩:VV),aD.2.2.2.2⟩:WV).on (cv d)):=zL.on gJ kh;refine al ?_;refine bb rfl MX fun HV agJ=>au ?_;refine Gr fun w1 hw=>?_;exact⟨(HV.1,HV.2.1,HV.2.2.1,HV.2.2.2,aD.2.2.2.2),by rw[hE];rfl,by rw[hE];exact agJ,ah.mem hw⟩
instance asr{w0:World}{L R1 R2 L2:List ai}{i0 i1 i2:Nat}{k:Nat}{xc:Cp}{xa:Sl Int}{xg:UInt64}{xl:Int}{xy:Bool}{it:Sl It}[q0:Has L k (aS (⟨⟨xc,xa,xg,xl⟩,xy⟩:aT)) 261 i0][d0:ct L i0 R1][q1:At R1 (fz xc) i1][d1:ct R1 i1 R2][q2:At R2 (fz xa) i2][d2:ct R2 i2 L2][hit:aX w0 L2 it]:bY prog 177 w0 L [.pointer (some ⟨k,0,none⟩),it.sv.val] (Cp×Sl Int×UInt64×Int×Bool) (fun U=> .int .i64 ((gI (⟨⟨cv xc,xa.xs,xg.toNat,xl⟩,xy⟩:WV) (it.xs.map bw)).2)) (fun U=>aq k (aS (⟨⟨U.1,U.2.1,U.2.2.1,U.2.2.2.1⟩,U.2.2.2.2⟩:aT)) 261::fz U.1::fz U.2.1::L2) (fun U=>(⟨⟨cv U.1,U.2.1.xs,U.2.2.1.toNat,U.2.2.2.1⟩,U.2.2.2.2⟩:WV)=(gI (⟨⟨cv xc,xa.xs,xg.toNat,xl⟩,xy⟩:WV) (it.xs.map bw)).1) (db (⟨⟨cv xc,xa.xs,xg.toNat,xl⟩,xy⟩:WV)/\it.xs.length<=1000000/\ ∀x∈it.xs,0<=x.id/\x.id<xa.xs.length/\x.id<64):=⟨fun hp w hw=>agG w0 w L2 k xc xa xg xl xy it (wq q0.h d0.h q1.h d1.h q2.h d2.h hw) hp⟩
theorem agK(w0 w:World)(L:List ai)(k:Nat)(xc:Cp)(xa:Sl Int)(xg:UInt64)(xl:Int)(xy:Bool)(n:Int)(hw:Mem w0 (aq k (aS (⟨⟨xc,xa,xg,xl⟩,xy⟩:aT)) 261::fz xc::fz xa::L) w)(aC:db (⟨⟨cv xc,xa.xs,xg.toNat,xl⟩,xy⟩:WV)/\0<=n/\n<=64):Calls prog 166 #[.pointer (some ⟨k,0,none⟩), .int .i64 n] w fun e w'=> ∃U:Cp×Sl Int×UInt64×Int,e= .returned (.int .i64 ((sk (⟨⟨cv xc,xa.xs,xg.toNat,xl⟩,xy⟩:WV) n.toNat).2))/\((⟨⟨cv U.1,U.2.1.xs,U.2.2.1.toNat,U.2.2.2⟩,xy⟩:WV)=(sk (⟨⟨cv xc,xa.xs,xg.toNat,xl⟩,xy⟩:WV) n.toNat).1)/\Mem w0 (aq k (aS (⟨⟨U.1,U.2.1,U.2.2.1,U.2.2.2⟩,xy⟩:aT)) 261::fz U.1::fz U.2.1::L) w':=by
 obtain⟨ij,uY,xS⟩:=aC;have hk:aW (cv xc)=true:=ij.ae;have BG:4<=(cv xc).blocks.length:=ij.tB;have hd:=fe hk;have dI:(cv xc).blocks.length=xc.blocks.xs.length:=iv _;refine hY (args:=[_,_]) func166 rfl ntmps166 rfl hw ?_;change Cw _ _ _ _ _ [(0, .pointer (some ⟨k,0,none⟩)),(1, .int .i64 n)] (aq k (aS (⟨⟨xc,xa,xg,xl⟩,xy⟩:aT)) 261::fz xc::fz xa::L);refine fS ?_;refine ag (Ry.to (v':=xc.blocks.sv.val) (bE rfl) rfl) (al ?_);refine cg (X:=Nat×Cp) (fun U=>[(18, .int .i64 (U.1:Nat)),(0, .pointer (some ⟨k,0,none⟩)),(1, .int .i64 n),(17, .int .i64 (xc.blocks.xs.length:Nat))]) (fun U=>aq k (aS (⟨⟨U.2,xa,xg,xl⟩,xy⟩:aT)) 261::fz U.2::fz xa::L) (fun U=>U.1<=(cv xc).blocks.length/\(n8 (cv xc).blocks.length 0 (cv xc))=n8 ((cv xc).blocks.length -U.1) (U.1:Int) (cv U.2)/\aW (cv U.2)=true/\dV (cv xc) (cv U.2)) (fun U=>(cv xc).blocks.length -U.1) (0,xc) ⟨Nat.zero_le _,rfl,hk, .du _⟩ sb (fun w hw=>ah.mem hw) ?_;rintro⟨i,d⟩ ⟨bg,aK,bx,di⟩;dsimp only;simp only at bg aK bx di;have HP:=di.len;have hid:(⟨i,d⟩:Nat×Cp)=(i,d):=rfl;refine al ?_;refine Gb ?_ ?_<;>intro h0
 ·
  have bD:n8 ((cv xc).blocks.length -i) (i:Int) (cv d)=(if Dn (cv d) i=false then n8 ((cv xc).blocks.length -(i+1)) ((i:Int)+1) (cv d)else if ei (cv d) i≠0/\ei (cv d) i≠9 then(dz (cv d) i,ei (cv d) i)else n8 ((cv xc).blocks.length -(i+1)) ((i:Int)+1) (dz (cv d) i)):=by
   rw[show(cv xc).blocks.length -i=((cv xc).blocks.length -(i+1))+1 by omega,n8]
  refine aY ?_;refine cO (bK rfl ⟨bx,oM,oM⟩) (au ?_);refine Gb ?_ ?_<;>intro h1
  ·refine al ?_;refine Gi ?_;exact bo (x:=(i,d)) (i+1,d) ⟨by simp only;omega,by rw[aK,bD,if_pos h1];rfl,bx,di⟩ (by simp only;omega) sb (fun w hw=>ah.mem hw)
  have fk: ¬Dn (cv d) i=false:=by rw[h1];simp
  refine al ?_;refine bb rfl ⟨bx,oM,oM⟩ fun sG vc=>iS ?_;refine Gb ?_ ?_<;>intro h2
  ·
   have hE:(sk (⟨⟨cv xc,xa.xs,xg.toNat,xl⟩,xy⟩:WV) n.toNat)=((⟨⟨cv xc,xa.xs,xg.toNat,xl⟩,xy⟩:WV).on (dz (cv d) i),ei (cv d) i):=by
    have hz:(n8 (cv xc).blocks.length 0 (cv xc))=(dz (cv d) i,ei (cv d) i):=by rw[aK,bD,if_neg fk,if_pos h2]
    rw[sk,if_pos (show(n8 (cv xc).blocks.length 0 (cv xc)).2≠0 by rw[hz];exact h2.1),hz]
   refine ar ?_;refine Gr fun w1 hw=>?_;exact⟨(sG,xa,xg,xl),by rw[hE],by rw[hE,vc];rfl,ah.mem hw⟩
  have fQ:ei (cv d) i≠0->ei (cv d) i≠9->False:=fun ga gb=>by omega
  refine al ?_;refine Gi ?_;exact bo (x:=(i,d)) (i+1,sG) ⟨by simp only;omega,by rw[aK,bD,if_neg fk,if_neg (fun h=>fQ h.1 h.2),vc];rfl,by rw[vc];exact Dl bx _,by rw[vc];exact di.trans (xC _ _)⟩ (by simp only;omega) sb (fun w hw=>ah.mem hw)
 obtain rfl:i=(cv xc).blocks.length:=by omega
 have hz:(n8 (cv xc).blocks.length 0 (cv xc))=(cv d,0):=by rw[aK,avX];rfl
 refine al ?_;refine cg (X:=Nat×Cp) (fun U=>[(36, .int .i64 (U.1:Nat)),(0, .pointer (some ⟨k,0,none⟩)),(1, .int .i64 n)]) (fun U=>aq k (aS (⟨⟨U.2,xa,xg,xl⟩,xy⟩:aT)) 261::fz U.2::fz xa::L) (fun U=>U.1<=2/\(sk (⟨⟨cv xc,xa.xs,xg.toNat,xl⟩,xy⟩:WV) n.toNat)=xI (2 -U.1) (U.1:Int) ((⟨⟨cv xc,xa.xs,xg.toNat,xl⟩,xy⟩:WV).on (cv U.2)) n.toNat/\aW (cv U.2)=true/\dV (cv xc) (cv U.2)) (fun U=>2 -U.1) (0,d) ⟨Nat.zero_le _,by rw[sk,if_neg (show ¬(n8 (cv xc).blocks.length 0 (cv xc)).2≠0 by rw[hz];simp),show(n8 (cv xc).blocks.length 0 (cv xc)).1=cv d by rw[hz]];rfl,bx,di⟩ sb (fun w hw=>ah.mem hw) ?_;rintro⟨j,e⟩ ⟨fP,dB,gJ,kh⟩;dsimp only;simp only at fP dB gJ kh;have HP:=kh.len;have zG:=Ll (ak (cv e) (1 -(j:Int))).pages;change mi (cv e) (1 -(j:Int))<_ at zG;have eS:gY (cv e) j<281474976710656+2\/ ¬j<2:=by
  by_cases hj9:j<2
  ·left;rw[gY];omega
  exact .inr hj9
 refine al ?_;refine Gb ?_ ?_<;>intro h3
 ·
  have ass:gY (cv e) j<281474976710656+2:=eS.resolve_right (fun h=>h oM);have M7:(UInt64.ofNat (gY (cv e) j)).toNat=gY (cv e) j:=by rw[UInt64.toNat_ofNat'];omega
  refine ar ?_;refine pA [4,6,7,2004,2006] [[],[],[],[],[],[4],[],[4,6]] [0,1,2,3,4,5,6,7] [aq k (aS (⟨⟨e,xa,xg,xl⟩,xy⟩:aT)) 261,fz e] [(4,oJ ck 1 n.toNat (List.replicate n.toNat 0)),(6,mG prog 314)] oK (fun _ hw=>ah.mem hw) oK oK (an rfl (bm rfl) (an rfl (bm rfl) (ze rfl (bK rfl ⟨gJ,oM,oM⟩) (an rfl (bm rfl) (oI (m:=oJ ck 1 n.toNat (List.replicate n.toNat 0)) rfl rfl (aeY (enc:=ck) (c:=1) (n:=n.toNat) 0 rfl rfl rfl oM oM oM oM) (Cert.one (i:=6) rfl rfl rfl mH (Cert.none rfl)) fun kI=>?_)))));change Ln _ _ _ _ _ _ _ _ (cr _ _ (Sv.val ⟨false,kI,0,n.toNat,n.toNat,none⟩)) (own ck 1 ⟨false,kI,0,n.toNat,n.toNat,none⟩ (List.replicate n.toNat 0)::_) _;refine an rfl (cR (v:= .agg (fa (⟨UInt64.ofNat (gY (cv e) j),⟨⟨false,kI,0,n.toNat,n.toNat,none⟩,(List.replicate n.toNat 0)⟩⟩:dK))) rfl (by rw[show(.int .u64 ((gY (cv e) j:Nat):Int):Value)= .int .u64 ((UInt64.ofNat (gY (cv e) j)).toNat:Int) by rw[M7]];exact U3 _ _ _)) (oI (m:=mG prog 314) rfl rfl mH (Cert.none rfl) fun b8=>?_);change Ln _ _ _ _ _ _ _ _ (cr _ _ (.pointer (some ⟨b8,0,none⟩))) (aq b8 (fa mM) 314::_) _;refine dr rfl (qw rfl rfl ⟨fun _ hw=>ah.mem hw,?_⟩);refine j6 ?_;have BH:dM (⟨UInt64.ofNat (gY (cv e) j),⟨⟨false,kI,0,n.toNat,n.toNat,none⟩,(List.replicate n.toNat 0)⟩⟩:dK)=⟨gY (cv e) j,(List.replicate n.toNat 0)⟩:=by simp only[dM,M7]
  have hrp:pV (cv e) j n.toNat=(da (dM (⟨UInt64.ofNat (gY (cv e) j),⟨⟨false,kI,0,n.toNat,n.toNat,none⟩,(List.replicate n.toNat 0)⟩⟩:dK)) e.size):=by rw[BH];rfl
  have Vb:2 -j=(2 -(j+1))+1:=by omega
  have bD:(xI (2 -j) (j:Int) ((⟨⟨cv xc,xa.xs,xg.toNat,xl⟩,xy⟩:WV).on (cv e)) n.toNat)=(if(pV (cv e) j n.toNat).2≠0\/ez (cv e) j=0 then xI (2 -(j+1)) ((j:Int)+1) ((⟨⟨cv xc,xa.xs,xg.toNat,xl⟩,xy⟩:WV).on (cv e)) n.toNat else if(bC (cv e) j (pV (cv e) j n.toNat).1)=0 then((⟨Hb (bB (cv e) j (pV (cv e) j n.toNat).1) j n.toNat (gY (cv e) j),xy⟩:WV),(0:Int))else if(bC (cv e) j (pV (cv e) j n.toNat).1)≠9 then((⟨⟨cv xc,xa.xs,xg.toNat,xl⟩,xy⟩:WV).on (bB (cv e) j (pV (cv e) j n.toNat).1),(bC (cv e) j (pV (cv e) j n.toNat).1))else xI (2 -(j+1)) ((j:Int)+1) ((⟨⟨cv xc,xa.xs,xg.toNat,xl⟩,xy⟩:WV).on (bB (cv e) j (pV (cv e) j n.toNat).1)) n.toNat):=by
   rw[Vb,xI];rfl
  rw[hrp]at bD;refine jt [7] [[],[],[],[],[],[],[],[],[7],[7],[7],[7],[7]] [0,1,2,3,4,5,6,7,8,9,10,11,12] [aq k (aS (⟨⟨e,xa,xg,xl⟩,xy⟩:aT)) 261,fz e,aq b8 (fa (⟨UInt64.ofNat (gY (cv e) j),⟨⟨false,kI,0,n.toNat,n.toNat,none⟩,(List.replicate n.toNat 0)⟩⟩:dK)) 314] (fun _ hw=>ah.mem hw) oK oK (an rfl (jU rfl) (an rfl (bm rfl) (an rfl (gE rfl) (an rfl (aM (o':=0) rfl rfl) (an rfl (aM (o':=0) rfl rfl) (an rfl (aM (o':=1) rfl rfl) (an rfl (Ry.to (v':= .int .i64 e.size) (bE rfl) rfl) (dr rfl (qv rfl trivial fun x53 ast=>⟨fun _ hw=>ah.mem hw,?_⟩)))))))));refine an rfl (bm rfl) (an rfl (aB (v:=x53.val) rfl rfl) (an rfl (aB (v:= .int .i64 ((da (dM (⟨UInt64.ofNat (gY (cv e) j),⟨⟨false,kI,0,n.toNat,n.toNat,none⟩,(List.replicate n.toNat 0)⟩⟩:dK)) e.size).2)) rfl rfl) (an rfl (hO rfl) (an rfl (hO rfl) (aY ?_)))));refine bU rfl rfl rfl (fun hg=>bK (fG (aG hg rfl) (fG (aG hg rfl) jG)) ⟨gJ,oM,oM⟩) (al ?_);refine Gb ?_ ?_<;>intro h4
  ·have ki:(da (dM (⟨UInt64.ofNat (gY (cv e) j),⟨⟨false,kI,0,n.toNat,n.toNat,none⟩,(List.replicate n.toNat 0)⟩⟩:dK)) e.size).2≠0\/ez (cv e) j=0:=h4;refine al ?_;refine Gi ?_;exact bo (x:=(j,e)) (j+1,e) ⟨by simp only;omega,by rw[dB,bD,if_pos ki];rfl,gJ,kh⟩ (by simp only;omega) sb (fun w hw=>ah.mem hw)
  have ki: ¬((da (dM (⟨UInt64.ofNat (gY (cv e) j),⟨⟨false,kI,0,n.toNat,n.toNat,none⟩,(List.replicate n.toNat 0)⟩⟩:dK)) e.size).2≠0\/ez (cv e) j=0):=fun h=>h.elim (fun g=>g h4.1) h4.2;refine ar ?_;refine bb rfl ⟨gJ,oM,oM⟩ fun yu D8=>aP ?_;refine Gb ?_ ?_<;>intro h5
  ·
   have qc:(bC (cv e) j (da (dM (⟨UInt64.ofNat (gY (cv e) j),⟨⟨false,kI,0,n.toNat,n.toNat,none⟩,(List.replicate n.toNat 0)⟩⟩:dK)) e.size).1)=0:=h5;have hE:(sk (⟨⟨cv xc,xa.xs,xg.toNat,xl⟩,xy⟩:WV) n.toNat)=((⟨Hb (bB (cv e) j (da (dM (⟨UInt64.ofNat (gY (cv e) j),⟨⟨false,kI,0,n.toNat,n.toNat,none⟩,(List.replicate n.toNat 0)⟩⟩:dK)) e.size).1) j n.toNat (gY (cv e) j),xy⟩:WV),0):=by rw[dB,bD,if_neg ki,if_pos qc]
   refine Gi ?_;refine jt [11,15,19,1003,1004,1009,1010,1013,1014,1017,1018] [[],[],[],[],[3],[],[],[],[3,4],[3,4],[3,4,9],[3,4,9,10],[3,4,9,10,11],[3,4,9,10,11],[3,4,9,10,11,13],[3,4,9,10,11,13,14],[3,4,9,10,11,13,14,15],[3,4,9,10,11,13,14,15],[3,4,9,10,11,13,14,15,17],[3,4,9,10,11,13,14,15,17,18]] [0,1,2,3,4,5,6,7,8,9,10,11,12,13,14,15,16,17,18,19] [aq b8 (fa (⟨UInt64.ofNat (gY (cv e) j),⟨⟨false,kI,0,n.toNat,n.toNat,none⟩,(List.replicate n.toNat 0)⟩⟩:dK)) 314] (fun _ hw=>ah.mem hw) oK oK (an rfl (bm rfl) (an rfl (bm rfl) (an rfl (bm rfl) (gq rfl (aM (o':=1) rfl rfl) (gq rfl (bE rfl) (an rfl (aM (o':=0) rfl rfl) (an rfl (bE rfl) (an rfl (bm rfl) (an rfl (gE rfl) (gq rfl (aM (o':=0) rfl rfl) (gq rfl (aM (o':=6) rfl rfl) ?_)))))))))));refine dr rfl (tg (cs':=aS (⟨⟨yu,⟨⟨false,kI,0,n.toNat,n.toNat,none⟩,(List.replicate n.toNat 0)⟩,xg,xl⟩,xy⟩:aT)) rfl rfl (by show 6<10;decide) (by first|rfl|exact Sv.one _) rfl ⟨fun _ hw=>ah.mem hw,?_⟩);refine an rfl (gE rfl) (gq rfl (aM (o':=0) rfl rfl) (gq rfl (aM (o':=7) rfl rfl) ?_));refine dr rfl (tg (cs':=aS (⟨⟨yu,⟨⟨false,kI,0,n.toNat,n.toNat,none⟩,(List.replicate n.toNat 0)⟩,(UInt64.ofNat (gY (cv e) j)),xl⟩,xy⟩:aT)) rfl rfl (by show 7<10;decide) (by first|rfl|exact Sv.one _) rfl ⟨fun _ hw=>ah.mem hw,?_⟩);refine an rfl (gE rfl) (gq rfl (aM (o':=0) rfl rfl) (gq rfl (aM (o':=8) rfl rfl) ?_));refine dr rfl (tg (cs':=aS (⟨⟨yu,⟨⟨false,kI,0,n.toNat,n.toNat,none⟩,(List.replicate n.toNat 0)⟩,(UInt64.ofNat (gY (cv e) j)),((j:Nat):Int)⟩,xy⟩:aT)) rfl rfl (by show 8<10;decide) (by first|rfl|exact Sv.one _) rfl ⟨fun _ hw=>ah.mem hw,?_⟩);refine al ?_;refine Gr fun w1 hw=>?_;exact⟨(yu,⟨⟨false,kI,0,n.toNat,n.toNat,none⟩,(List.replicate n.toNat 0)⟩,UInt64.ofNat (gY (cv e) j),(j:Int)),by rw[hE],by rw[hE,D8,Hb];simp only[M7],ah.mem (zh (a:=⟨⟨false,kI,0,n.toNat,n.toNat,none⟩,(List.replicate n.toNat 0)⟩) (ah.mem hw:Mem w0 (own ck 1 ⟨false,kI,0,n.toNat,n.toNat,none⟩ (List.replicate n.toNat 0)::aq k (aS (⟨⟨yu,⟨⟨false,kI,0,n.toNat,n.toNat,none⟩,(List.replicate n.toNat 0)⟩,(UInt64.ofNat (gY (cv e) j)),(j:Int)⟩,xy⟩:aT)) 261::fz yu::L) _))⟩
  have qc: ¬(bC (cv e) j (da (dM (⟨UInt64.ofNat (gY (cv e) j),⟨⟨false,kI,0,n.toNat,n.toNat,none⟩,(List.replicate n.toNat 0)⟩⟩:dK)) e.size).1)=0:=h5;refine ar ?_;refine Gb ?_ ?_<;>intro h6
  ·
   have hE:(sk (⟨⟨cv xc,xa.xs,xg.toNat,xl⟩,xy⟩:WV) n.toNat)=((⟨⟨cv xc,xa.xs,xg.toNat,xl⟩,xy⟩:WV).on (bB (cv e) j (da (dM (⟨UInt64.ofNat (gY (cv e) j),⟨⟨false,kI,0,n.toNat,n.toNat,none⟩,(List.replicate n.toNat 0)⟩⟩:dK)) e.size).1),(bC (cv e) j (da (dM (⟨UInt64.ofNat (gY (cv e) j),⟨⟨false,kI,0,n.toNat,n.toNat,none⟩,(List.replicate n.toNat 0)⟩⟩:dK)) e.size).1)):=by rw[dB,bD,if_neg ki,if_neg qc,if_pos (show(bC (cv e) j (da (dM (⟨UInt64.ofNat (gY (cv e) j),⟨⟨false,kI,0,n.toNat,n.toNat,none⟩,(List.replicate n.toNat 0)⟩⟩:dK)) e.size).1)≠9 from h6)]
   refine ar ?_;refine Gr fun w1 hw=>?_;exact⟨(yu,xa,xg,xl),by rw[hE],by rw[hE,D8];rfl,ah.mem hw⟩
  refine al ?_;refine Gi ?_;exact bo (x:=(j,e)) (j+1,yu) ⟨by simp only;omega,by rw[dB,bD,if_neg ki,if_neg qc,if_neg (fun h=>h h6),D8];rfl,by rw[D8];exact mg gJ _ _,by rw[D8];exact kh.trans (iY _ _ _)⟩ (by simp only;omega) sb (fun w hw=>ah.mem hw)
 obtain rfl:j=2:=by omega
 have hE:(sk (⟨⟨cv xc,xa.xs,xg.toNat,xl⟩,xy⟩:WV) n.toNat)=((⟨⟨cv xc,xa.xs,xg.toNat,xl⟩,xy⟩:WV).on (cv e),9):=by rw[dB];rfl
 refine al ?_;refine Gr fun w1 hw=>?_;exact⟨(e,xa,xg,xl),by rw[hE],by rw[hE];rfl,ah.mem hw⟩
instance asu{w0:World}{L R1 R2 L2:List ai}{i0 i1 i2:Nat}{k:Nat}{xc:Cp}{xa:Sl Int}{xg:UInt64}{xl:Int}{xy:Bool}{n:Int}[q0:Has L k (aS (⟨⟨xc,xa,xg,xl⟩,xy⟩:aT)) 261 i0][d0:ct L i0 R1][q1:At R1 (fz xc) i1][d1:ct R1 i1 R2][q2:At R2 (fz xa) i2][d2:ct R2 i2 L2]:bY prog 166 w0 L [.pointer (some ⟨k,0,none⟩), .int .i64 n] (Cp×Sl Int×UInt64×Int) (fun U=> .int .i64 ((sk (⟨⟨cv xc,xa.xs,xg.toNat,xl⟩,xy⟩:WV) n.toNat).2)) (fun U=>aq k (aS (⟨⟨U.1,U.2.1,U.2.2.1,U.2.2.2⟩,xy⟩:aT)) 261::fz U.1::fz U.2.1::L2) (fun U=>(⟨⟨cv U.1,U.2.1.xs,U.2.2.1.toNat,U.2.2.2⟩,xy⟩:WV)=(sk (⟨⟨cv xc,xa.xs,xg.toNat,xl⟩,xy⟩:WV) n.toNat).1) (db (⟨⟨cv xc,xa.xs,xg.toNat,xl⟩,xy⟩:WV)/\0<=n/\n<=64):=⟨fun hp w hw=>agK w0 w L2 k xc xa xg xl xy n (wq q0.h d0.h q1.h d1.h q2.h d2.h hw) hp⟩
instance asv{b:Int}{p:Int}:bV prog 142 w0 L [.int .i64 b, .int .i64 p] (.int .i64 (uT b p)) (True):=⟨fun aC w hw=>by
 refine dD func142 rfl ntmps142 rfl ?_;refine QJ ?_;refine Gb ?_ ?_<;>intro h0
 ·have hE:uT b p=0:=if_pos oM;refine al ?_;refine Gr fun w1 hw=>?_;exact Gf (hE.symm) hw
 have hE:uT b p=(b -4)*p:=if_neg oM;have oW:0<=(b -4)*p:=avG oM oM;have qM:(b -4)*p<=28*16:=awX oM oM oM oM;refine ar ?_;refine ag (vC rfl rfl oM) (au ?_);refine Gr fun w1 hw=>?_;exact⟨congrArg (fun b=>Ending.returned (Value.int .i64 b)) (hE.symm),ah.mem hw⟩⟩
instance asw{v:cB}{it:Sl It}[hv:aX w0 L v][hit:aX w0 L it]:bV prog 174 w0 L [.agg (cF v),it.sv.val] (.bool (tF (vv v) (it.xs.map bw))) (True):=⟨fun aC w hw=>by
 have hv:=hv.h w hw;have hit:=hit.h w hw;have DS:cQ w v:=⟨hv⟩;have agL:cQ w it:=⟨hit⟩;have kv:=hit.1.bd;have HW:=hv.2.1.bd;have fo:(it.xs.map bw).length=it.xs.length:=aur _;refine dD func174 rfl ntmps174 rfl ?_;refine Gc ?_;refine cn rfl fun b2=>au ?_;refine Uy pa rD fun tV=>aY ?_;refine cg (X:=Nat) (fun U=>[(13, .int .i64 (U:Nat)),(5, .map (some tV)),(2, .pointer (some ⟨b2,0,none⟩)),(11,it.sv.val),(12, .int .i64 (it.xs.length:Nat))]) (fun U=>[omap prog 3 pa rD tV (uS ((it.xs.map bw).map Prod.fst) U),aq b2 (cF v) 63]) (fun U=>U<=it.xs.length/\ ∀j,j<U->uR (vv v) (it.xs.map bw) j=true) (fun U=>it.xs.length -U) 0 ⟨Nat.zero_le _,fun j hj=>by first|omega|(simp only[];omega)⟩ sb (fun w hw=>by
  rw[←adX];exact ah.mem hw) ?_
 rintro i ⟨bg,aK⟩;refine al ?_;refine Gb ?_ ?_<;>intro h0
 ·
  obtain⟨z,hz⟩:=get_some (xs:=it.xs) (i:=i) oM;have yg:Mb z it:=⟨List.mem_of_getElem? hz⟩;have yt:(it.xs.map bw)[i]? =Option.some (bw z):=by rw[aua,hz];rfl
  have zK:(it.xs.map bw).getD i (0,[])=bw z:=by simp[List.getD,yt]
  have agM:((it.xs.map bw).map Prod.fst)[i]? =Option.some z.id:=by rw[aua,yt];rfl
  have AF:(uR (vv v) (it.xs.map bw) i)=(uQ (vv v) (bw z)&& !(((it.xs.map bw).map Prod.fst).take i).contains z.id):=by rw[uR,zK,List.map_take];rfl
  have fj:(uR (vv v) (it.xs.map bw) i)=false->tF (vv v) (it.xs.map bw)=false:=fun h=>by
   cases u9:tF (vv v) (it.xs.map bw)with
   |false=>rfl
   |true=>have:=Dt.1 u9 i oM;rw[h]at this;cases this
  have kr:uQ (vv v) (bw z)=true↔0<=z.id/\z.id<v.at_.xs.length/\(z.body.xs.length:Int)<=dY v.ae.size:=by
   rw[uQ,af0,af0,decide_eq_true_eq,decide_eq_true_eq,decide_eq_true_eq,and_assoc];rfl
  refine Gc ?_;refine ag (bf rfl rfl i rfl oM) (ag (gV rfl i hz rfl) ?_);have af2:Mb z it:=⟨List.mem_of_getElem? hz⟩;refine bn fun b7=>au ?_;refine jI oK oK (Ks ?_);refine jH rfl rfl rfl (fun hg=>(Ry.yl (aM (o':=1) (aG hg rfl) rfl))) (Gh ?_);refine jH rfl rfl rfl (fun hg=>bK (fG (aG hg rfl) jG) trivial) (al ?_);refine Gb ?_ ?_<;>intro h1
  ·
   have hE:tF (vv v) (it.xs.map bw)=false:=fj (by
    have: ¬uQ (vv v) (bw z)=true:=fun h=>by have:=kr.1 h;omega
    rw[AF,show uQ (vv v) (bw z)=false by simpa using this];rfl)
   refine al ?_;refine Gr fun w1 hw=>?_;exact Ge (hE.symm) hw
  have nO:uQ (vv v) (bw z)=true:=kr.2 ⟨oM,oM,oM⟩;have yj:=My (n:=z.id) oM;refine ar ?_;refine ag (Mm (dA:=pa) (eP:=rD) (f:=uS ((it.xs.map bw).map Prod.fst) i) (v:=z.id) (z:=()) rfl rfl yj) (Gs ?_);refine ag (aB (v:= .agg #[]) rfl rfl) (ag (aB (v:= .bool ((uS ((it.xs.map bw).map Prod.fst) i z.id).isSome)) rfl rfl) (bn fun b8=>aP ?_));refine Gb ?_ ?_<;>intro h2
  ·
   have hE:tF (vv v) (it.xs.map bw)=false:=fj (by
    rw[Ta]at h2;rw[AF,nO,awF,h2];rfl)
   refine al ?_;refine Gr fun w1 hw=>?_;exact Ge (hE.symm) hw
  have bJ:(uR (vv v) (it.xs.map bw) i)=true:=by
   rw[Ta]at h2;rw[AF,nO,awF,h2];rfl
  have fE:=adY agM;refine ar ?_;refine ag (cR (v:= .agg #[]) rfl (fun w=>kRq)) (Mn (dA:=pa) (eP:=rD) (v:=z.id) (u:=()) rfl rfl rfl yj (al ?_));refine Gi ?_;exact bo (x:=(i)) (i+1) ⟨oF,fun j hj=>if e:j=i then e▸bJ else aK j oF⟩ oF sb (fun w hw=>by
   rw[←fE];exact ah.mem hw)
 obtain rfl:i=it.xs.length:=by omega
 have hE:tF (vv v) (it.xs.map bw)=true:=Dt.2 fun j hj=>aK j oM;refine al ?_;refine Gr fun w1 hw=>?_;exact⟨congrArg (fun b=>Ending.returned (Value.bool b)) (hE.symm),ah.mem hw⟩⟩
theorem Vc(v:cB)(w:World):(Instr.build 261 #[(0, .agg (cF v))]).run prog w= .ok (.agg (aS ⟨v,false⟩)) w:=by
 obtain⟨⟨a1,a2,⟨a3,a4⟩,a5,a6,⟨a7,a8⟩⟩,⟨s,xs⟩,g,l⟩:=v;unfold cF aS;obtain⟨e,b,o,l,c,p⟩:=s;obtain⟨e3,b3,o3,l3,c3,p3⟩:=a3;obtain⟨e7,b7,o7,l7,c7,p7⟩:=a7
 cases e<;>cases e3<;>cases e7<;>kernel_rfl
theorem D9(c:Cp)(w:World):(Instr.build 63 #[(0, .agg (aV c))]).run prog w= .ok (.agg (cF ⟨c,⟨Sv.none,[]⟩,0,0⟩)) w:=by
 obtain⟨a1,a2,⟨a3,a4⟩,a5,a6,⟨a7,a8⟩⟩:=c;unfold cF aV;obtain⟨e3,b3,o3,l3,c3,p3⟩:=a3;obtain⟨e7,b7,o7,l7,c7,p7⟩:=a7
 cases e3<;>cases e7<;>kernel_rfl
theorem Ea{w0 w:World}{L:List ai}(h:Mem w0 L w):Mem w0 (fz (⟨Sv.none,[]⟩:Sl Int)::L) w:=zh (a:=⟨Sv.none,[]⟩) (Mem.dE ck 1 h)
theorem Vd{w0 w:World}{c:Cp}{a:Sl Int}(h:Mem w0 [fz c,own ck 1 a.sv a.xs] w):Mem w0 [fz c,fz a] w:=ah.mem (zh (ah.mem h:Mem w0 [own ck 1 a.sv a.xs,fz c] w))
instance asx{v:cB}{it:Sl It}[hv:aX w0 L v][hit:aX w0 L it]:bY prog 103 w0 L [.agg (cF v),it.sv.val] (Cp×Sl Int×UInt64×Int) (fun U=> .tuple #[.agg (cF (⟨U.1,U.2.1,U.2.2.1,U.2.2.2⟩:cB)), .int .i64 ((fg (vv v) (it.xs.map bw)).2)]) (fun U=>fz U.1::fz U.2.1::L) (fun U=>(⟨cv U.1,U.2.1.xs,U.2.2.1.toNat,U.2.2.2⟩:VV)=(fg (vv v) (it.xs.map bw)).1) (gk v.ae/\v.at_.xs.length<=1000000/\it.xs.length<=1000000):=⟨fun aC w hw=>Gk (fun U:Cp×Sl Int×UInt64×Int=>[fz U.1,fz U.2.1]) hw (by
 have hv:=hv.h w hw;have hit:=hit.h w hw;have DS:cQ w v:=⟨hv⟩;have agL:cQ w it:=⟨hit⟩;obtain⟨gQ,dj,fo⟩:=aC;refine dD func103 rfl ntmps103 rfl ?_;refine Gc ?_;refine cn rfl fun b2=>bn fun b4=>rh ?_;refine bU rfl rfl rfl (fun hg=>(Ry.yl (jU rfl))) (Gg ?_);refine bU rfl rfl rfl (fun hg=>bK (fG (aG hg rfl) (fG (aG hg rfl) jG)) trivial) (bU rfl rfl rfl (fun hg=>(Ry.yl (nJ (aG hg rfl)))) (au ?_));refine Gb ?_ ?_<;>intro h0
 ·
  have hE:(fg (vv v) (it.xs.map bw))=(vv v,1):=by
   rw[fg,if_pos];rintro⟨g1,g2,g3⟩;rcases h0 with(h|h)|h
   ·rw[g1]at h;cases h
   ·change v.gen.toNat<_ at g2;omega
   rw[g3]at h;cases h
  refine au ?_;refine bb rfl ⟨gQ,dj⟩ fun yh Ms=>al ?_;refine Gr fun w1 hw=>?_;exact⟨(yh.1,⟨yh.2,v.at_.xs⟩,v.gen,v.last),by rw[hE],by rw[hE,Ms];rfl,Vd (ah.mem hw)⟩
 have hq:mQ (vv v)=true/\(vv v).gen<281474976710655/\tF (vv v) (it.xs.map bw)=true:=⟨h0.1.1,by show v.gen.toNat<_;omega,h0.2⟩;have M8:db (⟨vv v,false⟩:WV):=Du hq.1;have M1: ∀x∈it.xs,0<=x.id/\x.id<v.at_.xs.length:=fun x hx=>by
  obtain⟨j,hj⟩:=aul hx;have yt:(it.xs.map bw)[j]? =Option.some (bw x):=by rw[aua,hj];rfl
  have hg:=Dt.1 hq.2.2 j (by rw[aur];exact(zz.1 hj).1);rw[uR,show(it.xs.map bw).getD j (0,[])=bw x by simp[List.getD,yt],af0,uQ,af0,af0,decide_eq_true_eq,decide_eq_true_eq]at hg;exact⟨hg.1.1.1,hg.1.1.2⟩
 have dI:(cv v.ae).blocks.length=v.ae.blocks.xs.length:=iv _;refine aP ?_;refine Gb ?_ ?_<;>intro h1
 ·
  have hE:(fg (vv v) (it.xs.map bw))=(vv v,7):=by rw[fg,if_neg (fun h=>h hq),if_pos (show(vv v).ae.off=true from h1)]
  refine au ?_;refine bb rfl ⟨gQ,dj⟩ fun Bs Mo=>al ?_;refine Gr fun w1 hw=>?_;exact⟨(Bs.1,⟨Bs.2,v.at_.xs⟩,v.gen,v.last),by rw[hE],by rw[hE,Mo];rfl,Vd (ah.mem hw)⟩
 have hE:(fg (vv v) (it.xs.map bw))=((lF (v.ae.blocks.xs.length+1) (⟨vv v,false⟩:WV) (it.xs.map bw)).1.v,(lF (v.ae.blocks.xs.length+1) (⟨vv v,false⟩:WV) (it.xs.map bw)).2):=by rw[fg,if_neg (fun h=>h hq),if_neg (show ¬(vv v).ae.off=true by rw[show(vv v).ae.off=v.ae.off from rfl,h1];simp)];rw[show(vv v).ae.blocks.length=v.ae.blocks.xs.length from dI]
 refine au ?_;refine bb rfl ⟨gQ,dj⟩ fun ng wG=>ag (cR (v:= .agg (aS (⟨⟨ng.1,⟨ng.2,v.at_.xs⟩,v.gen,v.last⟩,false⟩:aT))) rfl (Vc _)) (cn rfl fun jS=>au ?_);refine cg (X:=Nat×Cp×Sl Int×UInt64×Int×Bool) (fun U=>[(6, .pointer (some ⟨jS,0,none⟩)),(1,it.sv.val),(4, .pointer (some ⟨b4,0,none⟩))]) (fun U=>[aq jS (aS (⟨⟨U.2.1,U.2.2.1,U.2.2.2.1,U.2.2.2.2.1⟩,U.2.2.2.2.2⟩:aT)) 261,fz U.2.1,fz U.2.2.1,aq b4 (cF mN) 63]) (fun U=>(lF (v.ae.blocks.xs.length+1) (⟨vv v,false⟩:WV) (it.xs.map bw))=lF U.1 (⟨⟨cv U.2.1,U.2.2.1.xs,U.2.2.2.1.toNat,U.2.2.2.2.1⟩,U.2.2.2.2.2⟩:WV) (it.xs.map bw)/\db (⟨⟨cv U.2.1,U.2.2.1.xs,U.2.2.2.1.toNat,U.2.2.2.2.1⟩,U.2.2.2.2.2⟩:WV)/\U.2.2.1.xs.length=v.at_.xs.length/\dV (cv v.ae) (cv U.2.1)/\v.ae.blocks.xs.length<U.1+n7 (cv U.2.1)) (fun U=>U.1) (v.ae.blocks.xs.length+1,ng.1,⟨ng.2,v.at_.xs⟩,v.gen,v.last,false) ⟨by rw[wG];rfl,by rw[wG];exact M8,rfl,by rw[wG];exact .du _,by simp only;omega⟩ sb (fun w hw=>ah.mem (zh (a:=(⟨ng.2,v.at_.xs⟩:Sl Int)) (ah.mem hw:Mem _ [own ck 1 ng.2 v.at_.xs,aq jS (aS (⟨⟨ng.1,⟨ng.2,v.at_.xs⟩,v.gen,v.last⟩,false⟩:aT)) 261,fz ng.1,aq b4 (cF mN) 63] _))) ?_;rintro⟨n,c,a,g,q,y⟩ ⟨bg,aK,bx,di,D1⟩;dsimp only;simp only at bg aK bx di D1;have Ve:=S9 (cv c);have hlc:(cv c).blocks.length=(cv v.ae).blocks.length:=di.len;have A8:a.xs.length<=64:=aK.kT;have agN: ∀x∈it.xs,0<=x.id/\x.id<a.xs.length/\x.id<64:=fun x hx=>by have:=M1 x hx;omega
 obtain⟨r,rfl⟩: ∃r,n=r+1:=⟨n -1,oM⟩;refine cX ?_;refine bb rfl ⟨aK,fo,agN⟩ fun nD yn=>?_;have hb:=Hj (l:=(it.xs.map bw)) aK;rw[←yn]at hb;refine aY ?_;refine jo rfl rfl rfl (fun hg=>bK (fG (aG hg rfl) jG) trivial) (ar ?_);refine Gb ?_ ?_<;>intro h2
 ·have fQ:(gI (⟨⟨cv c,a.xs,g.toNat,q⟩,y⟩:WV) (it.xs.map bw)).2=5/\n7 (cv c)<n7 (gI (⟨⟨cv c,a.xs,g.toNat,q⟩,y⟩:WV) (it.xs.map bw)).1.v.ae:=⟨h2.1,by rw[←yn];show n7 (cv c)<n7 (cv nD.1);omega⟩;refine j6 ?_;exact bo (x:=(r+1,c,a,g,q,y)) (r,nD.1,nD.2.1,nD.2.2.1,nD.2.2.2.1,nD.2.2.2.2) ⟨by rw[bg,lF,if_pos fQ,←yn],hb.ok,hb.xH.trans bx,di.trans hb.cm,by have:=fQ.2;rw[←yn]at this;change n7 (cv c)<n7 (cv nD.1)at this;simp only;omega⟩ (by simp only;omega) sb (fun w hw=>ah.mem hw)
 have fQ: ¬((gI (⟨⟨cv c,a.xs,g.toNat,q⟩,y⟩:WV) (it.xs.map bw)).2=5/\n7 (cv c)<n7 (gI (⟨⟨cv c,a.xs,g.toNat,q⟩,y⟩:WV) (it.xs.map bw)).1.v.ae):=by
  rw[←yn];rintro⟨ga,gb⟩;change n7 (cv c)<n7 (cv nD.1)at gb;rcases h2 with h|h
  ·exact h ga
  omega
 have HX:(lF (v.ae.blocks.xs.length+1) (⟨vv v,false⟩:WV) (it.xs.map bw))=gI (⟨⟨cv c,a.xs,g.toNat,q⟩,y⟩:WV) (it.xs.map bw):=by rw[bg,lF,if_neg fQ]
 refine ar ?_;refine ag (Ry.to (v':= .agg (cF (⟨nD.1,nD.2.1,nD.2.2.1,nD.2.2.2.1⟩:cB))) (fM rfl) rfl) (ar ?_);refine Gr fun w1 hw=>?_;exact⟨(nD.1,nD.2.1,nD.2.2.1,nD.2.2.2.1),by rw[hE,HX],by rw[hE,HX,←yn],ah.mem hw⟩)⟩
instance asy{c:Cp}{n:Int}[hc:aX w0 L c]:bY prog 97 w0 L [.agg (aV c), .int .i64 n] (Cp×Sl Int×UInt64×Int) (fun U=> .tuple #[.agg (cF (⟨U.1,U.2.1,U.2.2.1,U.2.2.2⟩:cB)), .int .i64 ((pW (cv c) n).2)]) (fun U=>fz U.1::fz U.2.1::L) (fun U=>(⟨cv U.1,U.2.1.xs,U.2.2.1.toNat,U.2.2.2⟩:VV)=(pW (cv c) n).1) (gk c):=⟨fun aC w hw=>Gk (fun U:Cp×Sl Int×UInt64×Int=>[fz U.1,fz U.2.1]) hw (by
 have hc:=hc.h w hw;have lN:cQ w c:=⟨hc⟩;have gQ:gk c:=aC;refine dD func97 rfl ntmps97 rfl ?_;refine Gc ?_;refine cn rfl fun b2=>bn fun b4=>Kr ?_;refine bU rfl rfl rfl (fun hg=>bK (fG (aG hg rfl) jG) trivial) (al ?_);refine Gb ?_ ?_<;>intro h0
 ·
  have hE:(pW (cv c) n)=(⟨cv c,[],0,0⟩,1):=by
   rw[pW,if_pos];rintro⟨g1,g2,g3⟩;rcases h0 with(h|h)|h
   ·rw[g1]at h;cases h
   ·omega
   change _<=kP c.size at g3;omega
  refine au ?_;refine bb rfl (by assumption) fun nB DN=>ag (cR (v:= .agg (cF (⟨nB,⟨Sv.none,[]⟩,0,0⟩:cB))) rfl (D9 nB)) (al ?_);refine Gr fun w1 hw=>?_;exact⟨(nB,⟨Sv.none,[]⟩,0,0),by rw[hE],by rw[hE,DN];rfl,ah.mem (Ea (ah.mem hw:Mem w [fz nB] _))⟩
 have hq:gH (cv c)=true/\1<=n/\n<=kP (cv c).size:=⟨h0.1.1,oM,by show n<=kP c.size;omega⟩;obtain⟨e1,e2,e3,e4⟩:=fN.1 hq.1;have rY:=adQ (cv c).size;have M8:db (⟨⟨cv c,[],0,0⟩,false⟩:WV):=⟨e1,e2,e3,e4, .inl rfl,(by show(0:Nat)<_;omega),(fun n hn=>by cases hn),(by show(0:Nat)<=64;omega)⟩;refine ar ?_;refine Gb ?_ ?_<;>intro h1
 ·
  have hE:(pW (cv c) n)=(⟨cv c,[],0,0⟩,7):=by rw[pW,if_neg (fun h=>h hq),if_pos (show(cv c).off=true from h1)]
  refine au ?_;refine bb rfl (by assumption) fun dR pc=>ag (cR (v:= .agg (cF (⟨dR,⟨Sv.none,[]⟩,0,0⟩:cB))) rfl (D9 dR)) (al ?_);refine Gr fun w1 hw=>?_;exact⟨(dR,⟨Sv.none,[]⟩,0,0),by rw[hE],by rw[hE,pc];rfl,ah.mem (Ea (ah.mem hw:Mem w [fz dR] _))⟩
 have F5:(pW (cv c) n)=(if(oU (cv c) n).2≠0 then(⟨(oU (cv c) n).1.v.ae,[],0,0⟩,(oU (cv c) n).2)else((oU (cv c) n).1.v,0)):=by rw[pW,if_neg (fun h=>h hq),if_neg (show ¬(cv c).off=true by rw[show(cv c).off=c.off from rfl,h1];simp)]
 refine au ?_;refine bb rfl (by assumption) fun ng wG=>ag (cR (v:= .agg (cF (⟨ng,⟨Sv.none,[]⟩,0,0⟩:cB))) rfl (D9 ng)) (ag (cR (v:= .agg (aS (⟨(⟨ng,⟨Sv.none,[]⟩,0,0⟩:cB),false⟩:aT))) rfl (Vc _)) (cn rfl fun Eb=>Gs ?_));refine Kt ?_;refine ur [aq Eb (aS (⟨⟨ng,⟨Sv.none,[]⟩,0,0⟩,false⟩:aT)) 261,fz ng,fz (⟨Sv.none,[]⟩:Sl Int),aq b4 (cF mN) 63] (fun w hw=>ah.mem (Ea (ah.mem hw:Mem _ [aq Eb (aS (⟨⟨ng,⟨Sv.none,[]⟩,0,0⟩,false⟩:aT)) 261,fz ng,aq b4 (cF mN) 63] _))) (Gi ?_);refine au ?_;refine bb rfl ⟨by rw[wG];exact M8,oM,oM⟩ fun mY T5=>?_;have A8:(⟨⟨cv mY.1,mY.2.1.xs,mY.2.2.1.toNat,mY.2.2.2⟩,false⟩:WV)=(oU (cv c) n).1:=by rw[T5,oU,←wG];rfl
 refine aP ?_;refine Gb ?_ ?_<;>intro h2
 ·
  have hE:(pW (cv c) n)=(⟨(oU (cv c) n).1.v.ae,[],0,0⟩,(oU (cv c) n).2):=by rw[F5,if_pos (by rw[oU,←wG];exact h2)]
  refine aP ?_;refine ag (Ry.to (v':= .agg (aV mY.1)) (fM rfl) rfl) (ag (cR (v:= .agg (cF (⟨mY.1,⟨Sv.none,[]⟩,0,0⟩:cB))) rfl (D9 mY.1)) (ar ?_));refine Gr fun w1 hw=>?_;exact⟨(mY.1,⟨Sv.none,[]⟩,0,0),by rw[hE,oU,←wG];rfl,by rw[hE,←A8];rfl,ah.mem (Ea (ah.mem hw:Mem w [fz mY.1] _))⟩
 have hE:(pW (cv c) n)=((oU (cv c) n).1.v,0):=by rw[F5,if_neg (by rw[oU,←wG];exact fun h=>h h2)]
 refine ar ?_;refine ag (Ry.to (v':= .agg (cF (⟨mY.1,mY.2.1,mY.2.2.1,mY.2.2.2⟩:cB))) (fM rfl) rfl) (al ?_);refine Gr fun w1 hw=>?_;exact⟨(mY.1,mY.2.1,mY.2.2.1,mY.2.2.2),by rw[hE],by rw[hE,←A8],ah.mem hw⟩)⟩
instance (i:Int)(s:Sv):sP prog 269 [(0, .int .i64 i),(1,s.val)] (.agg #[.int .i64 i,s.val]):=⟨fun w=>by
 obtain⟨n,b,o,l,c⟩:=s
 cases n<;>kernel_rfl⟩
instance asz{s:Sl (Sl UInt8)}{i:Nat}[hs:aX w0 L s]:bV prog 171 w0 L [s.sv.val, .int .i64 (i:Nat)] (((uu s i).sv).val) (True):=⟨fun aC w hw=>by
 have hs:=hs.h w hw;have zw:cQ w s:=⟨hs⟩;refine dD func171 rfl ntmps171 rfl ?_;refine fS ?_;refine Gb ?_ ?_<;>intro h0
 ·refine al ?_;refine Gr fun w1 hw=>?_;exact⟨by rw[Fx oM];rfl,ah.mem hw⟩
 refine al ?_;obtain⟨u,hu⟩:=get_some (xs:=s.xs) (i:=i) oM;refine ag (bf rfl rfl i rfl oM) (ag (bW (j:=0) rfl i hu rfl dDq) ?_);have asA:Mb u _:=⟨List.mem_of_getElem? hu⟩;refine au ?_;refine Gr fun w1 hw=>?_;exact⟨by rw[Fw hu],ah.mem hw⟩⟩
instance asB{x:Sv}{xs:List UInt8}{y:Sv}{ys:List UInt8}[hx:dG w0 L aQ 1 x xs][hy:dG w0 L aQ 1 y ys]:bV prog 172 w0 L [x.val,y.val] (.bool (decide (xs=ys))) (True):=⟨fun aC w hw=>by
 have hx:=hx.h w hw;have hy:=hy.h w hw;have yi:Gv w x aQ 1 xs:=⟨hx⟩;have MD:Gv w y aQ 1 ys:=⟨hy⟩;refine dD func172 rfl ntmps172 rfl ?_;refine ar ?_;refine ag (JG underlying53 underlying5 underlying9 rfl) (Gs ?_);refine ag (JG underlying53 underlying5 underlying9 rfl) (ag (yT rfl rfl) (au ?_));refine Gr fun w1 hw=>?_;exact⟨congrArg (fun b=>Ending.returned (Value.bool b)) (rfl),ah.mem hw⟩⟩
instance asC{x:Sv}{xs:List UInt8}[hx:dG w0 L aQ 1 x xs]:bY prog 110 w0 L [x.val] (Sv) (fun U=>U.val) (fun U=>own aQ 1 U xs::L) (fun U=>True) (xs.length<=140737488355328):=⟨fun aC w hw=>Gk (fun U=>[own aQ 1 U xs]) hw (by
 have hx:=hx.h w hw;have yi:Gv w x aQ 1 xs:=⟨hx⟩;refine cx func110 rfl ntmps110 rfl ?_;refine ar ?_;refine ag (vK underlying53 rfl) (Gc ?_);refine Gb ?_ ?_<;>intro h0
 ·have e0:xs=[]:=aun.1 (by have:=hx.ok.nil h0;have:=hx.len;omega);refine al ?_;refine Gr fun w1 hw=>?_;exact⟨Sv.none,rfl,trivial,by rw[e0];exact(ah.mem hw:Mem w [] _).dE aQ 1⟩
 refine Gc ?_;refine w9 aQ fun b5=>Gs ?_;refine mB (s:=⟨false,b5,0,0,0,none⟩) (ys:=xs) rfl rfl dDq (fun w hw=>iQ (s:=x) underlying53 dDq ((inferInstance:Hd _ _ x aQ 1 xs).h w hw)) (by simp only[adr,ad2,alM];omega) (by simp only[adr,ad2,alM];omega) fun s7 zx xU=>?_;refine au ?_;refine Gr fun w1 hw=>?_;exact⟨s7,rfl,trivial,by simpa using hw⟩)⟩
instance asD{a:Sl (Sl UInt8)}{b:Sl (Sl UInt8)}[ha:aX w0 L a][hb:aX w0 L b]:bY prog 102 w0 L [a.sv.val,b.sv.val] (Sl It) (fun U=>U.sv.val) (fun U=>Deep.cE U::L) (fun U=>Ay U=fq (lx a) (lx b)) (a.xs.length<=1000000/\b.xs.length<=1000000/\ ∀x∈b.xs,x.xs.length<=140737488355328):=⟨fun aC w hw=>Gk (fun U=>[Deep.cE U]) hw (by
 have ha:=ha.h w hw;have hb:=hb.h w hw;have Mr:cQ w a:=⟨ha⟩;have zF:cQ w b:=⟨hb⟩;obtain⟨fC,wj,A6⟩:=aC;refine dD func102 rfl ntmps102 rfl ?_;refine iS ?_;refine ag (yN rfl rfl) (au ?_);refine cg (X:=Nat×Sl It) (fun U=>[(13, .int .i64 (U.1:Nat)),(5,U.2.sv.val),(0,a.sv.val),(1,b.sv.val),(12, .int .i64 (max (a.xs.length:Int) (b.xs.length:Int)))]) (fun U=>[Deep.cE U.2]) (fun U=>U.1<=max a.xs.length b.xs.length/\Ay U.2=oV (lx a) (lx b) U.1) (fun U=>max a.xs.length b.xs.length -U.1) (0,⟨Sv.none,[]⟩) ⟨oF,rfl⟩ sb (fun w hw=>Mem.Fv (enc:=qo) (c:=2) hw) ?_;rintro⟨i,l⟩ ⟨bg,aK⟩;dsimp only;refine al ?_;refine Gb ?_ ?_<;>intro h0
 ·
  refine Ks ?_;refine Gb ?_ ?_<;>intro h1
  ·
   refine Gi ?_;refine al ?_;refine bb rfl (by rcases aud i b.xs.length with h|h;exact A6 _ (by rw[Fw (at2 h)];exact avL h);rw[Fx h];exact auo _) fun dR pc=>?_
   refine ag (gf rfl) ?_;refine nP (enc:=qo) (vals:=[_]) [(⟨((i:Nat):Int),⟨dR,((uu b i).xs)⟩⟩:It)] rfl rfl rfl dDq dDq fun gA=>?_;refine Zm (s:=⟨false,gA,0,1,1,none⟩) l [(⟨((i:Nat):Int),⟨dR,((uu b i).xs)⟩⟩:It)] rfl rfl dDq (by have:=congrArg List.length aK;have h9:=Ho (lx a) (lx b) i;simp only[Ay,aur]at this;simp only[ad2,alM];omega) (by have:=congrArg List.length aK;have h9:=Ho (lx a) (lx b) i;simp only[Ay,aur]at this;simp only[ad2,alM];omega) fun ng agO=>ar ?_;refine Gi ?_;exact bo (x:=(i,l)) (i+1,ng) ⟨oF,by rw[Ay,agO,auv,Tj (by rw[←CG,←CG];exact h1),←aK,←CG];rfl⟩ (by simp only;omega) sb (fun w hw=>ah.mem hw)
  refine al ?_;refine Gi ?_;exact bo (x:=(i,l)) (i+1,l) ⟨oF,by rw[Ti (by rw[←CG,←CG];exact h1)];exact aK⟩ (by simp only;omega) sb (fun w hw=>ah.mem hw)
 refine ar ?_;refine Gr fun w1 hw=>?_;exact⟨l,rfl,(by rw[aK,fq,yU,yU,show i=max a.xs.length b.xs.length by omega]),ah.mem hw⟩)⟩
instance asE{b:Sv}{bs:List UInt8}[hb:dG w0 L aQ 1 b bs]:bV prog 228 w0 L [b.val] (.tuple #[.agg (ay (rdv bs)), .bool (rz bs)]) (bs.length=20):=⟨fun aC w hw=>by
 have hb:=hb.h w hw;have zF:Gv w b aQ 1 bs:=⟨hb⟩;have eg: ∀(i:Nat) e,bs[i]? =some e->bs.getD i 0=e:=fun i e h=>by simp[List.getD,h]
 obtain⟨e6,Vf⟩:=get_some (xs:=bs) (i:=0) oM;have Ec:=eg 0 e6 Vf;refine cx func228 rfl ntmps228 rfl ?_;refine Gc ?_;refine bn fun b2=>au ?_;refine bn fun b4=>gF ?_;refine qY (X:=Unit) (fun U=>[(0,b.val),(2, .pointer (some ⟨b2,0,none⟩)),(4, .pointer (some ⟨b4,0,none⟩))]) (fun U=>[aq b4 ((ay bQ).setIfInBounds 0 (.int .i64 (if e6=1 then 128 else 32))) 34,aq b2 (ay bQ) 34]) (fun U=>e6<=1) ?_ ?_
 ·
  refine au ?_;refine ag (bf rfl rfl 0 rfl oM) (ag (bW (j:=0) rfl 0 Vf rfl dDq) (ar ?_));refine Gb ?_ ?_<;>intro h0
  ·obtain rfl:e6=0:=awm.1 (by simp;omega);refine Gi ?_;refine au ?_;refine dO rfl rfl (by simp[gW]) rfl rfl (gF ?_);exact gD () dDq sb (fun w hw=>hw)
  refine ar ?_;refine Gb ?_ ?_<;>intro h1
  ·obtain rfl:e6=1:=awm.1 (by simp;omega);refine Gi ?_;refine au ?_;refine dO rfl rfl (by simp[gW]) rfl rfl (gF ?_);exact gD () dDq sb (fun w hw=>hw)
  have Vg: ¬e6<=1:=fun h=>by rw[UInt8.le_iff_toNat_le]at h;simp at h;omega
  refine Gc ?_;refine ag (gf rfl) (al ?_);refine Gr fun w1 hw=>?_;exact⟨by rw[show rz bs=false from by rw[rz,Ec];exact decide_eq_false Vg,show rdv bs=bQ from if_neg (by rw[rz,Ec];simpa using Vg)],ah.mem hw⟩
 rintro⟨⟩ hJ;refine au ?_;obtain⟨HY,Vh⟩:=get_some (xs:=bs) (i:=1) oM;refine ag (bf rfl rfl 1 rfl oM) (ag (bW (j:=0) rfl 1 Vh rfl dDq) ?_);have eg1:=eg 1 HY Vh;refine ag (w8 rfl) (au ?_);refine dO rfl rfl (by simp[gW]) rfl rfl (Gc ?_);refine jt [5] [[],[],[],[],[],[]] [0,1,2,3,4,5] [] (fun _ hw=>ah.mem hw) oK oK (an rfl (aM (o':=0) rfl rfl) (an rfl (aM (o':=2) rfl rfl) (an rfl (yM rfl) (an rfl (bm rfl) ?_))));have HH:Rg 2 18 bs.length:=⟨oM⟩;refine an rfl (CC rfl rfl rfl 2 18 rfl rfl HH.h.1 HH.h.2) ?_;refine dr rfl (aaI (ys:=(bs.drop 2).take 16) rfl rfl (by simp;omega) (by simp;omega) (by simp[gW];omega) rfl ⟨fun _ hw=>ah.mem hw,?_⟩);refine Gc ?_;refine jt [11] [[],[],[],[],[],[],[],[],[],[],[],[]] [0,1,2,3,4,5,6,7,8,9,10,11] [] (fun _ hw=>ah.mem hw) oK oK (an rfl (bm rfl) ?_);obtain⟨e30,Vi⟩:=get_some (xs:=bs) (i:=18) oM;refine an rfl (bf rfl rfl 18 rfl oM) (an rfl (bW (j:=0) rfl 18 Vi rfl dDq) ?_);have agP:=eg 18 e30 Vi;refine an rfl (w8 rfl) (an rfl (Pm rfl rfl) (an rfl (bm rfl) ?_));obtain⟨e35,Vj⟩:=get_some (xs:=bs) (i:=19) oM;refine an rfl (bf rfl rfl 19 rfl oM) (an rfl (bW (j:=0) rfl 19 Vj rfl dDq) ?_);have agQ:=eg 19 e35 Vj;refine an rfl (w8 rfl) (an rfl (Pn rfl rfl) (an rfl (aM (o':=18) rfl rfl) ?_));refine dr rfl (tg rfl rfl (by rw[pw (by rw[au0,iG];simp[gW];omega)];simp[gW]) rfl rfl ⟨fun _ hw=>ah.mem hw,?_⟩);refine j6 ?_;refine ur [aq b4 (ay (ry bs)) 34,aq b2 (ay bQ) 34] (fun w hw=>?_) ?_
 ·rw[←aef (b:=bs) aC (if e6=1 then 128 else 32) (by rw[Ec]),eg1,agP,agQ];exact hw
 refine Gi ?_;refine ar ?_;refine Gr fun w1 hw=>?_;exact⟨by rw[show rdv bs=ry bs from if_pos (by rw[rz,Ec];exact decide_eq_true hJ),show rz bs=true from by rw[rz,Ec];exact decide_eq_true hJ],ah.mem hw⟩⟩
instance asF{s:Sv}{xs:List UInt8}{r:Rt}{i:Nat}{L':Sv->List ai}[q:gg L s aQ 1 xs i][u: ∀s',fZ L i (own aQ 1 s' (xs++fB r)) (L' s')]:bY prog 170 w0 L [s.val, .agg (ay r)] Sv (fun s=>s.val) L' (fun _=>True) (xs.length<=1000000):=⟨fun hp w hw=>
 (aeN w0 w (L.eraseIdx i) s xs r (hw.perm (py q.h)) hp).mono fun e w' ⟨s',h1,h2,h3,h4⟩=>⟨s',h1,trivial,by
  rw[←(u s').h];exact h4.perm (set_perm _ L i (At.lt q.h))⟩⟩
instance agR{a:Sl (Sl UInt8)}[ha:aX w0 L a]:bY prog 182 w0 L [a.sv.val] (Sv) (fun U=> .tuple #[U.val, .int .i64 (lJ (lx a))]) (fun U=>own ay 19 U (kf (lx a))::L) (fun U=>True) (a.xs.length<=1000/\ ∀x∈a.xs,x.xs.length<=100000):=⟨fun aC w hw=>Gk (fun U=>[own ay 19 U (kf (lx a))]) hw (by
 have ha:=ha.h w hw;have Mr:cQ w a:=⟨ha⟩;obtain⟨fC,wj⟩:=aC;have hl:=yU a;refine cx func182 rfl ntmps182 rfl ?_;refine rZ ?_;refine cg (X:=Nat×Sv×List Rt) (fun U=>[(11, .int .i64 (U.1:Nat)),(4,U.2.1.val),(9,a.sv.val),(10, .int .i64 (a.xs.length:Nat))]) (fun U=>[own ay 19 U.2.1 U.2.2]) (fun U=>U.1<=a.xs.length/\ig ((lx a).take U.1)=some U.2.2/\U.2.2.length<=U.1*100000) (fun U=>a.xs.length -U.1) (0,Sv.none,[]) ⟨oF,rfl,by simp⟩ sb (fun w hw=>Mem.dE ay 19 hw) ?_;rintro⟨i,t,q⟩ ⟨bg,aK,bx⟩;dsimp only;simp only at bg aK bx;refine al ?_;refine Gb ?_ ?_<;>intro h0
 ·
  refine l6 ?_;obtain⟨x,hx⟩:=get_some (xs:=a.xs) (i:=i) oM;refine ag (bf rfl rfl i rfl oM) (ag (bW (j:=0) rfl i hx rfl dDq) ?_);have UI:Mb x _:=⟨List.mem_of_getElem? hx⟩;have ex:(lx a)[i]? =some x.xs:=by simp[lx,hx]
  have HG:Mb x _:=⟨List.mem_of_getElem? hx⟩;refine ar ?_;refine ag (Cx (p:=x.xs.length) (q:=20) rfl rfl rfl rfl oM) (au ?_);refine Gb ?_ ?_<;>intro h1
  ·have jg:ig (lx a)=none:=Tg (i:=i+1) (by rw[LQ ex,aK,Tf _ x.xs (at5 _) oM];rfl);refine ar ?_;refine Gr fun w1 hw=>?_;exact⟨Sv.none,by rw[(Hn jg).2];rfl,trivial,by rw[(Hn jg).1];exact(ah.mem hw:Mem w [] _).dE ay 19⟩
  refine Gc ?_;refine cg (X:=Sv×List UInt8×Sv×List Rt) (fun U=>[(6,U.1.val),(4,U.2.2.1.val),(9,a.sv.val),(10, .int .i64 (a.xs.length:Nat)),(11, .int .i64 (i:Nat))]) (fun U=>[own ay 19 U.2.2.1 U.2.2.2]) (fun U=> ∃pre,U.2.2.2=q++pre/\ny x.xs=(ny U.2.1).map (pre++ ·)/\eZ aQ 1 (hp w) U.1 U.2.1/\U.2.1.length%20=0/\U.2.2.2.length+U.2.1.length<=(i+1)*100000) (fun U=>U.2.1.length) (x.sv,x.xs,t,q) ⟨[],by simp,by cases ny x.xs<;>rfl,(ha.2 x (List.mem_of_getElem? hx)).1,oF,by have:=wj x (List.mem_of_getElem? hx);simp only;omega⟩ sb (fun w hw=>ah.mem hw) ?_;rintro⟨cu,cs,t2,q2⟩ ⟨pre,fP,dB,gJ,kh,BK⟩;dsimp only;simp only at fP dB gJ kh BK;have gcu:Gv w cu aQ 1 cs:=⟨gJ⟩;refine aP ?_;refine Gb ?_ ?_<;>intro h2
  ·
   have agS:20<=cs.length:=by omega
   have M9:(cs.drop 0).take (20 -0)=cs.take 20:=by simp
   have ec:=LP agS;rw[Tk]at ec;refine au ?_;have agT:Rg 0 20 cs.length:=⟨oM⟩;refine ag (Po rfl rfl 20 rfl agT.h.2) (cO (bK rfl (by simp;omega)) (Gs ?_));refine ag (aB (v:= .agg (ay (rdv ((cs.drop 0).take (20 -0))))) rfl rfl) (ag (aB (v:= .bool (rz ((cs.drop 0).take (20 -0)))) rfl rfl) (bn fun b7=>aY ?_));refine Gb ?_ ?_<;>intro h3
   ·rw[M9]at h3;have jg:ig (lx a)=none:=Tg (i:=i+1) (by rw[LQ ex,aK,dB,ec,h3];rfl);refine ar ?_;refine Gr fun w1 hw=>?_;exact⟨Sv.none,by rw[(Hn jg).2];rfl,trivial,by rw[(Hn jg).1];exact(ah.mem hw:Mem w [] _).dE ay 19⟩
   rw[M9]at h3;rw[h3]at ec;simp only[if_true,awI]at ec;have ev0:rdv ((cs.drop 0).take (20 -0))=ry (cs.take 20):=by rw[M9,rdv,if_pos h3]
   refine al ?_;refine nP (enc:=ay) (vals:=[_]) [(rdv ((cs.drop 0).take (20 -0)))] rfl rfl rfl dDq dDq fun Eb=>?_;refine mB (s:=t2) (ys:=[(rdv ((cs.drop 0).take (20 -0)))]) rfl rfl dDq (fun w hw=>iQ (s:=⟨false,Eb,0,1,1,none⟩) underlying22 dDq ((inferInstance:Hd _ _ ⟨false,Eb,0,1,1,none⟩ ay 19 [(rdv ((cs.drop 0).take (20 -0)))]).h w hw)) (by simp only[ad2,alM];omega) (by simp only[ad2,alM];omega) fun s35 asG asH=>?_;refine al ?_;have Na:Rg 20 cs.length cs.length:=⟨oM⟩;refine ag (CD rfl rfl 20 rfl Na.h.1) (Gs ?_);refine Gi ?_;exact bo (x:=(cu,cs,t2,q2)) (_,cs.drop 20,s35,q2++[ry (cs.take 20)]) ⟨pre++[ry (cs.take 20)],by simp[fP],by rw[dB,ec];cases ny (cs.drop 20)<;>simp,by have:=gJ.sub (lo:=20) (hi:=cs.length) oF (at5 _);rwa [aug (by rw[auh];omega)]at this,by simp only[auh];omega,by simp only[adr,auh,ad2,alM];omega⟩ (by simp only[auh];omega) sb (fun w hw=>by rw[ev0]at hw;exact ah.mem hw)
  refine al ?_;refine Gi ?_;exact bo (x:=(i,t,q)) (i+1,t2,q2) ⟨oF,by rw[LQ ex,aK,awI,dB,show cs=[]from aun.1 oF,Te];simp[fP],by simp only;omega⟩ (by simp only;omega) sb (fun w hw=>ah.mem hw)
 refine Gy7 ?_;have dj:ig (lx a)=some q:=by rw[←aK,aug oM]
 refine Gi ?_;refine ar ?_;refine Gb ?_ ?_<;>intro h4
 ·refine ar ?_;refine Gr fun w1 hw=>?_;exact⟨Sv.none,by rw[(Th dj h4).2];rfl,trivial,by rw[(Th dj h4).1];exact(ah.mem hw:Mem w [] _).dE ay 19⟩
 refine aP ?_;refine Gr fun w1 hw=>?_;exact⟨t,by rw[(LR dj h4).2],trivial,by rw[(LR dj h4).1];exact hw⟩)⟩
instance asI{t:Sv}{ts:List Rt}{ids:Int}{room:Int}[ht:dG w0 L ay 19 t ts]:bY prog 101 w0 L [t.val, .int .i64 ids, .int .i64 room] (Sl (Sl UInt8)) (fun U=> .tuple #[U.sv.val, .int .i64 (jO ts ids room)]) (fun U=>Deep.cE U::L) (fun U=>lx U=lI ts ids room) (True):=⟨fun aC w hw=>Gk (fun U=>[Deep.cE U]) hw (by
 have ht:=ht.h w hw;have Hw:Gv w t ay 19 ts:=⟨ht⟩;refine th func101 rfl ntmps101 rfl ?_;refine Kr ?_;refine bU rfl rfl rfl (fun hg=>bK (fG (aG hg rfl) jG) trivial) (bU rfl rfl rfl (fun hg=>(Ry.yl (nJ (aG hg rfl)))) (au ?_));refine Gb ?_ ?_<;>intro h0
 ·refine ar ?_;refine Gr fun w1 hw=>?_;exact⟨⟨Sv.none,[]⟩,by rw[(Tl h0).1];rfl,(Tl h0).2.symm,Mem.Fv (enc:=cw) (c:=1) (ah.mem hw)⟩
 obtain⟨HZ,Nb⟩:=h0;have hm:=Hl HZ;obtain⟨k,hk⟩: ∃k:Nat,ids=k:=⟨ids.toNat,oM⟩;obtain⟨n,hn⟩: ∃n:Nat,room/20=n:=⟨(room/20).toNat,oM⟩;have rE:ids*(room/20)=((k*n:Nat):Int):=by rw[hk,hn,Int.natCast_mul]
 have ek:ids.toNat=k:=by omega
 have en:(room/20).toNat=n:=by omega
 refine aY ?_;refine Gb ?_ ?_<;>intro h1
 ·refine ar ?_;refine Gr fun w1 hw=>?_;exact⟨⟨Sv.none,[]⟩,by rw[(Tm HZ Nb h1).1];rfl,(Tm HZ Nb h1).2.symm,Mem.Fv (enc:=cw) (c:=1) (ah.mem hw)⟩
 have hE:=LS HZ Nb h1;rw[ek,en]at hE;have Br:ts.length<=k*n:=by omega
 have hl:=ht.bd;refine au ?_;refine Zn (τ:=UInt8) (n:=k) (cap:=k) rfl rfl oM oM oM oM oM fun dR agU=>aY ?_;refine cg (X:=Nat×Sl (Sl UInt8)) (fun U=>[(31, .int .i64 (U.1:Nat)),(9,U.2.sv.val),(2, .int .i64 room),(29,t.val),(30, .int .i64 (ts.length:Nat))]) (fun U=>[Deep.cE U.2]) (fun U=>U.1<=ts.length/\lx U.2=mn (ts.take U.1) k n) (fun U=>ts.length -U.1) (0,dR) ⟨oF,by rw[aec];show List.map _ _=_;rw[agU];simp⟩ sb (fun w hw=>ah.mem hw) ?_;rintro⟨i,a⟩ ⟨bg,aK⟩;dsimp only;simp only at bg aK;refine al ?_;refine Gb ?_ ?_<;>intro h2
 ·
  refine au ?_;obtain⟨zN,Nc⟩:=get_some (xs:=ts) (i:=i) oM;refine ag (bf rfl rfl i rfl oM) (ag (gV rfl i Nc rfl) (bn fun qP=>aP ?_));refine ag (ou rfl rfl oM oM) (ag (ou rfl rfl oM oM) (Gs ?_));refine gF ?_;have bq:i/n<k:=Nat.div_lt_of_lt_mul (by rw[avs];omega);have Nf:i/n<a.xs.length:=by rw[←yU,aK,xM];exact bq
  obtain⟨x,hx⟩:=get_some (xs:=a.xs) (i:=i/n) Nf;have ex:(lx a)[i/n]? =some x.xs:=by simp[lx,hx]
  have Vk:((i:Nat):Int)/(room/20)=((i/n:Nat):Int):=by rw[hn];exact(Int.natCast_ediv i n).symm
  have AQ:x.xs.length<=240:=by
   rw[aK,mn,aua]at ex;obtain⟨j,_,hj⟩:=avC.1 ex;have:=LO (ts.take i) n j;rw[hj]at this;omega
  refine ur (own cw 1 a.sv a.xs::own aQ 1 x.sv x.xs::aq qP (ay zN) 34::(a.xs.eraseIdx (i/n)).map Deep.cE) (fun w hw=>(Tr.Zo (B:=[aq qP (ay zN) 34]) hx).mem hw) (O1 9 [7] [own cw 1 a.sv a.xs,aq qP (ay zN) 34] (fun w hw=>ah.mem hw) oK oK ?_);simp only[ave,auw];refine ar ?_;refine bX (bf rfl rfl (i/n) Vk Nf) (bX (bW (j:=0) rfl (i/n) hx rfl dDq) ?_);have asJ:Mb x _:=⟨List.mem_of_getElem? hx⟩;refine Gq ?_;refine OY (bX (bf rfl rfl (i/n) Vk Nf) (vD ?_ (fun _ hw=>ah.mem hw)));refine Zh rfl rfl oM (fun _ w hw=>ah.mem hw) fun tU MJ=>vE ?_;simp only[avD,avg];refine Fy (k:=i/n) ⟨tU,x.xs++fB zN⟩ oK rfl rfl rfl hx (al ?_);refine Gi ?_;exact bo (x:=(i,a)) (i+1,⟨a.sv,a.xs.set (i/n) ⟨tU,x.xs++fB zN⟩⟩) ⟨oF,by rw[aeg,aeb oF Nc (by rw[←aK];exact ex),←aK];rfl⟩ oF sb (fun w hw=>ah.mem ((Tr.Zp (B:=[aq qP (ay zN) 34]) (enc:=aQ) (c:=1) (by rw[←yU,aK,xM];exact bq)).mem hw))
 refine aP ?_;refine Gr fun w1 hw=>?_;exact⟨a,by rw[hE.1],by rw[aK,hE.2,aug oM],hw⟩)⟩
instance:eY prog 65 (.agg (cV nz)):=⟨kRq⟩
theorem Ng(v:cB)(t:Sl Rt)(w:World):(Instr.build 65 #[(0, .agg (cF v)),(1,t.sv.val)]).run prog w= .ok (.agg (cV ⟨v,t⟩)) w:=by
 obtain⟨s,xs⟩:=t;obtain⟨⟨a1,a2,⟨a3,a4⟩,a5,a6,⟨a7,a8⟩⟩,⟨a9,a10⟩,a11,a12⟩:=v;unfold cV;obtain⟨e,b,o,l,c,p⟩:=s;obtain⟨e3,b3,o3,l3,c3,p3⟩:=a3;obtain⟨e7,b7,o7,l7,c7,p7⟩:=a7;obtain⟨e9,b9,o9,l9,c9,p9⟩:=a9
 cases e<;>cases e3<;>cases e7<;>cases e9<;>kernel_rfl
instance asK{b:Int}{p:Int}{s:Int}:bV prog 75 w0 L [.int .i64 b, .int .i64 p, .int .i64 s] (.int .i64 (zv b p s)) (True):=⟨fun aC w hw=>by
 have wo:=aeG b p;have Uz:=TT s;refine th func75 rfl ntmps75 rfl ?_;refine aY ?_;refine ag (ou rfl rfl oM oM) (au ?_);refine ag (Jl rfl rfl) (au ?_);refine Gr fun w1 hw=>?_;exact⟨congrArg (fun b=>Ending.returned (Value.int .i64 b)) ((by rw[zv])),ah.mem hw⟩⟩
instance asL{b:Int}{p:Int}{s:Int}:bV prog 25 w0 L [.int .i64 b, .int .i64 p, .int .i64 s] (.int .i64 (xO b p s)) (True):=⟨fun aC w hw=>by
 refine th func25 rfl ntmps25 rfl ?_;refine CX ?_;refine Gr fun w1 hw=>?_;exact⟨congrArg (fun b=>Ending.returned (Value.int .i64 b)) ((by rw[xO])),ah.mem hw⟩⟩
instance asM{c:Cp}[hc:aX w0 L c]:bV prog 98 w0 L [.agg (aV c)] (.int .i64 (eJ (cv c))) (True):=⟨fun aC w hw=>by
 have hc:=hc.h w hw;have lN:cQ w c:=⟨hc⟩;refine cx func98 rfl ntmps98 rfl ?_;refine Gc ?_;refine cn rfl fun b1=>CX ?_;refine Gr fun w1 hw=>?_;exact⟨congrArg (fun b=>Ending.returned (Value.int .i64 b)) ((by simp only[eJ,cv,iv])),ah.mem hw⟩⟩
instance asN{c:Cp}[hc:aX w0 L c]:bV prog 95 w0 L [.agg (aV c)] (.int .i64 (fh (cv c))) (True):=⟨fun aC w hw=>by
 have hc:=hc.h w hw;have lN:cQ w c:=⟨hc⟩;refine cx func95 rfl ntmps95 rfl ?_;refine Gc ?_;refine cn rfl fun b1=>CX ?_;refine Gr fun w1 hw=>?_;exact⟨congrArg (fun b=>Ending.returned (Value.int .i64 b)) ((by simp only[fh,cv,iv])),ah.mem hw⟩⟩
instance asO{v:cB}{id:Nat}[hv:aX w0 L v]:bY prog 181 w0 L [.agg (cF v), .int .i64 (id:Nat)] (Sv) (fun U=>U.val) (fun U=>own aQ 1 U (eW (cv v.ae) (v.at_.xs.getD id 0))::L) (fun U=>True) (aW (cv v.ae)=true/\id<v.at_.xs.length/\ ∀y∈v.at_.xs,0<=y/\y<=65535/\(y≠0->lz (cv v.ae) (y -1)=true)):=⟨fun aC w hw=>Gk (fun U=>[own aQ 1 U (eW (cv v.ae) (v.at_.xs.getD id 0))]) hw (by
 have hv:=hv.h w hw;have DS:cQ w v:=⟨hv⟩;obtain⟨hk,hid,jh⟩:=aC;obtain⟨y,hy⟩:=get_some (xs:=v.at_.xs) (i:=id) hid;have qb:v.at_.xs.getD id 0=y:=qC hy;obtain⟨ox,HE,cf⟩:=jh y (atl hy);refine dD func181 rfl ntmps181 rfl ?_;refine Gc ?_;refine cn rfl fun b2=>aP ?_;refine ag (bf rfl rfl id rfl oM) (ag (bW (j:=0) rfl id hy rfl dDq) (aY ?_));refine Gb ?_ ?_<;>intro h0
 ·
  have hE:(eW (cv v.ae) (v.at_.xs.getD id 0))=[]:=by rw[qb,eW,if_pos oM]
  refine al ?_;refine Gr fun w1 hw=>?_;exact⟨Sv.none,rfl,trivial,by rw[hE];exact Mem.dE aQ 1 (ah.mem hw:Mem w [] _)⟩
 have h1y:1<=y:=by omega
 obtain⟨g1,g2,g3⟩:=nr.1 (cf oM);have dI:=iv v.ae.blocks.xs;have je:=mK.1 (eN.1 hk).1;simp only[cv,dI]at je;have xR:0<=((y -1)/v.ae.pages):=av3 oM oM;have oW:0<=((y -1)%v.ae.pages):=av4 _ oM;have qM:((y -1)%v.ae.pages)<v.ae.pages:=av8 _ oM;have oh:=zk (c:=v.ae) (b:=((y -1)/v.ae.pages));change 2<=((y -1)/v.ae.pages)at g1;change((y -1)/v.ae.pages)<((jv v.ae.blocks.xs).length:Int)at g2;rw[dI]at g2;obtain⟨B,hB⟩:=get_some (xs:=v.ae.blocks.xs) (i:=((y -1)/v.ae.pages).toNat) oM;have tT:Mb B v.ae.blocks:=⟨List.mem_of_getElem? hB⟩;have ft:bv B=ak (cv v.ae) ((y -1)/v.ae.pages):=by rw[←oh];simp[List.getD,hB]
 have gR:=fy.1 ((eN.1 hk).2.2.2.2 (bv B) (atl (nY hB)));have jl:=pJ B.pages.xs;have DU:(B.pages.xs.length:Int)=v.ae.pages:=by have:=gR.1;simp only[bv,cv,jl]at this;exact this
 obtain⟨z,hz⟩:=get_some (xs:=B.pages.xs) (i:=((y -1)%v.ae.pages).toNat) oM;have yg:Mb z B.pages:=⟨List.mem_of_getElem? hz⟩;have fC:bS (cv v.ae) (y -1)=z.xs:=by
  show(ak (cv v.ae) ((y -1)/v.ae.pages)).pages.getD ((y -1)%v.ae.pages).toNat []=z.xs;rw[←ft];simp[bv,List.getD,rl hz]
 have hI:(eW (cv v.ae) (v.at_.xs.getD id 0))=jw (cv v.ae) y:=by rw[qb,eW,if_neg oM]
 refine Gc ?_;refine pA [18,22,23,2022,4018] [[],[],[],[],[],[],[],[],[],[],[],[],[],[],[],[],[],[],[],[18],[18],[18],[],[18,22],[18,22,23]] [0,1,2,3,4,5,6,7,8,9,10,11,12,13,14,15,16,17,18,19,20,21,22,23,24] [aq b2 (cF v) 63] [(22,mG prog 324)] oK (fun _ hw=>ah.mem hw) oK oK (an rfl (aM (o':=0) rfl rfl) (an rfl (aM (o':=2) rfl rfl) (an rfl (bE rfl) (an rfl (bm rfl) (an rfl (aM (o':=0) rfl rfl) (an rfl (aM (o':=0) rfl rfl) (an rfl (bE rfl) (an rfl (ou rfl rfl oM oM) (an rfl (bf rfl rfl (((y -1)/v.ae.pages).toNat) oM oM) (an rfl (aM rfl rfl) (an rfl (bW (j:=0) rfl (((y -1)/v.ae.pages).toNat) hB rfl dDq) (an rfl (bm rfl) ?_))))))))))));refine an rfl (aM (o':=0) rfl rfl) (an rfl (aM (o':=0) rfl rfl) (an rfl (bE rfl) (an rfl (Cl rfl rfl oM oM) (an rfl (bf rfl rfl (((y -1)%v.ae.pages).toNat) oM oM) (an rfl (bW (j:=0) rfl (((y -1)%v.ae.pages).toNat) hz rfl dDq) ?_)))));refine vR rfl rfl trivial (fun e x w hw=>ah.mem hw) (Cert.one (i:=22) rfl rfl rfl mH (Cert.none rfl)) fun D5 U6=>⟨fun _ hw=>ah.mem hw,?_⟩;have e1:D5.body.xs=(cM z.xs).1.body:=congrArg PV.body U6;refine an rfl (bm rfl) (an rfl (aB (v:= .agg (dt D5)) rfl rfl) (an rfl (aB (v:= .int .i64 ((cM z.xs).2)) rfl rfl) (oI (m:=mG prog 324) rfl rfl mH (Cert.none rfl) fun b6=>?_)));change Ln _ _ _ _ _ _ _ _ (cr _ _ (.pointer (some ⟨b6,0,none⟩))) (aq b6 (dt pO) 324::_) _;refine dr rfl (qw rfl rfl ⟨fun _ hw=>ah.mem hw,?_⟩);refine an rfl (hO rfl) (ar ?_);refine Gb ?_ ?_<;>intro h1
 ·
  have hE:(eW (cv v.ae) (v.at_.xs.getD id 0))=[]:=by rw[hI,jw,fC,if_neg h1]
  refine al ?_;refine Gr fun w1 hw=>?_;exact⟨Sv.none,rfl,trivial,by rw[hE];exact Mem.dE aQ 1 (ah.mem hw:Mem w [] _)⟩
 have tW:(cM z.xs).2=0:=h1;have hE:(eW (cv v.ae) (v.at_.xs.getD id 0))=D5.body.xs:=by rw[hI,jw,fC,if_pos tW,e1]
 refine aP ?_;refine Gr fun w1 hw=>?_;exact⟨D5.body.sv,rfl,trivial,by rw[hE];exact ah.mem hw⟩)⟩
instance asP{s:Sl (Sl UInt8)}[hs:aX w0 L s]:bY prog 163 w0 L [s.sv.val] (Sv) (fun U=>U.val) (fun U=>own (cw (τ:=UInt8)) 1 U s.xs::L) (fun U=>True) (s.xs.length<=1000000):=⟨fun aC w hw=>Gk (fun U=>[own (cw (τ:=UInt8)) 1 U s.xs]) hw (by
 have hs:=hs.h w hw;have zw:cQ w s:=⟨hs⟩;refine cx func163 rfl ntmps163 rfl ?_;refine ar ?_;refine ag (vK underlying178 rfl) (Gc ?_);refine Gb ?_ ?_<;>intro h0
 ·have e0:s.xs=[]:=aun.1 (by have:=hs.1.ok.nil h0;have:=hs.1.len;omega);refine al ?_;refine Gr fun w1 hw=>?_;exact⟨Sv.none,rfl,trivial,by rw[e0];exact(ah.mem hw:Mem w [] _).dE (cw (τ:=UInt8)) 1⟩
 refine Gc ?_;refine w9 (cw (τ:=UInt8)) fun b5=>Gs ?_;refine mB (s:=⟨false,b5,0,0,0,none⟩) (enc:=(cw (τ:=UInt8))) (ys:=s.xs) rfl rfl dDq (fun w hw=>iQ (s:=s.sv) underlying178 dDq ((inferInstance:dG _ _ (cw (τ:=UInt8)) 1 s.sv s.xs).h w hw)) (by simp only[alM];omega) (by simp only[alM];omega) fun s7 zx xU=>?_;refine au ?_;refine Gr fun w1 hw=>?_;exact⟨s7,rfl,trivial,by rw[auS]at hw;exact ah.mem hw⟩)⟩
instance asQ{c:Cp}[hc:aX w0 L c]:bY prog 96 w0 L [.agg (aV c)] (Cp) (fun U=> .agg (aV U)) (fun U=>fz U::L) (fun U=>cv U=cv c) (gk c):=⟨fun aC w hw=>Gk (fun U=>[fz U]) hw (by
 have hc:=hc.h w hw;have lN:cQ w c:=⟨hc⟩;obtain⟨mq,jM,qL⟩:=aC;refine cx func96 rfl ntmps96 rfl ?_;refine Gc ?_;refine cn rfl fun b1=>bn fun b2=>al ?_;refine bb rfl oM fun x9 DR=>Gs ?_;refine dO (cs':=aV (⟨c.pages,c.size,⟨x9,c.blocks.xs⟩,c.ops,c.off,c.aA⟩:Cp)) rfl rfl (by show 2<6;decide) (by first|rfl|exact Sv.one _) rfl (aY ?_);refine cg (X:=Nat×List Bk) (fun U=>[(14, .int .i64 (U.1:Nat)),(1, .pointer (some ⟨b1,0,none⟩)),(2, .pointer (some ⟨b2,0,none⟩)),(12,x9.val),(13, .int .i64 (c.blocks.xs.length:Nat))]) (fun U=>[own cq 4 x9 U.2,ai.all ((U.2.take U.1).map fun b:Bk=>fz b.pages),aq b2 (aV ib) 59,aq b1 (aV (⟨c.pages,c.size,⟨x9,U.2⟩,c.ops,c.off,c.aA⟩:Cp)) 59]) (fun U=>U.1<=c.blocks.xs.length/\U.2.length=c.blocks.xs.length/\jv U.2=jv c.blocks.xs/\ ∀j,U.1<=j->U.2[j]? =c.blocks.xs[j]?) (fun U=>c.blocks.xs.length -U.1) (0,c.blocks.xs) ⟨Nat.zero_le _,rfl,rfl,fun _ _=>rfl⟩ sb (fun w hw=>by
  simp only[auw,au4];exact ah.mem (Mem.zg hw)) ?_
 rintro⟨i,zs⟩ ⟨bg,aK,bx,di⟩;dsimp only;simp only at bg aK bx di;refine al ?_;refine Gb ?_ ?_<;>intro h0
 ·
  obtain⟨z,hz⟩:=get_some (xs:=zs) (i:=i) oM;have yg:Mb z c.blocks:=⟨List.mem_of_getElem? (by rw[←di i (at5 _)];exact hz)⟩;have eQ:=qL z yg.h;obtain⟨agV,asR⟩:=eQ;rw[pJ]at agV;refine au ?_;refine ag (bf rfl rfl i rfl oM) (ag (gV rfl i hz rfl) (bn fun b4=>aP ?_));refine bb rfl oM fun kj MQ=>aY ?_;refine cg (X:=Nat×List (Sl UInt8)) (fun U=>[(24, .int .i64 (U.1:Nat)),(5,kj.val),(1, .pointer (some ⟨b1,0,none⟩)),(2, .pointer (some ⟨b2,0,none⟩)),(3, .int .i64 (i:Nat)),(12,x9.val),(13, .int .i64 (c.blocks.xs.length:Nat)),(14, .int .i64 (i:Nat)),(23, .int .i64 (z.pages.xs.length:Nat))]) (fun U=>[own (cw (τ:=UInt8)) 1 kj U.2,ai.all ((U.2.take U.1).map fun b:Sl UInt8=>fz b),aq b4 (cq z) 180,own cq 4 x9 zs,ai.all ((zs.take i).map fun b:Bk=>fz b.pages),aq b2 (aV ib) 59,aq b1 (aV (⟨c.pages,c.size,⟨x9,zs⟩,c.ops,c.off,c.aA⟩:Cp)) 59]) (fun U=>U.1<=z.pages.xs.length/\U.2.length=z.pages.xs.length/\aR U.2=aR z.pages.xs/\ ∀k,U.1<=k->U.2[k]? =z.pages.xs[k]?) (fun U=>z.pages.xs.length -U.1) (0,z.pages.xs) ⟨Nat.zero_le _,rfl,rfl,fun _ _=>rfl⟩ sb (fun w hw=>by
   simp only[auw,au4];exact ah.mem (Mem.zg hw)) ?_
  rintro⟨j,qs⟩ ⟨fP,dB,gJ,kh⟩;dsimp only;simp only at fP dB gJ kh;refine al ?_;refine Gb ?_ ?_<;>intro h1
  ·
   obtain⟨y,hy⟩:=get_some (xs:=qs) (i:=j) oM;have Nh:z.pages.xs[j]? =some y:=by rw[←kh j (at5 _)];exact hy
   have Mx:Mb y z.pages:=⟨List.mem_of_getElem? Nh⟩;have Br:=Db (rl Nh);have jl:=Dc (aR z.pages.xs) (j+1);have hyl:y.xs.length<=140737488355328:=by rw[Br]at jl;omega
   refine al ?_;refine gF ?_;refine GC (s:=kj) (enc:=cw (τ:=UInt8)) (c:=1) (xs:=qs) inferInstance oM fun asS asT agW asU=>?_;refine Gi ?_;refine ar ?_;refine ag (bf rfl rfl j rfl oM) (ag (bW (j:=0) rfl j hy rfl dDq) (bb rfl hyl fun kY ym=>?_));obtain⟨zN,Nc⟩:=get_some (xs:=qs) (i:=j) oM;refine ag (pq (s:=kj) (i:=j) rfl rfl rfl agW oM) (Fy (s:=kj) (xs:=qs) (k:=j) (a:=y) (⟨kY,y.xs⟩:Sl UInt8) oK rfl rfl rfl hy (al ?_));refine Gi ?_;exact bo (x:=(j,qs)) (j+1,qs.set j (⟨kY,y.xs⟩:Sl UInt8)) ⟨oF,by rw[auA];exact dB,by rw[aR,awe,←aR,gJ];exact xw (z:=y.xs) (rl Nh),fun k hk=>by rw[auF oF];exact kh k oF⟩ (by simp only;omega) sb (fun w hw=>by
    have h1:=KV (a:=(⟨kY,y.xs⟩:Sl UInt8)) (ah.mem hw:Mem _ (own aQ 1 kY y.xs::[own (cw (τ:=UInt8)) 1 kj (qs.set j (⟨kY,y.xs⟩:Sl UInt8)),ai.all ((qs.take j).map fun b:Sl UInt8=>fz b),aq b4 (cq z) 180,own cq 4 x9 zs,ai.all ((zs.take i).map fun b:Bk=>fz b.pages),aq b2 (aV ib) 59,aq b1 (aV (⟨c.pages,c.size,⟨x9,zs⟩,c.ops,c.off,c.aA⟩:Cp)) 59]) _);have h3:=Mem.AP (ah.mem h1:Mem _ (fz (⟨kY,y.xs⟩:Sl UInt8)::ai.all ((qs.take j).map fun b:Sl UInt8=>fz b)::[own (cw (τ:=UInt8)) 1 kj (qs.set j (⟨kY,y.xs⟩:Sl UInt8)),aq b4 (cq z) 180,own cq 4 x9 zs,ai.all ((zs.take i).map fun b:Bk=>fz b.pages),aq b2 (aV ib) 59,aq b1 (aV (⟨c.pages,c.size,⟨x9,zs⟩,c.ops,c.off,c.aA⟩:Cp)) 59]) _);rw[K4 (z':=(⟨kY,y.xs⟩:Sl UInt8)) hy]at h3;exact ah.mem h3)
  obtain rfl:j=qs.length:=by omega
  rw[aug (at5 _)]at*;refine Ku ?_;refine GC (s:=x9) (enc:=cq) (c:=4) (xs:=zs) inferInstance oM fun H2 hs9 ho9 hl9=>?_;refine Gi ?_;refine ar ?_;obtain⟨e40,agX⟩:=get_some (xs:=zs) (i:=i) oM;refine ag (pq (s:=x9) (i:=i) rfl rfl rfl ho9 oM) (ag (aM rfl rfl) (mC (n:=1) (k:=i) (j:=0) (a:=z) (a':=({z with pages:=⟨kj,qs⟩}:Bk)) (xs:=zs) (enc:=cq) (c:=4) (v:=kj.val) oK rfl rfl rfl hz (by rw[Sv.jW];simp[Sv.one]) (by rw[Sv.jW];rfl) dDq (by rw[Sv.jW];rfl) (al ?_)))
  refine Gi ?_;exact bo (x:=(i,zs)) (i+1,zs.set i ({z with pages:=⟨kj,qs⟩}:Bk)) ⟨oF,by rw[auA];exact aK,by rw[zj,←bx,show bv ({z with pages:=⟨kj,qs⟩}:Bk)=bv z from by rw[bv,bv,gJ],←zj,xw hz],fun j hj=>by rw[auF oF];exact di j oF⟩ (by simp only;omega) sb (fun w hw=>by
   have h1:=K3 (ah.mem hw:Mem _ (own (cw (τ:=UInt8)) 1 kj qs::ai.all (qs.map fun b:Sl UInt8=>fz b)::[own cq 4 x9 (zs.set i ({z with pages:=⟨kj,qs⟩}:Bk)),ai.all ((zs.take i).map fun b:Bk=>fz b.pages),aq b2 (aV ib) 59,aq b1 (aV (⟨c.pages,c.size,⟨x9,zs⟩,c.ops,c.off,c.aA⟩:Cp)) 59]) _)
   have h3:=Mem.AP (ah.mem h1:Mem _ (fz (⟨kj,qs⟩:Sl (Sl UInt8))::ai.all ((zs.take i).map fun b:Bk=>fz b.pages)::[own cq 4 x9 (zs.set i ({z with pages:=⟨kj,qs⟩}:Bk)),aq b2 (aV ib) 59,aq b1 (aV (⟨c.pages,c.size,⟨x9,zs⟩,c.ops,c.off,c.aA⟩:Cp)) 59]) _)
   rw[R5 (z':=({z with pages:=⟨kj,qs⟩}:Bk)) hz]at h3
   exact(ah.mem h3:Mem _ [own cq 4 x9 (zs.set i ({z with pages:=⟨kj,qs⟩}:Bk)),ai.all (((zs.set i ({z with pages:=⟨kj,qs⟩}:Bk)).take (i+1)).map fun b:Bk=>fz b.pages),aq b2 (aV ib) 59,aq b1 (aV (⟨c.pages,c.size,⟨x9,zs⟩,c.ops,c.off,c.aA⟩:Cp)) 59] _))
 obtain rfl:i=zs.length:=by omega
 rw[aug (at5 _)]at*;refine au ?_;refine ag (Ry.to (v':=c.aA.sv.val) (bE rfl) rfl) (bb rfl oM fun tX Vl=>Gs ?_);refine dO (cs':=aV (⟨c.pages,c.size,⟨x9,zs⟩,c.ops,c.off,⟨tX,c.aA.xs⟩⟩:Cp)) rfl rfl (by show 5<6;decide) (by first|rfl|exact Sv.one _) rfl (ar ?_);refine Gr fun w1 hw=>?_;exact⟨(⟨c.pages,c.size,⟨x9,zs⟩,c.ops,c.off,⟨tX,c.aA.xs⟩⟩:Cp),rfl,by simp only[cv,bx],GN (d:=(⟨c.pages,c.size,⟨x9,zs⟩,c.ops,c.off,⟨tX,c.aA.xs⟩⟩:Cp)) ((KU (a:=(⟨tX,c.aA.xs⟩:Sl Ft)) ((RY (ah.mem hw:Mem w (own cq 4 x9 zs::ai.all (zs.map fun b:Bk=>fz b.pages)::[own cH 4 tX c.aA.xs]) _)).perm (List.Perm.swap _ _ _))).perm (List.Perm.swap _ _ _))⟩)⟩
instance asV{c:Cp}[hc:aX w0 L c]:bY prog 108 w0 L [.agg (aV c)] (bL×Sl (Sl UInt8)) (fun U=> .tuple #[.agg (cV U.1),U.2.sv.val, .int .i64 ((cy (cv c)).2)]) (fun U=>fz U.1::fz U.2::L) (fun U=>aI U.1=(cy (cv c)).1/\lx U.2=lK (cv c)) (True):=⟨fun aC w hw=>Gk (fun U:bL×Sl (Sl UInt8)=>[fz U.1,fz U.2]) hw (by
 have hc:=hc.h w hw;have lN:cQ w c:=⟨hc⟩;refine cx func108 rfl ntmps108 rfl ?_;refine Gc ?_;refine cn rfl fun b1=>bn fun b2=>cX ?_;refine Gb ?_ ?_<;>intro h0
 ·have hE:=TN h0;refine Gc ?_;refine ag (cR (v:= .agg (cV nz)) rfl (fun w=>kRq)) (ar ?_);refine Gr fun w1 hw=>?_;exact⟨(nz,⟨Sv.none,[]⟩),by rw[hE.1];rfl,⟨by rw[hE.1];rfl,by rw[hE.2];rfl⟩,Ht (Bc (ah.mem hw:Mem w [] _))⟩
 refine au ?_;refine bb rfl trivial fun aE lL=>?_;have agY:=Sw (cv c);rw[ad6]at lL;have H3:aE.at_.xs=(bG (cv c)).1.at_:=congrArg VV.at_ lL;rw[←H3]at agY;have asW: ∀(L:List ai) [Hd w L aE.at_.sv ck 1 aE.at_.xs],aX w L aE.at_:=fun L q=>⟨fun w h=>⟨q.h w h,fun _ _=>trivial⟩⟩;have asX: ∀(L:List ai) [aX w L aE.ae] [aX w L aE.at_],aX w L aE:=fun L p q=>⟨fun w h=>⟨p.h w h,q.h w h⟩⟩;refine Gs ?_;refine ag (aB (v:= .agg (cF aE)) rfl rfl) (ag (aB (v:= .int .i64 ((bG (cv c)).2)) rfl rfl) (bn fun b5=>aY ?_));refine Gb ?_ ?_<;>intro h1
 ·have hE:=TO h0 h1;refine Gc ?_;refine ag (cR (v:= .agg (cV nz)) rfl (fun w=>kRq)) (aP ?_);refine Gr fun w1 hw=>?_;exact⟨(nz,⟨Sv.none,[]⟩),by rw[hE.1];rfl,⟨by rw[hE.1];rfl,by rw[hE.2];rfl⟩,Ht (Bc (ah.mem hw:Mem w [] _))⟩
 have tW:(bG (cv c)).2=0:=h1;have Ni:mQ (vv aE)=true:=by rw[lL];exact TU tW
 have pn:cv aE.ae=(vv aE).ae:=rfl;have hbr:aW (cv aE.ae)=true:=(Dj Ni).1;have hby: ∀y∈aE.at_.xs,0<=y/\y<=65535/\(y≠0->lz (cv aE.ae) (y -1)=true):=fun y hy=>by
  obtain⟨g1,g2⟩:=(Dj Ni).2.2 y hy;obtain⟨j,hj⟩:=aul hy;exact⟨g1,g2,fun g=>(Sy Ni hj g).2.2⟩
 refine Gc ?_;refine jI oK oK (ar ?_);refine uh (bK rfl trivial) (au ?_);refine Gb ?_ ?_<;>intro h2
 ·
  have Ed:(((bG (cv c)).1.at_.length:Nat):Int)≠eJ (cv c):=by rw[←H3];exact h2
  have hE:=TP h0 tW Ed;refine Gc ?_;refine ag (cR (v:= .agg (cV nz)) rfl (fun w=>kRq)) (ar ?_);refine Gr fun w1 hw=>?_;exact⟨(nz,⟨Sv.none,[]⟩),by rw[hE.1];rfl,⟨by rw[hE.1];rfl,by rw[hE.2];rfl⟩,Ht (Bc (ah.mem hw:Mem w [] _))⟩
 have Ed:(((bG (cv c)).1.at_.length:Nat):Int)=eJ (cv c):=by rw[←H3];exact h2
 have asY:aE.at_.xs.length<=64:=by have:=L8 (cv c);rw[←H3]at Ed;omega
 refine ar ?_;refine vI (enc:=cw (τ:=UInt8)) (n:=aE.at_.xs.length) (cap:=aE.at_.xs.length) (⟨Sv.none,[]⟩:Sl UInt8) rfl rfl rfl rfl rfl oM oM oM fun jS=>aY ?_;refine cg (X:=Nat×List (Sl UInt8)) (fun U=>[(36, .int .i64 (U.1:Nat)),(7,(⟨false,jS,0,aE.at_.xs.length,aE.at_.xs.length,none⟩:Sv).val),(2, .pointer (some ⟨b2,0,none⟩)),(5, .pointer (some ⟨b5,0,none⟩)),(35, .int .i64 ((List.replicate aE.at_.xs.length (⟨Sv.none,[]⟩:Sl UInt8)).length:Nat))]) (fun U=>[own (cw (τ:=UInt8)) 1 ⟨false,jS,0,aE.at_.xs.length,aE.at_.xs.length,none⟩ U.2,ai.all ((U.2.take U.1).map fun b:Sl UInt8=>fz b),aq b5 (cF aE) 63,fz aE.ae,own ck 1 aE.at_.sv aE.at_.xs,aq b2 (cV nz) 65,aq b1 (aV c) 59]) (fun U=>U.1<=aE.at_.xs.length/\U.2.length=aE.at_.xs.length/\aR (U.2.take U.1)=(aE.at_.xs.take U.1).map (eW (cv aE.ae))) (fun U=>aE.at_.xs.length -U.1) (0,List.replicate aE.at_.xs.length (⟨Sv.none,[]⟩:Sl UInt8)) ⟨Nat.zero_le _,by simp,by simp[aR]⟩ sb (fun w hw=>by
  simp only[auw,au4];exact ah.mem (Mem.zg hw)) ?_
 rintro⟨i,qs⟩ ⟨bg,aK,bx⟩;dsimp only;simp only at bg aK bx;refine al ?_;refine Gb ?_ ?_<;>intro h3
 ·
  rw[auQ]at h3;obtain⟨q,hq⟩:=get_some (xs:=qs) (i:=i) oM;obtain⟨y,hy⟩:=get_some (xs:=aE.at_.xs) (i:=i) oM;have qb:aE.at_.xs.getD i 0=y:=qC hy;refine al ?_;refine gF ?_;have agZ:=GY (b:=jS) (n:=aE.at_.xs.length) oM;refine Gi ?_;refine ar ?_;refine bb rfl ⟨hbr,oM,hby⟩ fun kH sH=>?_;obtain⟨e44,asZ⟩:=get_some (xs:=qs) (i:=i) oM;refine ag (pq (s:=⟨false,jS,0,aE.at_.xs.length,aE.at_.xs.length,none⟩) (i:=i) rfl rfl rfl agZ (by simp only;omega)) (Fy (s:=⟨false,jS,0,aE.at_.xs.length,aE.at_.xs.length,none⟩) (xs:=qs) (k:=i) (a:=q) (⟨kH,eW (cv aE.ae) (aE.at_.xs.getD i 0)⟩:Sl UInt8) oK rfl rfl oM hq (al ?_));refine Gi ?_;exact bo (x:=(i,qs)) (i+1,qs.set i (⟨kH,eW (cv aE.ae) (aE.at_.xs.getD i 0)⟩:Sl UInt8)) ⟨oF,by rw[auA];exact aK,by rw[aR,GX hq,←aR,bx,at6,hy,auv,qb];rfl⟩ (by simp only;omega) sb (fun w hw=>by
   have h1:=KV (a:=(⟨kH,eW (cv aE.ae) (aE.at_.xs.getD i 0)⟩:Sl UInt8)) (ah.mem hw:Mem _ (own aQ 1 kH (eW (cv aE.ae) (aE.at_.xs.getD i 0))::[own (cw (τ:=UInt8)) 1 ⟨false,jS,0,aE.at_.xs.length,aE.at_.xs.length,none⟩ (qs.set i (⟨kH,eW (cv aE.ae) (aE.at_.xs.getD i 0)⟩:Sl UInt8)),ai.all ((qs.take i).map fun b:Sl UInt8=>fz b),aq b5 (cF aE) 63,fz aE.ae,own ck 1 aE.at_.sv aE.at_.xs,aq b2 (cV nz) 65,aq b1 (aV c) 59]) _);have h3:=Mem.AP (ah.mem h1:Mem _ (fz (⟨kH,eW (cv aE.ae) (aE.at_.xs.getD i 0)⟩:Sl UInt8)::ai.all ((qs.take i).map fun b:Sl UInt8=>fz b)::[own (cw (τ:=UInt8)) 1 ⟨false,jS,0,aE.at_.xs.length,aE.at_.xs.length,none⟩ (qs.set i (⟨kH,eW (cv aE.ae) (aE.at_.xs.getD i 0)⟩:Sl UInt8)),aq b5 (cF aE) 63,fz aE.ae,own ck 1 aE.at_.sv aE.at_.xs,aq b2 (cV nz) 65,aq b1 (aV c) 59]) _);rw[K4 (z':=(⟨kH,eW (cv aE.ae) (aE.at_.xs.getD i 0)⟩:Sl UInt8)) hq]at h3;exact ah.mem h3)
 rw[auQ]at h3;obtain rfl:i=qs.length:=by omega
 rw[aug (at5 _)]at*;rw[aug oM]at bx;have wm:lx (⟨⟨false,jS,0,aE.at_.xs.length,aE.at_.xs.length,none⟩,qs⟩:Sl (Sl UInt8))=cG (bG (cv c)).1:=by rw[←lL];exact bx
 have dI: ∀x∈qs,x.xs.length<=100000:=fun x hx=>by
  have hm:x.xs∈aR qs:=auq (f:=fun x:Sl UInt8=>x.xs) hx;rw[bx]at hm;obtain⟨y,_,hye⟩:=ava.1 hm;rw[←hye];exact awu (aeJ _ _) dDq
 refine l6 ?_;refine ur [fz (⟨⟨false,jS,0,aE.at_.xs.length,aE.at_.xs.length,none⟩,qs⟩:Sl (Sl UInt8)),aq b5 (cF aE) 63,fz aE.ae,own ck 1 aE.at_.sv aE.at_.xs,aq b2 (cV nz) 65,aq b1 (aV c) 59] (fun w hw=>ah.mem (K3 (ah.mem hw:Mem _ (own (cw (τ:=UInt8)) 1 ⟨false,jS,0,aE.at_.xs.length,aE.at_.xs.length,none⟩ qs::ai.all (qs.map fun b:Sl UInt8=>fz b)::[aq b5 (cF aE) 63,fz aE.ae,own ck 1 aE.at_.sv aE.at_.xs,aq b2 (cV nz) 65,aq b1 (aV c) 59]) _))) (Gi ?_);refine Gs ?_;refine bb (hc:=agR (a:=(⟨⟨false,jS,0,aE.at_.xs.length,aE.at_.xs.length,none⟩,qs⟩:Sl (Sl UInt8)))) rfl ⟨by show qs.length<=1000;omega,dI⟩ fun yq U7=>Gs ?_;refine ag (aB (v:=yq.val) rfl rfl) (ag (aB (v:= .int .i64 (lJ (lx (⟨⟨false,jS,0,aE.at_.xs.length,aE.at_.xs.length,none⟩,qs⟩:Sl (Sl UInt8))))) rfl rfl) (aY ?_));refine Gb ?_ ?_<;>intro h4
 ·rw[wm]at h4;have hE:=TQ h0 tW Ed h4;refine Gc ?_;refine ag (cR (v:= .agg (cV nz)) rfl (fun w=>kRq)) (ar ?_);refine Gr fun w1 hw=>?_;exact⟨(nz,⟨Sv.none,[]⟩),by rw[hE.1];rfl,⟨by rw[hE.1];rfl,by rw[hE.2];rfl⟩,Ht (Bc (ah.mem hw:Mem w [] _))⟩
 have H4:=h4;rw[wm]at H4;have hE:=Dy h0 tW Ed H4;refine al ?_;refine ag (cR (v:= .agg (cV (⟨aE,⟨yq,kf (lx (⟨⟨false,jS,0,aE.at_.xs.length,aE.at_.xs.length,none⟩,qs⟩:Sl (Sl UInt8)))⟩⟩:bL))) rfl (Ng aE ⟨yq,kf (lx (⟨⟨false,jS,0,aE.at_.xs.length,aE.at_.xs.length,none⟩,qs⟩:Sl (Sl UInt8)))⟩)) (aP ?_);refine Gr fun w1 hw=>?_;exact⟨((⟨aE,⟨yq,kf (lx (⟨⟨false,jS,0,aE.at_.xs.length,aE.at_.xs.length,none⟩,qs⟩:Sl (Sl UInt8)))⟩⟩:bL),(⟨⟨false,jS,0,aE.at_.xs.length,aE.at_.xs.length,none⟩,qs⟩:Sl (Sl UInt8))),by rw[hE.1],⟨by rw[hE.1];simp only[aI,wm,lL],by rw[hE.2];exact wm⟩,TS (f:=(⟨aE,⟨yq,kf (lx (⟨⟨false,jS,0,aE.at_.xs.length,aE.at_.xs.length,none⟩,qs⟩:Sl (Sl UInt8)))⟩⟩:bL)) (ah.mem hw:Mem w [fz aE.ae,own ck 1 aE.at_.sv aE.at_.xs,own ay 19 yq (kf (lx (⟨⟨false,jS,0,aE.at_.xs.length,aE.at_.xs.length,none⟩,qs⟩:Sl (Sl UInt8)))),fz (⟨⟨false,jS,0,aE.at_.xs.length,aE.at_.xs.length,none⟩,qs⟩:Sl (Sl UInt8))] _)⟩)⟩
instance as0{x:Sv}{xs:List Rt}{y:Sv}{ys:List Rt}[hx:dG w0 L ay 19 x xs][hy:dG w0 L ay 19 y ys]:bV prog 168 w0 L [x.val,y.val] (.bool (decide (xs=ys))) (True):=⟨fun aC w hw=>by
 have hx:=hx.h w hw;have hy:=hy.h w hw;have yi:Gv w x ay 19 xs:=⟨hx⟩;have MD:Gv w y ay 19 ys:=⟨hy⟩;have hbx:=hx.bd;refine dD func168 rfl ntmps168 rfl ?_;refine iS ?_;refine Gb ?_ ?_<;>intro h0
 ·have hz:decide (xs=ys)=false:=decide_eq_false fun e=>h0 (by rw[e]);refine al ?_;refine Gr fun w1 hw=>?_;exact Ge (hz.symm) hw
 have mL:xs.length=ys.length:=by omega
 refine aP ?_;refine cg (X:=Nat) (fun U=>[(13, .int .i64 (U:Nat)),(0,x.val),(1,y.val),(12, .int .i64 (xs.length:Nat))]) (fun U=>[]) (fun U=>U<=xs.length/\ ∀j,j<U->xs[j]? =ys[j]?) (fun U=>xs.length -U) 0 ⟨Nat.zero_le _,fun j hj=>by first|omega|(simp only[];omega)⟩ sb (fun w hw=>ah.mem hw) ?_;rintro i ⟨bg,aK⟩;refine al ?_;refine Gb ?_ ?_<;>intro h1
 ·
  obtain⟨p,lp⟩:=get_some (xs:=xs) (i:=i) oM;obtain⟨q,wz⟩:=get_some (xs:=ys) (i:=i) oM;refine ar ?_;refine jI oK oK (au ?_);refine bX (bf rfl rfl i rfl oM) (bX (gV rfl i lp rfl) (au ?_));refine bX (bf rfl rfl i rfl oM) (bX (gV rfl i wz rfl) (bX (E9 rfl rfl) (Gc ?_)));refine Gb ?_ ?_<;>intro h2
  ·have hz:decide (xs=ys)=false:=decide_eq_false fun e=>h2 (by rw[e]at lp;rw[lp]at wz;cases wz;rfl);refine al ?_;refine Gr fun w1 hw=>?_;exact Ge (hz.symm) hw
  refine al ?_;refine Gi ?_;exact bo (x:=(i)) (i+1) ⟨oF,fun j hj=>if e:j=i then(by subst e;rw[lp,wz,h2])else aK j oF⟩ oF sb (fun w hw=>ah.mem hw)
 obtain rfl:i=xs.length:=by omega
 have hz:decide (xs=ys)=true:=decide_eq_true (au6 fun j=>by
  rcases aud j xs.length with hj|hj
  ·exact aK j hj
  rw[aub hj,aub oM])
 refine al ?_;refine Gr fun w1 hw=>?_;exact⟨congrArg (fun b=>Ending.returned (Value.bool b)) (hz.symm),ah.mem hw⟩⟩
instance as1{f:bL}[hf:aX w0 L f]:bY prog 99 w0 L [.agg (cV f)] (Sl (Sl UInt8)) (fun U=> .tuple #[U.sv.val, .bool (jP (aI f))]) (fun U=>fz U::L) (fun U=>jP (aI f)=true->lx U=lK {(aI f).aj.ae with off:=false}) (True):=⟨fun aC w hw=>Gk (fun U=>[fz U]) hw (by
 have hf:=hf.h w hw;have H5:cQ w f:=⟨hf⟩;refine cx func99 rfl ntmps99 rfl ?_;refine Gc ?_;refine cn rfl fun b1=>aP ?_;refine ag (fM rfl) (bn fun b4=>al ?_);refine dO (cs':=aV (⟨f.aj.ae.pages,f.aj.ae.size,f.aj.ae.blocks,f.aj.ae.ops,false,f.aj.ae.aA⟩:Cp)) rfl rfl (by show 4<6;decide) (by first|rfl|exact Sv.one _) rfl (au ?_);refine bb rfl trivial fun oc Bg=>?_;have H6:aI oc.1=(cy {(aI f).aj.ae with off:=false}).1:=Bg.1
 have g1:oc.1.aj.gen.toNat=(cy {(aI f).aj.ae with off:=false}).1.aj.gen:=congrArg (fun z:FV=>z.aj.gen) H6
 have g2:oc.1.aj.last=(cy {(aI f).aj.ae with off:=false}).1.aj.last:=congrArg (fun z:FV=>z.aj.last) H6
 have g3:oc.1.aj.at_.xs=(cy {(aI f).aj.ae with off:=false}).1.aj.at_:=congrArg (fun z:FV=>z.aj.at_) H6
 have g4:oc.1.table.xs=(cy {(aI f).aj.ae with off:=false}).1.table:=congrArg FV.table H6
 have hS:jP (aI f)=true↔(cy {(aI f).aj.ae with off:=false}).2=0/\f.aj.gen.toNat=oc.1.aj.gen.toNat/\f.aj.last=oc.1.aj.last/\f.aj.at_.xs=oc.1.aj.at_.xs/\f.table.xs=oc.1.table.xs:=by rw[L7,g1,g2,g3,g4];rfl
 refine Gs ?_;refine ag (aB (v:= .agg (cV oc.1)) rfl rfl) (ag (aB (v:=oc.2.sv.val) rfl rfl) (ag (aB (v:= .int .i64 ((cy (cv (⟨f.aj.ae.pages,f.aj.ae.size,f.aj.ae.blocks,f.aj.ae.ops,false,f.aj.ae.aA⟩:Cp))).2)) rfl rfl) (bn fun b5=>fS ?_)));refine bU rfl rfl rfl (fun hg=>(Ry.yl (aM (o':=7) (aG hg rfl) rfl))) (au ?_);refine bU rfl rfl rfl (fun hg=>(Ry.yl (aM (o':=7) (aG hg rfl) rfl))) (aP ?_);refine bU rfl rfl rfl (fun hg=>(Ry.yl (aM (o':=8) (aG hg rfl) rfl))) (au ?_);refine bU rfl rfl rfl (fun hg=>(Ry.yl (aM (o':=8) (aG hg rfl) rfl))) (ar ?_);refine Gb ?_ ?_<;>intro h0
 ·
  have hE:jP (aI f)=false:=by
   cases hk:jP (aI f)with
   |false=>rfl
   |true=>
    obtain⟨q1,q2,q3,q4,q5⟩:=hS.1 hk;rcases h0 with(h|h)|h
    ·exact absurd q1 h
    ·omega
    exact absurd q3 h
  refine ar ?_;refine Gr fun w1 hw=>?_;exact⟨⟨Sv.none,[]⟩,by rw[hE];rfl,(fun h=>by rw[hE]at h;cases h),Bc (ah.mem hw:Mem w [] _)⟩
 refine aaM ?_;refine bU rfl rfl rfl (fun hg=>bK (fG (aG hg rfl) (fG (aG hg rfl) jG)) trivial) (bU rfl rfl rfl (fun hg=>(Ry.yl (nJ (aG hg rfl)))) (au ?_));refine Gb ?_ ?_<;>intro h1
 ·
  have hE:jP (aI f)=false:=by
   cases hk:jP (aI f)with
   |false=>rfl
   |true=>
    obtain⟨q1,q2,q3,q4,q5⟩:=hS.1 hk;rcases h1 with h|h
    ·exact absurd q4 h
    exact absurd q5 h
  refine ar ?_;refine Gr fun w1 hw=>?_;exact⟨⟨Sv.none,[]⟩,by rw[hE];rfl,(fun h=>by rw[hE]at h;cases h),Bc (ah.mem hw:Mem w [] _)⟩
 have hE:jP (aI f)=true:=hS.2 ⟨h0.1.1,by have:=h0.1.2;omega,h0.2,h1.1,h1.2⟩;refine aP ?_;refine Gr fun w1 hw=>?_;exact⟨oc.2,by rw[hE],(fun _=>Bg.2),ah.mem hw⟩)⟩
instance as2{f:bL}[hf:aX w0 L f]:bV prog 51 w0 L [.agg (cV f)] (.bool (jP (aI f))) (True):=⟨fun aC w hw=>by
 have hf:=hf.h w hw;have H5:cQ w f:=⟨hf⟩;refine cx func51 rfl ntmps51 rfl ?_;refine Gc ?_;refine cn rfl fun b1=>al ?_;refine bb rfl trivial fun x7 hp7=>Gs ?_;refine ag (aB (v:=x7.sv.val) rfl rfl) (ag (aB (v:= .bool (jP (aI f))) rfl rfl) (aY ?_));refine Gr fun w1 hw=>?_;exact⟨congrArg (fun b=>Ending.returned (Value.bool b)) (rfl),ah.mem hw⟩⟩
instance as3{c:Cp}[hc:aX w0 L c]:bY prog 43 w0 L [.agg (aV c)] (bL) (fun U=> .tuple #[.agg (cV U), .int .i64 ((cy (cv c)).2)]) (fun U=>fz U::L) (fun U=>aI U=(cy (cv c)).1) (True):=⟨fun aC w hw=>Gk (fun U=>[fz U]) hw (by
 have hc:=hc.h w hw;have lN:cQ w c:=⟨hc⟩;refine cx func43 rfl ntmps43 rfl ?_;refine Gc ?_;refine cn rfl fun b1=>bn fun b2=>al ?_;refine bb rfl trivial fun x9 DR=>Gs ?_;refine ag (aB (v:= .agg (cV x9.1)) rfl rfl) (ag (aB (v:=x9.2.sv.val) rfl rfl) (ag (aB (v:= .int .i64 ((cy (cv c)).2)) rfl rfl) (bn fun b4=>iS ?_)));refine Gr fun w1 hw=>?_;exact⟨x9.1,rfl,DR.1,ah.mem hw⟩)⟩
instance as4{f:bL}{k:Key}{bits:Int}[hf:aX w0 L f]:bV prog 27 w0 L [.agg (cV f), .agg (bR k), .int .i64 bits] (.tuple #[.agg (ay (kV (aI f) k bits)), .int .i64 (ob (aI f) k bits)]) (True):=⟨fun aC w hw=>by
 have hf:=hf.h w hw;have H5:cQ w f:=⟨hf⟩;refine th func27 rfl ntmps27 rfl ?_;refine Gc ?_;refine cn rfl fun b3=>cn rfl fun b4=>bn fun b6=>aY ?_;refine Gb ?_ ?_<;>intro h0
 ·refine Gc ?_;refine ag (gf rfl) (al ?_);refine Gr fun w1 hw=>?_;exact⟨(by rw[kV,ob,if_neg (by rw[h0];simp),if_neg (by rw[h0];simp)]),ah.mem hw⟩
 refine aY ?_;refine ag (aB (v:= .agg (ay (xN f.table.xs k bits))) rfl rfl) (ag (aB (v:= .int .i64 (uW f.table.xs k bits)) rfl rfl) (al ?_));refine Gr fun w1 hw=>?_;exact⟨(by rw[kV,ob,if_pos h0,if_pos h0];rfl),ah.mem hw⟩⟩
theorem ag0(w0 w:World)[tb:iH w0](L:List ai)(k:Nat)(xf:bL)(xb:Sl Ch)(xa:Option Nat)(xt:Sl UInt8)(x:aO)(hw:Mem w0 (aq k (cd (⟨xf,xb,xa,xt⟩:ca)) 174::fz xf::dP 5 xt.sv xt.xs::L) w)(aC:xt.xs.length<=800000000/\(xa=none\/xa=Option.some k)):Calls prog 158 #[.pointer (some ⟨k,0,none⟩), .agg (bA x)] w fun e w'=> ∃U:Sv,e= .returned (.tuple #[])/\(True)/\Mem w0 (aq k (cd (⟨xf,xb,(Option.some k),⟨U,(mZ (⟨aI xf,xb.xs,xt.xs⟩:bh) x).told⟩⟩:ca)) 174::fz xf::dP 5 U (mZ (⟨aI xf,xb.xs,xt.xs⟩:bh) x).told::L) w':=by
 obtain⟨zA,fC⟩:=aC;have mL:=uE (kV (aI xf) x.key x.bits);refine hY (args:=[_,_]) func158 rfl ntmps158 rfl hw ?_;change Cw _ _ _ _ _ [(0, .pointer (some ⟨k,0,none⟩)),(1, .agg (bA x))] (aq k (cd (⟨xf,xb,xa,xt⟩:ca)) 174::fz xf::dP 5 xt.sv xt.xs::L);refine Gc ?_;refine cn rfl fun b3=>Gc ?_;refine pA [12,13,2012] [[],[],[],[],[],[],[],[],[],[],[],[],[],[12],[12,13]] [0,1,2,3,4,5,6,7,8,9,10,11,12,13,14] [aq k (cd (⟨xf,xb,xa,xt⟩:ca)) 174,fz xf,dP 5 xt.sv xt.xs,aq b3 (bA x) 73] [(12,mG prog 34)] oK (fun _ hw=>ah.mem hw) oK oK (an rfl (bm rfl) (an rfl (gE rfl) (an rfl (aM (o':=0) rfl rfl) (an rfl (Ry.to (v':= .agg (cV xf)) (fM rfl) rfl) (an rfl (aM (o':=20) rfl rfl) (an rfl (fM rfl) (an rfl (aM (o':=36) rfl rfl) (an rfl (bE rfl) (ze rfl (bK rfl trivial) (an rfl (bm rfl) (an rfl (aB (v:= .agg (ay (kV (aI xf) x.key x.bits))) rfl rfl) (an rfl (aB (v:= .int .i64 (ob (aI xf) x.key x.bits)) rfl rfl) ?_))))))))))));refine oI (m:=mG prog 34) rfl rfl mH (Cert.none rfl) fun b4=>?_;change Ln _ _ _ _ _ _ _ _ (cr _ _ (.pointer (some ⟨b4,0,none⟩))) (aq b4 (ay bQ) 34::_) _;refine dr rfl (qw rfl rfl ⟨fun _ hw=>ah.mem hw,?_⟩);refine an rfl (hO rfl) (ar ?_);refine Gb ?_ ?_<;>intro h0
 ·
  have hE:(mZ (⟨aI xf,xb.xs,xt.xs⟩:bh) x).told=xt.xs++jR [] (ob (aI xf) x.key x.bits)++[10]:=by rw[mZ,if_pos h0];rfl
  rw[hE];refine al ?_;refine bb rfl ⟨by simp only[alM];omega,fC,HC _ _ _⟩ fun nB DN=>Gc ?_;refine eE (.inl rfl) (kg rfl) (fun w1 hw=>?_);exact⟨nB,rfl,trivial,ah.mem hw⟩
 have hE:(mZ (⟨aI xf,xb.xs,xt.xs⟩:bh) x).told=xt.xs++jR (ir (kV (aI xf) x.key x.bits)) (gM (bu (kV (aI xf) x.key x.bits).p))++[10]:=by rw[mZ,if_neg (fun g=>g h0)];rfl
 rw[hE];refine ar ?_;refine ag (aB (v:= .string ⟨(ir (kV (aI xf) x.key x.bits)).toArray⟩) rfl rfl) (ag (aB (v:= .int .i64 (gM (bu (kV (aI xf) x.key x.bits).p))) rfl rfl) (aY ?_));refine bb rfl ⟨oM,fC,HD _⟩ fun aD xY=>Gi ?_;refine eE (.inr rfl) (kg rfl) (fun w1 hw=>?_);exact⟨aD,rfl,trivial,ah.mem hw⟩
instance as5{w0:World}[tb:iH w0]{L R1 R2 L2:List ai}{i0 i1 i2:Nat}{k:Nat}{xf:bL}{xb:Sl Ch}{xa:Option Nat}{xt:Sl UInt8}{x:aO}[q0:Has L k (cd (⟨xf,xb,xa,xt⟩:ca)) 174 i0][d0:ct L i0 R1][q1:At R1 (fz xf) i1][d1:ct R1 i1 R2][q2:mI R2 xt.sv 5 xt.xs i2][d2:ct R2 i2 L2]:bY prog 158 w0 L [.pointer (some ⟨k,0,none⟩), .agg (bA x)] (Sv) (fun U=> .tuple #[]) (fun U=>aq k (cd (⟨xf,xb,(Option.some k),⟨U,(mZ (⟨aI xf,xb.xs,xt.xs⟩:bh) x).told⟩⟩:ca)) 174::fz xf::dP 5 U (mZ (⟨aI xf,xb.xs,xt.xs⟩:bh) x).told::L2) (fun U=>True) (xt.xs.length<=800000000/\(xa=none\/xa=Option.some k)):=⟨fun hp w hw=>ag0 w0 w L2 k xf xb xa xt x (wq q0.h d0.h q1.h d1.h q2.h d2.h hw) hp⟩
theorem Vm{w0 w:World}{L:List ai}{f:bL}{a:Sl Ft}(h:Mem w0 (fz f::own cH 4 a.sv a.xs::L) w):Mem w0 (fz (⟨⟨⟨f.aj.ae.pages,f.aj.ae.size,f.aj.ae.blocks,f.aj.ae.ops,f.aj.ae.off,a⟩,f.aj.at_,f.aj.gen,f.aj.last⟩,f.table⟩:bL)::L) w:=by
 have h2:=(KU (a:=a) (h.perm (List.Perm.swap _ _ _))).perm (List.Perm.swap _ _ _);have hf:=h2.sat (fz f) (by simp);refine Mem.freeze (es:=[fz f,fz a]) _ ⟨⟨⟨hf.1.1.1,h2.sat (fz a) (by simp)⟩,hf.1.2⟩,hf.2⟩ (fun k hk=>?_) h2;rcases hk with((hk|hk)|hk)|hk
 ·exact⟨fz f,by simp, .inl (.inl (.inl hk))⟩
 ·exact⟨fz a,by simp,hk⟩
 ·exact⟨fz f,by simp, .inl (.inr hk)⟩
 exact⟨fz f,by simp, .inr hk⟩
theorem ag1(w0 w:World)[tb:iH w0](L:List ai)(k:Nat)(xf:bL)(xb:Sl Ch)(xa:Option Nat)(xt:Sl UInt8)(x:aO)(hw:Mem w0 (aq k (cd (⟨xf,xb,xa,xt⟩:ca)) 174::fz xf::L) w)(aC:gk xf.aj.ae/\xf.aj.ae.ops+x.n.toInt<=9223372036854775807/\ -9223372036854775808<=xf.aj.ae.ops+x.n.toInt):Calls prog 159 #[.pointer (some ⟨k,0,none⟩), .agg (bA x)] w fun e w'=> ∃U:bL,e= .returned (.tuple #[])/\(aI U=(p0 (⟨aI xf,xb.xs,xt.xs⟩:bh) x).f)/\Mem w0 (aq k (cd (⟨U,xb,xa,xt⟩:ca)) 174::fz U::L) w':=by
 obtain⟨gQ,ho1,zI⟩:=aC;have Vn:(aI xf).aj.ae.aA.length=xf.aj.ae.aA.xs.length:=rfl;refine hY (args:=[_,_]) func159 rfl ntmps159 rfl hw ?_;change Cw _ _ _ _ _ [(0, .pointer (some ⟨k,0,none⟩)),(1, .agg (bA x))] (aq k (cd (⟨xf,xb,xa,xt⟩:ca)) 174::fz xf::L);refine Gc ?_;refine cn rfl fun b3=>rh ?_;refine ag (Ry.to (v':=xf.aj.ae.aA.sv.val) (bE rfl) rfl) (al ?_);refine Gb ?_ ?_<;>intro h0
 ·
  have hE:(p0 (⟨aI xf,xb.xs,xt.xs⟩:bh) x).f=aI xf:=by rw[p0,if_pos (by show 64<=(aI xf).aj.ae.aA.length;omega)]
  refine Gc ?_;refine eE (.inl rfl) (kg rfl) (fun w1 hw=>?_);exact⟨xf,rfl,hE.symm,ah.mem hw⟩
 have hE:(p0 (⟨aI xf,xb.xs,xt.xs⟩:bh) x).f=⟨{(aI xf).aj with ae:=Bi (aI xf).aj.ae x},(aI xf).table⟩:=by rw[p0,if_neg (by show ¬64<=(aI xf).aj.ae.aA.length;omega)]
 refine Gc ?_;refine jt [14,15] [[],[],[],[],[],[],[],[],[],[],[],[],[],[],[],[14]] [0,1,2,3,4,5,6,7,8,9,10,11,12,13,14,15] [aq k (cd (⟨xf,xb,xa,xt⟩:ca)) 174,fz xf,aq b3 (bA x) 73] (fun _ hw=>ah.mem hw) oK oK (an rfl (bm rfl) (an rfl (gE rfl) (an rfl (aM (o':=3) rfl rfl) (an rfl (Ry.to (v':= .int .i64 xf.aj.ae.ops) (bE rfl) rfl) (an rfl (aM (o':=37) rfl rfl) (an rfl (bE rfl) (an rfl (wT rfl rfl oM) (an rfl (aM (o':=0) rfl rfl) (an rfl (bE rfl) (an rfl (eR rfl rfl rfl) (an rfl (aM (o':=0) rfl rfl) (an rfl (bE rfl) ?_))))))))))));refine an rfl (eR rfl rfl rfl) (an rfl (cR (v:= .agg (cH (⟨xf.aj.ae.ops+x.n.toInt,decide (x.kind=6),decide (x.kind=5),0⟩:Ft))) rfl (fun w=>kRq)) (dr rfl (Qy fun b5=>⟨fun _ hw=>ah.mem hw,?_⟩)));refine dr rfl (qw rfl rfl ⟨fun _ hw=>ah.mem hw,?_⟩);refine Gc ?_;refine pA [5,7,8,11,1004,2007,4005] [[],[],[],[],[],[4],[],[],[4,5,7],[4,5,7,8],[4,5,7,8],[4,5,7,8]] [0,1,2,3,4,6,5,7,8,9,10,11] [aq b5 (cH (⟨xf.aj.ae.ops+x.n.toInt,decide (x.kind=6),decide (x.kind=5),0⟩:Ft)) 97] [(7,oJ cH 4 1 [(⟨xf.aj.ae.ops+x.n.toInt,decide (x.kind=6),decide (x.kind=5),0⟩:Ft)])] oK (fun _ hw=>ah.mem hw) oK oK (an rfl (bm rfl) (an rfl (bm rfl) (an rfl (gE rfl) (an rfl (aM (o':=5) rfl rfl) (gq rfl (Ry.to (v':=xf.aj.ae.aA.sv.val) (bE rfl) rfl) (an rfl (jU rfl) ?_))))));refine vR rfl rfl oM (fun e x w hw=>ah.mem hw) (Cert.one (i:=7) rfl rfl rfl (vS (enc:=cH) (c:=4) (n:=1) (vals:=[.agg (cH (⟨xf.aj.ae.ops+x.n.toInt,decide (x.kind=6),decide (x.kind=5),0⟩:Ft))]) [(⟨xf.aj.ae.ops+x.n.toInt,decide (x.kind=6),decide (x.kind=5),0⟩:Ft)] rfl rfl rfl dDq dDq) (Cert.none rfl)) fun MI afY=>⟨fun _ hw=>ah.mem hw,?_⟩;refine oI (m:=oJ cH 4 1 [(⟨xf.aj.ae.ops+x.n.toInt,decide (x.kind=6),decide (x.kind=5),0⟩:Ft)]) rfl rfl (vS (enc:=cH) (c:=4) (n:=1) (vals:=[.agg (cH (⟨xf.aj.ae.ops+x.n.toInt,decide (x.kind=6),decide (x.kind=5),0⟩:Ft))]) [(⟨xf.aj.ae.ops+x.n.toInt,decide (x.kind=6),decide (x.kind=5),0⟩:Ft)] rfl rfl rfl dDq dDq) (Cert.none rfl) fun H7=>?_;change Ln _ _ _ _ _ _ _ _ (cr _ _ (Sv.val ⟨false,H7,0,1,1,none⟩)) (own cH 4 ⟨false,H7,0,1,1,none⟩ [(⟨xf.aj.ae.ops+x.n.toInt,decide (x.kind=6),decide (x.kind=5),0⟩:Ft)]::_) _;refine dr rfl (F7 (s:=MI) (ys:=[(⟨xf.aj.ae.ops+x.n.toInt,decide (x.kind=6),decide (x.kind=5),0⟩:Ft)]) rfl rfl dDq (fun w hw=>iQ (s:=⟨false,H7,0,1,1,none⟩) underlying57 dDq ((inferInstance:Hd _ _ ⟨false,H7,0,1,1,none⟩ cH 4 [(⟨xf.aj.ae.ops+x.n.toInt,decide (x.kind=6),decide (x.kind=5),0⟩:Ft)]).h w hw)) (by simp only[adr,ad2,alM];omega) (by simp only[adr,ad2,alM];omega) fun Ee Vo as6=>⟨fun _ hw=>ah.mem hw,?_⟩);refine an rfl (gE rfl) (an rfl (aM (o':=5) rfl rfl) ?_);refine dr rfl (tg (cs':=cd (⟨(⟨⟨(⟨xf.aj.ae.pages,xf.aj.ae.size,xf.aj.ae.blocks,xf.aj.ae.ops,xf.aj.ae.off,⟨Ee,xf.aj.ae.aA.xs++[(⟨xf.aj.ae.ops+x.n.toInt,decide (x.kind=6),decide (x.kind=5),0⟩:Ft)]⟩⟩:Cp),xf.aj.at_,xf.aj.gen,xf.aj.last⟩,xf.table⟩:bL),xb,xa,xt⟩:ca)) rfl rfl (by show 5<13;decide) (by first|rfl|exact Sv.one _) rfl ⟨fun _ hw=>ah.mem hw,?_⟩);refine Gi ?_;refine eE (.inr rfl) (kg rfl) (fun w1 hw=>?_);exact⟨(⟨⟨(⟨xf.aj.ae.pages,xf.aj.ae.size,xf.aj.ae.blocks,xf.aj.ae.ops,xf.aj.ae.off,⟨Ee,xf.aj.ae.aA.xs++[(⟨xf.aj.ae.ops+x.n.toInt,decide (x.kind=6),decide (x.kind=5),0⟩:Ft)]⟩⟩:Cp),xf.aj.at_,xf.aj.gen,xf.aj.last⟩,xf.table⟩:bL),rfl,by rw[hE];rfl,(Vm (f:=xf) (a:=⟨Ee,xf.aj.ae.aA.xs++[(⟨xf.aj.ae.ops+x.n.toInt,decide (x.kind=6),decide (x.kind=5),0⟩:Ft)]⟩) (ah.mem hw:Mem w0 (fz xf::own cH 4 Ee (xf.aj.ae.aA.xs++[(⟨xf.aj.ae.ops+x.n.toInt,decide (x.kind=6),decide (x.kind=5),0⟩:Ft)])::aq k (cd (⟨(⟨⟨(⟨xf.aj.ae.pages,xf.aj.ae.size,xf.aj.ae.blocks,xf.aj.ae.ops,xf.aj.ae.off,⟨Ee,xf.aj.ae.aA.xs++[(⟨xf.aj.ae.ops+x.n.toInt,decide (x.kind=6),decide (x.kind=5),0⟩:Ft)]⟩⟩:Cp),xf.aj.at_,xf.aj.gen,xf.aj.last⟩,xf.table⟩:bL),xb,xa,xt⟩:ca)) 174::L) _)).perm (List.Perm.swap _ _ _)⟩
instance as7{w0:World}[tb:iH w0]{L R1 L2:List ai}{i0 i1:Nat}{k:Nat}{xf:bL}{xb:Sl Ch}{xa:Option Nat}{xt:Sl UInt8}{x:aO}[q0:Has L k (cd (⟨xf,xb,xa,xt⟩:ca)) 174 i0][d0:ct L i0 R1][q1:At R1 (fz xf) i1][d1:ct R1 i1 L2]:bY prog 159 w0 L [.pointer (some ⟨k,0,none⟩), .agg (bA x)] (bL) (fun U=> .tuple #[]) (fun U=>aq k (cd (⟨U,xb,xa,xt⟩:ca)) 174::fz U::L2) (fun U=>aI U=(p0 (⟨aI xf,xb.xs,xt.xs⟩:bh) x).f) (gk xf.aj.ae/\xf.aj.ae.ops+x.n.toInt<=9223372036854775807/\ -9223372036854775808<=xf.aj.ae.ops+x.n.toInt):=⟨fun hp w hw=>ag1 w0 w L2 k xf xb xa xt x (pB q0.h d0.h q1.h d1.h hw) hp⟩
theorem ag2(w0 w:World)[tb:iH w0](L:List ai)(k:Nat)(xf:bL)(xb:Sl Ch)(xa:Option Nat)(xt:Sl UInt8)(hw:Mem w0 (aq k (cd (⟨xf,xb,xa,xt⟩:ca)) 174::fz xf::dP 5 xt.sv xt.xs::L) w)(aC:gk xf.aj.ae/\xt.xs.length<=800000000/\(xa=none\/xa=Option.some k)):Calls prog 160 #[.pointer (some ⟨k,0,none⟩)] w fun e w'=> ∃U:bL×Sv,e= .returned (.tuple #[])/\(aI U.1=(jD (⟨aI xf,xb.xs,xt.xs⟩:bh)).f)/\Mem w0 (aq k (cd (⟨U.1,xb,(Option.some k),⟨U.2,(jD (⟨aI xf,xb.xs,xt.xs⟩:bh)).told⟩⟩:ca)) 174::fz U.1::dP 5 U.2 (jD (⟨aI xf,xb.xs,xt.xs⟩:bh)).told::L) w':=by
 obtain⟨gQ,zA,fC⟩:=aC;refine hY (args:=[_]) func160 rfl ntmps160 rfl hw ?_;change Cw _ _ _ _ _ [(0, .pointer (some ⟨k,0,none⟩))] (aq k (cd (⟨xf,xb,xa,xt⟩:ca)) 174::fz xf::dP 5 xt.sv xt.xs::L);refine aY ?_;refine ag (Ry.to (v':= .agg (aV xf.aj.ae)) (fM rfl) rfl) (bb (vs:=[_,Sv.none.val]) rfl gQ fun qI tM=>?_);have ag3:cv qI=iI (aI xf).aj.ae []:=tM;clear tM;have tM:=ag3;refine Gs ?_;refine ag (aB (v:= .agg (aV qI)) rfl rfl) (ag (aB (v:= .int .i64 (kN (cv xf.aj.ae) [])) rfl rfl) (bn fun b2=>aY ?_));refine Gb ?_ ?_<;>intro h0
 ·
  have pd:kN (aI xf).aj.ae []=0:=h0;refine Gc ?_;refine bn fun b4=>au ?_;refine bb rfl trivial fun Nj ag4=>Gs ?_;refine ag (aB (v:= .agg (cV Nj)) rfl rfl) (ag (aB (v:= .int .i64 ((cy (cv qI)).2)) rfl rfl) (aY ?_));refine Gb ?_ ?_<;>intro h1
  ·
   have tW:(cy (iI (aI xf).aj.ae [])).2=0:=by rw[←tM];exact h1
   have hE:jD (⟨aI xf,xb.xs,xt.xs⟩:bh)=jC {(⟨aI xf,xb.xs,xt.xs⟩:bh)with f:=(cy (iI (aI xf).aj.ae [])).1} pZ 0:=by rw[jD,if_neg (fun g=>g pd),if_neg (fun g=>g tW)]
   have hT:(jD (⟨aI xf,xb.xs,xt.xs⟩:bh)).told=xt.xs++jR [111,107] (cy (cv qI)).2++[10]:=by rw[hE,tM,tW];rfl
   rw[hT];refine Gi ?_;refine ar ?_;refine qX (cs':=cd (⟨Nj,xb,xa,xt⟩:ca)) rfl rfl (by show 0+10<=13;decide) rfl (al ?_);refine bb rfl ⟨by simp only[ad2,alM];omega,fC,by first|exact Ml _ _|exact ya _⟩ fun kZ vf=>Gi ?_;refine eE (.inr rfl) (kg rfl) (fun w1 hw=>?_);exact⟨(Nj,kZ),rfl,by rw[hE,ag4,tM];rfl,ah.mem hw⟩
  have tW:(cy (iI (aI xf).aj.ae [])).2≠0:=by rw[←tM];exact h1
  have hE:jD (⟨aI xf,xb.xs,xt.xs⟩:bh)=jC (⟨aI xf,xb.xs,xt.xs⟩:bh) pZ (cy (iI (aI xf).aj.ae [])).2:=by rw[jD,if_neg (fun g=>g pd),if_pos tW]
  have hT:(jD (⟨aI xf,xb.xs,xt.xs⟩:bh)).told=xt.xs++jR [111,107] (cy (cv qI)).2++[10]:=by rw[hE,tM];rfl
  rw[hT];refine al ?_;refine bb rfl ⟨by simp only[ad2,alM];omega,fC,by first|exact Ml _ _|exact ya _⟩ fun kZ vf=>Gi ?_;refine eE (.inr rfl) (kg rfl) (fun w1 hw=>?_);exact⟨(xf,kZ),rfl,by rw[hE];rfl,ah.mem hw⟩
 have pd:kN (aI xf).aj.ae []≠0:=h0;have hE:jD (⟨aI xf,xb.xs,xt.xs⟩:bh)=jC (⟨aI xf,xb.xs,xt.xs⟩:bh) pZ (kN (aI xf).aj.ae []):=by rw[jD,if_pos pd]
 have hT:(jD (⟨aI xf,xb.xs,xt.xs⟩:bh)).told=xt.xs++jR [111,107] (kN (cv xf.aj.ae) [])++[10]:=by rw[hE];rfl
 rw[hT];refine al ?_;refine bb rfl ⟨by simp only[ad2,alM];omega,fC,by first|exact Ml _ _|exact ya _⟩ fun kZ vf=>Gi ?_;refine eE (.inr rfl) (kg rfl) (fun w1 hw=>?_);exact⟨(xf,kZ),rfl,by rw[hE];rfl,ah.mem hw⟩
instance as8{w0:World}[tb:iH w0]{L R1 R2 L2:List ai}{i0 i1 i2:Nat}{k:Nat}{xf:bL}{xb:Sl Ch}{xa:Option Nat}{xt:Sl UInt8}[q0:Has L k (cd (⟨xf,xb,xa,xt⟩:ca)) 174 i0][d0:ct L i0 R1][q1:At R1 (fz xf) i1][d1:ct R1 i1 R2][q2:mI R2 xt.sv 5 xt.xs i2][d2:ct R2 i2 L2]:bY prog 160 w0 L [.pointer (some ⟨k,0,none⟩)] (bL×Sv) (fun U=> .tuple #[]) (fun U=>aq k (cd (⟨U.1,xb,(Option.some k),⟨U.2,(jD (⟨aI xf,xb.xs,xt.xs⟩:bh)).told⟩⟩:ca)) 174::fz U.1::dP 5 U.2 (jD (⟨aI xf,xb.xs,xt.xs⟩:bh)).told::L2) (fun U=>aI U.1=(jD (⟨aI xf,xb.xs,xt.xs⟩:bh)).f) (gk xf.aj.ae/\xt.xs.length<=800000000/\(xa=none\/xa=Option.some k)):=⟨fun hp w hw=>ag2 w0 w L2 k xf xb xa xt (wq q0.h d0.h q1.h d1.h q2.h d2.h hw) hp⟩
end Go.Proofs.YtkggjjnhnjjokaaGreatDoor
namespace Go.Kb
variable {t:List Rt} {k:Key} {bits:Int}
theorem Ord.at{t:List Rt}(h:Ord t){i j:Nat}{a b:Rt}(ha:t[i]? =some a)(hb:t[j]? =some b)(pj:i<j):eG a.p b.p=true:=by
 obtain⟨hi,rfl⟩:=zz.1 ha;obtain⟨hj,rfl⟩:=zz.1 hb;exact(avA.1 h.less) i j hi hj pj
variable {t u:List Rt} {r:Rt} {k:Key} {bits:Int}
theorem as9(he:dF t [⟨r,false⟩]=0):eO t ⟨r,false⟩=0/\bT t [⟨r,false⟩]=jj t ⟨r,false⟩:=by
 have hr:cS t=true:=by
  cases h:cS t with
  |true=>rfl
  |false=>rw[dF,if_neg (by rw[h];simp)]at he;omega
 have h2:=he;rw[dF,if_pos hr,jk]at h2;have hc:eO t ⟨r,false⟩=0:=by
  apply aut;intro hn;rw[if_neg hn]at h2;exact hn h2
 exact⟨hc,by rw[bT,if_pos he,jk,if_pos hc];rfl⟩
theorem H8{c:Ch}(he:eO t c=0):bu c.r.p=true:=by
 apply aut;intro hn;rw[eO,if_neg hn]at he;omega
variable {t u:List Rt} {r:Rt} {q p:cK}
theorem Vp(hp:bu p=true)(hq:bu q=true)(h:eG p q=false)(hn:p≠q):eG q p=true:=by
 rw[nQ hq hp];have h1: ¬eG p q=true:=by rw[h];simp
 rw[nQ hp hq]at h1;have h2: ¬(p.bits=q.bits/\p.key.toNat=q.key.toNat/\p.len=q.len):=fun e=>hn (ZJ.2 e);omega
theorem Vq(hp:bu p=true)(hq:bu q=true)(h:eG p q=true):eG q p=false:=by
 cases hx:eG q p with
 |false=>rfl
 |true=>rw[nQ hq hp]at hx;rw[nQ hp hq]at h;omega
theorem Vr(hp:bu p=true)(h:eG p q=true):p≠q:=fun e=>by subst e;rw[Dv hp]at h;cases h
theorem Vs{a b c:cK}(ha:bu a=true)(hb:bu b=true)(hc:bu c=true)(h1:eG a b=true)(h2:eG b c=true):eG a c=true:=by
 rw[nQ ha hb]at h1;rw[nQ hb hc]at h2;rw[nQ ha hc];omega
def yw(t:List Rt)(q:cK):List Rt:=t.filter fun x=>eG x.p q
def tY(t:List Rt)(q:cK):List Rt:=t.filter fun x=>eG q x.p
theorem filter_all{α:Type}{f:α->Bool}{l:List α}(h: ∀x∈l,f x=true):l.filter f=l:=List.filter_eq_self.2 h
theorem filter_none{α:Type}{f:α->Bool}{l:List α}(h: ∀x∈l,f x=false):l.filter f=[]:=List.filter_eq_nil_iff.2 fun x hx=>by rw[h x hx];simp
theorem Ord.ext: ∀{s t:List Rt},Ord s->Ord t->(∀x,x∈s↔x∈t)->s=t
 |[],[],_,_,_=>rfl
 |[],b::t,_,_,h=>by have:=(h b).2 (auD);cases this
 |a::s,[],_,_,h=>by have:=(h a).1 (auD);cases this
 |a::s,b::t,hs,ht,h=>by
  have ha:=(auV.1 hs.less);have hb:=(auV.1 ht.less);have ma:=hs.may a auD;have mb:=ht.may b auD;have e:a=b:=by
   apply aut;intro hn;rcases auc.1 ((h a).1 auD)with h1|h1
   ·exact hn h1
   rcases auc.1 ((h b).2 auD)with h2|h2
   ·exact hn h2.symm
   have h3:=hb.1 a h1;have h4:=ha.1 b h2;rw[Vq mb ma h3]at h4;cases h4
  subst e;have bN: ∀x,(∀y∈s,eG a.p y.p=true)->x∈s->x≠a:=fun x hy hx e=>by
   subst e;have:=hy x hx;rw[Dv ma]at this;cases this
  rw[Ord.ext (hs.sub (auX _ _)) (ht.sub (auX _ _)) fun x=>⟨fun hx=>?_,fun hx=>?_⟩]
  ·
   rcases auc.1 ((h x).1 (aui _ hx))with h1|h1
   ·exact absurd h1 (bN x ha.1 hx)
   exact h1
  rcases auc.1 ((h x).2 (aui _ hx))with h1|h1
  ·subst h1;have:=hb.1 x hx;rw[Dv ma]at this;cases this
  exact h1
theorem ag5(h:cS t=true)(hq:bu q=true):(∀x∈t.take (dm t q),eG x.p q=true)/\ ∀x∈t.drop (dm t q),eG x.p q=false:=by
 obtain⟨h1,h2,h3⟩:=To (p:=behind t q) (n:=t.length) fun a b=>Tq h hq a b;constructor
 ·intro x hx;obtain⟨i,hi⟩:=avv.1 hx;have fo:=(zz.1 hi).1;rw[at3]at fo;rw[avJ,if_pos (by omega)]at hi;have:=h2 i (by have:dm t q=bs (behind t q) t.length:=rfl;omega);simpa[behind,hi]using this
 intro x hx;obtain⟨i,hi⟩:=avv.1 hx;rw[avd]at hi;have fo:=(zz.1 hi).1;have:=h3 (dm t q+i) (Nat.le_add_right _ _) fo;simpa[behind,hi]using this
theorem Vt(h:cS t=true)(hq:bu q=true):t.take (dm t q)=yw t q/\(mW t q=true->t.drop (dm t q+1)=tY t q)/\(mW t q=false->t.drop (dm t q)=tY t q):=by
 obtain⟨h1,h2⟩:=ag5 h hq;have ho:=Dw h;have e:t=t.take (dm t q)++t.drop (dm t q):=(auO _ _).symm;have hm: ∀x∈t,bu x.p=true:=ho.may;have mt: ∀x∈t.take (dm t q),x∈t:=fun x hx=>avU hx;have md: ∀x∈t.drop (dm t q),x∈t:=fun x hx=>awD hx;have k1:t.take (dm t q)=yw t q:=by
  unfold yw
  conv=>rhs;rw[e]
  rw[avj,filter_all h1,filter_none h2,auT]
 have k2:tY t q=tY (t.drop (dm t q)) q:=by
  unfold tY
  conv=>lhs;rw[e]
  rw[avj,filter_none (l:=t.take (dm t q)) fun x hx=>Vq (hm x (mt x hx)) hq (h1 x hx),auS]
 refine⟨k1,fun hb=>?_,fun hb=>?_⟩
 ·
  obtain⟨x,hx,hi,hp⟩:=Ba hb;obtain⟨fo,qj⟩:=zz.1 hi;have e2:t.drop (dm t q)=x::t.drop (dm t q+1):=by rw[←qj,List.getElem_cons_drop]
  rw[k2,e2,tY,au9,hp,Dv hq];simp only[auH,if_false];refine(filter_all fun y hy=>?_).symm;obtain⟨j,hj⟩:=avv.1 hy;rw[avd]at hj;have:=Hq h (dm t q) (dm t q+1+j) x y (by omega) hi hj;rw[hp]at this;exact this
 rw[k2];refine(filter_all fun y hy=>?_).symm;refine Vp (hm y (md y hy)) hq (h2 y hy) fun ep=>?_;have:=(Ts h hq (md y hy) ep).2;rw[hb]at this;cases this
theorem ag6(h:cS t=true)(he:eO t ⟨r,false⟩=0):jj t ⟨r,false⟩=yw t r.p++r::tY t r.p:=by
 obtain⟨k1,k2,k3⟩:=Vt h (H8 he);rw[jj,if_pos he,if_neg (by simp)]
 by_cases hb:mW t r.p=true
 ·obtain⟨x,hx,hi,hp⟩:=Ba hb;have fo:=(zz.1 hi).1;rw[if_pos hb,List.set_eq_take_append_cons_drop,if_pos fo,k1,k2 hb]
 rw[if_neg hb];show t.take (dm t r.p)++r::t.drop (dm t r.p)=_;rw[k1,k3 (by simpa using hb)]
theorem ag7(h:cS t=true)(he:eO t ⟨r,true⟩=0):jj t ⟨r,true⟩=yw t r.p++tY t r.p:=by
 have hm:=H8 he;obtain⟨k1,k2,k3⟩:=Vt h hm;have hb:mW t r.p=true:=by
  apply aut;intro hn;rw[eO,if_pos hm,if_neg hn,if_pos rfl]at he;omega
 rw[jj,if_pos he,if_pos rfl];show t.take (dm t r.p)++t.drop (dm t r.p+1)=_;rw[k1,k2 hb]
theorem ag8(h:Ord t)(hq:bu q=true):t.filter (fun x=>decide (x.p≠q))=yw t q++tY t q:=by
 refine Ord.ext (h.sub aws) ⟨fun x hx=>?_,?_⟩ fun x=>?_
 ·rcases at7.1 hx with h1|h1<;>exact h.may x (auC.1 h1).1
 ·refine awa.2 ⟨h.less.sublist aws,h.less.sublist aws,fun a ha b hb=>?_⟩;have ha:=auC.1 ha;have hb:=auC.1 hb;exact Vs (h.may a ha.1) hq (h.may b hb.1) ha.2 hb.2
 rw[at7,auC,yw,tY,auC,auC];constructor
 ·
  rintro⟨h1,h2⟩
  cases h3:eG x.p q with
  |true=>exact .inl ⟨h1,rfl⟩
  |false=>exact .inr ⟨h1,Vp (h.may x h1) hq h3 (by simpa using h2)⟩
 rintro(⟨h1,h2⟩|⟨h1,h2⟩)
 ·exact⟨h1,by simpa using Vr (h.may x h1) h2⟩
 exact⟨h1,by simpa using(Vr hq h2).symm⟩
theorem ag9(h:Ord t)(hr:bu r.p=true):Ord (yw t r.p++r::tY t r.p):=by
 refine⟨fun x hx=>?_,?_⟩
 ·
  rcases at7.1 hx with h1|h1
  ·exact h.may x (auC.1 h1).1
  rcases auc.1 h1 with rfl|h1
  ·exact hr
  exact h.may x (auC.1 h1).1
 refine awa.2 ⟨h.less.sublist aws,auV.2 ⟨fun y hy=>(auC.1 hy).2,h.less.sublist aws⟩,fun a ha b hb=>?_⟩;have ha:=auC.1 ha;rcases auc.1 hb with rfl|hb
 ·exact ha.2
 have hb:=auC.1 hb;exact Vs (h.may a ha.1) hr (h.may b hb.1) ha.2 hb.2
theorem Vu(h:cS t=true)(c:Ch):cS (jj t c)=true:=by
 by_cases he:eO t c=0
 ·
  refine aek ?_ (TA (CY h) c);obtain⟨r,g⟩:=c
  cases g with
  |false=>rw[ag6 h he];exact ag9 (Dw h) (H8 he)
  |true=>rw[ag7 h he,←ag8 (Dw h) (H8 he)];exact(Dw h).sub aws
 rw[jj,if_neg he];exact h
open Go.ax
theorem Vv(c:CV)(b e:Int):(iW c b e).aA=c.aA:=by
 rw[iW];split
 ·rw[me];split<;>rfl
 rfl
theorem vi(c:CV)(b:Int)(p:List UInt8):(bB c b p).aA=c.aA:=by
 rw[bB,Vv,gN];split<;>rfl
theorem Vw(c:CV)(b:Int):(dz c b).aA=c.aA:=by
 rw[dz,Vv,gv];split<;>rfl
theorem Vx: ∀(n:Nat) (c:CV) (b:Int),(fc n c b).1.aA=c.aA
 |0,c,b=>Vw c b
 |n+1,c,b=>by
  rw[fc];split
  ·exact vi _ _ _
  exact(Vx n _ b).trans (vi _ _ _)
theorem Ef(c:CV)(b:Int):(cJ c b).1.aA=c.aA:=Vx _ _ _
theorem Eg(c:CV)(fl:List Int)(b:Bool):(bj c fl b).1.aA=c.aA:=by
 rw[bj];split
 ·rfl
 split
 ·rfl
 split
 ·rfl
 exact Ef _ _
theorem Nk: ∀(n:Nat) (c:CV) (fl:List Int) (b:Bool) (p:List UInt8),(ie n c fl b p).1.aA=c.aA
 |0,_,_,_,_=>rfl
 |n+1,c,fl,b,p=>by
  rw[ie];split
  ·
   split
   ·exact(vi _ _ _).trans (Eg _ _ _)
   split
   ·exact(vi _ _ _).trans (Eg _ _ _)
   exact(Nk n _ fl b p).trans ((vi _ _ _).trans (Eg _ _ _))
  split
  ·exact Eg _ _ _
  exact(Nk n _ fl b p).trans (Eg _ _ _)
theorem Vy(c:CV)(fl:List Int)(b:Bool)(p:PV):(cY c fl b p).1.aA=c.aA:=by
 rw[cY];split
 ·rfl
 exact Nk _ _ _ _ _
theorem H9(c:CV)(l:Int):(aZ c l).1.aA=c.aA:=by
 rw[aZ];split
 ·rfl
 split
 ·rfl
 split
 ·rfl
 exact Vw _ _
theorem Vz: ∀(n:Nat) (x:WV) (a:List Int) (b:List UInt8),(gx n x a b).1.v.ae.aA=x.v.ae.aA
 |0,_,_,_=>rfl
 |n+1,x,a,b=>by
  rw[gx];split
  ·exact H9 _ _
  split
  ·exact(vi _ _ _).trans (H9 _ _)
  split
  ·exact(vi _ _ _).trans (H9 _ _)
  exact(Vz n _ a b).trans ((vi _ _ _).trans (H9 _ _))
theorem VA(x:WV)(a:List Int):(dQ x a).1.v.ae.aA=x.v.ae.aA:=by
 rw[dQ];split
 ·rfl
 exact Vz _ _ _ _
theorem Nl(c:CV)(l:List az):(cc c l).1.aA=c.aA:=by
 rw[cc];split
 ·rfl
 split
 ·exact Ef _ _
 split
 ·exact Ef _ _
 rfl
theorem Ia(v:VV)(src tgt:Int): ∀(l:List Int) (id:Nat) (c:CV) (a:List Int),(cj v src tgt l id c a).c.aA=c.aA
 |[],_,c,a=>rfl
 |n::r,id,c,a=>by
  rw[cj];split
  ·exact Ia v src tgt r _ c a
  split
  ·rfl
  split
  ·rfl
  split
  ·exact vi _ _ _
  exact(Ia v src tgt r _ _ _).trans (vi _ _ _)
theorem VB(x:WV)(src tgt:Int):(cZ x src tgt).1.v.ae.aA=x.v.ae.aA:=by
 rw[cZ];split
 ·exact Ia _ _ _ _ _ _ _
 exact(VA _ _).trans (Ia _ _ _ _ _ _ _)
theorem VC(x:WV)(l:List az)(i:Int):(ff x l i).1.v.ae.aA=x.v.ae.aA:=by
 rw[ff];split
 ·exact Nl _ _
 split
 ·exact(VB _ _ _).trans (Nl _ _)
 exact(Ef _ _).trans ((VB _ _ _).trans (Nl _ _))
theorem VD(x:WV)(l:List az):(jz x l).1.v.ae.aA=x.v.ae.aA:=by
 rw[jz];split
 ·rfl
 exact Ef _ _
theorem Ib(x:WV):(eC x).1.v.ae.aA=x.v.ae.aA:=by
 rw[eC];split
 ·
  split
  ·exact VC _ _ _
  exact(VD _ _).trans (VC _ _ _)
 exact VD _ _
theorem VE: ∀(n:Nat) (x:WV) (m:Int),(lE n x m).1.v.ae.aA=x.v.ae.aA
 |0,_,_=>rfl
 |n+1,x,m=>by
  rw[lE];split
  ·rfl
  split
  ·rfl
  split
  ·exact(VE n _ m).trans (Ib _)
  split
  ·exact Ib _
  split
  ·exact Ib _
  exact Ib _
theorem Nn(v:VV)(b:Bool): ∀(l:List (Int×List UInt8)) (c:CV) (a:List Int),(gp v b l c a).1.aA=c.aA
 |[],_,_=>rfl
 |x::r,c,a=>by
  rw[gp];split
  ·exact Nn v b r _ _
  split
  ·exact Vy _ _ _ _
  exact(Nn v b r _ _).trans (Vy _ _ _ _)
theorem VF(x:WV)(l:List (Int×List UInt8)):(gI x l).1.v.ae.aA=x.v.ae.aA:=by
 have h1:(cN x l).1.v.ae.aA=x.v.ae.aA:=VE _ _ _;have h2:(gy x l).1.aA=x.v.ae.aA:=(Nn _ _ _ _ _).trans h1;rw[gI];split
 ·exact h1
 split
 ·exact h2
 exact(VA _ _).trans h2
theorem VG: ∀(n:Nat) (x:WV) (l:List (Int×List UInt8)),(lF n x l).1.v.ae.aA=x.v.ae.aA
 |0,_,_=>rfl
 |n+1,x,l=>by
  rw[lF];split
  ·exact(VG n _ l).trans (VF _ _)
  exact VF _ _
theorem aha(v:VV)(l:List (Int×List UInt8)):(fg v l).1.ae.aA=v.ae.aA:=by
 rw[fg];split
 ·rfl
 split
 ·rfl
 exact VG _ _ _
theorem ahb(f:FV)(l:List Ch):(bI f l).1.aj.ae.aA=f.aj.ae.aA:=by
 rw[bI];split
 ·rfl
 split
 ·rfl
 split
 ·rfl
 split
 ·rfl
 exact aha _ _
theorem VH: ∀(n:Nat) {x:WV} {l:List (Int×List UInt8)},db x->jy x (lF n x l).1
 |0,x,_,h=> .du h
 |n+1,x,l,h=>by
  have hb:=Hj (l:=l) h;rw[lF];split
  ·exact hb.trans (VH n hb.ok)
  exact hb
theorem ahc{v:VV}(l:List (Int×List UInt8))(h:aW v.ae=true):aW (fg v l).1.ae=true/\(fg v l).1.at_.length=v.at_.length:=by
 rw[fg];split
 ·exact⟨h,rfl⟩
 rename_i hr;have hr:=awW.1 hr;split
 ·exact⟨h,rfl⟩
 have q:=VH (v.ae.blocks.length+1) (l:=l) (Du (b:=false) hr.1);exact⟨q.ok.ae,q.xH⟩
theorem ahd{f:FV}(l:List Ch)(h:aW f.aj.ae=true):aW (bI f l).1.aj.ae=true/\(bI f l).1.aj.at_.length=f.aj.at_.length:=by
 rw[bI];split
 ·exact⟨h,rfl⟩
 split
 ·exact⟨h,rfl⟩
 split
 ·exact⟨h,rfl⟩
 split
 ·exact⟨h,rfl⟩
 exact ahc _ h
theorem ahe{t:List Rt}(h:cS t=true): ∀l:List Ch,cS (jk t l).1=true:=by
 intro l
 induction l generalizing t with
 |nil=>exact h
 |cons c r ih=>
  rw[jk];split
  ·exact ih (Vu h c)
  exact h
theorem ahf{f:FV}(l:List Ch)(h:cS f.table=true):cS (bI f l).1.table=true:=by
 have ha:cS (bT f.table l)=true:=by
  rw[bT];split
  ·exact ahe h l
  exact h
 rw[bI];split
 ·exact h
 split
 ·exact h
 split
 ·exact h
 split
 ·exact ha
 show cS (if _ then _ else _)=true;split
 ·exact h
 exact ha
theorem ahg{c:CV}(h:(cy c).2=0):(cy c).1.aj.ae=c/\aW c=true/\(cy c).1.aj.at_.length<=64/\cS (cy c).1.table=true:=by
 obtain⟨g0,g1,g2,g3⟩:=Dz h;have hr:=Du (b:=false) (TU g1);have hv:=L9 g1;rw[(Dy g0 g1 g2 g3).1];refine⟨hv,?_,hr.kT,TR g3⟩;have:=hr.ae;rw[show(({v:=(bG c).1,beyond:=false}:WV).v.ae)=c from hv]at this;exact this
structure Lb(m:Nat)(p:bh):Prop where
 ok:aW p.f.aj.ae=true
 at_:p.f.aj.at_.length<=64
 oo:cS p.f.table=true
 iM:p.f.aj.ae.aA.length<=m
theorem Lb.sm{m:Nat}{p:bh}(h:Lb m p)(hb:p.batch.length<=1000)(ht:p.told.length<=100000000):qG p=true:=by
 have:=CY h.oo;have h2:=h.at_;simp only[qG,xQ,af0,decide_eq_true_eq];exact⟨⟨⟨⟨h.ok,by omega⟩,by omega⟩,hb⟩,ht⟩
theorem VI{line:aJ}{e:Int}(hl:line.length<=42)(he:Er e):(jR line e).length<=42:=by
 rw[jR];split
 ·have h1:=jY 1 e.toNat (by have:=he.1;have:=he.2;omega) (by decide);rw[adr];have:Uc.length=6:=rfl;omega
 exact hl
theorem BL(p:bh){line:aJ}{e:Int}(hl:line.length<=42)(he:Er e):(jC p line e).told.length<=p.told.length+43:=by
 have:=VI hl he;simp only[jC,jQ,adr,ad2,alM];omega
theorem Eh: ∀(l:List Rt) (p:bh),(l.foldl oY p).f=p.f/\(l.foldl oY p).batch=p.batch/\(l.foldl oY p).told.length<=p.told.length+43*l.length
 |[],p=>⟨rfl,rfl,at5 _⟩
 |r::l,p=>by
  obtain⟨h1,h2,h3⟩:=Eh l (oY p r);have h4:(oY p r).told.length<=p.told.length+43:=BL p (uE r) (HD _);refine⟨h1,h2,?_⟩;simp only[avq,ad2];omega
theorem No:pZ.length<=42:=by decide
theorem Ic{c:CV}(hk:aW c=true):kN c []=0/\iI c []={c with off:=false,aA:=[]}:=by
 have h:kN c []=0:=by rw[kN,if_pos ⟨hk,auo _⟩]
 exact⟨h,by rw[iI,if_pos h]⟩
theorem VJ{m:Nat}{p:bh}{x:aO}(h:Lb m p)(hm:m<64):Lb (m+1) (cI p x)/\(cI p x).batch.length<=p.batch.length+1/\(cI p x).told.length<=p.told.length+12000:=by
 have hL:Lb (m+1) p:=⟨h.ok,h.at_,h.oo,by have:=h.iM;omega⟩;rw[cI];split
 ·exact⟨⟨hL.ok,hL.at_,hL.oo,hL.iM⟩,by simp,by simp only;omega⟩
 split
 ·exact⟨⟨hL.ok,hL.at_,hL.oo,hL.iM⟩,by simp,by simp only;omega⟩
 split
 ·
  have q:=ahd p.batch h.ok;refine⟨⟨q.1,by show(bI p.f p.batch).1.aj.at_.length<=64;rw[q.2];exact h.at_,ahf _ h.oo,by show(bI p.f p.batch).1.aj.ae.aA.length<=_;rw[ahb];exact hL.iM⟩,auo _,?_⟩;have:=BL {p with f:=(bI p.f p.batch).1,batch:=[]} No (HB p.f p.batch)
  simp only at this;omega
 split
 ·
  rw[mZ];split
  ·have:=BL p (line:=[]) (auo _) (HC p.f x.key x.bits);exact⟨⟨hL.ok,hL.at_,hL.oo,hL.iM⟩,awU _,by omega⟩
  have:=BL p (uE (kV p.f x.key x.bits)) (HD (bu (kV p.f x.key x.bits).p));exact⟨⟨hL.ok,hL.at_,hL.oo,hL.iM⟩,awU _,by simp only[gM];omega⟩
 split
 ·
  rw[p0];split
  ·exact⟨hL,awU _,by omega⟩
  rename_i h6;refine⟨⟨?_,h.at_,h.oo,?_⟩,awU _,by simp only;omega⟩
  ·obtain⟨a1,a2,a3,_,a5⟩:=eN.1 h.ok;exact eN.2 ⟨a1,a2,a3,by simp only[Bi,adr,ad2,alM];omega,a5⟩
  simp only[Bi,adr,ad2,alM];have:=h.iM;omega
 split
 ·
  obtain⟨o1,o2⟩:=Ic h.ok;rw[jD,if_neg (fun g=>g o1)];split
  ·have:=BL p No (ya (iI p.f.aj.ae []));exact⟨⟨hL.ok,hL.at_,hL.oo,hL.iM⟩,awU _,by omega⟩
  rename_i hz;obtain⟨k1,k2,k3,k4⟩:=ahg (awW.1 hz);have:=BL {p with f:=(cy (iI p.f.aj.ae [])).1} No (er 0)
  refine⟨⟨by show aW (cy (iI p.f.aj.ae [])).1.aj.ae=true;rw[k1];exact k2,k3,k4,?_⟩,awU _,by simp only at this;omega⟩;show(cy (iI p.f.aj.ae [])).1.aj.ae.aA.length<=_;rw[k1,o2];exact auo _
 split
 ·obtain⟨r1,r2,r3⟩:=Eh p.f.table (jQ p (rB++dec p.f.table.length));have ht:=CY h.oo;have hd:=jY 3 p.f.table.length (by omega) (by decide);have h7:rB.length=7:=rfl;rw[oZ];refine⟨⟨by rw[r1];exact hL.ok,by rw[r1];exact hL.at_,by rw[r1];exact hL.oo,by rw[r1];exact hL.iM⟩,by rw[r2];exact awU _,?_⟩;simp only[jQ,adr,ad2,alM]at r3;simp only[jQ]at r3⊢;omega
 exact⟨hL,awU _,by omega⟩
theorem VK: ∀{l:List aO} {m:Nat} {p:bh},Lb m p->m+l.length<=60->p.batch.length<=m->p.told.length<=12000*m->qH p l=true
 |[],m,p,h,hm,hb,ht=>h.sm (by omega) (by omega)
 |x::r,m,p,h,hm,hb,ht=>by
  rw[ad2]at hm;obtain⟨h1,h2,h3⟩:=VJ (x:=x) h (by omega);rw[qH,af0];exact⟨h.sm (by omega) (by omega),VK h1 (by omega) (by omega) (by omega)⟩
theorem VL: ∀{l:List aO} {m:Nat} {p:bh},Lb m p->m+l.length<=60->Lb (m+l.length) (dX p l)
 |[],_,_,h,_=>h
 |x::r,m,p,h,hm=>by
  rw[ad2]at hm⊢;have:=VL (l:=r) (VJ (x:=x) h (by omega)).1 (by omega);rw[show m+1+r.length=m+(r.length+1) by omega]at this;exact this
end Go.Kb
namespace Go.Proofs.YtkggjjnhnjjokaaGreatDoor
open Go.ax Go.Kb Go.RowKit Go.Proofs.Tryz
theorem ahh(w0 w:World)[tb:iH w0](L:List ai)(k:Nat)(xf:bL)(xb:Sl Ch)(xa:Option Nat)(xt:Sl UInt8)(hw:Mem w0 (aq k (cd (⟨xf,xb,xa,xt⟩:ca)) 174::fz xf::dP 5 xt.sv xt.xs::L) w)(aC:xf.table.xs.length<=1000000/\xt.xs.length<=800000000/\(xa=none\/xa=Option.some k)):Calls prog 161 #[.pointer (some ⟨k,0,none⟩)] w fun e w'=> ∃U:Sv,e= .returned (.tuple #[])/\(True)/\Mem w0 (aq k (cd (⟨xf,xb,(Option.some k),⟨U,(oZ (⟨aI xf,xb.xs,xt.xs⟩:bh)).told⟩⟩:ca)) 174::fz xf::dP 5 U (oZ (⟨aI xf,xb.xs,xt.xs⟩:bh)).told::L) w':=by
 obtain⟨gQ,zA,fC⟩:=aC;have yb:=jY 7 xf.table.xs.length oM dDq;have yD:((jQ (⟨aI xf,xb.xs,xt.xs⟩:bh) (rB++dec xf.table.xs.length))).told.length<=xt.xs.length+15:=by
  show(xt.xs++([114,111,117,116,101,115,32]++dec xf.table.xs.length)++[10]).length<=_;simp only[adr,ad2,alM];omega
 refine hY (args:=[_]) func161 rfl ntmps161 rfl hw ?_;change Cw _ _ _ _ _ [(0, .pointer (some ⟨k,0,none⟩))] (aq k (cd (⟨xf,xb,xa,xt⟩:ca)) 174::fz xf::dP 5 xt.sv xt.xs::L);refine aY ?_;refine ag (Ry.to (v':=xf.table.sv.val) (bE rfl) rfl) (Gs ?_);refine cO (bK rfl (by first|omega|exact Nat.lt_trans (UInt8.toNat_lt _) dDq|exact Nat.lt_trans (UInt16.toNat_lt _) dDq)) (ag (jq rfl rfl (by simp only[List.length_cons,List.length_nil];omega)) (bb rfl ⟨by simp only[List.length_append,List.length_cons,List.length_nil];omega,fC⟩ fun wH VM=>aP ?_));refine ag (Ry.to (v':=xf.table.sv.val) (bE rfl) rfl) (al ?_);refine cg (X:=Nat×Sv) (fun U=>[(22, .int .i64 (U.1:Nat)),(0, .pointer (some ⟨k,0,none⟩)),(20,xf.table.sv.val),(21, .int .i64 (xf.table.xs.length:Nat))]) (fun U=>aq k (cd (⟨xf,xb,(Option.some k),⟨U.2,((xf.table.xs.take U.1).foldl oY (jQ (⟨aI xf,xb.xs,xt.xs⟩:bh) (rB++dec xf.table.xs.length))).told⟩⟩:ca)) 174::fz xf::dP 5 U.2 (((xf.table.xs.take U.1).foldl oY (jQ (⟨aI xf,xb.xs,xt.xs⟩:bh) (rB++dec xf.table.xs.length))).told)::L) (fun U=>U.1<=xf.table.xs.length) (fun U=>xf.table.xs.length -U.1) (0,wH) (Nat.zero_le _) sb (fun w hw=>(show Mem w0 (aq k (cd (⟨xf,xb,(Option.some k),⟨wH,((xf.table.xs.take 0).foldl oY (jQ (⟨aI xf,xb.xs,xt.xs⟩:bh) (rB++dec xf.table.xs.length))).told⟩⟩:ca)) 174::fz xf::dP 5 wH (((xf.table.xs.take 0).foldl oY (jQ (⟨aI xf,xb.xs,xt.xs⟩:bh) (rB++dec xf.table.xs.length))).told)::L) _ from(ah.mem hw:Mem w0 (aq k (cd (⟨xf,xb,(Option.some k),⟨wH,xt.xs++([114,111,117,116,101,115,32]++dec xf.table.xs.length)++[10]⟩⟩:ca)) 174::fz xf::dP 5 wH (xt.xs++([114,111,117,116,101,115,32]++dec xf.table.xs.length)++[10])::L) _))) ?_;rintro⟨i,u⟩ bg;dsimp only;simp only at bg;have hrf:=(Eh (xf.table.xs.take i) (jQ (⟨aI xf,xb.xs,xt.xs⟩:bh) (rB++dec xf.table.xs.length))).2.2;rw[List.length_take]at hrf;refine al ?_;refine Gb ?_ ?_<;>intro h0
 ·
  refine Ku ?_;have ahi: ∀r,xf.table.xs[i]? =some r->((xf.table.xs.take (i+1)).foldl oY (jQ (⟨aI xf,xb.xs,xt.xs⟩:bh) (rB++dec xf.table.xs.length))).told=((xf.table.xs.take i).foldl oY (jQ (⟨aI xf,xb.xs,xt.xs⟩:bh) (rB++dec xf.table.xs.length))).told++jR (ir r) (gM (bu r.p))++[10]:=by
   intro r hr;rw[at6,hr,avQ];rfl
  refine Gi ?_;obtain⟨r,hr⟩:=get_some (xs:=xf.table.xs) (i:=i) oM;refine ag (bf rfl rfl i rfl oM) (ag (gV rfl i hr rfl) (bn fun b3=>aP ?_));refine ag (aB (v:= .string ⟨(ir r).toArray⟩) rfl rfl) (ag (aB (v:= .int .i64 (gM (bu r.p))) rfl rfl) (aY ?_));refine bb rfl ⟨by have mL:=uE r;simp only;omega, .inr rfl,HD _⟩ fun om HN=>al ?_;refine Gi ?_;exact bo (x:=(i,u)) (i+1,om) (by simp only;omega) (by simp only;omega) sb (fun w hw=>by simp only[ahi r hr];exact ah.mem hw)
 obtain rfl:i=xf.table.xs.length:=by omega
 have hD:(oZ (⟨aI xf,xb.xs,xt.xs⟩:bh)).told=((xf.table.xs.take xf.table.xs.length).foldl oY (jQ (⟨aI xf,xb.xs,xt.xs⟩:bh) (rB++dec xf.table.xs.length))).told:=by rw[aup];rfl
 rw[hD];refine Gc ?_;refine eE (.inr rfl) (kg rfl) (fun w1 hw=>?_);exact⟨u,rfl,trivial,ah.mem hw⟩
instance ata{w0:World}[tb:iH w0]{L R1 R2 L2:List ai}{i0 i1 i2:Nat}{k:Nat}{xf:bL}{xb:Sl Ch}{xa:Option Nat}{xt:Sl UInt8}[q0:Has L k (cd (⟨xf,xb,xa,xt⟩:ca)) 174 i0][d0:ct L i0 R1][q1:At R1 (fz xf) i1][d1:ct R1 i1 R2][q2:mI R2 xt.sv 5 xt.xs i2][d2:ct R2 i2 L2]:bY prog 161 w0 L [.pointer (some ⟨k,0,none⟩)] (Sv) (fun U=> .tuple #[]) (fun U=>aq k (cd (⟨xf,xb,(Option.some k),⟨U,(oZ (⟨aI xf,xb.xs,xt.xs⟩:bh)).told⟩⟩:ca)) 174::fz xf::dP 5 U (oZ (⟨aI xf,xb.xs,xt.xs⟩:bh)).told::L2) (fun U=>True) (xf.table.xs.length<=1000000/\xt.xs.length<=800000000/\(xa=none\/xa=Option.some k)):=⟨fun hp w hw=>ahh w0 w L2 k xf xb xa xt (wq q0.h d0.h q1.h d1.h q2.h d2.h hw) hp⟩
theorem VN(v:cB)(w:World):(Instr.build 65 #[(0, .agg (cF v))]).run prog w= .ok (.agg (cV ⟨v,⟨Sv.none,[]⟩⟩)) w:=by
 obtain⟨⟨a1,a2,⟨a3,a4⟩,a5,a6,⟨a7,a8⟩⟩,⟨a9,a10⟩,a11,a12⟩:=v;unfold cV cF;obtain⟨e3,b3,o3,l3,c3,p3⟩:=a3;obtain⟨e7,b7,o7,l7,c7,p7⟩:=a7;obtain⟨e9,b9,o9,l9,c9,p9⟩:=a9
 cases e3<;>cases e7<;>cases e9<;>kernel_rfl
theorem VO{w0 w:World}{L:List ai}{v:cB}(h:Mem w0 (fz v.ae::fz v.at_::L) w):Mem w0 (fz (⟨v,⟨Sv.none,[]⟩⟩:bL)::L) w:=
 Hs (f:=⟨v,⟨Sv.none,[]⟩⟩) ((DA (a:=⟨Sv.none,[]⟩) (Mem.dE ay 19 h)).perm ((List.Perm.swap _ _ _).trans (List.Perm.cons _ (List.Perm.swap _ _ _))))
variable {w0:World}{L:List ai}
instance atb{c:Cp}[hc:aX w0 L c]:bY prog 38 w0 L [.agg (aV c)] (bL) (fun U=> .tuple #[.agg (cV U), .int .i64 ((jc (cv c)).2)]) (fun U=>fz U::L) (fun U=>aI U=(jc (cv c)).1) (gk c):=⟨fun aC w hw=>Gk (fun U=>[fz U]) hw (by
 have hc:=hc.h w hw;have lN:cQ w c:=⟨hc⟩;have gQ:gk c:=aC;refine cx func38 rfl ntmps38 rfl ?_;refine Gc ?_;refine cn rfl fun b1=>bn fun b2=>aY ?_;refine Gb ?_ ?_<;>intro h0
 ·
  have hE:jc (cv c)=(⟨⟨cv c,[],0,0⟩,[]⟩,1):=by rw[jc,if_pos h0]
  refine au ?_;refine bb rfl (by assumption) fun zO ahj=>ag (cR (v:= .agg (cF (⟨zO,⟨Sv.none,[]⟩,0,0⟩:cB))) rfl (D9 zO)) (ag (cR (v:= .agg (cV (⟨(⟨zO,⟨Sv.none,[]⟩,0,0⟩:cB),⟨Sv.none,[]⟩⟩:bL))) rfl (VN (⟨zO,⟨Sv.none,[]⟩,0,0⟩:cB))) (al ?_));refine Gr fun w1 hw=>?_;exact⟨(⟨(⟨zO,⟨Sv.none,[]⟩,0,0⟩:cB),⟨Sv.none,[]⟩⟩:bL),by rw[hE],by rw[hE];simp only[aI,vv,ahj];rfl,VO (v:=(⟨zO,⟨Sv.none,[]⟩,0,0⟩:cB)) (ah.mem (Ea (ah.mem hw:Mem w [fz zO] _)))⟩
 have hE:jc (cv c)=(⟨(pW (cv c) (eJ (cv c))).1,[]⟩,(pW (cv c) (eJ (cv c))).2):=by rw[jc,if_neg h0]
 refine Gc ?_;refine pA [3,7,8,2007,4003] [[],[],[],[],[3],[3],[3],[],[3,7],[3,7,8]] [0,1,2,3,4,5,6,7,8,9] [aq b1 (aV c) 59] [(7,mG prog 63)] oK (fun _ hw=>ah.mem hw) oK oK (an rfl (jU rfl) (an rfl (jU rfl) (ze rfl (bK rfl trivial) ?_)));refine vR rfl rfl (by assumption) (fun e x w hw=>ah.mem hw) (Cert.one (i:=7) rfl rfl rfl mH (Cert.none rfl)) fun jm MZ=>⟨fun _ hw=>ah.mem hw,?_⟩;refine an rfl (bm rfl) (an rfl (aB (v:= .agg (cF (⟨jm.1,jm.2.1,jm.2.2.1,jm.2.2.2⟩:cB))) rfl rfl) (an rfl (aB (v:= .int .i64 ((pW (cv c) (eJ (cv c))).2)) rfl rfl) (oI (m:=mG prog 63) rfl rfl mH (Cert.none rfl) fun b4=>?_)));change Ln _ _ _ _ _ _ _ _ (cr _ _ (.pointer (some ⟨b4,0,none⟩))) (aq b4 (cF mN) 63::_) _;refine dr rfl (qw rfl rfl ⟨fun _ hw=>ah.mem hw,?_⟩);refine an rfl (hO rfl) (au ?_);refine ag (cR (v:= .agg (cV (⟨(⟨jm.1,jm.2.1,jm.2.2.1,jm.2.2.2⟩:cB),⟨Sv.none,[]⟩⟩:bL))) rfl (VN (⟨jm.1,jm.2.1,jm.2.2.1,jm.2.2.2⟩:cB))) (ar ?_);refine Gr fun w1 hw=>?_;exact⟨(⟨(⟨jm.1,jm.2.1,jm.2.2.1,jm.2.2.2⟩:cB),⟨Sv.none,[]⟩⟩:bL),by rw[hE],by rw[hE];simp only[aI,vv,MZ],VO (v:=(⟨jm.1,jm.2.1,jm.2.2.1,jm.2.2.2⟩:cB)) (ah.mem hw)⟩)⟩
theorem ahk{w0 w:World}{L:List ai}{f:bL}{a:Sl Rt}(h:Mem w0 (fz f::own ay 19 a.sv a.xs::L) w):Mem w0 (fz (⟨f.aj,a⟩:bL)::L) w:=by
 have h2:=(DA (a:=a) (h.perm (List.Perm.swap _ _ _))).perm (List.Perm.swap _ _ _);refine Mem.freeze (es:=[fz f,fz a]) (⟨f.aj,a⟩:bL) ⟨(h2.sat (fz f) (by simp)).1,h2.sat (fz a) (by simp)⟩ (fun k hk=>?_) h2;rcases hk with hk|hk
 ·exact⟨fz f,by simp, .inl hk⟩
 exact⟨fz a,by simp,hk⟩
instance atc{f:bL}[hf:aX w0 L f]:bY prog 100 w0 L [.agg (cV f)] (bL) (fun U=> .agg (cV U)) (fun U=>fz U::L) (fun U=>aI U=aI f) (gk f.aj.ae/\f.aj.at_.xs.length<=1000000/\f.table.xs.length<=1000000):=⟨fun aC w hw=>Gk (fun U=>[fz U]) hw (by
 have hf:=hf.h w hw;have H5:cQ w f:=⟨hf⟩;obtain⟨mq,jM,qL⟩:=aC;refine cx func100 rfl ntmps100 rfl ?_;refine Gc ?_;refine cn rfl fun b1=>bn fun b2=>al ?_;refine ag (fM rfl) (bb rfl mq fun x6 Mg=>au ?_);refine qX (cs':=cV ({f with aj:=({f.aj with ae:=x6}:cB)}:bL)) rfl rfl (by show 0+6<=10;decide) rfl (ar ?_)
 refine bb rfl jM fun qI tM=>au ?_;refine dO (cs':=cV ({f with aj:=({f.aj with ae:=x6,at_:=⟨qI,f.aj.at_.xs⟩}:cB)}:bL)) rfl rfl (by show 6<10;decide) (by first|rfl|exact Sv.one _) rfl (al ?_)
 refine bb rfl qL fun jm MZ=>Gs ?_;refine dO (cs':=cV (⟨({f.aj with ae:=x6,at_:=⟨qI,f.aj.at_.xs⟩}:cB),⟨jm,f.table.xs⟩⟩:bL)) rfl rfl (by show 9<10;decide) (by first|rfl|exact Sv.one _) rfl (ar ?_)
 refine Gr fun w1 hw=>?_;exact⟨(⟨({f.aj with ae:=x6,at_:=⟨qI,f.aj.at_.xs⟩}:cB),⟨jm,f.table.xs⟩⟩:bL),rfl,by simp only[aI,vv,Mg],TS (f:=(⟨({f.aj with ae:=x6,at_:=⟨qI,f.aj.at_.xs⟩}:cB),⟨jm,f.table.xs⟩⟩:bL)) (ah.mem hw)⟩)⟩
end Go.Proofs.YtkggjjnhnjjokaaGreatDoor
namespace Go.Kb
open Go.ax
theorem VP{p q:cK}(h:eG p q=true):bu p=true/\bu q=true:=by
 simp only[eG,af0]at h;exact⟨h.1.1,h.1.2⟩
theorem ahl{p q r:cK}(h:eG p q=true)(h':eG q r=true):eG p r=true:=by
 obtain⟨hp,hq⟩:=VP h;obtain⟨_,hr⟩:=VP h';rw[nQ hp hq]at h;rw[nQ hq hr]at h';rw[nQ hp hr];omega
def tok(ps:List cK):Prop:=ps.length<=256/\(∀p∈ps,bu p=true)/\ps.Pairwise fun p q=>eG p q=true
theorem VQ(xs:List Rt): ∀n,n<=xs.length->(sZ xs n=true↔(∀p∈(xs.take n).map (·.p),bu p=true)/\((xs.take n).map (·.p)).Pairwise fun p q=>eG p q=true)
 |0,_=>by simp[PO]
 |n+1,h=>by
  obtain⟨r,hr⟩:=get_some (xs:=xs) (i:=n) oM;have e:xs.take (n+1)=xs.take n++[r]:=by rw[at6,hr];rfl
  rw[JR,af0,VQ xs n oM,e,auv,awa];simp only[aum,au4,at7,auK,auV,avO,false_implies,implies_true,List.Pairwise.nil,and_self,true_and,and_true]
  cases n with
  |zero=>rw[JS hr];simp
  |succ m=>
   obtain⟨q,hq⟩:=get_some (xs:=xs) (i:=m) oM;rw[FI hr hq,af0];have e2:xs.take (m+1)=xs.take m++[q]:=by rw[at6,hq];rfl
   constructor
   ·
    rintro⟨⟨h1,h2⟩,h3,h4⟩;refine⟨fun p hp=>hp.elim (h1 p) (fun e=>e▸h3),h2,fun p hp b hb=>?_⟩;subst hb;rw[e2,auv]at hp h2;rcases at7.1 hp with hp|hp
    ·have:=(awa.1 h2).2.2 p hp q.p (by simp);exact ahl this h4
    have:p=q.p:=by simpa using hp
    rw[this];exact h4
   rintro⟨h1,h2,h3⟩;refine⟨⟨fun p hp=>h1 p (.inl hp),h2⟩,h1 _ (.inr rfl),h3 q.p ?_ _ rfl⟩;rw[e2];simp
theorem ahm(xs:List Rt):cS xs=true↔tok (xs.map (·.p)):=by
 rw[cS,af0,VQ xs _ (at5 _),aup,decide_eq_true_iff];simp[tok]
theorem ahn{xs:List Rt}(h:cS xs=true): ∀r∈xs,bu r.p=true:=fun r hr=>((ahm xs).1 h).2.1 r.p (auq hr)
theorem aho{r:Rt}(h:bu r.p=true):rd (fB r)=some r:=by
 obtain⟨h1,h2,h3,-⟩:=(uy r.p).1 h;have e0:(fB r).getD 0 0=if r.p.bits=128 then 1 else 0:=by simp[List.getD,R8]
 have e1:(fB r).getD 1 0=dk r.p.len:=by simp[List.getD,R9]
 have HY:(fB r).getD 18 0=b8 (r.dN.toNat/256):=by simp[List.getD,Sb]
 have VR:(fB r).getD 19 0=b8 r.dN.toNat:=by simp[List.getD,Sc]
 have ok:rz (fB r)=true:=by
  rw[rz,e0];split<;>decide
 rw[Tk,if_pos ok];congr 1;obtain⟨⟨b,l,k⟩,dN⟩:=r;simp only at h1 h2 h3 e0 e1 HY VR;have ek:(oz fun i=>((fB ⟨⟨b,l,k⟩,dN⟩).getD (2+i) 0).toNat)=k:=by
  refine uw fun i hi=>?_;rw[ux _ _ hi];simp only[List.getD,Sa _ i hi,avM,vJ];have:=jJ k i;omega
 have el:((dk l).toNat:Int)=l:=by
  obtain⟨n,rfl⟩: ∃n:Nat,l=n:=⟨l.toNat,oM⟩;rw[adf,vJ];omega
 have eh:uo (b8 (dN.toNat/256)) (b8 dN.toNat)=dN:=by
  apply UInt16.toNat_inj.1;have:=dN.toNat_lt;rw[JF,vJ,vJ];omega
 show(⟨⟨if(fB ⟨⟨b,l,k⟩,dN⟩).getD 0 0=1 then 128 else 32,((fB ⟨⟨b,l,k⟩,dN⟩).getD 1 0).toNat,oz fun i=>((fB ⟨⟨b,l,k⟩,dN⟩).getD (2+i) 0).toNat⟩,uo ((fB ⟨⟨b,l,k⟩,dN⟩).getD 18 0) ((fB ⟨⟨b,l,k⟩,dN⟩).getD 19 0)⟩:Rt)=_;rw[ek,e0,e1,HY,VR,el,eh];congr 2;rcases h1 with rfl|rfl<;>simp
theorem VS: ∀{l:List Rt},(∀r∈l,bu r.p=true)->ny (l.flatMap fB)=some l
 |[],_=>Te
 |r::l,h=>by
  rw[awB,LP (by rw[adr,rr];omega),List.take_left' (rr r),List.drop_left' (rr r),aho (h r (by simp)),VS fun r hr=>h r (by simp[hr])];rfl
theorem VT{t:List Rt}(n:Nat)(h: ∀r∈t,bu r.p=true): ∀k,ig (mn t k n)=some (t.take (k*n))
 |0=>by simp[mn,ig]
 |k+1=>by
  rw[aed,Hm,VT n h k,awI,ig,ig,sr,VS fun r hr=>h r (awD (avU hr))];simp only[auI,awI,auT,avz];rw[auz,Nat.one_mul,List.take_add]
theorem VU{t:List Rt}{ids room:Int}(h:jO t ids room=0):kf (lI t ids room)=t/\lJ (lI t ids room)=0:=by
 obtain⟨h1,h2,h3⟩: ¬jA ids room=0/\cS t=true/\ ¬jA ids room<t.length:=by
  unfold jO at h;split at h
  ·cases h
  rename_i hn;split at h
  ·cases h
  rename_i hm;exact⟨fun e=>hn (.inr e),by cases hr:cS t;exact absurd (.inl hr) hn;rfl,hm⟩
 have hm:=Hl h1;obtain⟨_,hV⟩:=LS h1 h2 h3;have rE:ids*(room/20)=((ids.toNat*(room/20).toNat:Nat):Int):=by
  rw[Int.natCast_mul,auU oM,auU oM]
 have hu:ig (lI t ids room)=some t:=by
  rw[hV,VT _ (ahn h2),aug oM]
 exact LR hu h2
theorem Np{t:List Rt}{ids room:Int}(h:jO t ids room=0): ¬jA ids room=0/\cS t=true/\ ¬jA ids room<t.length/\lI t ids room=mn t ids.toNat (room/20).toNat:=by
 unfold jO at h;split at h
 ·cases h
 rename_i hn;split at h
 ·cases h
 rename_i hm;have h1: ¬jA ids room=0:=fun e=>hn (.inr e);have h2:cS t=true:=by cases hr:cS t;exact absurd (.inl hr) hn;rfl
 exact⟨h1,h2,hm,(LS h1 h2 hm).2⟩
theorem ahp{t:List Rt}{ids room:Int}(h: ¬jO t ids room=0):lI t ids room=[]:=by rw[lI,if_neg h]
theorem Ei{t:List Rt}{ids room:Int}(h:jO t ids room=0):((lI t ids room).length:Int)=ids/\1<=ids/\ids<=64:=by
 obtain⟨h1,_,_,hV⟩:=Np h;have:=Hl h1;rw[hV,xM];omega
theorem ahq{t:List Rt}{ids room:Int}:(lI t ids room).length<=64/\ ∀x∈lI t ids room,x.length<=240:=by
 by_cases h:jO t ids room=0
 ·have h2:=Ei h;obtain⟨h1,_,_,hV⟩:=Np h;have hm:=Hl h1;refine⟨oM,fun x hx=>?_⟩;rw[hV]at hx;obtain⟨j,_,rfl⟩:=ava.1 hx;have:=LO t (room/20).toNat j;omega
 rw[ahp h];simp
theorem VW(a:List (List UInt8)):fq a a=[]:=by
 rw[fq,oV,List.filterMap_eq_nil_iff];intro i _;rw[uU,if_pos rfl]
theorem ahr{a b:List (List UInt8)}(hl:a.length=b.length):fq a b=[]↔a=b:=by
 refine⟨fun h=>?_,fun h=>by rw[h,VW]⟩;rw[fq,oV,List.filterMap_eq_nil_iff,hl,Nat.max_self]at h;refine au6 fun i=>?_
 by_cases hi:i<b.length
 ·
  have:=h i (auB.2 hi);unfold uU at this;split at this
  ·rename_i he;rw[at2 oM,at2 hi];simpa[List.getD,hi,show i<a.length by omega]using he
  cases this
 rw[aub oM,aub oM]
theorem Nq{a b:List (List UInt8)}{n:Nat}{p:Int×List UInt8}(h:p∈oV a b n): ∃i:Nat,i<n/\p=((i:Int),b.getD i [])/\ ¬a.getD i []=b.getD i []:=by
 rw[oV,List.mem_filterMap]at h;obtain⟨i,hi,he⟩:=h;unfold uU at he;split at he
 ·cases he
 rename_i hn;exact⟨i,auB.1 hi,(at1 he).symm,hn⟩
theorem Ie(a b:List (List UInt8)): ∀n,(oV a b n).Pairwise fun p q=>p.1<q.1
 |0=>List.Pairwise.nil
 |n+1=>by
  by_cases h:a.getD n []=b.getD n []
  ·rw[Ti h];exact Ie a b n
  rw[Tj h,awa];refine⟨Ie a b n,List.pairwise_singleton _ _,fun p hp q hq=>?_⟩;obtain⟨i,hi,rfl,_⟩:=Nq hp;obtain rfl:=auK.1 hq;simp only;omega
end Go.Kb
namespace Go.Proofs.YtkggjjnhnjjokaaGreatDoor
open Go.ax Go.Kb Go.RowKit Go.Proofs.Tryz
variable {w0:World}{L:List ai}
instance atd{f:bL}{l:Sv}{ls:List Ch}[hf:aX w0 L f][hl:dG w0 L dx 20 l ls]:bY prog 39 w0 L [.agg (cV f),l.val] (bL) (fun U=> .tuple #[.agg (cV U), .int .i64 ((bI (aI f) ls).2)]) (fun U=>fz U::L) (fun U=>aI U=(bI (aI f) ls).1) (gk f.aj.ae/\f.aj.at_.xs.length<=1000000/\f.table.xs.length<=1000000):=⟨fun aC w hw=>Gk (fun U=>[fz U]) hw (by
 have hf:=hf.h w hw;have hl:=hl.h w hw;have H5:cQ w f:=⟨hf⟩;have qF:Gv w l dx 20 ls:=⟨hl⟩;have zW:=aC;obtain⟨mq,jM,qL⟩:=aC;refine dD func39 rfl ntmps39 rfl ?_;refine Gc ?_;refine cn rfl fun b2=>bn fun b4=>al ?_;refine bb rfl trivial fun wH VM=>Gs ?_;refine ag (aB (v:=wH.sv.val) rfl rfl) (ag (aB (v:= .bool (jP (aI f))) rfl rfl) (aY ?_));refine Gb ?_ ?_<;>intro h0
 ·have hE:(bI (aI f) ls)=(aI f,1):=aeL h0;refine au ?_;refine bb rfl zW fun kj MQ=>al ?_;refine Gr fun w1 hw=>?_;exact⟨kj,by rw[hE],by rw[hE];exact MQ,ah.mem hw⟩
 have xh:lx wH=eX (aI f):=VM h0;refine ar ?_;refine bb rfl qL fun lM tK=>Gs ?_;refine ag (aB (v:=lM.val) rfl rfl) (ag (aB (v:= .int .i64 (dF f.table.xs ls)) rfl rfl) (aY ?_));refine Gb ?_ ?_<;>intro h1
 ·have hE:(bI (aI f) ls)=(aI f,dF f.table.xs ls):=TV h0 h1;refine au ?_;refine bb rfl zW fun aD xY=>ar ?_;refine Gr fun w1 hw=>?_;exact⟨aD,by rw[hE],by rw[hE];exact xY,ah.mem hw⟩
 refine Gc ?_;refine jt [10] [[],[],[],[],[],[],[],[],[],[],[],[10],[10],[10],[10],[10]] [0,1,2,3,4,5,6,7,8,9,10,11,12,13,14,15] _ (fun _ hw=>hw) oK oK (an rfl (bm rfl) (an rfl (aM (o':=0) rfl rfl) (an rfl (aM (o':=0) rfl rfl) (an rfl (fM rfl) (ze rfl (bK rfl trivial) (an rfl (aM (o':=0) rfl rfl) (an rfl (aM (o':=0) rfl rfl) (an rfl (aM (o':=1) rfl rfl) (an rfl (bE rfl) (ze rfl (bK rfl trivial) (dr rfl (qv rfl trivial fun tX Vl=>⟨fun _ hw=>ah.mem hw,?_⟩))))))))))));refine an rfl (bm rfl) (an rfl (aB (v:=tX.sv.val) rfl rfl) (an rfl (aB (v:= .int .i64 (jO (bT f.table.xs ls) (eJ (cv f.aj.ae)) (dY f.aj.ae.size))) rfl rfl) (an rfl (hO rfl) (an rfl (hO rfl) (ar ?_)))));refine Gb ?_ ?_<;>intro h2
 ·have hE:(bI (aI f) ls)=(aI f,(jO (bT f.table.xs ls) (eJ (cv f.aj.ae)) (dY f.aj.ae.size))):=TW h0 h1 h2;refine au ?_;refine bb rfl zW fun x51 ahs=>ar ?_;refine Gr fun w1 hw=>?_;exact⟨x51,by rw[hE],by rw[hE];exact ahs,ah.mem hw⟩
 have sj:lx tX=dL (aI f) ls:=Vl;have Bt:(eX (aI f)).length<=64:=aeK _;have wo:wH.xs.length<=1000000:=by rw[←xh,yU]at Bt;omega
 have HW:(dL (aI f) ls).length<=64/\ ∀x∈dL (aI f) ls,x.length<=240:=ahq;have aht:tX.xs.length<=1000000:=by have:=HW.1;rw[←sj,yU]at this;omega
 have ahu: ∀x∈tX.xs,x.xs.length<=140737488355328:=fun x hx=>by
  have hm:x.xs∈lx tX:=auq (f:=fun x:Sl UInt8=>x.xs) hx;rw[sj]at hm;have:=HW.2 _ hm;omega
 refine al ?_;refine bb rfl ⟨wo,aht,ahu⟩ fun sI VX=>aY ?_;refine Gb ?_ ?_<;>intro h3
 ·
  have Ej:fq (eX (aI f)) (dL (aI f) ls)=[]:=by rw[←xh,←sj,←VX,Ay,aun.1 (by omega:sI.xs.length=0)];rfl
  have hE:(bI (aI f) ls)=(⟨(aI f).aj,(bT f.table.xs ls)⟩,0):=TX h0 h1 h2 Ej;refine au ?_;refine bb rfl zW fun wI Ek=>ar ?_;refine dO (cs':=cV (⟨wI.aj,⟨lM,(bT f.table.xs ls)⟩⟩:bL)) rfl rfl (by show 9<10;decide) (by first|rfl|exact Sv.one _) rfl (aP ?_);refine Gr fun w1 hw=>?_;exact⟨(⟨wI.aj,⟨lM,(bT f.table.xs ls)⟩⟩:bL),by rw[hE],by rw[hE,←Ek];rfl,ahk (f:=wI) (ah.mem hw:Mem w [fz wI,own ay 19 lM (bT f.table.xs ls)] _)⟩
 have Ej:fq (eX (aI f)) (dL (aI f) ls)=sI.xs.map bw:=by rw[←xh,←sj,←VX];rfl
 have h3n: ¬fq (eX (aI f)) (dL (aI f) ls)=[]:=by rw[Ej];intro h;have:=congrArg List.length h;rw[aur,alM]at this;omega
 have ahv:sI.xs.length<=1000000:=by have:=congrArg List.length Ej;have hq:=Ho (eX (aI f)) (dL (aI f) ls) (max (eX (aI f)).length (dL (aI f) ls).length);rw[aur]at this;have h7:=HW.1;rw[fq]at this;omega
 have wF:=Hv h0 h1 h2 h3n;rw[Ej]at wF;refine au ?_;refine ag (fM rfl) (Gs ?_);refine bb rfl ⟨mq,jM,ahv⟩ fun fu MP=>Gs ?_;refine ag (aB (v:= .agg (cF (⟨fu.1,fu.2.1,fu.2.2.1,fu.2.2.2⟩:cB))) rfl rfl) (ag (aB (v:= .int .i64 ((fg (vv f.aj) (sI.xs.map bw)).2)) rfl rfl) (bn fun wy=>aY ?_));refine Gb ?_ ?_<;>intro h4
 ·have hE:(bI (aI f) ls)=(⟨(fg (vv f.aj) (sI.xs.map bw)).1,f.table.xs⟩,(fg (vv f.aj) (sI.xs.map bw)).2):=wF.trans (congrArg (fun z=>((⟨(fg (vv f.aj) (sI.xs.map bw)).1,z⟩:FV),(fg (vv f.aj) (sI.xs.map bw)).2)) (if_pos h4));refine Gi ?_;refine au ?_;refine bb rfl qL fun BM ate=>ar ?_;refine ag (cR (v:= .agg (cV (⟨(⟨fu.1,fu.2.1,fu.2.2.1,fu.2.2.2⟩:cB),⟨BM,f.table.xs⟩⟩:bL))) rfl (Ng (⟨fu.1,fu.2.1,fu.2.2.1,fu.2.2.2⟩:cB) ⟨BM,f.table.xs⟩)) (ar ?_);refine Gr fun w1 hw=>?_;exact⟨(⟨(⟨fu.1,fu.2.1,fu.2.2.1,fu.2.2.2⟩:cB),⟨BM,f.table.xs⟩⟩:bL),by rw[hE],by rw[hE];simp only[aI,vv,MP],Hs (f:=(⟨(⟨fu.1,fu.2.1,fu.2.2.1,fu.2.2.2⟩:cB),⟨BM,f.table.xs⟩⟩:bL)) (ah.mem (DA (a:=(⟨BM,f.table.xs⟩:Sl Rt)) (ah.mem hw:Mem w [own ay 19 BM f.table.xs,fz fu.1,fz fu.2.1] _)))⟩
 have hE:(bI (aI f) ls)=(⟨(fg (vv f.aj) (sI.xs.map bw)).1,(bT f.table.xs ls)⟩,(fg (vv f.aj) (sI.xs.map bw)).2):=wF.trans (congrArg (fun z=>((⟨(fg (vv f.aj) (sI.xs.map bw)).1,z⟩:FV),(fg (vv f.aj) (sI.xs.map bw)).2)) (if_neg (fun h=>h h4)));refine al ?_;refine ag (cR (v:= .agg (cV (⟨(⟨fu.1,fu.2.1,fu.2.2.1,fu.2.2.2⟩:cB),⟨lM,(bT f.table.xs ls)⟩⟩:bL))) rfl (Ng (⟨fu.1,fu.2.1,fu.2.2.1,fu.2.2.2⟩:cB) ⟨lM,(bT f.table.xs ls)⟩)) (ar ?_);refine Gr fun w1 hw=>?_;exact⟨(⟨(⟨fu.1,fu.2.1,fu.2.2.1,fu.2.2.2⟩:cB),⟨lM,(bT f.table.xs ls)⟩⟩:bL),by rw[hE],by rw[hE];simp only[aI,vv,MP],Hs (f:=(⟨(⟨fu.1,fu.2.1,fu.2.2.1,fu.2.2.2⟩:cB),⟨lM,(bT f.table.xs ls)⟩⟩:bL)) (ah.mem (DA (a:=(⟨lM,(bT f.table.xs ls)⟩:Sl Rt)) (ah.mem hw:Mem w [own ay 19 lM (bT f.table.xs ls),fz fu.1,fz fu.2.1] _)))⟩)⟩
theorem ahw(w0 w:World)[tb:iH w0](L:List ai)(k:Nat)(xf:bL)(xb:Sl Ch)(xa:Option Nat)(xt:Sl UInt8)(x:aO)(hw:Mem w0 (aq k (cd (⟨xf,xb,xa,xt⟩:ca)) 174::fz xf::own dx 20 xb.sv xb.xs::dP 5 xt.sv xt.xs::L) w)(aC:qG (⟨aI xf,xb.xs,xt.xs⟩:bh)=true/\eV x=true/\(xa=none\/xa=Option.some k)):Calls prog 91 #[.pointer (some ⟨k,0,none⟩), .agg (bA x)] w fun e w'=> ∃U:bL×Sl Ch×Option Nat×Sv,e= .returned (.tuple #[])/\(aI U.1=(cI (⟨aI xf,xb.xs,xt.xs⟩:bh) x).f/\U.2.1.xs=(cI (⟨aI xf,xb.xs,xt.xs⟩:bh) x).batch/\(U.2.2.1=none\/U.2.2.1=Option.some k))/\Mem w0 (aq k (cd (⟨U.1,U.2.1,U.2.2.1,⟨U.2.2.2,(cI (⟨aI xf,xb.xs,xt.xs⟩:bh) x).told⟩⟩:ca)) 174::fz U.1::own dx 20 U.2.1.sv U.2.1.xs::dP 5 U.2.2.2 (cI (⟨aI xf,xb.xs,xt.xs⟩:bh) x).told::L) w':=by
 obtain⟨eL,bJ,fC⟩:=aC;simp only[qG,xQ,af0,decide_eq_true_eq]at eL;obtain⟨⟨⟨⟨rW,ke⟩,zP⟩,dI⟩,jl⟩:=eL;have gQ:gk xf.aj.ae:=r9 rW;have Nr:xf.aj.at_.xs.length<=1000000:=ke;have Ig:xf.table.xs.length<=1000000:=zP;obtain⟨_,Ns,Nt,_,_⟩:=eN.1 rW;have pS:cT=1099511627776:=rfl;have ahx:0<=xf.aj.ae.ops:=Ns;have ahy:xf.aj.ae.ops<=cT:=Nt;have H2:x.kind=5\/x.kind=6->0<=x.n.toInt/\x.n.toInt<=999:=by
  intro h;have:=(qy.1 bJ).1;rw[kx,if_neg oM,if_neg oM,if_pos h]at this;exact of_decide_eq_true this
 refine hY (args:=[_,_]) func91 rfl ntmps91 rfl hw ?_;change Cw _ _ _ _ _ [(0, .pointer (some ⟨k,0,none⟩)),(1, .agg (bA x))] (aq k (cd (⟨xf,xb,xa,xt⟩:ca)) 174::fz xf::own dx 20 xb.sv xb.xs::dP 5 xt.sv xt.xs::L);refine Gc ?_;refine cn rfl fun b3=>cX ?_;refine Gb ?_ ?_<;>intro h0
 ·
  have hE:(cI (⟨aI xf,xb.xs,xt.xs⟩:bh) x)={(⟨aI xf,xb.xs,xt.xs⟩:bh)with batch:=xb.xs++[(⟨x.r,false⟩:Ch)]}:=by rw[cI,if_pos h0]
  have hT:(cI (⟨aI xf,xb.xs,xt.xs⟩:bh) x).told=xt.xs:=by rw[hE]
  rw[hT];refine pA [8,9,12,1004,2008] [[],[],[],[],[],[],[],[],[],[4,8],[4,8,9],[4,8,9],[4,8,9]] [0,1,2,3,4,5,6,7,8,9,10,11,12] [aq b3 (bA x) 73] [(8,oJ dx 20 1 [(⟨x.r,false⟩:Ch)])] oK (fun _ hw=>ah.mem hw) oK oK (an rfl (bm rfl) (an rfl (bm rfl) (an rfl (gE rfl) (an rfl (aM (o':=10) rfl rfl) (gq rfl (Ry.to (v':=xb.sv.val) (bE rfl) rfl) (an rfl (aM (o':=1) rfl rfl) (an rfl (fM rfl) (an rfl (cR (v:= .agg (dx (⟨x.r,false⟩:Ch))) rfl (fun w=>kRq)) (oI (m:=oJ dx 20 1 [(⟨x.r,false⟩:Ch)]) rfl rfl (vS (enc:=dx) (c:=20) (n:=1) (vals:=[.agg (dx (⟨x.r,false⟩:Ch))]) [(⟨x.r,false⟩:Ch)] rfl rfl rfl dDq dDq) (Cert.none rfl) fun Ih=>?_)))))))));change Ln _ _ _ _ _ _ _ _ (cr _ _ (Sv.val ⟨false,Ih,0,1,1,none⟩)) (own dx 20 ⟨false,Ih,0,1,1,none⟩ [(⟨x.r,false⟩:Ch)]::_) _;refine dr rfl (F7 (s:=xb.sv) (ys:=[(⟨x.r,false⟩:Ch)]) rfl rfl dDq (fun w hw=>iQ (s:=⟨false,Ih,0,1,1,none⟩) underlying45 dDq ((inferInstance:Hd _ _ ⟨false,Ih,0,1,1,none⟩ dx 20 [(⟨x.r,false⟩:Ch)]).h w hw)) (by simp only[adr,ad2,alM];omega) (by simp only[adr,ad2,alM];omega) fun VY atf atg=>⟨fun _ hw=>ah.mem hw,?_⟩);refine an rfl (gE rfl) (an rfl (aM (o':=10) rfl rfl) ?_);refine dr rfl (tg (cs':=cd (⟨xf,⟨VY,xb.xs++[(⟨x.r,false⟩:Ch)]⟩,xa,xt⟩:ca)) rfl rfl (by show 10<13;decide) (by first|rfl|exact Sv.one _) rfl ⟨fun _ hw=>ah.mem hw,?_⟩);refine Gc ?_;refine eE (.inr rfl) (kg rfl) (fun w1 hw=>?_);exact⟨(xf,⟨VY,xb.xs++[(⟨x.r,false⟩:Ch)]⟩,xa,xt.sv),rfl,⟨by rw[hE],by rw[hE],fC⟩,ah.mem hw⟩
 refine ar ?_;refine Gb ?_ ?_<;>intro h1
 ·
  have hE:(cI (⟨aI xf,xb.xs,xt.xs⟩:bh) x)={(⟨aI xf,xb.xs,xt.xs⟩:bh)with batch:=xb.xs++[(⟨x.r,true⟩:Ch)]}:=by rw[cI,if_neg h0,if_pos h1]
  have hT:(cI (⟨aI xf,xb.xs,xt.xs⟩:bh) x).told=xt.xs:=by rw[hE]
  rw[hT];refine pA [8,9,12,1004,2008] [[],[],[],[],[],[],[],[],[],[4,8],[4,8,9],[4,8,9],[4,8,9]] [0,1,2,3,4,5,6,7,8,9,10,11,12] [aq b3 (bA x) 73] [(8,oJ dx 20 1 [(⟨x.r,true⟩:Ch)])] oK (fun _ hw=>ah.mem hw) oK oK (an rfl (bm rfl) (an rfl (bm rfl) (an rfl (gE rfl) (an rfl (aM (o':=10) rfl rfl) (gq rfl (Ry.to (v':=xb.sv.val) (bE rfl) rfl) (an rfl (aM (o':=1) rfl rfl) (an rfl (fM rfl) (an rfl (cR (v:= .agg (dx (⟨x.r,true⟩:Ch))) rfl (fun w=>kRq)) (oI (m:=oJ dx 20 1 [(⟨x.r,true⟩:Ch)]) rfl rfl (vS (enc:=dx) (c:=20) (n:=1) (vals:=[.agg (dx (⟨x.r,true⟩:Ch))]) [(⟨x.r,true⟩:Ch)] rfl rfl rfl dDq dDq) (Cert.none rfl) fun Ii=>?_)))))))));change Ln _ _ _ _ _ _ _ _ (cr _ _ (Sv.val ⟨false,Ii,0,1,1,none⟩)) (own dx 20 ⟨false,Ii,0,1,1,none⟩ [(⟨x.r,true⟩:Ch)]::_) _;refine dr rfl (F7 (s:=xb.sv) (ys:=[(⟨x.r,true⟩:Ch)]) rfl rfl dDq (fun w hw=>iQ (s:=⟨false,Ii,0,1,1,none⟩) underlying45 dDq ((inferInstance:Hd _ _ ⟨false,Ii,0,1,1,none⟩ dx 20 [(⟨x.r,true⟩:Ch)]).h w hw)) (by simp only[adr,ad2,alM];omega) (by simp only[adr,ad2,alM];omega) fun Bv UC UD=>⟨fun _ hw=>ah.mem hw,?_⟩);refine an rfl (gE rfl) (an rfl (aM (o':=10) rfl rfl) ?_);refine dr rfl (tg (cs':=cd (⟨xf,⟨Bv,xb.xs++[(⟨x.r,true⟩:Ch)]⟩,xa,xt⟩:ca)) rfl rfl (by show 10<13;decide) (by first|rfl|exact Sv.one _) rfl ⟨fun _ hw=>ah.mem hw,?_⟩);refine Gc ?_;refine eE (.inr rfl) (kg rfl) (fun w1 hw=>?_);exact⟨(xf,⟨Bv,xb.xs++[(⟨x.r,true⟩:Ch)]⟩,xa,xt.sv),rfl,⟨by rw[hE],by rw[hE],fC⟩,ah.mem hw⟩
 refine ar ?_;refine Gb ?_ ?_<;>intro h2
 ·
  have hE:(cI (⟨aI xf,xb.xs,xt.xs⟩:bh) x)=jC {(⟨aI xf,xb.xs,xt.xs⟩:bh)with f:=(bI (aI xf) xb.xs).1,batch:=[]} pZ (bI (aI xf) xb.xs).2:=by rw[cI,if_neg h0,if_neg h1,if_pos h2]
  have hT:(cI (⟨aI xf,xb.xs,xt.xs⟩:bh) x).told=xt.xs++jR [111,107] (bI (aI xf) xb.xs).2++[10]:=by rw[hE];rfl
  rw[hT];refine Gi ?_;refine pA [8,12,13,2012,4008] [[],[],[],[],[],[],[],[],[],[8],[8],[8],[],[8,12],[8,12,13]] [0,1,2,3,4,5,6,7,8,9,10,11,12,13,14] [aq k (cd (⟨xf,xb,xa,xt⟩:ca)) 174,fz xf,own dx 20 xb.sv xb.xs,dP 5 xt.sv xt.xs,aq b3 (bA x) 73] [(12,mG prog 65)] oK (fun _ hw=>ah.mem hw) oK oK (an rfl (bm rfl) (an rfl (gE rfl) (an rfl (aM (o':=0) rfl rfl) (an rfl (Ry.to (v':= .agg (cV xf)) (fM rfl) rfl) (an rfl (bm rfl) (an rfl (gE rfl) (an rfl (aM (o':=10) rfl rfl) (an rfl (Ry.to (v':=xb.sv.val) (bE rfl) rfl) ?_))))))));refine vR rfl rfl ⟨gQ,Nr,Ig⟩ (fun e x w hw=>ah.mem hw) (Cert.one (i:=12) rfl rfl rfl mH (Cert.none rfl)) fun tU MJ=>⟨fun _ hw=>ah.mem hw,?_⟩;refine an rfl (bm rfl) (an rfl (aB (v:= .agg (cV tU)) rfl rfl) (an rfl (aB (v:= .int .i64 ((bI (aI xf) xb.xs).2)) rfl rfl) (oI (m:=mG prog 65) rfl rfl mH (Cert.none rfl) fun b4=>?_)));change Ln _ _ _ _ _ _ _ _ (cr _ _ (.pointer (some ⟨b4,0,none⟩))) (aq b4 (cV nz) 65::_) _;refine dr rfl (qw rfl rfl ⟨fun _ hw=>ah.mem hw,?_⟩);refine an rfl (hO rfl) (aY ?_);refine qX (cs':=cd (⟨tU,xb,xa,xt⟩:ca)) rfl rfl (by show 0+10<=13;decide) rfl (au ?_);refine dO (cs':=cd (⟨tU,⟨Sv.none,[]⟩,xa,xt⟩:ca)) rfl rfl (by show 10<13;decide) rfl rfl (al ?_);refine bb rfl ⟨by simp only[ad2,alM];omega,fC,HB _ _⟩ fun x59 ath=>Gc ?_;refine eE (.inr rfl) (kg rfl) (fun w1 hw=>?_);exact⟨(tU,⟨Sv.none,[]⟩,(Option.some k),x59),rfl,⟨by rw[hE,MJ];rfl,by rw[hE];rfl, .inr rfl⟩,ah.mem (Mem.dE dx 20 hw)⟩
 refine ar ?_;refine Gb ?_ ?_<;>intro h3
 ·
  have hE:(cI (⟨aI xf,xb.xs,xt.xs⟩:bh) x)=mZ (⟨aI xf,xb.xs,xt.xs⟩:bh) x:=by rw[cI,if_neg h0,if_neg h1,if_neg h2,if_pos h3]
  have hT:(cI (⟨aI xf,xb.xs,xt.xs⟩:bh) x).told=(mZ (⟨aI xf,xb.xs,xt.xs⟩:bh) x).told:=by rw[hE]
  rw[hT];have hF:(mZ (⟨aI xf,xb.xs,xt.xs⟩:bh) x).f=aI xf/\(mZ (⟨aI xf,xb.xs,xt.xs⟩:bh) x).batch=xb.xs:=by rw[mZ];split<;>exact⟨rfl,rfl⟩
  refine Gi ?_;refine au ?_;refine bb rfl ⟨oM,fC⟩ fun x64 ati=>Gc ?_;refine eE (.inr rfl) (kg rfl) (fun w1 hw=>?_);exact⟨(xf,xb,(Option.some k),x64),rfl,⟨by rw[hE];exact hF.1.symm,by rw[hE];exact hF.2.symm, .inr rfl⟩,ah.mem hw⟩
 refine qY (X:=Bool) (fun U=>[(65, .bool U),(0, .pointer (some ⟨k,0,none⟩)),(3, .pointer (some ⟨b3,0,none⟩)),(7, .int .i64 x.kind)]) (fun U=>aq b3 (bA x) 73::aq k (cd (⟨xf,xb,xa,xt⟩:ca)) 174::fz xf::own dx 20 xb.sv xb.xs::dP 5 xt.sv xt.xs::L) (fun U=>U=decide (x.kind=5\/x.kind=6)) ?_ ?_
 ·
  refine ar ?_;refine Gb ?_ ?_<;>intro h4
  ·refine Gi ?_;exact gD (decide (x.kind=5)) (by simp[h4]) sb (fun w hw=>ah.mem hw)
  refine Gi ?_;refine au ?_;refine Gi ?_;exact gD (decide (x.kind=6)) (by simp[h4]) sb (fun w hw=>ah.mem hw)
 rintro z hz;refine Gb ?_ ?_<;>intro h5
 ·
  have qJ:x.kind=5\/x.kind=6:=of_decide_eq_true (hz.symm.trans h5);obtain⟨uY,xS⟩:=H2 qJ;have hE:(cI (⟨aI xf,xb.xs,xt.xs⟩:bh) x)=p0 (⟨aI xf,xb.xs,xt.xs⟩:bh) x:=by rw[cI,if_neg h0,if_neg h1,if_neg h2,if_neg h3,if_pos qJ]
  have hT:(cI (⟨aI xf,xb.xs,xt.xs⟩:bh) x).told=xt.xs:=by rw[hE];rw[p0];split<;>rfl
  rw[hT];have hB:(p0 (⟨aI xf,xb.xs,xt.xs⟩:bh) x).batch=xb.xs:=by rw[p0];split<;>rfl
  refine Gi ?_;refine au ?_;refine bb rfl ⟨gQ,oM,oM⟩ fun x70 ahz=>Gc ?_;refine eE (.inr rfl) (kg rfl) (fun w1 hw=>?_);exact⟨(x70,xb,xa,xt.sv),rfl,⟨by rw[hE];exact ahz,by rw[hE];exact hB.symm,fC⟩,ah.mem hw⟩
 have qJ: ¬(x.kind=5\/x.kind=6):=of_decide_eq_false (hz.symm.trans h5);refine ar ?_;refine Gb ?_ ?_<;>intro h6
 ·
  have hE:(cI (⟨aI xf,xb.xs,xt.xs⟩:bh) x)=jD (⟨aI xf,xb.xs,xt.xs⟩:bh):=by rw[cI,if_neg h0,if_neg h1,if_neg h2,if_neg h3,if_neg qJ,if_pos h6]
  have hT:(cI (⟨aI xf,xb.xs,xt.xs⟩:bh) x).told=(jD (⟨aI xf,xb.xs,xt.xs⟩:bh)).told:=by rw[hE]
  rw[hT];have hB:(jD (⟨aI xf,xb.xs,xt.xs⟩:bh)).batch=xb.xs:=by
   rw[jD];split
   ·rfl
   split<;>rfl
  refine Gi ?_;refine Gs ?_;refine bb rfl ⟨gQ,oM,fC⟩ fun VZ ahA=>Gc ?_;refine eE (.inr rfl) (kg rfl) (fun w1 hw=>?_);exact⟨(VZ.1,xb,(Option.some k),VZ.2),rfl,⟨by rw[hE];exact ahA,by rw[hE];exact hB.symm, .inr rfl⟩,ah.mem hw⟩
 refine ar ?_;refine Gb ?_ ?_<;>intro h7
 ·
  have hE:(cI (⟨aI xf,xb.xs,xt.xs⟩:bh) x)=oZ (⟨aI xf,xb.xs,xt.xs⟩:bh):=by rw[cI,if_neg h0,if_neg h1,if_neg h2,if_neg h3,if_neg qJ,if_neg h6,if_pos h7]
  have hT:(cI (⟨aI xf,xb.xs,xt.xs⟩:bh) x).told=(oZ (⟨aI xf,xb.xs,xt.xs⟩:bh)).told:=by rw[hE]
  rw[hT];have hF:(oZ (⟨aI xf,xb.xs,xt.xs⟩:bh)).f=aI xf/\(oZ (⟨aI xf,xb.xs,xt.xs⟩:bh)).batch=xb.xs:=⟨(Eh _ _).1,(Eh _ _).2.1⟩;refine Gi ?_;refine Gs ?_;refine bb rfl ⟨Ig,oM,fC⟩ fun x78 atj=>Gc ?_;refine eE (.inr rfl) (kg rfl) (fun w1 hw=>?_);exact⟨(xf,xb,(Option.some k),x78),rfl,⟨by rw[hE];exact hF.1.symm,by rw[hE];exact hF.2.symm, .inr rfl⟩,ah.mem hw⟩
 have hE:(cI (⟨aI xf,xb.xs,xt.xs⟩:bh) x)=(⟨aI xf,xb.xs,xt.xs⟩:bh):=by rw[cI,if_neg h0,if_neg h1,if_neg h2,if_neg h3,if_neg qJ,if_neg h6,if_neg h7]
 have hT:(cI (⟨aI xf,xb.xs,xt.xs⟩:bh) x).told=xt.xs:=by rw[hE]
 rw[hT];refine Gc ?_;refine eE (.inr rfl) (kg rfl) (fun w1 hw=>?_);exact⟨(xf,xb,xa,xt.sv),rfl,⟨by rw[hE],by rw[hE],fC⟩,ah.mem hw⟩
instance atk{w0:World}[tb:iH w0]{L R1 R2 R3 L2:List ai}{i0 i1 i2 i3:Nat}{k:Nat}{xf:bL}{xb:Sl Ch}{xa:Option Nat}{xt:Sl UInt8}{x:aO}[q0:Has L k (cd (⟨xf,xb,xa,xt⟩:ca)) 174 i0][d0:ct L i0 R1][q1:At R1 (fz xf) i1][d1:ct R1 i1 R2][q2:gg R2 xb.sv dx 20 xb.xs i2][d2:ct R2 i2 R3][q3:mI R3 xt.sv 5 xt.xs i3][d3:ct R3 i3 L2]:bY prog 91 w0 L [.pointer (some ⟨k,0,none⟩), .agg (bA x)] (bL×Sl Ch×Option Nat×Sv) (fun U=> .tuple #[]) (fun U=>aq k (cd (⟨U.1,U.2.1,U.2.2.1,⟨U.2.2.2,(cI (⟨aI xf,xb.xs,xt.xs⟩:bh) x).told⟩⟩:ca)) 174::fz U.1::own dx 20 U.2.1.sv U.2.1.xs::dP 5 U.2.2.2 (cI (⟨aI xf,xb.xs,xt.xs⟩:bh) x).told::L2) (fun U=>aI U.1=(cI (⟨aI xf,xb.xs,xt.xs⟩:bh) x).f/\U.2.1.xs=(cI (⟨aI xf,xb.xs,xt.xs⟩:bh) x).batch/\(U.2.2.1=none\/U.2.2.1=Option.some k)) (qG (⟨aI xf,xb.xs,xt.xs⟩:bh)=true/\eV x=true/\(xa=none\/xa=Option.some k)):=⟨fun hp w hw=>ahw w0 w L2 k xf xb xa xt x (T7 q0.h d0.h q1.h d1.h q2.h d2.h q3.h d3.h hw) hp⟩
end Go.Proofs.YtkggjjnhnjjokaaGreatDoor
