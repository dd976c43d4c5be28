/- Part of a proof. -/
import Derived.Test.YtaipiecplldinaaGreatG5
import Derived.Test.YtaipiecplldinaaGreatG3
import Derived.Test.YtaipiecplldinaaGreatG4
import Derived.Test.YtaipiecplldinaaGreatG1
import Derived.Test.YtaipiecplldinaaGreatG2
import Derived.Lib.ReflectliteSwap
import Derived.Laws.Externs
set_option maxRecDepth 20000
set_option linter.unusedSimpArgs false
set_option linter.unusedVariables false
namespace Go.Proofs.YtaipiecplldinaaGreat
open Go.ay Go.Kb
theorem Yj(w:World)(b:Sv)(bs:List UInt8)(hb:bW aM 1 (hp w) b bs)(bf:bs.length=20):Calls Tryz.prog 139 #[b.val] w fun e w'=>e= .returned (.tuple #[.agg (ax (rdv bs)), .bool (nN bs)])∧Mem w [] w':=by
 have vC:Gv w b aM 1 bs:=⟨hb⟩
 have eg: ∀(i:Nat) e,bs[i]? =some e→bs.getD i 0=e:=fun i e h=>by simp[List.getD,h]
 obtain⟨e6,Nn⟩:=get_some (xs:=bs) (i:=0) (by omega)
 have Ac:=eg 0 e6 Nn
 refine bh (args:=[_]) Tryz.func139 rfl Tryz.ntmps139 rfl ?_
 change Cw _ _ _ _ _ [(0,b.val)] []
 refine aO ?_
 refine ba ?_
 refine bM fun b2=> ?_
 refine ah (bn rfl) ?_
 refine aY ?_
 refine aN ?_
 refine aO ?_
 refine ba ?_
 refine bM fun b4=> ?_
 refine aY ?_
 refine aN ?_
 refine wo (X:=Unit) (fun zz=>[(0,b.val),(2, .pointer (some ⟨b2,0,none⟩)),(4, .pointer (some ⟨b4,0,none⟩))]) (fun zz=>[ar b4 ((ax jx).setIfInBounds 0 (.int .i64 (if e6=1 then 128 else 32))) 68,ar b2 (ax jx) 68]) (fun zz=>e6≤1) ?_ ?_
 ·
  refine aO ?_
  refine ba ?_
  refine ah (aE rfl) ?_
  refine ah (bo rfl rfl 0 rfl (by omega)) ?_
  refine ah (bO (j:=0) rfl 0 Nn rfl (by decide)) ?_
  refine aY ?_
  refine aN ?_
  refine lE ?_
  refine aO ?_
  refine ba ?_
  refine ah (cz rfl rfl rfl) ?_
  refine ah (bn rfl) ?_
  refine aY ?_
  refine aN ?_
  refine av rfl (fun h0=> ?_) (fun h0=> ?_)
  ·
   try simp only[Z0,Z1,Z2,Z3,Z4,Z5,Z6,Z7,Z8,Z9]at h0
   obtain rfl:e6=0:=UInt8.toNat_inj.1 (by simp;omega)
   refine ba ?_
   refine ah (aI (o':=0) rfl rfl) ?_
   refine ah (aI (o':=0) rfl rfl) ?_
   refine eV rfl rfl (by simp[kx]) rfl rfl ?_
   refine aY ?_
   refine oZ ?_
   exact oY () (by decide) (Sub.cons rfl (Sub.cons rfl (Sub.cons rfl (Sub.nil _)))) (fun w hw=>hw)
  ·
   try simp only[Z0,Z1,Z2,Z3,Z4,Z5,Z6,Z7,Z8,Z9]at h0
   refine aO ?_
   refine ba ?_
   refine ah (cz rfl rfl rfl) ?_
   refine ah (bn rfl) ?_
   refine aY ?_
   refine aN ?_
   refine av rfl (fun h1=> ?_) (fun h1=> ?_)
   ·
    try simp only[Z0,Z1,Z2,Z3,Z4,Z5,Z6,Z7,Z8,Z9]at h1
    obtain rfl:e6=1:=UInt8.toNat_inj.1 (by simp;omega)
    refine ba ?_
    refine ah (aI (o':=0) rfl rfl) ?_
    refine ah (aI (o':=0) rfl rfl) ?_
    refine eV rfl rfl (by simp[kx]) rfl rfl ?_
    refine aY ?_
    refine oZ ?_
    exact oY () (by decide) (Sub.cons rfl (Sub.cons rfl (Sub.cons rfl (Sub.nil _)))) (fun w hw=>hw)
   ·
    try simp only[Z0,Z1,Z2,Z3,Z4,Z5,Z6,Z7,Z8,Z9]at h1
    have No: ¬e6≤1:=fun h=>by rw[UInt8.le_iff_toNat_le]at h;simp at h;omega
    refine aO ?_
    refine ba ?_
    refine ah (sV rfl) ?_
    refine qN rfl rfl ?_
    refine ah (bn rfl) ?_
    refine aY ?_
    refine aN ?_
    refine eF ?_
    refine mB ?_
    refine fq ?_
    refine au (.inl rfl) (bq rfl (ck rfl) (aq rfl)) (fun w1 hw=> ?_)
    exact⟨by rw[show nN bs=false from by rw[nN,Ac];exact decide_eq_false No,show rdv bs=jx from if_neg (by rw[nN,Ac];simpa using No)],ai.mem hw⟩
 ·
  rintro⟨⟩ hJ
  refine aO ?_
  refine ba ?_
  refine ah (aE rfl) ?_
  obtain⟨C0,Np⟩:=get_some (xs:=bs) (i:=1) (by omega)
  refine ah (bo rfl rfl 1 rfl (by omega)) ?_
  refine ah (bO (j:=0) rfl 1 Np rfl (by decide)) ?_
  have Yk:=eg 1 C0 Np
  refine ah (uP rfl) ?_
  refine ah (aI (o':=0) rfl rfl) ?_
  refine ah (aI (o':=1) rfl rfl) ?_
  refine eV rfl rfl (by simp[kx]) rfl rfl ?_
  refine aY ?_
  refine aN ?_
  refine aO ?_
  refine jd [5] [[],[],[],[],[],[]] [0,1,2,3,4,5] [] (fun _ hw=>ai.mem hw) (by kernel_rfl) (by kernel_rfl) ?_
  refine al rfl (aI (o':=0) rfl rfl) ?_
  refine al rfl (aI (o':=2) rfl rfl) ?_
  refine al rfl (uD rfl) ?_
  refine al rfl (aE rfl) ?_
  have CA:Rg 2 18 bs.length:=⟨by omega⟩
  refine al rfl (A1 rfl rfl rfl 2 18 rfl rfl CA.h.1 CA.h.2) ?_
  refine dC rfl (RK (ys:=(bs.drop 2).take 16) rfl rfl (by simp;omega) (by simp;omega) (by simp[kx];omega) rfl ⟨fun _ hw=>ai.mem hw,?_⟩)
  refine Bq ?_
  refine aN ?_
  refine aO ?_
  refine jd [11] [[],[],[],[],[],[],[],[],[],[],[],[]] [0,1,2,3,4,5,6,7,8,9,10,11] [] (fun _ hw=>ai.mem hw) (by kernel_rfl) (by kernel_rfl) ?_
  refine al rfl (aE rfl) ?_
  obtain⟨Ym,Nq⟩:=get_some (xs:=bs) (i:=18) (by omega)
  refine al rfl (bo rfl rfl 18 rfl (by omega)) ?_
  refine al rfl (bO (j:=0) rfl 18 Nq rfl (by decide)) ?_
  have Yn:=eg 18 Ym Nq
  refine al rfl (uP rfl) ?_
  refine al rfl (I6 rfl rfl) ?_
  refine al rfl (aE rfl) ?_
  obtain⟨Yo,Nr⟩:=get_some (xs:=bs) (i:=19) (by omega)
  refine al rfl (bo rfl rfl 19 rfl (by omega)) ?_
  refine al rfl (bO (j:=0) rfl 19 Nr rfl (by decide)) ?_
  have Yp:=eg 19 Yo Nr
  refine al rfl (uP rfl) ?_
  refine al rfl (I7 rfl rfl) ?_
  refine al rfl (aI (o':=18) rfl rfl) ?_
  refine dC rfl (wK rfl rfl (by rw[mE (by rw[List.size_toArray,gX];simp[kx];omega)];simp[kx]) rfl rfl ⟨fun _ hw=>ai.mem hw,?_⟩)
  refine Bq ?_
  refine aN ?_
  refine aO ?_
  refine qU [ar b4 (ax (oF bs)) 68,ar b2 (ax jx) 68] (fun w hw=> ?_) ?_
  ·
   rw[←T1 (b:=bs) bf (if e6=1 then 128 else 32) (by rw[Ac]),Yk,Yn,Yp];exact hw
  refine ba ?_
  refine ah (gu rfl) ?_
  refine qN rfl rfl ?_
  refine ah (bn rfl) ?_
  refine aY ?_
  refine aN ?_
  refine eF ?_
  refine au (.inl rfl) (bq rfl (ck rfl) (aq rfl)) (fun w1 hw=> ?_)
  exact⟨by rw[show rdv bs=oF bs from if_pos (by rw[nN,Ac];exact decide_eq_true hJ),show nN bs=true from by rw[nN,Ac];exact decide_eq_true hJ],ai.mem hw⟩
instance aiR{w0:World}{L:List ak}{b:Sv}{bs:List UInt8}[hb:c8 w0 L aM 1 b bs]:cR Tryz.prog 139 w0 L [b.val] (.tuple #[.agg (ax (rdv bs)), .bool (nN bs)]) (bs.length=20):=⟨fun hp w hw=>Yj w b bs (hb.h w hw) hp⟩
open Go.ay Go.Kb
instance aiS{w0:World}{L:List ak}{s:Sv}{xs:List UInt8}{r:Rt}{i:Nat}{L':Sv→List ak}[q:fL L s aM 1 xs i][u: ∀s',fE L i (own aM 1 s' (xs++eO r)) (L' s')]:cw Tryz.prog 113 w0 L [s.val, .agg (ax r)] Sv (fun s=>s.val) L' (fun _=>True) (xs.length≤1000000):=⟨fun hp w hw=>
 (XY w0 w (L.eraseIdx i) s xs r (hw.perm (nu q.h)) hp).mono fun e w' ⟨s',h1,h2,h3,h4⟩=>⟨s',h1,trivial,by
  rw[←(u s').h]
  exact h4.perm (set_perm _ L i (At.lt q.h))⟩⟩
theorem Yq(w:World)(a:Sl (Sl UInt8))(ha:Deep.aZ (hp w) a)(bf:a.xs.length≤1000∧ ∀x∈a.xs,x.xs.length≤100000):Calls Tryz.prog 101 #[a.sv.val] w fun e w'=> ∃zz:Sv,e= .returned (.tuple #[zz.val, .int .i64 (iT (lx a))])∧(True)∧Mem w [own ax 19 zz (ij (lx a))] w':=by
 have Gm:cM w a:=⟨ha⟩
 obtain⟨mn,sk⟩:=bf
 have hl:=uQ a
 refine bh (args:=[_]) Tryz.func101 rfl Tryz.ntmps101 rfl ?_
 change Cw _ _ _ _ _ [(0,a.sv.val)] []
 refine aO ?_
 refine ba ?_
 refine ah (bn rfl) ?_
 refine ah (bn rfl) ?_
 refine aY ?_
 refine aN ?_
 refine aO ?_
 refine ba ?_
 refine ah (bn rfl) ?_
 refine aY ?_
 refine aN ?_
 refine aO ?_
 refine aO ?_
 refine ba ?_
 refine ah (aE rfl) ?_
 refine ah (lb rfl) ?_
 refine ah (aE rfl) ?_
 refine aY ?_
 refine aN ?_
 refine lE ?_
 refine ct (X:=Nat×Sv×List Rt) (fun zz=>[(11, .int .i64 (zz.1:Nat)),(4,zz.2.1.val),(9,a.sv.val),(10, .int .i64 (a.xs.length:Nat))]) (fun zz=>[own ax 19 zz.2.1 zz.2.2]) (fun zz=>zz.1≤a.xs.length∧fT ((lx a).take zz.1)=some zz.2.2∧zz.2.2.length≤zz.1*100000) (fun zz=>a.xs.length -zz.1) (0,Sv.none,[]) ⟨by first|omega|(simp only[];omega),rfl,by simp⟩ (Sub.cons rfl (Sub.cons rfl (Sub.cons rfl (Sub.cons rfl (Sub.nil _))))) (fun w hw=>Mem.dQ ax 19 hw) ?_
 rintro⟨i,t,q⟩ ⟨bl,aH,bB⟩
 dsimp only
 simp only at bl aH bB
 refine aO ?_
 refine ba ?_
 refine ah (cz rfl rfl rfl) ?_
 refine aY ?_
 refine aN ?_
 refine aO ?_
 refine av rfl (fun h0=> ?_) (fun h0=> ?_)
 ·
  try simp only[Z0,Z1,Z2,Z3,Z4,Z5,Z6,Z7,Z8,Z9]at h0
  refine gf ?_
  refine aN ?_
  refine aO ?_
  refine lE ?_
  refine aO ?_
  refine ba ?_
  obtain⟨x,hx⟩:=get_some (xs:=a.xs) (i:=i) (by omega)
  refine ah (bo rfl rfl i rfl (by omega)) ?_
  refine ah (bO (j:=0) rfl i hx rfl (by decide)) ?_
  have MB:Mb x _:=⟨List.mem_of_getElem? hx⟩
  have ex:(lx a)[i]? =some x.xs:=by simp[lx,hx]
  have Cz:Mb x _:=⟨List.mem_of_getElem? hx⟩
  refine ah (bn rfl) ?_
  refine aY ?_
  refine aN ?_
  refine aO ?_
  refine aO ?_
  refine ba ?_
  refine ah (aE rfl) ?_
  refine ah (lb rfl) ?_
  refine ah (yI (p:=x.xs.length) (q:=20) rfl rfl rfl rfl (by omega)) ?_
  refine ah (cz rfl rfl rfl) ?_
  refine aY ?_
  refine aN ?_
  refine av rfl (fun h1=> ?_) (fun h1=> ?_)
  ·
   try simp only[Z0,Z1,Z2,Z3,Z4,Z5,Z6,Z7,Z8,Z9]at h1
   have hO:fT (lx a)=none:=LC (i:=i+1) (by rw[FZ ex,aH,LB _ x.xs (Nat.le_refl _) (by omega)];rfl)
   refine aO ?_
   refine ba ?_
   refine ah (bn rfl) ?_
   refine ah (bn rfl) ?_
   refine aY ?_
   refine aN ?_
   refine eF ?_
   refine fq ?_
   refine mB ?_
   refine fq ?_
   refine fq ?_
   refine mB ?_
   refine fq ?_
   refine au (.inl rfl) (bq rfl (aq rfl) (aq rfl)) (fun w1 hw=> ?_)
   exact⟨Sv.none,by rw[(Ci hO).2];rfl,trivial,by rw[(Ci hO).1];exact(ai.mem hw:Mem w [] _).dQ ax 19⟩
  ·
   try simp only[Z0,Z1,Z2,Z3,Z4,Z5,Z6,Z7,Z8,Z9]at h1
   refine gf ?_
   refine aN ?_
   refine lE ?_
   refine ct (X:=Sv×List UInt8×Sv×List Rt) (fun zz=>[(6,zz.1.val),(4,zz.2.2.1.val),(9,a.sv.val),(10, .int .i64 (a.xs.length:Nat)),(11, .int .i64 (i:Nat))]) (fun zz=>[own ax 19 zz.2.2.1 zz.2.2.2]) (fun zz=> ∃pre,zz.2.2.2=q++pre∧ln x.xs=(ln zz.2.1).map (pre++ ·)∧bW aM 1 (hp w) zz.1 zz.2.1∧zz.2.1.length%20=0∧zz.2.2.2.length+zz.2.1.length≤(i+1)*100000) (fun zz=>zz.2.1.length) (x.sv,x.xs,t,q) ⟨[],by simp,by cases ln x.xs<;>rfl,(ha.2 x (List.mem_of_getElem? hx)).1,by first|omega|(simp only[];omega),by have:=sk x (List.mem_of_getElem? hx);simp only;omega⟩ (Sub.cons rfl (Sub.cons rfl (Sub.cons rfl (Sub.cons rfl (Sub.cons rfl (Sub.nil _)))))) (fun w hw=>ai.mem hw) ?_
   rintro⟨cu,cs,t2,q2⟩ ⟨pre,iV,dO,iX,lz,xS⟩
   dsimp only
   simp only at iV dO iX lz xS
   have gcu:Gv w cu aM 1 cs:=⟨iX⟩
   refine aO ?_
   refine aO ?_
   refine ba ?_
   refine ah (aE rfl) ?_
   refine ah (lb rfl) ?_
   refine ah (cz rfl rfl rfl) ?_
   refine aY ?_
   refine aN ?_
   refine av rfl (fun h2=> ?_) (fun h2=> ?_)
   ·
    try simp only[Z0,Z1,Z2,Z3,Z4,Z5,Z6,Z7,Z8,Z9]at h2
    have Yr:20≤cs.length:=by omega
    have He:(cs.drop 0).take (20 -0)=cs.take 20:=by simp
    have ec:=FY Yr
    rw[LH]at ec
    refine gf ?_
    refine aN ?_
    refine aO ?_
    refine lE ?_
    refine aO ?_
    refine ba ?_
    refine ah (aE rfl) ?_
    have Ys:Rg 0 20 cs.length:=⟨by omega⟩
    refine ah (I9 rfl rfl 20 rfl Ys.h.2) ?_
    refine fF (cJ rfl (by simp;omega)) ?_
    refine ah (aE rfl) ?_
    refine ah (aU (v:= .agg (ax (rdv ((cs.drop 0).take (20 -0))))) rfl rfl) ?_
    refine ah (aU (v:= .bool (nN ((cs.drop 0).take (20 -0)))) rfl rfl) ?_
    refine bM fun b7=> ?_
    refine qN rfl rfl ?_
    refine ah (bn rfl) ?_
    refine aY ?_
    refine aN ?_
    refine aO ?_
    refine aO ?_
    refine ba ?_
    refine ah (aE rfl) ?_
    refine ah (iD rfl) ?_
    refine aY ?_
    refine aN ?_
    refine av rfl (fun h3=> ?_) (fun h3=> ?_)
    ·
     try simp only[Z0,Z1,Z2,Z3,Z4,Z5,Z6,Z7,Z8,Z9]at h3
     rw[He]at h3
     have hO:fT (lx a)=none:=LC (i:=i+1) (by rw[FZ ex,aH,dO,ec,h3];rfl)
     refine aO ?_
     refine ba ?_
     refine ah (bn rfl) ?_
     refine ah (bn rfl) ?_
     refine aY ?_
     refine aN ?_
     refine eF ?_
     refine fq ?_
     refine mB ?_
     refine fq ?_
     refine fq ?_
     refine mB ?_
     refine mB ?_
     refine fq ?_
     refine fq ?_
     refine mB ?_
     refine fq ?_
     refine au (.inl rfl) (bq rfl (aq rfl) (aq rfl)) (fun w1 hw=> ?_)
     exact⟨Sv.none,by rw[(Ci hO).2];rfl,trivial,by rw[(Ci hO).1];exact(ai.mem hw:Mem w [] _).dQ ax 19⟩
    ·
     try simp only[Z0,Z1,Z2,Z3,Z4,Z5,Z6,Z7,Z8,Z9]at h3
     rw[He]at h3
     rw[h3]at ec
     simp only[if_true,Option.bind_some]at ec
     have Yt:rdv ((cs.drop 0).take (20 -0))=oF (cs.take 20):=by rw[He,rdv,if_pos h3]
     refine gf ?_
     refine aN ?_
     refine ba ?_
     refine ah (aE rfl) ?_
     refine ah (gu rfl) ?_
     refine pa (enc:=ax) (vals:=[_]) [(rdv ((cs.drop 0).take (20 -0)))] rfl rfl rfl (by decide) (by decide) fun z8=> ?_
     refine lZ (s:=t2) (ys:=[(rdv ((cs.drop 0).take (20 -0)))]) rfl rfl (by decide) (fun w hw=>kO (s:=⟨false,z8,0,1,1,none⟩) Tryz.underlying52 (by decide) ((inferInstance:Hd _ _ ⟨false,z8,0,1,1,none⟩ ax 19 [(rdv ((cs.drop 0).take (20 -0)))]).h w hw)) (by simp only[List.length_cons,List.length_nil];omega) (by simp only[List.length_cons,List.length_nil];omega) fun Yu aiT aiU=> ?_
     refine ah (bn rfl) ?_
     refine aY ?_
     refine oZ ?_
     refine aN ?_
     refine ba ?_
     refine ah (aE rfl) ?_
     have Yv:Rg 20 cs.length cs.length:=⟨by omega⟩
     refine ah (A2 rfl rfl 20 rfl Yv.h.1) ?_
     refine ah (bn rfl) ?_
     refine aY ?_
     exact bI (x:=(cu,cs,t2,q2)) (_,cs.drop 20,Yu,q2++[oF (cs.take 20)]) ⟨pre++[oF (cs.take 20)],by simp[iV],by rw[dO,ec];cases ln (cs.drop 20)<;>simp,by have:=iX.sub (lo:=20) (hi:=cs.length) (by first|omega|(simp only[];omega)) (Nat.le_refl _);rwa [List.take_of_length_le (by rw[List.length_drop];omega)]at this,by simp only[List.length_drop];omega,by simp only[List.length_append,List.length_drop,List.length_cons,List.length_nil];omega⟩ (by simp only[List.length_drop];omega) (Sub.cons rfl (Sub.cons rfl (Sub.cons rfl (Sub.cons rfl (Sub.cons rfl (Sub.nil _)))))) (fun w hw=>by rw[Yt]at hw;exact ai.mem hw)
   ·
    try simp only[Z0,Z1,Z2,Z3,Z4,Z5,Z6,Z7,Z8,Z9]at h2
    refine rP ?_
    refine lX ?_
    refine lX ?_
    refine rQ ?_
    refine oZ ?_
    refine aN ?_
    refine ba ?_
    refine ah (pS rfl rfl (by omega)) ?_
    refine ah (aE rfl) ?_
    refine aY ?_
    exact bI (x:=(i,t,q)) (i+1,t2,q2) ⟨by first|omega|(simp only[];omega),by rw[FZ ex,aH,Option.bind_some,dO,show cs=[]from List.length_eq_zero_iff.1 (by first|omega|(simp only[];omega)),FX];simp[iV],by simp only;omega⟩ (by simp only;omega) (Sub.cons rfl (Sub.cons rfl (Sub.cons rfl (Sub.cons rfl (Sub.nil _))))) (fun w hw=>ai.mem hw)
 ·
  try simp only[Z0,Z1,Z2,Z3,Z4,Z5,Z6,Z7,Z8,Z9]at h0
  refine rP ?_
  refine lX ?_
  refine lX ?_
  refine rQ ?_
  refine aN ?_
  refine aO ?_
  refine aO ?_
  have fG:fT (lx a)=some q:=by rw[←aH,List.take_of_length_le (by omega)]
  refine ba ?_
  refine ah (aE rfl) ?_
  refine fF (cJ rfl trivial) ?_
  refine ah (iD rfl) ?_
  refine aY ?_
  refine aN ?_
  refine av rfl (fun h4=> ?_) (fun h4=> ?_)
  ·
   try simp only[Z0,Z1,Z2,Z3,Z4,Z5,Z6,Z7,Z8,Z9]at h4
   refine aO ?_
   refine ba ?_
   refine ah (bn rfl) ?_
   refine ah (bn rfl) ?_
   refine aY ?_
   refine aN ?_
   refine eF ?_
   refine fq ?_
   refine au (.inl rfl) (bq rfl (aq rfl) (aq rfl)) (fun w1 hw=> ?_)
   exact⟨Sv.none,by rw[(LD fG h4).2];rfl,trivial,by rw[(LD fG h4).1];exact(ai.mem hw:Mem w [] _).dQ ax 19⟩
  ·
   try simp only[Z0,Z1,Z2,Z3,Z4,Z5,Z6,Z7,Z8,Z9]at h4
   refine gf ?_
   refine aN ?_
   refine aO ?_
   refine ba ?_
   refine ah (aE rfl) ?_
   refine ah (bn rfl) ?_
   refine ah (bn rfl) ?_
   refine aY ?_
   refine aN ?_
   refine eF ?_
   refine au (.inl rfl) (bq rfl (aq rfl) (aq rfl)) (fun w1 hw=> ?_)
   exact⟨t,by rw[(F0 fG h4).2],trivial,by rw[(F0 fG h4).1];exact hw⟩
instance Yw{w0:World}{L:List ak}{a:Sl (Sl UInt8)}[ha:aW w0 L a]:cw Tryz.prog 101 w0 L [a.sv.val] (Sv) (fun zz=> .tuple #[zz.val, .int .i64 (iT (lx a))]) (fun zz=>own ax 19 zz (ij (lx a))::L) (fun zz=>True) (a.xs.length≤1000∧ ∀x∈a.xs,x.xs.length≤100000):=⟨fun hp w hw=>(Yq w a (ha.h w hw) hp).mono fun e w' ⟨x,h1,h2,h3⟩=>⟨x,h1,h2,hw.call h3⟩⟩
open Go.ay Go.Kb
open Go.ay Go.Kb
theorem Yx(w:World)(t:Sv)(ts:List Rt)(ids:Int)(room:Int)(ht:bW ax 19 (hp w) t ts):Calls Tryz.prog 76 #[t.val, .int .i64 ids, .int .i64 room] w fun e w'=> ∃zz:Sl (Sl UInt8),e= .returned (.tuple #[zz.sv.val, .int .i64 (jk ts ids room)])∧(lx zz=jV ts ids room)∧Mem w [Deep.bT zz] w':=by
 have CB:Gv w t ax 19 ts:=⟨ht⟩
 refine bh (args:=[_,_,_]) Tryz.func76 rfl Tryz.ntmps76 rfl ?_
 change Cw _ _ _ _ _ [(0,t.val),(1, .int .i64 ids),(2, .int .i64 room)] []
 refine aO ?_
 refine ba ?_
 refine ah (bn rfl) ?_
 refine ah (bn rfl) ?_
 refine aY ?_
 refine aN ?_
 refine aO ?_
 refine ba ?_
 refine ah (aE rfl) ?_
 refine ah (aE rfl) ?_
 refine fF (cJ rfl trivial) ?_
 refine ah (bn rfl) ?_
 refine aY ?_
 refine aN ?_
 refine aO ?_
 refine aO ?_
 refine ba ?_
 refine ah (aE rfl) ?_
 refine ah (cz rfl rfl rfl) ?_
 refine ah (aE rfl) ?_
 refine bS rfl rfl rfl (fun hg=>(Ry.yl (aE rfl))) ?_
 refine bS rfl rfl rfl (fun hg=>cJ (dI (aG hg rfl) gN) trivial) ?_
 refine bS rfl rfl rfl (fun hg=>(Ry.yl (iD (aG hg rfl)))) ?_
 refine ah (lU rfl rfl rfl) ?_
 refine aY ?_
 refine aN ?_
 refine av rfl (fun h0=> ?_) (fun h0=> ?_)
 ·
  try simp only[Z0,Z1,Z2,Z3,Z4,Z5,Z6,Z7,Z8,Z9]at h0
  refine aO ?_
  refine ba ?_
  refine ah (bn rfl) ?_
  refine ah (bn rfl) ?_
  refine aY ?_
  refine aN ?_
  refine eF ?_
  refine fq ?_
  refine au (.inl rfl) (bq rfl (aq rfl) (aq rfl)) (fun w1 hw=> ?_)
  exact⟨⟨Sv.none,[]⟩,by rw[(LK h0).1];rfl,(LK h0).2.symm,Mem.A3 (enc:=cd) (c:=1) (ai.mem hw)⟩
 ·
  try simp only[Z0,Z1,Z2,Z3,Z4,Z5,Z6,Z7,Z8,Z9]at h0
  obtain⟨C1,Hf⟩:=h0
  have hm:=Cf C1
  obtain⟨k,hk⟩: ∃k:Nat,ids=k:=⟨ids.toNat,by omega⟩
  obtain⟨n,hn⟩: ∃n:Nat,room/20=n:=⟨(room/20).toNat,by omega⟩
  have oL:ids*(room/20)=((k*n:Nat):Int):=by rw[hk,hn,Int.natCast_mul]
  have ek:ids.toNat=k:=by omega
  have en:(room/20).toNat=n:=by omega
  refine gf ?_
  refine aN ?_
  refine aO ?_
  refine aO ?_
  refine ba ?_
  refine ah (aE rfl) ?_
  refine ah (lb rfl) ?_
  refine ah (aE rfl) ?_
  refine ah (cz rfl rfl rfl) ?_
  refine aY ?_
  refine aN ?_
  refine av rfl (fun h1=> ?_) (fun h1=> ?_)
  ·
   try simp only[Z0,Z1,Z2,Z3,Z4,Z5,Z6,Z7,Z8,Z9]at h1
   refine aO ?_
   refine ba ?_
   refine ah (bn rfl) ?_
   refine ah (bn rfl) ?_
   refine aY ?_
   refine aN ?_
   refine eF ?_
   refine fq ?_
   refine au (.inl rfl) (bq rfl (aq rfl) (aq rfl)) (fun w1 hw=> ?_)
   exact⟨⟨Sv.none,[]⟩,by rw[(LL C1 Hf h1).1];rfl,(LL C1 Hf h1).2.symm,Mem.A3 (enc:=cd) (c:=1) (ai.mem hw)⟩
  ·
   try simp only[Z0,Z1,Z2,Z3,Z4,Z5,Z6,Z7,Z8,Z9]at h1
   have hE:=F1 C1 Hf h1
   rw[ek,en]at hE
   have xu:ts.length≤k*n:=by omega
   have hl:=ht.bd
   refine gf ?_
   refine aN ?_
   refine aO ?_
   refine ba ?_
   refine ah (aE rfl) ?_
   refine QX (τ:=UInt8) (n:=k) (cap:=k) rfl rfl (by omega) (by omega) (by omega) (by omega) (by omega) fun dB Yy=> ?_
   refine ah (bn rfl) ?_
   refine aY ?_
   refine aN ?_
   refine aO ?_
   refine aO ?_
   refine ba ?_
   refine ah (aE rfl) ?_
   refine ah (lb rfl) ?_
   refine ah (aE rfl) ?_
   refine aY ?_
   refine aN ?_
   refine lE ?_
   refine ct (X:=Nat×Sl (Sl UInt8)) (fun zz=>[(31, .int .i64 (zz.1:Nat)),(9,zz.2.sv.val),(2, .int .i64 room),(29,t.val),(30, .int .i64 (ts.length:Nat))]) (fun zz=>[Deep.bT zz.2]) (fun zz=>zz.1≤ts.length∧lx zz.2=ll (ts.take zz.1) k n) (fun zz=>ts.length -zz.1) (0,dB) ⟨by first|omega|(simp only[];omega),by rw[TY];show List.map _ _=_;rw[Yy];simp⟩ (Sub.cons rfl (Sub.cons rfl (Sub.cons rfl (Sub.cons rfl (Sub.cons rfl (Sub.nil _)))))) (fun w hw=>ai.mem hw) ?_
   rintro⟨i,a⟩ ⟨bl,aH⟩
   dsimp only
   simp only at bl aH
   refine aO ?_
   refine ba ?_
   refine ah (cz rfl rfl rfl) ?_
   refine aY ?_
   refine aN ?_
   refine aO ?_
   refine av rfl (fun h2=> ?_) (fun h2=> ?_)
   ·
    try simp only[Z0,Z1,Z2,Z3,Z4,Z5,Z6,Z7,Z8,Z9]at h2
    refine gf ?_
    refine aN ?_
    refine aO ?_
    refine lE ?_
    refine aO ?_
    refine ba ?_
    refine ah (aE rfl) ?_
    obtain⟨vO,Hg⟩:=get_some (xs:=ts) (i:=i) (by omega)
    refine ah (bo rfl rfl i rfl (by omega)) ?_
    refine ah (jb rfl i Hg rfl) ?_
    refine bM fun pE=> ?_
    refine ah (bn rfl) ?_
    refine qN rfl rfl ?_
    refine aY ?_
    refine aN ?_
    refine aO ?_
    refine ba ?_
    refine ah (aE rfl) ?_
    refine ah (aE rfl) ?_
    refine ah (n7 rfl rfl (by omega) (by omega)) ?_
    refine ah (n7 rfl rfl (by omega) (by omega)) ?_
    refine ah (bn rfl) ?_
    refine aY ?_
    refine aN ?_
    have bx:i/n<k:=Nat.div_lt_of_lt_mul (by rw[Nat.mul_comm];omega)
    have Hh:i/n<a.xs.length:=by rw[←uQ,aH,tI];exact bx
    obtain⟨x,hx⟩:=get_some (xs:=a.xs) (i:=i/n) Hh
    have ex:(lx a)[i/n]? =some x.xs:=by simp[lx,hx]
    have xU:((i:Nat):Int)/(room/20)=((i/n:Nat):Int):=by rw[hn];exact(Int.natCast_ediv i n).symm
    have E8:x.xs.length≤240:=by
     rw[aH,ll,List.getElem?_map]at ex
     obtain⟨j,_,hj⟩:=Option.map_eq_some_iff.1 ex
     have:=LA (ts.take i) n j
     rw[hj]at this;omega
    refine qU (own cd 1 a.sv a.xs::own aM 1 x.sv x.xs::ar pE (ax vO) 68::(a.xs.eraseIdx (i/n)).map Deep.bT) (fun w hw=>(Tr.QY (B:=[ar pE (ax vO) 68]) hx).mem hw) ?_
    refine IV 9 [7] [own cd 1 a.sv a.xs,ar pE (ax vO) 68] (fun w hw=>ai.mem hw) (by kernel_rfl) (by kernel_rfl) ?_
    simp only[List.take_succ_cons,List.take_zero]
    refine bA (aE rfl) ?_
    refine bA (aE rfl) ?_
    refine bA (aE rfl) ?_
    refine bA (aE rfl) ?_
    refine bA (bo rfl rfl (i/n) xU Hh) ?_
    refine bA (bO (j:=0) rfl (i/n) hx rfl (by decide)) ?_
    have aiV:Mb x _:=⟨List.mem_of_getElem? hx⟩
    refine bA (gu rfl) ?_
    refine Ql ?_
    refine bA (bo rfl rfl (i/n) xU Hh) ?_
    refine sW ?_ (fun _ hw=>ai.mem hw)
    refine QN rfl rfl (by omega) (fun _ w hw=>ai.mem hw) fun xH Wp=> ?_
    refine sX ?_
    simp only[List.drop_succ_cons,List.drop_zero]
    refine A6 (k:=i/n) ⟨xH,x.xs++eO vO⟩ (by kernel_rfl) rfl rfl rfl hx ?_
    refine aY ?_
    refine oZ ?_
    refine aN ?_
    refine ba ?_
    refine ah (pS rfl rfl (by omega)) ?_
    refine ah (aE rfl) ?_
    refine aY ?_
    exact bI (x:=(i,a)) (i+1,⟨a.sv,a.xs.set (i/n) ⟨xH,x.xs++eO vO⟩⟩) ⟨by first|omega|(simp only[];omega),by rw[T2,TX (by first|omega|(simp only[];omega)) Hg (by rw[←aH];exact ex),←aH];rfl⟩ (by first|omega|(simp only[];omega)) (Sub.cons rfl (Sub.cons rfl (Sub.cons rfl (Sub.cons rfl (Sub.cons rfl (Sub.nil _)))))) (fun w hw=>ai.mem ((Tr.QZ (B:=[ar pE (ax vO) 68]) (enc:=aM) (c:=1) (by rw[←uQ,aH,tI];exact bx)).mem hw))
   ·
    try simp only[Z0,Z1,Z2,Z3,Z4,Z5,Z6,Z7,Z8,Z9]at h2
    refine rP ?_
    refine lX ?_
    refine lX ?_
    refine rQ ?_
    refine aN ?_
    refine aO ?_
    refine ba ?_
    refine ah (aE rfl) ?_
    refine ah (bn rfl) ?_
    refine ah (bn rfl) ?_
    refine aY ?_
    refine aN ?_
    refine eF ?_
    refine au (.inl rfl) (bq rfl (aq rfl) (aq rfl)) (fun w1 hw=> ?_)
    exact⟨a,by rw[hE.1],by rw[aH,hE.2,List.take_of_length_le (by omega)],hw⟩
instance aiW{w0:World}{L:List ak}{t:Sv}{ts:List Rt}{ids:Int}{room:Int}[ht:c8 w0 L ax 19 t ts]:cw Tryz.prog 76 w0 L [t.val, .int .i64 ids, .int .i64 room] (Sl (Sl UInt8)) (fun zz=> .tuple #[zz.sv.val, .int .i64 (jk ts ids room)]) (fun zz=>Deep.bT zz::L) (fun zz=>lx zz=jV ts ids room) (True):=⟨fun hp w hw=>(Yx w t ts ids room (ht.h w hw)).mono fun e w' ⟨x,h1,h2,h3⟩=>⟨x,h1,h2,hw.call h3⟩⟩
open Go.ay Go.Kb
open Go.RowKit
instance:fo Tryz.prog 54 (.agg (bQ lp)):=⟨by kernel_rfl⟩
theorem Hi(v:bU)(t:Sl Rt)(w:World):(Instr.build 54 #[(0, .agg (bN v)),(1,t.sv.val)]).run Tryz.prog w= .ok (.agg (bQ ⟨v,t⟩)) w:=by
 obtain⟨s,xs⟩:=t
 obtain⟨⟨a1,a2,⟨a3,a4⟩,a5,a6,⟨a7,a8⟩⟩,⟨a9,Yz⟩,YA,YB⟩:=v
 unfold bQ
 obtain⟨e,b,o,l,c,p⟩:=s
 obtain⟨e3,b3,o3,l3,c3,p3⟩:=a3
 obtain⟨e7,b7,o7,l7,c7,p7⟩:=a7
 obtain⟨e9,b9,o9,l9,c9,p9⟩:=a9
 cases e<;>cases e3<;>cases e7<;>cases e9<;>kernel_rfl
theorem YC(w:World)(b:Int)(p:Int)(s:Int):Calls Tryz.prog 58 #[.int .i64 b, .int .i64 p, .int .i64 s] w fun e w'=>e= .returned (.int .i64 (ru b p s))∧Mem w [] w':=by
 have Hc:=Uy b p
 have Ms:=Mi s
 refine bh (args:=[_,_,_]) Tryz.func58 rfl Tryz.ntmps58 rfl ?_
 change Cw _ _ _ _ _ [(0, .int .i64 b),(1, .int .i64 p),(2, .int .i64 s)] []
 refine Gc ?_
 refine Gs ?_
 refine Gc ?_
 iterate 3 refine Gs ?_
 refine ah (n7 rfl rfl (by omega) (by omega)) ?_
 iterate 2 refine Gs ?_
 refine ah (D8 rfl rfl) ?_
 refine Gs ?_
 refine Gc ?_
 refine au (.inl rfl) (aQ rfl (aq rfl)) (fun w1 hw=> ?_)
 exact⟨congrArg (fun b=>Ending.returned (Value.int .i64 b)) ((by rw[ru])),ai.mem hw⟩
instance aiX{w0:World}{L:List ak}{b:Int}{p:Int}{s:Int}:cR Tryz.prog 58 w0 L [.int .i64 b, .int .i64 p, .int .i64 s] (.int .i64 (ru b p s)) (True):=⟨fun hp w hw=>YC w b p s⟩
theorem YD(w:World)(b:Int)(p:Int)(s:Int):Calls Tryz.prog 24 #[.int .i64 b, .int .i64 p, .int .i64 s] w fun e w'=>e= .returned (.int .i64 (kD b p s))∧Mem w [] w':=by
 refine bh (args:=[_,_,_]) Tryz.func24 rfl Tryz.ntmps24 rfl ?_
 change Cw _ _ _ _ _ [(0, .int .i64 b),(1, .int .i64 p),(2, .int .i64 s)] []
 refine Gc ?_
 refine Gs ?_
 refine Gc ?_
 iterate 8 refine Gs ?_
 refine Gc ?_
 refine au (.inl rfl) (aQ rfl (aq rfl)) (fun w1 hw=> ?_)
 exact⟨congrArg (fun b=>Ending.returned (Value.int .i64 b)) ((by rw[kD])),ai.mem hw⟩
instance aiY{w0:World}{L:List ak}{b:Int}{p:Int}{s:Int}:cR Tryz.prog 24 w0 L [.int .i64 b, .int .i64 p, .int .i64 s] (.int .i64 (kD b p s)) (True):=⟨fun hp w hw=>YD w b p s⟩
theorem YE(w:World)(c:Cp)(hc:Deep.aZ (hp w) c):Calls Tryz.prog 72 #[.agg (aF c)] w fun e w'=>e= .returned (.int .i64 (dm (cv c)))∧Mem w [] w':=by
 have kl:cM w c:=⟨hc⟩
 refine bh (args:=[_]) Tryz.func72 rfl Tryz.ntmps72 rfl ?_
 change Cw _ _ _ _ _ [(0, .agg (aF c))] []
 refine Gc ?_
 refine cA rfl fun b1=> ?_
 refine Gs ?_
 refine Gc ?_
 iterate 9 refine Gs ?_
 refine Gc ?_
 refine au (.inl rfl) (aQ rfl (aq rfl)) (fun w1 hw=> ?_)
 exact⟨congrArg (fun b=>Ending.returned (Value.int .i64 b)) ((by simp only[dm,cv,gD])),ai.mem hw⟩
instance aiZ{w0:World}{L:List ak}{c:Cp}[hc:aW w0 L c]:cR Tryz.prog 72 w0 L [.agg (aF c)] (.int .i64 (dm (cv c))) (True):=⟨fun hp w hw=>YE w c (hc.h w hw)⟩
theorem YF(w:World)(c:Cp)(hc:Deep.aZ (hp w) c):Calls Tryz.prog 70 #[.agg (aF c)] w fun e w'=>e= .returned (.int .i64 (dG (cv c)))∧Mem w [] w':=by
 have kl:cM w c:=⟨hc⟩
 refine bh (args:=[_]) Tryz.func70 rfl Tryz.ntmps70 rfl ?_
 change Cw _ _ _ _ _ [(0, .agg (aF c))] []
 refine Gc ?_
 refine cA rfl fun b1=> ?_
 refine Gs ?_
 refine Gc ?_
 iterate 9 refine Gs ?_
 refine Gc ?_
 refine au (.inl rfl) (aQ rfl (aq rfl)) (fun w1 hw=> ?_)
 exact⟨congrArg (fun b=>Ending.returned (Value.int .i64 b)) ((by simp only[dG,cv,gD])),ai.mem hw⟩
instance ai0{w0:World}{L:List ak}{c:Cp}[hc:aW w0 L c]:cR Tryz.prog 70 w0 L [.agg (aF c)] (.int .i64 (dG (cv c))) (True):=⟨fun hp w hw=>YF w c (hc.h w hw)⟩
open Go.ay Go.Kb
open Go.RowKit
theorem YG(w:World)(v:bU)(id:Nat)(hv:Deep.aZ (hp w) v)(bf:aT (cv v.ag)=true∧id<v.at_.xs.length∧ ∀y∈v.at_.xs,0≤y∧y≤65535∧(y≠0→jS (cv v.ag) (y -1)=true)):Calls Tryz.prog 100 #[.agg (bN v), .int .i64 (id:Nat)] w fun e w'=> ∃zz:Sv,e= .returned (zz.val)∧(True)∧Mem w [own aM 1 zz (dY (cv v.ag) (v.at_.xs.getD id 0))] w':=by
 have zG:cM w v:=⟨hv⟩
 obtain⟨hk,hG,hQ⟩:=bf
 obtain⟨y,hy⟩:=get_some (xs:=v.at_.xs) (i:=id) hG
 have nf:v.at_.xs.getD id 0=y:=oz hy
 obtain⟨uN,zB,bE⟩:=hQ y (List.mem_of_getElem? hy)
 refine bh (args:=[_,_]) Tryz.func100 rfl Tryz.ntmps100 rfl ?_
 change Cw _ _ _ _ _ [(0, .agg (bN v)),(1, .int .i64 (id:Nat))] []
 refine Gc ?_
 refine cA rfl fun b2=> ?_
 refine Gs ?_
 refine Gc ?_
 iterate 3 refine Gs ?_
 refine ah (bo rfl rfl id rfl (by omega)) ?_
 refine ah (bO (j:=0) rfl id hy rfl (by decide)) ?_
 iterate 2 refine Gs ?_
 refine Gc ?_
 iterate 2 refine Gs ?_
 refine Gc ?_
 refine av rfl (fun h0=> ?_) (fun h0=> ?_)
 ·
  replace h0:=bz h0
  have hE:(dY (cv v.ag) (v.at_.xs.getD id 0))=[]:=by rw[nf,dY,if_pos (by omega)]
  refine Gc ?_
  refine Gs ?_
  refine Gc ?_
  refine au (.inl rfl) (aQ rfl (aq rfl)) (fun w1 hw=> ?_)
  exact⟨Sv.none,rfl,trivial,by rw[hE];exact Mem.dQ aM 1 (ai.mem hw:Mem w [] _)⟩
 ·
  replace h0:=bz h0
  have h1y:1≤y:=by omega
  obtain⟨g1,g2,g3⟩:=mU.1 (bE (by omega))
  have dF:=gD v.ag.blocks.xs
  have ik:=kR.1 (eL.1 hk).1
  simp only[cv,dF]at ik
  have zJ:0≤((y -1)/v.ag.ae):=Int.ediv_nonneg (by omega) (by omega)
  have lP:0≤((y -1)%v.ag.ae):=Int.emod_nonneg _ (by omega)
  have na:((y -1)%v.ag.ae)<v.ag.ae:=Int.emod_lt_of_pos _ (by omega)
  have kF:=va (c:=v.ag) (b:=((y -1)/v.ag.ae))
  change 2≤((y -1)/v.ag.ae)at g1
  change((y -1)/v.ag.ae)<((iE v.ag.blocks.xs).length:Int)at g2
  rw[dF]at g2
  obtain⟨B,hB⟩:=get_some (xs:=v.ag.blocks.xs) (i:=((y -1)/v.ag.ae).toNat) (by omega)
  have qy:Mb B v.ag.blocks:=⟨List.mem_of_getElem? hB⟩
  have eI:bv B=aj (cv v.ag) ((y -1)/v.ag.ae):=by rw[←kF];simp[List.getD,hB]
  have fV:=eX.1 ((eL.1 hk).2.2.2.2 (bv B) (List.mem_of_getElem? (lK hB)))
  have iW:=mN B.ae.xs
  have zK:(B.ae.xs.length:Int)=v.ag.ae:=by have:=fV.1;simp only[bv,cv,iW]at this;exact this
  obtain⟨z,hz⟩:=get_some (xs:=B.ae.xs) (i:=((y -1)%v.ag.ae).toNat) (by omega)
  have tP:Mb z B.ae:=⟨List.mem_of_getElem? hz⟩
  have mn:bD (cv v.ag) (y -1)=z.xs:=by
   show(aj (cv v.ag) ((y -1)/v.ag.ae)).ae.getD ((y -1)%v.ag.ae).toNat []=z.xs
   rw[←eI]
   simp[bv,List.getD,ov hz]
  have hI:(dY (cv v.ag) (v.at_.xs.getD id 0))=jC (cv v.ag) y:=by rw[nf,dY,if_neg (by omega)]
  refine Gc ?_
  refine pf [18,22,23,2022,4018] [[],[],[],[],[],[],[],[],[],[],[],[],[],[],[],[],[],[],[],[18],[18],[18],[],[18,22],[18,22,23]] [0,1,2,3,4,5,6,7,8,9,10,11,12,13,14,15,16,17,18,19,20,21,22,23,24] [ar b2 (bN v) 29] [(22,j9 Tryz.prog 110)] (by kernel_rfl) (fun _ hw=>ai.mem hw) (by kernel_rfl) (by kernel_rfl) ?_
  refine al rfl (aI (o':=0) rfl rfl) ?_
  refine al rfl (aI (o':=2) rfl rfl) ?_
  refine al rfl (bJ rfl) ?_
  refine al rfl (aE rfl) ?_
  refine al rfl (aI (o':=0) rfl rfl) ?_
  refine al rfl (aI (o':=0) rfl rfl) ?_
  refine al rfl (bJ rfl) ?_
  refine al rfl (n7 rfl rfl (by omega) (by omega)) ?_
  refine al rfl (bo rfl rfl (((y -1)/v.ag.ae).toNat) (by omega) (by omega)) ?_
  refine al rfl (aI rfl rfl) ?_
  refine al rfl (bO (j:=0) rfl (((y -1)/v.ag.ae).toNat) hB rfl (by decide)) ?_
  refine al rfl (aE rfl) ?_
  refine al rfl (aI (o':=0) rfl rfl) ?_
  refine al rfl (aI (o':=0) rfl rfl) ?_
  refine al rfl (bJ rfl) ?_
  refine al rfl (yy rfl rfl (by omega) (by omega)) ?_
  refine al rfl (bo rfl rfl (((y -1)%v.ag.ae).toNat) (by omega) (by omega)) ?_
  refine al rfl (bO (j:=0) rfl (((y -1)%v.ag.ae).toNat) hz rfl (by decide)) ?_
  refine qY rfl rfl trivial (fun e x w hw=>ai.mem hw) (Cert.one (i:=22) rfl rfl rfl jy (Cert.none rfl)) fun zX M5=>⟨fun _ hw=>ai.mem hw,?_⟩
  have e1:zX.body.xs=(cO z.xs).1.body:=congrArg PV.body M5
  refine al rfl (aE rfl) ?_
  refine al rfl (aU (v:= .agg (cL zX)) rfl rfl) ?_
  refine al rfl (aU (v:= .int .i64 ((cO z.xs).2)) rfl rfl) ?_
  refine nB (m:=j9 Tryz.prog 110) rfl rfl jy (Cert.none rfl) fun b6=> ?_
  change Ln _ _ _ _ _ _ _ _ (cy _ _ (.pointer (some ⟨b6,0,none⟩))) (ar b6 (cL mR) 110::_) _
  refine dC rfl (mJ rfl rfl ⟨fun _ hw=>ai.mem hw,?_⟩)
  refine al rfl (bn rfl) ?_
  refine Gc ?_
  iterate 2 refine Gs ?_
  refine Gc ?_
  refine av rfl (fun h1=> ?_) (fun h1=> ?_)
  ·
   replace h1:=bz h1
   have hE:(dY (cv v.ag) (v.at_.xs.getD id 0))=[]:=by rw[hI,jC,mn,if_neg h1]
   refine Gc ?_
   refine Gs ?_
   refine Gc ?_
   refine au (.inl rfl) (aQ rfl (aq rfl)) (fun w1 hw=> ?_)
   exact⟨Sv.none,rfl,trivial,by rw[hE];exact Mem.dQ aM 1 (ai.mem hw:Mem w [] _)⟩
  ·
   replace h1:=bz h1
   have xV:(cO z.xs).2=0:=h1
   have hE:(dY (cv v.ag) (v.at_.xs.getD id 0))=zX.body.xs:=by rw[hI,jC,mn,if_pos xV,e1]
   refine Gc ?_
   iterate 3 refine Gs ?_
   refine Gc ?_
   refine au (.inl rfl) (aQ rfl (aq rfl)) (fun w1 hw=> ?_)
   exact⟨zX.body.sv,rfl,trivial,by rw[hE];exact ai.mem hw⟩
instance ai1{w0:World}{L:List ak}{v:bU}{id:Nat}[hv:aW w0 L v]:cw Tryz.prog 100 w0 L [.agg (bN v), .int .i64 (id:Nat)] (Sv) (fun zz=>zz.val) (fun zz=>own aM 1 zz (dY (cv v.ag) (v.at_.xs.getD id 0))::L) (fun zz=>True) (aT (cv v.ag)=true∧id<v.at_.xs.length∧ ∀y∈v.at_.xs,0≤y∧y≤65535∧(y≠0→jS (cv v.ag) (y -1)=true)):=⟨fun hp w hw=>(YG w v id (hv.h w hw) hp).mono fun e w' ⟨x,h1,h2,h3⟩=>⟨x,h1,h2,hw.call h3⟩⟩
open Go.ay Go.Kb
open Go.RowKit
theorem YH(w:World)(s:Sl (Sl UInt8))(hs:Deep.aZ (hp w) s)(bf:s.xs.length≤1000000):Calls Tryz.prog 109 #[s.sv.val] w fun e w'=> ∃zz:Sv,e= .returned (zz.val)∧(True)∧Mem w [own (cd (τ:=UInt8)) 1 zz s.xs] w':=by
 have vz:cM w s:=⟨hs⟩
 refine bh (args:=[_]) Tryz.func109 rfl Tryz.ntmps109 rfl ?_
 change Cw _ _ _ _ _ [(0,s.sv.val)] []
 refine Gc ?_
 refine Gs ?_
 refine Gc ?_
 refine Gs ?_
 refine ah (rS Tryz.underlying46 rfl) ?_
 refine Gc ?_
 refine av rfl (fun h0=> ?_) (fun h0=> ?_)
 ·
  replace h0:=bz h0
  have e0:s.xs=[]:=List.length_eq_zero_iff.1 (by have:=hs.1.ok.nil h0;have:=hs.1.len;omega)
  refine Gc ?_
  refine Gs ?_
  refine Gc ?_
  refine au (.inl rfl) (aQ rfl (aq rfl)) (fun w1 hw=> ?_)
  exact⟨Sv.none,rfl,trivial,by rw[e0];exact(ai.mem hw:Mem w [] _).dQ (cd (τ:=UInt8)) 1⟩
 ·
  replace h0:=bz h0
  refine Gc ?_
  refine ti (cd (τ:=UInt8)) fun b5=> ?_
  refine Gs ?_
  refine lZ (s:=⟨false,b5,0,0,0,none⟩) (enc:=(cd (τ:=UInt8))) (ys:=s.xs) rfl rfl (by decide) (fun w hw=>kO (s:=s.sv) Tryz.underlying46 (by decide) ((inferInstance:c8 _ _ (cd (τ:=UInt8)) 1 s.sv s.xs).h w hw)) (by simp only[List.length_nil];omega) (by simp only[List.length_nil];omega) fun s7 vA tL=> ?_
  refine Gs ?_
  refine Gc ?_
  refine au (.inl rfl) (aQ rfl (aq rfl)) (fun w1 hw=> ?_)
  exact⟨s7,rfl,trivial,by rw[List.nil_append]at hw;exact ai.mem hw⟩
instance ai2{w0:World}{L:List ak}{s:Sl (Sl UInt8)}[hs:aW w0 L s]:cw Tryz.prog 109 w0 L [s.sv.val] (Sv) (fun zz=>zz.val) (fun zz=>own (cd (τ:=UInt8)) 1 zz s.xs::L) (fun zz=>True) (s.xs.length≤1000000):=⟨fun hp w hw=>(YH w s (hs.h w hw) hp).mono fun e w' ⟨x,h1,h2,h3⟩=>⟨x,h1,h2,hw.call h3⟩⟩
theorem YI(w:World)(c:Cp)(hc:Deep.aZ (hp w) c)(bf:dK c):Calls Tryz.prog 71 #[.agg (aF c)] w fun e w'=> ∃zz:Cp,e= .returned (.agg (aF zz))∧(cv zz=cv c)∧Mem w [fz zz] w':=by
 have kl:cM w c:=⟨hc⟩
 obtain⟨lq,kg,nO⟩:=bf
 refine bh (args:=[_]) Tryz.func71 rfl Tryz.ntmps71 rfl ?_
 change Cw _ _ _ _ _ [(0, .agg (aF c))] []
 refine Gc ?_
 refine cA rfl fun b1=> ?_
 refine bM fun b2=> ?_
 refine Gc ?_
 iterate 2 refine Gs ?_
 refine bu rfl (by omega) fun x9 zF=> ?_
 refine Gs ?_
 refine eV (cs':=aF (⟨c.ae,c.size,⟨x9,c.blocks.xs⟩,c.ops,c.off,c.aX⟩:Cp)) rfl rfl (by show 2<6;decide) (by first|rfl|exact Sv.one _) rfl ?_
 refine Gc ?_
 iterate 4 refine Gs ?_
 refine Gc ?_
 refine ct (X:=Nat×List Bk) (fun zz=>[(14, .int .i64 (zz.1:Nat)),(1, .pointer (some ⟨b1,0,none⟩)),(2, .pointer (some ⟨b2,0,none⟩)),(12,x9.val),(13, .int .i64 (c.blocks.xs.length:Nat))]) (fun zz=>[own bX 4 x9 zz.2,ak.all ((zz.2.take zz.1).map fun b:Bk=>fz b.ae),ar b2 (aF gh) 25,ar b1 (aF (⟨c.ae,c.size,⟨x9,zz.2⟩,c.ops,c.off,c.aX⟩:Cp)) 25]) (fun zz=>zz.1≤c.blocks.xs.length∧zz.2.length=c.blocks.xs.length∧iE zz.2=iE c.blocks.xs∧ ∀j,zz.1≤j→zz.2[j]? =c.blocks.xs[j]?) (fun zz=>c.blocks.xs.length -zz.1) (0,c.blocks.xs) ⟨Nat.zero_le _,rfl,rfl,fun _ _=>rfl⟩ (Sub.cons rfl (Sub.cons rfl (Sub.cons rfl (Sub.cons rfl (Sub.cons rfl (Sub.nil _)))))) (fun w hw=>by
  simp only[List.take_zero,List.map_nil];exact ai.mem (Mem.u6 hw)) ?_
 rintro⟨i,zs⟩ ⟨bl,aH,bB,c6⟩
 dsimp only
 simp only at bl aH bB c6
 refine Gc ?_
 refine Gs ?_
 refine Gc ?_
 refine av rfl (fun h0=> ?_) (fun h0=> ?_)
 ·
  replace h0:=bz h0
  obtain⟨z,hz⟩:=get_some (xs:=zs) (i:=i) (by omega)
  have tP:Mb z c.blocks:=⟨List.mem_of_getElem? (by rw[←c6 i (Nat.le_refl _)];exact hz)⟩
  have fc:=nO z tP.h
  obtain⟨YJ,ai3⟩:=fc
  rw[mN]at YJ
  refine Gc ?_
  refine Gs ?_
  refine ah (bo rfl rfl i rfl (by omega)) ?_
  refine ah (jb rfl i hz rfl) ?_
  refine bM fun b4=> ?_
  iterate 2 refine Gs ?_
  refine Gc ?_
  iterate 2 refine Gs ?_
  refine bu rfl (by omega) fun jn GN=> ?_
  refine Gs ?_
  refine Gc ?_
  iterate 3 refine Gs ?_
  refine Gc ?_
  refine ct (X:=Nat×List (Sl UInt8)) (fun zz=>[(24, .int .i64 (zz.1:Nat)),(5,jn.val),(1, .pointer (some ⟨b1,0,none⟩)),(2, .pointer (some ⟨b2,0,none⟩)),(3, .int .i64 (i:Nat)),(12,x9.val),(13, .int .i64 (c.blocks.xs.length:Nat)),(14, .int .i64 (i:Nat)),(23, .int .i64 (z.ae.xs.length:Nat))]) (fun zz=>[own (cd (τ:=UInt8)) 1 jn zz.2,ak.all ((zz.2.take zz.1).map fun b:Sl UInt8=>fz b),ar b4 (bX z) 48,own bX 4 x9 zs,ak.all ((zs.take i).map fun b:Bk=>fz b.ae),ar b2 (aF gh) 25,ar b1 (aF (⟨c.ae,c.size,⟨x9,zs⟩,c.ops,c.off,c.aX⟩:Cp)) 25]) (fun zz=>zz.1≤z.ae.xs.length∧zz.2.length=z.ae.xs.length∧aK zz.2=aK z.ae.xs∧ ∀k,zz.1≤k→zz.2[k]? =z.ae.xs[k]?) (fun zz=>z.ae.xs.length -zz.1) (0,z.ae.xs) ⟨Nat.zero_le _,rfl,rfl,fun _ _=>rfl⟩ (Sub.cons rfl (Sub.cons rfl (Sub.cons rfl (Sub.cons rfl (Sub.cons rfl (Sub.cons rfl (Sub.cons rfl (Sub.cons rfl (Sub.cons rfl (Sub.nil _)))))))))) (fun w hw=>by
   simp only[List.take_zero,List.map_nil];exact ai.mem (Mem.u6 hw)) ?_
  rintro⟨j,qs⟩ ⟨iV,dO,iX,lz⟩
  dsimp only
  simp only at iV dO iX lz
  refine Gc ?_
  refine Gs ?_
  refine Gc ?_
  refine av rfl (fun h1=> ?_) (fun h1=> ?_)
  ·
   replace h1:=bz h1
   obtain⟨y,hy⟩:=get_some (xs:=qs) (i:=j) (by omega)
   have Hj:z.ae.xs[j]? =some y:=by rw[←lz j (Nat.le_refl _)];exact hy
   have zL:Mb y z.ae:=⟨List.mem_of_getElem? Hj⟩
   have xu:=ze (ov Hj)
   have iW:=zf (aK z.ae.xs) (j+1)
   have YK:y.xs.length≤140737488355328:=by rw[xu]at iW;omega
   refine Gc ?_
   iterate 2 refine Gs ?_
   iterate 2 refine Gi ?_
   refine Br (s:=jn) (enc:=cd (τ:=UInt8)) (c:=1) (xs:=qs) inferInstance (by omega) fun ai4 ai5 YL ai6=> ?_
   refine Gi ?_
   iterate 4 refine Gs ?_
   refine ah (bo rfl rfl j rfl (by omega)) ?_
   refine ah (bO (j:=0) rfl j hy rfl (by decide)) ?_
   refine bu rfl YK fun jX tY=> ?_
   obtain⟨vO,Hg⟩:=get_some (xs:=qs) (i:=j) (by omega)
   refine ah (lF (s:=jn) (i:=j) rfl rfl rfl YL (by omega)) ?_
   refine A6 (s:=jn) (xs:=qs) (k:=j) (a:=y) (⟨jX,y.xs⟩:Sl UInt8) (by kernel_rfl) rfl rfl rfl hy ?_
   refine Gc ?_
   iterate 2 refine Gs ?_
   refine Gi ?_
   exact bI (x:=(j,qs)) (j+1,qs.set j (⟨jX,y.xs⟩:Sl UInt8)) ⟨by first|omega|(simp only[];omega),by rw[List.length_set];exact dO,by rw[aK,List.map_set,←aK,iX];exact tt (z:=y.xs) (ov Hj),fun k hk=>by rw[List.getElem?_set_ne (by first|omega|(simp only[];omega))];exact lz k (by first|omega|(simp only[];omega))⟩ (by simp only;omega) (Sub.cons rfl (Sub.cons rfl (Sub.cons rfl (Sub.cons rfl (Sub.cons rfl (Sub.cons rfl (Sub.cons rfl (Sub.cons rfl (Sub.cons rfl (Sub.nil _)))))))))) (fun w hw=>by
    have h1:=E7 (a:=(⟨jX,y.xs⟩:Sl UInt8)) (ai.mem hw:Mem _ (own aM 1 jX y.xs::[own (cd (τ:=UInt8)) 1 jn (qs.set j (⟨jX,y.xs⟩:Sl UInt8)),ak.all ((qs.take j).map fun b:Sl UInt8=>fz b),ar b4 (bX z) 48,own bX 4 x9 zs,ak.all ((zs.take i).map fun b:Bk=>fz b.ae),ar b2 (aF gh) 25,ar b1 (aF (⟨c.ae,c.size,⟨x9,zs⟩,c.ops,c.off,c.aX⟩:Cp)) 25]) _)
    have h3:=Mem.wR (ai.mem h1:Mem _ (fz (⟨jX,y.xs⟩:Sl UInt8)::ak.all ((qs.take j).map fun b:Sl UInt8=>fz b)::[own (cd (τ:=UInt8)) 1 jn (qs.set j (⟨jX,y.xs⟩:Sl UInt8)),ar b4 (bX z) 48,own bX 4 x9 zs,ak.all ((zs.take i).map fun b:Bk=>fz b.ae),ar b2 (aF gh) 25,ar b1 (aF (⟨c.ae,c.size,⟨x9,zs⟩,c.ops,c.off,c.aX⟩:Cp)) 25]) _)
    rw[Fi (z':=(⟨jX,y.xs⟩:Sl UInt8)) hy]at h3
    exact ai.mem h3)
  ·
   replace h1:=bz h1
   obtain rfl:j=qs.length:=by omega
   rw[List.take_of_length_le (Nat.le_refl _)]at*
   iterate 5 refine Gi ?_
   refine Br (s:=x9) (enc:=bX) (c:=4) (xs:=zs) inferInstance (by omega) fun hn9 hs9 YM hl9=> ?_
   refine Gi ?_
   iterate 4 refine Gs ?_
   obtain⟨YN,YO⟩:=get_some (xs:=zs) (i:=i) (by omega)
   refine ah (lF (s:=x9) (i:=i) rfl rfl rfl YM (by omega)) ?_
   refine ah (aI rfl rfl) ?_
   refine kP (n:=1) (k:=i) (j:=0) (a:=z) (a':=({z with ae:=⟨jn,qs⟩}:Bk)) (xs:=zs) (enc:=bX) (c:=4) (v:=jn.val) (by kernel_rfl) rfl rfl rfl hz (by rw[Sv.jc];simp[Sv.one]) (by rw[Sv.jc];rfl) (by decide) (by rw[Sv.jc];rfl) ?_
   refine Gc ?_
   iterate 2 refine Gs ?_
   refine Gi ?_
   exact bI (x:=(i,zs)) (i+1,zs.set i ({z with ae:=⟨jn,qs⟩}:Bk)) ⟨by first|omega|(simp only[];omega),by rw[List.length_set];exact aH,by rw[u9,←bB,show bv ({z with ae:=⟨jn,qs⟩}:Bk)=bv z from by rw[bv,bv,iX],←u9,tt hz],fun j hj=>by rw[List.getElem?_set_ne (by first|omega|(simp only[];omega))];exact c6 j (by first|omega|(simp only[];omega))⟩ (by simp only;omega) (Sub.cons rfl (Sub.cons rfl (Sub.cons rfl (Sub.cons rfl (Sub.cons rfl (Sub.nil _)))))) (fun w hw=>by
    have h1:=Fh (ai.mem hw:Mem _ (own (cd (τ:=UInt8)) 1 jn qs::ak.all (qs.map fun b:Sl UInt8=>fz b)::[own bX 4 x9 (zs.set i ({z with ae:=⟨jn,qs⟩}:Bk)),ak.all ((zs.take i).map fun b:Bk=>fz b.ae),ar b2 (aF gh) 25,ar b1 (aF (⟨c.ae,c.size,⟨x9,zs⟩,c.ops,c.off,c.aX⟩:Cp)) 25]) _)
    have h3:=Mem.wR (ai.mem h1:Mem _ (fz (⟨jn,qs⟩:Sl (Sl UInt8))::ak.all ((zs.take i).map fun b:Bk=>fz b.ae)::[own bX 4 x9 (zs.set i ({z with ae:=⟨jn,qs⟩}:Bk)),ar b2 (aF gh) 25,ar b1 (aF (⟨c.ae,c.size,⟨x9,zs⟩,c.ops,c.off,c.aX⟩:Cp)) 25]) _)
    rw[Kv (z':=({z with ae:=⟨jn,qs⟩}:Bk)) hz]at h3
    exact(ai.mem h3:Mem _ [own bX 4 x9 (zs.set i ({z with ae:=⟨jn,qs⟩}:Bk)),ak.all (((zs.set i ({z with ae:=⟨jn,qs⟩}:Bk)).take (i+1)).map fun b:Bk=>fz b.ae),ar b2 (aF gh) 25,ar b1 (aF (⟨c.ae,c.size,⟨x9,zs⟩,c.ops,c.off,c.aX⟩:Cp)) 25] _))
 ·
  replace h0:=bz h0
  obtain rfl:i=zs.length:=by omega
  rw[List.take_of_length_le (Nat.le_refl _)]at*
  refine Gc ?_
  refine Gs ?_
  refine ah (Ry.to (v':=c.aX.sv.val) (bJ rfl) rfl) ?_
  refine bu rfl (by omega) fun qD Ns=> ?_
  refine Gs ?_
  refine eV (cs':=aF (⟨c.ae,c.size,⟨x9,zs⟩,c.ops,c.off,⟨qD,c.aX.xs⟩⟩:Cp)) rfl rfl (by show 5<6;decide) (by first|rfl|exact Sv.one _) rfl ?_
  refine Gc ?_
  iterate 2 refine Gs ?_
  refine Gc ?_
  refine au (.inl rfl) (aQ rfl (ck rfl)) (fun w1 hw=> ?_)
  exact⟨(⟨c.ae,c.size,⟨x9,zs⟩,c.ops,c.off,⟨qD,c.aX.xs⟩⟩:Cp),rfl,by simp only[cv,bB],BB (d:=(⟨c.ae,c.size,⟨x9,zs⟩,c.ops,c.off,⟨qD,c.aX.xs⟩⟩:Cp)) ((Ka (a:=(⟨qD,c.aX.xs⟩:Sl Ft)) ((Ks (ai.mem hw:Mem w (own bX 4 x9 zs::ak.all (zs.map fun b:Bk=>fz b.ae)::[own dj 4 qD c.aX.xs]) _)).perm (List.Perm.swap _ _ _))).perm (List.Perm.swap _ _ _))⟩
instance ai7{w0:World}{L:List ak}{c:Cp}[hc:aW w0 L c]:cw Tryz.prog 71 w0 L [.agg (aF c)] (Cp) (fun zz=> .agg (aF zz)) (fun zz=>fz zz::L) (fun zz=>cv zz=cv c) (dK c):=⟨fun hp w hw=>(YI w c (hc.h w hw) hp).mono fun e w' ⟨x,h1,h2,h3⟩=>⟨x,h1,h2,hw.call h3⟩⟩
open Go.ay Go.Kb
open Go.RowKit
theorem YP(w:World)(c:Cp)(hc:Deep.aZ (hp w) c):Calls Tryz.prog 54 #[.agg (aF c)] w fun e w'=> ∃zz:cC×Sl (Sl UInt8),e= .returned (.tuple #[.agg (bQ zz.1),zz.2.sv.val, .int .i64 ((cX (cv c)).2)])∧(bG zz.1=(cX (cv c)).1∧lx zz.2=jI (cv c))∧Mem w [fz zz.1,fz zz.2] w':=by
 have kl:cM w c:=⟨hc⟩
 refine bh (args:=[_]) Tryz.func54 rfl Tryz.ntmps54 rfl ?_
 change Cw _ _ _ _ _ [(0, .agg (aF c))] []
 refine Gc ?_
 refine cA rfl fun b1=> ?_
 refine bM fun b2=> ?_
 iterate 2 refine Gs ?_
 refine Gc ?_
 iterate 3 refine Gs ?_
 refine Gc ?_
 refine av rfl (fun h0=> ?_) (fun h0=> ?_)
 ·
  replace h0:=bz h0
  have hE:=Md h0
  refine Gc ?_
  refine ah (cW (v:= .agg (bQ lp)) rfl (fun w=>by kernel_rfl)) ?_
  iterate 3 refine Gs ?_
  refine Gc ?_
  refine au (.inl rfl) (tg rfl (ck rfl) (aq rfl) (aq rfl)) (fun w1 hw=> ?_)
  exact⟨(lp,⟨Sv.none,[]⟩),by rw[hE.1];rfl,⟨by rw[hE.1];rfl,by rw[hE.2];rfl⟩,Ct (xr (ai.mem hw:Mem w [] _))⟩
 ·
  replace h0:=bz h0
  refine Gc ?_
  refine Gs ?_
  refine bu rfl trivial fun aD km=> ?_
  have YQ:=KS (cv c)
  rw[TT]at km
  have C2:aD.at_.xs=(bF (cv c)).1.at_:=congrArg VV.at_ km
  rw[←C2]at YQ
  have ai8: ∀(L:List ak) [Hd w L aD.at_.sv bP 1 aD.at_.xs],aW w L aD.at_:=fun L q=>⟨fun w h=>⟨q.h w h,fun _ _=>trivial⟩⟩
  have ai9: ∀(L:List ak) [aW w L aD.ag] [aW w L aD.at_],aW w L aD:=fun L p q=>⟨fun w h=>⟨p.h w h,q.h w h⟩⟩
  refine Gs ?_
  refine ah (aU (v:= .agg (bN aD)) rfl rfl) ?_
  refine ah (aU (v:= .int .i64 ((bF (cv c)).2)) rfl rfl) ?_
  refine bM fun b5=> ?_
  iterate 2 refine Gs ?_
  refine Gc ?_
  iterate 2 refine Gs ?_
  refine Gc ?_
  refine av rfl (fun h1=> ?_) (fun h1=> ?_)
  ·
   replace h1:=bz h1
   have hE:=Me h0 h1
   refine Gc ?_
   refine ah (cW (v:= .agg (bQ lp)) rfl (fun w=>by kernel_rfl)) ?_
   iterate 4 refine Gs ?_
   refine Gc ?_
   refine au (.inl rfl) (tg rfl (ck rfl) (aq rfl) (aq rfl)) (fun w1 hw=> ?_)
   exact⟨(lp,⟨Sv.none,[]⟩),by rw[hE.1];rfl,⟨by rw[hE.1];rfl,by rw[hE.2];rfl⟩,Ct (xr (ai.mem hw:Mem w [] _))⟩
  ·
   replace h1:=bz h1
   have xV:(bF (cv c)).2=0:=h1
   have Hk:kU (vv aD)=true:=by rw[km];exact UA xV
   have yp:cv aD.ag=(vv aD).ag:=rfl
   have YR:aT (cv aD.ag)=true:=(BS Hk).1
   have YS: ∀y∈aD.at_.xs,0≤y∧y≤65535∧(y≠0→jS (cv aD.ag) (y -1)=true):=fun y hy=>by
    obtain⟨g1,g2⟩:=(BS Hk).2.2 y hy
    obtain⟨j,hj⟩:=List.getElem?_of_mem hy
    exact⟨g1,g2,fun g=>(KU Hk hj g).2.2⟩
   refine Gc ?_
   refine jw (by kernel_rfl) (by kernel_rfl) ?_
   iterate 4 refine Gq ?_
   refine uH (cJ rfl trivial) ?_
   refine Gq ?_
   refine Gc ?_
   refine av rfl (fun h2=> ?_) (fun h2=> ?_)
   ·
    replace h2:=bz h2
    have Ad:(((bF (cv c)).1.at_.length:Nat):Int)≠dm (cv c):=by rw[←C2];exact h2
    have hE:=Mf h0 xV Ad
    refine Gc ?_
    refine ah (cW (v:= .agg (bQ lp)) rfl (fun w=>by kernel_rfl)) ?_
    iterate 3 refine Gs ?_
    refine Gc ?_
    refine au (.inl rfl) (tg rfl (ck rfl) (aq rfl) (aq rfl)) (fun w1 hw=> ?_)
    exact⟨(lp,⟨Sv.none,[]⟩),by rw[hE.1];rfl,⟨by rw[hE.1];rfl,by rw[hE.2];rfl⟩,Ct (xr (ai.mem hw:Mem w [] _))⟩
   ·
    replace h2:=bz h2
    have Ad:(((bF (cv c)).1.at_.length:Nat):Int)=dm (cv c):=by rw[←C2];exact h2
    have aja:aD.at_.xs.length≤64:=by have:=F9 (cv c);rw[←C2]at Ad;omega
    refine Gc ?_
    iterate 3 refine Gs ?_
    refine te (enc:=cd (τ:=UInt8)) (n:=aD.at_.xs.length) (cap:=aD.at_.xs.length) (⟨Sv.none,[]⟩:Sl UInt8) rfl rfl rfl rfl rfl (by omega) (by omega) (by omega) fun jo=> ?_
    refine Gs ?_
    refine Gc ?_
    iterate 3 refine Gs ?_
    refine Gc ?_
    refine ct (X:=Nat×List (Sl UInt8)) (fun zz=>[(36, .int .i64 (zz.1:Nat)),(7,(⟨false,jo,0,aD.at_.xs.length,aD.at_.xs.length,none⟩:Sv).val),(2, .pointer (some ⟨b2,0,none⟩)),(5, .pointer (some ⟨b5,0,none⟩)),(35, .int .i64 ((List.replicate aD.at_.xs.length (⟨Sv.none,[]⟩:Sl UInt8)).length:Nat))]) (fun zz=>[own (cd (τ:=UInt8)) 1 ⟨false,jo,0,aD.at_.xs.length,aD.at_.xs.length,none⟩ zz.2,ak.all ((zz.2.take zz.1).map fun b:Sl UInt8=>fz b),ar b5 (bN aD) 29,fz aD.ag,own bP 1 aD.at_.sv aD.at_.xs,ar b2 (bQ lp) 54,ar b1 (aF c) 25]) (fun zz=>zz.1≤aD.at_.xs.length∧zz.2.length=aD.at_.xs.length∧aK (zz.2.take zz.1)=(aD.at_.xs.take zz.1).map (dY (cv aD.ag))) (fun zz=>aD.at_.xs.length -zz.1) (0,List.replicate aD.at_.xs.length (⟨Sv.none,[]⟩:Sl UInt8)) ⟨Nat.zero_le _,by simp,by simp[aK]⟩ (Sub.cons rfl (Sub.cons rfl (Sub.cons rfl (Sub.cons rfl (Sub.cons rfl (Sub.nil _)))))) (fun w hw=>by
     simp only[List.take_zero,List.map_nil];exact ai.mem (Mem.u6 hw)) ?_
    rintro⟨i,qs⟩ ⟨bl,aH,bB⟩
    dsimp only
    simp only at bl aH bB
    refine Gc ?_
    refine Gs ?_
    refine Gc ?_
    refine av rfl (fun h3=> ?_) (fun h3=> ?_)
    ·
     replace h3:=bz h3
     rw[List.length_replicate]at h3
     obtain⟨q,hq⟩:=get_some (xs:=qs) (i:=i) (by omega)
     obtain⟨y,hy⟩:=get_some (xs:=aD.at_.xs) (i:=i) (by omega)
     have nf:aD.at_.xs.getD i 0=y:=oz hy
     refine Gc ?_
     iterate 2 refine Gs ?_
     iterate 2 refine Gi ?_
     have YT:=BM (b:=jo) (n:=aD.at_.xs.length) (by omega)
     refine Gi ?_
     iterate 4 refine Gs ?_
     refine bu rfl ⟨YR,by omega,YS⟩ fun jL pG=> ?_
     obtain⟨e44,ajb⟩:=get_some (xs:=qs) (i:=i) (by omega)
     refine ah (lF (s:=⟨false,jo,0,aD.at_.xs.length,aD.at_.xs.length,none⟩) (i:=i) rfl rfl rfl YT (by simp only;omega)) ?_
     refine A6 (s:=⟨false,jo,0,aD.at_.xs.length,aD.at_.xs.length,none⟩) (xs:=qs) (k:=i) (a:=q) (⟨jL,dY (cv aD.ag) (aD.at_.xs.getD i 0)⟩:Sl UInt8) (by kernel_rfl) rfl rfl (by omega) hq ?_
     refine Gc ?_
     iterate 2 refine Gs ?_
     refine Gi ?_
     exact bI (x:=(i,qs)) (i+1,qs.set i (⟨jL,dY (cv aD.ag) (aD.at_.xs.getD i 0)⟩:Sl UInt8)) ⟨by first|omega|(simp only[];omega),by rw[List.length_set];exact aH,by rw[aK,BL hq,←aK,bB,List.take_add_one,hy,List.map_append,nf];rfl⟩ (by simp only;omega) (Sub.cons rfl (Sub.cons rfl (Sub.cons rfl (Sub.cons rfl (Sub.cons rfl (Sub.nil _)))))) (fun w hw=>by
      have h1:=E7 (a:=(⟨jL,dY (cv aD.ag) (aD.at_.xs.getD i 0)⟩:Sl UInt8)) (ai.mem hw:Mem _ (own aM 1 jL (dY (cv aD.ag) (aD.at_.xs.getD i 0))::[own (cd (τ:=UInt8)) 1 ⟨false,jo,0,aD.at_.xs.length,aD.at_.xs.length,none⟩ (qs.set i (⟨jL,dY (cv aD.ag) (aD.at_.xs.getD i 0)⟩:Sl UInt8)),ak.all ((qs.take i).map fun b:Sl UInt8=>fz b),ar b5 (bN aD) 29,fz aD.ag,own bP 1 aD.at_.sv aD.at_.xs,ar b2 (bQ lp) 54,ar b1 (aF c) 25]) _)
      have h3:=Mem.wR (ai.mem h1:Mem _ (fz (⟨jL,dY (cv aD.ag) (aD.at_.xs.getD i 0)⟩:Sl UInt8)::ak.all ((qs.take i).map fun b:Sl UInt8=>fz b)::[own (cd (τ:=UInt8)) 1 ⟨false,jo,0,aD.at_.xs.length,aD.at_.xs.length,none⟩ (qs.set i (⟨jL,dY (cv aD.ag) (aD.at_.xs.getD i 0)⟩:Sl UInt8)),ar b5 (bN aD) 29,fz aD.ag,own bP 1 aD.at_.sv aD.at_.xs,ar b2 (bQ lp) 54,ar b1 (aF c) 25]) _)
      rw[Fi (z':=(⟨jL,dY (cv aD.ag) (aD.at_.xs.getD i 0)⟩:Sl UInt8)) hq]at h3
      exact ai.mem h3)
    ·
     replace h3:=bz h3
     rw[List.length_replicate]at h3
     obtain rfl:i=qs.length:=by omega
     rw[List.take_of_length_le (Nat.le_refl _)]at*
     rw[List.take_of_length_le (by omega)]at bB
     have sm:lx (⟨⟨false,jo,0,aD.at_.xs.length,aD.at_.xs.length,none⟩,qs⟩:Sl (Sl UInt8))=cl (bF (cv c)).1:=by rw[←km];exact bB
     have dF: ∀x∈qs,x.xs.length≤100000:=fun x hx=>by
      have hm:x.xs∈aK qs:=List.mem_map_of_mem (f:=fun x:Sl UInt8=>x.xs) hx
      rw[bB]at hm
      obtain⟨y,_,YU⟩:=List.mem_map.1 hm
      rw[←YU]
      exact Nat.le_trans (UC _ _) (by decide)
     iterate 6 refine Gi ?_
     refine qU [fz (⟨⟨false,jo,0,aD.at_.xs.length,aD.at_.xs.length,none⟩,qs⟩:Sl (Sl UInt8)),ar b5 (bN aD) 29,fz aD.ag,own bP 1 aD.at_.sv aD.at_.xs,ar b2 (bQ lp) 54,ar b1 (aF c) 25] (fun w hw=>ai.mem (Fh (ai.mem hw:Mem _ (own (cd (τ:=UInt8)) 1 ⟨false,jo,0,aD.at_.xs.length,aD.at_.xs.length,none⟩ qs::ak.all (qs.map fun b:Sl UInt8=>fz b)::[ar b5 (bN aD) 29,fz aD.ag,own bP 1 aD.at_.sv aD.at_.xs,ar b2 (bQ lp) 54,ar b1 (aF c) 25]) _))) ?_
     refine Gi ?_
     refine Gs ?_
     refine bu (hc:=Yw (a:=(⟨⟨false,jo,0,aD.at_.xs.length,aD.at_.xs.length,none⟩,qs⟩:Sl (Sl UInt8)))) rfl ⟨by show qs.length≤1000;omega,dF⟩ fun ub M6=> ?_
     refine Gs ?_
     refine ah (aU (v:=ub.val) rfl rfl) ?_
     refine ah (aU (v:= .int .i64 (iT (lx (⟨⟨false,jo,0,aD.at_.xs.length,aD.at_.xs.length,none⟩,qs⟩:Sl (Sl UInt8))))) rfl rfl) ?_
     iterate 2 refine Gs ?_
     refine Gc ?_
     iterate 2 refine Gs ?_
     refine Gc ?_
     refine av rfl (fun h4=> ?_) (fun h4=> ?_)
     ·
      replace h4:=bz h4
      rw[sm]at h4
      have hE:=Mg h0 xV Ad h4
      refine Gc ?_
      refine ah (cW (v:= .agg (bQ lp)) rfl (fun w=>by kernel_rfl)) ?_
      iterate 3 refine Gs ?_
      refine Gc ?_
      refine au (.inl rfl) (tg rfl (ck rfl) (aq rfl) (aq rfl)) (fun w1 hw=> ?_)
      exact⟨(lp,⟨Sv.none,[]⟩),by rw[hE.1];rfl,⟨by rw[hE.1];rfl,by rw[hE.2];rfl⟩,Ct (xr (ai.mem hw:Mem w [] _))⟩
     ·
      replace h4:=bz h4
      have Nt:=h4
      rw[sm]at Nt
      have hE:=Co h0 xV Ad Nt
      refine Gc ?_
      iterate 2 refine Gs ?_
      refine ah (cW (v:= .agg (bQ (⟨aD,⟨ub,ij (lx (⟨⟨false,jo,0,aD.at_.xs.length,aD.at_.xs.length,none⟩,qs⟩:Sl (Sl UInt8)))⟩⟩:cC))) rfl (Hi aD ⟨ub,ij (lx (⟨⟨false,jo,0,aD.at_.xs.length,aD.at_.xs.length,none⟩,qs⟩:Sl (Sl UInt8)))⟩)) ?_
      iterate 4 refine Gs ?_
      refine Gc ?_
      refine au (.inl rfl) (tg rfl (ck rfl) (aq rfl) (aq rfl)) (fun w1 hw=> ?_)
      exact⟨((⟨aD,⟨ub,ij (lx (⟨⟨false,jo,0,aD.at_.xs.length,aD.at_.xs.length,none⟩,qs⟩:Sl (Sl UInt8)))⟩⟩:cC),(⟨⟨false,jo,0,aD.at_.xs.length,aD.at_.xs.length,none⟩,qs⟩:Sl (Sl UInt8))),by rw[hE.1],⟨by rw[hE.1];simp only[bG,sm,km],by rw[hE.2];exact sm⟩,Mh (f:=(⟨aD,⟨ub,ij (lx (⟨⟨false,jo,0,aD.at_.xs.length,aD.at_.xs.length,none⟩,qs⟩:Sl (Sl UInt8)))⟩⟩:cC)) (ai.mem hw:Mem w [fz aD.ag,own bP 1 aD.at_.sv aD.at_.xs,own ax 19 ub (ij (lx (⟨⟨false,jo,0,aD.at_.xs.length,aD.at_.xs.length,none⟩,qs⟩:Sl (Sl UInt8)))),fz (⟨⟨false,jo,0,aD.at_.xs.length,aD.at_.xs.length,none⟩,qs⟩:Sl (Sl UInt8))] _)⟩
instance ajc{w0:World}{L:List ak}{c:Cp}[hc:aW w0 L c]:cw Tryz.prog 54 w0 L [.agg (aF c)] (cC×Sl (Sl UInt8)) (fun zz=> .tuple #[.agg (bQ zz.1),zz.2.sv.val, .int .i64 ((cX (cv c)).2)]) (fun zz=>fz zz.1::fz zz.2::L) (fun zz=>bG zz.1=(cX (cv c)).1∧lx zz.2=jI (cv c)) (True):=⟨fun hp w hw=>(YP w c (hc.h w hw)).mono fun e w' ⟨x,h1,h2,h3⟩=>⟨x,h1,h2,hw.call h3⟩⟩
open Go.ay Go.Kb
open Go.RowKit
theorem YV(w:World)(x:Sv)(xs:List Rt)(y:Sv)(ys:List Rt)(hx:bW ax 19 (hp w) x xs)(hy:bW ax 19 (hp w) y ys):Calls Tryz.prog 105 #[x.val,y.val] w fun e w'=>e= .returned (.bool (decide (xs=ys)))∧Mem w [] w':=by
 have xA:Gv w x ax 19 xs:=⟨hx⟩
 have MF:Gv w y ax 19 ys:=⟨hy⟩
 have CD:=hx.bd
 refine bh (args:=[_,_]) Tryz.func105 rfl Tryz.ntmps105 rfl ?_
 change Cw _ _ _ _ _ [(0,x.val),(1,y.val)] []
 refine Gc ?_
 refine Gs ?_
 refine Gc ?_
 iterate 5 refine Gs ?_
 refine Gc ?_
 refine av rfl (fun h0=> ?_) (fun h0=> ?_)
 ·
  replace h0:=bz h0
  have hz:decide (xs=ys)=false:=decide_eq_false fun e=>h0 (by rw[e])
  refine Gc ?_
  refine Gs ?_
  refine Gc ?_
  refine au (.inl rfl) (aQ rfl (aq rfl)) (fun w1 hw=> ?_)
  exact⟨congrArg (fun b=>Ending.returned (Value.bool b)) (hz.symm),ai.mem hw⟩
 ·
  replace h0:=bz h0
  have nG:xs.length=ys.length:=by omega
  refine Gc ?_
  iterate 3 refine Gs ?_
  refine Gc ?_
  refine ct (X:=Nat) (fun zz=>[(13, .int .i64 (zz:Nat)),(0,x.val),(1,y.val),(12, .int .i64 (xs.length:Nat))]) (fun zz=>[]) (fun zz=>zz≤xs.length∧ ∀j,j<zz→xs[j]? =ys[j]?) (fun zz=>xs.length -zz) 0 ⟨Nat.zero_le _,fun j hj=>by first|omega|(simp only[];omega)⟩ (Sub.cons rfl (Sub.cons rfl (Sub.cons rfl (Sub.cons rfl (Sub.nil _))))) (fun w hw=>ai.mem hw) ?_
  rintro i ⟨bl,aH⟩
  refine Gc ?_
  refine Gs ?_
  refine Gc ?_
  refine av rfl (fun h1=> ?_) (fun h1=> ?_)
  ·
   replace h1:=bz h1
   obtain⟨p,j6⟩:=get_some (xs:=xs) (i:=i) (by omega)
   obtain⟨q,sC⟩:=get_some (xs:=ys) (i:=i) (by omega)
   refine Gc ?_
   iterate 2 refine Gs ?_
   refine Gc ?_
   refine jw (by kernel_rfl) (by kernel_rfl) ?_
   iterate 2 refine Gq ?_
   refine bA (bo rfl rfl i rfl (by omega)) ?_
   refine bA (jb rfl i j6 rfl) ?_
   iterate 2 refine Gq ?_
   refine bA (bo rfl rfl i rfl (by omega)) ?_
   refine bA (jb rfl i sC rfl) ?_
   refine bA (D7 rfl rfl) ?_
   refine Gc ?_
   refine av rfl (fun h2=> ?_) (fun h2=> ?_)
   ·
    replace h2:=bz h2
    have hz:decide (xs=ys)=false:=decide_eq_false fun e=>h2 (by rw[e]at j6;rw[j6]at sC;cases sC;rfl)
    refine Gc ?_
    refine Gs ?_
    refine Gc ?_
    refine au (.inl rfl) (aQ rfl (aq rfl)) (fun w1 hw=> ?_)
    exact⟨congrArg (fun b=>Ending.returned (Value.bool b)) (hz.symm),ai.mem hw⟩
   ·
    replace h2:=bz h2
    refine Gc ?_
    iterate 2 refine Gs ?_
    refine Gi ?_
    exact bI (x:=(i)) (i+1) ⟨by first|omega|(simp only[];omega),fun j hj=>if e:j=i then(by subst e;rw[j6,sC,h2])else aH j (by first|omega|(simp only[];omega))⟩ (by first|omega|(simp only[];omega)) (Sub.cons rfl (Sub.cons rfl (Sub.cons rfl (Sub.cons rfl (Sub.nil _))))) (fun w hw=>ai.mem hw)
  ·
   replace h1:=bz h1
   obtain rfl:i=xs.length:=by omega
   have hz:decide (xs=ys)=true:=decide_eq_true (List.ext_getElem? fun j=>by
    rcases Nat.lt_or_ge j xs.length with hj|hj
    ·
     exact aH j hj
    ·
     rw[List.getElem?_eq_none hj,List.getElem?_eq_none (by omega)])
   refine Gc ?_
   refine Gs ?_
   refine Gc ?_
   refine au (.inl rfl) (aQ rfl (aq rfl)) (fun w1 hw=> ?_)
   exact⟨congrArg (fun b=>Ending.returned (Value.bool b)) (hz.symm),ai.mem hw⟩
instance ajd{w0:World}{L:List ak}{x:Sv}{xs:List Rt}{y:Sv}{ys:List Rt}[hx:c8 w0 L ax 19 x xs][hy:c8 w0 L ax 19 y ys]:cR Tryz.prog 105 w0 L [x.val,y.val] (.bool (decide (xs=ys))) (True):=⟨fun hp w hw=>YV w x xs y ys (hx.h w hw) (hy.h w hw)⟩
theorem YW(w:World)(f:cC)(hf:Deep.aZ (hp w) f):Calls Tryz.prog 62 #[.agg (bQ f)] w fun e w'=> ∃zz:Sl (Sl UInt8),e= .returned (.tuple #[zz.sv.val, .bool (gy (bG f))])∧(gy (bG f)=true→lx zz=jI {(bG f).an.ag with off:=false})∧Mem w [fz zz] w':=by
 have C3:cM w f:=⟨hf⟩
 refine bh (args:=[_]) Tryz.func62 rfl Tryz.ntmps62 rfl ?_
 change Cw _ _ _ _ _ [(0, .agg (bQ f))] []
 refine Gc ?_
 refine cA rfl fun b1=> ?_
 iterate 2 refine Gs ?_
 refine Gc ?_
 iterate 2 refine Gs ?_
 refine ah (jv rfl) ?_
 refine bM fun b4=> ?_
 refine Gs ?_
 refine Gc ?_
 refine Gs ?_
 refine eV (cs':=aF (⟨f.an.ag.ae,f.an.ag.size,f.an.ag.blocks,f.an.ag.ops,false,f.an.ag.aX⟩:Cp)) rfl rfl (by show 4<6;decide) (by first|rfl|exact Sv.one _) rfl ?_
 refine Gc ?_
 refine Gs ?_
 refine bu rfl trivial fun lQ xL=> ?_
 have C4:bG lQ.1=(cX {(bG f).an.ag with off:=false}).1:=xL.1
 have g1:lQ.1.an.gen.toNat=(cX {(bG f).an.ag with off:=false}).1.an.gen:=congrArg (fun z:FV=>z.an.gen) C4
 have g2:lQ.1.an.last=(cX {(bG f).an.ag with off:=false}).1.an.last:=congrArg (fun z:FV=>z.an.last) C4
 have g3:lQ.1.an.at_.xs=(cX {(bG f).an.ag with off:=false}).1.an.at_:=congrArg (fun z:FV=>z.an.at_) C4
 have g4:lQ.1.table.xs=(cX {(bG f).an.ag with off:=false}).1.table:=congrArg FV.table C4
 have hS:gy (bG f)=true↔(cX {(bG f).an.ag with off:=false}).2=0∧f.an.gen.toNat=lQ.1.an.gen.toNat∧f.an.last=lQ.1.an.last∧f.an.at_.xs=lQ.1.an.at_.xs∧f.table.xs=lQ.1.table.xs:=by rw[F8,g1,g2,g3,g4];rfl
 refine Gs ?_
 refine ah (aU (v:= .agg (bQ lQ.1)) rfl rfl) ?_
 refine ah (aU (v:=lQ.2.sv.val) rfl rfl) ?_
 refine ah (aU (v:= .int .i64 ((cX (cv (⟨f.an.ag.ae,f.an.ag.size,f.an.ag.blocks,f.an.ag.ops,false,f.an.ag.aX⟩:Cp))).2)) rfl rfl) ?_
 refine bM fun b5=> ?_
 iterate 3 refine Gs ?_
 refine Gc ?_
 iterate 3 refine Gs ?_
 refine Gg ?_
 refine bS rfl rfl rfl (fun hg=>(Ry.yl (aI (o':=7) (aG hg rfl) rfl))) ?_
 iterate 2 refine Gg ?_
 refine bS rfl rfl rfl (fun hg=>(Ry.yl (aI (o':=7) (aG hg rfl) rfl))) ?_
 iterate 2 refine Gg ?_
 iterate 2 refine Gs ?_
 refine Gg ?_
 refine bS rfl rfl rfl (fun hg=>(Ry.yl (aI (o':=8) (aG hg rfl) rfl))) ?_
 iterate 2 refine Gg ?_
 refine bS rfl rfl rfl (fun hg=>(Ry.yl (aI (o':=8) (aG hg rfl) rfl))) ?_
 iterate 2 refine Gg ?_
 refine Gs ?_
 refine Gc ?_
 refine av rfl (fun h0=> ?_) (fun h0=> ?_)
 ·
  replace h0:=bz h0
  have hE:gy (bG f)=false:=by
   cases hk:gy (bG f)with
   |false=>rfl
   |true=>
    obtain⟨q1,q2,q3,q4,q5⟩:=hS.1 hk
    rcases h0 with(h|h)|h
    ·
     exact absurd q1 h
    ·
     omega
    ·
     exact absurd q3 h
  refine Gc ?_
  iterate 2 refine Gs ?_
  refine Gc ?_
  refine au (.inl rfl) (bq rfl (aq rfl) (aq rfl)) (fun w1 hw=> ?_)
  exact⟨⟨Sv.none,[]⟩,by rw[hE];rfl,(fun h=>by rw[hE]at h;cases h),xr (ai.mem hw:Mem w [] _)⟩
 ·
  replace h0:=bz h0
  refine Gc ?_
  iterate 9 refine Gs ?_
  iterate 4 refine Gg ?_
  refine bS rfl rfl rfl (fun hg=>cJ (dI (aG hg rfl) (dI (aG hg rfl) gN)) trivial) ?_
  refine bS rfl rfl rfl (fun hg=>(Ry.yl (iD (aG hg rfl)))) ?_
  refine Gs ?_
  refine Gc ?_
  refine av rfl (fun h1=> ?_) (fun h1=> ?_)
  ·
   replace h1:=bz h1
   have hE:gy (bG f)=false:=by
    cases hk:gy (bG f)with
    |false=>rfl
    |true=>
     obtain⟨q1,q2,q3,q4,q5⟩:=hS.1 hk
     rcases h1 with h|h
     ·
      exact absurd q4 h
     ·
      exact absurd q5 h
   refine Gc ?_
   iterate 2 refine Gs ?_
   refine Gc ?_
   refine au (.inl rfl) (bq rfl (aq rfl) (aq rfl)) (fun w1 hw=> ?_)
   exact⟨⟨Sv.none,[]⟩,by rw[hE];rfl,(fun h=>by rw[hE]at h;cases h),xr (ai.mem hw:Mem w [] _)⟩
  ·
   replace h1:=bz h1
   have hE:gy (bG f)=true:=hS.2 ⟨h0.1.1,by have:=h0.1.2;omega,h0.2,h1.1,h1.2⟩
   refine Gc ?_
   iterate 3 refine Gs ?_
   refine Gc ?_
   refine au (.inl rfl) (bq rfl (aq rfl) (aq rfl)) (fun w1 hw=> ?_)
   exact⟨lQ.2,by rw[hE],(fun _=>xL.2),ai.mem hw⟩
instance aje{w0:World}{L:List ak}{f:cC}[hf:aW w0 L f]:cw Tryz.prog 62 w0 L [.agg (bQ f)] (Sl (Sl UInt8)) (fun zz=> .tuple #[zz.sv.val, .bool (gy (bG f))]) (fun zz=>fz zz::L) (fun zz=>gy (bG f)=true→lx zz=jI {(bG f).an.ag with off:=false}) (True):=⟨fun hp w hw=>(YW w f (hf.h w hw)).mono fun e w' ⟨x,h1,h2,h3⟩=>⟨x,h1,h2,hw.call h3⟩⟩
theorem YX(w:World)(f:cC)(hf:Deep.aZ (hp w) f):Calls Tryz.prog 28 #[.agg (bQ f)] w fun e w'=>e= .returned (.bool (gy (bG f)))∧Mem w [] w':=by
 have C3:cM w f:=⟨hf⟩
 refine bh (args:=[_]) Tryz.func28 rfl Tryz.ntmps28 rfl ?_
 change Cw _ _ _ _ _ [(0, .agg (bQ f))] []
 refine Gc ?_
 refine cA rfl fun b1=> ?_
 refine Gs ?_
 refine Gc ?_
 refine Gs ?_
 refine bu rfl trivial fun x7 hp7=> ?_
 refine Gs ?_
 refine ah (aU (v:=x7.sv.val) rfl rfl) ?_
 refine ah (aU (v:= .bool (gy (bG f))) rfl rfl) ?_
 iterate 2 refine Gs ?_
 refine Gc ?_
 iterate 2 refine Gs ?_
 refine Gc ?_
 refine au (.inl rfl) (aQ rfl (aq rfl)) (fun w1 hw=> ?_)
 exact⟨congrArg (fun b=>Ending.returned (Value.bool b)) (rfl),ai.mem hw⟩
instance ajf{w0:World}{L:List ak}{f:cC}[hf:aW w0 L f]:cR Tryz.prog 28 w0 L [.agg (bQ f)] (.bool (gy (bG f))) (True):=⟨fun hp w hw=>YX w f (hf.h w hw)⟩
theorem YY(w:World)(c:Cp)(hc:Deep.aZ (hp w) c):Calls Tryz.prog 21 #[.agg (aF c)] w fun e w'=> ∃zz:cC,e= .returned (.tuple #[.agg (bQ zz), .int .i64 ((cX (cv c)).2)])∧(bG zz=(cX (cv c)).1)∧Mem w [fz zz] w':=by
 have kl:cM w c:=⟨hc⟩
 refine bh (args:=[_]) Tryz.func21 rfl Tryz.ntmps21 rfl ?_
 change Cw _ _ _ _ _ [(0, .agg (aF c))] []
 refine Gc ?_
 refine cA rfl fun b1=> ?_
 refine bM fun b2=> ?_
 refine Gs ?_
 refine Gc ?_
 refine Gs ?_
 refine bu rfl trivial fun x9 zF=> ?_
 refine Gs ?_
 refine ah (aU (v:= .agg (bQ x9.1)) rfl rfl) ?_
 refine ah (aU (v:=x9.2.sv.val) rfl rfl) ?_
 refine ah (aU (v:= .int .i64 ((cX (cv c)).2)) rfl rfl) ?_
 refine bM fun b4=> ?_
 iterate 3 refine Gs ?_
 refine Gc ?_
 iterate 4 refine Gs ?_
 refine Gc ?_
 refine au (.inl rfl) (bq rfl (ck rfl) (aq rfl)) (fun w1 hw=> ?_)
 exact⟨x9.1,rfl,zF.1,ai.mem hw⟩
instance ajg{w0:World}{L:List ak}{c:Cp}[hc:aW w0 L c]:cw Tryz.prog 21 w0 L [.agg (aF c)] (cC) (fun zz=> .tuple #[.agg (bQ zz), .int .i64 ((cX (cv c)).2)]) (fun zz=>fz zz::L) (fun zz=>bG zz=(cX (cv c)).1) (True):=⟨fun hp w hw=>(YY w c (hc.h w hw)).mono fun e w' ⟨x,h1,h2,h3⟩=>⟨x,h1,h2,hw.call h3⟩⟩
theorem YZ(w:World)(f:cC)(k:Key)(bits:Int)(hf:Deep.aZ (hp w) f):Calls Tryz.prog 27 #[.agg (bQ f), .agg (cn k), .int .i64 bits] w fun e w'=>e= .returned (.tuple #[.agg (ax (qv (bG f) k bits)), .int .i64 (qw (bG f) k bits)])∧Mem w [] w':=by
 have C3:cM w f:=⟨hf⟩
 refine bh (args:=[_,_,_]) Tryz.func27 rfl Tryz.ntmps27 rfl ?_
 change Cw _ _ _ _ _ [(0, .agg (bQ f)),(1, .agg (cn k)),(2, .int .i64 bits)] []
 refine Gc ?_
 refine cA rfl fun b3=> ?_
 refine cA rfl fun b4=> ?_
 refine bM fun b6=> ?_
 refine Gs ?_
 refine Gc ?_
 iterate 3 refine Gs ?_
 refine Gc ?_
 refine av rfl (fun h0=> ?_) (fun h0=> ?_)
 ·
  replace h0:=bz h0
  refine Gc ?_
  refine ah (sV rfl) ?_
  iterate 2 refine Gs ?_
  refine Gc ?_
  refine au (.inl rfl) (bq rfl (ck rfl) (aq rfl)) (fun w1 hw=> ?_)
  exact⟨(by rw[qv,qw,if_neg (by rw[h0];simp),if_neg (by rw[h0];simp)]),ai.mem hw⟩
 ·
  replace h0:=bz h0
  refine Gc ?_
  iterate 5 refine Gs ?_
  refine ah (aU (v:= .agg (ax (rn f.table.xs k bits))) rfl rfl) ?_
  refine ah (aU (v:= .int .i64 (rp f.table.xs k bits)) rfl rfl) ?_
  iterate 2 refine Gs ?_
  refine Gc ?_
  refine au (.inl rfl) (bq rfl (ck rfl) (aq rfl)) (fun w1 hw=> ?_)
  exact⟨(by rw[qv,qw,if_pos h0,if_pos h0];rfl),ai.mem hw⟩
instance ajh{w0:World}{L:List ak}{f:cC}{k:Key}{bits:Int}[hf:aW w0 L f]:cR Tryz.prog 27 w0 L [.agg (bQ f), .agg (cn k), .int .i64 bits] (.tuple #[.agg (ax (qv (bG f) k bits)), .int .i64 (qw (bG f) k bits)]) (True):=⟨fun hp w hw=>YZ w f k bits (hf.h w hw)⟩
open Go.ay Go.Kb
open Go.RowKit
theorem Nu(v:bU)(w:World):(Instr.build 54 #[(0, .agg (bN v))]).run Tryz.prog w= .ok (.agg (bQ ⟨v,⟨Sv.none,[]⟩⟩)) w:=by
 obtain⟨⟨a1,a2,⟨a3,a4⟩,a5,a6,⟨a7,a8⟩⟩,⟨a9,Yz⟩,YA,YB⟩:=v
 unfold bQ bN
 obtain⟨e3,b3,o3,l3,c3,p3⟩:=a3
 obtain⟨e7,b7,o7,l7,c7,p7⟩:=a7
 obtain⟨e9,b9,o9,l9,c9,p9⟩:=a9
 cases e3<;>cases e7<;>cases e9<;>kernel_rfl
theorem Nv{w0 w:World}{L:List ak}{v:bU}(h:Mem w0 (fz v.ag::fz v.at_::L) w):Mem w0 (fz (⟨v,⟨Sv.none,[]⟩⟩:cC)::L) w:=
 Cr (f:=⟨v,⟨Sv.none,[]⟩⟩) ((vw (a:=⟨Sv.none,[]⟩) (Mem.dQ ax 19 h)).perm ((List.Perm.swap _ _ _).trans (List.Perm.cons _ (List.Perm.swap _ _ _))))
theorem Y0(w:World)(c:Cp)(hc:Deep.aZ (hp w) c)(bf:dK c):Calls Tryz.prog 33 #[.agg (aF c)] w fun e w'=> ∃zz:cC,e= .returned (.tuple #[.agg (bQ zz), .int .i64 ((iU (cv c)).2)])∧(bG zz=(iU (cv c)).1)∧Mem w [fz zz] w':=by
 have kl:cM w c:=⟨hc⟩
 have kE:dK c:=bf
 refine bh (args:=[_]) Tryz.func33 rfl Tryz.ntmps33 rfl ?_
 change Cw _ _ _ _ _ [(0, .agg (aF c))] []
 refine Gc ?_
 refine cA rfl fun b1=> ?_
 refine bM fun b2=> ?_
 refine Gs ?_
 refine Gc ?_
 iterate 3 refine Gs ?_
 refine Gc ?_
 refine av rfl (fun h0=> ?_) (fun h0=> ?_)
 ·
  replace h0:=bz h0
  have hE:iU (cv c)=(⟨⟨cv c,[],0,0⟩,[]⟩,1):=by rw[iU,if_pos h0]
  refine Gc ?_
  refine Gs ?_
  refine bu rfl (by assumption) fun vP Y1=> ?_
  refine ah (cW (v:= .agg (bN (⟨vP,⟨Sv.none,[]⟩,0,0⟩:bU))) rfl (z5 vP)) ?_
  refine ah (cW (v:= .agg (bQ (⟨(⟨vP,⟨Sv.none,[]⟩,0,0⟩:bU),⟨Sv.none,[]⟩⟩:cC))) rfl (Nu (⟨vP,⟨Sv.none,[]⟩,0,0⟩:bU))) ?_
  iterate 2 refine Gs ?_
  refine Gc ?_
  refine au (.inl rfl) (bq rfl (ck rfl) (aq rfl)) (fun w1 hw=> ?_)
  exact⟨(⟨(⟨vP,⟨Sv.none,[]⟩,0,0⟩:bU),⟨Sv.none,[]⟩⟩:cC),by rw[hE],by rw[hE];simp only[bG,vv,Y1];rfl,Nv (v:=(⟨vP,⟨Sv.none,[]⟩,0,0⟩:bU)) (ai.mem (z6 (ai.mem hw:Mem w [fz vP] _)))⟩
 ·
  replace h0:=bz h0
  have hE:iU (cv c)=(⟨(gS (cv c) (dm (cv c))).1,[]⟩,(gS (cv c) (dm (cv c))).2):=by rw[iU,if_neg h0]
  refine Gc ?_
  refine pf [3,7,8,2007,4003] [[],[],[],[],[3],[3],[3],[],[3,7],[3,7,8]] [0,1,2,3,4,5,6,7,8,9] [ar b1 (aF c) 25] [(7,j9 Tryz.prog 29)] (by kernel_rfl) (fun _ hw=>ai.mem hw) (by kernel_rfl) (by kernel_rfl) ?_
  refine al rfl (gu rfl) ?_
  refine al rfl (gu rfl) ?_
  refine u4 rfl (cJ rfl trivial) ?_
  refine qY rfl rfl (by assumption) (fun e x w hw=>ai.mem hw) (Cert.one (i:=7) rfl rfl rfl jy (Cert.none rfl)) fun fR zY=>⟨fun _ hw=>ai.mem hw,?_⟩
  refine al rfl (aE rfl) ?_
  refine al rfl (aU (v:= .agg (bN (⟨fR.1,fR.2.1,fR.2.2.1,fR.2.2.2⟩:bU))) rfl rfl) ?_
  refine al rfl (aU (v:= .int .i64 ((gS (cv c) (dm (cv c))).2)) rfl rfl) ?_
  refine nB (m:=j9 Tryz.prog 29) rfl rfl jy (Cert.none rfl) fun b4=> ?_
  change Ln _ _ _ _ _ _ _ _ (cy _ _ (.pointer (some ⟨b4,0,none⟩))) (ar b4 (bN kT) 29::_) _
  refine dC rfl (mJ rfl rfl ⟨fun _ hw=>ai.mem hw,?_⟩)
  refine al rfl (bn rfl) ?_
  refine Gc ?_
  refine Gs ?_
  refine ah (cW (v:= .agg (bQ (⟨(⟨fR.1,fR.2.1,fR.2.2.1,fR.2.2.2⟩:bU),⟨Sv.none,[]⟩⟩:cC))) rfl (Nu (⟨fR.1,fR.2.1,fR.2.2.1,fR.2.2.2⟩:bU))) ?_
  iterate 3 refine Gs ?_
  refine Gc ?_
  refine au (.inl rfl) (bq rfl (ck rfl) (aq rfl)) (fun w1 hw=> ?_)
  exact⟨(⟨(⟨fR.1,fR.2.1,fR.2.2.1,fR.2.2.2⟩:bU),⟨Sv.none,[]⟩⟩:cC),by rw[hE],by rw[hE];simp only[bG,vv,zY],Nv (v:=(⟨fR.1,fR.2.1,fR.2.2.1,fR.2.2.2⟩:bU)) (ai.mem hw)⟩
instance aji{w0:World}{L:List ak}{c:Cp}[hc:aW w0 L c]:cw Tryz.prog 33 w0 L [.agg (aF c)] (cC) (fun zz=> .tuple #[.agg (bQ zz), .int .i64 ((iU (cv c)).2)]) (fun zz=>fz zz::L) (fun zz=>bG zz=(iU (cv c)).1) (dK c):=⟨fun hp w hw=>(Y0 w c (hc.h w hw) hp).mono fun e w' ⟨x,h1,h2,h3⟩=>⟨x,h1,h2,hw.call h3⟩⟩
theorem Y2{w0 w:World}{L:List ak}{f:cC}{a:Sl Rt}(h:Mem w0 (fz f::own ax 19 a.sv a.xs::L) w):Mem w0 (fz (⟨f.an,a⟩:cC)::L) w:=by
 have h2:=(vw (a:=a) (h.perm (List.Perm.swap _ _ _))).perm (List.Perm.swap _ _ _)
 refine Mem.freeze (es:=[fz f,fz a]) (⟨f.an,a⟩:cC) ⟨(h2.sat (fz f) (by simp)).1,h2.sat (fz a) (by simp)⟩ (fun k hk=> ?_) h2
 rcases hk with hk|hk
 ·
  exact⟨fz f,by simp, .inl hk⟩
 ·
  exact⟨fz a,by simp,hk⟩
theorem Y3(w:World)(f:cC)(hf:Deep.aZ (hp w) f)(bf:dK f.an.ag∧f.an.at_.xs.length≤1000000∧f.table.xs.length≤1000000):Calls Tryz.prog 75 #[.agg (bQ f)] w fun e w'=> ∃zz:cC,e= .returned (.agg (bQ zz))∧(bG zz=bG f)∧Mem w [fz zz] w':=by
 have C3:cM w f:=⟨hf⟩
 obtain⟨lq,kg,nO⟩:=bf
 refine bh (args:=[_]) Tryz.func75 rfl Tryz.ntmps75 rfl ?_
 change Cw _ _ _ _ _ [(0, .agg (bQ f))] []
 refine Gc ?_
 refine cA rfl fun b1=> ?_
 refine bM fun b2=> ?_
 refine Gc ?_
 iterate 2 refine Gs ?_
 refine ah (jv rfl) ?_
 refine bu rfl lq fun x6 Mt=> ?_
 iterate 2 refine Gs ?_
 refine yC (cs':=bQ ({f with an:=({f.an with ag:=x6}:bU)}:cC)) rfl rfl (by show 0+6≤10;decide) rfl ?_
 refine Gc ?_
 iterate 3 refine Gs ?_
 refine bu rfl kg fun pH GY=> ?_
 iterate 2 refine Gs ?_
 refine eV (cs':=bQ ({f with an:=({f.an with ag:=x6,at_:=⟨pH,f.an.at_.xs⟩}:bU)}:cC)) rfl rfl (by show 6<10;decide) (by first|rfl|exact Sv.one _) rfl ?_
 refine Gc ?_
 iterate 2 refine Gs ?_
 refine bu rfl nO fun fR zY=> ?_
 refine Gs ?_
 refine eV (cs':=bQ (⟨({f.an with ag:=x6,at_:=⟨pH,f.an.at_.xs⟩}:bU),⟨fR,f.table.xs⟩⟩:cC)) rfl rfl (by show 9<10;decide) (by first|rfl|exact Sv.one _) rfl ?_
 refine Gc ?_
 iterate 2 refine Gs ?_
 refine Gc ?_
 refine au (.inl rfl) (aQ rfl (ck rfl)) (fun w1 hw=> ?_)
 exact⟨(⟨({f.an with ag:=x6,at_:=⟨pH,f.an.at_.xs⟩}:bU),⟨fR,f.table.xs⟩⟩:cC),rfl,by simp only[bG,vv,Mt],Mh (f:=(⟨({f.an with ag:=x6,at_:=⟨pH,f.an.at_.xs⟩}:bU),⟨fR,f.table.xs⟩⟩:cC)) (ai.mem hw)⟩
instance ajj{w0:World}{L:List ak}{f:cC}[hf:aW w0 L f]:cw Tryz.prog 75 w0 L [.agg (bQ f)] (cC) (fun zz=> .agg (bQ zz)) (fun zz=>fz zz::L) (fun zz=>bG zz=bG f) (dK f.an.ag∧f.an.at_.xs.length≤1000000∧f.table.xs.length≤1000000):=⟨fun hp w hw=>(Y3 w f (hf.h w hw) hp).mono fun e w' ⟨x,h1,h2,h3⟩=>⟨x,h1,h2,hw.call h3⟩⟩
end Go.Proofs.YtaipiecplldinaaGreat
namespace Go.Kb
open Go.ay
theorem Nw{p q:cU}(h:dR p q=true):cZ p=true∧cZ q=true:=by
 simp only[dR,Bool.and_eq_true]at h
 exact⟨h.1.1,h.1.2⟩
theorem Y4{p q r:cU}(h:dR p q=true)(h':dR q r=true):dR p r=true:=by
 obtain⟨hp,hq⟩:=Nw h
 obtain⟨_,hr⟩:=Nw h'
 rw[lI hp hq]at h
 rw[lI hq hr]at h'
 rw[lI hp hr]
 omega
def tok(ps:List cU):Prop:=ps.length≤256∧(∀p∈ps,cZ p=true)∧ps.Pairwise fun p q=>dR p q=true
theorem Nx(xs:List Rt): ∀n,n≤xs.length→(p6 xs n=true↔(∀p∈(xs.take n).map (·.p),cZ p=true)∧((xs.take n).map (·.p)).Pairwise fun p q=>dR p q=true)
 |0,_=>by simp[Jt]
 |n+1,h=>by
  obtain⟨r,hr⟩:=get_some (xs:=xs) (i:=n) (by omega)
  have e:xs.take (n+1)=xs.take n++[r]:=by rw[List.take_add_one,hr];rfl
  rw[Et,Bool.and_eq_true,Nx xs n (by omega),e,List.map_append,List.pairwise_append]
  simp only[List.map_cons,List.map_nil,List.mem_append,List.mem_singleton,List.pairwise_cons,List.not_mem_nil,false_implies,implies_true,List.Pairwise.nil,and_self,true_and,and_true]
  cases n with
  |zero=>rw[Eu hr];simp
  |succ m=>
   obtain⟨q,hq⟩:=get_some (xs:=xs) (i:=m) (by omega)
   rw[Bb hr hq,Bool.and_eq_true]
   have e2:xs.take (m+1)=xs.take m++[q]:=by rw[List.take_add_one,hq];rfl
   constructor
   ·
    rintro⟨⟨h1,h2⟩,h3,h4⟩
    refine⟨fun p hp=>hp.elim (h1 p) (fun e=>e▸h3),h2,fun p hp b hb=> ?_⟩
    subst hb
    rw[e2,List.map_append]at hp h2
    rcases List.mem_append.1 hp with hp|hp
    ·
     have:=(List.pairwise_append.1 h2).2.2 p hp q.p (by simp)
     exact Y4 this h4
    ·
     have:p=q.p:=by simpa using hp
     rw[this];exact h4
   ·
    rintro⟨h1,h2,h3⟩
    refine⟨⟨fun p hp=>h1 p (.inl hp),h2⟩,h1 _ (.inr rfl),h3 q.p ?_ _ rfl⟩
    rw[e2];simp
theorem Y5(xs:List Rt):dy xs=true↔tok (xs.map (·.p)):=by
 rw[dy,Bool.and_eq_true,Nx xs _ (Nat.le_refl _),List.take_length,decide_eq_true_iff]
 simp[tok]
theorem Y6{xs:List Rt}(h:dy xs=true): ∀r∈xs,cZ r.p=true:=fun r hr=>((Y5 xs).1 h).2.1 r.p (List.mem_map_of_mem hr)
theorem Y7{r:Rt}(h:cZ r.p=true):rd (eO r)=some r:=by
 obtain⟨h1,h2,h3,-⟩:=(A9 r.p).1 h
 have e0:(eO r).getD 0 0=if r.p.bits=128 then 1 else 0:=by simp[List.getD,Ky]
 have e1:(eO r).getD 1 0=cS r.p.len:=by simp[List.getD,Kz]
 have C0:(eO r).getD 18 0=b8 (r.dP.toNat/256):=by simp[List.getD,KB]
 have Ny:(eO r).getD 19 0=b8 r.dP.toNat:=by simp[List.getD,KC]
 have ok:nN (eO r)=true:=by
  rw[nN,e0];split<;>decide
 rw[LH,if_pos ok]
 congr 1
 obtain⟨⟨b,l,k⟩,dP⟩:=r
 simp only at h1 h2 h3 e0 e1 C0 Ny
 have ek:(oc fun i=>((eO ⟨⟨b,l,k⟩,dP⟩).getD (2+i) 0).toNat)=k:=by
  refine yO fun i hi=> ?_
  rw[yP _ _ hi]
  simp only[List.getD,KA _ i hi,Option.getD_some,pX]
  have:=ob k i
  omega
 have el:((cS l).toNat:Int)=l:=by
  obtain⟨n,rfl⟩: ∃n:Nat,l=n:=⟨l.toNat,by omega⟩
  rw[S0,pX];omega
 have eh:qT (b8 (dP.toNat/256)) (b8 dP.toNat)=dP:=by
  apply UInt16.toNat_inj.1
  have:=dP.toNat_lt
  rw[Eo,pX,pX];omega
 show(⟨⟨if(eO ⟨⟨b,l,k⟩,dP⟩).getD 0 0=1 then 128 else 32,((eO ⟨⟨b,l,k⟩,dP⟩).getD 1 0).toNat,oc fun i=>((eO ⟨⟨b,l,k⟩,dP⟩).getD (2+i) 0).toNat⟩,qT ((eO ⟨⟨b,l,k⟩,dP⟩).getD 18 0) ((eO ⟨⟨b,l,k⟩,dP⟩).getD 19 0)⟩:Rt)=_
 rw[ek,e0,e1,C0,Ny,el,eh]
 congr 2
 rcases h1 with rfl|rfl<;>simp
theorem Nz: ∀{l:List Rt},(∀r∈l,cZ r.p=true)→ln (l.flatMap eO)=some l
 |[],_=>FX
 |r::l,h=>by
  rw[List.flatMap_cons,FY (by rw[List.length_append,oy];omega),List.take_left' (oy r),List.drop_left' (oy r),Y7 (h r (by simp)),Nz fun r hr=>h r (by simp[hr])]
  rfl
theorem NA{t:List Rt}(n:Nat)(h: ∀r∈t,cZ r.p=true): ∀k,fT (ll t k n)=some (t.take (k*n))
 |0=>by simp[ll,fT]
 |k+1=>by
  rw[TZ,Cg,NA n h k,Option.bind_some,fT,fT,qt,Nz fun r hr=>h r (List.mem_of_mem_drop (List.mem_of_mem_take hr))]
  simp only[Option.map_some,Option.bind_some,List.append_nil,Option.some.injEq]
  rw[Nat.add_mul,Nat.one_mul,List.take_add]
theorem NB{t:List Rt}{ids room:Int}(h:jk t ids room=0):ij (jV t ids room)=t∧iT (jV t ids room)=0:=by
 obtain⟨h1,h2,h3⟩: ¬gI ids room=0∧dy t=true∧ ¬gI ids room<t.length:=by
  unfold jk at h
  split at h
  ·
   cases h
  ·
   rename_i hn
   split at h
   ·
    cases h
   ·
    rename_i hm
    exact⟨fun e=>hn (.inr e),by cases hr:dy t;exact absurd (.inl hr) hn;rfl,hm⟩
 have hm:=Cf h1
 obtain⟨_,hV⟩:=F1 h1 h2 h3
 have oL:ids*(room/20)=((ids.toNat*(room/20).toNat:Nat):Int):=by
  rw[Int.natCast_mul,Int.toNat_of_nonneg (by omega),Int.toNat_of_nonneg (by omega)]
 have hu:fT (jV t ids room)=some t:=by
  rw[hV,NA _ (Y6 h2),List.take_of_length_le (by omega)]
 exact F0 hu h2
theorem NC{t:List Rt}{ids room:Int}(h:jk t ids room=0): ¬gI ids room=0∧dy t=true∧ ¬gI ids room<t.length∧jV t ids room=ll t ids.toNat (room/20).toNat:=by
 unfold jk at h
 split at h
 ·
  cases h
 ·
  rename_i hn
  split at h
  ·
   cases h
  ·
   rename_i hm
   have h1: ¬gI ids room=0:=fun e=>hn (.inr e)
   have h2:dy t=true:=by cases hr:dy t;exact absurd (.inl hr) hn;rfl
   exact⟨h1,h2,hm,(F1 h1 h2 hm).2⟩
theorem Y8{t:List Rt}{ids room:Int}(h: ¬jk t ids room=0):jV t ids room=[]:=by rw[jV,if_neg h]
theorem C5{t:List Rt}{ids room:Int}(h:jk t ids room=0):((jV t ids room).length:Int)=ids∧1≤ids∧ids≤64:=by
 obtain⟨h1,_,_,hV⟩:=NC h
 have:=Cf h1
 rw[hV,tI];omega
theorem Y9{t:List Rt}{ids room:Int}:(jV t ids room).length≤64∧ ∀x∈jV t ids room,x.length≤240:=by
 by_cases h:jk t ids room=0
 ·
  have h2:=C5 h
  obtain⟨h1,_,_,hV⟩:=NC h
  have hm:=Cf h1
  refine⟨by omega,fun x hx=> ?_⟩
  rw[hV]at hx
  obtain⟨j,_,rfl⟩:=List.mem_map.1 hx
  have:=LA t (room/20).toNat j
  omega
 ·
  rw[Y8 h];simp
theorem Za(a:List (List UInt8)):eQ a a=[]:=by
 rw[eQ,mj,List.filterMap_eq_nil_iff]
 intro i _
 rw[rk,if_pos rfl]
theorem Zb{a b:List (List UInt8)}(hl:a.length=b.length):eQ a b=[]↔a=b:=by
 refine⟨fun h=> ?_,fun h=>by rw[h,Za]⟩
 rw[eQ,mj,List.filterMap_eq_nil_iff,hl,Nat.max_self]at h
 refine List.ext_getElem? fun i=> ?_
 by_cases hi:i<b.length
 ·
  have:=h i (List.mem_range.2 hi)
  unfold rk at this
  split at this
  ·
   rename_i he
   rw[List.getElem?_eq_getElem (by omega),List.getElem?_eq_getElem hi]
   simpa[List.getD,hi,show i<a.length by omega]using he
  ·
   cases this
 ·
  rw[List.getElem?_eq_none (by omega),List.getElem?_eq_none (by omega)]
theorem ND{a b:List (List UInt8)}{n:Nat}{p:Int×List UInt8}(h:p∈mj a b n): ∃i:Nat,i<n∧p=((i:Int),b.getD i [])∧ ¬a.getD i []=b.getD i []:=by
 rw[mj,List.mem_filterMap]at h
 obtain⟨i,hi,he⟩:=h
 unfold rk at he
 split at he
 ·
  cases he
 ·
  rename_i hn
  exact⟨i,List.mem_range.1 hi,(Option.some.inj he).symm,hn⟩
theorem Hl(a b:List (List UInt8)): ∀n,(mj a b n).Pairwise fun p q=>p.1<q.1
 |0=>List.Pairwise.nil
 |n+1=>by
  by_cases h:a.getD n []=b.getD n []
  ·
   rw[LF h];exact Hl a b n
  ·
   rw[LG h,List.pairwise_append]
   refine⟨Hl a b n,List.pairwise_singleton _ _,fun p hp q hq=> ?_⟩
   obtain⟨i,hi,rfl,_⟩:=ND hp
   obtain rfl:=List.mem_singleton.1 hq
   simp only;omega
end Go.Kb
namespace Go.Proofs.YtaipiecplldinaaGreat
open Go.ay Go.Kb
open Go.RowKit
theorem Zc(w:World)(f:cC)(l:Sv)(ls:List Ch)(hf:Deep.aZ (hp w) f)(hl:bW fU 20 (hp w) l ls)(bf:dK f.an.ag∧f.an.at_.xs.length≤1000000∧f.table.xs.length≤1000000):Calls Tryz.prog 35 #[.agg (bQ f),l.val] w fun e w'=> ∃zz:cC,e= .returned (.tuple #[.agg (bQ zz), .int .i64 ((cg (bG f) ls).2)])∧(bG zz=(cg (bG f) ls).1)∧Mem w [fz zz] w':=by
 have C3:cM w f:=⟨hf⟩
 have oJ:Gv w l fU 20 ls:=⟨hl⟩
 have v7:=bf
 obtain⟨lq,kg,nO⟩:=bf
 refine bh (args:=[_,_]) Tryz.func35 rfl Tryz.ntmps35 rfl ?_
 change Cw _ _ _ _ _ [(0, .agg (bQ f)),(1,l.val)] []
 refine Gc ?_
 refine cA rfl fun b2=> ?_
 refine bM fun b4=> ?_
 refine Gs ?_
 refine Gc ?_
 refine Gs ?_
 refine bu rfl trivial fun Hm Zd=> ?_
 refine Gs ?_
 refine ah (aU (v:=Hm.sv.val) rfl rfl) ?_
 refine ah (aU (v:= .bool (gy (bG f))) rfl rfl) ?_
 iterate 2 refine Gs ?_
 refine Gc ?_
 iterate 2 refine Gs ?_
 refine Gc ?_
 refine av rfl (fun h0=> ?_) (fun h0=> ?_)
 ·
  replace h0:=bz h0
  have hE:(cg (bG f) ls)=(bG f,1):=UE h0
  refine Gc ?_
  refine Gs ?_
  refine bu rfl v7 fun jn GN=> ?_
  iterate 2 refine Gs ?_
  refine Gc ?_
  refine au (.inl rfl) (bq rfl (ck rfl) (aq rfl)) (fun w1 hw=> ?_)
  exact⟨jn,by rw[hE],by rw[hE];exact GN,ai.mem hw⟩
 ·
  replace h0:=bz h0
  have vF:lx Hm=fj (bG f):=Zd h0
  refine Gc ?_
  iterate 3 refine Gs ?_
  refine bu rfl nO fun ko qA=> ?_
  refine Gs ?_
  refine ah (aU (v:=ko.val) rfl rfl) ?_
  refine ah (aU (v:= .int .i64 (eu f.table.xs ls)) rfl rfl) ?_
  iterate 2 refine Gs ?_
  refine Gc ?_
  iterate 2 refine Gs ?_
  refine Gc ?_
  refine av rfl (fun h1=> ?_) (fun h1=> ?_)
  ·
   replace h1:=bz h1
   have hE:(cg (bG f) ls)=(bG f,eu f.table.xs ls):=Mk h0 h1
   refine Gc ?_
   refine Gs ?_
   refine bu rfl v7 fun az sI=> ?_
   iterate 3 refine Gs ?_
   refine Gc ?_
   refine au (.inl rfl) (bq rfl (ck rfl) (aq rfl)) (fun w1 hw=> ?_)
   exact⟨az,by rw[hE],by rw[hE];exact sI,ai.mem hw⟩
  ·
   replace h1:=bz h1
   refine Gc ?_
   refine jd [10] [[],[],[],[],[],[],[],[],[],[],[],[10],[10],[10],[10],[10]] [0,1,2,3,4,5,6,7,8,9,10,11,12,13,14,15] _ (fun _ hw=>hw) (by kernel_rfl) (by kernel_rfl) ?_
   refine al rfl (aE rfl) ?_
   refine al rfl (aI (o':=0) rfl rfl) ?_
   refine al rfl (aI (o':=0) rfl rfl) ?_
   refine al rfl (jv rfl) ?_
   refine u4 rfl (cJ rfl trivial) ?_
   refine al rfl (aI (o':=0) rfl rfl) ?_
   refine al rfl (aI (o':=0) rfl rfl) ?_
   refine al rfl (aI (o':=1) rfl rfl) ?_
   refine al rfl (bJ rfl) ?_
   refine u4 rfl (cJ rfl trivial) ?_
   refine dC rfl (nA rfl trivial fun qD Ns=>⟨fun _ hw=>ai.mem hw,?_⟩)
   refine al rfl (aE rfl) ?_
   refine al rfl (aU (v:=qD.sv.val) rfl rfl) ?_
   refine al rfl (aU (v:= .int .i64 (jk (cQ f.table.xs ls) (dm (cv f.an.ag)) (dM f.an.ag.size))) rfl rfl) ?_
   refine al rfl (bn rfl) ?_
   refine al rfl (bn rfl) ?_
   refine Gc ?_
   iterate 2 refine Gs ?_
   refine Gc ?_
   refine av rfl (fun h2=> ?_) (fun h2=> ?_)
   ·
    replace h2:=bz h2
    have hE:(cg (bG f) ls)=(bG f,(jk (cQ f.table.xs ls) (dm (cv f.an.ag)) (dM f.an.ag.size))):=Ml h0 h1 h2
    refine Gc ?_
    refine Gs ?_
    refine bu rfl v7 fun Ze Zf=> ?_
    iterate 3 refine Gs ?_
    refine Gc ?_
    refine au (.inl rfl) (bq rfl (ck rfl) (aq rfl)) (fun w1 hw=> ?_)
    exact⟨Ze,by rw[hE],by rw[hE];exact Zf,ai.mem hw⟩
   ·
    replace h2:=bz h2
    have pt:lx qD=fI (bG f) ls:=Ns
    have xx:(fj (bG f)).length≤64:=UD _
    have Hc:Hm.xs.length≤1000000:=by rw[←vF,uQ]at xx;omega
    have CW:(fI (bG f) ls).length≤64∧ ∀x∈fI (bG f) ls,x.length≤240:=Y9
    have Zg:qD.xs.length≤1000000:=by have:=CW.1;rw[←pt,uQ]at this;omega
    have Zh: ∀x∈qD.xs,x.xs.length≤140737488355328:=fun x hx=>by
     have hm:x.xs∈lx qD:=List.mem_map_of_mem (f:=fun x:Sl UInt8=>x.xs) hx
     rw[pt]at hm
     have:=CW.2 _ hm;omega
    refine Gc ?_
    iterate 2 refine Gs ?_
    refine bu rfl ⟨Hc,Zg,Zh⟩ fun pI NF=> ?_
    refine Gs ?_
    refine Gc ?_
    iterate 3 refine Gs ?_
    refine Gc ?_
    refine av rfl (fun h3=> ?_) (fun h3=> ?_)
    ·
     replace h3:=bz h3
     have Ae:eQ (fj (bG f)) (fI (bG f) ls)=[]:=by rw[←vF,←pt,←NF,uU,List.length_eq_zero_iff.1 (by omega:pI.xs.length=0)];rfl
     have hE:(cg (bG f) ls)=(⟨(bG f).an,(cQ f.table.xs ls)⟩,0):=Mm h0 h1 h2 Ae
     refine Gc ?_
     refine Gs ?_
     refine bu rfl v7 fun C6 Zi=> ?_
     refine Gs ?_
     refine Gc ?_
     iterate 2 refine Gs ?_
     refine eV (cs':=bQ (⟨C6.an,⟨ko,(cQ f.table.xs ls)⟩⟩:cC)) rfl rfl (by show 9<10;decide) (by first|rfl|exact Sv.one _) rfl ?_
     refine Gc ?_
     iterate 3 refine Gs ?_
     refine Gc ?_
     refine au (.inl rfl) (bq rfl (ck rfl) (aq rfl)) (fun w1 hw=> ?_)
     exact⟨(⟨C6.an,⟨ko,(cQ f.table.xs ls)⟩⟩:cC),by rw[hE],by rw[hE,←Zi];rfl,Y2 (f:=C6) (ai.mem hw:Mem w [fz C6,own ax 19 ko (cQ f.table.xs ls)] _)⟩
    ·
     replace h3:=bz h3
     have Ae:eQ (fj (bG f)) (fI (bG f) ls)=pI.xs.map bt:=by rw[←vF,←pt,←NF];rfl
     have Zj: ¬eQ (fj (bG f)) (fI (bG f) ls)=[]:=by rw[Ae];intro h;have:=congrArg List.length h;rw[List.length_map,List.length_nil]at this;omega
     have Zk:pI.xs.length≤1000000:=by have:=congrArg List.length Ae;have hq:=Cj (fj (bG f)) (fI (bG f) ls) (max (fj (bG f)).length (fI (bG f) ls).length);rw[List.length_map]at this;have h7:=CW.1;rw[eQ]at this;omega
     have sJ:=Ga h0 h1 h2 Zj
     rw[Ae]at sJ
     refine Gc ?_
     refine Gs ?_
     refine ah (jv rfl) ?_
     refine Gs ?_
     refine bu rfl ⟨lq,kg,Zk⟩ fun eK GM=> ?_
     refine Gs ?_
     refine ah (aU (v:= .agg (bN (⟨eK.1,eK.2.1,eK.2.2.1,eK.2.2.2⟩:bU))) rfl rfl) ?_
     refine ah (aU (v:= .int .i64 ((fQ (vv f.an) (pI.xs.map bt)).2)) rfl rfl) ?_
     refine bM fun tV=> ?_
     iterate 2 refine Gs ?_
     refine Gc ?_
     iterate 2 refine Gs ?_
     refine Gc ?_
     refine av rfl (fun h4=> ?_) (fun h4=> ?_)
     ·
      replace h4:=bz h4
      have hE:(cg (bG f) ls)=(⟨(fQ (vv f.an) (pI.xs.map bt)).1,f.table.xs⟩,(fQ (vv f.an) (pI.xs.map bt)).2):=sJ.trans (congrArg (fun z=>((⟨(fQ (vv f.an) (pI.xs.map bt)).1,z⟩:FV),(fQ (vv f.an) (pI.xs.map bt)).2)) (if_pos h4))
      refine Gi ?_
      iterate 2 refine Gs ?_
      refine bu rfl nO fun xW ajk=> ?_
      refine Gs ?_
      refine Gc ?_
      iterate 2 refine Gs ?_
      refine ah (cW (v:= .agg (bQ (⟨(⟨eK.1,eK.2.1,eK.2.2.1,eK.2.2.2⟩:bU),⟨xW,f.table.xs⟩⟩:cC))) rfl (Hi (⟨eK.1,eK.2.1,eK.2.2.1,eK.2.2.2⟩:bU) ⟨xW,f.table.xs⟩)) ?_
      iterate 3 refine Gs ?_
      refine Gc ?_
      refine au (.inl rfl) (bq rfl (ck rfl) (aq rfl)) (fun w1 hw=> ?_)
      exact⟨(⟨(⟨eK.1,eK.2.1,eK.2.2.1,eK.2.2.2⟩:bU),⟨xW,f.table.xs⟩⟩:cC),by rw[hE],by rw[hE];simp only[bG,vv,GM],Cr (f:=(⟨(⟨eK.1,eK.2.1,eK.2.2.1,eK.2.2.2⟩:bU),⟨xW,f.table.xs⟩⟩:cC)) (ai.mem (vw (a:=(⟨xW,f.table.xs⟩:Sl Rt)) (ai.mem hw:Mem w [own ax 19 xW f.table.xs,fz eK.1,fz eK.2.1] _)))⟩
     ·
      replace h4:=bz h4
      have hE:(cg (bG f) ls)=(⟨(fQ (vv f.an) (pI.xs.map bt)).1,(cQ f.table.xs ls)⟩,(fQ (vv f.an) (pI.xs.map bt)).2):=sJ.trans (congrArg (fun z=>((⟨(fQ (vv f.an) (pI.xs.map bt)).1,z⟩:FV),(fQ (vv f.an) (pI.xs.map bt)).2)) (if_neg (fun h=>h h4)))
      refine Gc ?_
      iterate 2 refine Gs ?_
      refine ah (cW (v:= .agg (bQ (⟨(⟨eK.1,eK.2.1,eK.2.2.1,eK.2.2.2⟩:bU),⟨ko,(cQ f.table.xs ls)⟩⟩:cC))) rfl (Hi (⟨eK.1,eK.2.1,eK.2.2.1,eK.2.2.2⟩:bU) ⟨ko,(cQ f.table.xs ls)⟩)) ?_
      iterate 3 refine Gs ?_
      refine Gc ?_
      refine au (.inl rfl) (bq rfl (ck rfl) (aq rfl)) (fun w1 hw=> ?_)
      exact⟨(⟨(⟨eK.1,eK.2.1,eK.2.2.1,eK.2.2.2⟩:bU),⟨ko,(cQ f.table.xs ls)⟩⟩:cC),by rw[hE],by rw[hE];simp only[bG,vv,GM],Cr (f:=(⟨(⟨eK.1,eK.2.1,eK.2.2.1,eK.2.2.2⟩:bU),⟨ko,(cQ f.table.xs ls)⟩⟩:cC)) (ai.mem (vw (a:=(⟨ko,(cQ f.table.xs ls)⟩:Sl Rt)) (ai.mem hw:Mem w [own ax 19 ko (cQ f.table.xs ls),fz eK.1,fz eK.2.1] _)))⟩
instance ajl{w0:World}{L:List ak}{f:cC}{l:Sv}{ls:List Ch}[hf:aW w0 L f][hl:c8 w0 L fU 20 l ls]:cw Tryz.prog 35 w0 L [.agg (bQ f),l.val] (cC) (fun zz=> .tuple #[.agg (bQ zz), .int .i64 ((cg (bG f) ls).2)]) (fun zz=>fz zz::L) (fun zz=>bG zz=(cg (bG f) ls).1) (dK f.an.ag∧f.an.at_.xs.length≤1000000∧f.table.xs.length≤1000000):=⟨fun hp w hw=>(Zc w f l ls (hf.h w hw) (hl.h w hw) hp).mono fun e w' ⟨x,h1,h2,h3⟩=>⟨x,h1,h2,hw.call h3⟩⟩
open Go.ay Go.Kb
open Go.RowKit
open Go.ay Go.Kb
open Go.RowKit
open Go.ay Go.Kb
open Go.RowKit
open Go.ay Go.Kb
open Go.RowKit
open Go.ay Go.Kb
open Go.RowKit
open Go.ay Go.Kb
open Go.RowKit
theorem Zl(n s:Int)(b:Sv)(xs:List Bk)(w:World):(Instr.build 25 #[(0, .int .i64 n),(1, .int .i64 s),(2,b.val)]).run Tryz.prog w= .ok (.agg (aF ⟨n,s,⟨b,xs⟩,0,false,⟨Sv.none,[]⟩⟩)) w:=by
 unfold aF
 obtain⟨e,b,o,l,c,p⟩:=b
 cases e<;>kernel_rfl
theorem Zm(w:World)(b:Int)(n:Int)(s:Int):Calls Tryz.prog 31 #[.int .i64 b, .int .i64 n, .int .i64 s] w fun e w'=> ∃zz:Cp,e= .returned (.tuple #[.agg (aF zz), .int .i64 ((nD b n s).2)])∧(cv zz=(nD b n s).1)∧Mem w [fz zz] w':=by
 refine bh (args:=[_,_,_]) Tryz.func31 rfl Tryz.ntmps31 rfl ?_
 change Cw _ _ _ _ _ [(0, .int .i64 b),(1, .int .i64 n),(2, .int .i64 s)] []
 refine Gc ?_
 refine bM fun b6=> ?_
 refine Gs ?_
 refine Gc ?_
 iterate 5 refine Gs ?_
 refine Gc ?_
 refine av rfl (fun h0=> ?_) (fun h0=> ?_)
 ·
  replace h0:=bz h0
  have hN:nD b n s=(⟨0,0,[],0,false,[]⟩,1):=by rw[nD,if_neg (by rw[h0];simp)]
  refine Gc ?_
  refine ah (cW (v:= .agg (aF gh)) rfl (fun w=>by kernel_rfl)) ?_
  iterate 2 refine Gs ?_
  refine Gc ?_
  refine au (.inl rfl) (bq rfl (ck rfl) (aq rfl)) (fun w1 hw=> ?_)
  exact⟨gh,by rw[hN],by rw[hN];rfl,Ku (d:=gh) rfl (show Mem w [own bX 4 Sv.none [],ak.all []] _ from ai.mem (Mem.u6 (Mem.dQ bX 4 (ai.mem hw:Mem w [] _))))⟩
 ·
  replace h0:=bz h0
  have ik:=kR.1 h0
  have hN:nD b n s=(⟨n,s,List.replicate b.toNat (⟨List.replicate n.toNat (gE s),0,0,false⟩:BV),0,false,[]⟩,0):=by rw[nD,if_pos h0]
  refine Gc ?_
  iterate 3 refine Gs ?_
  refine te (enc:=bX) (n:=b.toNat) (cap:=b.toNat) ou rfl rfl rfl (by omega) (by omega) (by omega) (by omega) (by omega) fun iq=> ?_
  refine ah (cW (v:= .agg (aF (⟨n,s,⟨⟨false,iq,0,b.toNat,b.toNat,none⟩,[]⟩,0,false,⟨Sv.none,[]⟩⟩:Cp))) rfl (Zl n s ⟨false,iq,0,b.toNat,b.toNat,none⟩ [])) ?_
  refine bM fun b8=> ?_
  refine Gs ?_
  refine Gc ?_
  iterate 2 refine Gs ?_
  refine Gc ?_
  refine ct (X:=Nat×List Bk) (fun zz=>[(23, .int .i64 (zz.1:Nat)),(8, .pointer (some ⟨b8,0,none⟩)),(1, .int .i64 n),(2, .int .i64 s),(6, .pointer (some ⟨b6,0,none⟩)),(22, .int .i64 b)]) (fun zz=>[own bX 4 ⟨false,iq,0,b.toNat,b.toNat,none⟩ zz.2,ak.all ((zz.2.take zz.1).map fun b:Bk=>fz b.ae),ar b8 (aF (⟨n,s,⟨⟨false,iq,0,b.toNat,b.toNat,none⟩,[]⟩,0,false,⟨Sv.none,[]⟩⟩:Cp)) 25,ar b6 (aF gh) 25]) (fun zz=>zz.1≤b.toNat∧zz.2.length=b.toNat∧(zz.2.take zz.1).map bv=List.replicate zz.1 (⟨List.replicate n.toNat (gE s),0,0,false⟩:BV)∧ ∀j,zz.1≤j→j<b.toNat→zz.2[j]? =Option.some ou) (fun zz=>b.toNat -zz.1) (0,List.replicate b.toNat ou) ⟨Nat.zero_le _,by simp,by simp,fun j _ hj=>by simp[hj]⟩ (Sub.cons rfl (Sub.cons rfl (Sub.cons rfl (Sub.cons rfl (Sub.cons rfl (Sub.cons rfl (Sub.nil _))))))) (fun w hw=>by
   simp only[List.take_zero,List.map_nil];exact ai.mem (Mem.u6 hw)) ?_
  rintro⟨i,zs⟩ ⟨bl,aH,bB,c6⟩
  dsimp only
  simp only at bl aH bB c6
  refine Gc ?_
  refine Gs ?_
  refine Gc ?_
  refine av rfl (fun h1=> ?_) (fun h1=> ?_)
  ·
   replace h1:=bz h1
   obtain⟨z,hz⟩:=get_some (xs:=zs) (i:=i) (by omega)
   obtain rfl:z=ou:=Option.some.inj (hz.symm.trans (c6 i (Nat.le_refl _) (by omega)))
   have Zn:=BM (b:=iq) (n:=b.toNat) (by omega)
   refine Gc ?_
   iterate 2 refine Gs ?_
   refine Gc ?_
   refine jd [4,7] [[],[],[],[],[],[4],[4],[4]] [0,1,2,3,4,5,6,7] [ar b8 (aF (⟨n,s,⟨⟨false,iq,0,b.toNat,b.toNat,none⟩,[]⟩,0,false,⟨Sv.none,[]⟩⟩:Cp)) 25] (fun _ hw=>ai.mem hw) (by kernel_rfl) (by kernel_rfl) ?_
   refine al rfl (aI (o':=2) rfl rfl) ?_
   refine al rfl (bJ rfl) ?_
   refine al rfl (aE rfl) ?_
   refine al rfl (aE rfl) ?_
   refine dC rfl (JP (enc:=cd (τ:=UInt8)) (n:=n.toNat) (cap:=n.toNat) (⟨Sv.none,[]⟩:Sl UInt8) rfl rfl rfl (by omega) (by omega) (by omega) (by omega) (by omega) fun fS=>⟨fun _ hw=>ai.mem hw,?_⟩)
   obtain⟨e31,ajm⟩:=get_some (xs:=zs) (i:=i) (by omega)
   refine al rfl (lF (s:=⟨false,iq,0,b.toNat,b.toNat,none⟩) (i:=i) rfl rfl rfl Zn (by simp only;omega)) ?_
   refine al rfl (aI rfl rfl) ?_
   refine dC rfl (uZ (s:=⟨false,iq,0,b.toNat,b.toNat,none⟩) (n:=1) (k:=i) (j:=0) (a:=ou) (a':=⟨⟨⟨false,fS,0,n.toNat,n.toNat,none⟩,[]⟩,0,0,false⟩) (xs:=zs) (enc:=bX) (c:=4) (v:=(⟨false,fS,0,n.toNat,n.toNat,none⟩:Sv).val) (by kernel_rfl) rfl rfl rfl hz (by rw[Sv.jc];simp[Sv.one]) (by rw[Sv.jc];rfl) (by decide) (by rw[Sv.jc];rfl) ⟨fun _ hw=>ai.mem hw,?_⟩)
   iterate 3 refine Gi ?_
   have NG:(zs.set i ⟨⟨⟨false,fS,0,n.toNat,n.toNat,none⟩,[]⟩,0,0,false⟩)[i]? =Option.some (⟨⟨⟨false,fS,0,n.toNat,n.toNat,none⟩,[]⟩,0,0,false⟩:Bk):=List.getElem?_set_self (by omega)
   have sr:(zs.set i ⟨⟨⟨false,fS,0,n.toNat,n.toNat,none⟩,[]⟩,0,0,false⟩).length=b.toNat:=by rw[List.length_set];exact aH
   refine Gi ?_
   iterate 2 refine Gs ?_
   refine Gc ?_
   refine ct (X:=Nat×List (Sl UInt8)) (fun zz=>[(34, .int .i64 (zz.1:Nat)),(8, .pointer (some ⟨b8,0,none⟩)),(1, .int .i64 n),(2, .int .i64 s),(6, .pointer (some ⟨b6,0,none⟩)),(9, .int .i64 (i:Nat)),(22, .int .i64 b),(23, .int .i64 (i:Nat)),(33, .int .i64 n)]) (fun zz=>[own (cd (τ:=UInt8)) 1 ⟨false,fS,0,n.toNat,n.toNat,none⟩ zz.2,ak.all ((zz.2.take zz.1).map fun b:Sl UInt8=>fz b),own bX 4 ⟨false,iq,0,b.toNat,b.toNat,none⟩ (zs.set i ⟨⟨⟨false,fS,0,n.toNat,n.toNat,none⟩,[]⟩,0,0,false⟩),ak.all ((zs.take i).map fun b:Bk=>fz b.ae),ar b8 (aF (⟨n,s,⟨⟨false,iq,0,b.toNat,b.toNat,none⟩,[]⟩,0,false,⟨Sv.none,[]⟩⟩:Cp)) 25,ar b6 (aF gh) 25]) (fun zz=>zz.1≤n.toNat∧zz.2.length=n.toNat∧aK (zz.2.take zz.1)=List.replicate zz.1 (gE s)) (fun zz=>n.toNat -zz.1) (0,List.replicate n.toNat ⟨Sv.none,[]⟩) ⟨Nat.zero_le _,by simp,by simp[aK]⟩ (Sub.cons rfl (Sub.cons rfl (Sub.cons rfl (Sub.cons rfl (Sub.cons rfl (Sub.cons rfl (Sub.cons rfl (Sub.cons rfl (Sub.cons rfl (Sub.nil _)))))))))) (fun w hw=>by
    simp only[List.take_zero,List.map_nil]
    exact ai.mem (Mem.u6 hw)) ?_
   rintro⟨j,qs⟩ ⟨iV,dO,iX⟩
   dsimp only
   simp only at iV dO iX
   refine Gc ?_
   refine Gs ?_
   refine Gc ?_
   refine av rfl (fun h2=> ?_) (fun h2=> ?_)
   ·
    replace h2:=bz h2
    obtain⟨y,hy⟩:=get_some (xs:=qs) (i:=j) (by omega)
    have Zo:=BM (b:=fS) (n:=n.toNat) (by omega)
    refine Gc ?_
    iterate 2 refine Gs ?_
    refine Gc ?_
    refine jd [8,10] [[],[],[],[],[],[],[],[],[],[8],[8]] [0,1,2,3,4,5,6,7,8,9,10] [ar b8 (aF (⟨n,s,⟨⟨false,iq,0,b.toNat,b.toNat,none⟩,[]⟩,0,false,⟨Sv.none,[]⟩⟩:Cp)) 25,own bX 4 ⟨false,iq,0,b.toNat,b.toNat,none⟩ (zs.set i ⟨⟨⟨false,fS,0,n.toNat,n.toNat,none⟩,[]⟩,0,0,false⟩)] (fun _ hw=>ai.mem hw) (by kernel_rfl) (by kernel_rfl) ?_
    refine al rfl (aI (o':=2) rfl rfl) ?_
    refine al rfl (bJ rfl) ?_
    refine al rfl (aE rfl) ?_
    obtain⟨YN,YO⟩:=get_some (xs:=(zs.set i ⟨⟨⟨false,fS,0,n.toNat,n.toNat,none⟩,[]⟩,0,0,false⟩)) (i:=i) (by omega)
    refine al rfl (bo (s:=⟨false,iq,0,b.toNat,b.toNat,none⟩) (xs:=(zs.set i ⟨⟨⟨false,fS,0,n.toNat,n.toNat,none⟩,[]⟩,0,0,false⟩)) rfl rfl i rfl (by omega)) ?_
    refine al rfl (aI rfl rfl) ?_
    refine al rfl (Ry.to (v':=(⟨false,fS,0,n.toNat,n.toNat,none⟩:Sv).val) (bO (s:=⟨false,iq,0,b.toNat,b.toNat,none⟩) (j:=0) rfl i NG rfl (by decide)) rfl) ?_
    refine al rfl (aE rfl) ?_
    refine al rfl (aE rfl) ?_
    refine dC rfl (JP (enc:=aM) (n:=s.toNat) (cap:=s.toNat) 0 rfl rfl rfl (by omega) (by omega) (by omega) (by omega) (by omega) fun pJ=>⟨fun _ hw=>ai.mem hw,?_⟩)
    obtain⟨e46,ajn⟩:=get_some (xs:=qs) (i:=j) (by omega)
    refine al rfl (lF (s:=⟨false,fS,0,n.toNat,n.toNat,none⟩) (i:=j) rfl rfl rfl Zo (by simp only;omega)) ?_
    refine dC rfl (RJ (s:=⟨false,fS,0,n.toNat,n.toNat,none⟩) (xs:=qs) (k:=j) (a:=y) (⟨⟨false,pJ,0,s.toNat,s.toNat,none⟩,gE s⟩:Sl UInt8) (by kernel_rfl) rfl rfl (by omega) hy ⟨fun _ hw=>ai.mem hw,?_⟩)
    refine Gc ?_
    iterate 3 refine Gs ?_
    obtain⟨e50,ajo⟩:=get_some (xs:=(zs.set i ⟨⟨⟨false,fS,0,n.toNat,n.toNat,none⟩,[]⟩,0,0,false⟩)) (i:=i) (by omega)
    refine ah (bo (s:=⟨false,iq,0,b.toNat,b.toNat,none⟩) (xs:=(zs.set i ⟨⟨⟨false,fS,0,n.toNat,n.toNat,none⟩,[]⟩,0,0,false⟩)) rfl rfl i rfl (by omega)) ?_
    refine ah (aI rfl rfl) ?_
    refine ah (Ry.to (v':=(⟨false,fS,0,n.toNat,n.toNat,none⟩:Sv).val) (bO (s:=⟨false,iq,0,b.toNat,b.toNat,none⟩) (j:=0) rfl i NG rfl (by decide)) rfl) ?_
    refine Gs ?_
    refine ah (bo rfl rfl j rfl (by rw[List.length_set];omega)) ?_
    refine ah (Ry.to (v':= .slice (some ⟨(⟨false,pJ,0,s.toNat,s.toNat,none⟩:Sv).b,(⟨false,pJ,0,s.toNat,s.toNat,none⟩:Sv).o+0,none⟩) s.toNat s.toNat) (bO (s:=⟨false,fS,0,n.toNat,n.toNat,none⟩) (xs:=qs.set j (⟨⟨false,pJ,0,s.toNat,s.toNat,none⟩,gE s⟩:Sl UInt8)) (j:=0) rfl j (List.getElem?_set_self (by omega)) rfl (by decide)) rfl) ?_
    refine bu (hc:=UT (rm:=⟨false,pJ,0,s.toNat,s.toNat,none⟩) (k:=0) (n:=s.toNat) (cap:=s.toNat) (xs:=List.replicate s.toNat 0)) rfl ⟨by simp,by omega⟩ fun CR G0=> ?_
    refine Gc ?_
    iterate 2 refine Gs ?_
    refine Gi ?_
    exact bI (x:=(j,qs)) (j+1,qs.set j (⟨⟨false,pJ,0,s.toNat,s.toNat,none⟩,gE s⟩:Sl UInt8)) ⟨by first|omega|(simp only[];omega),by rw[List.length_set];exact dO,by rw[aK,BL hy,←aK,iX,List.replicate_succ']⟩ (by simp only;omega) (Sub.cons rfl (Sub.cons rfl (Sub.cons rfl (Sub.cons rfl (Sub.cons rfl (Sub.cons rfl (Sub.cons rfl (Sub.cons rfl (Sub.cons rfl (Sub.nil _)))))))))) (fun w hw=>by
     have h1:=E7 (a:=(⟨⟨false,pJ,0,s.toNat,s.toNat,none⟩,gE s⟩:Sl UInt8)) (by
      simp only[List.take_zero,List.nil_append,Nat.zero_add,List.drop_replicate,Nat.sub_self,List.replicate_zero,List.append_nil]at hw
      exact(ai.mem hw:Mem _ (own aM 1 ⟨false,pJ,0,s.toNat,s.toNat,none⟩ (List.replicate s.toNat 255)::[own (cd (τ:=UInt8)) 1 ⟨false,fS,0,n.toNat,n.toNat,none⟩ (qs.set j (⟨⟨false,pJ,0,s.toNat,s.toNat,none⟩,gE s⟩:Sl UInt8)),ak.all ((qs.take j).map fun b:Sl UInt8=>fz b),own bX 4 ⟨false,iq,0,b.toNat,b.toNat,none⟩ (zs.set i ⟨⟨⟨false,fS,0,n.toNat,n.toNat,none⟩,[]⟩,0,0,false⟩),ak.all ((zs.take i).map fun b:Bk=>fz b.ae),ar b8 (aF (⟨n,s,⟨⟨false,iq,0,b.toNat,b.toNat,none⟩,[]⟩,0,false,⟨Sv.none,[]⟩⟩:Cp)) 25,ar b6 (aF gh) 25]) _))
     have h3:=Mem.wR (ai.mem h1:Mem _ (fz (⟨⟨false,pJ,0,s.toNat,s.toNat,none⟩,gE s⟩:Sl UInt8)::ak.all ((qs.take j).map fun b:Sl UInt8=>fz b)::[own (cd (τ:=UInt8)) 1 ⟨false,fS,0,n.toNat,n.toNat,none⟩ (qs.set j (⟨⟨false,pJ,0,s.toNat,s.toNat,none⟩,gE s⟩:Sl UInt8)),own bX 4 ⟨false,iq,0,b.toNat,b.toNat,none⟩ (zs.set i ⟨⟨⟨false,fS,0,n.toNat,n.toNat,none⟩,[]⟩,0,0,false⟩),ak.all ((zs.take i).map fun b:Bk=>fz b.ae),ar b8 (aF (⟨n,s,⟨⟨false,iq,0,b.toNat,b.toNat,none⟩,[]⟩,0,false,⟨Sv.none,[]⟩⟩:Cp)) 25,ar b6 (aF gh) 25]) _)
     rw[Fi (z':=(⟨⟨false,pJ,0,s.toNat,s.toNat,none⟩,gE s⟩:Sl UInt8)) hy]at h3
     exact ai.mem h3)
   ·
    replace h2:=bz h2
    have sS:j=n.toNat:=by omega
    have iZ:j=qs.length:=by omega
    rw[List.take_of_length_le (by omega)]at iX
    refine Gc ?_
    iterate 2 refine Gs ?_
    refine Gi ?_
    exact bI (x:=(i,zs)) (i+1,zs.set i (⟨⟨⟨false,fS,0,n.toNat,n.toNat,none⟩,qs⟩,0,0,false⟩:Bk)) ⟨by first|omega|(simp only[];omega),by rw[List.length_set];exact aH,by rw[BL hz,bB,List.replicate_succ',show bv (⟨⟨⟨false,fS,0,n.toNat,n.toNat,none⟩,qs⟩,0,0,false⟩:Bk)=(⟨List.replicate n.toNat (gE s),0,0,false⟩:BV) by rw[bv,iX,sS]],fun k hk n8=>by rw[List.getElem?_set_ne (by first|omega|(simp only[];omega))];exact c6 k (by first|omega|(simp only[];omega)) n8⟩ (by simp only;omega) (Sub.cons rfl (Sub.cons rfl (Sub.cons rfl (Sub.cons rfl (Sub.cons rfl (Sub.cons rfl (Sub.nil _))))))) (fun w hw=>by
     rw[List.take_of_length_le (by omega)]at hw
     have h1:=Fh (ai.mem hw:Mem _ (own (cd (τ:=UInt8)) 1 ⟨false,fS,0,n.toNat,n.toNat,none⟩ qs::ak.all (qs.map fun b:Sl UInt8=>fz b)::[own bX 4 ⟨false,iq,0,b.toNat,b.toNat,none⟩ (zs.set i ⟨⟨⟨false,fS,0,n.toNat,n.toNat,none⟩,[]⟩,0,0,false⟩),ak.all ((zs.take i).map fun b:Bk=>fz b.ae),ar b8 (aF (⟨n,s,⟨⟨false,iq,0,b.toNat,b.toNat,none⟩,[]⟩,0,false,⟨Sv.none,[]⟩⟩:Cp)) 25,ar b6 (aF gh) 25]) _)
     have h2:=Fa (ys:=zs.set i (⟨⟨⟨false,fS,0,n.toNat,n.toNat,none⟩,qs⟩,0,0,false⟩:Bk)) (by rw[List.map_set,List.map_set];rfl) (ai.mem h1:Mem _ (own bX 4 ⟨false,iq,0,b.toNat,b.toNat,none⟩ (zs.set i ⟨⟨⟨false,fS,0,n.toNat,n.toNat,none⟩,[]⟩,0,0,false⟩)::[fz (⟨⟨false,fS,0,n.toNat,n.toNat,none⟩,qs⟩:Sl (Sl UInt8)),ak.all ((zs.take i).map fun b:Bk=>fz b.ae),ar b8 (aF (⟨n,s,⟨⟨false,iq,0,b.toNat,b.toNat,none⟩,[]⟩,0,false,⟨Sv.none,[]⟩⟩:Cp)) 25,ar b6 (aF gh) 25]) _)
     have h3:=Mem.wR (ai.mem h2:Mem _ (fz (⟨⟨false,fS,0,n.toNat,n.toNat,none⟩,qs⟩:Sl (Sl UInt8))::ak.all ((zs.take i).map fun b:Bk=>fz b.ae)::[own bX 4 ⟨false,iq,0,b.toNat,b.toNat,none⟩ (zs.set i (⟨⟨⟨false,fS,0,n.toNat,n.toNat,none⟩,qs⟩,0,0,false⟩:Bk)),ar b8 (aF (⟨n,s,⟨⟨false,iq,0,b.toNat,b.toNat,none⟩,[]⟩,0,false,⟨Sv.none,[]⟩⟩:Cp)) 25,ar b6 (aF gh) 25]) _)
     rw[Kv (z':=(⟨⟨⟨false,fS,0,n.toNat,n.toNat,none⟩,qs⟩,0,0,false⟩:Bk)) hz]at h3
     exact ai.mem h3)
  ·
   replace h1:=bz h1
   obtain rfl:i=zs.length:=by omega
   rw[List.take_length]at bB
   refine Gc ?_
   iterate 3 refine Gs ?_
   refine Gc ?_
   refine au (.inl rfl) (bq rfl (ck rfl) (aq rfl)) (fun w1 hw=> ?_)
   exact⟨⟨n,s,⟨⟨false,iq,0,b.toNat,b.toNat,none⟩,zs⟩,0,false,⟨Sv.none,[]⟩⟩,by rw[hN];rfl,by rw[hN];simp only[cv,iE];rw[bB,aH],Ku rfl (by rw[List.take_length]at hw;exact ai.mem hw)⟩
instance ajp{w0:World}{L:List ak}{b:Int}{n:Int}{s:Int}:cw Tryz.prog 31 w0 L [.int .i64 b, .int .i64 n, .int .i64 s] (Cp) (fun zz=> .tuple #[.agg (aF zz), .int .i64 ((nD b n s).2)]) (fun zz=>fz zz::L) (fun zz=>cv zz=(nD b n s).1) (True):=⟨fun hp w hw=>(Zm w b n s).mono fun e w' ⟨x,h1,h2,h3⟩=>⟨x,h1,h2,hw.call h3⟩⟩
end Go.Proofs.YtaipiecplldinaaGreat
namespace Go.ay
open Go.RowKit
section
variable {P:Program} {N:cE} {w0:World} {env:Env} {L:List ak} {l:List Oper} {Q:Exit→Act→World→Prop} {rest:List Oper} {d:Option Tmp} {ty:TypeId} {ps:String} {af:Array Edge}
end
end Go.ay
namespace Go.Proofs.YtaipiecplldinaaGreat
open Go.ay Go.Kb
open Go.RowKit
open Go.ay Go.Kb
open Go.RowKit
end Go.Proofs.YtaipiecplldinaaGreat
namespace Go.Kb
section
variable {α:Type} (f:α→Nat)
def Zp(l:List α):Prop:=l.Pairwise fun a b=>f a≤f b
structure Zq(l l':List α):Prop where
 Zr:Zp f l'
 same: ∀k,l'.filter (fun x=>decide (f x=k))=l.filter (fun x=>decide (f x=k))
variable {f}
def ins(f:α→Nat)(x:α):List α→List α
 |[]=>[x]
 |y::r=>if f y<f x then y::ins f x r else x::y::r
def Zr(f:α→Nat)(l:List α):List α:=l.foldr (ins f) []
end
section
variable {α:Type} {f:α→Nat} {xs ys zs:List α} {a b m i j k s e:Nat}
def C7(xs:List α)(i j:Nat):List α:=(xs.drop i).take (j -i)
theorem parts(h1:a≤b)(h2:b≤xs.length):xs=xs.take a++C7 xs a b++xs.drop b:=by
 rw[C7,List.append_assoc]
 conv=>lhs;rw[←List.take_append_drop a xs,←List.take_append_drop (b -a) (xs.drop a),List.drop_drop,show a+(b -a)=b by omega]
end
end Go.Kb
namespace Go.ay
open Go.RowKit Go.Kb
section
variable {P:Program} {w0 w:World} {L:List ak} {α:Type} {enc:α→Array Value} {c:Nat} {s:Sv} {xs:List α}
end
section
variable {P:Program} {N:cE} {w0:World} {env:Env} {L:List ak} {l:List Oper} {Q:Exit→Act→World→Prop} {rest:List Oper} {d:Option Tmp} {ty:TypeId} {ps:String} {af:Array Edge} {gd:Option (Nat×Bool)}
end
open Go.Kb
section
variable {α:Type} {f:α→Nat} {xs ys zs ts:List α} {a b m i j k n:Nat}
theorem four{P U W V S:List α}(t:Nat):(P++(U++(W++(V++S))))[t]? =if t<P.length then P[t]?else if t<P.length+U.length then U[t -P.length]?else if t<P.length+U.length+W.length then W[t -P.length -U.length]?else if t<P.length+U.length+W.length+V.length then V[t -P.length -U.length -W.length]?else S[t -P.length -U.length -W.length -V.length]? :=by
 simp only[List.getElem?_append]
 by_cases c1:t<P.length
 ·
  rw[if_pos c1,if_pos c1]
 ·
  rw[if_neg c1,if_neg c1]
  by_cases c2:t<P.length+U.length
  ·
   rw[if_pos c2,if_pos (show t -P.length<U.length by omega)]
  ·
   rw[if_neg c2,if_neg (show ¬t -P.length<U.length by omega)]
   by_cases c3:t<P.length+U.length+W.length
   ·
    rw[if_pos c3,if_pos (show t -P.length -U.length<W.length by omega)]
   ·
    rw[if_neg c3,if_neg (show ¬t -P.length -U.length<W.length by omega)]
    by_cases c4:t<P.length+U.length+W.length+V.length
    ·
     rw[if_pos c4,if_pos (show t -P.length -U.length -W.length<V.length by omega)]
    ·
     rw[if_neg c4,if_neg (show ¬t -P.length -U.length -W.length<V.length by omega)]
end
end Go.ay
namespace Go.Kb
variable {t:List Rt} {k:Key} {bits:Int}
variable {t u:List Rt} {r:Rt} {k:Key} {bits:Int}
theorem ajq(he:eu t [⟨r,false⟩]=0):fA t ⟨r,false⟩=0∧cQ t [⟨r,false⟩]=jG t ⟨r,false⟩:=by
 have hr:dy t=true:=by
  cases h:dy t with
  |true=>rfl
  |false=>rw[eu,if_neg (by rw[h];simp)]at he;omega
 have h2:=he
 rw[eu,if_pos hr,kX]at h2
 have hc:fA t ⟨r,false⟩=0:=by
  apply Classical.byContradiction;intro hn
  rw[if_neg hn]at h2;exact hn h2
 exact⟨hc,by rw[cQ,if_pos he,kX,if_pos hc];rfl⟩
theorem C8{c:Ch}(he:fA t c=0):cZ c.r.p=true:=by
 apply Classical.byContradiction;intro hn
 rw[fA,if_neg hn]at he;omega
variable {t u:List Rt} {r:Rt} {q p:cU}
theorem NH(hp:cZ p=true)(hq:cZ q=true)(h:dR p q=false)(hn:p≠q):dR q p=true:=by
 rw[lI hq hp]
 have h1: ¬dR p q=true:=by rw[h];simp
 rw[lI hp hq]at h1
 have h2: ¬(p.bits=q.bits∧p.key.toNat=q.key.toNat∧p.len=q.len):=fun e=>hn (Rb.2 e)
 omega
theorem NI(hp:cZ p=true)(hq:cZ q=true)(h:dR p q=true):dR q p=false:=by
 cases hx:dR q p with
 |false=>rfl
 |true=>rw[lI hq hp]at hx;rw[lI hp hq]at h;omega
theorem NJ(hp:cZ p=true)(h:dR p q=true):p≠q:=fun e=>by subst e;rw[xp hp]at h;cases h
theorem NK{a b c:cU}(ha:cZ a=true)(hb:cZ b=true)(hc:cZ c=true)(h1:dR a b=true)(h2:dR b c=true):dR a c=true:=by
 rw[lI ha hb]at h1;rw[lI hb hc]at h2;rw[lI ha hc];omega
def ug(t:List Rt)(q:cU):List Rt:=t.filter fun x=>dR x.p q
def qE(t:List Rt)(q:cU):List Rt:=t.filter fun x=>dR q x.p
theorem filter_all{α:Type}{f:α→Bool}{l:List α}(h: ∀x∈l,f x=true):l.filter f=l:=List.filter_eq_self.2 h
theorem filter_none{α:Type}{f:α→Bool}{l:List α}(h: ∀x∈l,f x=false):l.filter f=[]:=List.filter_eq_nil_iff.2 fun x hx=>by rw[h x hx];simp
theorem Ord.ext: ∀{s t:List Rt},Ord s→Ord t→(∀x,x∈s↔x∈t)→s=t
 |[],[],_,_,_=>rfl
 |[],b::t,_,_,h=>by have:=(h b).2 (List.mem_cons_self);cases this
 |a::s,[],_,_,h=>by have:=(h a).1 (List.mem_cons_self);cases this
 |a::s,b::t,hs,ht,h=>by
  have ha:=(List.pairwise_cons.1 hs.less)
  have hb:=(List.pairwise_cons.1 ht.less)
  have ma:=hs.may a List.mem_cons_self
  have mb:=ht.may b List.mem_cons_self
  have e:a=b:=by
   apply Classical.byContradiction;intro hn
   rcases List.mem_cons.1 ((h a).1 List.mem_cons_self)with h1|h1
   ·
    exact hn h1
   ·
    rcases List.mem_cons.1 ((h b).2 List.mem_cons_self)with h2|h2
    ·
     exact hn h2.symm
    ·
     have h3:=hb.1 a h1
     have h4:=ha.1 b h2
     rw[NI mb ma h3]at h4;cases h4
  subst e
  have cH: ∀x,(∀y∈s,dR a.p y.p=true)→x∈s→x≠a:=fun x hy hx e=>by
   subst e;have:=hy x hx;rw[xp ma]at this;cases this
  rw[Ord.ext (hs.sub (List.sublist_cons_self _ _)) (ht.sub (List.sublist_cons_self _ _)) fun x=>⟨fun hx=> ?_,fun hx=> ?_⟩]
  ·
   rcases List.mem_cons.1 ((h x).1 (List.mem_cons_of_mem _ hx))with h1|h1
   ·
    exact absurd h1 (cH x ha.1 hx)
   ·
    exact h1
  ·
   rcases List.mem_cons.1 ((h x).2 (List.mem_cons_of_mem _ hx))with h1|h1
   ·
    subst h1;have:=hb.1 x hx;rw[xp ma]at this;cases this
   ·
    exact h1
theorem Zs(h:dy t=true)(hq:cZ q=true):(∀x∈t.take (cP t q),dR x.p q=true)∧ ∀x∈t.drop (cP t q),dR x.p q=false:=by
 obtain⟨h1,h2,h3⟩:=LN (p:=behind t q) (n:=t.length) fun a b=>LP h hq a b
 constructor
 ·
  intro x hx
  obtain⟨i,hi⟩:=List.mem_iff_getElem?.1 hx
  have fC:=(List.getElem?_eq_some_iff.1 hi).1
  rw[List.length_take]at fC
  rw[List.getElem?_take,if_pos (by omega)]at hi
  have:=h2 i (by have:cP t q=bs (behind t q) t.length:=rfl;omega)
  simpa[behind,hi]using this
 ·
  intro x hx
  obtain⟨i,hi⟩:=List.mem_iff_getElem?.1 hx
  rw[List.getElem?_drop]at hi
  have fC:=(List.getElem?_eq_some_iff.1 hi).1
  have:=h3 (cP t q+i) (Nat.le_add_right _ _) fC
  simpa[behind,hi]using this
theorem NL(h:dy t=true)(hq:cZ q=true):t.take (cP t q)=ug t q∧(kC t q=true→t.drop (cP t q+1)=qE t q)∧(kC t q=false→t.drop (cP t q)=qE t q):=by
 obtain⟨h1,h2⟩:=Zs h hq
 have ho:=Cm h
 have e:t=t.take (cP t q)++t.drop (cP t q):=(List.take_append_drop _ _).symm
 have hm: ∀x∈t,cZ x.p=true:=ho.may
 have mt: ∀x∈t.take (cP t q),x∈t:=fun x hx=>List.mem_of_mem_take hx
 have md: ∀x∈t.drop (cP t q),x∈t:=fun x hx=>List.mem_of_mem_drop hx
 have k1:t.take (cP t q)=ug t q:=by
  unfold ug
  conv=>rhs;rw[e]
  rw[List.filter_append,filter_all h1,filter_none h2,List.append_nil]
 have k2:qE t q=qE (t.drop (cP t q)) q:=by
  unfold qE
  conv=>lhs;rw[e]
  rw[List.filter_append,filter_none (l:=t.take (cP t q)) fun x hx=>NI (hm x (mt x hx)) hq (h1 x hx),List.nil_append]
 refine⟨k1,fun hb=> ?_,fun hb=> ?_⟩
 ·
  obtain⟨x,hx,hi,hp⟩:=zv hb
  obtain⟨fC,nq⟩:=List.getElem?_eq_some_iff.1 hi
  have e2:t.drop (cP t q)=x::t.drop (cP t q+1):=by rw[←nq,List.getElem_cons_drop]
  rw[k2,e2,qE,List.filter_cons,hp,xp hq]
  simp only[Bool.false_eq_true,if_false]
  refine(filter_all fun y hy=> ?_).symm
  obtain⟨j,hj⟩:=List.mem_iff_getElem?.1 hy
  rw[List.getElem?_drop]at hj
  have:=Cl h (cP t q) (cP t q+1+j) x y (by omega) hi hj
  rw[hp]at this;exact this
 ·
  rw[k2]
  refine(filter_all fun y hy=> ?_).symm
  refine NH (hm y (md y hy)) hq (h2 y hy) fun ep=> ?_
  have:=(T7 h hq (md y hy) ep).2
  rw[hb]at this;cases this
theorem Zt(h:dy t=true)(he:fA t ⟨r,false⟩=0):jG t ⟨r,false⟩=ug t r.p++r::qE t r.p:=by
 obtain⟨k1,k2,k3⟩:=NL h (C8 he)
 rw[jG,if_pos he,if_neg (by simp)]
 by_cases hb:kC t r.p=true
 ·
  obtain⟨x,hx,hi,hp⟩:=zv hb
  have fC:=(List.getElem?_eq_some_iff.1 hi).1
  rw[if_pos hb,List.set_eq_take_append_cons_drop,if_pos fC,k1,k2 hb]
 ·
  rw[if_neg hb]
  show t.take (cP t r.p)++r::t.drop (cP t r.p)=_
  rw[k1,k3 (by simpa using hb)]
theorem Zu(h:dy t=true)(he:fA t ⟨r,true⟩=0):jG t ⟨r,true⟩=ug t r.p++qE t r.p:=by
 have hm:=C8 he
 obtain⟨k1,k2,k3⟩:=NL h hm
 have hb:kC t r.p=true:=by
  apply Classical.byContradiction;intro hn
  rw[fA,if_pos hm,if_neg hn,if_pos rfl]at he;omega
 rw[jG,if_pos he,if_pos rfl]
 show t.take (cP t r.p)++t.drop (cP t r.p+1)=_
 rw[k1,k2 hb]
theorem Zv(h:Ord t)(hq:cZ q=true):t.filter (fun x=>decide (x.p≠q))=ug t q++qE t q:=by
 refine Ord.ext (h.sub List.filter_sublist) ⟨fun x hx=> ?_,?_⟩ fun x=> ?_
 ·
  rcases List.mem_append.1 hx with h1|h1<;>exact h.may x (List.mem_filter.1 h1).1
 ·
  refine List.pairwise_append.2 ⟨h.less.sublist List.filter_sublist,h.less.sublist List.filter_sublist,fun a ha b hb=> ?_⟩
  have ha:=List.mem_filter.1 ha
  have hb:=List.mem_filter.1 hb
  exact NK (h.may a ha.1) hq (h.may b hb.1) ha.2 hb.2
 ·
  rw[List.mem_append,List.mem_filter,ug,qE,List.mem_filter,List.mem_filter]
  constructor
  ·
   rintro⟨h1,h2⟩
   cases h3:dR x.p q with
   |true=>exact .inl ⟨h1,rfl⟩
   |false=>exact .inr ⟨h1,NH (h.may x h1) hq h3 (by simpa using h2)⟩
  ·
   rintro(⟨h1,h2⟩|⟨h1,h2⟩)
   ·
    exact⟨h1,by simpa using NJ (h.may x h1) h2⟩
   ·
    exact⟨h1,by simpa using(NJ hq h2).symm⟩
theorem Zw(h:Ord t)(hr:cZ r.p=true):Ord (ug t r.p++r::qE t r.p):=by
 refine⟨fun x hx=> ?_,?_⟩
 ·
  rcases List.mem_append.1 hx with h1|h1
  ·
   exact h.may x (List.mem_filter.1 h1).1
  ·
   rcases List.mem_cons.1 h1 with rfl|h1
   ·
    exact hr
   ·
    exact h.may x (List.mem_filter.1 h1).1
 ·
  refine List.pairwise_append.2 ⟨h.less.sublist List.filter_sublist,List.pairwise_cons.2 ⟨fun y hy=>(List.mem_filter.1 hy).2,h.less.sublist List.filter_sublist⟩,fun a ha b hb=> ?_⟩
  have ha:=List.mem_filter.1 ha
  rcases List.mem_cons.1 hb with rfl|hb
  ·
   exact ha.2
  ·
   have hb:=List.mem_filter.1 hb
   exact NK (h.may a ha.1) hr (h.may b hb.1) ha.2 hb.2
theorem Zx(h:dy t=true)(c:Ch):dy (jG t c)=true:=by
 by_cases he:fA t c=0
 ·
  refine T8 ?_ (LU (wO h) c)
  obtain⟨r,g⟩:=c
  cases g with
  |false=>rw[Zt h he];exact Zw (Cm h) (C8 he)
  |true=>rw[Zu h he,←Zv (Cm h) (C8 he)];exact(Cm h).sub List.filter_sublist
 ·
  rw[jG,if_neg he];exact h
end Go.Kb
namespace Go.ay
open Go.Kb
section
variable {α:Type} {f:α→Nat} {xs ys zs ts:List α} {a b c m i j k n s e:Nat}
def Bk(f:α→Nat)(xs ys:List α)(c lo hi:Nat):Prop:= ∀s,lo≤s→s<hi→s%c=0→Zq f (C7 xs s (min (s+c) xs.length)) (C7 ys s (min (s+c) xs.length))
end
open Go.Kb
open Go.Kb
variable {t ts:List Rt} {k:Key} {bits:Int} {p:cU}
def FU(ts:List Rt):List Rt:=ts.filter fun r=>decide (r.p.bits=32)
end Go.ay
namespace Go.Proofs.YtaipiecplldinaaGreat
open Go.ay Go.Kb
open Go.ay Go.Kb
open Go.RowKit
end Go.Proofs.YtaipiecplldinaaGreat
namespace Go.Kb
open Go.ay
def NM:Key:=oc fun i=>if i=0 then 10 else 0
def vQ:Key:=oc fun i=>if i=0 then 10 else if i=1 then 1 else 0
def pK(h:UInt16):Rt:=⟨⟨32,8,NM⟩,h⟩
def Hn:CV×Int:=nD 6 2 64
def Ho:FV×Int:=iU Hn.1
def C9:FV×Int:=cg Ho.1 [⟨pK 7,false⟩]
def vR:FV×Int:=cX C9.1.an.ag
theorem Zy:Hn.2=0:=by decide+kernel
theorem Zz:Ho.2=0:=by decide+kernel
theorem ZA:C9.2=0:=by decide+kernel
theorem ZB:vR.2=0:=by decide+kernel
theorem ZC:qw vR.1 vQ 32=0:=by decide+kernel
theorem ZD:(qv vR.1 vQ 32).dP=7:=by decide+kernel
theorem ZE:vR.1.table.length=1:=by decide+kernel
theorem ZF:gy vR.1=true:=by decide+kernel
theorem ZG:kD 6 2 64=4:=by decide+kernel
end Go.Kb
namespace Go.Proofs.YtaipiecplldinaaGreat
open Go.ay Go.Kb
open Go.RowKit
theorem ZH{f:cC}{v:FV}(e:bG f=v)(h:Mn v=true):dK f.an.ag∧f.an.at_.xs.length≤1000000∧f.table.xs.length≤1000000:=by
 subst e
 simp only[Mn,Bool.and_eq_true,decide_eq_true_eq]at h
 exact⟨nH h.1.1,h.1.2,h.2⟩
theorem ZI(w:World)(h:UInt16):Calls Tryz.prog 53 #[.int .u16 (h.toNat:Nat)] w fun e w'=>e= .returned (.agg (ax (pK h)))∧Mem w [] w':=by
 refine bh (args:=[_]) Tryz.func53 rfl Tryz.ntmps53 rfl ?_
 change Cw _ _ _ _ _ [(0, .int .u16 (h.toNat:Nat))] []
 refine Gc ?_
 refine bM fun b2=> ?_
 refine Gc ?_
 refine ah (cW (v:= .agg (cn NM)) rfl (fun w=>by kernel_rfl)) ?_
 refine ah (cW (v:= .agg (c5 (pK h).p)) rfl (fun w=>by kernel_rfl)) ?_
 refine Gs ?_
 refine ah (cW (v:= .agg (ax (pK h))) rfl (fun w=>by kernel_rfl)) ?_
 refine Gs ?_
 refine Gc ?_
 refine au (.inl rfl) (aQ rfl (ck rfl)) (fun w1 hw=> ?_)
 exact⟨rfl,ai.mem hw⟩
instance ajr{w0:World}{L:List ak}{h:UInt16}:cR Tryz.prog 53 w0 L [.int .u16 (h.toNat:Nat)] (.agg (ax (pK h))) (True):=⟨fun hp w hw=>ZI w h⟩
theorem ZJ(w:World):Calls Tryz.prog 20 #[] w fun e w'=>e= .returned (.bool true)∧Mem w [] w':=by
 refine bh (args:=[]) Tryz.func20 rfl Tryz.ntmps20 rfl ?_
 change Cw _ _ _ _ _ [] []
 refine Gc ?_
 refine Gs ?_
 refine Gc ?_
 refine bu rfl trivial fun pH GY=> ?_
 have xU:cv pH=Hn.1:=GY
 have ir:(nD 6 2 64).2=0:=Zy
 have ZK:dK pH:=nH (by rw[xU];decide+kernel)
 refine Gs ?_
 refine ah (aU (v:= .agg (aF pH)) rfl rfl) ?_
 refine ah (aU (v:= .int .i64 ((nD 6 2 64).2)) rfl rfl) ?_
 refine bM fun b1=> ?_
 iterate 2 refine Gs ?_
 refine Gc ?_
 refine Gs ?_
 refine bu rfl ZK fun fR zY=> ?_
 have Hp:bG fR=Ho.1:=by rw[zY,xU];rfl
 have iu:(iU (cv pH)).2=0:=by rw[xU];exact Zz
 have ZL:=ZH Hp (by decide+kernel)
 refine Gs ?_
 refine ah (aU (v:= .agg (bQ fR)) rfl rfl) ?_
 refine ah (aU (v:= .int .i64 ((iU (cv pH)).2)) rfl rfl) ?_
 refine bM fun b3=> ?_
 iterate 2 refine Gs ?_
 refine Gc ?_
 refine pf [3,4,8,9,2003,2008,4004] [[],[],[],[],[3],[3,4],[3,4],[3,4],[],[3,4,8],[3,4,8,9]] [0,1,2,3,4,5,6,7,8,9,10] [ar b3 (bQ fR) 54,fz fR] [(3,qZ fU 20 1 [(⟨pK 7,false⟩:Ch)]),(8,j9 Tryz.prog 54)] (by kernel_rfl) (fun _ hw=>ai.mem hw) (by kernel_rfl) (by kernel_rfl) ?_
 refine al rfl (gu rfl) ?_
 refine u4 rfl (cJ (vs:=[.int .u16 ((7:UInt16).toNat:Int)]) rfl trivial) ?_
 refine al rfl (sV rfl) ?_
 refine nB (m:=qZ fU 20 1 [(⟨pK 7,false⟩:Ch)]) rfl rfl (ES (enc:=fU) (c:=20) (n:=1) (vals:=[.agg (fU (⟨pK 7,false⟩:Ch))]) [(⟨pK 7,false⟩:Ch)] rfl rfl rfl (by decide) (by decide)) (Cert.one (i:=8) rfl rfl rfl jy (Cert.none rfl)) fun rE=> ?_
 change Ln _ _ _ _ _ _ _ _ (cy _ _ (Sv.val ⟨false,rE,0,1,1,none⟩)) (own fU 20 ⟨false,rE,0,1,1,none⟩ [(⟨pK 7,false⟩:Ch)]::_) _
 refine qY rfl rfl ZL (fun e x w hw=>ai.mem hw) (Cert.one (i:=8) rfl rfl rfl jy (Cert.none rfl)) fun vI GI=>⟨fun _ hw=>ai.mem hw,?_⟩
 have ZM:bG vI=C9.1:=by rw[GI,Hp];rfl
 have iv:(cg (bG fR) [(⟨pK 7,false⟩:Ch)]).2=0:=by rw[Hp];exact ZA
 have NN:cv vI.an.ag=C9.1.an.ag:=congrArg (fun z:FV=>z.an.ag) ZM
 refine al rfl (aE rfl) ?_
 refine al rfl (aU (v:= .agg (bQ vI)) rfl rfl) ?_
 refine al rfl (aU (v:= .int .i64 ((cg (bG fR) [(⟨pK 7,false⟩:Ch)]).2)) rfl rfl) ?_
 refine nB (m:=j9 Tryz.prog 54) rfl rfl jy (Cert.none rfl) fun b5=> ?_
 change Ln _ _ _ _ _ _ _ _ (cy _ _ (.pointer (some ⟨b5,0,none⟩))) (ar b5 (bQ lp) 54::_) _
 refine dC rfl (mJ rfl rfl ⟨fun _ hw=>ai.mem hw,?_⟩)
 refine al rfl (bn rfl) ?_
 refine Gc ?_
 iterate 2 refine Gs ?_
 refine ah (jv rfl) ?_
 refine bu rfl trivial fun az sI=> ?_
 have Da:bG az=vR.1:=by rw[sI,NN];rfl
 have iw:(cX (cv vI.an.ag)).2=0:=by rw[NN];exact ZB
 have iz:az.table.xs.length=1:=by rw[show az.table.xs=vR.1.table from congrArg FV.table Da];exact ZE
 have iA:qw (bG az) vQ 32=0:=by rw[Da];exact ZC
 have iB:(qv (bG az) vQ 32).dP=7:=by rw[Da];exact ZD
 have iC:gy (bG az)=true:=by rw[Da];exact ZF
 have hK:kD 6 2 64=4:=ZG
 refine Gs ?_
 refine ah (aU (v:= .agg (bQ az)) rfl rfl) ?_
 refine ah (aU (v:= .int .i64 ((cX (cv vI.an.ag)).2)) rfl rfl) ?_
 refine bM fun b7=> ?_
 iterate 2 refine Gs ?_
 refine Gc ?_
 refine Gs ?_
 refine ah (cW (v:= .agg (cn vQ)) rfl (fun w=>by kernel_rfl)) ?_
 iterate 2 refine Gs ?_
 refine ah (aU (v:= .agg (ax (qv (bG az) vQ 32))) rfl rfl) ?_
 refine ah (aU (v:= .int .i64 (qw (bG az) vQ 32)) rfl rfl) ?_
 refine bM fun b9=> ?_
 iterate 2 refine Gs ?_
 refine Gc ?_
 iterate 3 refine Gs ?_
 refine kQ rfl rfl rfl (by simp[ir,iu,iv,iw,iA,iB,iz,iC,hK]) (Ry.yl (aE rfl)) ?_
 refine kQ rfl rfl rfl (by simp[ir,iu,iv,iw,iA,iB,iz,iC,hK]) (Ry.yl (cz rfl rfl rfl)) ?_
 refine ah (tj rfl (by simp[ir,iu,iv,iw,iA,iB,iz,iC,hK]) rfl rfl) ?_
 refine Gs ?_
 refine kQ rfl rfl rfl (by simp[ir,iu,iv,iw,iA,iB,iz,iC,hK]) (Ry.yl (aE rfl)) ?_
 refine kQ rfl rfl rfl (by simp[ir,iu,iv,iw,iA,iB,iz,iC,hK]) (Ry.yl (cz rfl rfl rfl)) ?_
 refine ah (tj rfl (by simp[ir,iu,iv,iw,iA,iB,iz,iC,hK]) rfl rfl) ?_
 refine Gs ?_
 refine kQ rfl rfl rfl (by simp[ir,iu,iv,iw,iA,iB,iz,iC,hK]) (Ry.yl (aE rfl)) ?_
 refine kQ rfl rfl rfl (by simp[ir,iu,iv,iw,iA,iB,iz,iC,hK]) (Ry.yl (cz rfl rfl rfl)) ?_
 refine ah (tj rfl (by simp[ir,iu,iv,iw,iA,iB,iz,iC,hK]) rfl rfl) ?_
 refine Gs ?_
 refine kQ rfl rfl rfl (by simp[ir,iu,iv,iw,iA,iB,iz,iC,hK]) (Ry.yl (aE rfl)) ?_
 refine kQ rfl rfl rfl (by simp[ir,iu,iv,iw,iA,iB,iz,iC,hK]) (Ry.yl (cz rfl rfl rfl)) ?_
 refine ah (tj rfl (by simp[ir,iu,iv,iw,iA,iB,iz,iC,hK]) rfl rfl) ?_
 refine Gs ?_
 refine kQ rfl rfl rfl (by simp[ir,iu,iv,iw,iA,iB,iz,iC,hK]) (Ry.yl (aI (o':=18) rfl rfl)) ?_
 refine kQ rfl rfl rfl (by simp[ir,iu,iv,iw,iA,iB,iz,iC,hK]) (Ry.yl (bJ rfl)) ?_
 refine kQ rfl rfl rfl (by simp[ir,iu,iv,iw,iA,iB,iz,iC,hK]) (Ry.yl (cz rfl rfl rfl)) ?_
 refine ah (tj rfl (by simp[ir,iu,iv,iw,iA,iB,iz,iC,hK]) rfl rfl) ?_
 refine Gs ?_
 refine kQ rfl rfl rfl (by simp[ir,iu,iv,iw,iA,iB,iz,iC,hK]) (Ry.yl (aI (o':=9) rfl rfl)) ?_
 refine kQ rfl rfl rfl (by simp[ir,iu,iv,iw,iA,iB,iz,iC,hK]) (Ry.yl (bJ rfl)) ?_
 refine kQ rfl rfl rfl (by simp[ir,iu,iv,iw,iA,iB,iz,iC,hK]) (Ry.yl (lb rfl)) ?_
 refine kQ rfl rfl rfl (by simp[ir,iu,iv,iw,iA,iB,iz,iC,hK]) (Ry.yl (cz rfl rfl rfl)) ?_
 refine ah (tj rfl (by simp[ir,iu,iv,iw,iA,iB,iz,iC,hK]) rfl rfl) ?_
 refine Gs ?_
 refine kQ rfl rfl rfl (by simp[ir,iu,iv,iw,iA,iB,iz,iC,hK]) (Ry.yl (gu rfl)) ?_
 refine kQ rfl rfl rfl (by simp[ir,iu,iv,iw,iA,iB,iz,iC,hK]) (cJ rfl trivial) ?_
 refine ah (tj rfl (by simp[ir,iu,iv,iw,iA,iB,iz,iC,hK]) rfl rfl) ?_
 refine Gs ?_
 refine kQ rfl rfl rfl (by simp[ir,iu,iv,iw,iA,iB,iz,iC,hK]) (cJ rfl trivial) ?_
 refine kQ rfl rfl rfl (by simp[ir,iu,iv,iw,iA,iB,iz,iC,hK]) (Ry.yl (cz rfl rfl rfl)) ?_
 refine ah (tj rfl (by simp[ir,iu,iv,iw,iA,iB,iz,iC,hK]) rfl rfl) ?_
 refine Gs ?_
 refine Gc ?_
 refine au (.inl rfl) (aQ rfl (aq rfl)) (fun w1 hw=> ?_)
 exact⟨congrArg (fun b=>Ending.returned (Value.bool b)) ((by simp[hK])),ai.mem hw⟩
instance ajs{w0:World}{L:List ak}:cR Tryz.prog 20 w0 L [] (.bool true) (True):=⟨fun hp w hw=>ZJ w⟩
end Go.Proofs.YtaipiecplldinaaGreat
namespace Go.Kb
open Go.ay
theorem Hq{x:Int}(h0:0≤x)(h1:x<256):((cS x).toNat:Int)=x:=by
 rw[cS,b8,Int.emod_eq_of_lt h0 h1]
 simp;omega
theorem xX{α:Type}{a b:List α}{n:Nat}(h:n=a.length):(a++b).drop n=b:=by subst h;simp
theorem Db{α:Type}{a b:List α}{n:Nat}(h:n=a.length):(a++b).take n=a:=by subst h;simp
theorem NO{p:PV}{n:Int}(h:mS p n=true): ∃k d:UInt8,∃z:List UInt8,(k.toNat:Int)=p.kind∧(d.toNat:Int)=p.id∧(∀x∈z,x=0)∧
  (dr p n).1=[k,d]++(be p.gen 6++(be p.body.length 2++(p.body++(z++be (l6 (je p n.toNat)) 4))))∧je p n.toNat=[k,d]++(be p.gen 6++(be p.body.length 2++(p.body++z)))∧(dr p n).2=0∧(z.length:Int)=n -14 -p.body.length:=by
 obtain⟨h1,h2,h3,h4,h5,h6⟩:=vb.1 h
 have hf:=rY.1 h1
 rw[dM,if_pos h1]at h6
 refine⟨cS p.kind,cS p.id,List.replicate (n.toNat -4 -10 -p.body.length) 0,Hq (by omega) (by omega),Hq h3 (by omega),fun x hx=>List.eq_of_mem_replicate hx,?_,?_,?_,?_⟩
 ·
  rw[dr,if_pos h];simp only[je,List.append_assoc]
 ·
  simp only[je,List.append_assoc]
 ·
  rw[dr,if_pos h]
 ·
  rw[List.length_replicate];omega
theorem Hr{p:PV}{n:Int}(h:mS p n=true):((dr p n).1.length:Int)=n:=by
 obtain⟨k,d,z,_,_,_,e,_,_,hz⟩:=NO h
 rw[e]
 simp only[List.length_append,List.length_cons,List.length_nil,ia]
 omega
theorem Hs{p:PV}{n:Int}(h:mS p n=true):cO (dr p n).1=(p,0):=by
 have hl:=Hr h
 obtain⟨k,d,z,hk,hd,hz,e,eB,_,sr⟩:=NO h
 obtain⟨h1,h2,h3,h4,h5,h6⟩:=vb.1 h
 have hf:=rY.1 h1
 have tH:=h6
 rw[dM,if_pos h1]at tH
 have hn:((dr p n).1.length:Int)=n:=hl
 generalize hc:l6 (je p n.toNat)=C at e
 have hC:C<2^32:=by rw[←hc];exact E5 _
 generalize hb:(dr p n).1=b at*
 have e4:b=je p n.toNat++be C 4:=by rw[e,eB];simp only[List.append_assoc]
 have l4:b.length -4=(je p n.toNat).length:=by rw[e4,List.length_append,ia];omega
 have gU:lg b=je p n.toNat:=by
  rw[lg,l4,List.drop_zero,Nat.sub_zero,e4];exact Db rfl
 have CH:de (wW b)=C:=by
  rw[wW,l4]
  have:b.drop (je p n.toNat).length=be C 4:=by rw[e4];exact xX rfl
  rw[this,List.take_of_length_le (by rw[ia];omega),Bx,Nat.mod_eq_of_lt hC]
 have mw:b.getD 0 0=k:=by rw[e];rfl
 have oM:b.getD 1 0=d:=by rw[e];rfl
 have uO:b.drop 2=be p.gen 6++(be p.body.length 2++(p.body++(z++be C 4))):=by rw[e];exact xX rfl
 have NP:b.drop 8=be p.body.length 2++(p.body++(z++be C 4)):=by
  rw[show(8:Nat)=2+6 from rfl,←List.drop_drop,uO];exact xX (by rw[ia])
 have ZN:b.drop 10=p.body++(z++be C 4):=by
  rw[show(10:Nat)=8+2 from rfl,←List.drop_drop,NP];exact xX (by rw[ia])
 have ZO:de ((b.drop 2).take (8 -2))=p.gen:=by
  rw[uO,Db (by rw[ia]),Bx,Nat.mod_eq_of_lt (Nat.lt_of_lt_of_eq h5 (by decide))]
 have Ht:iG b=p.body.length:=by
  rw[iG,NP,Db (by rw[ia]),Bx,Nat.mod_eq_of_lt (by omega)]
 have NQ:rZ b={p with body:=[]}:=by
  rw[rZ,ZO,mw,oM]
  obtain⟨pk,pi,pg,pb⟩:=p
  simp only at hk hd
  simp only[hk,hd]
 have ZP:jB b=false:=by
  cases lO:jB b with
  |false=>rfl
  |true=>
   have h9:=zj.1 lO k (by rw[e];simp)
   rw[h9]at hk
   have:((255:UInt8).toNat:Int)=255:=by decide
   omega
 have ZQ:ph b=true:=by
  have hm:mS (rZ b) b.length=true:=by
   rw[NQ,hn]
   exact vb.2 ⟨h1,h2,h3,h4,h5,by rw[dM,if_pos h1];simp only[List.length_nil];omega⟩
  rw[ph,hm,Ht,hn,Bool.and_true,decide_eq_true_eq]
  exact h6
 have hzero:vc (mT b)=true:=by
  refine Fj.2 fun x hx=>hz x ?_
  have ZR:(lg b).drop (10+iG b)=z:=by
   rw[gU,Ht,eB,←List.drop_drop]
   have:([k,d]++(be p.gen 6++(be p.body.length 2++(p.body++z)))).drop 10=p.body++z:=by
    rw[show[k,d]++(be p.gen 6++(be p.body.length 2++(p.body++z)))=([k,d]++be p.gen 6++be p.body.length 2)++(p.body++z) by simp only[List.append_assoc]]
    exact xX (by simp only[List.length_append,List.length_cons,List.length_nil,ia])
   rw[this];exact xX rfl
  rw[mT,ZR]at hx
  exact List.mem_of_mem_take hx
 have ZS:(b.drop 10).take (10+iG b -10)=p.body:=by
  rw[ZN,Ht];exact Db (by omega)
 rw[cO,if_neg (by rw[hn,h1];simp),if_neg (by rw[ZP];simp),if_neg (by rw[CH,gU,hc];exact fun h=>h rfl),if_neg (by rw[ZQ];simp),if_neg (by rw[hzero];simp),NQ,ZS]
theorem ZT{x:Int}(h0:0≤x)(h1:x≤65535):((qT (cS (x/256)) (cS x)).toNat:Int)=x:=by
 have e2:((cS x).toNat:Int)=x%256:=by
  rw[cS,b8];simp;omega
 have e1:=Hq (x:=x/256) (by omega) (by omega)
 rw[Eo]
 omega
theorem NR: ∀(l:List Int) (i:Nat) (x:Int),l[i]? =some x→(gw l).getD (2*i) 0=cS (x/256)∧(gw l).getD (2*i+1) 0=cS x
 |y::r,0,x,h=>by obtain rfl:y=x:=by simpa using h
                 exact⟨rfl,rfl⟩
 |y::r,i+1,x,h=>by
  have h2:=NR r i x (by simpa using h)
  have e:gw (y::r)=cS (y/256)::cS y::gw r:=rfl
  rw[e,show 2*(i+1)=2*i+1+1 by omega]
  exact h2
theorem ZU{l:List Int}(h: ∀x∈l,vd x=true):nI (gw l)=l:=by
 refine List.ext_getElem? fun i=> ?_
 rcases Nat.lt_or_ge i l.length with hi|hi
 ·
  obtain⟨x,hx⟩: ∃x,l[i]? =some x:=⟨l[i],List.getElem?_eq_getElem hi⟩
  obtain⟨e1,e2⟩:=NR l i x hx
  have jU:=zk.1 (h x (List.mem_of_getElem? hx))
  rw[nI,List.getElem?_map,wX,List.getElem?_range (by omega),hx,Option.map_some,pj,e1,e2,ZT jU.1 jU.2]
 ·
  rw[List.getElem?_eq_none hi,List.getElem?_eq_none (by rw[BO,wX];omega)]
theorem Hu{r:RV}{n:Int}(h:lM r n=true):mS ⟨2,max 0 ((r.at_.length:Int) -1),r.gen,gw r.at_⟩ n=true:=by
 obtain⟨h1,h2,h3,h4⟩:=tu.1 h
 have hf:me n=true:=by
  cases hf:me n with
  |true=>rfl
  |false=>rw[dM,if_neg (by rw[hf];simp)]at h1;exact absurd rfl h1
 rw[iP]at h3
 have hr:dM n=n -16:=by rw[dM,if_pos hf]
 refine vb.2 ⟨hf, .inr rfl,?_,?_,h2,?_⟩
 ·
  show 0≤max 0 _;omega
 ·
  show max 0 _<(64:Int);omega
 ·
  show((gw r.at_).length:Int)≤_;rw[wX];omega
theorem Hv{r:RV}{n:Int}(h:lM r n=true):bw (cj r n).1=(r,0):=by
 have hp:=Hs (Hu h)
 have h4:=(tu.1 h).2.2.2
 rw[cj,if_pos h,bw,hp]
 have hl:(gw r.at_).length/2=r.at_.length:=by rw[wX];omega
 rw[if_neg (by simp),if_neg (by simp),if_neg,ZU h4]
 simp only[r9,Bool.not_eq_false,Bool.and_eq_true,decide_eq_true_eq]
 refine⟨⟨trivial,by rw[wX];omega⟩,?_⟩
 rw[hl]
theorem NT{r:RV}{n:Int}(h:lM r n=true):((cj r n).1.length:Int)=n:=by
 rw[cj,if_pos h];exact Hr (Hu h)
theorem NU{r:RV}{n:Int}(h:(cj r n).2=0):lM r n=true:=by
 cases hm:lM r n with
 |true=>rfl
 |false=>rw[cj,if_neg (by rw[hm];simp)]at h;cases h
theorem NV{p:PV}{n:Int}(h:(dr p n).2=0):mS p n=true:=by
 cases hm:mS p n with
 |true=>rfl
 |false=>rw[dr,if_neg (by rw[hm];simp)]at h;cases h
open Go.ay
theorem mz{c:CV}{b:Nat}{o:Int}{f:Bool}{B:BV}(hb:b<c.blocks.length)(k:Int):aj {c with ops:=o,off:=f,blocks:=c.blocks.set b B} k=if k.toNat=b then B else aj c k:=by
 simp only[aj,List.getD,List.getElem?_set]
 by_cases h:b=k.toNat
 ·
  rw[if_pos h,if_pos (by omega),if_pos h.symm];rfl
 ·
  rw[if_neg h,if_neg (fun g=>h g.symm)]
structure Kd(L:List Int)(c d:CV):Prop where
 cx:dL c d
 ok:aT c=true→aT d=true
 fB:d.aX=c.aX
 Ag: ∀b:Int,(aj c b).bad=true→aj d b=aj c b
 on:c.off=false→(∀f∈c.aX,f.cut=false)→d.off=false
 ops:c.ops≤d.ops
 nm: ∀n∈L,n≠0→jS c (n -1)=true→jS d (n -1)=true∧bD d (n -1)=bD c (n -1)
structure Kp(L:List Int)(c d:CV):Prop extends Kd L c d where
 r0: ∀b:Int,b<2→(aj d b).ae=(aj c b).ae∧(aj d b).used=(aj c b).used
theorem Kd.bY(L:List Int)(c:CV):Kd L c c:=⟨.bY c,id,rfl,fun _ _=>rfl,fun h _=>h,Int.le_refl _,fun _ _ _ h=>⟨h,rfl⟩⟩
theorem Kp.bY(L:List Int)(c:CV):Kp L c c:=⟨.bY L c,fun _ _=>⟨rfl,rfl⟩⟩
theorem Kd.trans{L:List Int}{c d e:CV}(h:Kd L c d)(g:Kd L d e):Kd L c e where
 cx:=h.cx.trans g.cx
 ok:=fun k=>g.ok (h.ok k)
 fB:=g.fB.trans h.fB
 Ag:=fun b hb=>by
  have h1:=h.Ag b hb
  rw[←h1]at hb
  exact(g.Ag b hb).trans h1
 on:=fun h1 h2=>g.on (h.on h1 h2) (by rw[h.fB];exact h2)
 ops:=Int.le_trans h.ops g.ops
 nm:=fun n hn h0 hp=>by
  obtain⟨h1,h2⟩:=h.nm n hn h0 hp
  obtain⟨g1,g2⟩:=g.nm n hn h0 h1
  exact⟨g1,g2.trans h2⟩
theorem Kp.trans{L:List Int}{c d e:CV}(h:Kp L c d)(g:Kp L d e):Kp L c e:=
 ⟨h.toKd.trans g.toKd,fun b hb=>⟨(g.r0 b hb).1.trans (h.r0 b hb).1,(g.r0 b hb).2.trans (h.r0 b hb).2⟩⟩
theorem Kd.sub{L M:List Int}{c d:CV}(h:Kd L c d)(hs: ∀n∈M,n∈L):Kd M c d:={h with nm:=fun n hn=>h.nm n (hs n hn)}
theorem Kp.sub{L M:List Int}{c d:CV}(h:Kp L c d)(hs: ∀n∈M,n∈L):Kp M c d:=⟨h.toKd.sub hs,h.r0⟩
theorem Hw{L:List Int}{c:CV}{b:Int}{o:Int}{f:Bool}{B:BV}(hh:fu c b=true)(hk:aT c=true→aT {c with ops:=o,off:=f,blocks:=c.blocks.set b.toNat B}=true)(ZV:(aj c b).bad=true→B=aj c b)
  (dW:c.off=false→(∀f∈c.aX,f.cut=false)→f=false) (ho:c.ops≤o)
  (hn: ∀n∈L,n≠0→jS c (n -1)=true→(n -1)/c.ae=b→(n -1)%c.ae<B.used∧B.ae.getD ((n -1)%c.ae).toNat []=(aj c b).ae.getD ((n -1)%c.ae).toNat []):
  Kd L c {c with ops:=o,off:=f,blocks:=c.blocks.set b.toNat B} where
 cx:=⟨rfl,rfl,by simp⟩
 ok:=hk
 fB:=rfl
 Ag:=fun k hb=>by
  obtain⟨_,h2,h3⟩:=fv.1 hh
  rw[mz (by omega)]
  split
  ·
   rename_i e
   have e2:aj c k=aj c b:=by simp only[aj,e]
   rw[e2]at hb⊢
   exact ZV hb
  ·
   rfl
 on:=dW
 ops:=ho
 nm:=fun n hm h0 hp=>by
  obtain⟨_,h2,h3⟩:=fv.1 hh
  obtain⟨p1,p2,p3⟩:=mU.1 hp
  have e:=mz (c:=c) (o:=o) (f:=f) (B:=B) (show b.toNat<c.blocks.length by omega) ((n -1)/c.ae)
  by_cases h:(n -1)/c.ae=b
  ·
   rw[h,if_pos rfl]at e
   obtain⟨g1,g2⟩:=hn n hm h0 hp h
   refine⟨mU.2 ⟨p1,by simpa using p2,?_⟩,?_⟩
   ·
    show _<(aj _ ((n -1)/c.ae)).used
    rw[h,e];exact g1
   ·
    show(aj _ ((n -1)/c.ae)).ae.getD _ []=(aj c ((n -1)/c.ae)).ae.getD _ []
    rw[h,e];exact g2
  ·
   rw[if_neg (by omega)]at e
   refine⟨mU.2 ⟨p1,by simpa using p2,?_⟩,?_⟩
   ·
    show _<(aj _ ((n -1)/c.ae)).used
    rw[e];exact p3
   ·
    show(aj _ ((n -1)/c.ae)).ae.getD _ []=(aj c ((n -1)/c.ae)).ae.getD _ []
    rw[e]
theorem Kd.roots{L:List Int}{c:CV}{b:Int}{o:Int}{f:Bool}{B:BV}(hh:fu c b=true)(h2:2≤b)(h:Kd L c {c with ops:=o,off:=f,blocks:=c.blocks.set b.toNat B}):Kp L c {c with ops:=o,off:=f,blocks:=c.blocks.set b.toNat B}:=
 ⟨h,fun k hk=>by
  obtain⟨_,h3,h4⟩:=fv.1 hh
  rw[mz (by omega),if_neg (by omega)]
  exact⟨rfl,rfl⟩⟩
theorem NW{c:CV}(h: ∀f∈c.aX,f.cut=false):((br c).2&&(br c).1.cut)=false:=by
 rw[br]
 cases hf:c.aX.find? fun f=>decide (f.op=c.ops)with
 |none=>rfl
 |some x=>simp only[h x (List.mem_of_find?_eq_some hf),Bool.and_false]
theorem ZW{L:List Int}{c:CV}{b:Int}{p:List UInt8}:Kd L c (dt c b (aj c b).used p):=by
 by_cases h:lL c b (aj c b).used p=true∧c.off=false∧(aj c b).bad=false∧(aj c b).used=(aj c b).used
 ·
  have e:dt c b (aj c b).used p=eM c b (aj c b).used p:=if_pos h
  have hk:=BW (c:=c) (b:=b) (g:=(aj c b).used) (p:=p)
  rw[e]at hk
  obtain⟨h1,h2,h3,_⟩:=h
  obtain⟨j1,j2,j3,j4,j5⟩:=iF.1 h1
  rw[e,eM]
  refine Hw j1 hk (fun g=>by rw[h3]at g;cases g) (fun _ g=>NW g) (by omega) fun n _ _ hp hb=> ?_
  obtain⟨p1,p2,p3⟩:=mU.1 hp
  rw[hb]at p3
  have h0:0≤(n -1)%c.ae:=Int.emod_nonneg _ (by omega)
  refine⟨by simp only;omega,?_⟩
  simp only[List.getD]
  rw[List.getElem?_set_ne (by omega)]
 ·
  rw[dt,if_neg h];exact .bY L c
theorem ZX{L:List Int}{c:CV}{b:Int}:Kd L c (iO c b):=by
 by_cases h:jR c b=0
 ·
  have hk:=KZ (c:=c) (b:=b)
  rw[iO,if_pos h]at hk⊢
  have hh:fu c b=true:=by
   cases hq:fu c b with
   |true=>rfl
   |false=>rw[jR,if_neg (by rw[hq];simp)]at h;cases h
  refine Hw (o:=c.ops) (f:=c.off) hh hk (fun g=> ?_) (fun g _=>g) (Int.le_refl _) fun n _ _ hp hb=> ?_
  ·
   cases hB:aj c b with|mk a1 a2 a3 a4=>rw[hB]at g;simp only at g;rw[g]
  ·
   obtain⟨p1,p2,p3⟩:=mU.1 hp
   rw[hb]at p3
   exact⟨p3,rfl⟩
 ·
  rw[iO,if_neg h];exact .bY L c
theorem NX{c:CV}{b k:Int}:(aj (iO c b) k).ae=(aj c k).ae∧(aj (iO c b) k).used=(aj c k).used:=by
 rw[iO];split
 ·
  rename_i h
  have hh:fu c b=true:=by
   cases hq:fu c b with
   |true=>rfl
   |false=>rw[jR,if_neg (by rw[hq];simp)]at h;cases h
  obtain⟨_,h3,h4⟩:=fv.1 hh
  have e:=mz (c:=c) (o:=c.ops) (f:=c.off) (B:={aj c b with bad:=true}) (show b.toNat<c.blocks.length by omega) k
  rw[e]
  split
  ·
   rename_i e2;have e3:aj c k=aj c b:=by simp only[aj,e2]
   rw[e3];exact⟨rfl,rfl⟩
  ·
   exact⟨rfl,rfl⟩
 ·
  exact⟨rfl,rfl⟩
theorem Ah{L:List Int}{c:CV}{b e:Int}:Kp L c (gk c b e):=by
 rw[gk];split
 ·
  exact⟨ZX,fun k _=>NX⟩
 ·
  exact .bY L c
theorem pL{L:List Int}{c:CV}{b:Int}{p:List UInt8}:Kd L c (bj c b p):=ZW.trans Ah.toKd
theorem uh{c:CV}{b k g:Int}{p:List UInt8}(h:k.toNat≠b.toNat):aj (dt c b g p) k=aj c k:=by
 rw[dt];split
 ·
  rename_i hk
  obtain⟨_,h3,h4⟩:=fv.1 (iF.1 hk.1).1
  rw[eM,mz (by omega),if_neg h]
 ·
  rfl
theorem Dc{L:List Int}{c:CV}{b:Int}{p:List UInt8}(h2:2≤b):Kp L c (bj c b p):=
 ⟨pL,fun k hk=>by
  have h1:=(Ah (L:=L) (c:=dt c b (aj c b).used p) (b:=b) (e:=bm c b p)).r0 k hk
  rw[bj,h1.1,h1.2,uh (by omega)];exact⟨rfl,rfl⟩⟩
def k7(L:List Int)(c:CV)(b:Int):Prop:= ∀n∈L,n≠0→(n -1)/c.ae≠b
theorem NY{L:List Int}{c:CV}{b:Int}(hd: ∀n∈L,n≠0→jS c (n -1)=true→(n -1)/c.ae≠b):Kd L c (eN c b):=by
 by_cases h:mc c b=true∧c.off=false∧(aj c b).bad=false
 ·
  have hk:=BX (c:=c) (b:=b)
  rw[eN,if_pos h]at hk⊢
  obtain⟨h1,h2,h3⟩:=h
  have hh:=(nE.1 h1).1
  rw[gF]at hk⊢
  exact Hw hh hk (fun g=>by rw[h3]at g;cases g) (fun _ g=>NW g) (by omega) fun n hn h0 hp hb=>absurd hb (hd n hn h0 hp)
 ·
  rw[eN,if_neg h];exact .bY L c
theorem ZY{L:List Int}{c:CV}{b:Int}(hd:k7 L c b):Kd L c (eN c b):=NY fun n hn h0 _=>hd n hn h0
theorem ZZ{L:List Int}{c:CV}{b:Int}(hb:b<2):Kd L c (dh c b):=(NY fun n _ _ hp=>by have:=(mU.1 hp).1;omega).trans Ah.toKd
theorem Hx{L:List Int}{c:CV}{b:Int}(hd:k7 L c b):Kd L c (dh c b):=(ZY hd).trans Ah.toKd
theorem xY{c:CV}{b k:Int}(h:k.toNat≠b.toNat):aj (eN c b) k=aj c k:=by
 rw[eN];split
 ·
  rename_i hk
  obtain⟨_,h3,h4⟩:=fv.1 (nE.1 hk.1).1
  rw[gF,mz (by omega),if_neg h]
 ·
  rfl
theorem aaa{L:List Int}{c:CV}{b:Int}(h2:2≤b)(hd:k7 L c b):Kp L c (dh c b):=
 ⟨Hx hd,fun k hk=>by
  have h1:=(Ah (L:=L) (c:=eN c b) (b:=b) (e:=dS c b)).r0 k hk
  rw[dh,h1.1,h1.2,xY (by omega)];exact⟨rfl,rfl⟩⟩
theorem k7.cx{L:List Int}{c d:CV}{b:Int}(h:k7 L c b)(g:dL c d):k7 L d b:=fun n hn h0=>by rw[g.ae];exact h n hn h0
theorem NZ{L:List Int}: ∀(n:Nat) {c:CV} {b:Int},2≤b→k7 L c b→Kp L c (fg n c b).1
 |0,c,b,h2,hd=>aaa h2 hd
 |n+1,c,b,h2,hd=>by
  rw[fg];split
  ·
   exact Dc h2
  ·
   exact(Dc h2).trans (NZ n h2 (hd.cx (gm _ _ _)))
theorem vS{L:List Int}{c:CV}{b:Int}(h2:2≤b)(hd:k7 L c b):Kp L c (cG c b).1:=NZ _ h2 hd
theorem aab{c:CV}{b g:Int}{p:List UInt8}(h:jz c b g p=7):(dt c b g p).off=true:=by
 rw[jz]at h
 by_cases h1:lL c b g p=true
 ·
  rw[if_pos h1]at h
  by_cases h2:c.off=true
  ·
   rw[dt,if_neg (fun k=>by rw[h2]at k;cases k.2.1)];exact h2
  ·
   rw[if_neg h2]at h
   by_cases h3:(aj c b).bad=true∨g≠(aj c b).used
   ·
    rw[if_pos h3]at h;cases h
   ·
    rw[if_neg h3]at h
    by_cases h4:(br c).2=true
    ·
     rw[if_pos h4,kb]at h
     have h5:(br c).1.cut=true:=by
      cases hc:(br c).1.cut with
      |true=>rfl
      |false=>rw[if_neg (by rw[hc];simp)]at h;cases h
     have xM:(aj c b).bad=false:=by
      cases hb:(aj c b).bad with
      |true=>exact absurd (.inl hb) h3
      |false=>rfl
     rw[dt,if_pos ⟨h1,by simpa using h2,xM,Classical.byContradiction fun k=>h3 (.inr k)⟩,eM,h4,h5];rfl
    ·
     rw[if_neg h4]at h;cases h
 ·
  rw[if_neg h1]at h;cases h
theorem N1(c:CV)(b e:Int):(gk c b e).off=c.off:=by
 rw[gk];split
 ·
  rw[iO];split<;>rfl
 ·
  rfl
theorem Dd{c:CV}{b:Int}{p:List UInt8}(h:bm c b p=7):(bj c b p).off=true:=by rw[bj,N1];exact aab h
theorem N2{c:CV}{b:Int}(h:dS c b=7):(dh c b).off=true:=by
 rw[dh,N1]
 rw[dS]at h
 by_cases h1:mc c b=true
 ·
  rw[if_pos h1]at h
  by_cases h2:c.off=true
  ·
   rw[eN,if_neg (fun k=>by rw[h2]at k;cases k.2.1)];exact h2
  ·
   rw[if_neg h2]at h
   by_cases h3:(aj c b).bad=true
   ·
    rw[if_pos h3]at h;cases h
   ·
    rw[if_neg h3]at h
    by_cases h4:(br c).2=true
    ·
     rw[if_pos h4,kb]at h
     have h5:(br c).1.cut=true:=by
      cases hc:(br c).1.cut with
      |true=>rfl
      |false=>rw[if_neg (by rw[hc];simp)]at h;cases h
     rw[eN,if_pos ⟨h1,by simpa using h2,by simpa using h3⟩,gF,h4,h5];rfl
    ·
     rw[if_neg h4]at h;cases h
 ·
  rw[if_neg h1]at h;cases h
theorem N3: ∀(n:Nat) {c:CV} {b:Int},(fg n c b).2=7→(fg n c b).1.off=true
 |0,c,b,h=>N2 h
 |n+1,c,b,h=>by
  rw[fg]at h⊢
  by_cases h0:bm c b (gQ c)≠0
  ·
   rw[if_pos h0]at h⊢;exact Dd h
  ·
   rw[if_neg h0]at h⊢;exact N3 n h
theorem Ai{c:CV}{b:Int}(h:(cG c b).2=7):(cG c b).1.off=true:=N3 _ h
open Go.ay
def Pl(c:CV)(a:List Int):Prop:=(∀(i:Nat) (y:Int),a[i]? =some y→y≠0→mf c (i:Int) y=true)∧ ∀(i j:Nat) (y:Int),a[i]? =some y→a[j]? =some y→y≠0→i=j
theorem Hy{a:List Int}{i:Nat}{y:Int}:(a.take i).contains y=true↔ ∃j,j<i∧a[j]? =some y:=by
 rw[List.contains_iff_mem,List.mem_take_iff_getElem]
 constructor
 ·
  rintro⟨j,hj,e⟩
  exact⟨j,by omega,by rw[List.getElem?_eq_getElem (by omega),e]⟩
 ·
  rintro⟨j,hj,e⟩
  obtain⟨hl,e2⟩:=List.getElem?_eq_some_iff.1 e
  exact⟨j,by omega,e2⟩
theorem N4{c:CV}{a:List Int}:q7 c a=true↔Pl c a:=by
 rw[BQ]
 constructor
 ·
  intro h
  have hp: ∀(i:Nat) (y:Int),a[i]? =some y→y≠0→(a.take i).contains y=false∧mf c (i:Int) y=true:=fun i y hy h0=>by
   have hi:=(List.getElem?_eq_some_iff.1 hy).1
   have h1:=h i hi
   rw[Lz (oz hy),decide_eq_false h0,Bool.false_or,Bool.and_eq_true,Bool.not_eq_true']at h1
   exact h1
  refine⟨fun i y hy h0=>(hp i y hy h0).2,fun i j y hi hj h0=> ?_⟩
  rcases Nat.lt_trichotomy i j with hl|hl|hl
  ·
   have:=(hp j y hj h0).1
   rw[Hy.2 ⟨i,hl,hi⟩]at this;cases this
  ·
   exact hl
  ·
   have:=(hp i y hi h0).1
   rw[Hy.2 ⟨j,hl,hj⟩]at this;cases this
 ·
  rintro⟨h1,h2⟩ i hi
  have hy:=List.getElem?_eq_getElem hi
  rw[Lz (oz hy)]
  by_cases h0:a[i]=0
  ·
   rw[decide_eq_true h0];rfl
  ·
   rw[h1 i _ hy h0,Bool.and_true,Bool.or_eq_true]
   right
   cases hc:(a.take i).contains a[i]with
   |false=>rfl
   |true=>
    obtain⟨j,hj,e⟩:=Hy.1 hc
    have:=h2 i j _ hy e h0;omega
theorem De{c:CV}{i n:Int}(h:mf c i n=true):jS c (n -1)=true∧(cO (bD c (n -1))).2=0∧(cO (bD c (n -1))).1.kind=1∧(cO (bD c (n -1))).1.id=i:=by
 rw[mf,Bool.and_eq_true,BP]at h
 simp only[Bool.and_eq_true,decide_eq_true_eq]at h
 exact⟨h.1,h.2.1.1,h.2.1.2,h.2.2⟩
theorem aac{c:CV}{i n:Int}{p:PV}(h:jS c (n -1)=true)(h2:cO (bD c (n -1))=(p,0))(hk:p.kind=1)(hi:p.id=i):mf c i n=true:=by
 rw[mf,h,h2,BP]
 simp[hk,hi]
theorem Pl.kd{c d:CV}{a L:List Int}(h:Pl c a)(k:Kd L c d)(hs: ∀n∈a,n∈L):Pl d a:=
 ⟨fun i y hy h0=>by
  have h1:=h.1 i y hy h0
  obtain⟨g1,g2⟩:=k.nm y (hs y (List.mem_of_getElem? hy)) h0 (De h1).1
  rw[mf,g1,g2]
  rw[mf,(De h1).1]at h1
  exact h1,h.2⟩
theorem Df{c d:CV}{a L:List Int}(h:Pl c a)(k:Kd L c d)(hs: ∀n∈a,n∈L):a.map (dY d)=a.map (dY c):=by
 refine List.map_congr_left fun y hy=> ?_
 by_cases h0:y=0
 ·
  rw[h0];rfl
 ·
  obtain⟨i,hi⟩:=List.getElem?_of_mem hy
  obtain⟨_,g2⟩:=k.nm y (hs y hy) h0 (De (h.1 i y hi h0)).1
  rw[dY,dY,jC,jC,g2]
theorem Pl.place{c:CV}{a:List Int}(h:Pl c a){n:Int}(hn:n∈a)(h0:n≠0):jS c (n -1)=true:=by
 obtain⟨i,hi⟩:=List.getElem?_of_mem hn
 exact(De (h.1 i n hi h0)).1
structure dw(x:VV):Prop where
 bears:fx x.ag=true
 roots:(bL x.ag).2.2=0
 used:(bL x.ag).1%x.ag.ae<(aj x.ag ((bL x.ag).1/x.ag.ae)).used
 pl:Pl x.ag x.at_
 at_:(bL x.ag).2.1.at_=x.at_
 gen:(bL x.ag).2.1.gen=x.gen
 last:(bL x.ag).1/x.ag.ae=x.last
theorem xZ{x:VV}:kU x=true↔dw x:=by
 rw[TR,Bool.and_eq_true]
 constructor
 ·
  rintro⟨h1,h2⟩
  simp only[Bool.and_eq_true,decide_eq_true_eq]at h2
  obtain⟨⟨⟨g1,g2⟩,g3⟩,g4⟩:=h2
  rw[sg]at g1 g2 g3 g4
  by_cases k1:(bL x.ag).2.2≠0
  ·
   rw[if_pos k1]at g1;exact absurd g1 k1
  ·
   rw[if_neg k1]at g1 g2 g3 g4
   by_cases k2:lh x.ag=false
   ·
    rw[if_pos k2]at g1;cases g1
   ·
    rw[if_neg k2]at g2 g3 g4
    have Hz:lh x.ag=true:=by simpa using k2
    rw[lh,Bool.and_eq_true,decide_eq_true_eq]at Hz
    refine⟨h1,by simpa using k1,Hz.1,?_,g2.symm,g3.symm,g4.symm⟩
    rw[g2];exact N4.1 Hz.2
 ·
  intro h
  refine⟨h.bears,?_⟩
  have hl:lh x.ag=true:=by
   rw[lh,Bool.and_eq_true,decide_eq_true_eq]
   exact⟨h.used,by rw[h.at_];exact N4.2 h.pl⟩
  rw[sg,if_neg (fun g=>g h.roots),if_neg (by rw[hl];simp)]
  simp only[h.at_,h.gen,h.last,decide_true,Bool.and_self]
theorem aad{L:List Int}{c d:CV}(k:Kp L c d):bL d=bL c:=by
 rw[bL,bL,(k.r0 0 (by decide)).1,(k.r0 1 (by decide)).1]
theorem aae{L:List Int}{c d:CV}(k:Kd L c d)(h:fx c=true):fx d=true:=by
 obtain⟨h1,h2,h3,h4⟩:=eo.1 h
 exact eo.2 ⟨k.ok h1,by rw[k.cx.len];exact h2,by rw[k.cx.ae];exact h3,by rw[k.cx.size];exact h4⟩
theorem vT{c:CV}(h:fx c=true):((aj c 0).ae.length:Int)=c.ae∧((aj c 1).ae.length:Int)=c.ae:=by
 obtain⟨h1,h2,h3,h4⟩:=eo.1 h
 exact⟨(eX.1 (rb h1 (by decide) (by omega))).1,(eX.1 (rb h1 (by decide) (by omega))).1⟩
theorem N5{c:CV}(h:fx c=true):0≤(bL c).1∧(bL c).1<2*c.ae:=by
 obtain⟨h1,h2⟩:=vT h
 obtain⟨_,_,h3,_⟩:=eo.1 h
 have:=Fp (l:=(aj c 0).ae++(aj c 1).ae) (by rw[List.length_append];omega)
 rw[List.length_append]at this
 rw[bL];omega
theorem dw.kp{x:VV}(h:dw x){d:CV}(k:Kp x.at_ x.ag d):dw {x with ag:=d}:=by
 have e:=aad k
 have ep:=k.cx.ae
 have hr:=N5 h.bears
 have hp:0<x.ag.ae:=by have:=(eo.1 h.bears).2.2.1;omega
 exact⟨aae k.toKd h.bears,by show(bL d).2.2=0;rw[e];exact h.roots,by
  show(bL d).1%d.ae<(aj d ((bL d).1/d.ae)).used
  rw[e,ep,(k.r0 _ (Int.ediv_lt_of_lt_mul hp hr.2)).2];exact h.used,h.pl.kd k.toKd fun _ g=>g,by show(bL d).2.1.at_=_;rw[e];exact h.at_,by show(bL d).2.1.gen=_;rw[e];exact h.gen,by show(bL d).1/d.ae=_;rw[e,ep];exact h.last⟩
theorem N6{l:List Int}{n:Int}(h0:n≠0): ∀k,n∈l.take k→ ∃j,j<k∧j<l.length∧l.getD j 0=n∧oA l j=true
 |0,h=>by simp at h
 |k+1,h=>by
  by_cases hk:n∈l.take k
  ·
   obtain⟨j,h1,h2⟩:=N6 h0 k hk
   exact⟨j,by omega,h2⟩
  ·
   rw[List.take_add_one,List.mem_append]at h
   rcases h with h|h
   ·
    exact absurd h hk
   ·
    have hx:l[k]? =some n:=by simpa[Option.mem_toList]using h
    refine⟨k,by omega,(List.getElem?_eq_some_iff.1 hx).1,oz hx,?_⟩
    rw[oA,oz hx,decide_eq_true h0,Bool.true_and,Bool.not_eq_true']
    cases hc:(l.take k).contains n with
    |false=>rfl
    |true=>exact absurd (List.contains_iff_mem.1 hc) hk
theorem N7{ae:Int}{l:List Int}{i:Nat}(h:mV ae l l.length i=0): ∀n∈l,n≠0→(n -1)/ae≠(i:Int)+2:=by
 intro n hn h0 hb
 obtain⟨j,h1,h2,h3,h4⟩:=N6 h0 l.length (by rw[List.take_length];exact hn)
 rw[mV,List.length_eq_zero_iff]at h
 have hm:j∈(List.range l.length).filter fun j=>oA l j&&decide ((l.getD j 0 -1)/ae=(i:Int)+2):=List.mem_filter.2 ⟨List.mem_range.2 h2,by rw[h4,h3,decide_eq_true hb];rfl⟩
 rw[h]at hm;cases hm
theorem aaf{c:CV}{fl:List Int}{i:Nat}{x:aA}(h:(aB c fl)[i]? =some x)(hb:x.bad=false)(hl:x.live=0):k7 fl c ((i:Int)+2):=by
 have hi:=(List.getElem?_eq_some_iff.1 h).1
 rw[kf]at hi
 rw[FA hi]at h
 have e:=Option.some.inj h
 intro n hn h0
 refine N7 (l:=fl) ?_ n hn h0
 rw[mW]at e
 split at e
 ·
  rw[←e]at hb;cases hb
 ·
  rw[←e]at hl
  simp only[q8]at hl
  omega
def pM(c:CV)(fl:List Int)(l:List aA):Prop:= ∀(i:Nat) (x:aA),l[i]? =some x→x.bad=false→x.live=0→k7 fl c ((i:Int)+2)
theorem Dg(c:CV)(fl:List Int):pM c fl (aB c fl):=fun _ _ h hb hl=>aaf h hb hl
theorem pM.set{c:CV}{fl:List Int}{l:List aA}(h:pM c fl l)(i:Nat):pM c fl (l.set i bc):=by
 intro j x hx hb hl
 rw[List.getElem?_set]at hx
 split at hx
 ·
  split at hx
  ·
   obtain rfl:=Option.some.inj hx;cases hb
  ·
   cases hx
 ·
  exact h j x hx hb hl
theorem Dh{c:CV}{fl:List Int}{l:List aA}(h:pM c fl l){R:aA→Bool}{p:Int}(hd:(eZ (bZ R l) p).2=true):k7 fl c ((eZ (bZ R l) p).1+2)∧0≤(eZ (bZ R l) p).1:=by
 obtain⟨x,hx,h1,_,h3,h4,_⟩:=oC (fun x h=>(kA h).1) hd
 have:=h _ x hx h1 (kA h3).2.1
 refine⟨?_,h4⟩
 change 0≤(eZ (bZ R l) p).1 at h4
 change k7 fl c ((((eZ (bZ R l) p).1.toNat:Nat):Int)+2)at this
 rwa [Int.toNat_of_nonneg h4]at this
theorem aag{c:CV}{fl:List Int}(hk:aT c=true)(h2:3≤c.blocks.length)(hi:fP (aB c fl)≠0)(hb: ¬(kV c fl).2=true):(eZ (bZ gH (aB c fl)) c.ae).2=true:=by
 have hd:=eH hk
 have dF:=kf c fl
 have hw:ky (bZ gH (aB c fl)) c.ae=true:=qi.2 ⟨by rw[tz];omega,by rw[tz];omega,by omega,by omega,fun x hx=>by
  obtain⟨i,hi⟩:=List.getElem?_of_mem hx
  obtain⟨y,hy,rfl⟩:=FC hi
  have t:=tC hk (List.mem_of_getElem? hy)
  have pq:cN=1099511627776:=rfl
  unfold iQ
  split
  ·
   exact pn.2 (by simp only[bc];omega)
  ·
   rename_i hn
   have hl:y.live=0:=by
    cases hR:gH y with
    |true=>simpa[gH]using hR
    |false=>exact absurd (.inr hR) hn
   exact pn.2 ⟨by omega,by have:=t.zn;omega,t.w8,t.Ld,t.Le⟩⟩
 have pt:(kV c fl).2=false:=by simpa using hb
 have FE:=w5 hw (show(fH _ _ _ _).2=false from pt)
 have w9:0<((aB c fl).filter fun x=> !x.bad&&decide (x.live=0)).length:=by rw[fP]at hi;omega
 obtain⟨x,hx⟩:=List.exists_mem_of_length_pos w9
 obtain⟨mZ,jU⟩:=List.mem_filter.1 hx
 simp only[Bool.and_eq_true,Bool.not_eq_true',decide_eq_true_eq]at jU
 have tD:iQ gH x=x:=by
  unfold iQ
  rw[if_neg]
  rintro(g|g)
  ·
   rw[jU.1]at g;cases g
  ·
   rw[show gH x=true by simp[gH,jU.2]]at g;cases g
 have zo:x∈bZ gH (aB c fl):=by
  rw[←tD];exact List.mem_map_of_mem mZ
 have zp:=FE x zo
 have t:=tC hk mZ
 have qk:mg x=true:=by
  have: ¬x.used<c.ae:=fun h=>by
   rw[nJ,jU.1,decide_eq_true h]at zp;cases zp
  simp only[mg,jU.1,Bool.not_false,Bool.true_and,Bool.and_eq_true,decide_eq_true_eq]
  omega
 cases hq:(eZ (bZ gH (aB c fl)) c.ae).2 with
 |true=>rfl
 |false=>have:=w5 hw hq x zo;rw[qk]at this;cases this
theorem N8{c:CV}{fl:List Int}{aC:Bool}(hk:aT c=true)(h2:3≤c.blocks.length):Kp fl c (bg c fl aC).1∧((bg c fl aC).2.2=7→(bg c fl aC).1.off=true):=by
 rw[bg]
 by_cases h1:(mX c fl).2=true
 ·
  rw[if_pos h1];exact⟨.bY _ _,fun h=>absurd (show(0:Int)=7 from h) (by decide)⟩
 ·
  rw[if_neg h1]
  by_cases h3:fP (aB c fl)=0∨(fP (aB c fl)=1∧aC=false)
  ·
   rw[if_pos h3];exact⟨.bY _ _,fun h=>absurd (show(5:Int)=7 from h) (by decide)⟩
  ·
   rw[if_neg h3]
   by_cases h4:(kV c fl).2=true
   ·
    rw[if_pos h4];exact⟨.bY _ _,fun h=>absurd (show(0:Int)=7 from h) (by decide)⟩
   ·
    rw[if_neg h4]
    obtain⟨d1,d2⟩:=Dh (Dg c fl) (aag hk h2 (fun e=>h3 (.inl e)) h4)
    exact⟨vS (by show 2≤mY c fl+2;change 0≤mY c fl at d2;omega) d1,Ai⟩
theorem Di{L:List Int}{c:CV}{b:Int}{p:List UInt8}(h2:2≤b)(h:bm c b p=0):jS (bj c b p) (b*c.ae+(aj c b).used)=true∧bD (bj c b p) (b*c.ae+(aj c b).used)=p∧
  0≤b*c.ae+(aj c b).used∧jS c (b*c.ae+(aj c b).used)=false:=by
 obtain⟨h1,h3,h4,h5,e⟩:=nK h
 obtain⟨j1,j2,j3,j4,j5⟩:=iF.1 h1
 obtain⟨k1,k2,k3⟩:=fv.1 j1
 have hd:(b*c.ae+(aj c b).used)/c.ae=b:=by
  rw[Int.add_comm,Int.add_mul_ediv_right _ _ (by omega),Int.ediv_eq_zero_of_lt j2 j3,Int.zero_add]
 have hm:(b*c.ae+(aj c b).used)%c.ae=(aj c b).used:=by
  rw[Int.add_comm,Int.add_mul_emod_self_right,Int.emod_eq_of_lt j2 j3]
 have bE:=(eX.1 (ox j1)).1
 rw[e]
 refine⟨mU.2 ?_,?_,?_,?_⟩
 ·
  show 2≤(b*c.ae+(aj c b).used)/c.ae∧(b*c.ae+(aj c b).used)/c.ae<((c.blocks.set b.toNat _).length:Int)∧(b*c.ae+(aj c b).used)%c.ae<(aj _ ((b*c.ae+(aj c b).used)/c.ae)).used
  rw[hd,hm,eM,oB j1,List.length_set]
  exact⟨h2,k3,by simp only;omega⟩
 ·
  show(aj _ ((b*c.ae+(aj c b).used)/c.ae)).ae.getD ((b*c.ae+(aj c b).used)%c.ae).toNat []=p
  rw[hd,hm,eM,oB j1]
  simp only[List.getD]
  rw[List.getElem?_set_self (by omega),l8,h5];rfl
 ·
  have:0≤b*c.ae:=Int.mul_nonneg (by omega) (by omega)
  omega
 ·
  cases hq:jS c (b*c.ae+(aj c b).used)with
  |false=>rfl
  |true=>
   obtain⟨p1,p2,p3⟩:=mU.1 hq
   rw[hd,hm]at p3;omega
structure Aj(fl:List Int)(c d:CV)(n:Int)(p:List UInt8):Prop where
 pos:1≤n
 ok:jS d (n -1)=true
 pg:bD d (n -1)=p
 new: ∀m∈fl,m≠0→jS c (m -1)=true→m≠n
theorem HA: ∀(n:Nat) {c:CV} {fl:List Int} {aC:Bool} {b:List UInt8},aT c=true→3≤c.blocks.length→(cN -c.ops).toNat<n→
  Kp fl c (gR n c fl aC b).1∧((gR n c fl aC b).2.2=0→Aj fl c (gR n c fl aC b).1 (gR n c fl aC b).2.1 b)∧((gR n c fl aC b).2.2=7→(gR n c fl aC b).1.off=true)
 |0,c,fl,aC,b,_,_,hn=>by omega
 |n+1,c,fl,aC,b,hk,h2,hn=>by
  obtain⟨f1,f2,f3,f4,f5⟩:=B5 (fl:=fl) (aC:=aC) hk h2
  obtain⟨k1,k2⟩:=N8 (fl:=fl) (aC:=aC) hk h2
  rw[gR]
  by_cases h0:(bg c fl aC).2.2=0
  ·
   rw[if_pos h0]
   obtain⟨g1,g2,g3⟩:=f4 h0
   have kp:=k1.trans (Dc (c:=(bg c fl aC).1) (p:=b) (L:=fl) g1)
   by_cases h1:bm (bg c fl aC).1 (bg c fl aC).2.1 b=0
   ·
    rw[if_pos h1]
    refine⟨kp,fun _=> ?_,fun h=>absurd (show(0:Int)=7 from h) (by decide)⟩
    obtain⟨q1,q2,q3,q4⟩:=Di (L:=fl) g1 h1
    rw[f2.ae]at q1 q2 q3 q4
    have e:(bg c fl aC).2.1*c.ae+(aj (bg c fl aC).1 (bg c fl aC).2.1).used+1 -1=(bg c fl aC).2.1*c.ae+(aj (bg c fl aC).1 (bg c fl aC).2.1).used:=by omega
    refine⟨by simp only;omega,by simp only;rw[e];exact q1,by simp only;rw[e];exact q2,fun m hm h0 hp he=> ?_⟩
    have:=(k1.nm m hm h0 hp).1
    simp only at he
    rw[he,e,q4]at this;cases this
   ·
    rw[if_neg h1]
    by_cases h9:bm (bg c fl aC).1 (bg c fl aC).2.1 b≠9
    ·
     rw[if_pos h9]
     exact⟨kp,fun h=>absurd h h1,Dd⟩
    ·
     rw[if_neg h9]
     have ho:=q9 g3 (p:=b) (.inl (by simpa using h9))
     have bR:=iI f1 (bg c fl aC).2.1 b
     have hl:=f2.trans (gm (bg c fl aC).1 (bg c fl aC).2.1 b)
     have hle:=qm bR
     obtain⟨t1,t2,t3⟩:=HA n (fl:=fl) (aC:=aC) (b:=b) bR (by rw[hl.len];exact h2) (by omega)
     refine⟨kp.trans t1,fun h=> ?_,t3⟩
     have g:=t2 h
     exact⟨g.pos,g.ok,g.pg,fun m hm h0 hp=>g.new m hm h0 (kp.nm m hm h0 hp).1⟩
  ·
   rw[if_neg h0]
   by_cases h9:(bg c fl aC).2.2≠9
   ·
    rw[if_pos h9]
    exact⟨k1,fun h=>absurd h h0,k2⟩
   ·
    rw[if_neg h9]
    have ho:=f5 (by simpa using h9)
    have hle:=qm f1
    obtain⟨t1,t2,t3⟩:=HA n (fl:=fl) (aC:=aC) (b:=b) f1 (by rw[f2.len];exact h2) (by omega)
    refine⟨k1.trans t1,fun h=> ?_,t3⟩
    have g:=t2 h
    exact⟨g.pos,g.ok,g.pg,fun m hm h0 hp=>g.new m hm h0 (k1.nm m hm h0 hp).1⟩
theorem N9{c:CV}{fl:List Int}{aC:Bool}{p:PV}(hk:aT c=true)(h2:3≤c.blocks.length):
  Kp fl c (da c fl aC p).1∧((da c fl aC p).2.2=0→mS p c.size=true∧Aj fl c (da c fl aC p).1 (da c fl aC p).2.1 (dr p c.size).1)∧((da c fl aC p).2.2=7→(da c fl aC p).1.off=true):=by
 rw[da];split
 ·
  rename_i h
  refine⟨.bY _ _,fun g=>absurd g h,fun g=> ?_⟩
  rcases xf p c.size with e|e
  ·
   exact absurd e h
  ·
   simp only at g;rw[e]at g;cases g
 ·
  rename_i h
  obtain⟨t1,t2,t3⟩:=HA ((cN -c.ops).toNat+1) (fl:=fl) (aC:=aC) (b:=(dr p c.size).1) hk h2 (by omega)
  exact⟨t1,fun g=>⟨NV (by simpa using h),t2 g⟩,t3⟩
open Go.ay
def rF(bs:List (List UInt8))(l:List (Int×List UInt8)):List (List UInt8):=l.foldl (fun b x=>b.set x.1.toNat x.2) bs
theorem HB{α β:Type}{f:α→β}{l:List α}{i:Nat}{x:α}:(l.set i x).map f=(l.map f).set i (f x):=by rw[List.map_set]
theorem Pl.zero{c:CV}{a:List Int}(h:Pl c a)(i:Nat):Pl c (a.set i 0):=by
 have hs: ∀(j:Nat) (y:Int),(a.set i 0)[j]? =some y→y≠0→a[j]? =some y:=fun j y hy h0=>by
  rw[List.getElem?_set]at hy
  split at hy
  ·
   split at hy
   ·
    exact absurd (Option.some.inj hy).symm h0
   ·
    cases hy
  ·
   exact hy
 exact⟨fun j y hy h0=>h.1 j y (hs j y hy h0) h0,fun j k y hj hk h0=>h.2 j k y (hs j y hj h0) (hs k y hk h0) h0⟩
theorem Pl.put{c d:CV}{a fl:List Int}{i:Nat}{n:Int}{p:PV}{pg:List UInt8}(h:Pl c a)(k:Kd fl c d)(hs: ∀m∈a,m∈fl)(g:Aj fl c d n pg)(hp:cO pg=(p,0))(hk:p.kind=1)(hi:p.id=(i:Int)):Pl d (a.set i n):=by
 have hd:=h.kd k hs
 have hn: ∀m∈a,m≠n:=fun m hm e=>by
  have h0:m≠0:=by have:=g.pos;omega
  exact g.new m (hs m hm) h0 (h.place hm h0) e
 have HC: ∀(j:Nat) (y:Int),(a.set i n)[j]? =some y→(j=i∧y=n)∨(a[j]? =some y∧y≠n):=fun j y hy=>by
  rw[List.getElem?_set]at hy
  split at hy
  ·
   rename_i e
   split at hy
   ·
    exact .inl ⟨e.symm,(Option.some.inj hy).symm⟩
   ·
    cases hy
  ·
   exact .inr ⟨hy,hn y (List.mem_of_getElem? hy)⟩
 refine⟨fun j y hy h0=> ?_,fun j l y hj hl h0=> ?_⟩
 ·
  rcases HC j y hy with⟨rfl,rfl⟩|⟨e,_⟩
  ·
   exact aac g.ok (by rw[g.pg];exact hp) hk hi
  ·
   exact hd.1 j y e h0
 ·
  rcases HC j y hj with⟨e1,e2⟩|⟨e1,e2⟩<;>rcases HC l y hl with⟨e3,e4⟩|⟨e3,e4⟩
  ·
   rw[e1,e3]
  ·
   exact absurd e2 e4
  ·
   exact absurd e4 e2
  ·
   exact h.2 j l y e1 e3 h0
theorem Oa{fl:List Int}{c d:CV}{n:Int}{p:PV}{pg:List UInt8}(g:Aj fl c d n pg)(hp:cO pg=(p,0)):dY d n=p.body:=by
 rw[dY,if_neg (by have:=g.pos;omega),jC,g.pg,hp,if_pos rfl]
theorem Dj{v:VV}{aC:Bool}: ∀(l:List (Int×List UInt8)) {c:CV} {a:List Int},aT c=true→3≤c.blocks.length→Pl c v.at_→Pl c a→(∀x∈l,0≤x.1)→
  Kp v.at_ c (g9 v aC l c a).1∧((g9 v aC l c a).2.2=0→Pl (g9 v aC l c a).1 (g9 v aC l c a).2.1∧(g9 v aC l c a).2.1.map (dY (g9 v aC l c a).1)=rF (a.map (dY c)) l∧(g9 v aC l c a).2.1.length=a.length)∧((g9 v aC l c a).2.2=7→(g9 v aC l c a).1.off=true)
 |[],c,a,_,_,_,ha,_=>⟨.bY _ _,fun _=>⟨ha,rfl,rfl⟩,fun h=>absurd (show(0:Int)=7 from h) (by decide)⟩
 |x::r,c,a,hk,h2,hv,ha,hG=>by
  have Ob: ∀y∈r,0≤y.1:=fun y hy=>hG y (List.mem_cons_of_mem _ hy)
  have Jz:=hG x List.mem_cons_self
  rw[g9]
  by_cases h0:x.2.length=0
  ·
   rw[if_pos h0]
   obtain⟨t1,t2,t3⟩:=Dj (v:=v) (aC:=aC) r hk h2 hv (ha.zero x.1.toNat) Ob
   refine⟨t1,fun h=> ?_,t3⟩
   obtain⟨g1,g2,g3⟩:=t2 h
   refine⟨g1,?_,by rw[g3,List.length_set]⟩
   rw[g2,HB,show dY c 0=x.2 from(List.length_eq_zero_iff.1 h0).symm];rfl
  ·
   rw[if_neg h0]
   obtain⟨k1,k2,k3⟩:=N9 (fl:=v.at_++a) (aC:=aC) (p:=gZ v x) hk h2
   by_cases h1:(da c (v.at_++a) aC (gZ v x)).2.2≠0
   ·
    rw[if_pos h1]
    exact⟨k1.sub fun n hn=>List.mem_append_left _ hn,fun h=>absurd h h1,k3⟩
   ·
    rw[if_neg h1]
    obtain⟨m1,m2⟩:=k2 (by simpa using h1)
    have hb:=Hs m1
    have bE:=ha.put k1.toKd (fun n hn=>List.mem_append_right _ hn) m2 hb rfl (i:=x.1.toNat) (by show x.1=_;omega)
    have vH:=hv.kd k1.toKd fun n hn=>List.mem_append_left _ hn
    obtain⟨t1,t2,t3⟩:=Dj (v:=v) (aC:=aC) r (k1.ok hk) (by rw[k1.cx.len];exact h2) vH bE Ob
    refine⟨(k1.sub fun n hn=>List.mem_append_left _ hn).trans t1,fun h=> ?_,t3⟩
    obtain⟨g1,g2,g3⟩:=t2 h
    refine⟨g1,?_,by rw[g3,List.length_set]⟩
    rw[g2,HB,Oa m2 hb,Df ha k1.toKd fun n hn=>List.mem_append_right _ hn];rfl
theorem aah{c:CV}{a0 a:List Int}{src to:Int}(h:(bV c a0 a src to).2=true)(hs:2≤src)(ht:0≤to→to≠src):(bV c a0 a src to).1≠src:=by
 rw[bV]at h⊢
 by_cases h1:to<0
 ·
  rw[if_pos h1]at h⊢
  by_cases h2:(eY ((aB c (a0++a)).set (src -2).toNat bc) c.ae).2=true
  ·
   rw[if_pos h2]
   obtain⟨f1,f2,f3,f4⟩:=w4 h2
   intro e
   simp only at e
   have e2:(eY ((aB c (a0++a)).set (src -2).toNat bc) c.ae).1.toNat=(src -2).toNat:=by omega
   change nJ c.ae (((aB c (a0++a)).set (src -2).toNat bc).getD (eY ((aB c (a0++a)).set (src -2).toNat bc) c.ae).1.toNat du)=true at f4
   change(eY ((aB c (a0++a)).set (src -2).toNat bc) c.ae).1<_ at f3
   change 0≤(eY ((aB c (a0++a)).set (src -2).toNat bc) c.ae).1 at f2
   rw[List.length_set]at f3
   rw[e2]at f4
   simp only[List.getD]at f4
   rw[List.getElem?_set_self (by omega)]at f4
   cases f4
  ·
   rw[if_neg h2]at h;cases h
 ·
  rw[if_neg h1]
  exact ht (by omega)
theorem Dk{v:VV}{src to:Int}(lD:2≤src)(pN:0≤to→to≠src)(B9:1≤v.ag.ae): ∀(l:List Int) (id:Nat) {c:CV} {a:List Int},aT c=true→Pl v.ag v.at_→Kp v.at_ v.ag c→Pl c a→a.map (dY c)=v.at_.map (dY v.ag)→
  (0≤to→2≤to∧to<c.blocks.length∧(aj c to).bad=false)→v.at_.drop id=l→(∀j,id≤j→a[j]? =v.at_[j]?)→(∀j n,j<id→a[j]? =some n→n≠0→(n -1)/v.ag.ae≠src)→a.length=v.at_.length→
  Kp v.at_ v.ag (ca v src to l id c a).c∧((ca v src to l id c a).e=none→Pl (ca v src to l id c a).c (ca v src to l id c a).a∧(ca v src to l id c a).a.map (dY (ca v src to l id c a).c)=v.at_.map (dY v.ag)∧(ca v src to l id c a).a.length=v.at_.length∧
   k7 (ca v src to l id c a).a v.ag src)∧((ca v src to l id c a).e=some 7→(ca v src to l id c a).c.off=true)∧(ca v src to l id c a).e≠some 9
 |[],id,c,a,hk,hv,pd,ha,hb,ht,hl,iV,dO,fG=>by
  refine⟨pd,fun _=>⟨ha,hb,fG,fun n hn h0=> ?_⟩,fun h=>by simp[ca]at h,by simp[ca]⟩
  obtain⟨j,hj⟩:=List.getElem?_of_mem hn
  have hlen:v.at_.length≤id:=List.drop_eq_nil_iff.1 hl
  have:=(List.getElem?_eq_some_iff.1 hj).1
  exact dO j n (by simp only[ca]at this;omega) hj h0
 |n::r,id,c,a,hk,hv,pd,ha,hb,ht,hl,iV,dO,fG=>by
  have hn:v.at_[id]? =some n:=by
   have:=congrArg (fun l:List Int=>l[0]?) hl
   simpa using this
  have hr:v.at_.drop (id+1)=r:=by
   rw[←List.drop_drop,hl];rfl
  have hp:=pd.cx.ae
  rw[ca]
  by_cases h1:n=0∨(n -1)/v.ag.ae≠src
  ·
   rw[if_pos h1]
   refine Dk lD pN B9 r (id+1) hk hv pd ha hb ht hr (fun j hj=>iV j (by omega)) (fun j m hj hm h0=> ?_) fG
   by_cases e:j=id
   ·
    rw[e,iV id (Nat.le_refl _),hn]at hm
    obtain rfl:=Option.some.inj hm
    exact h1.resolve_left h0
   ·
    exact dO j m (by omega) hm h0
  ·
   rw[if_neg h1]
   have h0:n≠0:=fun e=>h1 (.inl e)
   by_cases h2:(bV c v.at_ a src to).2=false
   ·
    rw[if_pos h2];exact⟨pd,fun h=>by simp at h,fun h=>by simp at h,by simp⟩
   ·
    rw[if_neg h2]
    have Oc:(bV c v.at_ a src to).2=true:=by simpa using h2
    obtain⟨m1,m2,m3⟩:=FP Oc ht
    have mne:=aah Oc lD pN
    generalize bV c v.at_ a src to=B at*
    by_cases h3:(dA c ((v.gen:Int)+1) id n).2≠0
    ·
     rw[if_pos h3]
     have xh:(dA c ((v.gen:Int)+1) id n).2=1:=(xf _ _).resolve_left h3
     exact⟨pd,fun h=>by simp at h,fun h=>absurd (xh.symm.trans (Option.some.inj h)) (by decide),fun h=>absurd (xh.symm.trans (Option.some.inj h)) (by decide)⟩
    ·
     rw[if_neg h3]
     have aai:=NV (p:=⟨1,id,((v.gen:Int)+1).toNat,jC c n⟩) (n:=c.size) (by simpa[dA]using h3)
     have Od:=Hs aai
     have Ak:=Dc (L:=v.at_++a) (c:=c) (p:=(dA c ((v.gen:Int)+1) id n).1) m1
     by_cases h4:bm c B.1 (dA c ((v.gen:Int)+1) id n).1≠0
     ·
      rw[if_pos h4]
      refine⟨pd.trans (Ak.sub fun n hn=>List.mem_append_left _ hn),fun h=>by simp at h,fun h=> ?_,fun h=> ?_⟩
      ·
       have h:=Option.some.inj h
       rw[jf]at h
       split at h
       ·
        cases h
       ·
        exact Dd h
      ·
       have h:=Option.some.inj h
       rw[jf]at h
       split at h
       ·
        cases h
       ·
        rename_i h9;exact h9 h
     ·
      rw[if_neg h4]
      have rf:bm c B.1 (dA c ((v.gen:Int)+1) id n).1=0:=by simpa using h4
      obtain⟨q1,q2,q3,q4⟩:=Di (L:=v.at_++a) m1 rf
      rw[hp]at q1 q2 q3 q4
      have e1:B.1*v.ag.ae+(aj c B.1).used+1 -1=B.1*v.ag.ae+(aj c B.1).used:=by omega
      have CP:Aj (v.at_++a) c (bj c B.1 (dA c ((v.gen:Int)+1) id n).1) (B.1*v.ag.ae+(aj c B.1).used+1) (dA c ((v.gen:Int)+1) id n).1:=
       ⟨by omega,by rw[e1];exact q1,by rw[e1];exact q2,fun m hm _ ui he=>by rw[he,e1,q4]at ui;cases ui⟩
      have bE:=ha.put Ak.toKd (fun n hn=>List.mem_append_right _ hn) CP Od rfl (i:=id) rfl
      have rB:=Oa CP Od
      have eA:=iF.1 (nK rf).1
      have hq:(B.1*v.ag.ae+(aj c B.1).used+1 -1)/v.ag.ae=B.1:=by
       rw[e1,Int.add_comm,Int.add_mul_ediv_right _ _ (by omega),Int.ediv_eq_zero_of_lt eA.2.1 (by rw[←hp];exact eA.2.2.1),Int.zero_add]
      have Na:dY c n=jC c n:=by
       rw[dY]
       split
       ·
        rename_i aaj
        have Nl:=hv.place (List.mem_of_getElem? hn) h0
        have ajt:=(mU.1 Nl).1
        have:(n -1)/v.ag.ae<0:=Int.ediv_neg_of_neg_of_pos aaj (by omega)
        omega
       ·
        rfl
      refine Dk lD pN B9 r (id+1) (Ak.ok hk) hv (pd.trans (Ak.sub fun n hn=>List.mem_append_left _ hn)) bE ?_ (fun h=> ?_) hr (fun j hj=> ?_) (fun j m hj hm lP=> ?_) (by rw[List.length_set,fG])
      ·
       rw[HB,rB,Df ha Ak.toKd fun n hn=>List.mem_append_right _ hn,hb]
       refine tt ?_
       have e3:=congrArg (fun l:List (List UInt8)=>l[id]?) hb
       simp only[List.getElem?_map]at e3
       rw[iV id (Nat.le_refl _),hn]at e3
       rw[List.getElem?_map,hn]
       simp only[Option.map_some]at e3⊢
       rw[←e3,Na]
      ·
       have:=ht h
       rw[(gm c _ _).len,B7 rf]
       exact this
      ·
       rw[List.getElem?_set_ne (by omega)];exact iV j (by omega)
      ·
       rw[List.getElem?_set]at hm
       split at hm
       ·
        split at hm
        ·
         obtain rfl:=Option.some.inj hm
         rw[hq];exact mne
        ·
         cases hm
       ·
        exact dO j m (by omega) hm lP
open Go.ay
def fa(c:CV):Prop:= ∀f∈c.aX,f.mask=0∨f.mask=255
theorem fa.kd{L:List Int}{c d:CV}(h:fa c)(k:Kd L c d):fa d:=by unfold fa;rw[k.fB];exact h
theorem fa.Oe{c:CV}(h:fa c)(hs:(br c).2=true):(br c).1.mask=0∨(br c).1.mask=255:=by
 rw[br]at hs⊢
 cases hf:c.aX.find? fun f=>decide (f.op=c.ops)with
 |none=>rw[hf]at hs;cases hs
 |some x=>exact h x (List.mem_of_find?_eq_some hf)
theorem Of(p:List UInt8):cV 0 p=p:=by
 rw[cV]
 conv=>rhs;rw[←List.map_id p]
 exact List.map_congr_left fun x _=>by simp
theorem Og(p:List UInt8):jB (cV 255 p)=true:=by
 refine zj.2 fun x hx=> ?_
 obtain⟨y,_,rfl⟩:=List.mem_map.1 hx
 apply UInt8.eq_of_toBitVec_eq
 show y.toBitVec|||255#8=255#8
 exact BitVec.or_allOnes
theorem HD{p:List UInt8}(h:jB p=true):(bw p).2≠0:=by
 rw[bw]
 by_cases h1:me p.length=false
 ·
  rw[if_pos (by rw[cO,if_pos h1];decide)];rw[cO,if_pos h1];decide
 ·
  have e:cO p=(jA,0):=by rw[cO,if_neg h1,if_pos h]
  rw[e,if_neg (by decide),if_pos (show(jA,(0:Int)).1.kind=0 from rfl)];decide
theorem aak(n:Int):jB (gE n)=true:=zj.2 fun _ hx=>List.eq_of_mem_replicate hx
theorem rG{c:CV}(hb:fx c=true){k:Nat}(hk:(k:Int)<2*c.ae):((aj c 0).ae++(aj c 1).ae).getD k []=bD c k:=by
 obtain⟨l0,l1⟩:=vT hb
 have hp:2≤c.ae:=(eo.1 hb).2.2.1
 rw[bD]
 by_cases h:(k:Int)<c.ae
 ·
  rw[Int.ediv_eq_zero_of_lt (by omega) h,Int.emod_eq_of_lt (by omega) h,Int.toNat_natCast]
  simp only[List.getD]
  rw[List.getElem?_append_left (by omega)]
 ·
  have e1:(k:Int)/c.ae=1:=by
   have:(k:Int)=(k -c.ae)+1*c.ae:=by omega
   rw[this,Int.add_mul_ediv_right _ _ (by omega),Int.ediv_eq_zero_of_lt (by omega) (by omega)];rfl
  have e2:(k:Int)%c.ae=k -c.ae:=by
   have:(k:Int)=(k -c.ae)+1*c.ae:=by omega
   rw[this,Int.add_mul_emod_self_right,Int.emod_eq_of_lt (by omega) (by omega)];omega
  rw[e1,e2]
  simp only[List.getD]
  rw[List.getElem?_append_right (by omega)]
  congr 2
  omega
theorem HE{c:CV}(hb:fx c=true){i:Int}(h0:0≤i)(h1:i<2*c.ae)(hi:(bw (bD c i)).2=0)(hQ: ∀k,0≤k→k<2*c.ae→(bw (bD c k)).2=0→ ¬((bw (bD c i)).1.gen<(bw (bD c k)).1.gen∨((bw (bD c k)).1.gen=(bw (bD c i)).1.gen∧i<k))):
  bL c=(i,(bw (bD c i)).1,0):=by
 obtain⟨l0,l1⟩:=vT hb
 obtain⟨n,rfl⟩: ∃n:Nat,i=n:=⟨i.toNat,by omega⟩
 have hl:((aj c 0).ae++(aj c 1).ae).length=(aj c 0).ae.length+(aj c 1).ae.length:=List.length_append
 have hn:n<((aj c 0).ae++(aj c 1).ae).length:=by omega
 have:=Ly hn (Ce.2 ⟨by rw[rG hb h1];exact hi,fun k hk hv=>by
  rw[rG hb h1,rG hb (by omega)]
  rw[rG hb (by omega)]at hv
  have:=hQ k (by omega) (by omega) hv
  omega⟩)
 rw[bL,this,rG hb h1]
theorem Oh{c:CV}(hb:fx c=true)(h:(bL c).2.2=0):bw (bD c (bL c).1)=((bL c).2.1,0)∧ ∀k,0≤k→k<2*c.ae→(bw (bD c k)).2=0→ ¬((bL c).2.1.gen<(bw (bD c k)).1.gen∨((bw (bD c k)).1.gen=(bL c).2.1.gen∧(bL c).1<k)):=by
 obtain⟨l0,l1⟩:=vT hb
 have hl:((aj c 0).ae++(aj c 1).ae).length=(aj c 0).ae.length+(aj c 1).ae.length:=List.length_append
 by_cases hex: ∃i,i<((aj c 0).ae++(aj c 1).ae).length∧vt ((aj c 0).ae++(aj c 1).ae) i=true
 ·
  obtain⟨i,hi,Oi⟩:=hex
  have e:=Ly hi Oi
  obtain⟨g1,g2⟩:=Ce.1 Oi
  rw[rG hb (by omega)]at e g1
  rw[bL,e]
  refine⟨by rw[←g1],fun k k0 k1 hv=> ?_⟩
  obtain⟨n,rfl⟩: ∃n:Nat,k=n:=⟨k.toNat,by omega⟩
  have:=g2 n (by omega) (by rw[rG hb k1];exact hv)
  rw[rG hb k1,rG hb (by omega)]at this
  simp only;omega
 ·
  have:=TO (l:=(aj c 0).ae++(aj c 1).ae) fun i hi=>by
   cases hq:vt ((aj c 0).ae++(aj c 1).ae) i with
   |false=>rfl
   |true=>exact absurd ⟨i,hi,hq⟩ hex
  rw[bL,this]at h
  simp only at h
  split at h<;>cases h
structure Wv(g:Nat)(at_:List Int)(last:Int)(a:List Int)(c:CV):Prop where
 bears:fx c=true
 sB: ∃i:Int,0≤i∧i<2*c.ae∧bw (bD c i)=(⟨g,at_⟩,0)∧i/c.ae=last∧i%c.ae<(aj c last).used∧
  ∀k,0≤k→k<2*c.ae→(bw (bD c k)).2=0→(bw (bD c k)).1.gen<g∨((bw (bD c k)).1.gen=g∧k≤i)∨(bw (bD c k)=(⟨g+1,a⟩,0)∧k%c.ae<(aj c (k/c.ae)).used)
theorem dw.wv{x:VV}(h:dw x)(a:List Int):Wv x.gen x.at_ x.last a x.ag:=by
 obtain⟨h1,h2⟩:=Oh h.bears h.roots
 have hr:=N5 h.bears
 refine⟨h.bears,(bL x.ag).1,hr.1,hr.2,?_,h.last,by rw[←h.last];exact h.used,fun k k0 k1 hv=> ?_⟩
 ·
  rw[h1,←h.at_,←h.gen]
 ·
  have:=h2 k k0 k1 hv
  rw[h.gen]at this
  omega
theorem Wv.step{g:Nat}{at_ a:List Int}{last:Int}{c d:CV}(h:Wv g at_ last a c)(hb:fx d=true)(hP:d.ae=c.ae)
  (hl: ∀i,0≤i→i/c.ae=last→i%c.ae<(aj c last).used→bD d i=bD c i∧i%c.ae<(aj d last).used)
  (hk: ∀k,0≤k→k<2*c.ae→(bw (bD d k)).2=0→(bD d k=bD c k∧(k%c.ae<(aj c (k/c.ae)).used→k%c.ae<(aj d (k/c.ae)).used))∨(bw (bD d k)=(⟨g+1,a⟩,0)∧k%c.ae<(aj d (k/c.ae)).used)):Wv g at_ last a d:=by
 obtain⟨i,i0,i1,i2,i3,i4,i5⟩:=h.sB
 obtain⟨e1,e2⟩:=hl i i0 i3 i4
 refine⟨hb,i,i0,by rw[hP];exact i1,by rw[e1];exact i2,by rw[hP];exact i3,by rw[hP];exact e2,fun k k0 k1 hv=> ?_⟩
 rw[hP]at k1⊢
 rcases hk k k0 k1 hv with⟨q1,q2⟩|q
 ·
  rw[q1]at hv⊢
  rcases i5 k k0 k1 hv with r|r|r
  ·
   exact .inl r
  ·
   exact .inr (.inl r)
  ·
   exact .inr (.inr ⟨r.1,q2 r.2⟩)
 ·
  exact .inr (.inr q)
theorem Wv.Oj{g:Nat}{at_ a:List Int}{last:Int}{c:CV}(h:Wv g at_ last a c)(hp:Pl c at_)(jl: ∀k,0≤k→k<2*c.ae→bw (bD c k)≠(⟨g+1,a⟩,0)):dw ⟨c,at_,g,last⟩:=by
 obtain⟨i,i0,i1,i2,i3,i4,i5⟩:=h.sB
 have e:=HE h.bears i0 i1 (by rw[i2]) (fun k k0 k1 hv=>by
  rw[i2]
  rcases i5 k k0 k1 hv with r|r|r
  ·
   simp only;omega
  ·
   simp only;omega
  ·
   exact absurd r.1 (jl k k0 k1))
 rw[i2]at e
 exact⟨h.bears,by show(bL c).2.2=0;rw[e],by show(bL c).1%c.ae<(aj c ((bL c).1/c.ae)).used;rw[e];simp only;rw[i3];exact i4,hp,by show(bL c).2.1.at_=at_;rw[e],by show(bL c).2.1.gen=g;rw[e],by show(bL c).1/c.ae=last;rw[e];exact i3⟩
theorem Ol{P:Int→Prop}{m:Int}: ∀(n:Nat),(∃k,0≤k∧k<m∧P k∧m -k≤n)→ ∃i,0≤i∧i<m∧P i∧ ∀k,k<m→P k→k≤i
 |0,⟨k,_,h1,_,h3⟩=>by omega
 |n+1,⟨k,h0,h1,h2,h3⟩=>by
  by_cases h: ∃j,0≤j∧j<m∧P j∧m -j≤n
  ·
   exact Ol n h
  ·
   refine⟨k,h0,h1,h2,fun j hj hP=> ?_⟩
   apply Classical.byContradiction
   intro bx
   exact h ⟨j,by omega,hj,hP,by omega⟩
theorem Wv.Om{g:Nat}{at_ a:List Int}{last:Int}{c:CV}(h:Wv g at_ last a c)(hp:Pl c a){k0:Int}(q0:0≤k0)(q1:k0<2*c.ae)(q2:bw (bD c k0)=(⟨g+1,a⟩,0)):
  ∃i,dw ⟨c,a,g+1,i/c.ae⟩∧0≤i∧i<2*c.ae∧bw (bD c i)=(⟨g+1,a⟩,0)∧ ∀k,k<2*c.ae→bw (bD c k)=(⟨g+1,a⟩,0)→k≤i:=by
 obtain⟨i,i0,i1,i2,i3⟩:=Ol (P:=fun k=>bw (bD c k)=(⟨g+1,a⟩,0)) (m:=2*c.ae) (2*c.ae -k0).toNat ⟨k0,q0,q1,q2,by omega⟩
 obtain⟨j,j0,j1,j2,j3,j4,j5⟩:=h.sB
 have e:=HE h.bears i0 i1 (by rw[i2]) (fun k k0 k1 hv=>by
  rw[i2]
  rcases j5 k k0 k1 hv with r|r|r
  ·
   simp only;omega
  ·
   simp only;omega
  ·
   have:=i3 k k1 r.1
   rw[r.1];simp only;omega)
 rw[i2]at e
 have hu:i%c.ae<(aj c (i/c.ae)).used:=by
  rcases j5 i i0 i1 (by rw[i2])with r|r|r
  ·
   rw[i2]at r;simp only at r;omega
  ·
   rw[i2]at r;simp only at r;omega
  ·
   exact r.2
 exact⟨i,⟨h.bears,by show(bL c).2.2=0;rw[e],by show(bL c).1%c.ae<(aj c ((bL c).1/c.ae)).used;rw[e];exact hu,hp,by show(bL c).2.1.at_=a;rw[e],by show(bL c).2.1.gen=g+1;rw[e],by show(bL c).1/c.ae=_;rw[e]⟩,i0,i1,i2,i3⟩
theorem Wv.some{g:Nat}{at_ a:List Int}{last:Int}{c:CV}(h:Wv g at_ last a c)(h1:Pl c at_)(h2:Pl c a): ∃u,dw u∧u.ag=c∧(u=⟨c,at_,g,last⟩∨(u.at_=a∧u.gen=g+1)):=by
 by_cases hex: ∃k,0≤k∧k<2*c.ae∧bw (bD c k)=(⟨g+1,a⟩,0)
 ·
  obtain⟨k,k0,k1,k2⟩:=hex
  obtain⟨i,hi,_⟩:=h.Om h2 k0 k1 k2
  exact⟨_,hi,rfl, .inr ⟨rfl,rfl⟩⟩
 ·
  exact⟨_,h.Oj h1 fun k k0 k1 e=>hex ⟨k,k0,k1,e⟩,rfl, .inl rfl⟩
theorem sL{c:CV}{b e k:Int}:(aj (gk c b e) k).ae=(aj c k).ae∧(aj (gk c b e) k).used=(aj c k).used:=by
 rw[gk];split
 ·
  exact NX
 ·
  exact⟨rfl,rfl⟩
theorem Dl{c:CV}{b e k:Int}:bD (gk c b e) k=bD c k:=by
 rw[bD,bD,(BY c b e).ae,sL.1]
theorem On{c:CV}{b k:Int}(bE:fa c)(hk:0≤k)(hp:1≤c.ae)(rD:k/c.ae=b)(hv:(bw (bD (dh c b) k)).2=0):bD (dh c b) k=bD c k∧(k%c.ae<(aj c b).used→k%c.ae<(aj (dh c b) b).used):=by
 rw[dh,Dl]at hv⊢
 rw[sL.2]
 by_cases h:mc c b=true∧c.off=false∧(aj c b).bad=false
 ·
  have hh:=(nE.1 h.1).1
  have e:eN c b=gF c b:=if_pos h
  have eb:aj (gF c b) b={aj c b with used:=if(br c).2=true then c.ae else 0,aS:=(aj c b).aS+1,ae:=qe c (aj c b).ae}:=oB hh
  have lP:0≤k%c.ae:=Int.emod_nonneg _ (by omega)
  have na:k%c.ae<c.ae:=Int.emod_lt_of_pos _ (by omega)
  have zK:=(eX.1 (ox hh)).1
  have Al:bD (gF c b) k=(qe c (aj c b).ae).getD (k%c.ae).toNat []:=by
   show(aj (gF c b) (k/c.ae)).ae.getD _ []=_
   rw[rD,eb];rfl
  obtain⟨x,hx⟩: ∃x,(aj c b).ae[(k%c.ae).toNat]? =some x:=⟨_,List.getElem?_eq_getElem (by omega)⟩
  have ec:bD c k=x:=by rw[bD,rD];simp[List.getD,hx]
  rw[e]at hv⊢
  rw[Al,qe]at hv⊢
  by_cases hs:(br c).2=true
  ·
   rw[if_pos hs]at hv⊢
   have eg:((aj c b).ae.map (cV (br c).1.mask)).getD (k%c.ae).toNat []=cV (br c).1.mask x:=by simp[List.getD,hx]
   rw[eg]at hv⊢
   rcases bE.Oe hs with m|m
   ·
    rw[m,Of,ec,eb]
    exact⟨rfl,fun _=>by simp only;rw[if_pos hs];exact na⟩
   ·
    rw[m]at hv;exact absurd hv (HD (Og x))
  ·
   rw[if_neg hs]at hv
   have eg:((aj c b).ae.map fun _=>gE c.size).getD (k%c.ae).toNat []=gE c.size:=by simp[List.getD,hx]
   rw[eg]at hv
   exact absurd hv (HD (aak _))
 ·
  rw[eN,if_neg h];exact⟨rfl,id⟩
theorem Wv.erase{g:Nat}{at_ a:List Int}{last:Int}{c:CV}(h:Wv g at_ last a c)(bE:fa c){b:Int}(hb:b≠last)(mw:0≤b)(qf:0≤last):Wv g at_ last a (dh c b):=by
 have hP:=(vg c b).ae
 have hp:2≤c.ae:=(eo.1 h.bears).2.2.1
 have kF:fx (dh c b)=true:=by
  obtain⟨h1,h2,h3,h4⟩:=eo.1 h.bears
  exact eo.2 ⟨BZ h1 b,by rw[(vg c b).len];exact h2,by rw[hP];exact h3,by rw[(vg c b).size];exact h4⟩
 have Am: ∀k,0≤k→k≠b→(aj (dh c b) k).ae=(aj c k).ae∧(aj (dh c b) k).used=(aj c k).used:=fun k k0 hk=>by
  rw[dh,sL.1,sL.2,xY (by omega)];exact⟨rfl,rfl⟩
 refine h.step kF hP (fun i i0 i1 i2=> ?_) fun k k0 k1 hv=> .inl ?_
 ·
  obtain⟨e1,e2⟩:=Am last qf (fun e=>hb e.symm)
  exact⟨by rw[bD,bD,hP,i1,e1],by rw[e2];exact i2⟩
 ·
  by_cases e:k/c.ae=b
  ·
   have:=On bE k0 (by omega) e hv
   rw[e];exact this
  ·
   obtain⟨e1,e2⟩:=Am (k/c.ae) (Int.ediv_nonneg k0 (by omega)) e
   exact⟨by rw[bD,bD,hP,e1],by rw[e2];exact id⟩
theorem HF{c:CV}{b k:Int}{p:List UInt8}(bE:fa c)(hk:0≤k)(hp:1≤c.ae)(rD:k/c.ae=b)(hv:(bw (bD (bj c b p) k)).2=0):
  (bD (bj c b p) k=bD c k∧(k%c.ae<(aj c b).used→k%c.ae<(aj (bj c b p) b).used))∨(bD (bj c b p) k=p∧k%c.ae<(aj (bj c b p) b).used):=by
 rw[bj,Dl]at hv⊢
 rw[sL.2]
 by_cases h:lL c b (aj c b).used p=true∧c.off=false∧(aj c b).bad=false∧(aj c b).used=(aj c b).used
 ·
  obtain⟨hh,u0,u1,_,_⟩:=iF.1 h.1
  have e:dt c b (aj c b).used p=eM c b (aj c b).used p:=if_pos h
  have eb:aj (eM c b (aj c b).used p) b={aj c b with used:=(aj c b).used+1,ae:=(aj c b).ae.set (aj c b).used.toNat (l8 c p)}:=oB hh
  have lP:0≤k%c.ae:=Int.emod_nonneg _ (by omega)
  have na:k%c.ae<c.ae:=Int.emod_lt_of_pos _ (by omega)
  have zK:=(eX.1 (ox hh)).1
  have Al:bD (eM c b (aj c b).used p) k=((aj c b).ae.set (aj c b).used.toNat (l8 c p)).getD (k%c.ae).toNat []:=by
   show(aj (eM c b (aj c b).used p) (k/c.ae)).ae.getD _ []=_
   rw[rD,eb];rfl
  rw[e]at hv⊢
  rw[Al]at hv⊢
  by_cases hj:k%c.ae=(aj c b).used
  ·
   have eg:((aj c b).ae.set (aj c b).used.toNat (l8 c p)).getD (k%c.ae).toNat []=l8 c p:=by
    rw[hj];simp only[List.getD];rw[List.getElem?_set_self (by omega)];rfl
   rw[eg]at hv⊢
   right
   refine⟨?_,by rw[eb];simp only;omega⟩
   rw[l8]at hv⊢
   split
   ·
    rename_i hs
    rw[if_pos hs]at hv
    rcases bE.Oe hs with m|m
    ·
     rw[m]at hv;exact absurd hv (HD (Og p))
    ·
     rw[m];exact Of p
   ·
    rfl
  ·
   left
   refine⟨?_,fun bx=>by rw[eb];simp only;omega⟩
   simp only[List.getD]
   rw[List.getElem?_set_ne (by omega),bD,rD];rfl
 ·
  left;rw[dt,if_neg h];exact⟨rfl,id⟩
theorem aal{c:CV}{b k:Int}{p:List UInt8}(hp:1≤c.ae)(rD:k/c.ae=b)(hu:k%c.ae<(aj c b).used):bD (bj c b p) k=bD c k∧k%c.ae<(aj (bj c b p) b).used:=by
 rw[bj,Dl,sL.2]
 by_cases h:lL c b (aj c b).used p=true∧c.off=false∧(aj c b).bad=false∧(aj c b).used=(aj c b).used
 ·
  obtain⟨hh,u0,u1,_,_⟩:=iF.1 h.1
  have e:dt c b (aj c b).used p=eM c b (aj c b).used p:=if_pos h
  have eb:aj (eM c b (aj c b).used p) b={aj c b with used:=(aj c b).used+1,ae:=(aj c b).ae.set (aj c b).used.toNat (l8 c p)}:=oB hh
  have lP:0≤k%c.ae:=Int.emod_nonneg _ (by omega)
  have Al:bD (eM c b (aj c b).used p) k=((aj c b).ae.set (aj c b).used.toNat (l8 c p)).getD (k%c.ae).toNat []:=by
   show(aj (eM c b (aj c b).used p) (k/c.ae)).ae.getD _ []=_
   rw[rD,eb];rfl
  rw[e,Al,eb]
  refine⟨?_,by simp only;omega⟩
  simp only[List.getD]
  rw[List.getElem?_set_ne (by omega),bD,rD];rfl
 ·
  rw[dt,if_neg h];exact⟨rfl,hu⟩
theorem Wv.prog{g:Nat}{at_ a:List Int}{last:Int}{c:CV}{p:List UInt8}(h:Wv g at_ last a c)(bE:fa c){b:Int}(mw:0≤b)(qf:0≤last)(hr:bw p=(⟨g+1,a⟩,0)):Wv g at_ last a (bj c b p):=by
 have hP:=(gm c b p).ae
 have hp:2≤c.ae:=(eo.1 h.bears).2.2.1
 have kF:fx (bj c b p)=true:=by
  obtain⟨h1,h2,h3,h4⟩:=eo.1 h.bears
  exact eo.2 ⟨iI h1 b p,by rw[(gm c b p).len];exact h2,by rw[hP];exact h3,by rw[(gm c b p).size];exact h4⟩
 have Am: ∀k,0≤k→k≠b→(aj (bj c b p) k).ae=(aj c k).ae∧(aj (bj c b p) k).used=(aj c k).used:=fun k k0 hk=>by
  rw[bj,sL.1,sL.2,uh (by omega)];exact⟨rfl,rfl⟩
 refine h.step kF hP (fun i i0 i1 i2=> ?_) fun k k0 k1 hv=> ?_
 ·
  by_cases e:last=b
  ·
   have:=aal (p:=p) (show 1≤c.ae by omega) (i1.trans e) (by rw[←e];exact i2)
   rw[e];exact this
  ·
   obtain⟨e1,e2⟩:=Am last qf e
   exact⟨by rw[bD,bD,hP,i1,e1],by rw[e2];exact i2⟩
 ·
  by_cases e:k/c.ae=b
  ·
   rcases HF bE k0 (by omega) e hv with q|q
   ·
    left;rw[e];exact q
   ·
    right;rw[q.1,e];exact⟨hr,q.2⟩
  ·
   obtain⟨e1,e2⟩:=Am (k/c.ae) (Int.ediv_nonneg k0 (by omega)) e
   exact .inl ⟨by rw[bD,bD,hP,e1],by rw[e2];exact id⟩
open Go.ay
def An(c:CV):Prop:=cN≤c.ops∨ ∃b,cN≤(aj c b).aS
def qF(g:Nat)(a:List Int)(c:CV):Prop:= ∀k,0≤k→k<2*c.ae→bw (bD c k)≠(⟨g+1,a⟩,0)
theorem aam{c:CV}(h:c.aX=[]):(br c).2=false:=by rw[br,h];rfl
theorem Oo{c:CV}{b:Int}{p:List UInt8}(h:c.aX=[])(he:bm c b p≠0):dt c b (aj c b).used p=c:=by
 rw[dt,if_neg]
 rintro⟨h1,h2,h3,h4⟩
 apply he
 rw[bm,jz,if_pos h1,if_neg (by rw[h2];simp),if_neg (by rw[h3];simp),if_neg (by rw[aam h];simp)]
theorem qF.erase{g:Nat}{a:List Int}{c:CV}(h:qF g a c)(hb:fx c=true)(bE:fa c){b:Int}(mw:0≤b):qF g a (dh c b):=by
 have hP:=(vg c b).ae
 have hp:2≤c.ae:=(eo.1 hb).2.2.1
 intro k k0 k1 he
 rw[hP]at k1
 by_cases e:k/c.ae=b
 ·
  have:=(On bE k0 (by omega) e (by rw[he])).1
  rw[this]at he;exact h k k0 k1 he
 ·
  have:bD (dh c b) k=bD c k:=by
   have hk:=Int.ediv_nonneg k0 (show 0≤c.ae by omega)
   rw[bD,bD,hP,dh,sL.1,xY (by omega)]
  rw[this]at he;exact h k k0 k1 he
theorem aan{c:CV}{b:Int}(q:dS c b=1):mc c b=false:=by
 cases ho:mc c b with
 |false=>rfl
 |true=>
  exfalso
  rw[dS,if_pos ho]at q
  by_cases h1:c.off=true
  ·
   rw[if_pos h1]at q;cases q
  ·
   rw[if_neg h1]at q
   by_cases h2:(aj c b).bad=true
   ·
    rw[if_pos h2]at q;cases q
   ·
    rw[if_neg h2]at q
    by_cases h3:(br c).2=true
    ·
     rw[if_pos h3,kb]at q;split at q<;>cases q
    ·
     rw[if_neg h3]at q;cases q
theorem aao{g:Nat}{at_ a:List Int}{last:Int}{c:CV}(h:Wv g at_ last a c)(bE:fa c)(hl:last=0∨last=1):
  (∀L,Kd L c (aV c last).1)∧Wv g at_ last a (aV c last).1∧(qF g a c→qF g a (aV c last).1)∧((aV c last).2.2=7→(aV c last).1.off=true)∧
   ((aV c last).2.2=0→((aV c last).2.1=0∨(aV c last).2.1=1)∧0<dV (aV c last).1 (aV c last).2.1)∧((aV c last).2.2≠0→(aV c last).2.2=7∨(aV c last).2.2=9∨((aV c last).2.2=1∧An (aV c last).1)):=by
 have hk:=(eo.1 h.bears).1
 have h4:=(eo.1 h.bears).2.1
 have z7: ∀{P:Prop},(0:Int)=7→P:=fun h=>absurd h (by decide)
 rw[aV]
 by_cases h1:0<dV c last
 ·
  rw[if_pos h1];exact⟨fun L=> .bY _ _,h,id,fun h=>z7 h,fun _=>⟨hl,h1⟩,fun h=>absurd rfl h⟩
 ·
  rw[if_neg h1]
  by_cases h2:0<dV c (1 -last)
  ·
   rw[if_pos h2];exact⟨fun L=> .bY _ _,h,id,fun h=>z7 h,fun _=>⟨by simp only;omega,h2⟩,fun h=>absurd rfl h⟩
  ·
   rw[if_neg h2]
   by_cases h3:(aj c (1 -last)).bad=true
   ·
    rw[if_pos h3];exact⟨fun L=> .bY _ _,h,id,fun h=>absurd (show(9:Int)=7 from h) (by decide),fun h=>absurd (show(9:Int)=0 from h) (by decide),fun _=> .inr (.inl rfl)⟩
   ·
    rw[if_neg h3]
    refine⟨fun L=>ZZ (by omega),h.erase bE (by omega) (by omega) (by omega),fun g=>g.erase h.bears bE (by omega),N2,fun he=>⟨by simp only;omega,?_⟩,fun he=> ?_⟩
    ·
     obtain⟨e1,e2,e3,e4,e5⟩:=FF he
     have hh:=(nE.1 e1).1
     have hd:=eH hk
     show 0<dV (dh c (1 -last)) (1 -last)
     rw[e5,dV,gF,oB hh,e4,e3]
     simp only[Bool.false_eq_true,if_false];omega
    ·
     simp only at he
     rcases FQ c (1 -last)with q|q|q|q
     ·
      exact absurd q he
     ·
      refine .inr (.inr ⟨q,?_⟩)
      simp only
      have jl:=aan q
      have aap:dh c (1 -last)=c:=by rw[dh,q,gk,if_neg (by decide),eN,if_neg (by rw[jl];simp)]
      rw[aap]
      have hh:fu c (1 -last)=true:=fv.2 ⟨hk,by omega,by omega⟩
      by_cases ho:c.ops<cN
      ·
       right
       refine⟨1 -last,?_⟩
       apply Classical.byContradiction
       intro hw
       rw[nE.2 ⟨hh,ho,by omega⟩]at jl;cases jl
      ·
       exact .inl (by omega)
     ·
      exact .inl q
     ·
      exact .inr (.inl q)
theorem Oq{c:CV}{b:Int}{p:List UInt8}(hh:fu c b=true)(hf:0<dV c b)(hl:(p.length:Int)=c.size)(h:bm c b p=1):cN≤c.ops∧dt c b (aj c b).used p=c:=by
 have jl:lL c b (aj c b).used p=false:=by
  cases ho:lL c b (aj c b).used p with
  |false=>rfl
  |true=>
   rw[bm,jz,if_pos ho]at h
   split at h
   ·
    cases h
   ·
    split at h
    ·
     cases h
    ·
     split at h
     ·
      rw[kb]at h;split at h<;>cases h
     ·
      cases h
 have hu:=(eX.1 (ox hh)).2.1
 have hb:=B6 hf
 rw[dV,if_neg (by rw[hb];simp)]at hf
 refine⟨?_,by rw[dt,if_neg (by rw[jl];simp)]⟩
 apply Classical.byContradiction
 intro hw
 rw[iF.2 ⟨hh,hu,by omega,hl,by omega⟩]at jl;cases jl
theorem qF.prog{g:Nat}{a:List Int}{c:CV}{b:Int}{p:List UInt8}(h:qF g a c)(hf:c.aX=[])(he:bm c b p≠0):qF g a (bj c b p):=by
 intro k k0 k1 e
 rw[bj,Dl,Oo hf he]at e
 rw[bj,(BY _ _ _).ae,Oo hf he]at k1
 exact h k k0 k1 e
theorem HG{p:List UInt8}: ∀(l:List (List UInt8)) (m:Nat),m≤l.foldl (fun m p=>max m (iJ p)) m∧(p∈l→iJ p≤l.foldl (fun m p=>max m (iJ p)) m)
 |[],m=>⟨Nat.le_refl _,fun h=>by cases h⟩
 |q::r,m=>by
  obtain⟨h1,h2⟩:=HG (p:=p) r (max m (iJ q))
  refine⟨by rw[List.foldl_cons];omega,fun h=> ?_⟩
  rw[List.foldl_cons]
  rcases List.mem_cons.1 h with rfl|h
  ·
   omega
  ·
   exact h2 h
theorem Dm{M:Nat}: ∀(l:List (List UInt8)) (m:Nat),m≤M→(∀p∈l,iJ p≤M)→l.foldl (fun m p=>max m (iJ p)) m≤M
 |[],m,h,_=>h
 |q::r,m,h,hp=>by
  rw[List.foldl_cons]
  exact Dm r _ (by have:=hp q List.mem_cons_self;omega) fun p gW=>hp p (List.mem_cons_of_mem _ gW)
theorem Wv.last{g:Nat}{at_ a:List Int}{last:Int}{c:CV}(h:Wv g at_ last a c)(hp:Pl c a){b:Int}(hb:b=0∨b=1){k0:Int}(q0:0≤k0)(q1:k0/c.ae=b)(q2:bw (bD c k0)=(⟨g+1,a⟩,0)):
  dw ⟨c,a,g+1,if gn c 1=g+1 then 1 else b⟩:=by
 have kg:2≤c.ae:=(eo.1 h.bears).2.2.1
 obtain⟨l0,l1⟩:=vT h.bears
 have bx: ∀k:Int,k/c.ae<2→k<2*c.ae:=fun k hk=>by
  apply Classical.byContradiction
  intro hn
  have:2≤k/c.ae:=by
   have:=Int.ediv_le_ediv (show 0<c.ae by omega) (show 2*c.ae≤k by omega)
   rwa [Int.mul_ediv_cancel _ (by omega)]at this
  omega
 obtain⟨i,hR,i0,i1,i2,i3⟩:=h.Om hp q0 (bx k0 (by omega)) q2
 have GQ:i/c.ae=0∨i/c.ae=1:=by
  have h1:=Int.ediv_nonneg i0 (show 0≤c.ae by omega)
  have h2:i/c.ae<2:=Int.ediv_lt_of_lt_mul (by omega) i1
  omega
 have hle: ∀k,0≤k→k<2*c.ae→iJ (bD c k)≤g+1:=fun k k0 k1=>by
  rw[iJ]
  split
  ·
   rename_i hv
   obtain⟨j,_,_,_,_,_,j5⟩:=h.sB
   rcases j5 k k0 k1 hv with r|r|r
   ·
    omega
   ·
    omega
   ·
    rw[r.1];exact Nat.le_refl _
  ·
   omega
 have Ot: ∀p∈(aj c 1).ae,∃k,c.ae≤k∧k<2*c.ae∧bD c k=p:=fun p ui=>by
  obtain⟨j,hj⟩:=List.getElem?_of_mem ui
  have iZ:=(List.getElem?_eq_some_iff.1 hj).1
  refine⟨c.ae+j,by omega,by omega,?_⟩
  have:=rG h.bears (k:=(aj c 0).ae.length+j) (by omega)
  rw[show(((aj c 0).ae.length+j:Nat):Int)=c.ae+j by omega]at this
  rw[←this]
  simp only[List.getD]
  rw[List.getElem?_append_right (by omega),Nat.add_sub_cancel_left,hj];rfl
 have aaq:i/c.ae=(if gn c 1=g+1 then 1 else b):=by
  rcases GQ with e|e
  ·
   have fC:i<c.ae:=by
    apply Classical.byContradiction
    intro hn
    have:=Int.ediv_le_ediv (show 0<c.ae by omega) (show c.ae≤i by omega)
    rw[Int.ediv_self (by omega)]at this;omega
   have hg:gn c 1≤g:=by
    refine Dm _ 0 (Nat.zero_le _) fun p ui=> ?_
    obtain⟨k,rv,n8,rfl⟩:=Ot p ui
    rw[iJ]
    split
    ·
     rename_i hv
     obtain⟨j,_,_,_,_,_,j5⟩:=h.sB
     rcases j5 k (by omega) n8 hv with r|r|r
     ·
      omega
     ·
      omega
     ·
      have:=i3 k n8 r.1;omega
    ·
     omega
   rw[if_neg (by omega),e]
   have aju:=i3 k0 (bx k0 (by omega)) q2
   have:k0/c.ae=0:=Int.ediv_eq_zero_of_lt q0 (by omega)
   omega
  ·
   have fC:c.ae≤i:=by
    apply Classical.byContradiction
    intro hn
    have:i/c.ae=0:=Int.ediv_eq_zero_of_lt i0 (by omega)
    omega
   have hg:gn c 1=g+1:=by
    have h1:gn c 1≤g+1:=Dm _ 0 (Nat.zero_le _) fun p ui=>by
     obtain⟨k,rv,n8,rfl⟩:=Ot p ui
     exact hle k (by omega) n8
    have h2:bD c i∈(aj c 1).ae:=by
     rw[bD,e]
     have lP:0≤i%c.ae:=Int.emod_nonneg _ (by omega)
     have na:i%c.ae<c.ae:=Int.emod_lt_of_pos _ (by omega)
     have hj:(i%c.ae).toNat<(aj c 1).ae.length:=by omega
     simp only[List.getD]
     rw[List.getElem?_eq_getElem hj];exact List.getElem_mem hj
    have h3:=(HG (p:=bD c i) (aj c 1).ae 0).2 h2
    have h4:iJ (bD c i)=g+1:=by rw[iJ,if_pos (by rw[i2]),i2]
    have h5:gn c 1=(aj c 1).ae.foldl (fun m p=>max m (iJ p)) 0:=rfl
    omega
   rw[if_pos hg,e]
 rw[←aaq];exact hR
theorem Ou: ∀(n:Nat) {x:WV} {a:List Int} {b:List UInt8},cf x→Wv x.v.gen x.v.at_ x.v.last a x.v.ag→Pl x.v.ag a→fa x.v.ag→bw b=(⟨x.v.gen+1,a⟩,0)→(b.length:Int)=x.v.ag.size→(cN -x.v.ag.ops).toNat<n→
  (∀L,Kd L x.v.ag (fh n x a b).1.v.ag)∧((fh n x a b).2=0→dw (fh n x a b).1.v∧(fh n x a b).1.v.at_=a)∧
  ((fh n x a b).2≠0→(fh n x a b).1=x.on (fh n x a b).1.v.ag∧Wv x.v.gen x.v.at_ x.v.last a (fh n x a b).1.v.ag∧(x.v.ag.aX=[]→qF x.v.gen a x.v.ag→qF x.v.gen a (fh n x a b).1.v.ag)∧
   ((fh n x a b).2=7∨(fh n x a b).2=9∨((fh n x a b).2=1∧An (fh n x a b).1.v.ag)))∧((fh n x a b).2=7→(fh n x a b).1.v.ag.off=true)
 |0,x,a,b,_,_,_,_,_,_,hn=>by omega
 |n+1,x,a,b,hx,hw,ha,bE,hr,dF,hn=>by
  have hl:=hx.last
  obtain⟨k1,k2,k3,k4,k5,k6⟩:=aao hw bE hl
  obtain⟨o1,o2,o3,o4⟩:=xd (last:=x.v.last) hx.ag hl
  have qf:0≤x.v.last:=by omega
  rw[fh]
  by_cases h0:(aV x.v.ag x.v.last).2.2≠0
  ·
   rw[if_pos h0]
   exact⟨k1,fun h=>absurd h h0,fun _=>⟨rfl,k2,fun _ g=>k3 g,k6 h0⟩,k4⟩
  ·
   rw[if_neg h0]
   obtain⟨g1,g2⟩:=k5 (by simpa using h0)
   have aar:fa (aV x.v.ag x.v.last).1:=bE.kd (k1 [])
   have hh:fu (aV x.v.ag x.v.last).1 (aV x.v.ag x.v.last).2.1=true:=by
    have:=(eo.1 k2.bears).2.1
    exact fv.2 ⟨o1,by omega,by omega⟩
   have mw:0≤(aV x.v.ag x.v.last).2.1:=by omega
   have eR:=k2.prog aar mw qf hr
   have sM: ∀L,Kd L x.v.ag (bj (aV x.v.ag x.v.last).1 (aV x.v.ag x.v.last).2.1 b):=fun L=>(k1 L).trans pL
   by_cases h1:bm (aV x.v.ag x.v.last).1 (aV x.v.ag x.v.last).2.1 b=0
   ·
    rw[if_pos h1]
    refine⟨sM,fun _=>⟨?_,rfl⟩,fun h=>absurd rfl h,fun h=>absurd (show(0:Int)=7 from h) (by decide)⟩
    have hz:=nK h1
    obtain⟨j1,j2,j3,j4,j5⟩:=iF.1 hz.1
    have hP:=(gm (aV x.v.ag x.v.last).1 (aV x.v.ag x.v.last).2.1 b).ae
    generalize(aV x.v.ag x.v.last).1=c at*
    generalize(aV x.v.ag x.v.last).2.1=B at*
    have hd:(B*c.ae+(aj c B).used)/c.ae=B:=by
     rw[Int.add_comm,Int.add_mul_ediv_right _ _ (by omega),Int.ediv_eq_zero_of_lt j2 j3,Int.zero_add]
    have hm:(B*c.ae+(aj c B).used)%c.ae=(aj c B).used:=by
     rw[Int.add_comm,Int.add_mul_emod_self_right,Int.emod_eq_of_lt j2 j3]
    have zK:=(eX.1 (ox j1)).1
    have ng:bD (bj c B b) (B*c.ae+(aj c B).used)=b:=by
     rw[hz.2.2.2.2]
     show(aj _ ((B*c.ae+(aj c B).used)/c.ae)).ae.getD ((B*c.ae+(aj c B).used)%c.ae).toNat []=b
     rw[hd,hm,eM,oB j1]
     simp only[List.getD]
     rw[List.getElem?_set_self (by omega),l8,hz.2.2.2.1];rfl
    have:0≤B*c.ae:=Int.mul_nonneg mw (by omega)
    exact eR.last (k0:=B*c.ae+(aj c B).used) (ha.kd (sM a) fun _ g=>g) g1 (by omega) (by rw[hP,hd]) (by rw[ng];exact hr)
   ·
    rw[if_neg h1]
    by_cases h9:bm (aV x.v.ag x.v.last).1 (aV x.v.ag x.v.last).2.1 b≠9
    ·
     rw[if_pos h9]
     refine⟨sM,fun h=>absurd h h1,fun _=>⟨rfl,eR,fun hf jl=>(k3 jl).prog (by rw[(k1 []).fB];exact hf) h1,?_⟩,Dd⟩
     rcases vq (aV x.v.ag x.v.last).1 (aV x.v.ag x.v.last).2.1 (aj (aV x.v.ag x.v.last).1 (aV x.v.ag x.v.last).2.1).used b with q|q|q|q
     ·
      exact absurd q h1
     ·
      obtain⟨t1,t2⟩:=Oq hh g2 (by rw[dF,o2.size]) q
      refine .inr (.inr ⟨q, .inl ?_⟩)
      simp only[WV.on]
      rw[bj,sd,t2];exact t1
     ·
      exact .inl q
     ·
      exact absurd q h9
    ·
     rw[if_neg h9]
     have e9:bm (aV x.v.ag x.v.last).1 (aV x.v.ag x.v.last).2.1 b=9:=by simpa using h9
     have ho:=q9 (B6 g2) (p:=b) (.inl e9)
     have bR:=iI o1 (aV x.v.ag x.v.last).2.1 b
     have di:=o2.trans (gm (aV x.v.ag x.v.last).1 (aV x.v.ag x.v.last).2.1 b)
     have hle:=qm bR
     have dW:=hx.on bR di
     obtain⟨t1,t2,t3,t4⟩:=Ou n (x:=x.on (bj (aV x.v.ag x.v.last).1 (aV x.v.ag x.v.last).2.1 b)) (a:=a) (b:=b) dW eR (ha.kd (sM a) fun _ g=>g) (bE.kd (sM [])) hr (by rw[dF];exact di.size.symm) (by simp only[WV.on];omega)
     refine⟨fun L=>(sM L).trans (t1 L),t2,fun h=> ?_,t4⟩
     obtain⟨s1,s2,s3,s4⟩:=t3 h
     refine⟨by rw[s1,Ll];rfl,s2,fun hf jl=>s3 (by rw[←hf];exact(sM []).fB) ((k3 jl).prog (by rw[(k1 []).fB];exact hf) h1),s4⟩
structure Sf(x:WV)(bs:List (List UInt8))(y:WV)(e:Int):Prop where
 kd:Kd [] x.v.ag y.v.ag
 len:y.v.at_.length=x.v.at_.length
 aZ:e=0→dw y.v∧cl y.v=bs
 err:e≠0→(e=7∨e=9∨(e=1∧An y.v.ag))∨(dw y.v∧cl y.v=cl x.v)
 ya:e≠0→x.v.ag.aX=[]→dw y.v∧cl y.v=cl x.v
 any: ∃u:VV,dw u∧u.ag=y.v.ag∧u.at_.length=x.v.at_.length∧(cl u=cl x.v∨cl u=bs)
 off:e=7→y.v.ag.off=true
theorem Ov{v:VV}{c:CV}(hp:Pl v.ag v.at_)(k:Kd v.at_ v.ag c):cl {v with ag:=c}=cl v:=Df hp k fun _ h=>h
theorem Sf.data{x:WV}(h:dw x.v){c:CV}(k:Kp x.v.at_ x.v.ag c){e:Int}{bs:List (List UInt8)}(Hb:e=0→bs=cl x.v)(ho:e=7→c.off=true):Sf x bs (x.on c) e:=by
 have h2:dw (x.on c).v∧cl (x.on c).v=cl x.v:=⟨h.kp k,Ov h.pl k.toKd⟩
 exact⟨k.toKd.sub fun _ h=>absurd h List.not_mem_nil,rfl,fun g=>⟨h2.1,by rw[Hb g];exact h2.2⟩,fun _=> .inr h2,fun _ _=>h2,⟨_,h2.1,rfl,rfl, .inl h2.2⟩,ho⟩
theorem Sf.trans{x y z:WV}{bs:List (List UInt8)}{e:Int}(h:Sf x (cl x.v) y 0)(g:Sf y bs z e):Sf x bs z e:=by
 have hb:=(h.aZ rfl).2
 refine⟨h.kd.trans g.kd,g.len.trans h.len,g.aZ,fun he=> ?_,fun he hf=> ?_,?_,g.off⟩
 ·
  rw[←hb];exact g.err he
 ·
  rw[←hb];exact g.ya he (by rw[h.kd.fB];exact hf)
 ·
  rw[←hb,←h.len];exact g.any
theorem HH{x:WV}{a:List Int}(hx:cf x)(h:dw x.v)(bE:fa x.v.ag)(ha:Pl x.v.ag a)(fG:a.length=x.v.at_.length):Sf x (a.map (dY x.v.ag)) (et x a).1 (et x a).2∧((et x a).2=0→(et x a).1.v.at_=a):=by
 rw[et]
 by_cases h0:(cj ⟨x.v.gen+1,a⟩ x.v.ag.size).2≠0
 ·
  rw[if_pos h0]
  refine⟨?_,fun g=>absurd g h0⟩
  have:=Sf.data (x:=x) h (.bY _ _) (e:=(cj ⟨x.v.gen+1,a⟩ x.v.ag.size).2) (bs:=a.map (dY x.v.ag)) (fun g=>absurd g h0) (fun g=>by
   rw[cj]at g
   split at g
   ·
    rcases xf ⟨2,max 0 ((a.length:Int) -1),x.v.gen+1,gw a⟩ x.v.ag.size with q|q
    ·
     rw[q]at g;cases g
    ·
     rw[q]at g;cases g
   ·
    cases g)
  rw[FJ]at this;exact this
 ·
  rw[if_neg h0]
  have hm:=NU (by simpa using h0)
  obtain⟨t1,t2,t3,t4⟩:=Ou ((cN -x.v.ag.ops).toNat+1) (b:=(cj ⟨x.v.gen+1,a⟩ x.v.ag.size).1) hx (h.wv a) ha bE (Hv hm) (NT hm) (by omega)
  generalize fh ((cN -x.v.ag.ops).toNat+1) x a (cj ⟨x.v.gen+1,a⟩ x.v.ag.size).1=W at*
  have rB:cl ⟨W.1.v.ag,a,x.v.gen+1,0⟩=a.map (dY x.v.ag):=Df ha (t1 a) fun _ g=>g
  have vU:cl ⟨W.1.v.ag,x.v.at_,x.v.gen,x.v.last⟩=cl x.v:=Ov h.pl (t1 x.v.at_)
  have eA:=h.pl.kd (t1 x.v.at_) fun _ g=>g
  have mn:=ha.kd (t1 a) fun _ g=>g
  have aas:qF x.v.gen a x.v.ag:=fun k k0 k1 e=>by
   have:=(Oh h.bears h.roots).2 k k0 k1 (by rw[e])
   rw[e,h.gen]at this
   simp only at this;omega
  refine⟨⟨t1 [],?_,fun g=> ?_,fun g=> ?_,fun g hf=> ?_,?_,t4⟩,fun g=>(t2 g).2⟩
  ·
   by_cases g:W.2=0
   ·
    rw[(t2 g).2,fG]
   ·
    rw[(t3 g).1];rfl
  ·
   obtain⟨q1,q2⟩:=t2 g
   refine⟨q1,?_⟩
   show W.1.v.at_.map (dY W.1.v.ag)=_
   rw[q2];exact rB
  ·
   exact .inl (t3 g).2.2.2
  ·
   obtain⟨q1,q2,q3,_⟩:=t3 g
   have:=q2.Oj eA (q3 hf aas)
   rw[q1]
   exact⟨this,vU⟩
  ·
   by_cases g:W.2=0
   ·
    obtain⟨q1,q2⟩:=t2 g
    refine⟨W.1.v,q1,rfl,by rw[q2,fG], .inr ?_⟩
    show W.1.v.at_.map (dY W.1.v.ag)=_
    rw[q2];exact rB
   ·
    obtain⟨q1,q2,_⟩:=t3 g
    obtain⟨u,hu,hc,Dn⟩:=q2.some eA mn
    rcases Dn with rfl|⟨e1,e2⟩
    ·
     exact⟨_,hu,rfl,rfl, .inl vU⟩
    ·
     refine⟨u,hu,hc,by rw[e1,fG], .inr ?_⟩
     show u.at_.map (dY u.ag)=_
     rw[e1,hc];exact rB
open Go.ay
theorem Sf.by{x y:WV}{bs:List (List UInt8)}{e:Int}(h:Sf x bs y e)(b:Bool):Sf x bs {y with beyond:=b} e:=⟨h.kd,h.len,h.aZ,h.err,h.ya,h.any,h.off⟩
theorem Sf.cI{x y:WV}{bs:List (List UInt8)}{e:Int}{b:Bool}(h:Sf {x with beyond:=b} bs y e):Sf x bs y e:=⟨h.kd,h.len,h.aZ,h.err,h.ya,h.any,h.off⟩
theorem Sf.ne{x y:WV}{bs:List (List UInt8)}{e:Int}(h:Sf x (cl x.v) y e)(he:e≠0):Sf x bs y e:=
 ⟨h.kd,h.len,fun g=>absurd g he,h.err,h.ya,by
  obtain⟨u,h1,h2,h3,h4⟩:=h.any
  exact⟨u,h1,h2,h3, .inl (h4.elim id id)⟩,h.off⟩
theorem Sf.stay{x:WV}(h:dw x.v){e:Int}(he:e≠7):Sf x (cl x.v) x e:=by
 have:=Sf.data (x:=x) h (.bY _ _) (e:=e) (bs:=cl x.v) (fun _=>rfl) (fun g=>absurd g he)
 rw[FJ]at this;exact this
theorem Sf.zero{x y:WV}{bs:List (List UInt8)}{e:Int}(h:Sf x bs y e)(h0:e≠0)(h7:e≠7)(h9:e≠9)(h1:e≠1):Sf x (cl x.v) y 0:=by
 have hr:dw y.v∧cl y.v=cl x.v:=(h.err h0).resolve_left fun g=>by
  rcases g with g|g|g
  ·
   exact h7 g
  ·
   exact h9 g
  ·
   exact h1 g.1
 exact⟨h.kd,h.len,fun _=>hr,fun g=>absurd rfl g,fun g=>absurd rfl g,⟨y.v,hr.1,rfl,h.len, .inl hr.2⟩,fun g=>absurd g (by decide)⟩
theorem aat{x:WV}{src to:Int}(hx:cf x)(h:dw x.v)(bE:fa x.v.ag)(lD:2≤src)(pN:0≤to→to≠src)(ht:0≤to→2≤to∧to<x.v.ag.blocks.length∧(aj x.v.ag to).bad=false):
  Sf x (cl x.v) (cY x src to).1 (cY x src to).2.2∧((cY x src to).2.1=true→(cY x src to).2.2=0∧k7 (cY x src to).1.v.at_ x.v.ag src)∧((cY x src to).2.2=6→(cY x src to).1=x.on (cY x src to).1.v.ag):=by
 have hp:1≤x.v.ag.ae:=by have:=hx.ae;omega
 obtain⟨t1,t2,t3,t4⟩:=Dk lD pN hp x.v.at_ 0 (c:=x.v.ag) (a:=x.v.at_) hx.ag h.pl (.bY _ _) h.pl rfl ht rfl (fun _ _=>rfl) (fun j n hj=>by omega) rfl
 rw[cY]
 split
 ·
  rename_i e he
  exact⟨Sf.data h t1 (fun _=>rfl) (fun g=>t3 (by rw[he];exact congrArg some g)),fun g=>absurd (show false=true from g) (by simp),fun _=>rfl⟩
 ·
  rename_i he
  obtain⟨g1,g2,g3,g4⟩:=t2 he
  have dW:=hx.on (t1.ok hx.ag) t1.cx
  have hw:=HH dW (h.kp t1) (bE.kd t1.toKd) g1 g3
  have hs:=Sf.data h t1 (e:=0) (bs:=cl x.v) (fun _=>rfl) (fun g=>absurd g (by decide))
  have lW:=hw.1
  rw[show List.map (dY (x.on (ca x.v src to x.v.at_ 0 x.v.ag x.v.at_).c).v.ag) (ca x.v src to x.v.at_ 0 x.v.ag x.v.at_).a=cl x.v from g2]at lW
  refine⟨hs.trans lW,fun g=> ?_,fun g=>absurd g (Ca _ _)⟩
  simp only[decide_eq_true_eq]at g
  refine⟨g,?_⟩
  rw[hw.2 g];exact g4
theorem HI{c:CV}{l:List aA}{fl:List Int}(hd:pM c fl l):Kp fl c (bK c l).1∧((bK c l).2.2=7→(bK c l).1.off=true)∧((bK c l).2.2=0→ ∃(j:Nat) (x:aA),(bK c l).2.1=(j:Int)+2∧l[j]? =some x∧x.bad=false):=by
 rw[bK]
 by_cases h1:(kW c l).2=true
 ·
  rw[if_pos h1]
  obtain⟨x,hx,k1,_,_,k4,_⟩:=oC (fun x h=>(vk h).1) h1
  exact⟨.bY _ _,fun h=>absurd (show(0:Int)=7 from h) (by decide),fun _=>⟨_,x,by show(kW c l).1+2=(((kW c l).1.toNat:Nat):Int)+2;rw[Int.toNat_of_nonneg (show 0≤(kW c l).1 from k4)],hx,k1⟩⟩
 ·
  rw[if_neg h1]
  by_cases h2:(jE c l).2=true
  ·
   rw[if_pos h2]
   obtain⟨x,hx,k1,_,_,k4,_⟩:=oC (fun x h=>(kA h).1) h2
   obtain⟨d1,d2⟩:=Dh hd h2
   exact⟨vS (by show 2≤(jE c l).1+2;change 0≤(jE c l).1 at d2;omega) d1,Ai,fun _=>⟨_,x,by show(jE c l).1+2=(((jE c l).1.toNat:Nat):Int)+2;rw[Int.toNat_of_nonneg (show 0≤(jE c l).1 from k4)],hx,k1⟩⟩
  ·
   rw[if_neg h2]
   by_cases h3:(jh c l).2=true
   ·
    rw[if_pos h3]
    obtain⟨x,hx,k1,_,_,k4,_⟩:=oC (fun x h=>(kA h).1) h3
    obtain⟨d1,d2⟩:=Dh hd h3
    exact⟨vS (by show 2≤(jh c l).1+2;change 0≤(jh c l).1 at d2;omega) d1,Ai,fun _=>⟨_,x,by show(jh c l).1+2=(((jh c l).1.toNat:Nat):Int)+2;rw[Int.toNat_of_nonneg (show 0≤(jh c l).1 from k4)],hx,k1⟩⟩
   ·
    rw[if_neg h3]
    exact⟨.bY _ _,fun h=>absurd (show(6:Int)=7 from h) (by decide),fun h=>absurd (show(6:Int)=0 from h) (by decide)⟩
theorem HJ{e:Int}(h:jf e=7):e=7:=by rw[jf]at h;split at h<;>omega
theorem aau{x:WV}{l:List aA}{i:Int}(hx:cf x)(h:dw x.v)(bE:fa x.v.ag)(ht:ki x.v.ag l)(hd:pM x.v.ag x.v.at_ l)(h0:0≤i)(hi:i<l.length):
  Sf x (cl x.v) (eC x l i).1 (eC x l i).2∧((eC x l i).2=6→(eC x l i).1=x.on (eC x l i).1.v.ag):=by
 obtain⟨k1,k2,k3⟩:=HI (hd.set i.toNat)
 have fW: ∀{e:Int},(e=7→(bK x.v.ag (l.set i.toNat bc)).1.off=true)→Sf x (cl x.v) (x.on (bK x.v.ag (l.set i.toNat bc)).1) e:=fun ho=>Sf.data h k1 (fun _=>rfl) ho
 rw[eC]
 by_cases nS:(cc x.v.ag l i).2≠0
 ·
  rw[if_pos nS]
  refine⟨fW fun g=>k2 ?_,fun _=>rfl⟩
  have g:=HJ g
  rw[cc]at g
  split at g
  ·
   cases g
  ·
   exact g
 ·
  rw[if_neg nS]
  have HK:(cc x.v.ag l i).2=0:=by simpa using nS
  have kN:=xi (i:=i) hx.ag ht HK
  have dW:=hx.on (k1.ok hx.ag) k1.cx
  have cH:0≤(cc x.v.ag l i).1→(cc x.v.ag l i).1≠i+2:=fun hn e=>by
   have ea:px x.v.ag l i=false:=by
    cases hq:px x.v.ag l i with
    |false=>rfl
    |true=>rw[cc,if_pos hq]at hn;exact absurd (show(0:Int)≤ -1 from hn) (by decide)
   rw[cc,if_neg (by rw[ea];simp)]at e HK
   obtain⟨j,z,e1,e2,e3⟩:=k3 HK
   have:j=i.toNat:=by omega
   rw[this,List.getElem?_set_self (by omega)]at e2
   obtain rfl:=Option.some.inj e2;cases e3
  obtain⟨m1,m2,m3⟩:=aat (x:=x.on (bK x.v.ag (l.set i.toNat bc)).1) (src:=i+2) (to:=(cc x.v.ag l i).1) dW (h.kp k1) (bE.kd k1.toKd) (by omega) cH (fun hn=>by
   have:=kN hn
   exact⟨this.1,by simp only[WV.on];rw[k1.cx.len];exact this.2.1,this.2.2⟩)
  have mok:=zq (x:=x.on (bK x.v.ag (l.set i.toNat bc)).1) (src:=i+2) (to:=(cc x.v.ag l i).1) dW (fun hn=>by
   have:=kN hn
   exact⟨this.1,by simp only[WV.on];rw[k1.cx.len];exact this.2.1,this.2.2⟩)
  have vV:Sf x (cl x.v) (x.on (bK x.v.ag (l.set i.toNat bc)).1) 0:=fW fun g=>absurd g (by decide)
  rw[(vV.aZ rfl).2]at m1
  generalize cY (x.on (bK x.v.ag (l.set i.toNat bc)).1) (i+2) (cc x.v.ag l i).1=M at*
  by_cases h1:M.2.1=false∨(l.getD i.toNat du).used=x.v.ag.ae
  ·
   rw[if_pos h1]
   exact⟨vV.trans m1,fun g=>by rw[m3 g,Ll];rfl⟩
  ·
   rw[if_neg h1]
   have Dp:M.2.1=true:=by
    cases hq:M.2.1 with
    |true=>rfl
    |false=>exact absurd (.inl hq) h1
   obtain⟨e0,hdd⟩:=m2 Dp
   rw[e0]at m1
   have hR:=m1.aZ rfl
   have aav:k7 M.1.v.at_ M.1.v.ag (i+2):=hdd.cx m1.kd.cx
   have hc:=vS (c:=M.1.v.ag) (by omega) aav
   have Ow:=Sf.data (x:=M.1) hR.1 hc (e:=jf (cG M.1.v.ag (i+2)).2) (bs:=cl M.1.v) (fun _=>rfl) (fun g=>Ai (HJ g))
   have aaw:=vV.trans m1
   rw[hR.2]at Ow
   exact⟨aaw.trans Ow,fun g=>absurd (tG g) (zr _ _)⟩
theorem Ox{x:WV}{l:List aA}(h:dw x.v)(hd:pM x.v.ag x.v.at_ l):Sf x (cl x.v) (jF x l).1 (jF x l).2:=by
 rw[jF];split
 ·
  exact Sf.stay h (e:=6) (by decide)
 ·
  rename_i hq
  obtain⟨d1,d2⟩:=Dh hd (show(kj x.v.ag l).2=true by simpa using hq)
  exact Sf.data h (vS (by show 2≤(kj x.v.ag l).1+2;change 0≤(kj x.v.ag l).1 at d2;omega) d1) (fun _=>rfl) (fun g=>Ai (HJ g))
theorem pM.cx{c d:CV}{fl:List Int}{l:List aA}(h:pM c fl l)(g:dL c d):pM d fl l:=fun i x hx hb hl=>(h i x hx hb hl).cx g
theorem Oy{x:WV}(hx:cf x)(h:dw x.v)(bE:fa x.v.ag):Sf x (cl x.v) (eP x).1 (eP x).2:=by
 have ht:ki x.v.ag (bb x):=tE _ _
 have hd:pM x.v.ag x.v.at_ (bb x):=Dg _ _
 rw[eP];split
 ·
  rename_i hv
  have Ao:=FM (l:=bb x) hv.1
  obtain⟨r1,r2⟩:=aau (i:=(iS x).1) hx h bE ht hd Ao.1 Ao.2
  split
  ·
   exact r1
  ·
   rename_i h6
   have tH:(eC x (bb x) (iS x).1).2=6:=by simpa using h6
   have hz:=r1.zero (by omega) (by omega) (by omega) (by omega)
   have e:=r2 tH
   have hR:=hz.aZ rfl
   have hH:(eC x (bb x) (iS x).1).1.v.at_=x.v.at_:=by rw[e];rfl
   have:=Ox hR.1 (l:=bb x) (by rw[hH];exact hd.cx hz.kd.cx)
   rw[hR.2]at this
   exact hz.trans this
 ·
  exact Ox h hd
theorem Oz: ∀(n:Nat) {x:WV} {need:Int},cf x→dw x.v→fa x.v.ag→Sf x (cl x.v) (py n x need).1 (py n x need).2
 |0,x,need,hx,h,bE=>Sf.stay h (e:=0) (by decide)
 |n+1,x,need,hx,h,bE=>by
  have hc:=Oy hx h bE
  have Dq:=Cc hx
  rw[py]
  split
  ·
   exact Sf.stay h (e:=0) (by decide)
  ·
   split
   ·
    exact(Sf.stay h (e:=0) (by decide)).by true
   ·
    split
    ·
     rename_i h0
     rw[h0]at hc
     have hR:=hc.aZ rfl
     have:=Oz n (need:=need) Dq.1.ok hR.1 (bE.kd hc.kd)
     rw[hR.2]at this
     exact hc.trans this
    ·
     split
     ·
      exact hc
     ·
      rename_i h6
      have tH:(eP x).2=6:=by simpa using h6
      have hz:=hc.zero (by omega) (by omega) (by omega) (by omega)
      have hR:=hz.aZ rfl
      split
      ·
       exact hz.by true
      ·
       have:=Sf.stay (x:=(eP x).1) hR.1 (e:=5) (by decide)
       rw[hR.2]at this
       exact hz.trans this
theorem OA{x:WV}{need:Int}(hx:cf x)(h:dw x.v)(bE:fa x.v.ag):Sf x (cl x.v) (m8 x need).1 (m8 x need).2:=Oz _ hx h bE
theorem OB{x:WV}{l:List (Int×List UInt8)}(hx:cf x)(h:dw x.v)(bE:fa x.v.ag)(hG: ∀y∈l,0≤y.1):Sf x (rF (cl x.v) l) (iL x l).1 (iL x l).2:=by
 have hs:Sf x (cl x.v) (dD x l).1 (dD x l).2:=(OA (x:={x with beyond:=false}) (need:=sf l) (hx.by false) h bE).cI
 have ho:=Cd (l:=l) hx
 rw[iL]
 by_cases h0:(dD x l).2≠0
 ·
  rw[if_pos h0];exact hs.ne h0
 ·
  rw[if_neg h0]
  rw[show(dD x l).2=0 by simpa using h0]at hs
  have hR:=hs.aZ rfl
  obtain⟨t1,t2,t3⟩:=Dj (v:=(dD x l).1.v) (aC:=(dD x l).1.beyond) l (c:=(dD x l).1.v.ag) (a:=(dD x l).1.v.at_) ho.ok.ag (by have:=ho.ok.oD;omega) hR.1.pl hR.1.pl hG
  by_cases h1:(iK x l).2.2≠0
  ·
   rw[if_pos h1]
   exact hs.trans (Sf.data hR.1 t1 (fun g=>absurd g h1) t3)
  ·
   rw[if_neg h1]
   obtain⟨g1,g2,g3⟩:=t2 (Classical.not_not.1 h1)
   have dW:=ho.ok.on (t1.ok ho.ok.ag) t1.cx
   have hw:=(HH dW (hR.1.kp t1) ((bE.kd hs.kd).kd t1.toKd) g1 g3).1
   have e:List.map (dY (iK x l).1) (iK x l).2.1=rF (cl x.v) l:=by rw[←hR.2];exact g2
   have hd:=Sf.data (x:=(dD x l).1) hR.1 t1 (e:=0) (bs:=cl (dD x l).1.v) (fun _=>rfl) (fun g=>absurd g (by decide))
   have eR:Sf ((dD x l).1.on (iK x l).1) (rF (cl x.v) l) (et ((dD x l).1.on (iK x l).1) (iK x l).2.1).1 (et ((dD x l).1.on (iK x l).1) (iK x l).2.1).2:=by rw[←e];exact hw
   exact hs.trans (Sf.trans hd eR)
theorem OC{l:List (Int×List UInt8)}(hG: ∀y∈l,0≤y.1): ∀(n:Nat) {x:WV},cf x→dw x.v→fa x.v.ag→x.v.ag.blocks.length<n+cq x.v.ag→Sf x (rF (cl x.v) l) (m9 n x l).1 (m9 n x l).2
 |0,x,hx,h,bE,hn=>by have:=xj x.v.ag;omega
 |n+1,x,hx,h,bE,hn=>by
  have hb:=OB (l:=l) hx h bE hG
  have ho:=FT (l:=l) hx
  rw[m9]
  split
  ·
   rename_i h5
   rw[h5.1]at hb
   have hz:=hb.zero (by decide) (by decide) (by decide) (by decide)
   have hR:=hz.aZ rfl
   have:=OC hG n ho.ok hR.1 (bE.kd hz.kd) (by have:=ho.cx.len;omega)
   rw[hR.2]at this
   exact hz.trans this
  ·
   exact hb
theorem aax{v:VV}{l:List (Int×List UInt8)}(h:dw v)(bE:fa v.ag):Sf ⟨v,false⟩ (rF (cl v) l) ⟨(fQ v l).1,false⟩ (fQ v l).2:=by
 rw[fQ]
 split
 ·
  exact(Sf.stay (x:=⟨v,false⟩) h (e:=1) (by decide)).ne (by decide)
 ·
  rename_i h1
  have Ap:=Classical.not_not.1 h1
  split
  ·
   rename_i ho
   have:=Sf.data (x:=⟨v,false⟩) h (.bY _ _) (e:=7) (bs:=rF (cl v) l) (fun g=>absurd g (by decide)) (fun _=>ho)
   exact this
  ·
   have hG: ∀y∈l,0≤y.1:=fun y hy=>by
    obtain⟨j,hj⟩:=List.getElem?_of_mem hy
    have:=zu.1 Ap.2.2 j (List.getElem?_eq_some_iff.1 hj).1
    rw[ri,show l.getD j (0,[])=y by simp[List.getD,hj],Bool.and_eq_true,rh,Bool.and_eq_true,Bool.and_eq_true,decide_eq_true_eq]at this
    exact this.1.1.1
   have:=OC hG (v.ag.blocks.length+1) (x:=⟨v,false⟩) (vr Ap.1) h bE (by show v.ag.blocks.length<_;omega)
   exact this.by false
open Go.ay
theorem aay{t:List Rt}(h:dy t=true): ∀l:List Ch,dy (kX t l).1=true:=by
 intro l
 induction l generalizing t with
 |nil=>exact h
 |cons c r ih=>
  rw[kX]
  split
  ·
   exact ih (Zx h c)
  ·
   exact h
theorem OD{t:List Rt}(h:dy t=true)(l:List Ch):dy (cQ t l)=true:=by
 rw[cQ];split
 ·
  exact aay h l
 ·
  exact h
def powC(c:CV):CV:={c with off:=false}
theorem dw.on{v:VV}(h:dw v)(b:Bool):dw {v with ag:={v.ag with off:=b}}:=by
 obtain⟨h1,h2,h3,h4,h5,h6,h7⟩:=h
 exact⟨h1,h2,h3,h4,h5,h6,h7⟩
theorem OE{v:VV}(h:dw v):bF (powC v.ag)=(⟨powC v.ag,v.at_,v.gen,v.last⟩,0):=by
 have h2:=xZ.2 (h.on false)
 rw[kU]at h2
 simp only[Bool.and_eq_true,decide_eq_true_eq]at h2
 obtain⟨⟨⟨g1,g2⟩,g3⟩,g4⟩:=h2
 have hc:=Mj g1
 change(bF (powC v.ag)).2=0 at g1
 change(bF (powC v.ag)).1.gen=v.gen at g2
 change(bF (powC v.ag)).1.last=v.last at g3
 change(bF (powC v.ag)).1.at_=v.at_ at g4
 change(bF (powC v.ag)).1.ag=powC v.ag at hc
 generalize bF (powC v.ag)=F at*
 obtain⟨⟨f1,f2,f3,f4⟩,f5⟩:=F
 simp only at g1 g2 g3 g4 hc
 subst g1 g2 g3 g4 hc;rfl
structure fJ(f:FV):Prop where
 rt:dw f.an
 gI:dG f.an.ag≠0
 ids:(f.an.at_.length:Int)=dm f.an.ag
 Dr:iT (cl f.an)=0
 eq:f.table=ij (cl f.an)
theorem OF{v:VV}(h:dw v)(hm:dG v.ag≠0)(hi:(v.at_.length:Int)=dm v.ag)(ht:iT (cl v)=0):cX (powC v.ag)=(⟨⟨powC v.ag,v.at_,v.gen,v.last⟩,ij (cl v)⟩,0)∧jI (powC v.ag)=cl v:=by
 have hf:=OE h
 have:=Co (c:=powC v.ag) hm (by rw[hf]) (by rw[hf];exact hi) (by rw[hf];exact ht)
 rw[hf]at this
 exact this
theorem fJ.load{f:FV}(h:fJ f):cX (powC f.an.ag)=(⟨⟨powC f.an.ag,f.an.at_,f.an.gen,f.an.last⟩,f.table⟩,0)∧jI (powC f.an.ag)=cl f.an:=by
 rw[h.eq];exact OF h.rt h.gI h.ids h.Dr
theorem vW{f:FV}:gy f=true↔fJ f:=by
 constructor
 ·
  intro h
  rw[Uw]at h
  simp only[Bool.and_eq_true,decide_eq_true_eq]at h
  obtain⟨⟨h1,h2⟩,h3⟩:=h
  obtain⟨g0,g1,g2,g3⟩:=Cq h1
  have hr:=xZ.1 h2
  have hf:=OE hr
  change(bF (powC f.an.ag)).2=0 at g1
  change(((bF (powC f.an.ag)).1.at_.length:Nat):Int)=_ at g2
  change iT (cl (bF (powC f.an.ag)).1)=0 at g3
  rw[hf]at g2 g3
  refine⟨hr,g0,g2,g3,?_⟩
  rw[←h3]
  exact congrArg (fun z:FV×Int=>z.1.table) (OF hr g0 g2 g3).1
 ·
  intro h
  rw[F8]
  change(cX (powC f.an.ag)).2=0∧f.an.gen=(cX (powC f.an.ag)).1.an.gen∧f.an.last=(cX (powC f.an.ag)).1.an.last∧f.an.at_=(cX (powC f.an.ag)).1.an.at_∧f.table=(cX (powC f.an.ag)).1.table
  rw[h.load.1]
  exact⟨rfl,rfl,rfl,rfl,rfl⟩
theorem fJ.right{f:FV}(h:fJ f):dy f.table=true:=by rw[h.eq];exact Ux h.Dr
theorem Ds{c d:CV}(h:dL c d):dG d=dG c∧dm d=dm c:=by
 rw[dG,dG,dm,dm,h.len,h.ae,h.size];exact⟨rfl,rfl⟩
theorem OG: ∀(l:List (Int×List UInt8)) (bs:List (List UInt8)) (i:Nat),l.Pairwise (fun p q=>p.1≠q.1)→(∀p∈l,0≤p.1)→(rF bs l)[i]? =match l.find? fun p=>decide (p.1=(i:Int))with
  |some p=>if i<bs.length then some p.2 else none
  |none=>bs[i]?
 |[],bs,i,_,_=>rfl
 |p::r,bs,i,hw,h0=>by
  obtain⟨lW,eR⟩:=List.pairwise_cons.1 hw
  have ih:=OG r (bs.set p.1.toNat p.2) i eR fun q hq=>h0 q (List.mem_cons_of_mem _ hq)
  have hp0:=h0 p List.mem_cons_self
  show(rF (bs.set p.1.toNat p.2) r)[i]? =_
  rw[ih,List.find?_cons]
  by_cases e:p.1=(i:Int)
  ·
   have hn:(r.find? fun q=>decide (q.1=(i:Int)))=none:=List.find?_eq_none.2 fun q hq=>by
    rw[decide_eq_true_eq];intro e2;exact lW q hq (by rw[e,e2])
   rw[hn,decide_eq_true e]
   simp only
   rw[List.getElem?_set,if_pos (by omega)]
   by_cases hl:i<bs.length
   ·
    rw[if_pos (by omega),if_pos hl]
   ·
    rw[if_neg (by omega),if_neg hl]
  ·
   rw[decide_eq_false e]
   simp only
   cases hf:r.find? fun q=>decide (q.1=(i:Int))with
   |some q=>simp only;rw[List.length_set]
   |none=>simp only;rw[List.getElem?_set_ne (by omega)]
theorem aaz{a b:List (List UInt8)}(hl:a.length=b.length):rF a (eQ a b)=b:=by
 have hs:=Hl a b (max a.length b.length)
 have hpw:(eQ a b).Pairwise fun p q=>p.1≠q.1:=hs.imp fun h=>by omega
 have hm: ∀p∈eQ a b,∃i:Nat,i<max a.length b.length∧p=((i:Int),b.getD i [])∧ ¬a.getD i []=b.getD i []:=fun p hp=>ND hp
 refine List.ext_getElem? fun i=> ?_
 rw[OG (eQ a b) a i hpw fun p hp=>by obtain⟨j,_,rfl,_⟩:=hm p hp;exact Int.natCast_nonneg _]
 cases hf:(eQ a b).find? fun p=>decide (p.1=(i:Int))with
 |some p=>
  obtain⟨j,h1,h2,h3⟩:=hm p (List.mem_of_find?_eq_some hf)
  have e:=List.find?_some hf
  rw[decide_eq_true_eq,h2]at e
  simp only at e
  have e':j=i:=by omega
  subst e'
  simp only
  by_cases hi:j<a.length
  ·
   rw[if_pos hi,h2,List.getElem?_eq_getElem (by omega)]
   simp[List.getD,show j<b.length by omega]
  ·
   rw[if_neg hi,List.getElem?_eq_none (by omega)]
 |none=>
  simp only
  rcases Nat.lt_or_ge i a.length with hi|hi
  ·
   have jl:=List.find?_eq_none.1 hf
   have hq:a.getD i []=b.getD i []:=by
    apply Classical.byContradiction
    intro cH
    have lf:((i:Int),b.getD i [])∈eQ a b:=by
     rw[eQ,mj]
     exact List.mem_filterMap.2 ⟨i,List.mem_range.2 (by omega),by rw[rk,if_neg cH]⟩
    have:=jl _ lf
    simp at this
   simp only[List.getD,List.getElem?_eq_getElem hi,List.getElem?_eq_getElem (show i<b.length by omega),Option.getD_some]at hq
   rw[List.getElem?_eq_getElem hi,List.getElem?_eq_getElem (show i<b.length by omega),hq]
  ·
   rw[List.getElem?_eq_none hi,List.getElem?_eq_none (by omega)]
structure Af(f:FV)(t:List Rt)(o:FV)(e:Int):Prop where
 kd:Kd [] f.an.ag o.an.ag
 aZ:e=0→fJ o∧o.table=t
 bad:e≠0→o.table=f.table
 err:e≠0→(e=7∨e=9∨(e=1∧An o.an.ag))∨fJ o
 ya:e≠0→f.an.ag.aX=[]→fJ o
 any: ∃g:FV,fJ g∧g.an.ag=o.an.ag∧(g.table=f.table∨g.table=t)
 off:e=7→o.an.ag.off=true
theorem Dt{f:FV}{l:List Ch}(h:fJ f):tJ f l=if dG f.an.ag<(cQ f.table l).length then 5 else 0:=by
 have hr:=OD h.right l
 have hm:gI (dm f.an.ag) (dM f.an.ag.size)=dG f.an.ag:=rfl
 rw[tJ,jk,if_neg,hm]
 rintro(g|g)
 ·
  rw[hr]at g;cases g
 ·
  exact h.gI g
theorem aaA{f:FV}{l:List Ch}(h:fJ f)(he:eu f.table l≠0):cg f l=(f,eu f.table l):=Mk (vW.2 h) he
theorem aaB{f:FV}{l:List Ch}(h:fJ f)(he:eu f.table l=0)(hm:dG f.an.ag<(cQ f.table l).length):cg f l=(f,5):=by
 have:=Dt (l:=l) h
 rw[if_pos hm]at this
 rw[Ml (vW.2 h) he (by rw[this];decide),this]
theorem uj{f:FV}(h:fJ f):fj f=cl f.an:=h.load.2
theorem OH{f:FV}{l:List Ch}(h:fJ f)(he:eu f.table l=0)(hm: ¬dG f.an.ag<(cQ f.table l).length)(hc:eQ (fj f) (fI f l)=[]):cg f l=(f,0)∧cQ f.table l=f.table:=by
 have hE:=Dt (l:=l) h
 rw[if_neg hm]at hE
 have hlen:(fj f).length=(fI f l).length:=by
  have:=(C5 hE).1
  have h2:=h.ids
  rw[uj h,zx]
  have:((fI f l).length:Int)=dm f.an.ag:=this
  omega
 have heq:=(Zb hlen).1 hc
 have ht:ij (fI f l)=cQ f.table l:=(NB hE).1
 have e:cQ f.table l=f.table:=by
  rw[←ht,←heq,uj h];exact h.eq.symm
 rw[Mm (vW.2 h) he hE hc,e]
 exact⟨rfl,rfl⟩
theorem aaC{f:FV}{l:List Ch}(h:fJ f)(bE:fa f.an.ag)(he:eu f.table l=0)(hm: ¬dG f.an.ag<(cQ f.table l).length):Af f (cQ f.table l) (cg f l).1 (cg f l).2:=by
 have hE:=Dt (l:=l) h
 rw[if_neg hm]at hE
 by_cases hc:eQ (fj f) (fI f l)=[]
 ·
  obtain⟨e1,e2⟩:=OH h he hm hc
  rw[e1,e2]
  exact⟨.bY _ _,fun _=>⟨h,rfl⟩,fun g=>absurd rfl g,fun g=>absurd rfl g,fun g=>absurd rfl g,⟨f,h,rfl, .inl rfl⟩,fun g=>absurd (show(0:Int)=7 from g) (by decide)⟩
 ·
  have hlen:(fj f).length=(fI f l).length:=by
   have:=(C5 hE).1
   have h2:=h.ids
   rw[uj h,zx]
   have:((fI f l).length:Int)=dm f.an.ag:=this
   omega
  have hs:=aax (l:=eQ (fj f) (fI f l)) h.rt bE
  rw[←uj h,aaz hlen]at hs
  have ht:=NB hE
  rw[Ga (vW.2 h) he hE hc]
  generalize fQ f.an (eQ (fj f) (fI f l))=W at*
  have di:=Ds hs.kd.cx
  change dG W.1.ag=dG f.an.ag∧dm W.1.ag=dm f.an.ag at di
  have HL:W.1.at_.length=f.an.at_.length:=hs.len
  have vU:cl (⟨f.an,false⟩:WV).v=fj f:=(uj h).symm
  have mk: ∀{u:VV} {t:List Rt},dw u→dL f.an.ag u.ag→u.at_.length=f.an.at_.length→iT (cl u)=0→t=ij (cl u)→fJ ⟨u,t⟩:=fun hu hk hl hte aaD=>by
   have:=Ds hk
   exact⟨hu,by show dG _≠0;rw[this.1];exact h.gI,by show(_:Int)=dm _;rw[this.2,hl];exact h.ids,hte,aaD⟩
  have hold:iT (fj f)=0∧f.table=ij (fj f):=by rw[uj h];exact⟨h.Dr,h.eq⟩
  refine⟨hs.kd,fun g=> ?_,fun g=> ?_,fun g=> ?_,fun g hf=> ?_,?_,hs.off⟩
  ·
   obtain⟨q1,q2⟩:=hs.aZ g
   change dw W.1 at q1
   change cl W.1=fI f l at q2
   simp only at g
   refine⟨mk q1 hs.kd.cx HL (by rw[q2];exact ht.2) (by rw[if_neg (fun k=>k g),q2];exact ht.1.symm),by rw[if_neg (fun k=>k g)]⟩
  ·
   simp only at g⊢;rw[if_pos g]
  ·
   simp only at g
   refine(hs.err g).imp id fun q=> ?_
   rw[vU]at q
   exact mk q.1 hs.kd.cx HL (by rw[show cl W.1=fj f from q.2];exact hold.1) (by rw[if_pos g,show cl W.1=fj f from q.2];exact hold.2)
  ·
   simp only at g
   have q:=hs.ya g hf
   rw[vU]at q
   exact mk q.1 hs.kd.cx HL (by rw[show cl W.1=fj f from q.2];exact hold.1) (by rw[if_pos g,show cl W.1=fj f from q.2];exact hold.2)
  ·
   obtain⟨u,q1,q2,q3,q4⟩:=hs.any
   change u.ag=W.1.ag at q2
   have rH:dL f.an.ag u.ag:=by rw[q2];exact hs.kd.cx
   rw[vU]at q4
   rcases q4 with q4|q4
   ·
    exact⟨⟨u,f.table⟩,mk q1 rH q3 (by rw[q4];exact hold.1) (by rw[q4];exact hold.2),q2, .inl rfl⟩
   ·
    exact⟨⟨u,cQ f.table l⟩,mk q1 rH q3 (by rw[q4];exact ht.2) (by rw[q4];exact ht.1.symm),q2, .inr rfl⟩
open Go.ay
theorem fa.nil{c:CV}(h:c.aX=[]):fa c:=fun f hf=>by rw[h]at hf;cases hf
theorem fJ.aaE{f:FV}(h:fJ f)(ho:f.an.ag.off=false):cX f.an.ag=(f,0):=by
 have e:powC f.an.ag=f.an.ag:=by rw[powC,←ho]
 have:=h.load.1
 rw[e]at this
 exact this
theorem fJ.small{f:cC}(h:fJ (bG f)):dK f.an.ag∧f.an.at_.xs.length≤1000000∧f.table.xs.length≤1000000:=by
 have hk:=(eo.1 h.rt.bears).1
 have hw:=(vr (b:=false) (xZ.2 h.rt)).nL
 have ht:=wO h.right
 change f.an.at_.xs.length≤64 at hw
 change f.table.xs.length≤256 at ht
 exact⟨nH hk,by omega,by omega⟩
theorem fJ.OI{f:FV}(h:fJ f):gy f=true:=vW.2 h
theorem fJ.aaF{f:FV}(h:fJ f)(k:Key)(bits:Int):qv f k bits=rn f.table k bits∧qw f k bits=rp f.table k bits:=by
 rw[qv,qw,if_pos h.OI,if_pos h.OI];exact⟨rfl,rfl⟩
theorem aaG(t:List Rt)(c:List Ch):(kX t c).2=0∨(kX t c).2=1∨(kX t c).2=5∨(kX t c).2=6:=by
 induction c generalizing t with
 |nil=>exact .inl rfl
 |cons x r ih=>
  rw[kX]
  split
  ·
   exact ih _
  ·
   show fA t x=0∨fA t x=1∨fA t x=5∨fA t x=6
   rw[fA];repeat' split
   all_goals decide
theorem OJ(t:List Rt)(l:List Ch):eu t l=0∨eu t l=1∨eu t l=5∨eu t l=6:=by
 rw[eu];split
 ·
  exact aaG t l
 ·
  exact .inr (.inl rfl)
end Go.Kb
