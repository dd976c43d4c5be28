/- Part of a proof. -/
import Derived.Test.YtaipiecplldinaaGreatA3
import Derived.Test.YtaipiecplldinaaGreatA2
set_option maxRecDepth 20000
set_option linter.unusedSimpArgs false
set_option linter.unusedVariables false
namespace Go.Proofs.YtaipiecplldinaaGreat
open Go.aL Go.Kb
open Go.RowKit
theorem Rd{xs:List UInt8}{k i:Nat}(h:k+i<xs.length):(xs.take k++(List.replicate i 255++xs.drop (k+i))).set (k+i) 255=xs.take k++(List.replicate (i+1) 255++xs.drop (k+(i+1))):=by
 rw[List.set_append_right _ _ (by rw[List.length_take];omega),List.length_take,Nat.min_eq_left (by omega),Nat.add_sub_cancel_left,List.set_append_right _ _ (by simp),List.length_replicate,Nat.sub_self,List.drop_eq_getElem_cons h,List.set_cons_zero,List.replicate_succ',List.append_assoc,List.singleton_append,Nat.add_assoc]
theorem Re(w0 w:World)(L:List aj)(rm:Sv)(k:Nat)(n:Nat)(cap:Nat)(xs:List UInt8)(hw:Mem w0 (own aJ 1 rm xs::L) w)(ba:k+n≤xs.length∧n≤1000000):Calls Tryz.prog 66 #[.slice (some ⟨rm.b,rm.o+k,none⟩) n cap] w fun e w'=> ∃zz:Unit,e= .returned (.tuple #[])∧(True)∧Mem w0 (own aJ 1 rm (xs.take k++(List.replicate n 255++xs.drop (k+n)))::L) w':=by
 obtain⟨kQ,kr⟩:=ba
 refine jH (args:=[_]) Tryz.func66 rfl Tryz.ntmps66 rfl hw ?_
 change Cw _ _ _ _ _ [(0, .slice (some ⟨rm.b,rm.o+k,none⟩) n cap)] (own aJ 1 rm xs::L)
 refine Gc ?_
 refine Gs ?_
 refine ae (ti rfl) ?_
 refine Gs ?_
 refine Gc ?_
 refine bK (X:=Nat×List UInt8) (fun zz=>[(5, .int .i64 (zz.1:Nat)),(0, .slice (some ⟨rm.b,rm.o+k,none⟩) n cap),(4, .int .i64 (n:Nat))]) (fun zz=>own aJ 1 rm zz.2::L) (fun zz=>zz.1≤n∧zz.2=xs.take k++(List.replicate zz.1 255++xs.drop (k+zz.1))) (fun zz=>n -zz.1) (0,xs) ⟨Nat.zero_le _,by simp⟩ (Sub.cons rfl (Sub.cons rfl (Sub.cons rfl (Sub.nil _)))) (fun w hw=>ah.mem hw) ?_
 rintro⟨i,zs⟩ ⟨bb,aH⟩
 dsimp only
 simp only at bb aH
 have ui:zs.length=xs.length:=by rw[aH];simp only[List.length_append,List.length_take,List.length_replicate,List.length_drop];omega
 refine Gc ?_
 refine Gs ?_
 refine Gc ?_
 refine aq rfl (fun h0=> ?_) (fun h0=> ?_)
 ·
  replace h0:=bz h0
  refine Gc ?_
  iterate 2 refine Gs ?_
  refine Gc ?_
  iterate 2 refine Gs ?_
  refine ae (FD (b:=rm.b) (o:=rm.o+k) (len:=n) (cap:=cap) rfl rfl (by omega) (by omega)) ?_
  obtain⟨z,hz⟩:=get_some (xs:=zs) (i:=k+i) (by omega)
  refine jU (s:=rm) (n:=1) (k:=k+i) (j:=0) (a:=z) (a':=(255:UInt8)) (xs:=zs) (enc:=aJ) (c:=1) (v:= .int .u8 255) (by kernel_rfl) rfl rfl (by omega) hz (by simp[Value.cells,Value.oneCell']) rfl (by omega) (by rfl) ?_
  refine Gc ?_
  iterate 2 refine Gs ?_
  refine Gi ?_
  exact bh (x:=(i,zs)) (i+1,zs.set (k+i) 255) ⟨by first|omega|(simp only[];omega),by rw[aH];exact Rd (by first|omega|(simp only[];omega))⟩ (by simp only;omega) (Sub.cons rfl (Sub.cons rfl (Sub.cons rfl (Sub.nil _)))) (fun w hw=>ah.mem hw)
 ·
  replace h0:=bz h0
  obtain rfl:i=n:=by omega
  refine Gc ?_
  refine an (.inr rfl) (DV rfl) (fun w1 hw=> ?_)
  exact⟨(),rfl,trivial,by rw[←aH];exact ah.mem hw⟩
instance Rf{w0:World}{L L2:List aj}{i:Nat}{rm:Sv}{k:Nat}{n:Nat}{cap:Nat}{xs:List UInt8}[q:eT L rm aJ 1 xs i][d1:c8 L i L2]:bW Tryz.prog 66 w0 L [.slice (some ⟨rm.b,rm.o+k,none⟩) n cap] (Unit) (fun zz=> .tuple #[]) (fun zz=>own aJ 1 rm (xs.take k++(List.replicate n 255++xs.drop (k+n)))::L2) (fun zz=>True) (k+n≤xs.length∧n≤1000000):=⟨fun hp w hw=>Re w0 w L2 rm k n cap xs (DY q.h d1.h hw) hp⟩
theorem Rh(w:World)(s:Sv)(ss:List Bk)(hs:bM bN 4 (hp w) s ss)(ba:ss.length≤1000000):Calls Tryz.prog 107 #[s.val] w fun e w'=> ∃zz:Sv,e= .returned (zz.val)∧(True)∧Mem w [own bN 4 zz ss] w':=by
 have uj:Gv w s bN 4 ss:=⟨hs⟩
 refine aW (args:=[_]) Tryz.func107 rfl Tryz.ntmps107 rfl ?_
 change Cw _ _ _ _ _ [(0,s.val)] []
 refine Gc ?_
 refine Gs ?_
 refine Gc ?_
 refine Gs ?_
 refine ae (qC Tryz.underlying22 rfl) ?_
 refine Gc ?_
 refine aq rfl (fun h0=> ?_) (fun h0=> ?_)
 ·
  replace h0:=bz h0
  have e0:ss=[]:=List.length_eq_zero_iff.1 (by have:=hs.ok.nil h0;have:=hs.len;omega)
  refine Gc ?_
  refine Gs ?_
  refine Gc ?_
  refine an (.inl rfl) (aK rfl (al rfl)) (fun w1 hw=> ?_)
  exact⟨Sv.none,rfl,trivial,by rw[e0];exact(ah.mem hw:Mem w [] _).cz bN 4⟩
 ·
  replace h0:=bz h0
  refine Gc ?_
  refine qD bN fun b5=> ?_
  refine Gs ?_
  refine jG (s:=⟨false,b5,0,0,0,none⟩) (enc:=bN) (ys:=ss) rfl rfl (by decide) (fun w hw=>gX (s:=s) Tryz.underlying22 (by decide) ((inferInstance:cl _ _ bN 4 s ss).h w hw)) (by simp only[List.length_nil];omega) (by simp only[List.length_nil];omega) fun s7 uk sD=> ?_
  refine Gs ?_
  refine Gc ?_
  refine an (.inl rfl) (aK rfl (al rfl)) (fun w1 hw=> ?_)
  exact⟨s7,rfl,trivial,by rw[List.nil_append]at hw;exact ah.mem hw⟩
instance acP{w0:World}{L:List aj}{s:Sv}{ss:List Bk}[hs:cl w0 L bN 4 s ss]:bW Tryz.prog 107 w0 L [s.val] (Sv) (fun zz=>zz.val) (fun zz=>own bN 4 zz ss::L) (fun zz=>True) (ss.length≤1000000):=⟨fun hp w hw=>(Rh w s ss (hs.h w hw) hp).mono fun e w' ⟨x,h1,h2,h3⟩=>⟨x,h1,h2,hw.call h3⟩⟩
theorem Ri(w:World)(s:Sv)(ss:List Ft)(hs:bM cX 4 (hp w) s ss)(ba:ss.length≤1000000):Calls Tryz.prog 69 #[s.val] w fun e w'=> ∃zz:Sv,e= .returned (zz.val)∧(True)∧Mem w [own cX 4 zz ss] w':=by
 have uj:Gv w s cX 4 ss:=⟨hs⟩
 refine aW (args:=[_]) Tryz.func69 rfl Tryz.ntmps69 rfl ?_
 change Cw _ _ _ _ _ [(0,s.val)] []
 refine Gc ?_
 refine Gs ?_
 refine Gc ?_
 refine Gs ?_
 refine ae (qC Tryz.underlying23 rfl) ?_
 refine Gc ?_
 refine aq rfl (fun h0=> ?_) (fun h0=> ?_)
 ·
  replace h0:=bz h0
  have e0:ss=[]:=List.length_eq_zero_iff.1 (by have:=hs.ok.nil h0;have:=hs.len;omega)
  refine Gc ?_
  refine Gs ?_
  refine Gc ?_
  refine an (.inl rfl) (aK rfl (al rfl)) (fun w1 hw=> ?_)
  exact⟨Sv.none,rfl,trivial,by rw[e0];exact(ah.mem hw:Mem w [] _).cz cX 4⟩
 ·
  replace h0:=bz h0
  refine Gc ?_
  refine qD cX fun b5=> ?_
  refine Gs ?_
  refine jG (s:=⟨false,b5,0,0,0,none⟩) (enc:=cX) (ys:=ss) rfl rfl (by decide) (fun w hw=>gX (s:=s) Tryz.underlying23 (by decide) ((inferInstance:cl _ _ cX 4 s ss).h w hw)) (by simp only[List.length_nil];omega) (by simp only[List.length_nil];omega) fun s7 uk sD=> ?_
  refine Gs ?_
  refine Gc ?_
  refine an (.inl rfl) (aK rfl (al rfl)) (fun w1 hw=> ?_)
  exact⟨s7,rfl,trivial,by rw[List.nil_append]at hw;exact ah.mem hw⟩
instance acQ{w0:World}{L:List aj}{s:Sv}{ss:List Ft}[hs:cl w0 L cX 4 s ss]:bW Tryz.prog 69 w0 L [s.val] (Sv) (fun zz=>zz.val) (fun zz=>own cX 4 zz ss::L) (fun zz=>True) (ss.length≤1000000):=⟨fun hp w hw=>(Ri w s ss (hs.h w hw) hp).mono fun e w' ⟨x,h1,h2,h3⟩=>⟨x,h1,h2,hw.call h3⟩⟩
theorem Rj(w:World)(ps:Sl (Sl UInt8))(xM:Deep.bk (hp w) ps)(ba:CI (aE ps.xs)):Calls Tryz.prog 108 #[ps.sv.val] w fun e w'=> ∃zz:Sl (Sl UInt8),e= .returned (zz.sv.val)∧(aE zz.xs=aE ps.xs)∧Mem w [dY zz] w':=by
 have acR:bT w ps:=⟨xM⟩
 obtain⟨kQ,kr⟩:=ba
 have gh:=fk ps.xs
 rw[gh]at kQ
 refine aW (args:=[_]) Tryz.func108 rfl Tryz.ntmps108 rfl ?_
 change Cw _ _ _ _ _ [(0,ps.sv.val)] []
 refine Gc ?_
 refine Gs ?_
 refine Gc ?_
 refine Gs ?_
 refine ae (qC Tryz.underlying46 rfl) ?_
 refine Gc ?_
 refine aq rfl (fun h0=> ?_) (fun h0=> ?_)
 ·
  replace h0:=bz h0
  have e0:ps.xs=[]:=List.length_eq_zero_iff.1 (by have:=xM.1.ok.nil h0;have:=xM.1.len;omega)
  refine Gc ?_
  refine Gs ?_
  refine Gc ?_
  refine an (.inl rfl) (aK rfl (al rfl)) (fun w1 hw=> ?_)
  exact⟨⟨Sv.none,[]⟩,rfl,by rw[e0],NX (Mem.cz (bP (τ:=UInt8)) 1 (ah.mem hw:Mem w [] _))⟩
 ·
  replace h0:=bz h0
  refine Gc ?_
  refine Gs ?_
  refine Gc ?_
  iterate 3 refine Gs ?_
  refine Gc ?_
  refine bK (X:=Nat×Nat) (fun zz=>[(15, .int .i64 (zz.1:Nat)),(3, .int .i64 (zz.2:Nat)),(0,ps.sv.val),(13,ps.sv.val),(14, .int .i64 (ps.xs.length:Nat))]) (fun zz=>[]) (fun zz=>zz.1≤ps.xs.length∧zz.2=((aE ps.xs).take zz.1).flatten.length) (fun zz=>ps.xs.length -zz.1) (0,0) ⟨Nat.zero_le _,by simp⟩ (Sub.cons rfl (Sub.cons rfl (Sub.cons rfl (Sub.cons rfl (Sub.cons rfl (Sub.nil _)))))) (fun w hw=>ah.mem hw) ?_
  rintro⟨i,mm⟩ ⟨bb,aH⟩
  dsimp only
  simp only at bb aH
  refine Gc ?_
  refine Gs ?_
  refine Gc ?_
  refine aq rfl (fun h1=> ?_) (fun h1=> ?_)
  ·
   replace h1:=bz h1
   obtain⟨y,hy⟩:=get_some (xs:=ps.xs) (i:=i) (by omega)
   have Az:Mb y ps:=⟨List.mem_of_getElem? hy⟩
   have sE:=xq (ib hy)
   have fA:=xr (aE ps.xs) (i+1)
   refine Gc ?_
   refine ae (aX rfl rfl i rfl (by omega)) ?_
   refine ae (bn (j:=0) rfl i hy rfl (by decide)) ?_
   have acS:Mb y _:=⟨List.mem_of_getElem? hy⟩
   refine Gs ?_
   refine Gc ?_
   iterate 5 refine Gs ?_
   refine Gc ?_
   iterate 2 refine Gs ?_
   refine Gi ?_
   exact bh (x:=(i,mm)) (i+1,mm+y.xs.length) ⟨by first|omega|(simp only[];omega),by rw[aH,sE]⟩ (by simp only;omega) (Sub.cons rfl (Sub.cons rfl (Sub.cons rfl (Sub.cons rfl (Sub.cons rfl (Sub.nil _)))))) (fun w hw=>ah.mem hw)
  ·
   replace h1:=bz h1
   obtain rfl:i=ps.xs.length:=by omega
   rw[List.take_of_length_le (by omega)]at aH
   have hN:mm=(aE ps.xs).flatten.length:=aH
   refine Gc ?_
   refine Gs ?_
   refine rJ (enc:=aJ) (n:=0) (cap:=mm) 0 rfl rfl rfl rfl rfl (by omega) (by omega) (by omega) fun sF=> ?_
   refine Gs ?_
   refine Gc ?_
   iterate 2 refine Gs ?_
   refine rJ (enc:=bP (τ:=UInt8)) (n:=ps.xs.length) (cap:=ps.xs.length) (⟨Sv.none,[]⟩:Sl UInt8) rfl rfl rfl rfl rfl (by omega) (by omega) (by omega) fun AA=> ?_
   refine Gs ?_
   refine Gc ?_
   iterate 3 refine Gs ?_
   refine Gc ?_
   refine bK (X:=Nat×Nat×List UInt8×List (Sl UInt8)) (fun zz=>[(31, .int .i64 (zz.1:Nat)),(6,(⟨false,sF,0,zz.2.1,mm,none⟩:Sv).val),(7,(⟨false,AA,0,ps.xs.length,ps.xs.length,none⟩:Sv).val),(29,ps.sv.val),(30, .int .i64 (ps.xs.length:Nat))]) (fun zz=>[own aJ 1 ⟨false,sF,0,zz.2.1,mm,none⟩ zz.2.2.1,own (bP (τ:=UInt8)) 1 ⟨false,AA,0,ps.xs.length,ps.xs.length,none⟩ zz.2.2.2]) (fun zz=>zz.1≤ps.xs.length∧zz.2.1=zz.2.2.1.length∧zz.2.2.1=((aE ps.xs).take zz.1).flatten∧zz.2.2.2=cZ ⟨false,sF,0,mm,mm,none⟩ 0 ((aE ps.xs).take zz.1)++List.replicate (ps.xs.length -zz.1) (⟨Sv.none,[]⟩:Sl UInt8)) (fun zz=>ps.xs.length -zz.1) (0,0,List.replicate 0 0,List.replicate ps.xs.length (⟨Sv.none,[]⟩:Sl UInt8)) ⟨Nat.zero_le _,rfl,by simp,by simp[cZ]⟩ (Sub.cons rfl (Sub.cons rfl (Sub.cons rfl (Sub.cons rfl (Sub.cons rfl (Sub.nil _)))))) (fun w hw=>ah.mem hw) ?_
   rintro⟨i,m,r,zs⟩ ⟨bb,aH,bu,cJ⟩
   dsimp only
   simp only at bb aH bu cJ
   refine Gc ?_
   refine Gs ?_
   refine Gc ?_
   refine aq rfl (fun h2=> ?_) (fun h2=> ?_)
   ·
    replace h2:=bz h2
    obtain⟨y,hy⟩:=get_some (xs:=ps.xs) (i:=i) (by omega)
    have Az:Mb y ps:=⟨List.mem_of_getElem? hy⟩
    have sE:=xq (ib hy)
    have fA:=xr (aE ps.xs) (i+1)
    have q6:r.length+y.xs.length≤mm:=by rw[hN,bu,←sE];exact fA
    have sG:=get_some (xs:=zs) (i:=i) (by rw[cJ,List.length_append,CG,List.length_take,List.length_replicate];omega)
    obtain⟨z,hz⟩:=sG
    have ui:i<zs.length:=(List.getElem?_eq_some_iff.1 hz).1
    refine Gc ?_
    refine Gs ?_
    refine ae (aX rfl rfl i rfl (by omega)) ?_
    refine ae (bn (j:=0) rfl i hy rfl (by decide)) ?_
    have acT:Mb y _:=⟨List.mem_of_getElem? hy⟩
    iterate 2 refine Gs ?_
    refine Gc ?_
    iterate 3 refine Gs ?_
    refine Gc ?_
    iterate 2 refine Gs ?_
    refine NV (s:=⟨false,sF,0,m,mm,none⟩) (enc:=aJ) (xs:=r) (ys:=y.xs) rfl rfl (fun w hw=>gX (s:=y.sv) Tryz.underlying38 (by decide) ((inferInstance:cl _ _ aJ 1 y.sv y.xs).h w hw)) rfl (by simp only;omega) (by simp only;omega) ?_
    refine Gs ?_
    refine Gc ?_
    iterate 8 refine Gs ?_
    refine ae (Ry.to (v':=(eV (⟨false,sF,0,mm,mm,none⟩:Sv) r.length (r.length+y.xs.length)).val) (G1 (l:=r.length) (h:=(r++y.xs).length) (m:=(r++y.xs).length) rfl rfl rfl rfl rfl rfl rfl (by simp) (by simp) (by simp)) (by simp[eV,Sv.sub,Sv.top])) ?_
    refine ae (aX rfl rfl i rfl (by omega)) ?_
    refine zd (s:=⟨false,AA,0,ps.xs.length,ps.xs.length,none⟩) (xs:=zs) (k:=i) (a:=z) (⟨(eV (⟨false,sF,0,mm,mm,none⟩:Sv) r.length (r.length+y.xs.length)),y.xs⟩:Sl UInt8) (by kernel_rfl) rfl rfl (by omega) hz ?_
    refine Gc ?_
    iterate 2 refine Gs ?_
    refine Gi ?_
    exact bh (x:=(i,m,r,zs)) (i+1,m+y.xs.length,r++y.xs,zs.set i ⟨(eV (⟨false,sF,0,mm,mm,none⟩:Sv) r.length (r.length+y.xs.length)),y.xs⟩) ⟨by first|omega|(simp only[];omega),by rw[List.length_append,aH],by rw[bu,List.take_add_one,ib hy];simp,by rw[cJ];exact NZ (by rw[gh]) bu (ib hy)⟩ (by simp only;omega) (Sub.cons rfl (Sub.cons rfl (Sub.cons rfl (Sub.cons rfl (Sub.cons rfl (Sub.nil _)))))) (fun w hw=>ah.mem hw)
   ·
    replace h2:=bz h2
    obtain rfl:i=ps.xs.length:=by omega
    rw[List.take_of_length_le (by omega)]at bu cJ
    rw[Nat.sub_self,List.replicate_zero,List.append_nil]at cJ
    refine Gc ?_
    iterate 2 refine Gs ?_
    refine Gc ?_
    refine an (.inl rfl) (aK rfl (al rfl)) (fun w1 hw=> ?_)
    exact⟨⟨⟨false,AA,0,ps.xs.length,ps.xs.length,none⟩,zs⟩,rfl,by rw[cJ,rW],Hm (rm:=⟨false,sF,0,mm,mm,none⟩) cJ rfl (by rw[show m=mm by rw[aH,bu,hN],bu]at hw;exact ah.mem hw)⟩
instance acU{w0:World}{L:List aj}{ps:Sl (Sl UInt8)}[xM:aS w0 L ps]:bW Tryz.prog 108 w0 L [ps.sv.val] (Sl (Sl UInt8)) (fun zz=>zz.sv.val) (fun zz=>dY zz::L) (fun zz=>aE zz.xs=aE ps.xs) (CI (aE ps.xs)):=⟨fun hp w hw=>(Rj w ps (xM.h w hw) hp).mono fun e w' ⟨x,h1,h2,h3⟩=>⟨x,h1,h2,hw.call h3⟩⟩
open Go.aL Go.Kb
open Go.RowKit
theorem Rk(w:World)(c:Cp)(hc:Deep.bk (hp w) c)(ba:dK c):Calls Tryz.prog 67 #[.agg (aB c)] w fun e w'=> ∃zz:Cp,e= .returned (.agg (aB zz))∧(cv zz=cv c)∧Mem w [own bN 4 zz.blocks.sv zz.blocks.xs,aj.all (zz.blocks.xs.map fun b:Bk=>dY b.ag),own cX 4 zz.bc.sv zz.bc.xs] w':=by
 have gy:bT w c:=⟨hc⟩
 obtain⟨kQ,kr,np⟩:=ba
 refine aW (args:=[_]) Tryz.func67 rfl Tryz.ntmps67 rfl ?_
 change Cw _ _ _ _ _ [(0, .agg (aB c))] []
 refine Gc ?_
 refine bL rfl fun b1=> ?_
 refine bx fun b2=> ?_
 refine Gc ?_
 iterate 2 refine Gs ?_
 refine bp rfl (by omega) fun x6 Jw=> ?_
 refine Gs ?_
 refine dM (cs':=aB (⟨c.ag,c.size,⟨x6,c.blocks.xs⟩,c.ops,c.off,c.bc⟩:Cp)) rfl rfl (by show 2<6;decide) (by first|rfl|exact Sv.one _) rfl ?_
 refine Gc ?_
 iterate 4 refine Gs ?_
 refine Gc ?_
 refine bK (X:=Nat×List Bk) (fun zz=>[(11, .int .i64 (zz.1:Nat)),(1, .pointer (some ⟨b1,0,none⟩)),(2, .pointer (some ⟨b2,0,none⟩)),(10, .int .i64 (c.blocks.xs.length:Nat))]) (fun zz=>[own bN 4 x6 zz.2,aj.all ((zz.2.take zz.1).map fun b:Bk=>dY b.ag),ar b2 (aB ep) 25,ar b1 (aB (⟨c.ag,c.size,⟨x6,zz.2⟩,c.ops,c.off,c.bc⟩:Cp)) 25]) (fun zz=>zz.1≤c.blocks.xs.length∧zz.2.length=c.blocks.xs.length∧fm zz.2=fm c.blocks.xs∧ ∀j,zz.1≤j→zz.2[j]? =c.blocks.xs[j]?) (fun zz=>c.blocks.xs.length -zz.1) (0,c.blocks.xs) ⟨Nat.zero_le _,rfl,rfl,fun _ _=>rfl⟩ (Sub.cons rfl (Sub.cons rfl (Sub.cons rfl (Sub.cons rfl (Sub.nil _))))) (fun w hw=>by
  simp only[List.take_zero,List.map_nil];exact ah.mem (Mem.tM hw)) ?_
 rintro⟨i,zs⟩ ⟨bb,aH,bu,cJ⟩
 dsimp only
 simp only at bb aH bu cJ
 refine Gc ?_
 refine Gs ?_
 refine Gc ?_
 refine aq rfl (fun h0=> ?_) (fun h0=> ?_)
 ·
  replace h0:=bz h0
  obtain⟨z,hz⟩:=get_some (xs:=zs) (i:=i) (by omega)
  have n5:Mb z c.blocks:=⟨List.mem_of_getElem? (by rw[←cJ i (Nat.le_refl _)];exact hz)⟩
  refine Gc ?_
  iterate 2 refine Gs ?_
  iterate 2 refine Gi ?_
  refine zx (s:=x6) (enc:=bN) (c:=4) (xs:=zs) inferInstance (by omega) fun hn6 hs6 Rl Rm=> ?_
  refine fw [9,12,1003,1004,1006,1007,1008,1010,1011] [[],[],[],[],[3],[],[3,4],[3,4,6],[3,4,6,7],[3,4,6,7,8],[3,4,6,7,8,9],[3,4,6,7,8,9,10],[3,4,6,7,8,9,10,11]] [0,1,2,3,4,5,6,7,8,9,10,11,12] [ar b1 (aB (⟨c.ag,c.size,⟨x6,zs⟩,c.ops,c.off,c.bc⟩:Cp)) 25] (fun _ hw=>ah.mem hw) (by kernel_rfl) (by kernel_rfl) ?_
  refine ak rfl (aA (o':=2) rfl rfl) ?_
  refine ak rfl (bl rfl) ?_
  refine ak rfl (au rfl) ?_
  refine jo rfl (aA (o':=2) rfl rfl) ?_
  refine jo rfl (bl rfl) ?_
  refine ak rfl (au rfl) ?_
  refine jo rfl (aX rfl rfl i rfl (by omega)) ?_
  refine jo rfl (aA rfl rfl) ?_
  refine jo rfl (bn (j:=0) rfl i hz rfl (by decide)) ?_
  refine cK rfl (lT rfl (np z n5.h) fun lz AB=>⟨fun _ hw=>ah.mem hw,?_⟩)
  refine jo rfl (jk (s:=x6) (i:=i) rfl rfl rfl Rl (by omega)) ?_
  refine jo rfl (aA rfl rfl) ?_
  refine cK rfl (tJ (n:=1) (k:=i) (j:=0) (a:=z) (a':=({z with ag:=lz}:Bk)) (xs:=zs) (enc:=bN) (c:=4) (v:=lz.sv.val) (by kernel_rfl) rfl rfl rfl hz (by rw[Sv.hQ];simp[Sv.one]) (by rw[Sv.hQ];rfl) (by decide) (by rw[Sv.hQ];rfl) ⟨fun _ hw=>ah.mem hw,?_⟩)
  refine Gc ?_
  iterate 2 refine Gs ?_
  refine Gi ?_
  exact bh (x:=(i,zs)) (i+1,zs.set i ({z with ag:=lz}:Bk)) ⟨by first|omega|(simp only[];omega),by rw[List.length_set];exact aH,by rw[tP,←bu,show bv ({z with ag:=lz}:Bk)=bv z from by rw[bv,bv,AB],←tP,vn hz],fun j hj=>by rw[List.getElem?_set_ne (by first|omega|(simp only[];omega))];exact cJ j (by first|omega|(simp only[];omega))⟩ (by simp only;omega) (Sub.cons rfl (Sub.cons rfl (Sub.cons rfl (Sub.cons rfl (Sub.nil _))))) (fun w hw=>by
   have h1:=Mem.vm (e:=dY lz) (es:=(zs.take i).map fun b:Bk=>dY b.ag) (ah.mem hw:Mem _ (dY lz::aj.all ((zs.take i).map fun b:Bk=>dY b.ag)::[own bN 4 x6 (zs.set i ({z with ag:=lz}:Bk)),ar b2 (aB ep) 25,ar b1 (aB (⟨c.ag,c.size,⟨x6,zs⟩,c.ops,c.off,c.bc⟩:Cp)) 25]) _)
   rw[N9 (z':=({z with ag:=lz}:Bk)) hz]at h1
   exact(ah.mem h1:Mem _ [own bN 4 x6 (zs.set i ({z with ag:=lz}:Bk)),aj.all (((zs.set i ({z with ag:=lz}:Bk)).take (i+1)).map fun b:Bk=>dY b.ag),ar b2 (aB ep) 25,ar b1 (aB (⟨c.ag,c.size,⟨x6,zs⟩,c.ops,c.off,c.bc⟩:Cp)) 25] _))
 ·
  replace h0:=bz h0
  obtain rfl:i=zs.length:=by omega
  rw[List.take_of_length_le (Nat.le_refl _)]at*
  refine Gc ?_
  refine Gs ?_
  refine ae (Ry.to (v':=c.bc.sv.val) (bl rfl) rfl) ?_
  refine bp rfl (by omega) fun vV D0=> ?_
  refine Gs ?_
  refine dM (cs':=aB (⟨c.ag,c.size,⟨x6,zs⟩,c.ops,c.off,⟨vV,c.bc.xs⟩⟩:Cp)) rfl rfl (by show 5<6;decide) (by first|rfl|exact Sv.one _) rfl ?_
  refine Gc ?_
  iterate 2 refine Gs ?_
  refine Gc ?_
  refine an (.inl rfl) (aK rfl (bG rfl)) (fun w1 hw=> ?_)
  exact⟨⟨c.ag,c.size,⟨x6,zs⟩,c.ops,c.off,⟨vV,c.bc.xs⟩⟩,rfl,by simp only[cv,bu],ah.mem hw⟩
instance acV{w0:World}{L:List aj}{c:Cp}[hc:aS w0 L c]:bW Tryz.prog 67 w0 L [.agg (aB c)] (Cp) (fun zz=> .agg (aB zz)) (fun zz=>own bN 4 zz.blocks.sv zz.blocks.xs::aj.all (zz.blocks.xs.map fun b:Bk=>dY b.ag)::own cX 4 zz.bc.sv zz.bc.xs::L) (fun zz=>cv zz=cv c) (dK c):=⟨fun hp w hw=>(Rk w c (hc.h w hw) hp).mono fun e w' ⟨x,h1,h2,h3⟩=>⟨x,h1,h2,hw.call h3⟩⟩
theorem Rn(w:World)(c:Cp)(b:Int)(hc:Deep.bk (hp w) c):Calls Tryz.prog 159 #[.agg (aB c), .int .i64 b] w fun e w'=>e= .returned (.bool (ko (cv c) b))∧Mem w [] w':=by
 have gy:bT w c:=⟨hc⟩
 refine aW (args:=[_,_]) Tryz.func159 rfl Tryz.ntmps159 rfl ?_
 change Cw _ _ _ _ _ [(0, .agg (aB c)),(1, .int .i64 b)] []
 refine Gc ?_
 refine bL rfl fun b2=> ?_
 refine Gs ?_
 refine Gc ?_
 iterate 3 refine Gs ?_
 iterate 2 refine Gg ?_
 iterate 2 refine Gs ?_
 iterate 5 refine Gg ?_
 iterate 2 refine Gs ?_
 refine Gc ?_
 refine an (.inl rfl) (aK rfl (al rfl)) (fun w1 hw=> ?_)
 exact⟨congrArg (fun b=>Ending.returned (Value.bool b)) ((by simp only[ko,cv,dH])),ah.mem hw⟩
instance acW{w0:World}{L:List aj}{c:Cp}{b:Int}[hc:aS w0 L c]:bU Tryz.prog 159 w0 L [.agg (aB c), .int .i64 b] (.bool (ko (cv c) b)) (True):=⟨fun hp w hw=>Rn w c b (hc.h w hw)⟩
theorem Ro(w:World)(c:Cp)(hc:Deep.bk (hp w) c)(ba:c.bc.xs.length≤1000000):Calls Tryz.prog 160 #[.agg (aB c)] w fun e w'=>e= .returned (.tuple #[.agg (cX ((bR (cv c)).1)), .bool ((bR (cv c)).2)])∧Mem w [] w':=by
 have gy:bT w c:=⟨hc⟩
 refine aW (args:=[_]) Tryz.func160 rfl Tryz.ntmps160 rfl ?_
 change Cw _ _ _ _ _ [(0, .agg (aB c))] []
 refine Gc ?_
 refine bL rfl fun b1=> ?_
 refine bx fun b2=> ?_
 refine Gs ?_
 refine Gc ?_
 iterate 4 refine Gs ?_
 refine Gc ?_
 refine bK (X:=Nat) (fun zz=>[(9, .int .i64 (zz:Nat)),(1, .pointer (some ⟨b1,0,none⟩)),(2, .pointer (some ⟨b2,0,none⟩)),(7,c.bc.sv.val),(8, .int .i64 (c.bc.xs.length:Nat))]) (fun zz=>[ar b2 (cX vg) 94,ar b1 (aB c) 25]) (fun zz=>zz≤c.bc.xs.length∧ ∀j f,j<zz→c.bc.xs[j]? =Option.some f→f.op≠c.ops) (fun zz=>c.bc.xs.length -zz) 0 ⟨Nat.zero_le _,fun j f hj=>by first|omega|(simp only[];omega)⟩ (Sub.cons rfl (Sub.cons rfl (Sub.cons rfl (Sub.cons rfl (Sub.cons rfl (Sub.nil _)))))) (fun w hw=>ah.mem hw) ?_
 rintro i ⟨bb,aH⟩
 refine Gc ?_
 refine Gs ?_
 refine Gc ?_
 refine aq rfl (fun h0=> ?_) (fun h0=> ?_)
 ·
  replace h0:=bz h0
  iterate 6 refine Gi ?_
  obtain⟨f,hf⟩:=get_some (xs:=c.bc.xs) (i:=i) (by omega)
  refine ae (aX rfl rfl i rfl (by omega)) ?_
  refine ae (fH rfl i hf rfl) ?_
  refine bx fun b5=> ?_
  refine Gs ?_
  refine Gc ?_
  iterate 5 refine Gs ?_
  refine Gc ?_
  refine aq rfl (fun h1=> ?_) (fun h1=> ?_)
  ·
   replace h1:=bz h1
   have hs:bR (cv c)=(f,f.cut||f.fail):=Ob hf aH h1
   refine Gi ?_
   refine fw [7] [[],[],[],[],[],[],[],[],[7]] [0,1,2,3,4,5,6,7,8] [ar b5 (cX f) 94,ar b1 (aB c) 25] (fun _ hw=>ah.mem hw) (by kernel_rfl) (by kernel_rfl) ?_
   refine ak rfl (dW rfl) ?_
   refine ak rfl (aA (o':=2) rfl rfl) ?_
   refine ak rfl (bl rfl) ?_
   refine ak rfl (au rfl) ?_
   refine GU rfl rfl rfl rfl (fun hg=>(Ry.yl (aA (o':=1) rfl rfl))) ?_
   refine GU rfl rfl rfl rfl (fun hg=>(Ry.yl (bl (av hg rfl)))) ?_
   refine ak rfl (hM rfl rfl rfl) ?_
   refine cK rfl (km rfl rfl ⟨fun _ hw=>ah.mem hw,?_⟩)
   refine ak rfl (aP rfl) ?_
   refine Gc ?_
   refine an (.inl rfl) (aZ rfl (bG rfl) (al rfl)) (fun w1 hw=> ?_)
   exact⟨(by rw[hs]),ah.mem hw⟩
  ·
   replace h1:=bz h1
   refine Gc ?_
   iterate 2 refine Gs ?_
   refine Gi ?_
   exact bh (x:=(i)) (i+1) ⟨by first|omega|(simp only[];omega),fun j g hj hg=>if e:j=i then(by subst e;rw[hf]at hg;cases hg;exact h1)else aH j g (by first|omega|(simp only[];omega)) hg⟩ (by first|omega|(simp only[];omega)) (Sub.cons rfl (Sub.cons rfl (Sub.cons rfl (Sub.cons rfl (Sub.cons rfl (Sub.nil _)))))) (fun w hw=>ah.mem hw)
 ·
  replace h0:=bz h0
  obtain rfl:i=c.bc.xs.length:=by omega
  have hs:bR (cv c)=(vg,false):=Oa (fun f hf=>by
   obtain⟨j,hj⟩:=List.getElem?_of_mem hf
   exact aH j f (List.getElem?_eq_some_iff.1 hj).1 hj)
  refine Gc ?_
  refine ae (bV (v:= .agg (cX vg)) rfl (fun w=>by kernel_rfl)) ?_
  iterate 2 refine Gs ?_
  refine Gc ?_
  refine an (.inl rfl) (aZ rfl (bG rfl) (al rfl)) (fun w1 hw=> ?_)
  exact⟨(by rw[hs]),ah.mem hw⟩
instance acX{w0:World}{L:List aj}{c:Cp}[hc:aS w0 L c]:bU Tryz.prog 160 w0 L [.agg (aB c)] (.tuple #[.agg (cX ((bR (cv c)).1)), .bool ((bR (cv c)).2)]) (c.bc.xs.length≤1000000):=⟨fun hp w hw=>Ro w c (hc.h w hw) hp⟩
theorem Rp(w:World)(f:Ft):Calls Tryz.prog 161 #[.agg (cX f)] w fun e w'=>e= .returned (.tuple #[.bool f.cut, .int .i64 (mG f)])∧Mem w [] w':=by
 refine aW (args:=[_]) Tryz.func161 rfl Tryz.ntmps161 rfl ?_
 change Cw _ _ _ _ _ [(0, .agg (cX f))] []
 refine Gc ?_
 refine bL rfl fun b1=> ?_
 iterate 2 refine Gs ?_
 refine Gc ?_
 iterate 2 refine Gs ?_
 refine Gc ?_
 refine aq rfl (fun h0=> ?_) (fun h0=> ?_)
 ·
  replace h0:=bz h0
  refine Gc ?_
  iterate 2 refine Gs ?_
  refine Gc ?_
  refine an (.inl rfl) (aZ rfl (al rfl) (al rfl)) (fun w1 hw=> ?_)
  exact⟨(by rw[mG,if_pos h0,h0]),ah.mem hw⟩
 ·
  replace h0:=bz h0
  refine Gc ?_
  iterate 2 refine Gs ?_
  refine Gc ?_
  refine an (.inl rfl) (aZ rfl (al rfl) (al rfl)) (fun w1 hw=> ?_)
  exact⟨(by rw[mG,if_neg (by rw[h0];simp),h0]),ah.mem hw⟩
instance acY{w0:World}{L:List aj}{f:Ft}:bU Tryz.prog 161 w0 L [.agg (cX f)] (.tuple #[.bool f.cut, .int .i64 (mG f)]) (True):=⟨fun hp w hw=>Rp w f⟩
open Go.aL Go.Kb
open Go.RowKit
theorem Rq(w:World)(c:Cp)(b:Int)(hc:Deep.bk (hp w) c)(ba:dK c):Calls Tryz.prog 162 #[.agg (aB c), .int .i64 b] w fun e w'=> ∃zz:Cp,e= .returned (.tuple #[.agg (aB zz), .int .i64 (oT (cv c) b)])∧(cv zz=nP (cv c) b)∧Mem w [fz zz] w':=by
 have gy:bT w c:=⟨hc⟩
 have kv:dK c:=ba
 obtain⟨kQ,kr,np⟩:=ba
 refine aW (args:=[_,_]) Tryz.func162 rfl Tryz.ntmps162 rfl ?_
 change Cw _ _ _ _ _ [(0, .agg (aB c)),(1, .int .i64 b)] []
 refine Gc ?_
 refine bL rfl fun b2=> ?_
 refine bx fun b4=> ?_
 refine Gs ?_
 refine Gc ?_
 refine Gs ?_
 refine bp rfl (by assumption) fun x8 n6=> ?_
 refine bx fun b6=> ?_
 refine Gs ?_
 refine Gc ?_
 iterate 4 refine Gs ?_
 refine Gc ?_
 refine aq rfl (fun h0=> ?_) (fun h0=> ?_)
 ·
  replace h0:=bz h0
  have hE:oT (cv c) b=1:=by rw[oT,if_neg (by rw[h0];simp)]
  refine Gc ?_
  iterate 3 refine Gs ?_
  refine Gc ?_
  refine an (.inl rfl) (aZ rfl (bG rfl) (al rfl)) (fun w1 hw=> ?_)
  exact⟨x8,by rw[hE],by rw[n6,nP,if_neg (by rw[hE];decide)],lZ x8 (ah.mem hw)⟩
 ·
  replace h0:=bz h0
  have hk:ko (cv c) b=true:=h0
  have hh:=hk
  have sH:=(lX.1 hh).2
  have cO:x8.blocks.xs.length=c.blocks.xs.length:=by have:=congrArg (fun v:CV=>v.blocks.length) n6;simpa only[cv,dH]using this
  have xN:x8.ops=c.ops:=congrArg CV.ops n6
  have mf:(cv c).blocks.length=c.blocks.xs.length:=dH _
  obtain⟨B,hB⟩:=get_some (xs:=x8.blocks.xs) (i:=b.toNat) (by omega)
  have lA:b.toNat<x8.blocks.xs.length:=(List.getElem?_eq_some_iff.1 hB).1
  have dx:bv B=aO (cv c) b:=by
   have h1:=zK hh
   have h2:=fK hB
   rw[show fm x8.blocks.xs=(cv c).blocks from congrArg CV.blocks n6,h1]at h2
   exact(Option.some.inj h2).symm
  have eu:k7 c.ag c.size (bv B)=true:=by rw[dx];exact tO hh
  obtain⟨o1,o2,o3,o4,o5,o6⟩:=eM.1 eu
  have fB:=ik.1 (dE.1 (lX.1 hh).1).1
  have xO:=(dE.1 (lX.1 hh).1).2.1
  simp only[bv,cv]at o1 o2 o3 o4 o5 o6 fB xO
  have Jx:=fk B.ag.xs
  refine Gc ?_
  iterate 2 refine Gs ?_
  refine Gc ?_
  refine aq rfl (fun h1=> ?_) (fun h1=> ?_)
  ·
   replace h1:=bz h1
   have hE:oT (cv c) b=7:=by rw[oT,if_pos hk,if_pos (show(cv c).off=true from h1)]
   refine Gc ?_
   iterate 3 refine Gs ?_
   refine Gc ?_
   refine an (.inl rfl) (aZ rfl (bG rfl) (al rfl)) (fun w1 hw=> ?_)
   exact⟨x8,by rw[hE],by rw[n6,nP,if_neg (by rw[hE];decide)],lZ x8 (ah.mem hw)⟩
  ·
   replace h1:=bz h1
   have hE:oT (cv c) b=0:=by rw[oT,if_pos hk,if_neg (by rw[show(cv c).off=false from h1];simp)]
   refine Gc ?_
   iterate 3 refine Gs ?_
   refine ae (aX rfl rfl b.toNat (by omega) lA) ?_
   refine ae (aA rfl rfl) ?_
   refine jU (s:=x8.blocks.sv) (n:=1) (k:=b.toNat) (j:=3) (a:=B) (a':=(⟨B.ag,B.used,B.bE,true⟩:Bk)) (xs:=x8.blocks.xs) (enc:=bN) (c:=4) (v:= .bool true) (by kernel_rfl) rfl rfl rfl hB (by simp[Value.cells,Value.oneCell']) (by rfl) (by decide) (by rfl) ?_
   refine Gc ?_
   iterate 3 refine Gs ?_
   refine Gc ?_
   refine an (.inl rfl) (aZ rfl (bG rfl) (al rfl)) (fun w1 hw=> ?_)
   exact⟨(⟨x8.ag,x8.size,⟨x8.blocks.sv,x8.blocks.xs.set b.toNat (⟨B.ag,B.used,B.bE,true⟩:Bk)⟩,x8.ops,x8.off,x8.bc⟩:Cp),by rw[hE];rfl,by rw[Oi n6 dx,nP,if_pos hE],lZ (⟨x8.ag,x8.size,⟨x8.blocks.sv,x8.blocks.xs.set b.toNat (⟨B.ag,B.used,B.bE,true⟩:Bk)⟩,x8.ops,x8.off,x8.bc⟩:Cp) (by
    simp only[Oh hB (B':=(⟨B.ag,B.used,B.bE,true⟩:Bk)) rfl]
    exact ah.mem hw)⟩
instance acZ{w0:World}{L:List aj}{c:Cp}{b:Int}[hc:aS w0 L c]:bW Tryz.prog 162 w0 L [.agg (aB c), .int .i64 b] (Cp) (fun zz=> .tuple #[.agg (aB zz), .int .i64 (oT (cv c) b)]) (fun zz=>fz zz::L) (fun zz=>cv zz=nP (cv c) b) (dK c):=⟨fun hp w hw=>(Rq w c b (hc.h w hw) hp).mono fun e w' ⟨x,h1,h2,h3⟩=>⟨x,h1,h2,hw.call h3⟩⟩
theorem Rr(w:World)(c:Cp)(fs:Sv)(lB:List Ft)(hc:Deep.bk (hp w) c)(D1:bM cX 4 (hp w) fs lB)(ba:dK c):Calls Tryz.prog 32 #[.agg (aB c),fs.val] w fun e w'=> ∃zz:Cp,e= .returned (.tuple #[.agg (aB zz), .int .i64 (qO (cv c) lB)])∧(cv zz=vk (cv c) lB)∧Mem w [fz zz] w':=by
 have gy:bT w c:=⟨hc⟩
 have ac0:Gv w fs cX 4 lB:=⟨D1⟩
 have kv:dK c:=ba
 obtain⟨kQ,kr,np⟩:=ba
 refine aW (args:=[_,_]) Tryz.func32 rfl Tryz.ntmps32 rfl ?_
 change Cw _ _ _ _ _ [(0, .agg (aB c)),(1,fs.val)] []
 refine Gc ?_
 refine bL rfl fun b2=> ?_
 refine bx fun b4=> ?_
 refine Gs ?_
 refine Gc ?_
 refine Gs ?_
 refine bp rfl (by assumption) fun x8 n6=> ?_
 refine bx fun b6=> ?_
 refine Gs ?_
 refine Gc ?_
 iterate 4 refine Gs ?_
 iterate 3 refine Gg ?_
 refine Gs ?_
 refine Gc ?_
 refine aq rfl (fun h0=> ?_) (fun h0=> ?_)
 ·
  replace h0:=bz h0
  have hE:qO (cv c) lB=1:=by rw[qO,if_neg (fun h=>by rw[h.1]at h0;simp only[Bool.true_eq_false,false_or]at h0;omega)]
  refine Gc ?_
  iterate 3 refine Gs ?_
  refine Gc ?_
  refine an (.inl rfl) (aZ rfl (bG rfl) (al rfl)) (fun w1 hw=> ?_)
  exact⟨x8,by rw[hE],by rw[n6,vk,if_neg (by rw[hE];decide)],lZ x8 (ah.mem hw)⟩
 ·
  replace h0:=bz h0
  have hE:qO (cv c) lB=0:=by
   rw[qO,if_pos]
   cases hk:bg (cv c)with
   |false=>rw[hk]at h0;simp at h0
   |true=>exact⟨rfl,by rw[hk]at h0;simp only[Bool.true_eq_false,not_false_eq_true,true_and]at h0;omega⟩
  have dC:lB.length≤64:=by
   by_cases h9:bg (cv c)=true∧lB.length≤64
   ·
    exact h9.2
   ·
    rw[qO,if_neg h9]at hE;cases hE
  refine Gc ?_
  refine Gs ?_
  refine dM (cs':=aB (⟨x8.ag,x8.size,x8.blocks,x8.ops,false,x8.bc⟩:Cp)) rfl rfl (by show 4<6;decide) (by first|rfl|exact Sv.one _) rfl ?_
  refine Gc ?_
  refine Gs ?_
  refine bp rfl (by omega) fun gg um=> ?_
  refine Gs ?_
  refine dM (cs':=aB (⟨x8.ag,x8.size,x8.blocks,x8.ops,false,⟨gg,lB⟩⟩:Cp)) rfl rfl (by show 5<6;decide) (by first|rfl|exact Sv.one _) rfl ?_
  refine Gc ?_
  iterate 3 refine Gs ?_
  refine Gc ?_
  refine an (.inl rfl) (aZ rfl (bG rfl) (al rfl)) (fun w1 hw=> ?_)
  exact⟨(⟨x8.ag,x8.size,x8.blocks,x8.ops,false,⟨gg,lB⟩⟩:Cp),by rw[hE],by rw[vk,if_pos hE,←n6];rfl,lZ (⟨x8.ag,x8.size,x8.blocks,x8.ops,false,⟨gg,lB⟩⟩:Cp) (ah.mem hw)⟩
instance ac1{w0:World}{L:List aj}{c:Cp}{fs:Sv}{lB:List Ft}[hc:aS w0 L c][D1:cl w0 L cX 4 fs lB]:bW Tryz.prog 32 w0 L [.agg (aB c),fs.val] (Cp) (fun zz=> .tuple #[.agg (aB zz), .int .i64 (qO (cv c) lB)]) (fun zz=>fz zz::L) (fun zz=>cv zz=vk (cv c) lB) (dK c):=⟨fun hp w hw=>(Rr w c fs lB (hc.h w hw) (D1.h w hw) hp).mono fun e w' ⟨x,h1,h2,h3⟩=>⟨x,h1,h2,hw.call h3⟩⟩
open Go.aL Go.Kb
open Go.RowKit
theorem Rs(w:World)(b:Sv)(bs:List UInt8)(hb:bM aJ 1 (hp w) b bs):Calls Tryz.prog 155 #[.int .u32 0,b.val] w fun e w'=>e= .returned (.int .u32 (gp bs:Nat))∧Mem w [] w':=by
 have nq:Gv w b aJ 1 bs:=⟨hb⟩
 have fJ:=hb.bd
 refine aW (args:=[_,_]) Tryz.func155 rfl Tryz.ntmps155 rfl ?_
 change Cw _ _ _ _ _ [(0, .int .u32 0),(1,b.val)] []
 refine Gc ?_
 refine Gs ?_
 refine Gc ?_
 refine Gs ?_
 refine ae (HD (p:=0) rfl rfl (by decide)) ?_
 refine Gs ?_
 refine Gc ?_
 iterate 3 refine Gs ?_
 refine Gc ?_
 refine bK (X:=Nat) (fun zz=>[(13, .int .i64 (zz:Nat)),(5, .int .u32 (eG 4294967295 (bs.take zz):Nat)),(11,b.val),(12, .int .i64 (bs.length:Nat))]) (fun zz=>[]) (fun zz=>zz≤bs.length) (fun zz=>bs.length -zz) 0 (Nat.zero_le _) (Sub.cons rfl (Sub.cons rfl (Sub.cons rfl (Sub.cons rfl (Sub.nil _))))) (fun w hw=>ah.mem hw) ?_
 rintro i hi
 have bB:eG 4294967295 (bs.take i)<2^32:=tL (by decide) _
 refine Gc ?_
 refine Gs ?_
 refine Gc ?_
 refine aq rfl (fun h0=> ?_) (fun h0=> ?_)
 ·
  replace h0:=bz h0
  obtain⟨y,he⟩:=get_some (xs:=bs) (i:=i) (by omega)
  have hy:=y.toNat_lt
  have dr:eG 4294967295 (bs.take i)^^^y.toNat<2^32:=Nat.xor_lt_two_pow (tL (by decide) _) (by omega)
  refine Gc ?_
  refine ae (aX rfl rfl i rfl (by omega)) ?_
  refine ae (bn (j:=0) rfl i he rfl (by decide)) ?_
  refine Gs ?_
  refine Gc ?_
  iterate 2 refine Gs ?_
  refine ae (mw rfl (by simp only[nb];omega)) ?_
  refine ae (yW rfl rfl rfl rfl (by simp only[nb];omega) (by simp only[nb];omega)) ?_
  refine Gs ?_
  refine Gc ?_
  refine Gs ?_
  refine Gc ?_
  refine bK (X:=Nat) (fun zz=>[(21, .int .i64 (zz:Nat)),(5, .int .u32 ((ia (eG 4294967295 (bs.take i)^^^y.toNat) zz):Nat)),(11,b.val),(12, .int .i64 (bs.length:Nat)),(13, .int .i64 (i:Nat))]) (fun zz=>[]) (fun zz=>zz≤8) (fun zz=>8 -zz) 0 (Nat.zero_le _) (Sub.cons rfl (Sub.cons rfl (Sub.cons rfl (Sub.cons rfl (Sub.cons rfl (Sub.nil _)))))) (fun w hw=>ah.mem hw) ?_
  rintro k hk
  refine Gc ?_
  refine Gs ?_
  refine Gc ?_
  refine aq rfl (fun h1=> ?_) (fun h1=> ?_)
  ·
   replace h1:=bz h1
   have rU:(ia (eG 4294967295 (bs.take i)^^^y.toNat) k)<2^32:=zB dr k
   have D2:(ia (eG 4294967295 (bs.take i)^^^y.toNat) k)/2<2^32:=by omega
   refine Gc ?_
   refine Gs ?_
   refine ae (Ry.to (v':= .int .u32 (((ia (eG 4294967295 (bs.take i)^^^y.toNat) k)%2:Nat):Int)) (LA (p:=(ia (eG 4294967295 (bs.take i)^^^y.toNat) k)) (q:=1) rfl rfl rfl rfl (by simp only[nb];omega) (by decide)) (by rw[Nat.and_one_is_mod])) ?_
   refine Gs ?_
   refine Gc ?_
   refine Gs ?_
   refine ae (tm (p:=(ia (eG 4294967295 (bs.take i)^^^y.toNat) k)) rfl rfl (by simp only[nb];omega) (by omega)) ?_
   refine Gs ?_
   refine Gc ?_
   iterate 2 refine Gs ?_
   refine ae (FW (p:=3988292384) (q:=(ia (eG 4294967295 (bs.take i)^^^y.toNat) k)%2) rfl rfl rfl rfl (by simp only[nb];omega)) ?_
   refine ae (Ry.to (v':= .int .u32 ((ia (eG 4294967295 (bs.take i)^^^y.toNat) (k+1):Nat):Int)) (yW (p:=(ia (eG 4294967295 (bs.take i)^^^y.toNat) k)/2^1) (q:=3988292384*((ia (eG 4294967295 (bs.take i)^^^y.toNat) k)%2)) rfl rfl rfl rfl (by simp only[nb];omega) (by simp only[nb];omega)) (by rw[ia,xm];rcases Nat.mod_two_eq_zero_or_one (ia (eG 4294967295 (bs.take i)^^^y.toNat) k)with h|h<;>rw[h]<;>rfl)) ?_
   refine Gs ?_
   refine Gc ?_
   iterate 2 refine Gs ?_
   refine Gi ?_
   exact bh (x:=(k)) (k+1) (by first|omega|(simp only[];omega)) (by first|omega|(simp only[];omega)) (Sub.cons rfl (Sub.cons rfl (Sub.cons rfl (Sub.cons rfl (Sub.cons rfl (Sub.nil _)))))) (fun w hw=>ah.mem hw)
  ·
   replace h1:=bz h1
   obtain rfl:k=8:=by omega
   refine Gc ?_
   iterate 2 refine Gs ?_
   refine Gi ?_
   exact bh (x:=(i)) (i+1) (by first|omega|(simp only[];omega)) (by first|omega|(simp only[];omega)) (Sub.cons rfl (Sub.cons (look_eq rfl (by rw[G5 he];rfl)) (Sub.cons rfl (Sub.cons rfl (Sub.nil _))))) (fun w hw=>ah.mem hw)
 ·
  replace h0:=bz h0
  obtain rfl:i=bs.length:=by omega
  refine Gc ?_
  refine Gs ?_
  refine ae (HD (p:=eG 4294967295 (bs.take bs.length)) rfl rfl (tL (by decide) _)) ?_
  refine Gs ?_
  refine Gc ?_
  refine an (.inl rfl) (aK rfl (al rfl)) (fun w1 hw=> ?_)
  exact⟨(by rw[List.take_length];rfl),ah.mem hw⟩
instance ac2{w0:World}{L:List aj}{b:Sv}{bs:List UInt8}[hb:cl w0 L aJ 1 b bs]:bU Tryz.prog 155 w0 L [.int .u32 0,b.val] (.int .u32 (gp bs:Nat)) (True):=⟨fun hp w hw=>Rs w b bs (hb.h w hw)⟩
theorem Ru(w:World)(b:Sv)(bs:List UInt8)(hb:bM aJ 1 (hp w) b bs):Calls Tryz.prog 135 #[b.val] w fun e w'=>e= .returned (.int .u32 (gp bs:Nat))∧Mem w [] w':=by
 have nq:Gv w b aJ 1 bs:=⟨hb⟩
 refine aW (args:=[_]) Tryz.func135 rfl Tryz.ntmps135 rfl ?_
 change Cw _ _ _ _ _ [(0,b.val)] []
 refine Gc ?_
 refine Gs ?_
 refine Gc ?_
 iterate 3 refine Gs ?_
 refine Gc ?_
 refine an (.inl rfl) (aK rfl (al rfl)) (fun w1 hw=> ?_)
 exact⟨rfl,ah.mem hw⟩
instance ac3{w0:World}{L:List aj}{b:Sv}{bs:List UInt8}[hb:cl w0 L aJ 1 b bs]:bU Tryz.prog 135 w0 L [b.val] (.int .u32 (gp bs:Nat)) (True):=⟨fun hp w hw=>Ru w b bs (hb.h w hw)⟩
theorem Rv(w:World)(n:Nat)(many:Nat)(ba:n<2^64∧1≤many∧many≤8):Calls Tryz.prog 163 #[.int .u64 (n:Nat), .int .i64 (many:Nat)] w fun e w'=> ∃zz:Sv,e= .returned (zz.val)∧(True)∧Mem w [own aJ 1 zz (be n many)] w':=by
 obtain⟨kQ,kr,np⟩:=ba
 refine aW (args:=[_,_]) Tryz.func163 rfl Tryz.ntmps163 rfl ?_
 change Cw _ _ _ _ _ [(0, .int .u64 (n:Nat)),(1, .int .i64 (many:Nat))] []
 refine Gc ?_
 refine Gs ?_
 refine Gc ?_
 iterate 3 refine Gs ?_
 iterate 2 refine Gg ?_
 refine Gs ?_
 refine Gc ?_
 refine aq rfl (fun h0=> ?_) (fun h0=> ?_)
 ·
  replace h0:=bz h0
  exfalso;omega
 ·
  replace h0:=bz h0
  refine Gc ?_
  refine Gs ?_
  refine rJ (enc:=aJ) (n:=many) (cap:=many) 0 rfl rfl rfl rfl rfl (by omega) (by omega) (by omega) fun AD=> ?_
  refine Gs ?_
  refine Gc ?_
  refine Gs ?_
  refine ae (Ry.to (v':= .int .i64 (many:Nat)) (iT rfl) (by simp)) ?_
  refine Gs ?_
  refine Gc ?_
  refine bK (X:=Nat) (fun zz=>[(17, .int .i64 (zz:Nat)),(5,(⟨false,AD,0,many,many,none⟩:Sv).val),(0, .int .u64 (n:Nat)),(1, .int .i64 (many:Nat)),(16, .int .i64 (many:Nat))]) (fun zz=>[own aJ 1 ⟨false,AD,0,many,many,none⟩ (List.replicate (many -zz) (0:UInt8)++be n zz)]) (fun zz=>zz≤many) (fun zz=>many -zz) 0 (Nat.zero_le _) (Sub.cons rfl (Sub.cons rfl (Sub.cons rfl (Sub.cons rfl (Sub.cons rfl (Sub.nil _)))))) (fun w hw=>by rw[show List.replicate (many -0) (0:UInt8)++be n 0=List.replicate many 0 from by rw[be,List.append_nil,Nat.sub_zero]];exact ah.mem hw) ?_
  rintro i hi
  have cO:=jl n i
  have zM:(List.replicate (many -i) (0:UInt8)++be n i).length=many:=by rw[List.length_append,List.length_replicate,cO];omega
  refine Gc ?_
  refine Gs ?_
  refine Gc ?_
  refine aq rfl (fun h1=> ?_) (fun h1=> ?_)
  ·
   replace h1:=bz h1
   refine Gc ?_
   iterate 2 refine Gs ?_
   refine Gc ?_
   iterate 7 refine Gs ?_
   refine ae (nE rfl rfl (by omega)) ?_
   refine ae (Ry.to (v':= .int .u64 ((n/256^i:Nat):Int)) (tm (p:=n) rfl rfl (by simp only[nb];omega) (by omega)) (by rw[show(8*(i:Int)).toNat=8*i by omega,Nat.pow_mul])) ?_
   refine ae (uZ rfl rfl) ?_
   refine ae (aX rfl rfl (many -1 -i) (by omega) (by omega)) ?_
   refine Q4 rfl rfl (by rw[List.getElem?_append_left (by rw[List.length_replicate];omega),List.getElem?_replicate,if_pos (by omega)]) rfl ?_
   refine Gc ?_
   iterate 2 refine Gs ?_
   refine Gi ?_
   exact bh (x:=(i)) (i+1) (by first|omega|(simp only[];omega)) (by first|omega|(simp only[];omega)) (Sub.cons rfl (Sub.cons rfl (Sub.cons rfl (Sub.cons rfl (Sub.cons rfl (Sub.nil _)))))) (fun w hw=>by rw[On (by omega)]at hw;exact ah.mem hw)
  ·
   replace h1:=bz h1
   have Rw:i=many:=by omega
   refine Gc ?_
   iterate 2 refine Gs ?_
   refine Gc ?_
   refine an (.inl rfl) (aK rfl (al rfl)) (fun w1 hw=> ?_)
   exact⟨⟨false,AD,0,many,many,none⟩,rfl,trivial,by rw[Rw,Nat.sub_self,List.replicate_zero,List.nil_append]at hw;exact ah.mem hw⟩
instance ac4{w0:World}{L:List aj}{n:Nat}{many:Nat}:bW Tryz.prog 163 w0 L [.int .u64 (n:Nat), .int .i64 (many:Nat)] (Sv) (fun zz=>zz.val) (fun zz=>own aJ 1 zz (be n many)::L) (fun zz=>True) (n<2^64∧1≤many∧many≤8):=⟨fun hp w hw=>(Rv w n many hp).mono fun e w' ⟨x,h1,h2,h3⟩=>⟨x,h1,h2,hw.call h3⟩⟩
theorem Rx(w:World)(b:Sv)(bs:List UInt8)(hb:bM aJ 1 (hp w) b bs)(ba:bs.length≤7):Calls Tryz.prog 134 #[b.val] w fun e w'=>e= .returned (.int .u64 (de bs:Nat))∧Mem w [] w':=by
 have nq:Gv w b aJ 1 bs:=⟨hb⟩
 refine aW (args:=[_]) Tryz.func134 rfl Tryz.ntmps134 rfl ?_
 change Cw _ _ _ _ _ [(0,b.val)] []
 refine Gc ?_
 refine Gs ?_
 refine Gc ?_
 refine Gs ?_
 refine Gc ?_
 iterate 3 refine Gs ?_
 refine Gc ?_
 refine bK (X:=Nat) (fun zz=>[(8, .int .i64 (zz:Nat)),(3, .int .u64 (de (bs.take zz):Nat)),(6,b.val),(7, .int .i64 (bs.length:Nat))]) (fun zz=>[]) (fun zz=>zz≤bs.length) (fun zz=>bs.length -zz) 0 (Nat.zero_le _) (Sub.cons rfl (Sub.cons rfl (Sub.cons rfl (Sub.cons rfl (Sub.nil _))))) (fun w hw=>ah.mem hw) ?_
 rintro i hi
 refine Gc ?_
 refine Gs ?_
 refine Gc ?_
 refine aq rfl (fun h0=> ?_) (fun h0=> ?_)
 ·
  replace h0:=bz h0
  obtain⟨y,he⟩:=get_some (xs:=bs) (i:=i) (by omega)
  have hy:=y.toNat_lt
  have bB:de (bs.take i)<256^6:=Nat.lt_of_lt_of_le (y7 bs i hi) (Nat.pow_le_pow_right (by decide) (by omega))
  refine Gc ?_
  refine ae (aX rfl rfl i rfl (by omega)) ?_
  refine ae (bn (j:=0) rfl i he rfl (by decide)) ?_
  refine Gs ?_
  refine Gc ?_
  refine Gs ?_
  refine ae (Om (p:=de (bs.take i)) rfl rfl rfl (by omega)) ?_
  refine Gs ?_
  refine ae (mw rfl (by simp only[nb];omega)) ?_
  refine ae (yV (p:=de (bs.take i)*256) (q:=y.toNat) rfl rfl rfl rfl (by simp only[nb];omega) (by simp only[nb];omega)) ?_
  refine Gs ?_
  refine Gc ?_
  iterate 2 refine Gs ?_
  refine Gi ?_
  exact bh (x:=(i)) (i+1) (by first|omega|(simp only[];omega)) (by first|omega|(simp only[];omega)) (Sub.cons rfl (Sub.cons (look_eq rfl (by rw[BR he,FX _ _ hy])) (Sub.cons rfl (Sub.cons rfl (Sub.nil _))))) (fun w hw=>ah.mem hw)
 ·
  replace h0:=bz h0
  obtain rfl:i=bs.length:=by omega
  refine Gc ?_
  iterate 2 refine Gs ?_
  refine Gc ?_
  refine an (.inl rfl) (aK rfl (al rfl)) (fun w1 hw=> ?_)
  exact⟨(by rw[List.take_length]),ah.mem hw⟩
instance ac5{w0:World}{L:List aj}{b:Sv}{bs:List UInt8}[hb:cl w0 L aJ 1 b bs]:bU Tryz.prog 134 w0 L [b.val] (.int .u64 (de bs:Nat)) (bs.length≤7):=⟨fun hp w hw=>Rx w b bs (hb.h w hw) hp⟩
theorem Rz(w:World)(n:Nat)(ba:n≤1000000000):Calls Tryz.prog 178 #[.slice none 0 0, .int .i64 (n:Nat)] w fun e w'=> ∃zz:Sv,e= .returned (zz.val)∧(True)∧Mem w [own aJ 1 zz ([]:List UInt8)] w':=by
 refine aW (args:=[_,_]) Tryz.func178 rfl Tryz.ntmps178 rfl ?_
 change Cw _ _ _ _ _ [(0, .slice none 0 0),(1, .int .i64 (n:Nat))] []
 refine Gc ?_
 refine Gs ?_
 refine Gc ?_
 iterate 2 refine Gs ?_
 refine Gc ?_
 refine aq rfl (fun h0=> ?_) (fun h0=> ?_)
 ·
  replace h0:=bz h0
  exfalso;omega
 ·
  replace h0:=bz h0
  refine Gc ?_
  iterate 2 refine Gs ?_
  refine ae (zD rfl) ?_
  refine Gs ?_
  refine ae (ti rfl) ?_
  iterate 3 refine Gs ?_
  refine Gc ?_
  iterate 2 refine Gs ?_
  refine Gc ?_
  refine aq rfl (fun h1=> ?_) (fun h1=> ?_)
  ·
   replace h1:=bz h1
   refine Gi ?_
   iterate 2 refine Gs ?_
   refine ae (zD rfl) ?_
   refine ae (Ry.to (v':= .slice none 0 0) (rF (s:=Sv.none) (h:=0) rfl rfl rfl Sv.uV (Nat.le_refl _)) rfl) ?_
   refine Gs ?_
   refine G7 (enc:=aJ) (k:=n) (0:UInt8) rfl rfl (by omega) (by omega) (by decide) rfl Tryz.underlying3 (by omega) (by omega) fun uo xP D3=> ?_
   refine Gs ?_
   refine ae (ti rfl) ?_
   refine ae (rF (s:=⟨false,uo,0,n,xP,none⟩) (h:=0) rfl rfl rfl ⟨(fun h=>by cases h),D3,by simp only;omega,fun _=>rfl⟩ (Nat.zero_le _)) ?_
   refine Gs ?_
   refine Gc ?_
   iterate 2 refine Gs ?_
   refine Gc ?_
   refine an (.inl rfl) (aK rfl (al rfl)) (fun w1 hw=> ?_)
   refine⟨Sv.sub ⟨false,uo,0,n,xP,none⟩ 1 0 0,rfl,trivial,?_⟩
   have fu:=Mem.G6 (i:=0) (k:=0) hw rfl (Nat.zero_le _)
   rw[List.take_zero]at fu
   exact fu
  ·
   replace h1:=bz h1
   have hn:n=0:=by omega
   refine Gc ?_
   iterate 2 refine Gs ?_
   refine Gc ?_
   refine an (.inl rfl) (aK rfl (al rfl)) (fun w1 hw=> ?_)
   exact⟨Sv.none,rfl,trivial,(ah.mem hw:Mem w [] _).cz aJ 1⟩
instance ac6{w0:World}{L:List aj}{n:Nat}:bW Tryz.prog 178 w0 L [.slice none 0 0, .int .i64 (n:Nat)] (Sv) (fun zz=>zz.val) (fun zz=>own aJ 1 zz ([]:List UInt8)::L) (fun zz=>True) (n≤1000000000):=⟨fun hp w hw=>(Rz w n hp).mono fun e w' ⟨x,h1,h2,h3⟩=>⟨x,h1,h2,hw.call h3⟩⟩
theorem RA(w:World)(a:Sl (Sl UInt8))(ha:Deep.bk (hp w) a)(ba:(iW a.xs).length≤1000000):Calls Tryz.prog 164 #[a.sv.val] w fun e w'=> ∃zz:Sv,e= .returned (zz.val)∧(True)∧Mem w [own aJ 1 zz (iW a.xs)] w':=by
 have uq:bT w a:=⟨ha⟩
 have yD:=ha.1.bd
 have dC:=NF a.xs
 refine aW (args:=[_]) Tryz.func164 rfl Tryz.ntmps164 rfl ?_
 change Cw _ _ _ _ _ [(0,a.sv.val)] []
 refine Gc ?_
 refine Gs ?_
 refine Gc ?_
 refine Gs ?_
 refine Gc ?_
 iterate 3 refine Gs ?_
 refine Gc ?_
 refine bK (X:=Nat) (fun zz=>[(11, .int .i64 (zz:Nat)),(3, .int .i64 ((iW (a.xs.take zz)).length:Nat)),(0,a.sv.val),(9,a.sv.val),(10, .int .i64 (a.xs.length:Nat))]) (fun zz=>[]) (fun zz=>zz≤a.xs.length) (fun zz=>a.xs.length -zz) 0 (Nat.zero_le _) (Sub.cons rfl (Sub.cons rfl (Sub.cons rfl (Sub.cons rfl (Sub.cons rfl (Sub.nil _)))))) (fun w hw=>ah.mem hw) ?_
 rintro i hi
 have vc:=dC i
 have jY:=dC (i+1)
 refine Gc ?_
 refine Gs ?_
 refine Gc ?_
 refine aq rfl (fun h0=> ?_) (fun h0=> ?_)
 ·
  replace h0:=bz h0
  iterate 6 refine Gi ?_
  obtain⟨x,hx⟩:=get_some (xs:=a.xs) (i:=i) (by omega)
  refine ae (aX rfl rfl i rfl (by omega)) ?_
  refine ae (bn (j:=0) rfl i hx rfl (by decide)) ?_
  have RB:(iW (a.xs.take (i+1))).length=(iW (a.xs.take i)).length+x.xs.length:=by rw[zE hx,List.length_append]
  have AE:Mb x _:=⟨List.mem_of_getElem? hx⟩
  refine Gs ?_
  refine Gc ?_
  iterate 5 refine Gs ?_
  refine Gc ?_
  iterate 2 refine Gs ?_
  refine Gc ?_
  refine aq rfl (fun h1=> ?_) (fun h1=> ?_)
  ·
   replace h1:=bz h1
   exfalso;omega
  ·
   replace h1:=bz h1
   refine Gc ?_
   iterate 2 refine Gs ?_
   refine Gi ?_
   exact bh (x:=(i)) (i+1) (by first|omega|(simp only[];omega)) (by first|omega|(simp only[];omega)) (Sub.cons rfl (Sub.cons (look_eq rfl (by rw[zE hx,List.length_append];simp)) (Sub.cons rfl (Sub.cons rfl (Sub.cons rfl (Sub.nil _)))))) (fun w hw=>ah.mem hw)
 ·
  replace h0:=bz h0
  obtain rfl:i=a.xs.length:=by omega
  have kW:=dC a.xs.length
  refine Gc ?_
  refine Gs ?_
  refine bp rfl (by omega) fun cQ n7=> ?_
  refine Gs ?_
  refine Gc ?_
  iterate 3 refine Gs ?_
  refine Gc ?_
  refine bK (X:=Nat×Sv) (fun zz=>[(27, .int .i64 (zz.1:Nat)),(6,zz.2.val),(25,a.sv.val),(26, .int .i64 (a.xs.length:Nat))]) (fun zz=>[own aJ 1 zz.2 (iW (a.xs.take zz.1))]) (fun zz=>zz.1≤a.xs.length) (fun zz=>a.xs.length -zz.1) (0,cQ) (Nat.zero_le _) (Sub.cons rfl (Sub.cons rfl (Sub.cons rfl (Sub.cons rfl (Sub.nil _))))) (fun w hw=>(ah.mem hw:Mem _ [own aJ 1 cQ ([]:List UInt8)] _)) ?_
  rintro⟨k,s1⟩ hk
  dsimp only
  simp only at hk
  have vc:=dC k
  have jY:=dC (k+1)
  refine Gc ?_
  refine Gs ?_
  refine Gc ?_
  refine aq rfl (fun h2=> ?_) (fun h2=> ?_)
  ·
   replace h2:=bz h2
   iterate 6 refine Gi ?_
   obtain⟨y,hy⟩:=get_some (xs:=a.xs) (i:=k) (by omega)
   refine ae (aX rfl rfl k rfl (by omega)) ?_
   refine ae (bn (j:=0) rfl k hy rfl (by decide)) ?_
   have RC:(iW (a.xs.take (k+1))).length=(iW (a.xs.take k)).length+y.xs.length:=by rw[zE hy,List.length_append]
   have Jy:Mb y _:=⟨List.mem_of_getElem? hy⟩
   refine Gs ?_
   refine Gc ?_
   iterate 2 refine Gs ?_
   refine jG (s:=s1) (ys:=y.xs) rfl rfl (by decide) (fun w hw=>gX (s:=y.sv) Tryz.underlying38 (by decide) ((inferInstance:Hd _ _ y.sv aJ 1 y.xs).h w hw)) (by omega) (by omega) fun D4 RD RE=> ?_
   refine Gs ?_
   refine Gc ?_
   iterate 2 refine Gs ?_
   refine Gi ?_
   exact bh (x:=(k,s1)) (k+1,D4) (by simp only;omega) (by simp only;omega) (Sub.cons rfl (Sub.cons rfl (Sub.cons rfl (Sub.cons rfl (Sub.nil _))))) (fun w hw=>by rw[zE hy];exact ah.mem hw)
  ·
   replace h2:=bz h2
   obtain rfl:k=a.xs.length:=by omega
   refine Gc ?_
   iterate 2 refine Gs ?_
   refine Gc ?_
   refine an (.inl rfl) (aK rfl (al rfl)) (fun w1 hw=> ?_)
   exact⟨s1,rfl,trivial,by rw[List.take_length]at hw;exact ah.mem hw⟩
instance ac7{w0:World}{L:List aj}{a:Sl (Sl UInt8)}[ha:aS w0 L a]:bW Tryz.prog 164 w0 L [a.sv.val] (Sv) (fun zz=>zz.val) (fun zz=>own aJ 1 zz (iW a.xs)::L) (fun zz=>True) ((iW a.xs).length≤1000000):=⟨fun hp w hw=>(RA w a (ha.h w hw) hp).mono fun e w' ⟨x,h1,h2,h3⟩=>⟨x,h1,h2,hw.call h3⟩⟩
theorem RF(w:World)(s:Sv)(ss:List UInt8)(hs:bM aJ 1 (hp w) s ss)(ba:ss.length≤1000000):Calls Tryz.prog 137 #[s.val] w fun e w'=> ∃zz:Sv,e= .returned (zz.val)∧(True)∧Mem w [own aJ 1 zz ss] w':=by
 have uj:Gv w s aJ 1 ss:=⟨hs⟩
 refine aW (args:=[_]) Tryz.func137 rfl Tryz.ntmps137 rfl ?_
 change Cw _ _ _ _ _ [(0,s.val)] []
 refine Gc ?_
 refine Gs ?_
 refine Gc ?_
 refine Gs ?_
 refine ae (qC Tryz.underlying38 rfl) ?_
 refine Gc ?_
 refine aq rfl (fun h0=> ?_) (fun h0=> ?_)
 ·
  replace h0:=bz h0
  have e0:ss=[]:=List.length_eq_zero_iff.1 (by have:=hs.ok.nil h0;have:=hs.len;omega)
  refine Gc ?_
  refine Gs ?_
  refine Gc ?_
  refine an (.inl rfl) (aK rfl (al rfl)) (fun w1 hw=> ?_)
  exact⟨Sv.none,rfl,trivial,by rw[e0];exact(ah.mem hw:Mem w [] _).cz aJ 1⟩
 ·
  replace h0:=bz h0
  refine Gc ?_
  refine qD aJ fun b5=> ?_
  refine Gs ?_
  refine jG (s:=⟨false,b5,0,0,0,none⟩) (ys:=ss) rfl rfl (by decide) (fun w hw=>gX (s:=s) Tryz.underlying38 (by decide) ((inferInstance:Hd _ _ s aJ 1 ss).h w hw)) (by simp only[List.length_append,List.length_cons,List.length_nil];omega) (by simp only[List.length_append,List.length_cons,List.length_nil];omega) fun s7 uk sD=> ?_
  refine Gs ?_
  refine Gc ?_
  refine an (.inl rfl) (aK rfl (al rfl)) (fun w1 hw=> ?_)
  exact⟨s7,rfl,trivial,by simpa using hw⟩
instance ac8{w0:World}{L:List aj}{s:Sv}{ss:List UInt8}[hs:cl w0 L aJ 1 s ss]:bW Tryz.prog 137 w0 L [s.val] (Sv) (fun zz=>zz.val) (fun zz=>own aJ 1 zz ss::L) (fun zz=>True) (ss.length≤1000000):=⟨fun hp w hw=>(RF w s ss (hs.h w hw) hp).mono fun e w' ⟨x,h1,h2,h3⟩=>⟨x,h1,h2,hw.call h3⟩⟩
open Go.aL Go.Kb
open Go.RowKit
instance:eC Tryz.prog 110 (.agg (bZ gF)):=⟨by kernel_rfl⟩
theorem RG(w:World)(n:Int):Calls Tryz.prog 104 #[.int .i64 n] w fun e w'=>e= .returned (.bool (jq n))∧Mem w [] w':=by
 refine aW (args:=[_]) Tryz.func104 rfl Tryz.ntmps104 rfl ?_
 change Cw _ _ _ _ _ [(0, .int .i64 n)] []
 refine Gc ?_
 refine Gs ?_
 refine Gc ?_
 iterate 3 refine Gs ?_
 iterate 2 refine Gg ?_
 iterate 2 refine Gs ?_
 refine Gc ?_
 refine an (.inl rfl) (aK rfl (al rfl)) (fun w1 hw=> ?_)
 exact⟨congrArg (fun b=>Ending.returned (Value.bool b)) (rfl),ah.mem hw⟩
instance ac9{w0:World}{L:List aj}{n:Int}:bU Tryz.prog 104 w0 L [.int .i64 n] (.bool (jq n)) (True):=⟨fun hp w hw=>RG w n⟩
theorem RH(w:World)(n:Int):Calls Tryz.prog 59 #[.int .i64 n] w fun e w'=>e= .returned (.int .i64 (du n))∧Mem w [] w':=by
 refine aW (args:=[_]) Tryz.func59 rfl Tryz.ntmps59 rfl ?_
 change Cw _ _ _ _ _ [(0, .int .i64 n)] []
 refine Gc ?_
 refine Gs ?_
 refine Gc ?_
 iterate 3 refine Gs ?_
 refine Gc ?_
 refine aq rfl (fun h0=> ?_) (fun h0=> ?_)
 ·
  replace h0:=bz h0
  refine Gc ?_
  refine Gs ?_
  refine Gc ?_
  refine an (.inl rfl) (aK rfl (al rfl)) (fun w1 hw=> ?_)
  exact⟨congrArg (fun b=>Ending.returned (Value.int .i64 b)) ((by rw[du,if_neg (by rw[h0];simp)])),ah.mem hw⟩
 ·
  replace h0:=bz h0
  have hf:=oU.1 h0
  refine Gc ?_
  iterate 3 refine Gs ?_
  refine Gc ?_
  refine an (.inl rfl) (aK rfl (al rfl)) (fun w1 hw=> ?_)
  exact⟨congrArg (fun b=>Ending.returned (Value.int .i64 b)) ((by rw[du,if_pos h0])),ah.mem hw⟩
instance ada{w0:World}{L:List aj}{n:Int}:bU Tryz.prog 59 w0 L [.int .i64 n] (.int .i64 (du n)) (True):=⟨fun hp w hw=>RH w n⟩
theorem RI(w:World)(x:dk)(n:Int)(hx:Deep.bk (hp w) x):Calls Tryz.prog 136 #[.agg (bZ x), .int .i64 n] w fun e w'=>e= .returned (.bool (tT (cA x) n))∧Mem w [] w':=by
 have sI:bT w x:=⟨hx⟩
 refine aW (args:=[_,_]) Tryz.func136 rfl Tryz.ntmps136 rfl ?_
 change Cw _ _ _ _ _ [(0, .agg (bZ x)),(1, .int .i64 n)] []
 refine Gc ?_
 refine bL rfl fun b2=> ?_
 refine Gs ?_
 refine Gc ?_
 refine eF (by kernel_rfl) (by kernel_rfl) ?_
 refine Gq ?_
 refine oz (bX rfl trivial) ?_
 refine Gq ?_
 iterate 3 refine Gh ?_
 refine c5 rfl rfl rfl (fun hg=>(Ry.yl (au (av hg rfl)))) ?_
 refine BD rfl rfl rfl (fun hg=>(Ry.yl (aA (o':=0) rfl rfl))) ?_
 refine BD rfl rfl rfl (fun hg=>(Ry.yl (bl (av hg rfl)))) ?_
 refine BD rfl rfl rfl (fun hg=>(Ry.yl (bt (av hg rfl) rfl rfl))) ?_
 refine c5 rfl rfl rfl (fun hg=>(Ry.yl (hM (av hg rfl) rfl (oA hg rfl)))) ?_
 iterate 2 refine Gq ?_
 iterate 3 refine Gh ?_
 iterate 2 refine Gq ?_
 iterate 3 refine Gh ?_
 iterate 2 refine Gq ?_
 iterate 3 refine Gh ?_
 iterate 2 refine Gq ?_
 iterate 4 refine Gh ?_
 refine c5 rfl rfl rfl (fun hg=>bX (cg (av hg rfl) dO) trivial) ?_
 refine Gh ?_
 iterate 2 refine Gq ?_
 refine Gc ?_
 refine an (.inl rfl) (aK rfl (al rfl)) (fun w1 hw=> ?_)
 exact⟨congrArg (fun b=>Ending.returned (Value.bool b)) ((by simp only[tT,cA];rw[show decide ((x.gen.toNat:Int)<281474976710656)=decide (x.gen.toNat<281474976710656)from decide_eq_decide.2 (by omega)];rfl)),ah.mem hw⟩
instance adb{w0:World}{L:List aj}{x:dk}{n:Int}[hx:aS w0 L x]:bU Tryz.prog 136 w0 L [.agg (bZ x), .int .i64 n] (.bool (tT (cA x) n)) (True):=⟨fun hp w hw=>RI w x n (hx.h w hw)⟩
theorem RJ(w:World)(b:Sv)(bs:List UInt8)(hb:bM aJ 1 (hp w) b bs):Calls Tryz.prog 129 #[b.val] w fun e w'=>e= .returned (.bool (eW bs))∧Mem w [] w':=by
 have nq:Gv w b aJ 1 bs:=⟨hb⟩
 have fJ:=hb.bd
 refine aW (args:=[_]) Tryz.func129 rfl Tryz.ntmps129 rfl ?_
 change Cw _ _ _ _ _ [(0,b.val)] []
 refine Gc ?_
 refine Gs ?_
 refine Gc ?_
 iterate 3 refine Gs ?_
 refine Gc ?_
 refine bK (X:=Nat) (fun zz=>[(7, .int .i64 (zz:Nat)),(5,b.val),(6, .int .i64 (bs.length:Nat))]) (fun zz=>[]) (fun zz=>zz≤bs.length∧ ∀j x,j<zz→bs[j]? =Option.some x→x=255) (fun zz=>bs.length -zz) 0 ⟨Nat.zero_le _,fun j x hj=>by first|omega|(simp only[];omega)⟩ (Sub.cons rfl (Sub.cons rfl (Sub.cons rfl (Sub.nil _)))) (fun w hw=>ah.mem hw) ?_
 rintro i ⟨bb,aH⟩
 refine Gc ?_
 refine Gs ?_
 refine Gc ?_
 refine aq rfl (fun h0=> ?_) (fun h0=> ?_)
 ·
  replace h0:=bz h0
  iterate 6 refine Gi ?_
  obtain⟨y,hy⟩:=get_some (xs:=bs) (i:=i) (by omega)
  refine ae (aX rfl rfl i rfl (by omega)) ?_
  refine ae (bn (j:=0) rfl i hy rfl (by decide)) ?_
  refine Gs ?_
  refine Gc ?_
  iterate 2 refine Gs ?_
  refine Gc ?_
  refine aq rfl (fun h1=> ?_) (fun h1=> ?_)
  ·
   replace h1:=bz h1
   have hz:eW bs=false:=by
    cases hk:eW bs with
    |false=>rfl
    |true=>exact absurd (congrArg UInt8.toNat (zV.1 hk y (List.mem_of_getElem? hy))) (by intro e;exact h1 (by rw[e];rfl))
   refine Gc ?_
   refine Gs ?_
   refine Gc ?_
   refine an (.inl rfl) (aK rfl (al rfl)) (fun w1 hw=> ?_)
   exact⟨congrArg (fun b=>Ending.returned (Value.bool b)) (hz.symm),ah.mem hw⟩
  ·
   replace h1:=bz h1
   have D5:y=255:=UInt8.toNat_inj.1 (show y.toNat=255 by omega)
   refine Gc ?_
   iterate 2 refine Gs ?_
   refine Gi ?_
   exact bh (x:=(i)) (i+1) ⟨by first|omega|(simp only[];omega),fun j x hj hx=>if e:j=i then(by subst e;rw[hy]at hx;cases hx;exact D5)else aH j x (by first|omega|(simp only[];omega)) hx⟩ (by first|omega|(simp only[];omega)) (Sub.cons rfl (Sub.cons rfl (Sub.cons rfl (Sub.nil _)))) (fun w hw=>ah.mem hw)
 ·
  replace h0:=bz h0
  obtain rfl:i=bs.length:=by omega
  have hz:eW bs=true:=zV.2 fun x hx=>by
   obtain⟨j,hj⟩:=List.getElem?_of_mem hx
   exact aH j x (List.getElem?_eq_some_iff.1 hj).1 hj
  refine Gc ?_
  refine Gs ?_
  refine Gc ?_
  refine an (.inl rfl) (aK rfl (al rfl)) (fun w1 hw=> ?_)
  exact⟨congrArg (fun b=>Ending.returned (Value.bool b)) (hz.symm),ah.mem hw⟩
instance ade{w0:World}{L:List aj}{b:Sv}{bs:List UInt8}[hb:cl w0 L aJ 1 b bs]:bU Tryz.prog 129 w0 L [b.val] (.bool (eW bs)) (True):=⟨fun hp w hw=>RJ w b bs (hb.h w hw)⟩
open Go.aL Go.Kb
open Go.RowKit
instance:eC Tryz.prog 147 (.agg (cn fo)):=⟨by kernel_rfl⟩
theorem RK(w:World)(n:Int):Calls Tryz.prog 83 #[.int .i64 n] w fun e w'=>e= .returned (.int .i64 (fY n))∧Mem w [] w':=by
 have RL:jq n=true→24≤n∧n≤256:=fun h=>oU.1 h
 have RM:0≤du n∧du n≤240:=by
  by_cases h:jq n=true
  ·
   have:=RL h;rw[du,if_pos h];omega
  ·
   rw[du,if_neg h];omega
 refine aW (args:=[_]) Tryz.func83 rfl Tryz.ntmps83 rfl ?_
 change Cw _ _ _ _ _ [(0, .int .i64 n)] []
 refine Gc ?_
 refine Gs ?_
 refine Gc ?_
 iterate 2 refine Gs ?_
 refine ae (gV rfl rfl (by omega) (by omega)) ?_
 refine ae (BC rfl rfl) ?_
 refine Gs ?_
 refine Gc ?_
 refine an (.inl rfl) (aK rfl (al rfl)) (fun w1 hw=> ?_)
 exact⟨congrArg (fun b=>Ending.returned (Value.int .i64 b)) (rfl),ah.mem hw⟩
instance adf{w0:World}{L:List aj}{n:Int}:bU Tryz.prog 83 w0 L [.int .i64 n] (.int .i64 (fY n)) (True):=⟨fun hp w hw=>RK w n⟩
theorem RN(w:World)(r:cL)(n:Int)(hr:Deep.bk (hp w) r):Calls Tryz.prog 147 #[.agg (cn r), .int .i64 n] w fun e w'=>e= .returned (.bool (pW (cM r) n))∧Mem w [] w':=by
 have RO:bT w r:=⟨hr⟩
 have fJ:=hr.1.bd
 refine aW (args:=[_,_]) Tryz.func147 rfl Tryz.ntmps147 rfl ?_
 change Cw _ _ _ _ _ [(0, .agg (cn r)),(1, .int .i64 n)] []
 refine Gc ?_
 refine bL rfl fun b2=> ?_
 refine Gs ?_
 refine Gc ?_
 refine eF (by kernel_rfl) (by kernel_rfl) ?_
 refine Gq ?_
 refine oz (bX rfl trivial) ?_
 iterate 2 refine Gq ?_
 iterate 3 refine Gh ?_
 iterate 2 refine Gq ?_
 iterate 4 refine Gh ?_
 refine dB rfl rfl rfl (fun hg=>bX (cg (av hg rfl) dO) trivial) ?_
 refine Gh ?_
 refine Gq ?_
 refine Gc ?_
 refine aq rfl (fun h0=> ?_) (fun h0=> ?_)
 ·
  replace h0:=bz h0
  have hz:pW (cM r) n=false:=by
   cases hk:pW (cM r) n with
   |false=>rfl
   |true=>
    obtain⟨g1,g2,g3,g4⟩:=xv.1 hk
    simp only[cM]at g2 g3
    omega
  refine Gc ?_
  refine Gs ?_
  refine Gc ?_
  refine an (.inl rfl) (aK rfl (al rfl)) (fun w1 hw=> ?_)
  exact⟨congrArg (fun b=>Ending.returned (Value.bool b)) (hz.symm),ah.mem hw⟩
 ·
  replace h0:=bz h0
  have g0:du n≠0∧r.gen.toNat<281474976710656∧(r.at_.xs.length:Int)≤fY n:=⟨by omega,by omega,by omega⟩
  refine Gc ?_
  iterate 4 refine Gs ?_
  refine Gc ?_
  refine bK (X:=Nat) (fun zz=>[(26, .int .i64 (zz:Nat)),(24,r.at_.sv.val),(25, .int .i64 (r.at_.xs.length:Nat))]) (fun zz=>[ar b2 (cn r) 147]) (fun zz=>zz≤r.at_.xs.length∧ ∀j x,j<zz→r.at_.xs[j]? =Option.some x→vt x=true) (fun zz=>r.at_.xs.length -zz) 0 ⟨Nat.zero_le _,fun j x hj=>by first|omega|(simp only[];omega)⟩ (Sub.cons rfl (Sub.cons rfl (Sub.cons rfl (Sub.nil _)))) (fun w hw=>ah.mem hw) ?_
  rintro i ⟨bb,aH⟩
  refine Gc ?_
  refine Gs ?_
  refine Gc ?_
  refine aq rfl (fun h1=> ?_) (fun h1=> ?_)
  ·
   replace h1:=bz h1
   iterate 6 refine Gi ?_
   obtain⟨y,hy⟩:=get_some (xs:=r.at_.xs) (i:=i) (by omega)
   refine ae (aX rfl rfl i rfl (by omega)) ?_
   refine ae (bn (j:=0) rfl i hy rfl (by decide)) ?_
   refine Gs ?_
   refine Gc ?_
   iterate 3 refine Gs ?_
   iterate 2 refine Gg ?_
   refine Gs ?_
   refine Gc ?_
   refine aq rfl (fun h2=> ?_) (fun h2=> ?_)
   ·
    replace h2:=bz h2
    have hz:pW (cM r) n=false:=by
     cases hk:pW (cM r) n with
     |false=>rfl
     |true=>
      have g:=C0.1 ((xv.1 hk).2.2.2 y (List.mem_of_getElem? hy))
      omega
    refine Gc ?_
    refine Gs ?_
    refine Gc ?_
    refine an (.inl rfl) (aK rfl (al rfl)) (fun w1 hw=> ?_)
    exact⟨congrArg (fun b=>Ending.returned (Value.bool b)) (hz.symm),ah.mem hw⟩
   ·
    replace h2:=bz h2
    have D6:vt y=true:=C0.2 ⟨by omega,by omega⟩
    refine Gc ?_
    iterate 2 refine Gs ?_
    refine Gi ?_
    exact bh (x:=(i)) (i+1) ⟨by first|omega|(simp only[];omega),fun j x hj hx=>if e:j=i then(by subst e;rw[hy]at hx;cases hx;exact D6)else aH j x (by first|omega|(simp only[];omega)) hx⟩ (by first|omega|(simp only[];omega)) (Sub.cons rfl (Sub.cons rfl (Sub.cons rfl (Sub.nil _)))) (fun w hw=>ah.mem hw)
  ·
   replace h1:=bz h1
   obtain rfl:i=r.at_.xs.length:=by omega
   have hz:pW (cM r) n=true:=xv.2 ⟨g0.1,g0.2.1,g0.2.2,fun x hx=>by
    obtain⟨j,hj⟩:=List.getElem?_of_mem hx
    exact aH j x (List.getElem?_eq_some_iff.1 hj).1 hj⟩
   refine Gc ?_
   refine Gs ?_
   refine Gc ?_
   refine an (.inl rfl) (aK rfl (al rfl)) (fun w1 hw=> ?_)
   exact⟨congrArg (fun b=>Ending.returned (Value.bool b)) (hz.symm),ah.mem hw⟩
instance adg{w0:World}{L:List aj}{r:cL}{n:Int}[hr:aS w0 L r]:bU Tryz.prog 147 w0 L [.agg (cn r), .int .i64 n] (.bool (pW (cM r) n)) (True):=⟨fun hp w hw=>RN w r n (hr.h w hw)⟩
open Go.aL Go.Kb
open Go.RowKit
instance:eC Tryz.prog 29 (.agg (bo fq)):=⟨by kernel_rfl⟩
theorem RP(w:World)(c:Cp)(hc:Deep.bk (hp w) c):Calls Tryz.prog 82 #[.agg (aB c)] w fun e w'=>e= .returned (.bool (iH (cv c)))∧Mem w [] w':=by
 have gy:bT w c:=⟨hc⟩
 refine aW (args:=[_]) Tryz.func82 rfl Tryz.ntmps82 rfl ?_
 change Cw _ _ _ _ _ [(0, .agg (aB c))] []
 refine Gc ?_
 refine bL rfl fun b1=> ?_
 refine Gs ?_
 refine Gc ?_
 iterate 3 refine Gs ?_
 iterate 4 refine Gg ?_
 iterate 2 refine Gs ?_
 iterate 3 refine Gg ?_
 iterate 2 refine Gs ?_
 iterate 3 refine Gg ?_
 iterate 2 refine Gs ?_
 refine Gc ?_
 refine an (.inl rfl) (aK rfl (al rfl)) (fun w1 hw=> ?_)
 exact⟨congrArg (fun b=>Ending.returned (Value.bool b)) ((by simp only[iH,cv,dH];rfl)),ah.mem hw⟩
instance adh{w0:World}{L:List aj}{c:Cp}[hc:aS w0 L c]:bU Tryz.prog 82 w0 L [.agg (aB c)] (.bool (iH (cv c))) (True):=⟨fun hp w hw=>RP w c (hc.h w hw)⟩
theorem RQ(w:World)(c:Cp)(hc:Deep.bk (hp w) c)(ba:dK c):Calls Tryz.prog 84 #[.agg (aB c)] w fun e w'=> ∃zz:Cp,e= .returned (.agg (aB zz))∧(cv zz=cv c)∧Mem w [fz zz] w':=by
 have gy:bT w c:=⟨hc⟩
 refine aW (args:=[_]) Tryz.func84 rfl Tryz.ntmps84 rfl ?_
 change Cw _ _ _ _ _ [(0, .agg (aB c))] []
 refine Gc ?_
 refine bL rfl fun b1=> ?_
 refine bx fun b2=> ?_
 refine Gc ?_
 iterate 3 refine Gs ?_
 refine bp rfl (by assumption) fun x9 vW=> ?_
 refine Gs ?_
 refine ae (aU (v:= .agg (aB x9)) rfl rfl) ?_
 refine ae (aU (v:= .int .i64 (qO (cv c) c.bc.xs)) rfl rfl) ?_
 refine bx fun b3=> ?_
 iterate 2 refine Gs ?_
 refine Gc ?_
 iterate 3 refine Gs ?_
 refine dM (cs':=aB (⟨x9.ag,x9.size,x9.blocks,x9.ops,c.off,x9.bc⟩:Cp)) rfl rfl (by show 4<6;decide) (by first|rfl|exact Sv.one _) rfl ?_
 refine Gc ?_
 iterate 2 refine Gs ?_
 refine Gc ?_
 refine an (.inl rfl) (aK rfl (bG rfl)) (fun w1 hw=> ?_)
 exact⟨(⟨x9.ag,x9.size,x9.blocks,x9.ops,c.off,x9.bc⟩:Cp),rfl,by
  have h9:cv (⟨x9.ag,x9.size,x9.blocks,x9.ops,c.off,x9.bc⟩:Cp)={cv x9 with off:=(cv c).off}:=rfl
  rw[h9,vW];exact OB (cv c),by
  have h9:Mem w [fz x9] _:=ah.mem hw
  exact h9⟩
instance adi{w0:World}{L:List aj}{c:Cp}[hc:aS w0 L c]:bW Tryz.prog 84 w0 L [.agg (aB c)] (Cp) (fun zz=> .agg (aB zz)) (fun zz=>fz zz::L) (fun zz=>cv zz=cv c) (dK c):=⟨fun hp w hw=>(RQ w c (hc.h w hw) hp).mono fun e w' ⟨x,h1,h2,h3⟩=>⟨x,h1,h2,hw.call h3⟩⟩
theorem RR(w:World)(s:Sv)(ss:List Int)(hs:bM bf 1 (hp w) s ss)(ba:ss.length≤1000000):Calls Tryz.prog 92 #[s.val] w fun e w'=> ∃zz:Sv,e= .returned (zz.val)∧(True)∧Mem w [own bf 1 zz ss] w':=by
 have uj:Gv w s bf 1 ss:=⟨hs⟩
 refine aW (args:=[_]) Tryz.func92 rfl Tryz.ntmps92 rfl ?_
 change Cw _ _ _ _ _ [(0,s.val)] []
 refine Gc ?_
 refine Gs ?_
 refine Gc ?_
 refine Gs ?_
 refine ae (qC Tryz.underlying26 rfl) ?_
 refine Gc ?_
 refine aq rfl (fun h0=> ?_) (fun h0=> ?_)
 ·
  replace h0:=bz h0
  have e0:ss=[]:=List.length_eq_zero_iff.1 (by have:=hs.ok.nil h0;have:=hs.len;omega)
  refine Gc ?_
  refine Gs ?_
  refine Gc ?_
  refine an (.inl rfl) (aK rfl (al rfl)) (fun w1 hw=> ?_)
  exact⟨Sv.none,rfl,trivial,by rw[e0];exact(ah.mem hw:Mem w [] _).cz bf 1⟩
 ·
  replace h0:=bz h0
  refine Gc ?_
  refine qD bf fun b5=> ?_
  refine Gs ?_
  refine jG (s:=⟨false,b5,0,0,0,none⟩) (enc:=bf) (ys:=ss) rfl rfl (by decide) (fun w hw=>gX (s:=s) Tryz.underlying26 (by decide) ((inferInstance:cl _ _ bf 1 s ss).h w hw)) (by simp only[List.length_nil];omega) (by simp only[List.length_nil];omega) fun s7 uk sD=> ?_
  refine Gs ?_
  refine Gc ?_
  refine an (.inl rfl) (aK rfl (al rfl)) (fun w1 hw=> ?_)
  exact⟨s7,rfl,trivial,by rw[List.nil_append]at hw;exact ah.mem hw⟩
instance adj{w0:World}{L:List aj}{s:Sv}{ss:List Int}[hs:cl w0 L bf 1 s ss]:bW Tryz.prog 92 w0 L [s.val] (Sv) (fun zz=>zz.val) (fun zz=>own bf 1 zz ss::L) (fun zz=>True) (ss.length≤1000000):=⟨fun hp w hw=>(RR w s ss (hs.h w hw) hp).mono fun e w' ⟨x,h1,h2,h3⟩=>⟨x,h1,h2,hw.call h3⟩⟩
theorem RS(w:World)(v:bI)(hv:Deep.bk (hp w) v)(ba:dK v.ai∧v.at_.xs.length≤1000000):Calls Tryz.prog 44 #[.agg (bo v)] w fun e w'=> ∃zz:Cp×Sv,e= .returned (.agg (bo (⟨zz.1,⟨zz.2,v.at_.xs⟩,v.gen,v.last⟩:bI)))∧(cv zz.1=cv v.ai)∧Mem w [fz zz.1,own bf 1 zz.2 v.at_.xs] w':=by
 have ur:bT w v:=⟨hv⟩
 obtain⟨kQ,kr⟩:=ba
 refine aW (args:=[_]) Tryz.func44 rfl Tryz.ntmps44 rfl ?_
 change Cw _ _ _ _ _ [(0, .agg (bo v))] []
 refine Gc ?_
 refine bL rfl fun b1=> ?_
 refine bx fun b2=> ?_
 refine Gc ?_
 refine oN [2,5,7,9,1001,1004,5002,5005] [[],[],[1],[],[],[1,2,4],[1,2,4],[1,2,4,5],[1,2,4,5,7],[1,2,4,5,7]] [0,1,3,4,2,6,5,7,8,9] [] [] (by kernel_rfl) (fun _ hw=>ah.mem hw) (by kernel_rfl) (by kernel_rfl) ?_
 refine ak rfl (aA (o':=0) rfl rfl) ?_
 refine jo rfl (eE rfl) ?_
 refine ak rfl (aA (o':=6) rfl rfl) ?_
 refine jo rfl (bl rfl) ?_
 refine GW rfl (lT rfl (by assumption) fun x5 RT=>⟨fun _ hw=>ah.mem hw,fun _ hw=>ah.mem hw,?_⟩)
 refine ak rfl (aA (o':=0) rfl rfl) ?_
 refine GW rfl (lT rfl (by omega) fun x8 n6=>⟨fun _ hw=>ah.mem hw,fun _ hw=>ah.mem hw,?_⟩)
 refine cK rfl (GO (cs':=bo ({v with ai:=x5}:bI)) rfl rfl (by show 0+6≤9;decide) rfl ⟨fun _ hw=>ah.mem hw,?_⟩)
 refine ak rfl (aA (o':=6) rfl rfl) ?_
 refine cK rfl (tI (cs':=bo (⟨x5,⟨x8,v.at_.xs⟩,v.gen,v.last⟩:bI)) rfl rfl (by show 6<9;decide) (by first|rfl|exact Sv.one _) rfl ⟨fun _ hw=>ah.mem hw,?_⟩)
 refine Gc ?_
 iterate 2 refine Gs ?_
 refine Gc ?_
 refine an (.inl rfl) (aK rfl (bG rfl)) (fun w1 hw=> ?_)
 exact⟨(x5,x8),rfl,RT,ah.mem hw⟩
instance adk{w0:World}{L:List aj}{v:bI}[hv:aS w0 L v]:bW Tryz.prog 44 w0 L [.agg (bo v)] (Cp×Sv) (fun zz=> .agg (bo (⟨zz.1,⟨zz.2,v.at_.xs⟩,v.gen,v.last⟩:bI))) (fun zz=>fz zz.1::own bf 1 zz.2 v.at_.xs::L) (fun zz=>cv zz.1=cv v.ai) (dK v.ai∧v.at_.xs.length≤1000000):=⟨fun hp w hw=>(RS w v (hv.h w hw) hp).mono fun e w' ⟨x,h1,h2,h3⟩=>⟨x,h1,h2,hw.call h3⟩⟩
open Go.aL Go.Kb
open Go.RowKit
theorem RU(b:List UInt8)(w:World):(Instr.build 110 #[(0, .int .i64 ((b.getD 0 0).toNat:Int)),(1, .int .i64 ((b.getD 1 0).toNat:Int)),(2, .int .u64 ((de ((b.drop 2).take (8 -2)):Nat):Int))]).run Tryz.prog w= .ok (.agg (bZ (qP b))) w:=by
 rw[←CU]
 unfold bZ qP
 generalize UInt64.ofNat (de ((b.drop 2).take (8 -2)))=g
 kernel_rfl
theorem RW(w:World)(b:Sv)(bs:List UInt8)(hb:bM aJ 1 (hp w) b bs):Calls Tryz.prog 96 #[b.val] w fun e w'=> ∃zz:dk,e= .returned (.tuple #[.agg (bZ zz), .int .i64 ((bm bs).2)])∧(cA zz=(bm bs).1)∧Mem w [own aJ 1 zz.body.sv zz.body.xs] w':=by
 have nq:Gv w b aJ 1 bs:=⟨hb⟩
 have fJ:=hb.bd
 have D7:bT w (qP bs):=⟨⟨bM.nil _ _ _,fun x hx=>by cases hx⟩⟩
 have RX:=CT bs
 have uu:=zW bs
 have wO:=zC (hH bs)
 have gm:=CY bs
 refine aW (args:=[_]) Tryz.func96 rfl Tryz.ntmps96 rfl ?_
 change Cw _ _ _ _ _ [(0,b.val)] []
 refine Gc ?_
 refine bx fun b2=> ?_
 refine Gs ?_
 refine Gc ?_
 iterate 4 refine Gs ?_
 refine Gc ?_
 refine aq rfl (fun h0=> ?_) (fun h0=> ?_)
 ·
  replace h0:=bz h0
  have hE:bm bs=(gq,3):=by rw[bm,if_pos h0]
  refine Gc ?_
  refine ae (bV (v:= .agg (bZ gF)) rfl (fun w=>by kernel_rfl)) ?_
  iterate 2 refine Gs ?_
  refine Gc ?_
  refine an (.inl rfl) (aZ rfl (bG rfl) (al rfl)) (fun w1 hw=> ?_)
  exact⟨gF,by rw[hE],by rw[hE];rfl,Mem.cz aJ 1 (ah.mem hw:Mem w [] _)⟩
 ·
  replace h0:=bz h0
  have RY:=oU.1 h0
  have sJ:du bs.length=bs.length -16:=by rw[du,if_pos h0]
  refine Gc ?_
  iterate 2 refine Gs ?_
  refine Gc ?_
  refine aq rfl (fun h1=> ?_) (fun h1=> ?_)
  ·
   replace h1:=bz h1
   have hE:bm bs=(gq,0):=by rw[bm,if_neg (by rw[h0];simp),if_pos h1]
   refine Gc ?_
   refine ae (bV (v:= .agg (bZ gF)) rfl (fun w=>by kernel_rfl)) ?_
   iterate 2 refine Gs ?_
   refine Gc ?_
   refine an (.inl rfl) (aZ rfl (bG rfl) (al rfl)) (fun w1 hw=> ?_)
   exact⟨gF,by rw[hE],by rw[hE];rfl,Mem.cz aJ 1 (ah.mem hw:Mem w [] _)⟩
  ·
   replace h1:=bz h1
   refine Gc ?_
   refine eF (by kernel_rfl) (by kernel_rfl) ?_
   iterate 4 refine Gq ?_
   have Jz:Rg 0 (bs.length -4) bs.length:=⟨by omega⟩
   refine aT (wU rfl rfl (bs.length -4) (by omega) Jz.h.2) ?_
   iterate 4 refine Gq ?_
   have AF:Rg (bs.length -4) bs.length bs.length:=⟨by omega⟩
   refine aT (y8 rfl rfl (bs.length -4) (by omega) AF.h.1) ?_
   iterate 2 refine Gq ?_
   refine Gc ?_
   refine Gs ?_
   refine dQ (bX (v:= .int .u64 ((de (pV bs):Nat):Int)) rfl (by rw[List.length_take,List.length_drop];omega)) ?_
   refine Gs ?_
   refine dQ (bX (v:= .int .u32 ((gp (hH bs):Nat):Int)) rfl trivial) ?_
   refine ae (mw rfl (by simp only[nb];omega)) ?_
   refine Gs ?_
   refine Gc ?_
   refine aq rfl (fun h2=> ?_) (fun h2=> ?_)
   ·
    replace h2:=bz h2
    have hE:bm bs=(gq,4):=by rw[bm,if_neg (by rw[h0];simp),if_neg (by rw[h1];simp),if_pos (fun e=>h2 (by rw[e]))]
    refine Gc ?_
    refine ae (bV (v:= .agg (bZ gF)) rfl (fun w=>by kernel_rfl)) ?_
    iterate 2 refine Gs ?_
    refine Gc ?_
    refine an (.inl rfl) (aZ rfl (bG rfl) (al rfl)) (fun w1 hw=> ?_)
    exact⟨gF,by rw[hE],by rw[hE];rfl,Mem.cz aJ 1 (ah.mem hw:Mem w [] _)⟩
   ·
    replace h2:=bz h2
    have xd: ¬de (pV bs)≠gp (hH bs):=fun e=>e (by omega)
    refine Gc ?_
    refine fw [12,13] [[],[],[],[],[],[],[],[],[],[],[],[],[],[12]] [0,1,2,3,4,5,6,7,8,9,10,11,12,13] [] (fun _ hw=>ah.mem hw) (by kernel_rfl) (by kernel_rfl) ?_
    refine ak rfl (au rfl) ?_
    refine ak rfl (aX rfl rfl 0 rfl (by omega)) ?_
    refine ak rfl (bn (j:=0) rfl 0 (iU (xs:=bs) (i:=0) (d:=0) (by omega)) rfl (by decide)) ?_
    refine ak rfl (nH rfl) ?_
    refine ak rfl (au rfl) ?_
    refine ak rfl (aX rfl rfl 1 rfl (by omega)) ?_
    refine ak rfl (bn (j:=0) rfl 1 (iU (xs:=bs) (i:=1) (d:=0) (by omega)) rfl (by decide)) ?_
    refine ak rfl (nH rfl) ?_
    refine ak rfl (au rfl) ?_
    have JA:Rg 2 8 bs.length:=⟨by omega⟩
    refine ak rfl (rL rfl rfl rfl 2 8 rfl rfl JA.h.1 JA.h.2) ?_
    refine nM rfl (bX rfl (by simp;omega)) ?_
    refine ak rfl (bV (v:= .agg (bZ (qP bs))) rfl (RU bs)) ?_
    refine cK rfl (zu fun b6=>⟨fun _ hw=>ah.mem hw,?_⟩)
    refine cK rfl (km rfl rfl ⟨fun _ hw=>ah.mem hw,?_⟩)
    refine Gc ?_
    refine Gs ?_
    have JB:Rg 8 10 bs.length:=⟨by omega⟩
    refine ae (rL rfl rfl rfl 8 10 rfl rfl JB.h.1 JB.h.2) ?_
    refine dQ (bX (v:= .int .u64 ((dm bs:Nat):Int)) rfl (by rw[List.length_take];omega)) ?_
    refine ae (mw rfl (by simp only[nb];omega)) ?_
    refine Gs ?_
    refine Gc ?_
    iterate 6 refine Gs ?_
    refine bD rfl rfl rfl (fun hg=>(Ry.yl (dW rfl))) ?_
    iterate 2 refine Gg ?_
    refine bD rfl rfl rfl (fun hg=>bX (cg (av hg rfl) (cg (av hg rfl) dO)) trivial) ?_
    refine bD rfl rfl rfl (fun hg=>(Ry.yl (fU (av hg rfl)))) ?_
    refine Gs ?_
    refine Gc ?_
    refine aq rfl (fun h3=> ?_) (fun h3=> ?_)
    ·
     replace h3:=bz h3
     have gw:iX bs=false:=by
      rw[CX]at h3
      cases hk:iX bs with
      |false=>rfl
      |true=>
       simp only[iX,Bool.and_eq_true,decide_eq_true_eq]at hk
       rw[hk.2]at h3
       simp only[Bool.true_eq_false,or_false]at h3
       omega
     have hE:bm bs=(gq,2):=by rw[bm,if_neg (by rw[h0];simp),if_neg (by rw[h1];simp),if_neg xd,if_pos gw]
     refine Gc ?_
     refine ae (bV (v:= .agg (bZ gF)) rfl (fun w=>by kernel_rfl)) ?_
     iterate 2 refine Gs ?_
     refine Gc ?_
     refine an (.inl rfl) (aZ rfl (bG rfl) (al rfl)) (fun w1 hw=> ?_)
     exact⟨gF,by rw[hE],by rw[hE];rfl,Mem.cz aJ 1 (ah.mem hw:Mem w [] _)⟩
    ·
     replace h3:=bz h3
     have gw:iX bs=true:=by
      rw[CX]at h3
      simp only[iX,Bool.and_eq_true,decide_eq_true_eq]
      exact⟨by omega,h3.2⟩
     have hmr:(dm bs:Int)≤du bs.length:=by simp only[iX,Bool.and_eq_true,decide_eq_true_eq]at gw;exact gw.1
     have q6:(j6 bs).length=(hH bs).length -(10+dm bs):=by rw[j6,List.length_take,List.length_drop];omega
     have gr:Gv w ((b.sub 1 0 (bs.length -4)).sub 1 (10+dm bs) (hH bs).length) aJ 1 (j6 bs):=⟨(hb.sub (lo:=0) (hi:=bs.length -4) (by omega) (by omega)).sub (lo:=10+dm bs) (hi:=(hH bs).length) (by omega) (Nat.le_refl _)⟩
     refine Gc ?_
     iterate 3 refine Gs ?_
     have RZ:Rg (10+dm bs) ((hH bs).length) (hH bs).length:=⟨by omega⟩
     refine ae (y8 rfl rfl (10+dm bs) rfl RZ.h.1) ?_
     iterate 2 refine Gs ?_
     refine Gc ?_
     refine bK (X:=Nat) (fun zz=>[(69, .int .i64 (zz:Nat)),(0,b.val),(2, .pointer (some ⟨b2,0,none⟩)),(6, .pointer (some ⟨b6,0,none⟩)),(7, .int .i64 (dm bs:Nat)),(67,((b.sub 1 0 (bs.length -4)).sub 1 (10+dm bs) (hH bs).length).val),(68, .int .i64 ((j6 bs).length:Nat))]) (fun zz=>[ar b6 (bZ (qP bs)) 110,ar b2 (bZ gF) 110]) (fun zz=>zz≤(j6 bs).length∧ ∀j x,j<zz→(j6 bs)[j]? =Option.some x→x=0) (fun zz=>(j6 bs).length -zz) 0 ⟨Nat.zero_le _,fun j x hj=>by first|omega|(simp only[];omega)⟩ (Sub.cons rfl (Sub.cons rfl (Sub.cons rfl (Sub.cons rfl (Sub.cons rfl (Sub.cons rfl (Sub.cons rfl (Sub.nil _)))))))) (fun w hw=>ah.mem hw) ?_
     rintro i ⟨bb,aH⟩
     refine Gc ?_
     refine Gs ?_
     refine Gc ?_
     refine aq rfl (fun h4=> ?_) (fun h4=> ?_)
     ·
      replace h4:=bz h4
      iterate 6 refine Gi ?_
      obtain⟨y,hy⟩:=get_some (xs:=(j6 bs)) (i:=i) (by omega)
      refine ae (aX rfl rfl i rfl (by omega)) ?_
      refine ae (bn (j:=0) rfl i hy rfl (by decide)) ?_
      refine Gs ?_
      refine Gc ?_
      iterate 2 refine Gs ?_
      refine Gc ?_
      refine aq rfl (fun h5=> ?_) (fun h5=> ?_)
      ·
       replace h5:=bz h5
       have n8:oV (j6 bs)=false:=by
        cases hk:oV (j6 bs)with
        |false=>rfl
        |true=>exact absurd (congrArg UInt8.toNat (CS.1 hk y (List.mem_of_getElem? hy))) (by intro e;exact h5 (by rw[e];rfl))
       have hE:bm bs=(gq,2):=by rw[bm,if_neg (by rw[h0];simp),if_neg (by rw[h1];simp),if_neg xd,if_neg (by rw[gw];simp),if_pos n8]
       refine Gc ?_
       refine ae (bV (v:= .agg (bZ gF)) rfl (fun w=>by kernel_rfl)) ?_
       iterate 2 refine Gs ?_
       refine Gc ?_
       refine an (.inl rfl) (aZ rfl (bG rfl) (al rfl)) (fun w1 hw=> ?_)
       exact⟨gF,by rw[hE],by rw[hE];rfl,Mem.cz aJ 1 (ah.mem hw:Mem w [] _)⟩
      ·
       replace h5:=bz h5
       have D5:y=0:=UInt8.toNat_inj.1 (show y.toNat=0 by omega)
       refine Gc ?_
       iterate 2 refine Gs ?_
       refine Gi ?_
       exact bh (x:=(i)) (i+1) ⟨by first|omega|(simp only[];omega),fun j x hj hx=>if e:j=i then(by subst e;rw[hy]at hx;cases hx;exact D5)else aH j x (by first|omega|(simp only[];omega)) hx⟩ (by first|omega|(simp only[];omega)) (Sub.cons rfl (Sub.cons rfl (Sub.cons rfl (Sub.cons rfl (Sub.cons rfl (Sub.cons rfl (Sub.cons rfl (Sub.nil _)))))))) (fun w hw=>ah.mem hw)
     ·
      replace h4:=bz h4
      obtain rfl:i=(j6 bs).length:=by omega
      have n8:oV (j6 bs)=true:=CS.2 fun x hx=>by
       obtain⟨j,hj⟩:=List.getElem?_of_mem hx
       exact aH j x (List.getElem?_eq_some_iff.1 hj).1 hj
      have hE:bm bs=({r8 bs with body:=((bs.drop 10).take (10+dm bs -10))},0):=by rw[bm,if_neg (by rw[h0];simp),if_neg (by rw[h1];simp),if_neg xd,if_neg (by rw[gw];simp),if_neg (by rw[n8];simp)]
      refine Gc ?_
      iterate 2 refine Gs ?_
      refine Gc ?_
      refine aq rfl (fun h6=> ?_) (fun h6=> ?_)
      ·
       replace h6:=bz h6
       refine Gi ?_
       iterate 3 refine Gs ?_
       have JC:Rg 10 (10+dm bs) bs.length:=⟨by omega⟩
       refine ae (rL rfl rfl rfl 10 (10+dm bs) rfl rfl JC.h.1 JC.h.2) ?_
       refine bp rfl (by simp only[List.length_take,List.length_drop];omega) fun D8 adl=> ?_
       refine Gs ?_
       refine dM (cs':=bZ (⟨((bs.getD 0 0).toNat:Int),((bs.getD 1 0).toNat:Int),(UInt64.ofNat (de ((bs.drop 2).take (8 -2)))),⟨D8,((bs.drop 10).take ((10+dm bs) -10))⟩⟩:dk)) rfl rfl (by show 3<4;decide) (by first|rfl|exact Sv.one _) rfl ?_
       refine Gc ?_
       iterate 3 refine Gs ?_
       refine Gc ?_
       refine an (.inl rfl) (aZ rfl (bG rfl) (al rfl)) (fun w1 hw=> ?_)
       exact⟨⟨((bs.getD 0 0).toNat:Int),((bs.getD 1 0).toNat:Int),UInt64.ofNat (de ((bs.drop 2).take (8 -2))),⟨D8,((bs.drop 10).take (10+dm bs -10))⟩⟩,by rw[hE],by rw[hE];exact CW bs D8 ((bs.drop 10).take (10+dm bs -10)),ah.mem hw⟩
      ·
       replace h6:=bz h6
       have mL:dm bs=0:=by omega
       refine Gc ?_
       iterate 3 refine Gs ?_
       refine Gc ?_
       refine an (.inl rfl) (aZ rfl (bG rfl) (al rfl)) (fun w1 hw=> ?_)
       exact⟨qP bs,by rw[hE],by rw[hE,CX,mL];simp[r8],Mem.cz aJ 1 (ah.mem hw:Mem w [] _)⟩
instance adm{w0:World}{L:List aj}{b:Sv}{bs:List UInt8}[hb:cl w0 L aJ 1 b bs]:bW Tryz.prog 96 w0 L [b.val] (dk) (fun zz=> .tuple #[.agg (bZ zz), .int .i64 ((bm bs).2)]) (fun zz=>own aJ 1 zz.body.sv zz.body.xs::L) (fun zz=>cA zz=(bm bs).1) (True):=⟨fun hp w hw=>(RW w b bs (hb.h w hw)).mono fun e w' ⟨x,h1,h2,h3⟩=>⟨x,h1,h2,hw.call h3⟩⟩
open Go.aL Go.Kb
open Go.RowKit
theorem R0(w:World)(c:Cp)(id:Int)(n:Int)(hc:Deep.bk (hp w) c)(ba:bg (cv c)=true∧1≤n∧n≤1000000):Calls Tryz.prog 132 #[.agg (aB c), .int .i64 id, .int .i64 n] w fun e w'=>e= .returned (.bool (pX (cv c) id n))∧Mem w [] w':=by
 have gy:bT w c:=⟨hc⟩
 obtain⟨hk,uv,sK⟩:=ba
 have cO:=dH c.blocks.xs
 have fB:=ik.1 (dE.1 hk).1
 simp only[cv,cO]at fB
 have q7:0≤((n -1)/c.ag):=Int.ediv_nonneg (by omega) (by omega)
 have Bs:((n -1)/c.ag)≤n -1:=Int.ediv_le_self _ (by omega)
 have mL:0≤((n -1)%c.ag):=Int.emod_nonneg _ (by omega)
 have sL:((n -1)%c.ag)<c.ag:=Int.emod_lt_of_pos _ (by omega)
 have n9:=rZ (c:=c) (b:=((n -1)/c.ag))
 have AG:(c.blocks.xs.getD ((n -1)/c.ag).toNat k6).used=(aO (cv c) ((n -1)/c.ag)).used:=congrArg BV.used n9
 refine aW (args:=[_,_,_]) Tryz.func132 rfl Tryz.ntmps132 rfl ?_
 change Cw _ _ _ _ _ [(0, .agg (aB c)),(1, .int .i64 id),(2, .int .i64 n)] []
 refine Gc ?_
 refine bL rfl fun b3=> ?_
 refine Gs ?_
 refine Gc ?_
 refine eF (by kernel_rfl) (by kernel_rfl) ?_
 iterate 4 refine Gq ?_
 refine aT (gV rfl rfl (by omega) (by omega)) ?_
 iterate 4 refine Gq ?_
 refine aT (ox rfl rfl (by omega) (by omega)) ?_
 iterate 2 refine Gq ?_
 refine Gc ?_
 iterate 3 refine Gs ?_
 iterate 5 refine Gg ?_
 iterate 2 refine Gs ?_
 iterate 4 refine Gg ?_
 refine bD rfl rfl rfl (fun hg=>(Ry.yl (aX (av hg rfl) (av hg rfl) (((n -1)/c.ag).toNat) (by simp only[Z0,Z1,Z2,Z3,Z4,Z5,Z6,Z7,Z8,Z9]at hg;omega) (by simp only[Z0,Z1,Z2,Z3,Z4,Z5,Z6,Z7,Z8,Z9]at hg;omega)))) ?_
 refine bD rfl rfl rfl (fun hg=>(Ry.yl (aA (av hg rfl) rfl))) ?_
 refine bD rfl rfl rfl (fun hg=>(Ry.yl (bn (j:=1) (av hg rfl) (((n -1)/c.ag).toNat) (iU (xs:=c.blocks.xs) (i:=((n -1)/c.ag).toNat) (d:=k6) (by simp only[Z0,Z1,Z2,Z3,Z4,Z5,Z6,Z7,Z8,Z9]at hg;omega)) rfl (by decide)))) ?_
 refine Gg ?_
 refine Gs ?_
 refine Gc ?_
 refine aq rfl (fun h0=> ?_) (fun h0=> ?_)
 ·
  replace h0:=bz h0
  have hz:pX (cv c) id n=false:=by
   cases lC:nQ (cv c) (n -1)with
   |false=>rw[pX,lC];rfl
   |true=>
    obtain⟨g1,g2,g3⟩:=tV.1 lC
    change 2≤((n -1)/c.ag)at g1
    change((n -1)/c.ag)<((fm c.blocks.xs).length:Int)at g2
    change((n -1)%c.ag)<(aO (cv c) ((n -1)/c.ag)).used at g3
    rw[cO]at g2
    omega
  refine Gc ?_
  refine Gs ?_
  refine Gc ?_
  refine an (.inl rfl) (aK rfl (al rfl)) (fun w1 hw=> ?_)
  exact⟨congrArg (fun b=>Ending.returned (Value.bool b)) (hz.symm),ah.mem hw⟩
 ·
  replace h0:=bz h0
  have gh:nQ (cv c) (n -1)=true:=tV.2 ⟨show 2≤((n -1)/c.ag) by omega,by simp only[cv,cO];omega,show((n -1)%c.ag)<(aO (cv c) ((n -1)/c.ag)).used by omega⟩
  obtain⟨B,hB⟩:=get_some (xs:=c.blocks.xs) (i:=((n -1)/c.ag).toNat) (by omega)
  have pg:Mb B c.blocks:=⟨List.mem_of_getElem? hB⟩
  have dx:bv B=aO (cv c) ((n -1)/c.ag):=by rw[←n9];simp[List.getD,hB]
  have eu:=eM.1 ((dE.1 hk).2.2.2.2 (bv B) (List.mem_of_getElem? (fK hB)))
  have fA:=fk B.ag.xs
  have JD:(B.ag.xs.length:Int)=c.ag:=by have:=eu.1;simp only[bv,cv,fA]at this;exact this
  obtain⟨y,hy⟩:=get_some (xs:=B.ag.xs) (i:=((n -1)%c.ag).toNat) (by omega)
  have sM:Mb y B.ag:=⟨List.mem_of_getElem? hy⟩
  have ln:r9 (cv c) (n -1)=y.xs:=by
   show(aO (cv c) ((n -1)/c.ag)).ag.getD ((n -1)%c.ag).toNat []=y.xs
   rw[←dx]
   simp[bv,List.getD,ib hy]
  refine Gc ?_
  iterate 3 refine Gs ?_
  refine ae (aX rfl rfl (((n -1)/c.ag).toNat) (by omega) (by omega)) ?_
  refine ae (aA rfl rfl) ?_
  refine ae (bn (j:=0) rfl (((n -1)/c.ag).toNat) hB rfl (by decide)) ?_
  have R5:Mb B _:=⟨List.mem_of_getElem? hB⟩
  refine Gs ?_
  refine ae (aX rfl rfl (((n -1)%c.ag).toNat) (by omega) (by omega)) ?_
  refine ae (bn (j:=0) rfl (((n -1)%c.ag).toNat) hy rfl (by decide)) ?_
  have R6:Mb y _:=⟨List.mem_of_getElem? hy⟩
  refine bp rfl trivial fun kd sN=> ?_
  have e1:kd.kind=(bm y.xs).1.kind:=congrArg PV.kind sN
  have e2:kd.id=(bm y.xs).1.id:=congrArg PV.id sN
  refine Gs ?_
  refine ae (aU (v:= .agg (bZ kd)) rfl rfl) ?_
  refine ae (aU (v:= .int .i64 ((bm y.xs).2)) rfl rfl) ?_
  refine bx fun b9=> ?_
  iterate 2 refine Gs ?_
  refine Gc ?_
  iterate 3 refine Gs ?_
  iterate 3 refine Gg ?_
  iterate 2 refine Gs ?_
  iterate 4 refine Gg ?_
  iterate 2 refine Gs ?_
  refine Gc ?_
  refine an (.inl rfl) (aK rfl (al rfl)) (fun w1 hw=> ?_)
  exact⟨congrArg (fun b=>Ending.returned (Value.bool b)) ((by rw[pX,gh,ln,HJ,←e1,←e2];rfl)),ah.mem hw⟩
instance adn{w0:World}{L:List aj}{c:Cp}{id:Int}{n:Int}[hc:aS w0 L c]:bU Tryz.prog 132 w0 L [.agg (aB c), .int .i64 id, .int .i64 n] (.bool (pX (cv c) id n)) (bg (cv c)=true∧1≤n∧n≤1000000):=⟨fun hp w hw=>R0 w c id n (hc.h w hw) hp⟩
open Go.aL Go.Kb
open Go.RowKit
def lD(n:Int):Value:= .int .i64 n
def nr(_:Unit):Value:= .agg #[]
instance:xK lD:=⟨fun h=>by simpa[lD]using h⟩
instance:xJ Tryz.prog 3:=⟨Maps.int_keyed Tryz.underlying3⟩
instance:vU Tryz.prog 162 3 163:=⟨Tryz.underlying162⟩
instance:eC Tryz.prog 163 (.agg #[]):=⟨by kernel_rfl⟩
instance:fv (#[]:Array Value) 0:=⟨rfl,by simp⟩
theorem D9{n:Int}(h: -9223372036854775808≤n∧n≤9223372036854775807): ∃l,keyOf Tryz.prog 3 (lD n)=some l:=⟨_,Maps.keyOf_int_mk Tryz.underlying3 (by simp[Lit.wf,IntKind.min,IntKind.max,IntKind.signed,IntKind.bits];omega)⟩
theorem R7(w:World)(c:Cp)(t:Sv)(ts:List Int)(hc:Deep.bk (hp w) c)(ht:bM bf 1 (hp w) t ts)(ba:bg (cv c)=true∧ ∀x∈ts,0≤x∧x≤65535):Calls Tryz.prog 91 #[.agg (aB c),t.val] w fun e w'=>e= .returned (.bool (mH (cv c) ts))∧Mem w [] w':=by
 have gy:bT w c:=⟨hc⟩
 have xQ:Gv w t bf 1 ts:=⟨ht⟩
 obtain⟨hk,kR⟩:=ba
 have fJ:=ht.bd
 refine aW (args:=[_,_]) Tryz.func91 rfl Tryz.ntmps91 rfl ?_
 change Cw _ _ _ _ _ [(0, .agg (aB c)),(1,t.val)] []
 refine Gc ?_
 refine bL rfl fun b2=> ?_
 refine Gs ?_
 refine Gc ?_
 iterate 2 refine Gs ?_
 refine Q6 lD nr rfl fun ql=> ?_
 refine Gs ?_
 refine Gc ?_
 iterate 3 refine Gs ?_
 refine Gc ?_
 refine bK (X:=Nat) (fun zz=>[(15, .int .i64 (zz:Nat)),(5, .map (some ql)),(2, .pointer (some ⟨b2,0,none⟩)),(13,t.val),(14, .int .i64 (ts.length:Nat))]) (fun zz=>[omap Tryz.prog 3 lD nr ql (iZ ts zz),ar b2 (aB c) 25]) (fun zz=>zz≤ts.length∧ ∀j,j<zz→kI (cv c) ts j=true) (fun zz=>ts.length -zz) 0 ⟨Nat.zero_le _,fun j hj=>by first|omega|(simp only[];omega)⟩ (Sub.cons rfl (Sub.cons rfl (Sub.cons rfl (Sub.cons rfl (Sub.cons rfl (Sub.nil _)))))) (fun w hw=>by
  rw[←HK];exact ah.mem hw) ?_
 rintro i ⟨bb,aH⟩
 refine Gc ?_
 refine Gs ?_
 refine Gc ?_
 refine aq rfl (fun h0=> ?_) (fun h0=> ?_)
 ·
  replace h0:=bz h0
  obtain⟨y,hy⟩:=get_some (xs:=ts) (i:=i) (by omega)
  have JE:=kR y (List.mem_of_getElem? hy)
  have iA:=oW hy
  have sO:=D9 (n:=y) (by omega)
  refine Gc ?_
  refine Gs ?_
  refine ae (aX rfl rfl i rfl (by omega)) ?_
  refine ae (bn (j:=0) rfl i hy rfl (by decide)) ?_
  iterate 2 refine Gs ?_
  refine Gc ?_
  iterate 2 refine Gs ?_
  refine Gc ?_
  refine aq rfl (fun h1=> ?_) (fun h1=> ?_)
  ·
   replace h1:=bz h1
   subst h1
   have ct:kI (cv c) ts i=true:=by rw[kI,iA];rfl
   refine Gc ?_
   iterate 2 refine Gs ?_
   refine Gi ?_
   exact bh (x:=(i)) (i+1) ⟨by first|omega|(simp only[];omega),fun j hj=>if e:j=i then e▸ct else aH j (by first|omega|(simp only[];omega))⟩ (by first|omega|(simp only[];omega)) (Sub.cons rfl (Sub.cons rfl (Sub.cons rfl (Sub.cons rfl (Sub.cons rfl (Sub.nil _)))))) (fun w hw=>by
    rw[HL hy];exact ah.mem hw)
  ·
   replace h1:=bz h1
   refine Gc ?_
   iterate 2 refine Gs ?_
   refine ae (DW (cP:=lD) (dI:=nr) (f:=iZ ts i) (v:=y) (z:=()) rfl rfl sO) ?_
   refine Gs ?_
   refine ae (aU (v:= .agg #[]) rfl rfl) ?_
   refine ae (aU (v:= .bool ((iZ ts i y).isSome)) rfl rfl) ?_
   refine bx fun b8=> ?_
   iterate 2 refine Gs ?_
   refine Gc ?_
   iterate 2 refine Gs ?_
   refine bD rfl rfl rfl (fun hg=>(Ry.yl (dW rfl))) ?_
   iterate 2 refine Gg ?_
   refine bD rfl rfl rfl (fun hg=>bX (cg (av hg rfl) (cg (av hg rfl) (cg (av hg rfl) dO))) ⟨hk,by omega,by omega⟩) ?_
   refine bD rfl rfl rfl (fun hg=>(Ry.yl (fU (av hg rfl)))) ?_
   refine Gs ?_
   refine Gc ?_
   refine aq rfl (fun h2=> ?_) (fun h2=> ?_)
   ·
    replace h2:=bz h2
    have hz:mH (cv c) ts=false:=by
     cases lC:mH (cv c) ts with
     |false=>rfl
     |true=>
      have g:=vw.1 lC i (by omega)
      rw[kI,iA]at g
      rw[xw]at h2
      simp only[Bool.or_eq_true,Bool.and_eq_true,decide_eq_true_eq,Bool.not_eq_true',List.contains_eq_mem,decide_eq_false_iff_not]at g h2
      rcases g with g|g
      ·
       exact absurd g h1
      ·
       rcases h2 with h2|h2
       ·
        exact absurd h2.2 g.1
       ·
        rw[g.2]at h2;cases h2
    refine Gc ?_
    refine Gs ?_
    refine Gc ?_
    refine an (.inl rfl) (aK rfl (al rfl)) (fun w1 hw=> ?_)
    exact⟨congrArg (fun b=>Ending.returned (Value.bool b)) (hz.symm),ah.mem hw⟩
   ·
    replace h2:=bz h2
    have ct:kI (cv c) ts i=true:=by
     rw[xw]at h2
     rw[kI,iA]
     simp only[Bool.or_eq_true,Bool.and_eq_true,decide_eq_true_eq,Bool.not_eq_true',List.contains_eq_mem,decide_eq_false_iff_not]at h2⊢
     exact .inr ⟨fun hm=>h2.1 ⟨h1,hm⟩,h2.2⟩
    have dN:=HM hy h1
    refine Gc ?_
    iterate 2 refine Gs ?_
    refine ae (bV (v:= .agg #[]) rfl (fun w=>by kernel_rfl)) ?_
    refine DX (cP:=lD) (dI:=nr) (v:=y) (u:=()) rfl rfl rfl sO ?_
    refine Gc ?_
    iterate 2 refine Gs ?_
    refine Gi ?_
    exact bh (x:=(i)) (i+1) ⟨by first|omega|(simp only[];omega),fun j hj=>if e:j=i then e▸ct else aH j (by first|omega|(simp only[];omega))⟩ (by first|omega|(simp only[];omega)) (Sub.cons rfl (Sub.cons rfl (Sub.cons rfl (Sub.cons rfl (Sub.cons rfl (Sub.nil _)))))) (fun w hw=>by
     rw[←dN];exact ah.mem hw)
 ·
  replace h0:=bz h0
  obtain rfl:i=ts.length:=by omega
  have hz:mH (cv c) ts=true:=vw.2 fun j hj=>aH j hj
  refine Gc ?_
  refine Gs ?_
  refine Gc ?_
  refine an (.inl rfl) (aK rfl (al rfl)) (fun w1 hw=> ?_)
  exact⟨congrArg (fun b=>Ending.returned (Value.bool b)) (hz.symm),ah.mem hw⟩
instance ado{w0:World}{L:List aj}{c:Cp}{t:Sv}{ts:List Int}[hc:aS w0 L c][ht:cl w0 L bf 1 t ts]:bU Tryz.prog 91 w0 L [.agg (aB c),t.val] (.bool (mH (cv c) ts)) (bg (cv c)=true∧ ∀x∈ts,0≤x∧x≤65535):=⟨fun hp w hw=>R7 w c t ts (hc.h w hw) (ht.h w hw) hp⟩
open Go.aL Go.Kb
open Go.RowKit
instance:eC Tryz.prog 50 (.agg (bC hG)):=⟨by kernel_rfl⟩
theorem R8(u v:Int)(b:Bool)(w:World):(Instr.build 50 #[(1, .int .i64 u),(2, .int .i64 v),(3, .bool b)]).run Tryz.prog w= .ok (.agg (bC ⟨0,u,v,b⟩)) w:=by
 unfold bC
 kernel_rfl
theorem R9(w:World)(c:Cp)(l:Sl (Sl Int))(hc:Deep.bk (hp w) c)(hl:Deep.bk (hp w) l)(ba:oX (cv c) (az l.xs)):Calls Tryz.prog 51 #[.agg (aB c),l.sv.val] w fun e w'=> ∃zz:Sv,e= .returned (zz.val)∧(True)∧Mem w [own bC 4 zz (ic (cv c) (az l.xs))] w':=by
 have gy:bT w c:=⟨hc⟩
 have nt:bT w l:=⟨hl⟩
 obtain⟨⟨hk,la⟩,qa,iG⟩:=ba
 have fJ:=hl.1.bd
 have cO:=dH c.blocks.xs
 have mf:(cv c).blocks.length=c.blocks.xs.length:=cO
 have fB:=ik.1 (dE.1 hk).1
 simp only[cv,cO]at fB
 have rU:=vA (cv c) (az l.xs)
 rw[mf]at rU
 have q6:(List.replicate (c.blocks.xs.length -2) hG).length=c.blocks.xs.length -2:=List.length_replicate
 refine aW (args:=[_,_]) Tryz.func51 rfl Tryz.ntmps51 rfl ?_
 change Cw _ _ _ _ _ [(0, .agg (aB c)),(1,l.sv.val)] []
 refine Gc ?_
 refine bL rfl fun b2=> ?_
 refine Gs ?_
 refine Gc ?_
 iterate 4 refine Gs ?_
 refine rJ (enc:=bC) (n:=(c.blocks.xs.length -2)) (cap:=(c.blocks.xs.length -2)) hG rfl rfl rfl (by omega) (by omega) (by omega) (by omega) (by omega) fun ob=> ?_
 refine Gs ?_
 refine Gc ?_
 iterate 3 refine Gs ?_
 refine Gc ?_
 refine bK (X:=Nat×List aN) (fun zz=>[(22, .int .i64 (zz.1:Nat)),(5,(⟨false,ob,0,c.blocks.xs.length -2,c.blocks.xs.length -2,none⟩:Sv).val),(1,l.sv.val),(2, .pointer (some ⟨b2,0,none⟩)),(21, .int .i64 ((List.replicate (c.blocks.xs.length -2) hG).length:Nat))]) (fun zz=>[own bC 4 ⟨false,ob,0,c.blocks.xs.length -2,c.blocks.xs.length -2,none⟩ zz.2,ar b2 (aB c) 25]) (fun zz=>zz.1≤c.blocks.xs.length -2∧zz.2.length=c.blocks.xs.length -2∧zz.2.take zz.1=(ja (cv c) (az l.xs) 0).take zz.1) (fun zz=>c.blocks.xs.length -2 -zz.1) (0,List.replicate (c.blocks.xs.length -2) hG) ⟨Nat.zero_le _,by simp,by simp⟩ (Sub.cons rfl (Sub.cons rfl (Sub.cons rfl (Sub.cons rfl (Sub.cons rfl (Sub.nil _)))))) (fun w hw=>ah.mem hw) ?_
 rintro⟨i,zs⟩ ⟨bb,aH,bu⟩
 dsimp only
 simp only at bb aH bu
 refine Gc ?_
 refine Gs ?_
 refine Gc ?_
 refine aq rfl (fun h0=> ?_) (fun h0=> ?_)
 ·
  replace h0:=bz h0
  obtain⟨B,hB⟩:=get_some (xs:=c.blocks.xs) (i:=i+2) (by omega)
  have pg:Mb B c.blocks:=⟨List.mem_of_getElem? hB⟩
  obtain⟨z,hz⟩:=get_some (xs:=zs) (i:=i) (by omega)
  have CA:(zs.set i (⟨0,B.used,B.bE,B.bad⟩:aN)).take (i+1)=(ja (cv c) (az l.xs) 0).take (i+1):=by
   have e1:=zS (f:=id) (z':=(⟨0,B.used,B.bE,B.bad⟩:aN)) hz
   simp only[List.map_id]at e1
   rw[e1,bu,List.take_add_one,OM,List.getElem?_map,List.getElem?_range (by omega),Option.map_some,show aO (cv c) ((i:Int)+2)=bv B from xx (i:=i+2) hB]
   rfl
  refine Gc ?_
  iterate 2 refine Gs ?_
  refine Gc ?_
  iterate 4 refine Gs ?_
  refine ae (aX rfl rfl (i+2) rfl (by omega)) ?_
  refine ae (fH rfl (i+2) hB rfl) ?_
  have Jy:Mb B c.blocks:=⟨List.mem_of_getElem? hB⟩
  refine bx fun b7=> ?_
  refine Gs ?_
  refine Gc ?_
  iterate 8 refine Gs ?_
  refine ae (bV (v:= .agg (bC (⟨0,B.used,B.bE,B.bad⟩:aN))) rfl (R8 B.used B.bE B.bad)) ?_
  refine ae (aX rfl rfl i rfl (by omega)) ?_
  refine jU (s:=⟨false,ob,0,c.blocks.xs.length -2,c.blocks.xs.length -2,none⟩) (n:=4) (k:=i) (j:=0) (a:=z) (a':=(⟨0,B.used,B.bE,B.bad⟩:aN)) (xs:=zs) (enc:=bC) (c:=4) (v:= .agg (bC (⟨0,B.used,B.bE,B.bad⟩:aN))) (by kernel_rfl) rfl rfl rfl hz (bF.one (enc:=bC) (c:=4) _) rfl (by decide) (by rfl) ?_
  refine Gc ?_
  iterate 2 refine Gs ?_
  refine Gi ?_
  exact bh (x:=(i,zs)) (i+1,zs.set i (⟨0,B.used,B.bE,B.bad⟩:aN)) ⟨by first|omega|(simp only[];omega),by rw[List.length_set];exact aH,CA⟩ (by simp only;omega) (Sub.cons rfl (Sub.cons rfl (Sub.cons rfl (Sub.cons rfl (Sub.cons rfl (Sub.nil _)))))) (fun w hw=>ah.mem hw)
 ·
  replace h0:=bz h0
  obtain rfl:i=zs.length:=by omega
  rw[List.take_length,List.take_of_length_le (by rw[rU];omega)]at bu
  subst bu
  refine Gc ?_
  refine Jv lD nr fun AH=> ?_
  refine Gs ?_
  refine Gc ?_
  iterate 3 refine Gs ?_
  refine Gc ?_
  refine bK (X:=Nat) (fun zz=>[(45, .int .i64 (zz:Nat)),(5,(⟨false,ob,0,c.blocks.xs.length -2,c.blocks.xs.length -2,none⟩:Sv).val),(8, .map (some AH)),(2, .pointer (some ⟨b2,0,none⟩)),(43,l.sv.val),(44, .int .i64 (l.xs.length:Nat))]) (fun zz=>[omap Tryz.prog 3 lD nr AH (iZ (az l.xs) (az (l.xs.take zz)).length),own bC 4 ⟨false,ob,0,c.blocks.xs.length -2,c.blocks.xs.length -2,none⟩ (ja (cv c) (az l.xs) (az (l.xs.take zz)).length),ar b2 (aB c) 25]) (fun zz=>zz≤l.xs.length) (fun zz=>l.xs.length -zz) 0 (Nat.zero_le _) (Sub.cons rfl (Sub.cons rfl (Sub.cons rfl (Sub.cons rfl (Sub.cons rfl (Sub.cons rfl (Sub.nil _))))))) (fun w hw=>by
   have e0:(az (l.xs.take 0)).length=0:=by simp[az]
   simp only[e0];rw[←HK];exact ah.mem hw) ?_
  rintro a ha1
  refine Gc ?_
  refine Gs ?_
  refine Gc ?_
  refine aq rfl (fun h1=> ?_) (fun h1=> ?_)
  ·
   replace h1:=bz h1
   obtain⟨x,hx⟩:=get_some (xs:=l.xs) (i:=a) (by omega)
   have uw:Mb x l:=⟨List.mem_of_getElem? hx⟩
   have dV:=(hl.2 x uw.h).1.bd
   refine Gc ?_
   refine ae (aX rfl rfl a rfl (by omega)) ?_
   refine ae (bn (j:=0) rfl a hx rfl (by decide)) ?_
   have adp:Mb x _:=⟨List.mem_of_getElem? hx⟩
   refine Gs ?_
   refine Gc ?_
   iterate 3 refine Gs ?_
   refine Gc ?_
   refine bK (X:=Nat) (fun zz=>[(51, .int .i64 (zz:Nat)),(5,(⟨false,ob,0,c.blocks.xs.length -2,c.blocks.xs.length -2,none⟩:Sv).val),(8, .map (some AH)),(2, .pointer (some ⟨b2,0,none⟩)),(43,l.sv.val),(44, .int .i64 (l.xs.length:Nat)),(45, .int .i64 (a:Nat)),(49,x.sv.val),(50, .int .i64 (x.xs.length:Nat))]) (fun zz=>[omap Tryz.prog 3 lD nr AH (iZ (az l.xs) ((az (l.xs.take a)).length+zz)),own bC 4 ⟨false,ob,0,c.blocks.xs.length -2,c.blocks.xs.length -2,none⟩ (ja (cv c) (az l.xs) ((az (l.xs.take a)).length+zz)),ar b2 (aB c) 25]) (fun zz=>zz≤x.xs.length) (fun zz=>x.xs.length -zz) 0 (Nat.zero_le _) (Sub.cons rfl (Sub.cons rfl (Sub.cons rfl (Sub.cons rfl (Sub.cons rfl (Sub.cons rfl (Sub.cons rfl (Sub.cons rfl (Sub.cons rfl (Sub.nil _)))))))))) (fun w hw=>ah.mem hw) ?_
   rintro j jA
   refine Gc ?_
   refine Gs ?_
   refine Gc ?_
   refine aq rfl (fun h2=> ?_) (fun h2=> ?_)
   ·
    replace h2:=bz h2
    obtain⟨y,hy⟩:=get_some (xs:=x.xs) (i:=j) (by omega)
    have vX:=OL hx hy
    have Sa:=iG y (List.mem_of_getElem? vX)
    have iA:=oW vX
    have sO:=D9 (n:=y) (by omega)
    refine Gc ?_
    refine ae (aX rfl rfl j rfl (by omega)) ?_
    refine ae (bn (j:=0) rfl j hy rfl (by decide)) ?_
    refine Gs ?_
    refine Gc ?_
    iterate 2 refine Gs ?_
    refine ae (DW (cP:=lD) (dI:=nr) (f:=iZ (az l.xs) ((az (l.xs.take a)).length+j)) (v:=y) (z:=()) rfl rfl sO) ?_
    refine Gs ?_
    refine ae (aU (v:= .agg #[]) rfl rfl) ?_
    refine ae (aU (v:= .bool ((iZ (az l.xs) ((az (l.xs.take a)).length+j) y).isSome)) rfl rfl) ?_
    refine bx fun iM=> ?_
    iterate 2 refine Gs ?_
    refine Gc ?_
    iterate 3 refine Gs ?_
    refine Gg ?_
    refine Gs ?_
    refine Gc ?_
    refine aq rfl (fun h3=> ?_) (fun h3=> ?_)
    ·
     replace h3:=bz h3
     have q8:sa (az l.xs) ((az (l.xs.take a)).length+j)=false:=by
      rw[sa,iA]
      rw[xw]at h3
      rcases h3 with h|h
      ·
       simp[h]
      ·
       simp only[decide_eq_true_eq]at h;simp[h.2]
     have Sb:iZ (az l.xs) (((az (l.xs.take a)).length+j)+1)=iZ (az l.xs) ((az (l.xs.take a)).length+j):=by
      rw[xw]at h3
      rcases h3 with h|h
      ·
       exact HL (h▸vX)
      ·
       exact OJ vX (by simpa using h)
     refine Gc ?_
     iterate 2 refine Gs ?_
     refine Gi ?_
     exact bh (x:=(j)) (j+1) (by first|omega|(simp only[];omega)) (by first|omega|(simp only[];omega)) (Sub.cons rfl (Sub.cons rfl (Sub.cons rfl (Sub.cons rfl (Sub.cons rfl (Sub.cons rfl (Sub.cons rfl (Sub.cons rfl (Sub.cons rfl (Sub.nil _)))))))))) (fun w hw=>by
      rw[←Nat.add_assoc,Sb,OI q8];exact ah.mem hw)
    ·
     replace h3:=bz h3
     have qA:y≠0:=h3.1
     obtain⟨b1,b2,b3,b4⟩:=Sa.resolve_left qA
     change 2≤((y -1)/c.ag)at b3
     change((y -1)/c.ag)<((fm c.blocks.xs).length:Int)at b4
     rw[cO]at b4
     have q8:sa (az l.xs) ((az (l.xs.take a)).length+j)=true:=by
      rw[sa,iA]
      have h9:=h3.2
      rw[xw]at h9
      simp only[decide_eq_false_iff_not]at h9
      simp only[Bool.and_eq_true,decide_eq_true_eq,Bool.not_eq_true',List.contains_eq_mem,decide_eq_false_iff_not]
      exact⟨qA,fun hm=>h9 ⟨qA,hm⟩⟩
     have dN:=HM vX qA
     have tE:=vA (cv c) (az l.xs) ((az (l.xs.take a)).length+j)
     rw[mf]at tE
     obtain⟨z,hz⟩:=get_some (xs:=ja (cv c) (az l.xs) ((az (l.xs.take a)).length+j)) (i:=(((y -1)/c.ag) -2).toNat) (by omega)
     have oc:=OK q8 (i:=(((y -1)/c.ag) -2).toNat) (by rw[iA];show((y -1)/c.ag)=_;omega) hz
     have ui:=ON hz
     have gh:=(List.getElem?_eq_some_iff.1 vX).1
     refine Gc ?_
     iterate 2 refine Gs ?_
     refine ae (bV (v:= .agg #[]) rfl (fun w=>by kernel_rfl)) ?_
     refine DX (cP:=lD) (dI:=nr) (v:=y) (u:=()) rfl rfl rfl sO ?_
     refine Gc ?_
     iterate 5 refine Gs ?_
     refine ae (gV rfl rfl (by omega) (by omega)) ?_
     refine Gs ?_
     refine ae (aX rfl rfl ((((y -1)/c.ag) -2).toNat) (by omega) (by omega)) ?_
     refine ae (aA rfl rfl) ?_
     refine ae (bn (j:=0) rfl ((((y -1)/c.ag) -2).toNat) hz rfl (by decide)) ?_
     refine Gs ?_
     refine ae (aX rfl rfl ((((y -1)/c.ag) -2).toNat) (by omega) (by omega)) ?_
     refine ae (aA rfl rfl) ?_
     refine jU (s:=⟨false,ob,0,c.blocks.xs.length -2,c.blocks.xs.length -2,none⟩) (n:=1) (k:=(((y -1)/c.ag) -2).toNat) (j:=0) (a:=z) (a':={z with live:=z.live+1}) (xs:=(ja (cv c) (az l.xs) ((az (l.xs.take a)).length+j))) (enc:=bC) (c:=4) (v:= .int .i64 (z.live+1)) (by kernel_rfl) rfl rfl rfl hz (by simp[Value.cells,Value.oneCell']) (by rfl) (by decide) (by rfl) ?_
     refine Gc ?_
     iterate 2 refine Gs ?_
     refine Gi ?_
     exact bh (x:=(j)) (j+1) (by first|omega|(simp only[];omega)) (by first|omega|(simp only[];omega)) (Sub.cons rfl (Sub.cons rfl (Sub.cons rfl (Sub.cons rfl (Sub.cons rfl (Sub.cons rfl (Sub.cons rfl (Sub.cons rfl (Sub.cons rfl (Sub.nil _)))))))))) (fun w hw=>by
      rw[←Nat.add_assoc,←dN,oc];exact ah.mem hw)
   ·
    replace h2:=bz h2
    obtain rfl:j=x.xs.length:=by omega
    refine Gc ?_
    iterate 2 refine Gs ?_
    refine Gi ?_
    exact bh (x:=(a)) (a+1) (by first|omega|(simp only[];omega)) (by first|omega|(simp only[];omega)) (Sub.cons rfl (Sub.cons rfl (Sub.cons rfl (Sub.cons rfl (Sub.cons rfl (Sub.cons rfl (Sub.nil _))))))) (fun w hw=>by
     rw[HR hx,List.length_append];exact ah.mem hw)
  ·
   replace h1:=bz h1
   obtain rfl:a=l.xs.length:=by omega
   rw[List.take_length]
   refine Gc ?_
   iterate 2 refine Gs ?_
   refine Gc ?_
   refine an (.inl rfl) (aK rfl (al rfl)) (fun w1 hw=> ?_)
   exact⟨⟨false,ob,0,c.blocks.xs.length -2,c.blocks.xs.length -2,none⟩,rfl,trivial,by rw[ic];exact ah.mem hw⟩
instance adq{w0:World}{L:List aj}{c:Cp}{l:Sl (Sl Int)}[hc:aS w0 L c][hl:aS w0 L l]:bW Tryz.prog 51 w0 L [.agg (aB c),l.sv.val] (Sv) (fun zz=>zz.val) (fun zz=>own bC 4 zz (ic (cv c) (az l.xs))::L) (fun zz=>True) (oX (cv c) (az l.xs)):=⟨fun hp w hw=>(R9 w c l (hc.h w hw) (hl.h w hw) hp).mono fun e w' ⟨x,h1,h2,h3⟩=>⟨x,h1,h2,hw.call h3⟩⟩
end Go.Proofs.YtaipiecplldinaaGreat
namespace Go.aL
open Go.RowKit
section
variable {P:Program} {N:cy} {w0:World} {env:Env} {L:List aj} {d:Option Tmp} {ty:TypeId} {ps:String} {af:Array Edge} {gd:Option (Nat×Bool)}
class kx(w0:World)(L:List aj)(b:Nat)(cs:outParam (Array Value))(T:outParam TypeId):Prop where
 h: ∀w,Mem w0 L w→w.heap[b]? =some (.cells cs T (0,0))
class od(w0:World)(b:Nat)(cs:outParam (Array Value))(T:outParam TypeId):Prop where
 h:w0.heap[b]? =some (.cells cs T (0,0))
instance (priority:=high) kx.has {b i:Nat}{cs:Array Value}{T:TypeId}[q:Has L b cs T i]:kx w0 L b cs T:=⟨fun w hw=>hw.block q.h⟩
instance kx.old{b:Nat}{cs:Array Value}{T:TypeId}[q:od w0 b cs T]:kx w0 L b cs T:=⟨fun w hw=>by
 have bB:b<w0.heap.size:=by
  rcases Nat.lt_or_ge b w0.heap.size with h|h
  ·
   exact h
  ·
   have:=q.h;simp[Array.getElem?_eq_none h]at this
 rw[hw.below.block b bB];exact q.h⟩
theorem kx.cell{b:Nat}{cs:Array Value}{T:TypeId}(q:kx w0 L b cs T){w:World}(hw:Mem w0 L w)(o:Nat):w.cell? ⟨b,o,none⟩=cs[o]? :=by
 simp[World.cell?,q.h w hw]
theorem lE{t:TypeId}{x:Operand}{b o:Nat}{cs:Array Value}{T:TypeId}{v:Value}(hx:ev env x=some (.pointer (some ⟨b,o,none⟩)))[ht:gC P t][hi:kx w0 L b cs T][hc:cj cs o v]:
  Ry P N w0 env L ⟨d, .load t x,ty,ps,af,gd⟩ v:=uO ht hx fun w hw=>by rw[hi.cell hw];exact hc.h
theorem Sc{t:TypeId}{x:Operand}{b o n:Nat}{cs sub:Array Value}{T:TypeId}(hx:ev env x=some (.pointer (some ⟨b,o,none⟩)))[ht:eQ P t n][hi:kx w0 L b cs T][hs:mU cs o n sub]:
  Ry P N w0 env L ⟨d, .load t x,ty,ps,af,gd⟩ (.agg sub):=wH ht hx hs.size fun w hw j hj=>by rw[Addr.fF,hi.cell hw];exact hs.h j hj
end
section
variable {w0:World} {L:List aj}
theorem vY{w0 w:World}{L R1 R2 R3:List aj}{e1 e2 e3:aj}{i j k:Nat}(h1:L[i]? =some e1)(d1:L.eraseIdx i=R1)(h2:R1[j]? =some e2)(d2:R1.eraseIdx j=R2)(h3:R2[k]? =some e3)(d3:R2.eraseIdx k=R3)(h:Mem w0 L w):Mem w0 (e1::e2::e3::R3) w:=by
 subst d1;subst d2;subst d3
 exact h.perm ((mA h1).trans (((mA h2).trans ((mA h3).cons _)).cons _))
theorem Sd{w0 w:World}{L R1 R2 R3 R4:List aj}{e1 e2 e3 e4:aj}{i j k l:Nat}(h1:L[i]? =some e1)(d1:L.eraseIdx i=R1)(h2:R1[j]? =some e2)(d2:R1.eraseIdx j=R2)(h3:R2[k]? =some e3)(d3:R2.eraseIdx k=R3)(h4:R3[l]? =some e4)(d4:R3.eraseIdx l=R4)(h:Mem w0 L w):Mem w0 (e1::e2::e3::e4::R4) w:=by
 subst d1;subst d2;subst d3;subst d4
 exact h.perm ((mA h1).trans (((mA h2).trans (((mA h3).trans ((mA h4).cons _)).cons _)).cons _))
end
instance (priority:=low) Hd.tail {w0:World}{L:List aj}{e:aj}{s:Sv}{α:Type}{enc:α→Array Value}{c:Nat}{xs:List α}[q:Hd w0 L s enc c xs]:Hd w0 (e::L) s enc c xs:=⟨fun w hw=>q.h w (hw.sub (List.sublist_cons_self _ _))⟩
instance (priority:=low) aS.tail {w0:World}{L:List aj}{e:aj}{τ:Type}[Deep τ]{a:τ}[q:aS w0 L a]:aS w0 (e::L) a:=⟨fun w hw=>q.h w (hw.sub (List.sublist_cons_self _ _))⟩
theorem Se{P:Program}{N:cy}{env:Env}{α:Type}{enc:α→Array Value}{c n:Nat}{t e:TypeId}{cE:Nat}{z:Value}{x y:Operand}{d:Option Tmp}{ty:TypeId}{ps:String}{af:Array Edge}{gd:Option (Nat×Bool)}{k k':IntKind}{ix iy:Int}[he:bF enc c][ht:eo P t e c cE][hz:eC P e z](x0:α)(h0:enc x0=z.cells)(hx:ev env x=some (.int k ix))(hy:ev env y=some (.int k' iy))(ex:ix=(n:Int))(ey:iy=(n:Int))(hb:cE*n≤281474976710656)(ij:n≤140737488355328):
  ∀a,cV N env a→qE P ⟨d, .makeSlice t x y,ty,ps,af,gd⟩ a.eval (nN enc c n (List.replicate n x0)):=fun a ha w0 w L hw=>by
 subst ex ey
 obtain⟨w',h1,h2⟩:=BP ht hz (k:=k) (k':=k') (n:=n) x0 h0 (Nat.le_refl _) hb ij w
 exact⟨w.heap.size,w',by simp only[execOp,ha.ev hx,ha.ev hy,Sem.run_bind,h1,Result.andThen,Sem.run_pure],hw.call h2⟩
def og(f:FuncId):Array Value:= #[.func (.func f) #[] #[]]
instance:bF og 1:=⟨fun _=>rfl,fun _=>by simp[og,Value.oneCell']⟩
instance (f:FuncId):cj (og f) 0 (.func (.func f) #[] #[]):=⟨rfl⟩
class ph(P:Program)(w0:World)(L:List aj)(f:FuncId)(jf:Array Value){α:outParam Type}(enc:outParam (α→Array Value))(R:outParam (α→Bool)):Prop where
 fn:aM P f
 h: ∀w,Mem w0 L w→ ∀x,Calls P f ((Value.agg (enc x)::jf.toList).toArray) w fun e w'=>e= .returned (.bool (R x))∧Mem w [] w'
theorem ph.at{P:Program}{w0:World}{L:List aj}{f:FuncId}{jf:Array Value}{α:Type}{enc:α→Array Value}{R:α→Bool}(q:ph P w0 L f jf enc R){w:World}(hw:Mem w0 L w):ph P w [] f jf enc R:=
 ⟨q.fn,fun w1 h1 x=>q.h w1 (by simpa using hw.call h1) x⟩
end Go.aL
namespace Go.Proofs.YtaipiecplldinaaGreat
open Go.aL Go.Kb
open Go.RowKit
instance:eC Tryz.prog 234 (.agg (c6 Oj)):=⟨by kernel_rfl⟩
theorem Ea(x:aN)(p:Int)(w:World):(Instr.build 234 #[(0, .agg (bC x)),(1, .int .i64 p)]).run Tryz.prog w= .ok (.agg (c6 ⟨x,p⟩)) w:=by
 obtain⟨a,b,c,d⟩:=x
 unfold c6 bC
 kernel_rfl
theorem Sf(w:World)(a:Int):Calls Tryz.prog 198 #[.int .i64 a] w fun e w'=>e= .returned (.bool false)∧Mem w [] w':=by
 refine aW (args:=[_]) Tryz.func198 rfl Tryz.ntmps198 rfl ?_
 change Cw _ _ _ _ _ [(0, .int .i64 a)] []
 refine Gc ?_
 refine Gs ?_
 refine Gc ?_
 iterate 4 refine Gs ?_
 refine Gc ?_
 refine an (.inl rfl) (aK rfl (al rfl)) (fun w1 hw=> ?_)
 exact⟨congrArg (fun b=>Ending.returned (Value.bool b)) ((by simp)),ah.mem hw⟩
instance adr{w0:World}{L:List aj}{a:Int}:bU Tryz.prog 198 w0 L [.int .i64 a] (.bool false) (True):=⟨fun hp w hw=>Sf w a⟩
theorem Sg(w:World)(a:Int)(b:Int):Calls Tryz.prog 197 #[.int .i64 a, .int .i64 b] w fun e w'=>e= .returned (.int .i64 (se a b))∧Mem w [] w':=by
 refine aW (args:=[_,_]) Tryz.func197 rfl Tryz.ntmps197 rfl ?_
 change Cw _ _ _ _ _ [(0, .int .i64 a),(1, .int .i64 b)] []
 refine Gc ?_
 refine Gs ?_
 refine Gc ?_
 iterate 3 refine Gs ?_
 refine Gc ?_
 iterate 3 refine Gs ?_
 refine Gc ?_
 refine Gs ?_
 refine Gc ?_
 refine aq rfl (fun h0=> ?_) (fun h0=> ?_)
 ·
  exfalso;simp at h0
 ·
  replace h0:=bz h0
  refine Gc ?_
  refine Gs ?_
  refine Gc ?_
  refine aq rfl (fun h2=> ?_) (fun h2=> ?_)
  ·
   exfalso;simp at h2
  ·
   replace h2:=bz h2
   refine Gc ?_
   iterate 3 refine Gs ?_
   refine Gc ?_
   refine aq rfl (fun h3=> ?_) (fun h3=> ?_)
   ·
    replace h3:=bz h3
    refine Gc ?_
    refine Gs ?_
    refine Gc ?_
    refine an (.inl rfl) (aK rfl (al rfl)) (fun w1 hw=> ?_)
    exact⟨congrArg (fun b=>Ending.returned (Value.int .i64 b)) ((by rw[se,if_pos (by omega)])),ah.mem hw⟩
   ·
    replace h3:=bz h3
    refine Gc ?_
    iterate 3 refine Gs ?_
    refine Gc ?_
    refine aq rfl (fun h4=> ?_) (fun h4=> ?_)
    ·
     replace h4:=bz h4
     refine Gc ?_
     refine Gs ?_
     refine Gc ?_
     refine an (.inl rfl) (aK rfl (al rfl)) (fun w1 hw=> ?_)
     exact⟨congrArg (fun b=>Ending.returned (Value.int .i64 b)) ((by rw[se,if_neg (by omega),if_pos (by omega)])),ah.mem hw⟩
    ·
     replace h4:=bz h4
     refine Gc ?_
     refine Gs ?_
     refine Gc ?_
     refine an (.inl rfl) (aK rfl (al rfl)) (fun w1 hw=> ?_)
     exact⟨congrArg (fun b=>Ending.returned (Value.int .i64 b)) ((by rw[se,if_neg (by omega),if_neg (by omega)])),ah.mem hw⟩
instance ads{w0:World}{L:List aj}{a:Int}{b:Int}:bU Tryz.prog 197 w0 L [.int .i64 a, .int .i64 b] (.int .i64 (se a b)) (True):=⟨fun hp w hw=>Sg w a b⟩
theorem JF(w:World)(b:gG):Calls Tryz.prog 187 #[.agg (c6 b)] w fun e w'=>e= .returned (.bool (pZ b.ag b.w))∧Mem w [] w':=by
 refine aW (args:=[_]) Tryz.func187 rfl Tryz.ntmps187 rfl ?_
 change Cw _ _ _ _ _ [(0, .agg (c6 b))] []
 refine Gc ?_
 refine bL rfl fun b1=> ?_
 refine Gs ?_
 refine Gc ?_
 iterate 5 refine Gs ?_
 refine Gg ?_
 refine dG rfl rfl rfl (fun hg=>(Ry.yl (aA (o':=1) (av hg rfl) rfl))) ?_
 iterate 4 refine Gg ?_
 iterate 2 refine Gs ?_
 refine Gc ?_
 refine an (.inl rfl) (aK rfl (al rfl)) (fun w1 hw=> ?_)
 exact⟨congrArg (fun b=>Ending.returned (Value.bool b)) (by simp only[pZ,Bool.and_assoc]),ah.mem hw⟩
instance adt{w0:World}{L:List aj}{b:gG}:bU Tryz.prog 187 w0 L [.agg (c6 b)] (.bool (pZ b.ag b.w)) (True):=⟨fun hp w hw=>JF w b⟩
theorem JG(w:World)(b:gG):Calls Tryz.prog 185 #[.agg (c6 b)] w fun e w'=>e= .returned (.bool (p0 b.w))∧Mem w [] w':=by
 refine aW (args:=[_]) Tryz.func185 rfl Tryz.ntmps185 rfl ?_
 change Cw _ _ _ _ _ [(0, .agg (c6 b))] []
 refine Gc ?_
 refine bL rfl fun b1=> ?_
 refine Gs ?_
 refine Gc ?_
 iterate 5 refine Gs ?_
 refine Gg ?_
 refine dG rfl rfl rfl (fun hg=>(Ry.yl (aA (o':=0) (av hg rfl) rfl))) ?_
 iterate 2 refine Gg ?_
 iterate 2 refine Gs ?_
 refine Gg ?_
 refine dG rfl rfl rfl (fun hg=>(Ry.yl (aA (o':=1) (av hg rfl) rfl))) ?_
 iterate 2 refine Gg ?_
 iterate 2 refine Gs ?_
 refine Gc ?_
 refine an (.inl rfl) (aK rfl (al rfl)) (fun w1 hw=> ?_)
 exact⟨congrArg (fun b=>Ending.returned (Value.bool b)) (by simp only[p0,Bool.and_assoc]),ah.mem hw⟩
instance adu{w0:World}{L:List aj}{b:gG}:bU Tryz.prog 185 w0 L [.agg (c6 b)] (.bool (p0 b.w)) (True):=⟨fun hp w hw=>JG w b⟩
theorem Sh(w:World)(b:gG):Calls Tryz.prog 189 #[.agg (c6 b)] w fun e w'=>e= .returned (.bool (xz b.ag b.w))∧Mem w [] w':=by
 refine aW (args:=[_]) Tryz.func189 rfl Tryz.ntmps189 rfl ?_
 change Cw _ _ _ _ _ [(0, .agg (c6 b))] []
 refine Gc ?_
 refine bL rfl fun b1=> ?_
 refine Gs ?_
 refine Gc ?_
 iterate 3 refine Gs ?_
 refine Gc ?_
 refine aq rfl (fun h0=> ?_) (fun h0=> ?_)
 ·
  replace h0:=bz h0
  refine Gc ?_
  iterate 5 refine Gs ?_
  refine Gc ?_
  refine an (.inl rfl) (aK rfl (al rfl)) (fun w1 hw=> ?_)
  exact⟨congrArg (fun b=>Ending.returned (Value.bool b)) (by rw[xz,if_pos h0]),ah.mem hw⟩
 ·
  replace h0:=bz h0
  refine Gc ?_
  iterate 7 refine Gs ?_
  refine Gg ?_
  refine dG rfl rfl rfl (fun hg=>(Ry.yl (aA (o':=0) (av hg rfl) rfl))) ?_
  iterate 2 refine Gg ?_
  iterate 2 refine Gs ?_
  refine Gg ?_
  refine dG rfl rfl rfl (fun hg=>(Ry.yl (aA (o':=0) (av hg rfl) rfl))) ?_
  iterate 4 refine Gg ?_
  iterate 2 refine Gs ?_
  refine Gc ?_
  refine an (.inl rfl) (aK rfl (al rfl)) (fun w1 hw=> ?_)
  exact⟨congrArg (fun b=>Ending.returned (Value.bool b)) (by rw[xz,if_neg (by rw[h0];simp)]),ah.mem hw⟩
theorem Si(w:World)(a:gG)(b:gG):Calls Tryz.prog 188 #[.agg (c6 a), .agg (c6 b)] w fun e w'=>e= .returned (.int .i64 (C9 a.w b.w))∧Mem w [] w':=by
 refine aW (args:=[_,_]) Tryz.func188 rfl Tryz.ntmps188 rfl ?_
 change Cw _ _ _ _ _ [(0, .agg (c6 a)),(1, .agg (c6 b))] []
 refine Gc ?_
 refine bL rfl fun b2=> ?_
 refine bL rfl fun b3=> ?_
 refine Gs ?_
 refine Gc ?_
 iterate 8 refine Gs ?_
 refine Gc ?_
 refine an (.inl rfl) (aK rfl (al rfl)) (fun w1 hw=> ?_)
 exact⟨congrArg (fun b=>Ending.returned (Value.int .i64 b)) (rfl),ah.mem hw⟩
theorem Sj(w:World)(a:gG)(b:gG):Calls Tryz.prog 186 #[.agg (c6 a), .agg (c6 b)] w fun e w'=>e= .returned (.int .i64 (xA a.w b.w))∧Mem w [] w':=by
 refine aW (args:=[_,_]) Tryz.func186 rfl Tryz.ntmps186 rfl ?_
 change Cw _ _ _ _ _ [(0, .agg (c6 a)),(1, .agg (c6 b))] []
 refine Gc ?_
 refine bL rfl fun b2=> ?_
 refine bL rfl fun b3=> ?_
 refine Gs ?_
 refine Gc ?_
 iterate 8 refine Gs ?_
 refine Gc ?_
 refine an (.inl rfl) (aK rfl (al rfl)) (fun w1 hw=> ?_)
 exact⟨congrArg (fun b=>Ending.returned (Value.int .i64 b)) (rfl),ah.mem hw⟩
theorem Sk(w:World)(a:gG)(b:gG):Calls Tryz.prog 191 #[.agg (c6 a), .agg (c6 b)] w fun e w'=>e= .returned (.int .i64 (Da a.w b.w))∧Mem w [] w':=by
 refine aW (args:=[_,_]) Tryz.func191 rfl Tryz.ntmps191 rfl ?_
 change Cw _ _ _ _ _ [(0, .agg (c6 a)),(1, .agg (c6 b))] []
 refine Gc ?_
 refine bL rfl fun b2=> ?_
 refine bL rfl fun b3=> ?_
 refine Gs ?_
 refine Gc ?_
 iterate 8 refine Gs ?_
 refine Gc ?_
 refine an (.inl rfl) (aK rfl (al rfl)) (fun w1 hw=> ?_)
 exact⟨congrArg (fun b=>Ending.returned (Value.int .i64 b)) (rfl),ah.mem hw⟩
theorem Sm(w:World)(a:gG)(b:gG):Calls Tryz.prog 190 #[.agg (c6 a), .agg (c6 b)] w fun e w'=>e= .returned (.int .i64 (vB a.w b.w))∧Mem w [] w':=by
 refine aW (args:=[_,_]) Tryz.func190 rfl Tryz.ntmps190 rfl ?_
 change Cw _ _ _ _ _ [(0, .agg (c6 a)),(1, .agg (c6 b))] []
 refine Gc ?_
 refine bL rfl fun b2=> ?_
 refine bL rfl fun b3=> ?_
 refine Gs ?_
 refine Gc ?_
 iterate 6 refine Gs ?_
 refine ae (Ly rfl rfl Tryz.underlying4) ?_
 refine Gs ?_
 refine Gc ?_
 refine aq rfl (fun h0=> ?_) (fun h0=> ?_)
 ·
  replace h0:=bz h0
  refine Gc ?_
  refine Gs ?_
  refine Gc ?_
  refine an (.inl rfl) (aK rfl (al rfl)) (fun w1 hw=> ?_)
  exact⟨congrArg (fun b=>Ending.returned (Value.int .i64 b)) ((by rw[vB,if_pos (by simpa using h0)])),ah.mem hw⟩
 ·
  replace h0:=bz h0
  refine Gc ?_
  iterate 4 refine Gs ?_
  refine Gc ?_
  refine aq rfl (fun h1=> ?_) (fun h1=> ?_)
  ·
   replace h1:=bz h1
   refine Gc ?_
   refine Gs ?_
   refine Gc ?_
   refine an (.inl rfl) (aK rfl (al rfl)) (fun w1 hw=> ?_)
   exact⟨congrArg (fun b=>Ending.returned (Value.int .i64 b)) ((by rw[vB,if_neg (by simpa using h0),if_pos h1])),ah.mem hw⟩
  ·
   replace h1:=bz h1
   refine Gc ?_
   refine Gs ?_
   refine Gc ?_
   refine an (.inl rfl) (aK rfl (al rfl)) (fun w1 hw=> ?_)
   exact⟨congrArg (fun b=>Ending.returned (Value.int .i64 b)) ((by rw[vB,if_neg (by simpa using h0),if_neg (by rw[h1];simp)])),ah.mem hw⟩
theorem Sn(w:World)(l:Sv)(ls:List aN)(p:Int)(hl:bM bC 4 (hp w) l ls):Calls Tryz.prog 195 #[l.val, .int .i64 p] w fun e w'=>e= .returned (.bool (mI ls p))∧Mem w [] w':=by
 have nt:Gv w l bC 4 ls:=⟨hl⟩
 have o8:dJ=1099511627776:=rfl
 refine aW (args:=[_,_]) Tryz.func195 rfl Tryz.ntmps195 rfl ?_
 change Cw _ _ _ _ _ [(0,l.val),(1, .int .i64 p)] []
 refine Gc ?_
 refine Gs ?_
 refine Gc ?_
 iterate 4 refine Gs ?_
 iterate 3 refine Gg ?_
 iterate 2 refine Gs ?_
 iterate 2 refine Gg ?_
 iterate 2 refine Gs ?_
 iterate 2 refine Gg ?_
 refine Gs ?_
 refine Gc ?_
 refine aq rfl (fun h0=> ?_) (fun h0=> ?_)
 ·
  replace h0:=bz h0
  have hz:mI ls p=false:=by
   cases hk:mI ls p with
   |false=>rfl
   |true=>have g:=xB.1 hk;omega
  refine Gc ?_
  refine Gs ?_
  refine Gc ?_
  refine an (.inl rfl) (aK rfl (al rfl)) (fun w1 hw=> ?_)
  exact⟨congrArg (fun b=>Ending.returned (Value.bool b)) (hz.symm),ah.mem hw⟩
 ·
  replace h0:=bz h0
  refine Gc ?_
  iterate 3 refine Gs ?_
  refine Gc ?_
  refine bK (X:=Nat) (fun zz=>[(25, .int .i64 (zz:Nat)),(1, .int .i64 p),(23,l.val),(24, .int .i64 (ls.length:Nat))]) (fun zz=>[]) (fun zz=>zz≤ls.length∧ ∀j x,j<zz→ls[j]? =Option.some x→sf p x=true) (fun zz=>ls.length -zz) 0 ⟨Nat.zero_le _,fun j x hj=>by first|omega|(simp only[];omega)⟩ (Sub.cons rfl (Sub.cons rfl (Sub.cons rfl (Sub.cons rfl (Sub.nil _))))) (fun w hw=>ah.mem hw) ?_
  rintro i ⟨bb,aH⟩
  refine Gc ?_
  refine Gs ?_
  refine Gc ?_
  refine aq rfl (fun h1=> ?_) (fun h1=> ?_)
  ·
   replace h1:=bz h1
   iterate 6 refine Gi ?_
   obtain⟨x,hx⟩:=get_some (xs:=ls) (i:=i) (by omega)
   refine ae (aX rfl rfl i rfl (by omega)) ?_
   refine ae (fH rfl i hx rfl) ?_
   refine bx fun b6=> ?_
   refine Gs ?_
   refine Gc ?_
   iterate 4 refine Gs ?_
   iterate 5 refine Gg ?_
   iterate 2 refine Gs ?_
   iterate 4 refine Gg ?_
   iterate 2 refine Gs ?_
   iterate 3 refine Gg ?_
   iterate 2 refine Gs ?_
   iterate 3 refine Gg ?_
   refine Gs ?_
   refine Gc ?_
   refine aq rfl (fun h2=> ?_) (fun h2=> ?_)
   ·
    replace h2:=bz h2
    have hz:mI ls p=false:=by
     cases hk:mI ls p with
     |false=>rfl
     |true=>
      have g:=vC.1 ((xB.1 hk).2.2.2.2 x (List.mem_of_getElem? hx))
      omega
    refine Gc ?_
    refine Gs ?_
    refine Gc ?_
    refine an (.inl rfl) (aK rfl (al rfl)) (fun w1 hw=> ?_)
    exact⟨congrArg (fun b=>Ending.returned (Value.bool b)) (hz.symm),ah.mem hw⟩
   ·
    replace h2:=bz h2
    have p8:sf p x=true:=vC.2 ⟨by omega,by omega,by omega,by omega,by omega⟩
    refine Gc ?_
    iterate 2 refine Gs ?_
    refine Gi ?_
    exact bh (x:=(i)) (i+1) ⟨by first|omega|(simp only[];omega),fun j y hj hy=>if e:j=i then(by subst e;rw[hx]at hy;cases hy;exact p8)else aH j y (by first|omega|(simp only[];omega)) hy⟩ (by first|omega|(simp only[];omega)) (Sub.cons rfl (Sub.cons rfl (Sub.cons rfl (Sub.cons rfl (Sub.nil _))))) (fun w hw=>ah.mem hw)
  ·
   replace h1:=bz h1
   obtain rfl:i=ls.length:=by omega
   have hz:mI ls p=true:=xB.2 ⟨by omega,by omega,by omega,by omega,fun x hx=>by
    obtain⟨j,hj⟩:=List.getElem?_of_mem hx
    exact aH j x (List.getElem?_eq_some_iff.1 hj).1 hj⟩
   refine Gc ?_
   refine Gs ?_
   refine Gc ?_
   refine an (.inl rfl) (aK rfl (al rfl)) (fun w1 hw=> ?_)
   exact⟨congrArg (fun b=>Ending.returned (Value.bool b)) (hz.symm),ah.mem hw⟩
instance adv{w0:World}{L:List aj}{l:Sv}{ls:List aN}{p:Int}[hl:cl w0 L bC 4 l ls]:bU Tryz.prog 195 w0 L [l.val, .int .i64 p] (.bool (mI ls p)) (True):=⟨fun hp w hw=>Sn w l ls p (hl.h w hw)⟩
def fC(f:FuncId):aN→aN→Int:=if f=188 then C9 else if f=186 then xA else if f=191 then Da else vB
theorem So{f:FuncId}(h:f∈[188,186,191,190]):aM Tryz.prog f∧ ∀(w:World) (a b:gG),Calls Tryz.prog f #[.agg (c6 a), .agg (c6 b)] w fun e w'=>e= .returned (.int .i64 (fC f a.w b.w))∧Mem w [] w':=by
 simp only[List.mem_cons,List.not_mem_nil,or_false]at h
 rcases h with rfl|rfl|rfl|rfl
 ·
  exact⟨inferInstance,fun w a b=>Si w a b⟩
 ·
  exact⟨inferInstance,fun w a b=>Sj w a b⟩
 ·
  exact⟨inferInstance,fun w a b=>Sk w a b⟩
 ·
  exact⟨inferInstance,fun w a b=>Sm w a b⟩
def jP(f:FuncId)(p:Int):aN→Bool:=if f=187 then pZ p else if f=185 then p0 else xz p
theorem Sp{f:FuncId}(h:f∈[187,185,189]):aM Tryz.prog f∧ ∀(w:World) (b:gG),Calls Tryz.prog f #[.agg (c6 b)] w fun e w'=>e= .returned (.bool (jP f b.ag b.w))∧Mem w [] w':=by
 simp only[List.mem_cons,List.not_mem_nil,or_false]at h
 rcases h with rfl|rfl|rfl
 ·
  exact⟨inferInstance,fun w b=>JF w b⟩
 ·
  exact⟨inferInstance,fun w b=>JG w b⟩
 ·
  exact⟨inferInstance,fun w b=>Sh w b⟩
theorem Sr(w:World)(a:gG)(b:gG)(o:Sv)(os:List FuncId)(ho:bM og 1 (hp w) o os)(ba: ∀f∈os,f∈[188,186,191,190]):Calls Tryz.prog 196 #[.agg (c6 a), .agg (c6 b),o.val] w fun e w'=>e= .returned (.bool (oY a.w b.w (os.map fC)))∧Mem w [] w':=by
 have Ss:Gv w o og 1 os:=⟨ho⟩
 have fJ:=ho.bd
 refine aW (args:=[_,_,_]) Tryz.func196 rfl Tryz.ntmps196 rfl ?_
 change Cw _ _ _ _ _ [(0, .agg (c6 a)),(1, .agg (c6 b)),(2,o.val)] []
 refine Gc ?_
 refine bL rfl fun b3=> ?_
 refine bL rfl fun b4=> ?_
 refine Gs ?_
 refine Gc ?_
 iterate 3 refine Gs ?_
 refine Gc ?_
 refine bK (X:=Nat) (fun zz=>[(12, .int .i64 (zz:Nat)),(3, .pointer (some ⟨b3,0,none⟩)),(4, .pointer (some ⟨b4,0,none⟩)),(10,o.val),(11, .int .i64 (os.length:Nat))]) (fun zz=>[ar b4 (c6 b) 234,ar b3 (c6 a) 234]) (fun zz=>zz≤os.length∧oY a.w b.w (os.map fC)=oY a.w b.w ((os.drop zz).map fC)) (fun zz=>os.length -zz) 0 ⟨Nat.zero_le _,rfl⟩ (Sub.cons rfl (Sub.cons rfl (Sub.cons rfl (Sub.cons rfl (Sub.cons rfl (Sub.nil _)))))) (fun w hw=>ah.mem hw) ?_
 rintro i ⟨bb,aH⟩
 refine Gc ?_
 refine Gs ?_
 refine Gc ?_
 refine aq rfl (fun h0=> ?_) (fun h0=> ?_)
 ·
  replace h0:=bz h0
  obtain⟨f,hf⟩:=get_some (xs:=os) (i:=i) (by omega)
  obtain⟨St,Su⟩:=So (ba f (List.mem_of_getElem? hf))
  have bH:oY a.w b.w ((os.drop i).map fC)=if fC f a.w b.w≠0 then decide (fC f a.w b.w<0)else oY a.w b.w ((os.drop (i+1)).map fC):=by
   rw[vE hf,List.map_cons,oY]
  refine Gc ?_
  refine ae (aX rfl rfl i rfl (by omega)) ?_
  refine ae (bn (j:=0) rfl i hf rfl (by decide)) ?_
  refine Gs ?_
  refine Gc ?_
  iterate 3 refine Gs ?_
  refine dQ (Ay (f:=f) (vs:=[.agg (c6 a), .agg (c6 b)]) rfl rfl (fun w1 _=>Su w1 a b)) ?_
  refine Gs ?_
  refine Gc ?_
  iterate 2 refine Gs ?_
  refine Gc ?_
  refine aq rfl (fun h1=> ?_) (fun h1=> ?_)
  ·
   replace h1:=bz h1
   have hz:oY a.w b.w (os.map fC)=decide (fC f a.w b.w<0):=by rw[aH,bH,if_pos h1]
   refine Gc ?_
   iterate 3 refine Gs ?_
   refine Gc ?_
   refine an (.inl rfl) (aK rfl (al rfl)) (fun w1 hw=> ?_)
   exact⟨congrArg (fun b=>Ending.returned (Value.bool b)) (hz.symm),ah.mem hw⟩
  ·
   replace h1:=bz h1
   rw[if_neg (by omega)]at bH
   refine Gc ?_
   iterate 2 refine Gs ?_
   refine Gi ?_
   exact bh (x:=(i)) (i+1) ⟨by first|omega|(simp only[];omega),by rw[aH,bH]⟩ (by first|omega|(simp only[];omega)) (Sub.cons rfl (Sub.cons rfl (Sub.cons rfl (Sub.cons rfl (Sub.cons rfl (Sub.nil _)))))) (fun w hw=>ah.mem hw)
 ·
  replace h0:=bz h0
  obtain rfl:i=os.length:=by omega
  have hz:oY a.w b.w (os.map fC)=false:=by rw[aH,List.drop_length];rfl
  refine Gc ?_
  refine Gs ?_
  refine Gc ?_
  refine an (.inl rfl) (aK rfl (al rfl)) (fun w1 hw=> ?_)
  exact⟨congrArg (fun b=>Ending.returned (Value.bool b)) (hz.symm),ah.mem hw⟩
instance adw{w0:World}{L:List aj}{a:gG}{b:gG}{o:Sv}{os:List FuncId}[ho:cl w0 L og 1 o os]:bU Tryz.prog 196 w0 L [.agg (c6 a), .agg (c6 b),o.val] (.bool (oY a.w b.w (os.map fC))) (∀f∈os,f∈[188,186,191,190]):=⟨fun hp w hw=>Sr w a b o os (ho.h w hw) hp⟩
theorem Sw(w:World)(r:FuncId)(l:Sv)(ls:List aN)(p:Int)(o:Sv)(os:List FuncId)(hl:bM bC 4 (hp w) l ls)(ho:bM og 1 (hp w) o os)(ba:r∈[187,185,189]∧ ∀f∈os,f∈[188,186,191,190]):Calls Tryz.prog 184 #[l.val, .int .i64 p, .func (.func r) #[] #[],o.val] w fun e w'=>e= .returned (.tuple #[.int .i64 ((fL ls p (jP r p) (os.map fC)).1), .bool ((fL ls p (jP r p) (os.map fC)).2)])∧Mem w [] w':=by
 have nt:Gv w l bC 4 ls:=⟨hl⟩
 have Ss:Gv w o og 1 os:=⟨ho⟩
 obtain⟨eP,Sx⟩:=ba
 obtain⟨isr,Sy⟩:=Sp eP
 have fJ:=hl.bd
 refine aW (args:=[_,_,_,_]) Tryz.func184 rfl Tryz.ntmps184 rfl ?_
 change Cw _ _ _ _ _ [(0,l.val),(1, .int .i64 p),(2, .func (.func r) #[] #[]),(3,o.val)] []
 refine Gc ?_
 iterate 2 refine Gs ?_
 refine Gc ?_
 iterate 4 refine Gs ?_
 refine Gc ?_
 refine aq rfl (fun h0=> ?_) (fun h0=> ?_)
 ·
  replace h0:=bz h0
  have hE:fL ls p (jP r p) (os.map fC)=(0,false):=if_neg (by rw[h0];simp)
  refine Gc ?_
  iterate 2 refine Gs ?_
  refine Gc ?_
  refine an (.inl rfl) (aZ rfl (al rfl) (al rfl)) (fun w1 hw=> ?_)
  exact⟨by rw[hE],ah.mem hw⟩
 ·
  replace h0:=bz h0
  have hE:fL ls p (jP r p) (os.map fC)=gu ls (jP r p) (os.map fC) ls.length:=if_pos h0
  refine Gc ?_
  iterate 2 refine Gs ?_
  refine Gc ?_
  iterate 3 refine Gs ?_
  refine Gc ?_
  refine bK (X:=Nat) (fun zz=>[(21, .int .i64 (zz:Nat)),(10, .int .i64 ((gu ls (jP r p) (os.map fC) zz).1)),(11, .bool ((gu ls (jP r p) (os.map fC) zz).2)),(0,l.val),(1, .int .i64 p),(2, .func (.func r) #[] #[]),(3,o.val),(19,l.val),(20, .int .i64 (ls.length:Nat))]) (fun zz=>[]) (fun zz=>zz≤ls.length) (fun zz=>ls.length -zz) 0 (Nat.zero_le _) (Sub.cons rfl (Sub.cons rfl (Sub.cons rfl (Sub.cons rfl (Sub.cons rfl (Sub.cons rfl (Sub.cons rfl (Sub.cons rfl (Sub.cons rfl (Sub.nil _)))))))))) (fun w hw=>ah.mem hw) ?_
  rintro i bb
  refine Gc ?_
  refine Gs ?_
  refine Gc ?_
  refine aq rfl (fun h1=> ?_) (fun h1=> ?_)
  ·
   replace h1:=bz h1
   obtain⟨x,hx⟩:=get_some (xs:=ls) (i:=i) (by omega)
   have Eb:ls.getD i hG=x:=by simp[List.getD,hx]
   have hle:=Db ls (jP r p) (os.map fC) i
   refine Gc ?_
   refine Gs ?_
   refine ae (aX rfl rfl i rfl (by omega)) ?_
   refine ae (fH rfl i hx rfl) ?_
   refine bx fun iM=> ?_
   iterate 2 refine Gs ?_
   refine Gc ?_
   iterate 2 refine Gs ?_
   refine ae (bV (v:= .agg (c6 ⟨x,p⟩)) rfl (Ea x p)) ?_
   refine bx fun AD=> ?_
   refine Gs ?_
   refine Gc ?_
   iterate 2 refine Gs ?_
   refine dQ (Ay (f:=r) (vs:=[.agg (c6 ⟨x,p⟩)]) rfl rfl (fun w1 _=>Sy w1 ⟨x,p⟩)) ?_
   refine Gs ?_
   refine Gc ?_
   refine aq rfl (fun h2=> ?_) (fun h2=> ?_)
   ·
    replace h2:=bz h2
    have bH:(gu ls (jP r p) (os.map fC) (i+1))=(gu ls (jP r p) (os.map fC) i):=by rw[gu,vD,Eb,if_neg (by rw[h2];simp)]
    refine Gc ?_
    iterate 2 refine Gs ?_
    refine Gi ?_
    exact bh (x:=(i)) (i+1) (by first|omega|(simp only[];omega)) (by first|omega|(simp only[];omega)) (Sub.cons rfl (Sub.cons (look_eq rfl (by rw[bH])) (Sub.cons (look_eq rfl (by rw[bH])) (Sub.cons rfl (Sub.cons rfl (Sub.cons rfl (Sub.cons rfl (Sub.cons rfl (Sub.cons rfl (Sub.nil _)))))))))) (fun w hw=>ah.mem hw)
   ·
    replace h2:=bz h2
    refine Gc ?_
    refine eF (by kernel_rfl) (by kernel_rfl) ?_
    iterate 3 refine Gq ?_
    refine dB rfl rfl rfl (fun hg=>(Ry.yl (dW rfl))) ?_
    iterate 2 refine Gh ?_
    refine dB rfl rfl rfl (fun hg=>(Ry.yl (aX (av hg rfl) (av hg rfl) ((gu ls (jP r p) (os.map fC) i).1.toNat) (by omega) (by have:=hle.1;have:=hle.2.1;have:=(List.getElem?_eq_some_iff.1 hx).1;omega)))) ?_
    refine dB rfl rfl rfl (fun hg=>(Ry.yl (fH (av hg rfl) ((gu ls (jP r p) (os.map fC) i).1.toNat) (iU (d:=hG) (by have:=hle.1;have:=hle.2.1;have:=(List.getElem?_eq_some_iff.1 hx).1;omega)) rfl))) ?_
    refine Gh ?_
    refine dB rfl rfl rfl (fun hg=>(Ry.yl (bV (v:= .agg (c6 ⟨(ls.getD (gu ls (jP r p) (os.map fC) i).1.toNat hG),p⟩)) (wI (av hg rfl) (wI (av hg rfl) FF)) (Ea (ls.getD (gu ls (jP r p) (os.map fC) i).1.toNat hG) p)))) ?_
    refine Gh ?_
    refine dB rfl rfl rfl (fun hg=>bX (cg (av hg rfl) (cg (av hg rfl) (cg (av hg rfl) dO))) Sx) ?_
    refine Gq ?_
    refine Gc ?_
    refine aq rfl (fun h3=> ?_) (fun h3=> ?_)
    ·
     replace h3:=bz h3
     have bH:(gu ls (jP r p) (os.map fC) (i+1))=((i:Int),true):=by
      rw[gu,vD,Eb,if_pos ⟨h2,h3⟩]
     refine Gi ?_
     iterate 3 refine Gs ?_
     refine Gc ?_
     iterate 2 refine Gs ?_
     refine Gi ?_
     exact bh (x:=(i)) (i+1) (by first|omega|(simp only[];omega)) (by first|omega|(simp only[];omega)) (Sub.cons rfl (Sub.cons (look_eq rfl (by rw[bH])) (Sub.cons (look_eq rfl (by rw[bH])) (Sub.cons rfl (Sub.cons rfl (Sub.cons rfl (Sub.cons rfl (Sub.cons rfl (Sub.cons rfl (Sub.nil _)))))))))) (fun w hw=>ah.mem hw)
    ·
     replace h3:=bz h3
     have bH:(gu ls (jP r p) (os.map fC) (i+1))=(gu ls (jP r p) (os.map fC) i):=by
      rw[gu,vD,Eb,if_neg]
      rintro⟨_,g⟩
      rcases g with g|g
      ·
       exact absurd (h3.1.symm.trans g) (by simp)
      ·
       exact absurd (h3.2.symm.trans g) (by simp)
     refine Gc ?_
     iterate 2 refine Gs ?_
     refine Gi ?_
     exact bh (x:=(i)) (i+1) (by first|omega|(simp only[];omega)) (by first|omega|(simp only[];omega)) (Sub.cons rfl (Sub.cons (look_eq rfl (by rw[bH])) (Sub.cons (look_eq rfl (by rw[bH])) (Sub.cons rfl (Sub.cons rfl (Sub.cons rfl (Sub.cons rfl (Sub.cons rfl (Sub.cons rfl (Sub.nil _)))))))))) (fun w hw=>ah.mem hw)
  ·
   replace h1:=bz h1
   obtain rfl:i=ls.length:=by omega
   refine Gc ?_
   iterate 4 refine Gs ?_
   refine Gc ?_
   refine an (.inl rfl) (aZ rfl (al rfl) (al rfl)) (fun w1 hw=> ?_)
   exact⟨by rw[hE],ah.mem hw⟩
instance adx{w0:World}{L:List aj}{r:FuncId}{l:Sv}{ls:List aN}{p:Int}{o:Sv}{os:List FuncId}[hl:cl w0 L bC 4 l ls][ho:cl w0 L og 1 o os]:bU Tryz.prog 184 w0 L [l.val, .int .i64 p, .func (.func r) #[] #[],o.val] (.tuple #[.int .i64 ((fL ls p (jP r p) (os.map fC)).1), .bool ((fL ls p (jP r p) (os.map fC)).2)]) (r∈[187,185,189]∧ ∀f∈os,f∈[188,186,191,190]):=⟨fun hp w hw=>Sw w r l ls p o os (hl.h w hw) (ho.h w hw) hp⟩
theorem Sz(w:World)(l:Sv)(ls:List aN)(p:Int)(hl:bM bC 4 (hp w) l ls):Calls Tryz.prog 174 #[l.val, .int .i64 p] w fun e w'=>e= .returned (.tuple #[.int .i64 ((fb ls p).1), .bool ((fb ls p).2)])∧Mem w [] w':=by
 have nt:Gv w l bC 4 ls:=⟨hl⟩
 refine aW (args:=[_,_]) Tryz.func174 rfl Tryz.ntmps174 rfl ?_
 change Cw _ _ _ _ _ [(0,l.val),(1, .int .i64 p)] []
 refine Gc ?_
 iterate 2 refine Gs ?_
 refine Gc ?_
 iterate 2 refine Gs ?_
 refine mz (enc:=og) (vals:=[.func (.func 188) #[] #[], .func (.func 186) #[] #[]]) [188,186] rfl rfl rfl (by decide) (by decide) fun b8=> ?_
 refine dQ (bX rfl (by decide)) ?_
 refine ae (aU rfl rfl) ?_
 refine ae (aU rfl rfl) ?_
 iterate 2 refine Gs ?_
 refine Gc ?_
 refine an (.inl rfl) (aZ rfl (al rfl) (al rfl)) (fun w1 hw=> ?_)
 exact⟨rfl,ah.mem hw⟩
instance ady{w0:World}{L:List aj}{l:Sv}{ls:List aN}{p:Int}[hl:cl w0 L bC 4 l ls]:bU Tryz.prog 174 w0 L [l.val, .int .i64 p] (.tuple #[.int .i64 ((fb ls p).1), .bool ((fb ls p).2)]) (True):=⟨fun hp w hw=>Sz w l ls p (hl.h w hw)⟩
theorem SA(w:World)(l:Sv)(ls:List aN)(p:Int)(hl:bM bC 4 (hp w) l ls):Calls Tryz.prog 171 #[l.val, .int .i64 p] w fun e w'=>e= .returned (.tuple #[.int .i64 ((fx ls p).1), .bool ((fx ls p).2)])∧Mem w [] w':=by
 have nt:Gv w l bC 4 ls:=⟨hl⟩
 refine aW (args:=[_,_]) Tryz.func171 rfl Tryz.ntmps171 rfl ?_
 change Cw _ _ _ _ _ [(0,l.val),(1, .int .i64 p)] []
 refine Gc ?_
 iterate 2 refine Gs ?_
 refine Gc ?_
 iterate 2 refine Gs ?_
 refine mz (enc:=og) (vals:=[.func (.func 186) #[] #[]]) [186] rfl rfl rfl (by decide) (by decide) fun b8=> ?_
 refine dQ (bX rfl (by decide)) ?_
 refine ae (aU rfl rfl) ?_
 refine ae (aU rfl rfl) ?_
 iterate 2 refine Gs ?_
 refine Gc ?_
 refine an (.inl rfl) (aZ rfl (al rfl) (al rfl)) (fun w1 hw=> ?_)
 exact⟨rfl,ah.mem hw⟩
instance adz{w0:World}{L:List aj}{l:Sv}{ls:List aN}{p:Int}[hl:cl w0 L bC 4 l ls]:bU Tryz.prog 171 w0 L [l.val, .int .i64 p] (.tuple #[.int .i64 ((fx ls p).1), .bool ((fx ls p).2)]) (True):=⟨fun hp w hw=>SA w l ls p (hl.h w hw)⟩
theorem SB(w:World)(l:Sv)(ls:List aN)(p:Int)(hl:bM bC 4 (hp w) l ls):Calls Tryz.prog 179 #[l.val, .int .i64 p] w fun e w'=>e= .returned (.tuple #[.int .i64 ((qQ ls p).1), .bool ((qQ ls p).2)])∧Mem w [] w':=by
 have nt:Gv w l bC 4 ls:=⟨hl⟩
 refine aW (args:=[_,_]) Tryz.func179 rfl Tryz.ntmps179 rfl ?_
 change Cw _ _ _ _ _ [(0,l.val),(1, .int .i64 p)] []
 refine Gc ?_
 iterate 2 refine Gs ?_
 refine Gc ?_
 iterate 2 refine Gs ?_
 refine mz (enc:=og) (vals:=[.func (.func 190) #[] #[], .func (.func 191) #[] #[], .func (.func 186) #[] #[]]) [190,191,186] rfl rfl rfl (by decide) (by decide) fun b8=> ?_
 refine dQ (bX rfl (by decide)) ?_
 refine ae (aU rfl rfl) ?_
 refine ae (aU rfl rfl) ?_
 iterate 2 refine Gs ?_
 refine Gc ?_
 refine an (.inl rfl) (aZ rfl (al rfl) (al rfl)) (fun w1 hw=> ?_)
 exact⟨rfl,ah.mem hw⟩
instance adA{w0:World}{L:List aj}{l:Sv}{ls:List aN}{p:Int}[hl:cl w0 L bC 4 l ls]:bU Tryz.prog 179 w0 L [l.val, .int .i64 p] (.tuple #[.int .i64 ((qQ ls p).1), .bool ((qQ ls p).2)]) (True):=⟨fun hp w hw=>SB w l ls p (hl.h w hw)⟩
theorem SC(w:World)(l:Sv)(ls:List aN)(p:Int)(hl:bM bC 4 (hp w) l ls):Calls Tryz.prog 182 #[l.val, .int .i64 p] w fun e w'=>e= .returned (.int .i64 (xC ls p))∧Mem w [] w':=by
 have nt:Gv w l bC 4 ls:=⟨hl⟩
 refine aW (args:=[_,_]) Tryz.func182 rfl Tryz.ntmps182 rfl ?_
 change Cw _ _ _ _ _ [(0,l.val),(1, .int .i64 p)] []
 refine Gc ?_
 refine Gs ?_
 refine Gc ?_
 iterate 4 refine Gs ?_
 refine Gc ?_
 refine aq rfl (fun h0=> ?_) (fun h0=> ?_)
 ·
  replace h0:=bz h0
  have hE:xC ls p=0:=if_neg (by rw[h0];simp)
  refine Gc ?_
  refine Gs ?_
  refine Gc ?_
  refine an (.inl rfl) (aK rfl (al rfl)) (fun w1 hw=> ?_)
  exact⟨congrArg (fun b=>Ending.returned (Value.int .i64 b)) (by rw[hE]),ah.mem hw⟩
 ·
  replace h0:=bz h0
  have hE:xC ls p=ld (ls.map (lb p)):=if_pos h0
  obtain⟨k1,k2,k3,k4,k5⟩:=xB.1 h0
  refine Gc ?_
  refine Gs ?_
  refine Gc ?_
  iterate 3 refine Gs ?_
  refine Gc ?_
  refine bK (X:=Nat) (fun zz=>[(15, .int .i64 (zz:Nat)),(5, .int .i64 (ld ((ls.take zz).map (lb p)))),(1, .int .i64 p),(13,l.val),(14, .int .i64 (ls.length:Nat))]) (fun zz=>[]) (fun zz=>zz≤ls.length) (fun zz=>ls.length -zz) 0 (Nat.zero_le _) (Sub.cons rfl (Sub.cons rfl (Sub.cons rfl (Sub.cons rfl (Sub.cons rfl (Sub.nil _)))))) (fun w hw=>ah.mem hw) ?_
  rintro i bb
  refine Gc ?_
  refine Gs ?_
  refine Gc ?_
  refine aq rfl (fun h1=> ?_) (fun h1=> ?_)
  ·
   replace h1:=bz h1
   obtain⟨x,hx⟩:=get_some (xs:=ls) (i:=i) (by omega)
   have p8:=vC.1 (k5 x (List.mem_of_getElem? hx))
   have dN:(ld ((ls.take (i+1)).map (lb p)))=(ld ((ls.take i).map (lb p)))+lb p x:=by rw[List.take_add_one,hx,List.map_append,OO];simp[ld]
   have hsb:=HV p (ls.take i) (fun x hx=>k5 x (List.mem_of_mem_take hx)) (by omega)
   have nL:(ls.take i).length≤32:=by rw[List.length_take];omega
   have kv:((ls.take i).length:Int)*p≤512:=room_le nL (by omega) (by omega)
   refine Gc ?_
   refine ae (aX rfl rfl i rfl (by omega)) ?_
   refine ae (fH rfl i hx rfl) ?_
   refine bx fun b7=> ?_
   refine Gs ?_
   refine Gc ?_
   iterate 2 refine Gs ?_
   refine ae (bV (v:= .agg (c6 ⟨x,p⟩)) rfl (Ea x p)) ?_
   refine bx fun b8=> ?_
   refine Gs ?_
   refine Gc ?_
   iterate 3 refine Gs ?_
   refine Gc ?_
   refine aq rfl (fun h2=> ?_) (fun h2=> ?_)
   ·
    replace h2:=bz h2
    have hr:lb p x=p:=if_pos h2
    refine Gi ?_
    iterate 4 refine Gs ?_
    refine Gc ?_
    iterate 2 refine Gs ?_
    refine Gi ?_
    exact bh (x:=(i)) (i+1) (by first|omega|(simp only[];omega)) (by first|omega|(simp only[];omega)) (Sub.cons rfl (Sub.cons (look_eq rfl (by rw[dN,hr])) (Sub.cons rfl (Sub.cons rfl (Sub.cons rfl (Sub.nil _)))))) (fun w hw=>ah.mem hw)
   ·
    replace h2:=bz h2
    refine Gc ?_
    iterate 3 refine Gs ?_
    refine Gc ?_
    refine aq rfl (fun h3=> ?_) (fun h3=> ?_)
    ·
     replace h3:=bz h3
     have hr:lb p x=p -x.used:=by rw[lb,if_neg (by rw[h2];simp),if_pos h3]
     refine Gi ?_
     iterate 4 refine Gs ?_
     refine ae (Ry.to (v':= .int .i64 x.used) (bl rfl) rfl) ?_
     iterate 3 refine Gs ?_
     refine Gc ?_
     iterate 2 refine Gs ?_
     refine Gi ?_
     exact bh (x:=(i)) (i+1) (by first|omega|(simp only[];omega)) (by first|omega|(simp only[];omega)) (Sub.cons rfl (Sub.cons (look_eq rfl (by rw[dN,hr])) (Sub.cons rfl (Sub.cons rfl (Sub.cons rfl (Sub.nil _)))))) (fun w hw=>ah.mem hw)
    ·
     replace h3:=bz h3
     have hr:lb p x=0:=by rw[lb,if_neg (by rw[h2];simp),if_neg (by rw[h3];simp)]
     refine Gc ?_
     iterate 2 refine Gs ?_
     refine Gi ?_
     exact bh (x:=(i)) (i+1) (by first|omega|(simp only[];omega)) (by first|omega|(simp only[];omega)) (Sub.cons rfl (Sub.cons (look_eq rfl (by rw[dN,hr,Int.add_zero])) (Sub.cons rfl (Sub.cons rfl (Sub.cons rfl (Sub.nil _)))))) (fun w hw=>ah.mem hw)
  ·
   replace h1:=bz h1
   obtain rfl:i=ls.length:=by omega
   refine Gc ?_
   iterate 2 refine Gs ?_
   refine Gc ?_
   refine an (.inl rfl) (aK rfl (al rfl)) (fun w1 hw=> ?_)
   exact⟨congrArg (fun b=>Ending.returned (Value.int .i64 b)) (by rw[hE,List.take_length]),ah.mem hw⟩
instance adB{w0:World}{L:List aj}{l:Sv}{ls:List aN}{p:Int}[hl:cl w0 L bC 4 l ls]:bU Tryz.prog 182 w0 L [l.val, .int .i64 p] (.int .i64 (xC ls p)) (True):=⟨fun hp w hw=>SC w l ls p (hl.h w hw)⟩
open Go.aL Go.Kb
open Go.RowKit
theorem SD(w:World)(n:Nat)(ba:n≤1000000000):Calls Tryz.prog 131 #[.slice none 0 0, .int .i64 (n:Nat)] w fun e w'=> ∃zz:Sv,e= .returned (zz.val)∧(True)∧Mem w [own (bP (τ:=UInt8)) 1 zz ([]:List (Sl UInt8))] w':=by
 refine aW (args:=[_,_]) Tryz.func131 rfl Tryz.ntmps131 rfl ?_
 change Cw _ _ _ _ _ [(0, .slice none 0 0),(1, .int .i64 (n:Nat))] []
 refine Gc ?_
 refine Gs ?_
 refine Gc ?_
 iterate 2 refine Gs ?_
 refine Gc ?_
 refine aq rfl (fun h0=> ?_) (fun h0=> ?_)
 ·
  replace h0:=bz h0
  exfalso;omega
 ·
  replace h0:=bz h0
  refine Gc ?_
  iterate 2 refine Gs ?_
  refine ae (zD rfl) ?_
  refine Gs ?_
  refine ae (ti rfl) ?_
  iterate 3 refine Gs ?_
  refine Gc ?_
  iterate 2 refine Gs ?_
  refine Gc ?_
  refine aq rfl (fun h1=> ?_) (fun h1=> ?_)
  ·
   replace h1:=bz h1
   refine Gi ?_
   iterate 2 refine Gs ?_
   refine ae (zD rfl) ?_
   refine ae (Ry.to (v':= .slice none 0 0) (rF (s:=Sv.none) (h:=0) rfl rfl rfl Sv.uV (Nat.le_refl _)) rfl) ?_
   refine Gs ?_
   refine G7 (enc:=(bP (τ:=UInt8))) (k:=n) (⟨Sv.none,[]⟩:Sl UInt8) rfl rfl (by omega) (by omega) (by decide) rfl Tryz.underlying3 (by omega) (by omega) fun uo xP D3=> ?_
   refine Gs ?_
   refine ae (ti rfl) ?_
   refine ae (rF (s:=⟨false,uo,0,n,xP,none⟩) (h:=0) rfl rfl rfl ⟨(fun h=>by cases h),D3,by simp only;omega,fun _=>rfl⟩ (Nat.zero_le _)) ?_
   refine Gs ?_
   refine Gc ?_
   iterate 2 refine Gs ?_
   refine Gc ?_
   refine an (.inl rfl) (aK rfl (al rfl)) (fun w1 hw=> ?_)
   refine⟨Sv.sub ⟨false,uo,0,n,xP,none⟩ 1 0 0,rfl,trivial,?_⟩
   have fu:=Mem.G6 (i:=0) (k:=0) hw rfl (Nat.zero_le _)
   rw[List.take_zero]at fu
   exact fu
  ·
   replace h1:=bz h1
   have hn:n=0:=by omega
   refine Gc ?_
   iterate 2 refine Gs ?_
   refine Gc ?_
   refine an (.inl rfl) (aK rfl (al rfl)) (fun w1 hw=> ?_)
   exact⟨Sv.none,rfl,trivial,(ah.mem hw:Mem w [] _).cz (bP (τ:=UInt8)) 1⟩
instance adC{w0:World}{L:List aj}{n:Nat}:bW Tryz.prog 131 w0 L [.slice none 0 0, .int .i64 (n:Nat)] (Sv) (fun zz=>zz.val) (fun zz=>own (bP (τ:=UInt8)) 1 zz ([]:List (Sl UInt8))::L) (fun zz=>True) (n≤1000000000):=⟨fun hp w hw=>(SD w n hp).mono fun e w' ⟨x,h1,h2,h3⟩=>⟨x,h1,h2,hw.call h3⟩⟩
theorem SE(w:World)(a:Sl (Sl (Sl UInt8)))(ha:Deep.bk (hp w) a)(ba:(et a.xs).length≤1000000):Calls Tryz.prog 90 #[a.sv.val] w fun e w'=> ∃zz:Sv,e= .returned (zz.val)∧(True)∧Mem w [own (bP (τ:=UInt8)) 1 zz (et a.xs)] w':=by
 have uq:bT w a:=⟨ha⟩
 have yD:=ha.1.bd
 have dC:=OC a.xs
 refine aW (args:=[_]) Tryz.func90 rfl Tryz.ntmps90 rfl ?_
 change Cw _ _ _ _ _ [(0,a.sv.val)] []
 refine Gc ?_
 refine Gs ?_
 refine Gc ?_
 refine Gs ?_
 refine Gc ?_
 iterate 3 refine Gs ?_
 refine Gc ?_
 refine bK (X:=Nat) (fun zz=>[(11, .int .i64 (zz:Nat)),(3, .int .i64 ((et (a.xs.take zz)).length:Nat)),(0,a.sv.val),(9,a.sv.val),(10, .int .i64 (a.xs.length:Nat))]) (fun zz=>[]) (fun zz=>zz≤a.xs.length) (fun zz=>a.xs.length -zz) 0 (Nat.zero_le _) (Sub.cons rfl (Sub.cons rfl (Sub.cons rfl (Sub.cons rfl (Sub.cons rfl (Sub.nil _)))))) (fun w hw=>ah.mem hw) ?_
 rintro i hi
 have vc:=dC i
 have jY:=dC (i+1)
 refine Gc ?_
 refine Gs ?_
 refine Gc ?_
 refine aq rfl (fun h0=> ?_) (fun h0=> ?_)
 ·
  replace h0:=bz h0
  iterate 6 refine Gi ?_
  obtain⟨x,hx⟩:=get_some (xs:=a.xs) (i:=i) (by omega)
  refine ae (aX rfl rfl i rfl (by omega)) ?_
  refine ae (bn (j:=0) rfl i hx rfl (by decide)) ?_
  have RB:(et (a.xs.take (i+1))).length=(et (a.xs.take i)).length+x.xs.length:=by rw[z0 hx,List.length_append]
  have AE:Mb x _:=⟨List.mem_of_getElem? hx⟩
  refine Gs ?_
  refine Gc ?_
  iterate 5 refine Gs ?_
  refine Gc ?_
  iterate 2 refine Gs ?_
  refine Gc ?_
  refine aq rfl (fun h1=> ?_) (fun h1=> ?_)
  ·
   replace h1:=bz h1
   exfalso;omega
  ·
   replace h1:=bz h1
   refine Gc ?_
   iterate 2 refine Gs ?_
   refine Gi ?_
   exact bh (x:=(i)) (i+1) (by first|omega|(simp only[];omega)) (by first|omega|(simp only[];omega)) (Sub.cons rfl (Sub.cons (look_eq rfl (by rw[z0 hx,List.length_append];simp)) (Sub.cons rfl (Sub.cons rfl (Sub.cons rfl (Sub.nil _)))))) (fun w hw=>ah.mem hw)
 ·
  replace h0:=bz h0
  obtain rfl:i=a.xs.length:=by omega
  have kW:=dC a.xs.length
  refine Gc ?_
  refine Gs ?_
  refine bp rfl (by omega) fun cQ n7=> ?_
  refine Gs ?_
  refine Gc ?_
  iterate 3 refine Gs ?_
  refine Gc ?_
  refine bK (X:=Nat×Sv) (fun zz=>[(27, .int .i64 (zz.1:Nat)),(6,zz.2.val),(25,a.sv.val),(26, .int .i64 (a.xs.length:Nat))]) (fun zz=>[own (bP (τ:=UInt8)) 1 zz.2 (et (a.xs.take zz.1))]) (fun zz=>zz.1≤a.xs.length) (fun zz=>a.xs.length -zz.1) (0,cQ) (Nat.zero_le _) (Sub.cons rfl (Sub.cons rfl (Sub.cons rfl (Sub.cons rfl (Sub.nil _))))) (fun w hw=>(ah.mem hw:Mem _ [own (bP (τ:=UInt8)) 1 cQ ([]:List (Sl UInt8))] _)) ?_
  rintro⟨k,s1⟩ hk
  dsimp only
  simp only at hk
  have vc:=dC k
  have jY:=dC (k+1)
  refine Gc ?_
  refine Gs ?_
  refine Gc ?_
  refine aq rfl (fun h2=> ?_) (fun h2=> ?_)
  ·
   replace h2:=bz h2
   iterate 6 refine Gi ?_
   obtain⟨y,hy⟩:=get_some (xs:=a.xs) (i:=k) (by omega)
   refine ae (aX rfl rfl k rfl (by omega)) ?_
   refine ae (bn (j:=0) rfl k hy rfl (by decide)) ?_
   have RC:(et (a.xs.take (k+1))).length=(et (a.xs.take k)).length+y.xs.length:=by rw[z0 hy,List.length_append]
   have Jy:Mb y _:=⟨List.mem_of_getElem? hy⟩
   refine Gs ?_
   refine Gc ?_
   iterate 2 refine Gs ?_
   refine jG (s:=s1) (enc:=(bP (τ:=UInt8))) (ys:=y.xs) rfl rfl (by decide) (fun w hw=>gX (s:=y.sv) Tryz.underlying46 (by decide) ((inferInstance:cl _ _ (bP (τ:=UInt8)) 1 y.sv y.xs).h w hw)) (by omega) (by omega) fun D4 RD RE=> ?_
   refine Gs ?_
   refine Gc ?_
   iterate 2 refine Gs ?_
   refine Gi ?_
   exact bh (x:=(k,s1)) (k+1,D4) (by simp only;omega) (by simp only;omega) (Sub.cons rfl (Sub.cons rfl (Sub.cons rfl (Sub.cons rfl (Sub.nil _))))) (fun w hw=>by rw[z0 hy];exact ah.mem hw)
  ·
   replace h2:=bz h2
   obtain rfl:k=a.xs.length:=by omega
   refine Gc ?_
   iterate 2 refine Gs ?_
   refine Gc ?_
   refine an (.inl rfl) (aK rfl (al rfl)) (fun w1 hw=> ?_)
   exact⟨s1,rfl,trivial,by rw[List.take_length]at hw;exact ah.mem hw⟩
instance JH{w0:World}{L:List aj}{a:Sl (Sl (Sl UInt8))}[ha:aS w0 L a]:bW Tryz.prog 90 w0 L [a.sv.val] (Sv) (fun zz=>zz.val) (fun zz=>own (bP (τ:=UInt8)) 1 zz (et a.xs)::L) (fun zz=>True) ((et a.xs).length≤1000000):=⟨fun hp w hw=>(SE w a (ha.h w hw) hp).mono fun e w' ⟨x,h1,h2,h3⟩=>⟨x,h1,h2,hw.call h3⟩⟩
theorem SF(w:World)(x:Sv)(xs:List Int)(y:Sv)(ys:List Int)(hx:bM bf 1 (hp w) x xs)(hy:bM bf 1 (hp w) y ys):Calls Tryz.prog 52 #[x.val,y.val] w fun e w'=>e= .returned (.bool (decide (xs=ys)))∧Mem w [] w':=by
 have sI:Gv w x bf 1 xs:=⟨hx⟩
 have Ec:Gv w y bf 1 ys:=⟨hy⟩
 have Ed:=hx.bd
 refine aW (args:=[_,_]) Tryz.func52 rfl Tryz.ntmps52 rfl ?_
 change Cw _ _ _ _ _ [(0,x.val),(1,y.val)] []
 refine Gc ?_
 refine Gs ?_
 refine Gc ?_
 iterate 5 refine Gs ?_
 refine Gc ?_
 refine aq rfl (fun h0=> ?_) (fun h0=> ?_)
 ·
  replace h0:=bz h0
  have hz:decide (xs=ys)=false:=decide_eq_false fun e=>h0 (by rw[e])
  refine Gc ?_
  refine Gs ?_
  refine Gc ?_
  refine an (.inl rfl) (aK rfl (al rfl)) (fun w1 hw=> ?_)
  exact⟨congrArg (fun b=>Ending.returned (Value.bool b)) (hz.symm),ah.mem hw⟩
 ·
  replace h0:=bz h0
  have la:xs.length=ys.length:=by omega
  refine Gc ?_
  iterate 3 refine Gs ?_
  refine Gc ?_
  refine bK (X:=Nat) (fun zz=>[(13, .int .i64 (zz:Nat)),(0,x.val),(1,y.val),(12, .int .i64 (xs.length:Nat))]) (fun zz=>[]) (fun zz=>zz≤xs.length∧ ∀j,j<zz→xs[j]? =ys[j]?) (fun zz=>xs.length -zz) 0 ⟨Nat.zero_le _,fun j hj=>by first|omega|(simp only[];omega)⟩ (Sub.cons rfl (Sub.cons rfl (Sub.cons rfl (Sub.cons rfl (Sub.nil _))))) (fun w hw=>ah.mem hw) ?_
  rintro i ⟨bb,aH⟩
  refine Gc ?_
  refine Gs ?_
  refine Gc ?_
  refine aq rfl (fun h1=> ?_) (fun h1=> ?_)
  ·
   replace h1:=bz h1
   obtain⟨p,g9⟩:=get_some (xs:=xs) (i:=i) (by omega)
   obtain⟨q,mM⟩:=get_some (xs:=ys) (i:=i) (by omega)
   refine Gc ?_
   iterate 2 refine Gs ?_
   refine Gc ?_
   refine eF (by kernel_rfl) (by kernel_rfl) ?_
   iterate 2 refine Gq ?_
   refine aT (aX rfl rfl i rfl (by omega)) ?_
   refine aT (bn (j:=0) rfl i g9 rfl (by decide)) ?_
   iterate 2 refine Gq ?_
   refine aT (aX rfl rfl i rfl (by omega)) ?_
   refine aT (bn (j:=0) rfl i mM rfl (by decide)) ?_
   refine Gq ?_
   refine Gc ?_
   refine aq rfl (fun h2=> ?_) (fun h2=> ?_)
   ·
    replace h2:=bz h2
    have hz:decide (xs=ys)=false:=decide_eq_false fun e=>h2 (by rw[e]at g9;rw[g9]at mM;cases mM;rfl)
    refine Gc ?_
    refine Gs ?_
    refine Gc ?_
    refine an (.inl rfl) (aK rfl (al rfl)) (fun w1 hw=> ?_)
    exact⟨congrArg (fun b=>Ending.returned (Value.bool b)) (hz.symm),ah.mem hw⟩
   ·
    replace h2:=bz h2
    refine Gc ?_
    iterate 2 refine Gs ?_
    refine Gi ?_
    exact bh (x:=(i)) (i+1) ⟨by first|omega|(simp only[];omega),fun j hj=>if e:j=i then(by subst e;rw[g9,mM,h2])else aH j (by first|omega|(simp only[];omega))⟩ (by first|omega|(simp only[];omega)) (Sub.cons rfl (Sub.cons rfl (Sub.cons rfl (Sub.cons rfl (Sub.nil _))))) (fun w hw=>ah.mem hw)
  ·
   replace h1:=bz h1
   obtain rfl:i=xs.length:=by omega
   have hz:decide (xs=ys)=true:=decide_eq_true (List.ext_getElem? fun j=>by
    rcases Nat.lt_or_ge j xs.length with hj|hj
    ·
     exact aH j hj
    ·
     rw[List.getElem?_eq_none hj,List.getElem?_eq_none (by omega)])
   refine Gc ?_
   refine Gs ?_
   refine Gc ?_
   refine an (.inl rfl) (aK rfl (al rfl)) (fun w1 hw=> ?_)
   exact⟨congrArg (fun b=>Ending.returned (Value.bool b)) (hz.symm),ah.mem hw⟩
instance adD{w0:World}{L:List aj}{x:Sv}{xs:List Int}{y:Sv}{ys:List Int}[hx:cl w0 L bf 1 x xs][hy:cl w0 L bf 1 y ys]:bU Tryz.prog 52 w0 L [x.val,y.val] (.bool (decide (xs=ys))) (True):=⟨fun hp w hw=>SF w x xs y ys (hx.h w hw) (hy.h w hw)⟩
open Go.aL Go.Kb
open Go.RowKit
theorem JI(g:UInt64)(w:World):(Instr.build 147 #[(0, .int .u64 (g.toNat:Int))]).run Tryz.prog w= .ok (.agg (cn ⟨g,⟨Sv.none,[]⟩⟩)) w:=by
 unfold cn
 kernel_rfl
theorem SG(w:World)(b:Sv)(bs:List UInt8)(hb:bM aJ 1 (hp w) b bs):Calls Tryz.prog 130 #[b.val] w fun e w'=> ∃zz:cL,e= .returned (.tuple #[.agg (cn zz), .int .i64 ((bJ bs).2)])∧(cM zz=(bJ bs).1)∧Mem w [own bf 1 zz.at_.sv zz.at_.xs] w':=by
 have nq:Gv w b aJ 1 bs:=⟨hb⟩
 refine aW (args:=[_]) Tryz.func130 rfl Tryz.ntmps130 rfl ?_
 change Cw _ _ _ _ _ [(0,b.val)] []
 refine Gc ?_
 refine bx fun b2=> ?_
 refine Gs ?_
 refine Gc ?_
 refine Gs ?_
 refine bp rfl trivial fun dy vZ=> ?_
 have xR:dy.kind=(bm bs).1.kind:=congrArg PV.kind vZ
 have Ee:dy.id=(bm bs).1.id:=congrArg PV.id vZ
 have mN:dy.gen.toNat=(bm bs).1.gen:=congrArg PV.gen vZ
 have lu:dy.body.xs=(bm bs).1.body:=congrArg PV.body vZ
 have cO:=zX bs
 rw[←lu]at cO
 refine Gs ?_
 refine ae (aU (v:= .agg (bZ dy)) rfl rfl) ?_
 refine ae (aU (v:= .int .i64 ((bm bs).2)) rfl rfl) ?_
 refine bx fun b4=> ?_
 iterate 2 refine Gs ?_
 refine Gc ?_
 iterate 2 refine Gs ?_
 refine Gc ?_
 refine aq rfl (fun h0=> ?_) (fun h0=> ?_)
 ·
  replace h0:=bz h0
  have hE:bJ bs=(eN,(bm bs).2):=by rw[bJ,if_pos h0]
  refine Gc ?_
  refine ae (bV (v:= .agg (cn fo)) rfl (fun w=>by kernel_rfl)) ?_
  iterate 3 refine Gs ?_
  refine Gc ?_
  refine an (.inl rfl) (aZ rfl (bG rfl) (al rfl)) (fun w1 hw=> ?_)
  exact⟨fo,by rw[hE],by rw[hE];rfl,Mem.cz bf 1 (ah.mem hw:Mem w [] _)⟩
 ·
  replace h0:=bz h0
  refine Gc ?_
  iterate 3 refine Gs ?_
  refine Gc ?_
  refine aq rfl (fun h1=> ?_) (fun h1=> ?_)
  ·
   replace h1:=bz h1
   have hE:bJ bs=(eN,6):=by rw[bJ,if_neg (by omega),if_pos (by omega)]
   refine Gc ?_
   refine ae (bV (v:= .agg (cn fo)) rfl (fun w=>by kernel_rfl)) ?_
   iterate 2 refine Gs ?_
   refine Gc ?_
   refine an (.inl rfl) (aZ rfl (bG rfl) (al rfl)) (fun w1 hw=> ?_)
   exact⟨fo,by rw[hE],by rw[hE];rfl,Mem.cz bf 1 (ah.mem hw:Mem w [] _)⟩
  ·
   replace h1:=bz h1
   refine Gc ?_
   iterate 3 refine Gs ?_
   refine ae (gV rfl rfl (by omega) (by omega)) ?_
   refine Gs ?_
   refine Gc ?_
   iterate 4 refine Gs ?_
   iterate 3 refine Gg ?_
   refine bD rfl rfl rfl (fun hg=>(Ry.yl (uY (p:=dy.body.xs.length) (q:=2) (av hg rfl) rfl rfl rfl (by simp only[Z0,Z1,Z2,Z3,Z4,Z5,Z6,Z7,Z8,Z9]at hg;omega)))) ?_
   refine Gg ?_
   iterate 2 refine Gs ?_
   iterate 3 refine Gg ?_
   refine bD rfl rfl rfl (fun hg=>(Ry.yl (qx (av hg rfl) rfl (by simp only[Z0,Z1,Z2,Z3,Z4,Z5,Z6,Z7,Z8,Z9]at hg;omega)))) ?_
   refine bD rfl rfl rfl (fun hg=>(Ry.yl (tl rfl (av hg rfl)))) ?_
   refine Gg ?_
   refine Gs ?_
   refine Gc ?_
   refine aq rfl (fun h2=> ?_) (fun h2=> ?_)
   ·
    replace h2:=bz h2
    have gw:m7 (bm bs).1=false:=by
     cases hk:m7 (bm bs).1 with
     |false=>rfl
     |true=>
      simp only[m7,Bool.and_eq_true,decide_eq_true_eq,←xR,←Ee,←lu]at hk
      omega
    have hE:bJ bs=(eN,2):=by rw[bJ,if_neg (by omega),if_neg (by omega),if_pos gw]
    refine Gc ?_
    refine ae (bV (v:= .agg (cn fo)) rfl (fun w=>by kernel_rfl)) ?_
    iterate 2 refine Gs ?_
    refine Gc ?_
    refine an (.inl rfl) (aZ rfl (bG rfl) (al rfl)) (fun w1 hw=> ?_)
    exact⟨fo,by rw[hE],by rw[hE];rfl,Mem.cz bf 1 (ah.mem hw:Mem w [] _)⟩
   ·
    replace h2:=bz h2
    have gw:m7 (bm bs).1=true:=by
     simp only[m7,Bool.and_eq_true,decide_eq_true_eq,←xR,←Ee,←lu]
     omega
    have hE:bJ bs=(⟨dy.gen.toNat,kH dy.body.xs⟩,0):=by rw[bJ,if_neg (by omega),if_neg (by omega),if_neg (by rw[gw];simp),mN,lu]
    have Ef:=zZ dy.body.xs
    refine Gc ?_
    iterate 2 refine Gs ?_
    refine ae (bV (v:= .agg (cn ⟨dy.gen,⟨Sv.none,[]⟩⟩)) rfl (JI dy.gen)) ?_
    refine bx fun b7=> ?_
    refine Gs ?_
    refine Gc ?_
    iterate 2 refine Gs ?_
    refine Gc ?_
    refine bK (X:=Nat×Sv) (fun zz=>[(49, .int .i64 (zz.1:Nat)),(7, .pointer (some ⟨b7,0,none⟩)),(2, .pointer (some ⟨b2,0,none⟩)),(4, .pointer (some ⟨b4,0,none⟩)),(48, .int .i64 ((dy.body.xs.length/2):Nat))]) (fun zz=>[ar b7 (cn ⟨dy.gen,⟨zz.2,(kH dy.body.xs).take zz.1⟩⟩) 147,own bf 1 zz.2 ((kH dy.body.xs).take zz.1),ar b4 (bZ dy) 110,own aJ 1 dy.body.sv dy.body.xs,ar b2 (cn fo) 147]) (fun zz=>zz.1≤dy.body.xs.length/2) (fun zz=>dy.body.xs.length/2 -zz.1) (0,Sv.none) (Nat.zero_le _) (Sub.cons rfl (Sub.cons rfl (Sub.cons rfl (Sub.cons rfl (Sub.cons rfl (Sub.nil _)))))) (fun w hw=>by
     simp only[List.take_zero];exact ah.mem (Mem.cz bf 1 hw)) ?_
    rintro⟨i,s1⟩ bb
    dsimp only
    simp only at bb
    refine Gc ?_
    refine Gs ?_
    refine Gc ?_
    refine aq rfl (fun h3=> ?_) (fun h3=> ?_)
    ·
     replace h3:=bz h3
     have dN:=HG (b:=dy.body.xs) (i:=i) (by omega)
     refine Gc ?_
     iterate 2 refine Gs ?_
     refine Gc ?_
     refine oN [19,20,22,1001,2019] [[],[],[],[],[],[],[],[],[],[],[],[],[],[],[],[],[],[],[],[],[1,19],[1,19,20],[1,19,20]] [0,1,2,3,4,5,6,7,8,9,10,11,12,13,14,15,16,17,18,19,20,21,22] [ar b4 (bZ dy) 110,own aJ 1 dy.body.sv dy.body.xs] [(19,nN bf 1 1 [(jr dy.body.xs i)])] (by kernel_rfl) (fun _ hw=>ah.mem hw) (by kernel_rfl) (by kernel_rfl) ?_
     refine ak rfl (aA (o':=1) rfl rfl) ?_
     refine jo rfl (bl rfl) ?_
     refine ak rfl (aA (o':=3) rfl rfl) ?_
     refine ak rfl (bl rfl) ?_
     refine ak rfl (au rfl) ?_
     refine ak rfl (nE rfl rfl (by omega)) ?_
     refine ak rfl (aX rfl rfl (2*i) rfl (by omega)) ?_
     refine ak rfl (bn (j:=0) rfl (2*i) (iU (xs:=dy.body.xs) (i:=2*i) (d:=0) (by omega)) rfl (by decide)) ?_
     refine ak rfl (nH rfl) ?_
     refine ak rfl (FY rfl rfl) ?_
     refine ak rfl (aA (o':=3) rfl rfl) ?_
     refine ak rfl (bl rfl) ?_
     refine ak rfl (au rfl) ?_
     refine ak rfl (nE rfl rfl (by omega)) ?_
     refine ak rfl (gk rfl rfl (by omega)) ?_
     refine ak rfl (aX rfl rfl (2*i+1) rfl (by omega)) ?_
     refine ak rfl (bn (j:=0) rfl (2*i+1) (iU (xs:=dy.body.xs) (i:=2*i+1) (d:=0) (by omega)) rfl (by decide)) ?_
     refine ak rfl (nH rfl) ?_
     refine ak rfl (FZ rfl rfl) ?_
     refine mZ (m:=nN bf 1 1 [(jr dy.body.xs i)]) rfl rfl (zw (enc:=bf) (c:=1) (n:=1) (vals:=[.int .i64 (jr dy.body.xs i)]) [(jr dy.body.xs i)] rfl rfl rfl (by decide) (by decide)) (Cert.none rfl) fun AI=> ?_
     change Ln _ _ _ _ _ _ _ _ (cm _ _ (Sv.val ⟨false,AI,0,1,1,none⟩)) (own bf 1 ⟨false,AI,0,1,1,none⟩ [(jr dy.body.xs i)]::_) _
     refine cK rfl (zv (s:=s1) (ys:=[(jr dy.body.xs i)]) rfl rfl (by decide) (fun w hw=>gX (s:=⟨false,AI,0,1,1,none⟩) Tryz.underlying26 (by decide) ((inferInstance:Hd _ _ ⟨false,AI,0,1,1,none⟩ bf 1 [(jr dy.body.xs i)]).h w hw)) (by simp only[List.length_take,List.length_cons,List.length_nil];omega) (by simp only[List.length_take,List.length_cons,List.length_nil];omega) fun JJ adE adF=>⟨fun _ hw=>ah.mem hw,?_⟩)
     refine ak rfl (aA (o':=1) rfl rfl) ?_
     refine cK rfl (tI (cs':=cn (⟨dy.gen,⟨JJ,(((kH dy.body.xs).take i)++[(jr dy.body.xs i)])⟩⟩:cL)) rfl rfl (by show 1<2;decide) (by first|rfl|exact Sv.one _) rfl ⟨fun _ hw=>ah.mem hw,?_⟩)
     refine Gc ?_
     iterate 2 refine Gs ?_
     refine Gi ?_
     exact bh (x:=(i,s1)) (i+1,JJ) (by simp only;omega) (by simp only;omega) (Sub.cons rfl (Sub.cons rfl (Sub.cons rfl (Sub.cons rfl (Sub.cons rfl (Sub.nil _)))))) (fun w hw=>by
      simp only[dN];exact ah.mem hw)
    ·
     replace h3:=bz h3
     obtain rfl:i=dy.body.xs.length/2:=by omega
     rw[List.take_of_length_le (by omega)]at*
     refine Gc ?_
     iterate 3 refine Gs ?_
     refine Gc ?_
     refine an (.inl rfl) (aZ rfl (bG rfl) (al rfl)) (fun w1 hw=> ?_)
     exact⟨⟨dy.gen,⟨s1,kH dy.body.xs⟩⟩,by rw[hE],by rw[hE];rfl,ah.mem hw⟩
instance adG{w0:World}{L:List aj}{b:Sv}{bs:List UInt8}[hb:cl w0 L aJ 1 b bs]:bW Tryz.prog 130 w0 L [b.val] (cL) (fun zz=> .tuple #[.agg (cn zz), .int .i64 ((bJ bs).2)]) (fun zz=>own bf 1 zz.at_.sv zz.at_.xs::L) (fun zz=>cM zz=(bJ bs).1) (True):=⟨fun hp w hw=>(SG w b bs (hb.h w hw)).mono fun e w' ⟨x,h1,h2,h3⟩=>⟨x,h1,h2,hw.call h3⟩⟩
open Go.aL Go.Kb
open Go.RowKit
theorem SH(w:World)(l:Sl (Sl UInt8))(hl:Deep.bk (hp w) l):Calls Tryz.prog 89 #[l.sv.val] w fun e w'=> ∃zz:cL,e= .returned (.tuple #[.int .i64 ((c0 (aE l.xs)).1), .agg (cn zz), .int .i64 ((c0 (aE l.xs)).2.2)])∧(cM zz=(c0 (aE l.xs)).2.1)∧Mem w [own bf 1 zz.at_.sv zz.at_.xs] w':=by
 have nt:bT w l:=⟨hl⟩
 have fJ:=hl.1.bd
 have fA:=fk l.xs
 refine aW (args:=[_]) Tryz.func89 rfl Tryz.ntmps89 rfl ?_
 change Cw _ _ _ _ _ [(0,l.sv.val)] []
 refine Gc ?_
 refine Gs ?_
 refine bx fun b3=> ?_
 refine Gs ?_
 refine Gc ?_
 refine ae (bV (v:= .agg (cn fo)) rfl (fun w=>by kernel_rfl)) ?_
 refine bx fun b6=> ?_
 iterate 4 refine Gs ?_
 refine Gc ?_
 iterate 3 refine Gs ?_
 refine Gc ?_
 refine bK (X:=Nat×cL) (fun zz=>[(16, .int .i64 (zz.1:Nat)),(5, .int .i64 ((cY (aE l.xs) zz.1).at_)),(6, .pointer (some ⟨b6,0,none⟩)),(7, .bool ((cY (aE l.xs) zz.1).found)),(8, .bool ((cY (aE l.xs) zz.1).blank)),(3, .pointer (some ⟨b3,0,none⟩)),(14,l.sv.val),(15, .int .i64 (l.xs.length:Nat))]) (fun zz=>[ar b6 (cn zz.2) 147,own bf 1 zz.2.at_.sv zz.2.at_.xs,ar b3 (cn fo) 147]) (fun zz=>zz.1≤l.xs.length∧cM zz.2=(cY (aE l.xs) zz.1).new) (fun zz=>l.xs.length -zz.1) (0,fo) ⟨Nat.zero_le _,rfl⟩ (Sub.cons rfl (Sub.cons rfl (Sub.cons rfl (Sub.cons rfl (Sub.cons rfl (Sub.cons rfl (Sub.cons rfl (Sub.cons rfl (Sub.nil _))))))))) (fun w hw=>by
  have h9:Mem _ [ar b6 (cn fo) 147,own bf 1 Sv.none [],ar b3 (cn fo) 147] _:=ah.mem (Mem.cz bf 1 hw)
  exact h9) ?_
 rintro⟨i,d⟩ ⟨bb,aH⟩
 dsimp only
 simp only at bb aH
 refine Gc ?_
 refine Gs ?_
 refine Gc ?_
 refine aq rfl (fun h0=> ?_) (fun h0=> ?_)
 ·
  replace h0:=bz h0
  obtain⟨y,hy⟩:=get_some (xs:=l.xs) (i:=i) (by omega)
  have sM:Mb y l:=⟨List.mem_of_getElem? hy⟩
  have xS:=ib hy
  have JK:d.gen.toNat=(cY (aE l.xs) i).new.gen:=congrArg RV.gen aH
  refine Gc ?_
  refine Gs ?_
  refine ae (aX rfl rfl i rfl (by omega)) ?_
  refine ae (bn (j:=0) rfl i hy rfl (by decide)) ?_
  iterate 2 refine Gs ?_
  refine Gc ?_
  iterate 2 refine Gs ?_
  refine Gg ?_
  refine dG rfl rfl rfl (fun hg=>bX (cg (av hg rfl) dO) trivial) ?_
  iterate 2 refine Gs ?_
  refine Gc ?_
  refine Gs ?_
  refine bp rfl trivial fun da lF=> ?_
  have JL:da.gen.toNat=(bJ y.xs).1.gen:=congrArg RV.gen lF
  refine Gs ?_
  refine ae (aU (v:= .agg (cn da)) rfl rfl) ?_
  refine ae (aU (v:= .int .i64 ((bJ y.xs).2)) rfl rfl) ?_
  refine bx fun nu=> ?_
  iterate 2 refine Gs ?_
  refine Gc ?_
  iterate 3 refine Gs ?_
  refine Gg ?_
  refine dG rfl rfl rfl (fun hg=>(Ry.yl (fU (av hg rfl)))) ?_
  refine dG rfl rfl rfl (fun hg=>(Ry.yl (au (av hg rfl)))) ?_
  refine kU rfl rfl rfl (fun hg=>(Ry.yl (aA (o':=0) rfl rfl))) ?_
  refine kU rfl rfl rfl (fun hg=>(Ry.yl (bl (av hg rfl)))) ?_
  refine kU rfl rfl rfl (fun hg=>(Ry.yl (aA (o':=0) rfl rfl))) ?_
  refine kU rfl rfl rfl (fun hg=>(Ry.yl (bl (av hg rfl)))) ?_
  refine kU rfl rfl rfl (fun hg=>(Ry.yl (bt (av hg rfl) (av hg rfl) rfl))) ?_
  refine dG rfl rfl rfl (fun hg=>(Ry.yl (hM (av hg rfl) rfl (oA hg rfl)))) ?_
  refine Gs ?_
  refine Gc ?_
  refine aq rfl (fun h1=> ?_) (fun h1=> ?_)
  ·
   replace h1:=bz h1
   have hq:(bJ y.xs).2=0∧((cY (aE l.xs) i).found=false∨(cY (aE l.xs) i).new.gen≤(bJ y.xs).1.gen):=⟨h1.1,h1.2.imp (fun h=>h) (fun h=>by rw[←JK,←JL];omega)⟩
   have q9:=HH xS hq
   refine fw [3] [[],[],[],[],[3]] [0,1,2,3,4] [ar nu (cn da) 147] (fun _ hw=>ah.mem hw) (by kernel_rfl) (by kernel_rfl) ?_
   refine ak rfl (au rfl) ?_
   refine ak rfl (dW rfl) ?_
   refine ak rfl (aP rfl) ?_
   refine cK rfl (km rfl rfl ⟨fun _ hw=>ah.mem hw,?_⟩)
   refine ak rfl (aP rfl) ?_
   refine Gc ?_
   iterate 2 refine Gs ?_
   refine Gi ?_
   exact bh (x:=(i,d)) (i+1,da) ⟨by first|omega|(simp only[];omega),by rw[q9];exact lF⟩ (by simp only;omega) (Sub.cons rfl (Sub.cons (look_eq rfl (by simp only[q9])) (Sub.cons rfl (Sub.cons (look_eq rfl (by simp only[q9])) (Sub.cons (look_eq rfl (by simp only[q9])) (Sub.cons rfl (Sub.cons rfl (Sub.cons rfl (Sub.nil _))))))))) (fun w hw=>ah.mem hw)
  ·
   replace h1:=bz h1
   have hq: ¬((bJ y.xs).2=0∧((cY (aE l.xs) i).found=false∨(cY (aE l.xs) i).new.gen≤(bJ y.xs).1.gen)):=fun hq=>by
    rw[←JK,←JL]at hq
    rcases h1 with h|h
    ·
     exact h hq.1
    ·
     rcases hq.2 with g|g
     ·
      exact absurd (h.1.symm.trans g) (by simp)
     ·
      omega
   have q9:=HI xS hq
   refine Gc ?_
   iterate 2 refine Gs ?_
   refine Gi ?_
   exact bh (x:=(i,d)) (i+1,d) ⟨by first|omega|(simp only[];omega),by rw[q9];exact aH⟩ (by simp only;omega) (Sub.cons rfl (Sub.cons (look_eq rfl (by simp only[q9])) (Sub.cons rfl (Sub.cons (look_eq rfl (by simp only[q9])) (Sub.cons (look_eq rfl (by simp only[q9])) (Sub.cons rfl (Sub.cons rfl (Sub.cons rfl (Sub.nil _))))))))) (fun w hw=>ah.mem hw)
 ·
  replace h0:=bz h0
  obtain rfl:i=l.xs.length:=by omega
  rw[←fA]at aH
  refine Gc ?_
  iterate 2 refine Gs ?_
  refine Gc ?_
  refine aq rfl (fun h2=> ?_) (fun h2=> ?_)
  ·
   replace h2:=bz h2
   have hE:c0 (aE l.xs)=((cY (aE l.xs) (aE l.xs).length).at_,(cY (aE l.xs) (aE l.xs).length).new,0):=by rw[c0,if_pos (by rw[fA];exact h2)]
   refine Gi ?_
   refine fw [3] [[],[],[],[],[3]] [0,1,2,3,4] [ar b6 (cn d) 147] (fun _ hw=>ah.mem hw) (by kernel_rfl) (by kernel_rfl) ?_
   refine ak rfl (au rfl) ?_
   refine ak rfl (dW rfl) ?_
   refine ak rfl (aP rfl) ?_
   refine cK rfl (km rfl rfl ⟨fun _ hw=>ah.mem hw,?_⟩)
   refine ak rfl (aP rfl) ?_
   refine Gc ?_
   refine an (.inl rfl) (oF rfl (al rfl) (bG rfl) (al rfl)) (fun w1 hw=> ?_)
   exact⟨d,by rw[hE,fA],by rw[hE];exact aH,ah.mem hw⟩
  ·
   replace h2:=bz h2
   refine Gc ?_
   iterate 2 refine Gs ?_
   refine Gc ?_
   refine aq rfl (fun h3=> ?_) (fun h3=> ?_)
   ·
    replace h3:=bz h3
    have hE:c0 (aE l.xs)=(0,eN,6):=by rw[c0,if_neg (by rw[fA,h2];simp),if_pos (by rw[fA];exact h3)]
    refine Gc ?_
    refine ae (bV (v:= .agg (cn fo)) rfl (fun w=>by kernel_rfl)) ?_
    iterate 3 refine Gs ?_
    refine Gc ?_
    refine an (.inl rfl) (oF rfl (al rfl) (bG rfl) (al rfl)) (fun w1 hw=> ?_)
    exact⟨fo,by rw[hE],by rw[hE];rfl,Mem.cz bf 1 (ah.mem hw:Mem w [] _)⟩
   ·
    replace h3:=bz h3
    have hE:c0 (aE l.xs)=(0,eN,2):=by rw[c0,if_neg (by rw[fA,h2];simp),if_neg (by rw[fA,h3];simp)]
    refine Gc ?_
    refine ae (bV (v:= .agg (cn fo)) rfl (fun w=>by kernel_rfl)) ?_
    iterate 3 refine Gs ?_
    refine Gc ?_
    refine an (.inl rfl) (oF rfl (al rfl) (bG rfl) (al rfl)) (fun w1 hw=> ?_)
    exact⟨fo,by rw[hE],by rw[hE];rfl,Mem.cz bf 1 (ah.mem hw:Mem w [] _)⟩
instance JM{w0:World}{L:List aj}{l:Sl (Sl UInt8)}[hl:aS w0 L l]:bW Tryz.prog 89 w0 L [l.sv.val] (cL) (fun zz=> .tuple #[.int .i64 ((c0 (aE l.xs)).1), .agg (cn zz), .int .i64 ((c0 (aE l.xs)).2.2)]) (fun zz=>own bf 1 zz.at_.sv zz.at_.xs::L) (fun zz=>cM zz=(c0 (aE l.xs)).2.1) (True):=⟨fun hp w hw=>(SH w l (hl.h w hw)).mono fun e w' ⟨x,h1,h2,h3⟩=>⟨x,h1,h2,hw.call h3⟩⟩
open Go.aL Go.Kb
open Go.RowKit
theorem JN(c:Cp)(s:Sl Int)(g:UInt64)(l:Int)(w:World):(Instr.build 29 #[(0, .agg (aB c)),(1,s.sv.val),(2, .int .u64 (g.toNat:Int)),(3, .int .i64 l)]).run Tryz.prog w= .ok (.agg (bo ⟨c,s,g,l⟩)) w:=by
 obtain⟨s,xs⟩:=s
 obtain⟨a1,a2,⟨a3,a4⟩,a5,a6,⟨a7,a8⟩⟩:=c
 unfold bo aB
 obtain⟨e,b,o,l,c,p⟩:=s
 obtain⟨e3,b3,o3,l3,c3,p3⟩:=a3
 obtain⟨e7,b7,o7,l7,c7,p7⟩:=a7
 cases e<;>cases e3<;>cases e7<;>kernel_rfl
theorem SI(w:World)(c:Cp)(hc:Deep.bk (hp w) c):Calls Tryz.prog 43 #[.agg (aB c)] w fun e w'=> ∃zz:bI,e= .returned (.tuple #[.agg (bo zz), .int .i64 ((bq (cv c)).2)])∧(vv zz=(bq (cv c)).1∧((bq (cv c)).2=0→zz.ai=c))∧Mem w [own bf 1 zz.at_.sv zz.at_.xs] w':=by
 have gy:bT w c:=⟨hc⟩
 refine aW (args:=[_]) Tryz.func43 rfl Tryz.ntmps43 rfl ?_
 change Cw _ _ _ _ _ [(0, .agg (aB c))] []
 refine Gc ?_
 refine bL rfl fun b1=> ?_
 refine bx fun b2=> ?_
 refine Gs ?_
 refine Gc ?_
 iterate 3 refine Gs ?_
 refine Gc ?_
 refine aq rfl (fun h0=> ?_) (fun h0=> ?_)
 ·
  replace h0:=bz h0
  have hE:bq (cv c)=(gI,1):=by rw[bq,if_pos h0]
  have cR:(1:Int)≠0:=by decide
  refine Gc ?_
  refine ae (bV (v:= .agg (bo fq)) rfl (fun w=>by kernel_rfl)) ?_
  iterate 2 refine Gs ?_
  refine Gc ?_
  refine an (.inl rfl) (aZ rfl (bG rfl) (al rfl)) (fun w1 hw=> ?_)
  exact⟨fq,by rw[hE],⟨by rw[hE];rfl,fun h=>absurd (by rw[hE]at h;exact h) cR⟩,Mem.cz bf 1 (ah.mem hw:Mem w [] _)⟩
 ·
  replace h0:=bz h0
  have n9:=vu.1 h0
  have hk:=n9.1
  have mf:(cv c).blocks.length=c.blocks.xs.length:=dH _
  have fB:=ik.1 (dE.1 hk).1
  obtain⟨B0,pj⟩:=get_some (xs:=c.blocks.xs) (i:=0) (by omega)
  obtain⟨B1,mj⟩:=get_some (xs:=c.blocks.xs) (i:=1) (by omega)
  have Eg:Mb B0 c.blocks:=⟨List.mem_of_getElem? pj⟩
  have Eh:Mb B1 c.blocks:=⟨List.mem_of_getElem? mj⟩
  have o0:=(eM.1 ((dE.1 hk).2.2.2.2 (bv B0) (List.mem_of_getElem? (fK pj)))).1
  have o1:=(eM.1 ((dE.1 hk).2.2.2.2 (bv B1) (List.mem_of_getElem? (fK mj)))).1
  have AJ:=fk B0.ag.xs
  have SJ:=fk B1.ag.xs
  simp only[bv,cv]at o0 o1 fB
  have hT:aE (et [B0.ag,B1.ag])=(aO (cv c) 0).ag++(aO (cv c) 1).ag:=by
   rw[C3,show aO (cv c) 0=bv B0 from xx pj,show aO (cv c) 1=bv B1 from xx mj];rfl
  have mK:=C1 (l:=(aO (cv c) 0).ag++(aO (cv c) 1).ag) (by rw[←hT,C3,List.length_append];omega)
  have fA:((aO (cv c) 0).ag++(aO (cv c) 1).ag).length=B0.ag.xs.length+B1.ag.xs.length:=by rw[←hT,C3,List.length_append];omega
  have qm:0≤(cG (cv c)).1:=mK.1
  have uv:(cG (cv c)).1<c.ag+c.ag:=by have:=mK.2;rw[fA]at this;change(cG (cv c)).1<_ at this;omega
  have JO:z1 w (et [B0.ag,B1.ag]):=⟨fun y hy=>by
   simp only[et,List.map_cons,List.map_nil,List.flatten_cons,List.flatten_nil,List.append_nil,List.mem_append]at hy
   rcases hy with hy|hy
   ·
    exact(hc.1.2 B0 Eg.h).2 y hy
   ·
    exact(hc.1.2 B1 Eh.h).2 y hy⟩
  have SK:0≤((cG (cv c)).1/c.ag):=Int.ediv_nonneg qm (by omega)
  have SL:((cG (cv c)).1/c.ag)<2:=Int.ediv_lt_of_lt_mul (by omega) (by omega)
  have ct:=C2 ((aO (cv c) 0).ag++(aO (cv c) 1).ag)
  have AG:(c.blocks.xs.getD ((cG (cv c)).1/c.ag).toNat k6).used=(aO (cv c) ((cG (cv c)).1/c.ag)).used:=congrArg BV.used (rZ (c:=c))
  refine Gc ?_
  iterate 2 refine Gs ?_
  refine Gc ?_
  refine aq rfl (fun h1=> ?_) (fun h1=> ?_)
  ·
   replace h1:=bz h1
   have hE:bq (cv c)=(gI,7):=by rw[bq,if_neg (by rw[h0];simp),if_pos (show(cv c).off=true from h1)]
   have cR:(7:Int)≠0:=by decide
   refine Gc ?_
   refine ae (bV (v:= .agg (bo fq)) rfl (fun w=>by kernel_rfl)) ?_
   iterate 2 refine Gs ?_
   refine Gc ?_
   refine an (.inl rfl) (aZ rfl (bG rfl) (al rfl)) (fun w1 hw=> ?_)
   exact⟨fq,by rw[hE],⟨by rw[hE];rfl,fun h=>absurd (by rw[hE]at h;exact h) cR⟩,Mem.cz bf 1 (ah.mem hw:Mem w [] _)⟩
  ·
   replace h1:=bz h1
   have lI: ¬(cv c).off=true:=by rw[show(cv c).off=c.off from rfl,h1];simp
   refine Gc ?_
   refine oN [10,11,12,17,19,2010,2017,4011,4012] [[],[],[],[],[],[],[],[],[],[],[],[10],[10,11],[10,11,12],[10,11,12],[10,11,12],[10,11,12],[],[10,11,12,17],[10,11,12,17],[10,11,12,17,19]] [0,1,2,3,4,5,6,7,8,9,10,11,12,13,14,15,16,17,18,19,20] [ar b1 (aB c) 25] [(10,nN (bP (τ:=Sl UInt8)) 1 2 [B0.ag,B1.ag]),(17,kF Tryz.prog 147)] (by kernel_rfl) (fun _ hw=>ah.mem hw) (by kernel_rfl) (by kernel_rfl) ?_
   refine ak rfl (aA (o':=2) rfl rfl) ?_
   refine ak rfl (bl rfl) ?_
   refine ak rfl (aX rfl rfl 0 rfl (by omega)) ?_
   refine ak rfl (aA rfl rfl) ?_
   refine ak rfl (bn (j:=0) rfl 0 pj rfl (by decide)) ?_
   refine ak rfl (aA (o':=2) rfl rfl) ?_
   refine ak rfl (bl rfl) ?_
   refine ak rfl (aX rfl rfl 1 rfl (by omega)) ?_
   refine ak rfl (aA rfl rfl) ?_
   refine ak rfl (bn (j:=0) rfl 1 mj rfl (by decide)) ?_
   refine mZ (m:=nN (bP (τ:=Sl UInt8)) 1 2 [B0.ag,B1.ag]) rfl rfl (zw (enc:=(bP (τ:=Sl UInt8))) (c:=1) (n:=2) (vals:=[B0.ag.sv.val,B1.ag.sv.val]) [B0.ag,B1.ag] rfl (by simp only[List.map_cons,List.map_nil,Sv.hQ];rfl) rfl (by decide) (by decide)) (Cert.one (i:=17) rfl rfl rfl jZ (Cert.none rfl)) fun AK=> ?_
   change Ln _ _ _ _ _ _ _ _ (cm _ _ (Sv.val ⟨false,AK,0,2,2,none⟩)) (own (bP (τ:=Sl UInt8)) 1 ⟨false,AK,0,2,2,none⟩ [B0.ag,B1.ag]::_) _
   refine rS (hc:=JH (a:=(⟨⟨false,AK,0,2,2,none⟩,[B0.ag,B1.ag]⟩:Sl (Sl (Sl UInt8))))) (Cv:=fun e_=>JH (a:=(⟨⟨false,AK,0,2,2,none⟩,[B0.ag,B1.ag]⟩:Sl (Sl (Sl UInt8))))) rfl rfl (by simp only[et,List.map_cons,List.map_nil,List.flatten_cons,List.flatten_nil,List.length_append,List.length_nil];omega) (fun e x w hw=>ah.mem hw) (Cert.one (i:=17) rfl rfl rfl jZ (Cert.none rfl)) fun dg oh=>⟨fun _ hw=>ah.mem hw,?_⟩
   refine rS (hc:=JM (l:=(⟨dg,(et [B0.ag,B1.ag])⟩:Sl (Sl UInt8)))) (Cv:=fun e_=>JM (l:=(⟨dg,(et [B0.ag,B1.ag])⟩:Sl (Sl UInt8)))) rfl rfl trivial (fun e x w hw=>ah.mem hw) (Cert.one (i:=17) rfl rfl rfl jZ (Cert.none rfl)) fun da lF=>⟨fun _ hw=>ah.mem hw,?_⟩
   have eP:(c0 (aE (et [B0.ag,B1.ag]))).1=(cG (cv c)).1:=by rw[hT];rfl
   have ux:(c0 (aE (et [B0.ag,B1.ag]))).2.2=(cG (cv c)).2.2:=by rw[hT];rfl
   have sP:cM da=(cG (cv c)).2.1:=by rw[lF,hT];rfl
   have kR:da.gen.toNat=(cG (cv c)).2.1.gen:=congrArg RV.gen sP
   have nj:da.at_.xs=(cG (cv c)).2.1.at_:=congrArg RV.at_ sP
   refine ak rfl (au rfl) ?_
   refine ak rfl (aU (v:= .int .i64 ((c0 (aE (et [B0.ag,B1.ag]))).1)) rfl rfl) ?_
   refine ak rfl (aU (v:= .agg (cn da)) rfl rfl) ?_
   refine ak rfl (aU (v:= .int .i64 ((c0 (aE (et [B0.ag,B1.ag]))).2.2)) rfl rfl) ?_
   refine mZ (m:=kF Tryz.prog 147) rfl rfl jZ (Cert.none rfl) fun b5=> ?_
   change Ln _ _ _ _ _ _ _ _ (cm _ _ (.pointer (some ⟨b5,0,none⟩))) (ar b5 (cn fo) 147::_) _
   refine ak rfl (aP rfl) ?_
   refine cK rfl (km rfl rfl ⟨fun _ hw=>ah.mem hw,?_⟩)
   refine ak rfl (aP rfl) ?_
   refine Gc ?_
   iterate 2 refine Gs ?_
   refine Gc ?_
   refine aq rfl (fun h2=> ?_) (fun h2=> ?_)
   ·
    replace h2:=bz h2
    rw[ux]at h2
    have hE:bq (cv c)=(gI,(cG (cv c)).2.2):=by rw[bq,if_neg (by rw[h0];simp),if_neg lI,if_pos h2]
    have cR:=h2
    refine Gc ?_
    refine ae (bV (v:= .agg (bo fq)) rfl (fun w=>by kernel_rfl)) ?_
    iterate 3 refine Gs ?_
    refine Gc ?_
    refine an (.inl rfl) (aZ rfl (bG rfl) (al rfl)) (fun w1 hw=> ?_)
    exact⟨fq,by rw[hE,ux],⟨by rw[hE];rfl,fun h=>absurd (by rw[hE]at h;exact h) cR⟩,Mem.cz bf 1 (ah.mem hw:Mem w [] _)⟩
   ·
    replace h2:=bz h2
    rw[ux]at h2
    refine Gc ?_
    iterate 3 refine Gs ?_
    refine ae (gV rfl rfl (by omega) (by omega)) ?_
    refine Gs ?_
    refine Gc ?_
    refine eF (by kernel_rfl) (by kernel_rfl) ?_
    iterate 3 refine Gq ?_
    refine aT (ox rfl rfl (by omega) (by omega)) ?_
    iterate 3 refine Gq ?_
    refine aT (aX rfl rfl (((c0 (aE (et [B0.ag,B1.ag]))).1/c.ag).toNat) (by rw[eP];omega) (by rw[eP];omega)) ?_
    refine aT (aA rfl rfl) ?_
    refine aT (bn (j:=1) rfl (((c0 (aE (et [B0.ag,B1.ag]))).1/c.ag).toNat) (iU (xs:=c.blocks.xs) (i:=((c0 (aE (et [B0.ag,B1.ag]))).1/c.ag).toNat) (d:=k6) (by rw[eP];omega)) rfl (by decide)) ?_
    iterate 2 refine Gq ?_
    refine dB rfl rfl rfl (fun hg=>(Ry.yl (dW rfl))) ?_
    iterate 2 refine Gh ?_
    refine dB rfl rfl rfl (fun hg=>bX (cg (av hg rfl) (cg (av hg rfl) dO)) ⟨hk,fun x hx=>ct x (by rw[nj]at hx;exact hx)⟩) ?_
    refine dB rfl rfl rfl (fun hg=>(Ry.yl (fU (av hg rfl)))) ?_
    refine Gq ?_
    refine Gc ?_
    refine aq rfl (fun h3=> ?_) (fun h3=> ?_)
    ·
     replace h3:=bz h3
     have mn:j7 (cv c)=false:=by
      rw[nj]at h3
      cases lC:j7 (cv c)with
      |false=>rfl
      |true=>
       simp only[j7,Bool.and_eq_true,decide_eq_true_eq]at lC
       rw[lC.2]at h3
       simp only[Bool.true_eq_false,or_false]at h3
       have:=lC.1
       rw[eP,AG]at h3
       exact absurd this (by simp only[cv]at*;omega)
     have hE:bq (cv c)=(gI,2):=by rw[bq,if_neg (by rw[h0];simp),if_neg lI,if_neg (by omega),if_pos mn]
     have cR:(2:Int)≠0:=by decide
     refine Gc ?_
     refine ae (bV (v:= .agg (bo fq)) rfl (fun w=>by kernel_rfl)) ?_
     iterate 2 refine Gs ?_
     refine Gc ?_
     refine an (.inl rfl) (aZ rfl (bG rfl) (al rfl)) (fun w1 hw=> ?_)
     exact⟨fq,by rw[hE],⟨by rw[hE];rfl,fun h=>absurd (by rw[hE]at h;exact h) cR⟩,Mem.cz bf 1 (ah.mem hw:Mem w [] _)⟩
    ·
     replace h3:=bz h3
     have mn:j7 (cv c)=true:=by
      rw[nj,eP,AG]at h3
      simp only[j7,Bool.and_eq_true,decide_eq_true_eq]
      exact⟨by have:=h3.1;simp only[cv]at*;omega,h3.2⟩
     have hE:bq (cv c)=(⟨cv c,(cG (cv c)).2.1.at_,(cG (cv c)).2.1.gen,(cG (cv c)).1/c.ag⟩,0):=by rw[bq,if_neg (by rw[h0];simp),if_neg lI,if_neg (by omega),if_neg (by rw[mn];simp)];rfl
     refine Gc ?_
     iterate 6 refine Gs ?_
     refine ae (bV (v:= .agg (bo ⟨c,da.at_,da.gen,((c0 (aE (et [B0.ag,B1.ag]))).1/c.ag)⟩)) rfl (JN c da.at_ da.gen ((c0 (aE (et [B0.ag,B1.ag]))).1/c.ag))) ?_
     iterate 2 refine Gs ?_
     refine Gc ?_
     refine an (.inl rfl) (aZ rfl (bG rfl) (al rfl)) (fun w1 hw=> ?_)
     exact⟨⟨c,da.at_,da.gen,(c0 (aE (et [B0.ag,B1.ag]))).1/c.ag⟩,by rw[hE],⟨by rw[hE];simp only[vv,nj,kR,eP],fun _=>rfl⟩,ah.mem hw⟩
instance adH{w0:World}{L:List aj}{c:Cp}[hc:aS w0 L c]:bW Tryz.prog 43 w0 L [.agg (aB c)] (bI) (fun zz=> .tuple #[.agg (bo zz), .int .i64 ((bq (cv c)).2)]) (fun zz=>own bf 1 zz.at_.sv zz.at_.xs::L) (fun zz=>vv zz=(bq (cv c)).1∧((bq (cv c)).2=0→zz.ai=c)) (True):=⟨fun hp w hw=>(SI w c (hc.h w hw)).mono fun e w' ⟨x,h1,h2,h3⟩=>⟨x,h1,h2,hw.call h3⟩⟩
open Go.aL Go.Kb
open Go.RowKit
theorem SM(w:World)(c:Cp)(hc:Deep.bk (hp w) c):Calls Tryz.prog 12 #[.agg (aB c)] w fun e w'=> ∃zz:bI,e= .returned (.tuple #[.agg (bo zz), .int .i64 ((bq (cv c)).2)])∧(vv zz=(if(bq (cv c)).2=0 then(bq (cv c)).1 else gI))∧Mem w [fz zz.ai,own bf 1 zz.at_.sv zz.at_.xs] w':=by
 have gy:bT w c:=⟨hc⟩
 refine aW (args:=[_]) Tryz.func12 rfl Tryz.ntmps12 rfl ?_
 change Cw _ _ _ _ _ [(0, .agg (aB c))] []
 refine Gc ?_
 refine bL rfl fun b1=> ?_
 refine bx fun b2=> ?_
 refine Gs ?_
 refine Gc ?_
 refine Gs ?_
 refine bp rfl trivial fun x8 n6=> ?_
 obtain⟨JP,JQ⟩:=n6
 have SN:=C4 (cv c)
 have SO:x8.at_.xs=(bq (cv c)).1.at_:=congrArg VV.at_ JP
 rw[←SO]at SN
 refine Gs ?_
 refine ae (aU (v:= .agg (bo x8)) rfl rfl) ?_
 refine ae (aU (v:= .int .i64 ((bq (cv c)).2)) rfl rfl) ?_
 refine bx fun b4=> ?_
 iterate 2 refine Gs ?_
 refine Gc ?_
 iterate 2 refine Gs ?_
 refine Gc ?_
 refine aq rfl (fun h0=> ?_) (fun h0=> ?_)
 ·
  replace h0:=bz h0
  refine Gc ?_
  refine ae (bV (v:= .agg (bo fq)) rfl (fun w=>by kernel_rfl)) ?_
  iterate 3 refine Gs ?_
  refine Gc ?_
  refine an (.inl rfl) (aZ rfl (bG rfl) (al rfl)) (fun w1 hw=> ?_)
  exact⟨fq,rfl,by rw[if_neg h0];rfl,OH (Mem.cz bf 1 (ah.mem hw:Mem w [] _))⟩
 ·
  replace h0:=bz h0
  have pk:(bq (cv c)).2=0:=h0
  have ec:HQ x8.ai c:=⟨JQ pk⟩
  have kv:dK x8.ai:=by rw[JQ pk];exact pT (vu.1 (C5 pk)).1
  iterate 3 refine Gi ?_
  refine oH [Deep.ck x8.at_,ar b4 (bo x8) 29,ar b2 (bo fq) 29,ar b1 (aB c) 25] (fun w hw=>ah.mem (Mem.Hf (ah.mem hw:Mem _ [own bf 1 x8.at_.sv x8.at_.xs,ar b4 (bo x8) 29,ar b2 (bo fq) 29,ar b1 (aB c) 25] _))) ?_
  refine Gi ?_
  refine Gs ?_
  refine bp rfl ⟨by assumption,by omega⟩ fun aD jB=> ?_
  iterate 2 refine Gs ?_
  refine Gc ?_
  refine an (.inl rfl) (aZ rfl (bG rfl) (al rfl)) (fun w1 hw=> ?_)
  exact⟨(⟨aD.1,⟨aD.2,x8.at_.xs⟩,x8.gen,x8.last⟩:bI),by rw[pk],by
   rw[if_pos pk,←JP]
   simp only[vv,jB],ah.mem hw⟩
instance adI{w0:World}{L:List aj}{c:Cp}[hc:aS w0 L c]:bW Tryz.prog 12 w0 L [.agg (aB c)] (bI) (fun zz=> .tuple #[.agg (bo zz), .int .i64 ((bq (cv c)).2)]) (fun zz=>fz zz.ai::own bf 1 zz.at_.sv zz.at_.xs::L) (fun zz=>vv zz=(if(bq (cv c)).2=0 then(bq (cv c)).1 else gI)) (True):=⟨fun hp w hw=>(SM w c (hc.h w hw)).mono fun e w' ⟨x,h1,h2,h3⟩=>⟨x,h1,h2,hw.call h3⟩⟩
theorem SP(w:World)(v:bI)(hv:Deep.bk (hp w) v):Calls Tryz.prog 19 #[.agg (bo v)] w fun e w'=>e= .returned (.bool (gJ (vv v)))∧Mem w [] w':=by
 have ur:bT w v:=⟨hv⟩
 refine aW (args:=[_]) Tryz.func19 rfl Tryz.ntmps19 rfl ?_
 change Cw _ _ _ _ _ [(0, .agg (bo v))] []
 refine Gc ?_
 refine bL rfl fun b1=> ?_
 refine Gs ?_
 refine Gc ?_
 refine Gs ?_
 refine ae (eE rfl) ?_
 refine bx fun b3=> ?_
 refine Gs ?_
 refine Gc ?_
 refine Gs ?_
 refine dM (cs':=aB (⟨v.ai.ag,v.ai.size,v.ai.blocks,v.ai.ops,false,v.ai.bc⟩:Cp)) rfl rfl (by show 4<6;decide) (by first|rfl|exact Sv.one _) rfl ?_
 refine Gc ?_
 refine Gs ?_
 refine bp rfl trivial fun dy vZ=> ?_
 obtain⟨Ei,adJ⟩:=vZ
 have Ej:dy.gen.toNat=(bq {(vv v).ai with off:=false}).1.gen:=congrArg VV.gen Ei
 have v7:dy.last=(bq {(vv v).ai with off:=false}).1.last:=congrArg VV.last Ei
 have Ek:dy.at_.xs=(bq {(vv v).ai with off:=false}).1.at_:=congrArg VV.at_ Ei
 refine Gs ?_
 refine ae (aU (v:= .agg (bo dy)) rfl rfl) ?_
 refine ae (aU (v:= .int .i64 ((bq (cv (⟨v.ai.ag,v.ai.size,v.ai.blocks,v.ai.ops,false,v.ai.bc⟩:Cp))).2)) rfl rfl) ?_
 refine bx fun b4=> ?_
 iterate 2 refine Gs ?_
 refine Gc ?_
 iterate 3 refine Gs ?_
 iterate 5 refine Gg ?_
 iterate 2 refine Gs ?_
 iterate 5 refine Gg ?_
 iterate 2 refine Gs ?_
 iterate 4 refine Gg ?_
 refine dG rfl rfl rfl (fun hg=>bX (cg (av hg rfl) (cg (av hg rfl) dO)) trivial) ?_
 iterate 2 refine Gs ?_
 refine Gc ?_
 refine an (.inl rfl) (aK rfl (al rfl)) (fun w1 hw=> ?_)
 exact⟨congrArg (fun b=>Ending.returned (Value.bool b)) ((by rw[show decide (((dy.gen.toNat:Nat):Int)=((v.gen.toNat:Nat):Int))=decide (dy.gen.toNat=v.gen.toNat)from decide_eq_decide.2 (by omega),gJ,←Ej,←v7,←Ek];rfl)),ah.mem hw⟩
instance adK{w0:World}{L:List aj}{v:bI}[hv:aS w0 L v]:bU Tryz.prog 19 w0 L [.agg (bo v)] (.bool (gJ (vv v))) (True):=⟨fun hp w hw=>SP w v (hv.h w hw)⟩
open Go.aL Go.Kb
open Go.RowKit
theorem SQ(w:World)(v:bI)(id:Int)(hv:Deep.bk (hp w) v)(ba:bg (cv v.ai)=true∧ ∃y,v.at_.xs[id.toNat]? =Option.some y∧0≤id∧1≤y∧y≤1000000∧2≤(y -1)/(cv v.ai).ag∧(y -1)/(cv v.ai).ag<((cv v.ai).blocks.length:Int)):Calls Tryz.prog 49 #[.agg (bo v), .int .i64 id] w fun e w'=> ∃zz:Sv,e= .returned (zz.val)∧(True)∧Mem w [own aJ 1 zz (jI (cv v.ai) (v.at_.xs.getD id.toNat 0))] w':=by
 have ur:bT w v:=⟨hv⟩
 obtain⟨hk,y,hy,su,xL,hy2,g1,g2⟩:=ba
 have iA:v.at_.xs.getD id.toNat 0=y:=oW hy
 have gm:=(List.getElem?_eq_some_iff.1 hy).1
 have cO:=dH v.ai.blocks.xs
 have fB:=ik.1 (dE.1 hk).1
 simp only[cv,cO]at fB
 have q7:0≤((y -1)/v.ai.ag):=Int.ediv_nonneg (by omega) (by omega)
 have mL:0≤((y -1)%v.ai.ag):=Int.emod_nonneg _ (by omega)
 have sL:((y -1)%v.ai.ag)<v.ai.ag:=Int.emod_lt_of_pos _ (by omega)
 have n9:=rZ (c:=v.ai) (b:=((y -1)/v.ai.ag))
 change 2≤((y -1)/v.ai.ag)at g1
 change((y -1)/v.ai.ag)<((fm v.ai.blocks.xs).length:Int)at g2
 rw[cO]at g2
 obtain⟨B,hB⟩:=get_some (xs:=v.ai.blocks.xs) (i:=((y -1)/v.ai.ag).toNat) (by omega)
 have pg:Mb B v.ai.blocks:=⟨List.mem_of_getElem? hB⟩
 have dx:bv B=aO (cv v.ai) ((y -1)/v.ai.ag):=by rw[←n9];simp[List.getD,hB]
 have eu:=eM.1 ((dE.1 hk).2.2.2.2 (bv B) (List.mem_of_getElem? (fK hB)))
 have fA:=fk B.ag.xs
 have JD:(B.ag.xs.length:Int)=v.ai.ag:=by have:=eu.1;simp only[bv,cv,fA]at this;exact this
 obtain⟨z,hz⟩:=get_some (xs:=B.ag.xs) (i:=((y -1)%v.ai.ag).toNat) (by omega)
 have n5:Mb z B.ag:=⟨List.mem_of_getElem? hz⟩
 have ln:r9 (cv v.ai) (y -1)=z.xs:=by
  show(aO (cv v.ai) ((y -1)/v.ai.ag)).ag.getD ((y -1)%v.ai.ag).toNat []=z.xs
  rw[←dx]
  simp[bv,List.getD,ib hz]
 refine aW (args:=[_,_]) Tryz.func49 rfl Tryz.ntmps49 rfl ?_
 change Cw _ _ _ _ _ [(0, .agg (bo v)),(1, .int .i64 id)] []
 refine Gc ?_
 refine bL rfl fun b2=> ?_
 refine Gs ?_
 refine Gc ?_
 iterate 3 refine Gs ?_
 refine ae (aX rfl rfl id.toNat (by omega) (by omega)) ?_
 refine ae (bn (j:=0) rfl id.toNat hy rfl (by decide)) ?_
 iterate 2 refine Gs ?_
 refine Gc ?_
 refine oN [18,22,23,2022,4018] [[],[],[],[],[],[],[],[],[],[],[],[],[],[],[],[],[],[],[],[18],[18],[18],[],[18,22],[18,22,23]] [0,1,2,3,4,5,6,7,8,9,10,11,12,13,14,15,16,17,18,19,20,21,22,23,24] [ar b2 (bo v) 29] [(22,kF Tryz.prog 110)] (by kernel_rfl) (fun _ hw=>ah.mem hw) (by kernel_rfl) (by kernel_rfl) ?_
 refine ak rfl (aA (o':=0) rfl rfl) ?_
 refine ak rfl (aA (o':=2) rfl rfl) ?_
 refine ak rfl (bl rfl) ?_
 refine ak rfl (au rfl) ?_
 refine ak rfl (aA (o':=0) rfl rfl) ?_
 refine ak rfl (aA (o':=0) rfl rfl) ?_
 refine ak rfl (bl rfl) ?_
 refine ak rfl (gV rfl rfl (by omega) (by omega)) ?_
 refine ak rfl (aX rfl rfl (((y -1)/v.ai.ag).toNat) (by omega) (by omega)) ?_
 refine ak rfl (aA rfl rfl) ?_
 refine ak rfl (bn (j:=0) rfl (((y -1)/v.ai.ag).toNat) hB rfl (by decide)) ?_
 refine ak rfl (au rfl) ?_
 refine ak rfl (aA (o':=0) rfl rfl) ?_
 refine ak rfl (aA (o':=0) rfl rfl) ?_
 refine ak rfl (bl rfl) ?_
 refine ak rfl (ox rfl rfl (by omega) (by omega)) ?_
 refine ak rfl (aX rfl rfl (((y -1)%v.ai.ag).toNat) (by omega) (by omega)) ?_
 refine ak rfl (bn (j:=0) rfl (((y -1)%v.ai.ag).toNat) hz rfl (by decide)) ?_
 refine rS rfl rfl trivial (fun e x w hw=>ah.mem hw) (Cert.one (i:=22) rfl rfl rfl jZ (Cert.none rfl)) fun jg sQ=>⟨fun _ hw=>ah.mem hw,?_⟩
 have e1:jg.body.xs=(bm z.xs).1.body:=congrArg PV.body sQ
 refine ak rfl (au rfl) ?_
 refine ak rfl (aU (v:= .agg (bZ jg)) rfl rfl) ?_
 refine ak rfl (aU (v:= .int .i64 ((bm z.xs).2)) rfl rfl) ?_
 refine mZ (m:=kF Tryz.prog 110) rfl rfl jZ (Cert.none rfl) fun b6=> ?_
 change Ln _ _ _ _ _ _ _ _ (cm _ _ (.pointer (some ⟨b6,0,none⟩))) (ar b6 (bZ gF) 110::_) _
 refine cK rfl (km rfl rfl ⟨fun _ hw=>ah.mem hw,?_⟩)
 refine ak rfl (aP rfl) ?_
 refine Gc ?_
 iterate 2 refine Gs ?_
 refine Gc ?_
 refine aq rfl (fun h0=> ?_) (fun h0=> ?_)
 ·
  replace h0:=bz h0
  have hE:(jI (cv v.ai) (v.at_.xs.getD id.toNat 0))=[]:=by rw[iA,jI,ln,if_neg h0]
  refine Gc ?_
  refine Gs ?_
  refine Gc ?_
  refine an (.inl rfl) (aK rfl (al rfl)) (fun w1 hw=> ?_)
  exact⟨Sv.none,rfl,trivial,by rw[hE];exact Mem.cz aJ 1 (ah.mem hw:Mem w [] _)⟩
 ·
  replace h0:=bz h0
  have pk:(bm z.xs).2=0:=h0
  have hE:(jI (cv v.ai) (v.at_.xs.getD id.toNat 0))=jg.body.xs:=by rw[iA,jI,ln,if_pos pk,e1]
  refine Gc ?_
  iterate 3 refine Gs ?_
  refine Gc ?_
  refine an (.inl rfl) (aK rfl (al rfl)) (fun w1 hw=> ?_)
  exact⟨jg.body.sv,rfl,trivial,by rw[hE];exact ah.mem hw⟩
instance JR{w0:World}{L:List aj}{v:bI}{id:Int}[hv:aS w0 L v]:bW Tryz.prog 49 w0 L [.agg (bo v), .int .i64 id] (Sv) (fun zz=>zz.val) (fun zz=>own aJ 1 zz (jI (cv v.ai) (v.at_.xs.getD id.toNat 0))::L) (fun zz=>True) (bg (cv v.ai)=true∧ ∃y,v.at_.xs[id.toNat]? =Option.some y∧0≤id∧1≤y∧y≤1000000∧2≤(y -1)/(cv v.ai).ag∧(y -1)/(cv v.ai).ag<((cv v.ai).blocks.length:Int)):=⟨fun hp w hw=>(SQ w v id (hv.h w hw) hp).mono fun e w' ⟨x,h1,h2,h3⟩=>⟨x,h1,h2,hw.call h3⟩⟩
open Go.aL Go.Kb
open Go.RowKit
open Go.aL Go.Kb
open Go.RowKit
theorem SR(w:World)(x:dk)(n:Int)(hx:Deep.bk (hp w) x):Calls Tryz.prog 148 #[.agg (bZ x), .int .i64 n] w fun e w'=> ∃zz:Sv,e= .returned (.tuple #[zz.val, .int .i64 ((dZ (cA x) n).2)])∧(True)∧Mem w [own aJ 1 zz (dZ (cA x) n).1] w':=by
 have sI:bT w x:=⟨hx⟩
 refine aW (args:=[_,_]) Tryz.func148 rfl Tryz.ntmps148 rfl ?_
 change Cw _ _ _ _ _ [(0, .agg (bZ x)),(1, .int .i64 n)] []
 refine Gc ?_
 refine bL rfl fun b2=> ?_
 iterate 2 refine Gs ?_
 refine Gc ?_
 iterate 4 refine Gs ?_
 refine Gc ?_
 refine aq rfl (fun h0=> ?_) (fun h0=> ?_)
 ·
  replace h0:=bz h0
  have hE:dZ (cA x) n=([],1):=by rw[dZ,if_neg (by rw[h0];simp)]
  refine Gc ?_
  iterate 2 refine Gs ?_
  refine Gc ?_
  refine an (.inl rfl) (aZ rfl (al rfl) (al rfl)) (fun w1 hw=> ?_)
  exact⟨Sv.none,by rw[hE];rfl,trivial,by rw[hE];exact Mem.cz aJ 1 (ah.mem hw:Mem w [] _)⟩
 ·
  replace h0:=bz h0
  have hE:dZ (cA x) n=((l0 (cA x) n.toNat)++be (gp (l0 (cA x) n.toNat)) 4,0):=by rw[dZ,if_pos h0]
  obtain⟨m1,m2,m3,m4,m5,m6⟩:=zU.1 h0
  have RY:=oU.1 m1
  have sJ:du n=n -16:=by rw[du,if_pos m1]
  simp only[cA]at m2 m3 m4 m5 m6
  have G8:(List.replicate (n.toNat -4) (0:UInt8)).length=n.toNat -4:=List.length_replicate
  have cO:x.body.xs.length+16≤n.toNat:=by omega
  have hg6:=jl x.gen.toNat 6
  have hm2:=jl x.body.xs.length 2
  have wO:=zC (l0 (cA x) n.toNat)
  have gh:(l0 (cA x) n.toNat).length=n.toNat -4:=Ox (by simp only[cA];omega)
  refine Gc ?_
  iterate 2 refine Gs ?_
  refine rJ (enc:=aJ) (n:=(n.toNat -4)) (cap:=(n.toNat -4)) 0 rfl rfl rfl (by omega) (by omega) (by omega) (by omega) (by omega) fun iM=> ?_
  refine Gs ?_
  iterate 3 refine Gi ?_
  have xT:=zT (b:=iM) (n:=(n.toNat -4)) (by omega)
  refine fw [9,11] [[],[],[],[],[],[],[],[],[],[],[9],[9]] [0,1,2,3,4,5,6,7,8,9,10,11] [ar b2 (bZ x) 110] (fun _ hw=>ah.mem hw) (by kernel_rfl) (by kernel_rfl) ?_
  refine ak rfl (au rfl) ?_
  refine ak rfl (au rfl) ?_
  refine ak rfl (aA (o':=0) rfl rfl) ?_
  refine ak rfl (bl rfl) ?_
  refine ak rfl (pB rfl (vq _)) ?_
  refine ak rfl (aA (o':=1) rfl rfl) ?_
  refine ak rfl (bl rfl) ?_
  refine ak rfl (pB rfl (vq _)) ?_
  refine ak rfl (jk (s:=⟨false,iM,0,(n.toNat -4),(n.toNat -4),none⟩) (i:=0) rfl rfl rfl xT (by simp only;omega)) ?_
  refine cK rfl (tJ (s:=⟨false,iM,0,(n.toNat -4),(n.toNat -4),none⟩) (n:=1) (k:=0) (j:=0) (a:=0) (a':=dt x.kind) (xs:=(List.replicate (n.toNat -4) (0:UInt8))) (enc:=aJ) (c:=1) (v:= .int .u8 (dt x.kind).toNat) (by kernel_rfl) rfl rfl rfl (by rw[List.getElem?_replicate,if_pos (by omega)]) (by simp[Value.cells,Value.oneCell']) rfl (by omega) (by rfl) ⟨fun _ hw=>ah.mem hw,?_⟩)
  refine ak rfl (jk (s:=⟨false,iM,0,(n.toNat -4),(n.toNat -4),none⟩) (i:=1) rfl rfl rfl xT (by simp only;omega)) ?_
  refine cK rfl (tJ (s:=⟨false,iM,0,(n.toNat -4),(n.toNat -4),none⟩) (n:=1) (k:=1) (j:=0) (a:=0) (a':=dt x.id) (xs:=((List.replicate (n.toNat -4) (0:UInt8)).set 0 (dt x.kind))) (enc:=aJ) (c:=1) (v:= .int .u8 (dt x.id).toNat) (by kernel_rfl) rfl rfl rfl (by rw[List.getElem?_set_ne (by decide),List.getElem?_replicate,if_pos (by omega)]) (by simp[Value.cells,Value.oneCell']) rfl (by omega) (by rfl) ⟨fun _ hw=>ah.mem hw,?_⟩)
  iterate 3 refine Gi ?_
  refine oH [own aJ 1 ⟨false,iM,0,(n.toNat -4),(n.toNat -4),none⟩ ([dt x.kind,dt x.id]++List.replicate ((n.toNat -4) -2) (0:UInt8)),ar b2 (bZ x) 110] (fun w hw=>by
   rw[Ow (by omega)]at hw
   exact ah.mem hw) ?_
  refine fw [4,5] [[],[],[],[],[],[4]] [0,1,2,3,4,5] [ar b2 (bZ x) 110] (fun _ hw=>ah.mem hw) (by kernel_rfl) (by kernel_rfl) ?_
  refine ak rfl (au rfl) ?_
  have SS:Rg 2 8 (List.replicate (n.toNat -4) (0:UInt8)).length:=⟨by omega⟩
  refine ak rfl (y4 (s:=⟨false,iM,0,(n.toNat -4),(n.toNat -4),none⟩) (l:=2) (h:=8) rfl rfl rfl rfl rfl xT (by omega) (by simp only;omega)) ?_
  refine ak rfl (aA (o':=2) rfl rfl) ?_
  refine ak rfl (bl rfl) ?_
  refine cK rfl (lT (vs:=[_, .int .i64 ((6:Nat):Int)]) rfl ⟨by omega,by omega,by omega⟩ fun da lF=>⟨fun _ hw=>ah.mem hw,?_⟩)
  refine cK rfl (CK (D:=Sv.sub ⟨false,iM,0,(n.toNat -4),(n.toNat -4),none⟩ 1 2 8) (S:=da) (rm:=⟨false,iM,0,(n.toNat -4),(n.toNat -4),none⟩) (k:=2) (xs:=([dt x.kind,dt x.id]++List.replicate ((n.toNat -4) -2) (0:UInt8))) (ys:=(be x.gen.toNat 6)) rfl rfl rfl rfl (by simp only[Sv.sub];rw[if_neg (by omega)]) rfl (by decide) rfl (by simp only[Sv.sub,jl];omega) (by simp only[List.length_append,jl,List.length_replicate,List.length_cons,List.length_nil];omega) ⟨fun _ hw=>ah.mem hw,?_⟩)
  iterate 3 refine Gi ?_
  refine oH [own aJ 1 ⟨false,iM,0,(n.toNat -4),(n.toNat -4),none⟩ ([dt x.kind,dt x.id]++(be x.gen.toNat 6)++List.replicate ((n.toNat -4) -2 -(be x.gen.toNat 6).length) (0:UInt8)),ar b2 (bZ x) 110] (fun w hw=>by
   rw[CZ (A:=[dt x.kind,dt x.id]) (k:=2) rfl]at hw
   exact ah.mem hw) ?_
  refine fw [6,7] [[],[],[],[],[],[],[],[6]] [0,1,2,3,4,5,6,7] [ar b2 (bZ x) 110] (fun _ hw=>ah.mem hw) (by kernel_rfl) (by kernel_rfl) ?_
  refine ak rfl (au rfl) ?_
  have adL:Rg 8 10 (List.replicate (n.toNat -4) (0:UInt8)).length:=⟨by omega⟩
  refine ak rfl (y4 (s:=⟨false,iM,0,(n.toNat -4),(n.toNat -4),none⟩) (l:=8) (h:=10) rfl rfl rfl rfl rfl xT (by omega) (by simp only;omega)) ?_
  refine ak rfl (aA (o':=3) rfl rfl) ?_
  refine ak rfl (bl rfl) ?_
  refine ak rfl (iT rfl) ?_
  refine ak rfl (mw rfl (by simp only[nb];omega)) ?_
  refine cK rfl (lT (vs:=[_, .int .i64 ((2:Nat):Int)]) rfl ⟨by omega,by omega,by omega⟩ fun SU adM=>⟨fun _ hw=>ah.mem hw,?_⟩)
  refine cK rfl (CK (D:=Sv.sub ⟨false,iM,0,(n.toNat -4),(n.toNat -4),none⟩ 1 8 10) (S:=SU) (rm:=⟨false,iM,0,(n.toNat -4),(n.toNat -4),none⟩) (k:=8) (xs:=([dt x.kind,dt x.id]++(be x.gen.toNat 6)++List.replicate ((n.toNat -4) -2 -(be x.gen.toNat 6).length) (0:UInt8))) (ys:=(be x.body.xs.length 2)) rfl rfl rfl rfl (by simp only[Sv.sub];rw[if_neg (by omega)]) rfl (by decide) rfl (by simp only[Sv.sub,jl];omega) (by simp only[List.length_append,jl,List.length_replicate,List.length_cons,List.length_nil];omega) ⟨fun _ hw=>ah.mem hw,?_⟩)
  iterate 3 refine Gi ?_
  refine oH [own aJ 1 ⟨false,iM,0,(n.toNat -4),(n.toNat -4),none⟩ ([dt x.kind,dt x.id]++(be x.gen.toNat 6)++(be x.body.xs.length 2)++List.replicate ((n.toNat -4) -2 -(be x.gen.toNat 6).length -(be x.body.xs.length 2).length) (0:UInt8)),ar b2 (bZ x) 110] (fun w hw=>by
   rw[CZ (A:=[dt x.kind,dt x.id]++(be x.gen.toNat 6)) (k:=8) (by simp[jl])]at hw
   exact ah.mem hw) ?_
  refine fw [4] [[],[],[],[],[]] [0,1,2,3,4] [ar b2 (bZ x) 110] (fun _ hw=>ah.mem hw) (by kernel_rfl) (by kernel_rfl) ?_
  refine ak rfl (au rfl) ?_
  have adN:Rg 10 ((List.replicate (n.toNat -4) (0:UInt8)).length) (List.replicate (n.toNat -4) (0:UInt8)).length:=⟨by omega⟩
  refine ak rfl (pG (s:=⟨false,iM,0,(n.toNat -4),(n.toNat -4),none⟩) (l:=10) (n:=(n.toNat -4)) rfl rfl rfl xT rfl (by omega)) ?_
  refine ak rfl (aA (o':=3) rfl rfl) ?_
  refine ak rfl (bl rfl) ?_
  refine cK rfl (CK (D:=Sv.sub ⟨false,iM,0,(n.toNat -4),(n.toNat -4),none⟩ 1 10 (n.toNat -4)) (S:=x.body.sv) (rm:=⟨false,iM,0,(n.toNat -4),(n.toNat -4),none⟩) (k:=10) (xs:=([dt x.kind,dt x.id]++(be x.gen.toNat 6)++(be x.body.xs.length 2)++List.replicate ((n.toNat -4) -2 -(be x.gen.toNat 6).length -(be x.body.xs.length 2).length) (0:UInt8))) (ys:=x.body.xs) rfl rfl rfl rfl (by simp only[Sv.sub];rw[if_neg (by omega)]) rfl (by decide) rfl (by simp only[Sv.sub,jl];omega) (by simp only[List.length_append,jl,List.length_replicate,List.length_cons,List.length_nil];omega) ⟨fun _ hw=>ah.mem hw,?_⟩)
  iterate 3 refine Gi ?_
  refine oH [own aJ 1 ⟨false,iM,0,(n.toNat -4),(n.toNat -4),none⟩ (l0 (cA x) n.toNat),ar b2 (bZ x) 110] (fun w hw=>by
   rw[CZ (A:=[dt x.kind,dt x.id]++(be x.gen.toNat 6)++(be x.body.xs.length 2)) (k:=10) (by simp[jl]),show([dt x.kind,dt x.id]++(be x.gen.toNat 6)++(be x.body.xs.length 2)++x.body.xs++List.replicate ((n.toNat -4) -2 -(be x.gen.toNat 6).length -(be x.body.xs.length 2).length -x.body.xs.length) (0:UInt8))=(l0 (cA x) n.toNat)from by
    simp only[l0,cA,jl]
    congr 2<;>omega]at hw
   exact ah.mem hw) ?_
  refine Gi ?_
  iterate 3 refine Gs ?_
  refine ae (mw rfl (by simp only[nb];omega)) ?_
  refine bp (vs:=[_, .int .i64 ((4:Nat):Int)]) rfl ⟨by omega,by omega,by omega⟩ fun v8 SV=> ?_
  refine mz (enc:=(bP (τ:=UInt8))) [(⟨⟨false,iM,0,(n.toNat -4),(n.toNat -4),none⟩,(l0 (cA x) n.toNat)⟩:Sl UInt8),⟨v8,be (gp (l0 (cA x) n.toNat)) 4⟩] (vals:=[(⟨false,iM,0,(n.toNat -4),(n.toNat -4),none⟩:Sv).val,v8.val]) rfl (by simp only[List.map_cons,List.map_nil,Sv.hQ];rfl) rfl (by decide) (by decide) fun b48=> ?_
  refine ND (τ:=Sl UInt8) (xs:=[(⟨⟨false,iM,0,(n.toNat -4),(n.toNat -4),none⟩,(l0 (cA x) n.toNat)⟩:Sl UInt8),⟨v8,be (gp (l0 (cA x) n.toNat)) 4⟩]) fun SW CC g48=> ?_
  have JS:iW SW.xs=(dZ (cA x) n).1:=by rw[CC,hE];simp[iW]
  have hf9:(dZ (cA x) n).1.length≤1000:=by rw[hE,List.length_append,jl];omega
  refine bp rfl (by rw[JS];omega) fun SX adO=> ?_
  iterate 2 refine Gs ?_
  refine Gc ?_
  refine an (.inl rfl) (aZ rfl (al rfl) (al rfl)) (fun w1 hw=> ?_)
  exact⟨SX,by rw[hE],trivial,by rw[←JS];exact ah.mem hw⟩
instance adP{w0:World}{L:List aj}{x:dk}{n:Int}[hx:aS w0 L x]:bW Tryz.prog 148 w0 L [.agg (bZ x), .int .i64 n] (Sv) (fun zz=> .tuple #[zz.val, .int .i64 ((dZ (cA x) n).2)]) (fun zz=>own aJ 1 zz (dZ (cA x) n).1::L) (fun zz=>True) (True):=⟨fun hp w hw=>(SR w x n (hx.h w hw)).mono fun e w' ⟨x,h1,h2,h3⟩=>⟨x,h1,h2,hw.call h3⟩⟩
open Go.aL Go.Kb
open Go.RowKit
theorem SY(i:Int)(g:UInt64)(w:World):(Instr.build 110 #[(0, .int .i64 2),(1, .int .i64 i),(2, .int .u64 (g.toNat:Int))]).run Tryz.prog w= .ok (.agg (bZ ⟨2,i,g,⟨Sv.none,[]⟩⟩)) w:=by
 unfold bZ
 kernel_rfl
theorem SZ(w:World)(r:cL)(n:Int)(hr:Deep.bk (hp w) r):Calls Tryz.prog 123 #[.agg (cn r), .int .i64 n] w fun e w'=> ∃zz:Sv,e= .returned (.tuple #[zz.val, .int .i64 ((dn (cM r) n).2)])∧(True)∧Mem w [own aJ 1 zz (dn (cM r) n).1] w':=by
 have RO:bT w r:=⟨hr⟩
 have fJ:=hr.1.bd
 refine aW (args:=[_,_]) Tryz.func123 rfl Tryz.ntmps123 rfl ?_
 change Cw _ _ _ _ _ [(0, .agg (cn r)),(1, .int .i64 n)] []
 refine Gc ?_
 refine bL rfl fun b2=> ?_
 iterate 2 refine Gs ?_
 refine Gc ?_
 iterate 4 refine Gs ?_
 refine Gc ?_
 refine aq rfl (fun h0=> ?_) (fun h0=> ?_)
 ·
  replace h0:=bz h0
  have hE:dn (cM r) n=([],1):=by rw[dn,if_neg (by rw[h0];simp)]
  refine Gc ?_
  iterate 2 refine Gs ?_
  refine Gc ?_
  refine an (.inl rfl) (aZ rfl (al rfl) (al rfl)) (fun w1 hw=> ?_)
  exact⟨Sv.none,by rw[hE];rfl,trivial,by rw[hE];exact Mem.cz aJ 1 (ah.mem hw:Mem w [] _)⟩
 ·
  replace h0:=bz h0
  have hE:dn (cM r) n=dZ (⟨2,(max 0 (r.at_.xs.length -1:Int)),r.gen.toNat,iY r.at_.xs⟩:PV) n:=by rw[dn,if_pos h0];rfl
  obtain⟨m1,m2,m3,m4⟩:=xv.1 h0
  have hmf:fY n≤64:=by rw[fY];omega
  simp only[cM]at m2 m3 m4
  refine Gc ?_
  iterate 4 refine Gs ?_
  refine ae (tl rfl rfl) ?_
  iterate 2 refine Gs ?_
  refine ae (bV (v:= .agg (bZ (⟨2,(max 0 (r.at_.xs.length -1:Int)),r.gen,⟨Sv.none,[]⟩⟩:dk))) rfl (SY _ r.gen)) ?_
  refine bx fun b6=> ?_
  refine Gs ?_
  refine Gc ?_
  iterate 4 refine Gs ?_
  refine Gc ?_
  refine bK (X:=Nat×Sv) (fun zz=>[(24, .int .i64 (zz.1:Nat)),(6, .pointer (some ⟨b6,0,none⟩)),(1, .int .i64 n),(22,r.at_.sv.val),(23, .int .i64 (r.at_.xs.length:Nat))]) (fun zz=>[ar b6 (bZ (⟨2,(max 0 (r.at_.xs.length -1:Int)),r.gen,⟨zz.2,iY (r.at_.xs.take zz.1)⟩⟩:dk)) 110,own aJ 1 zz.2 (iY (r.at_.xs.take zz.1)),ar b2 (cn r) 147]) (fun zz=>zz.1≤r.at_.xs.length) (fun zz=>r.at_.xs.length -zz.1) (0,Sv.none) (Nat.zero_le _) (Sub.cons rfl (Sub.cons rfl (Sub.cons rfl (Sub.cons rfl (Sub.cons rfl (Sub.nil _)))))) (fun w hw=>by
   simp only[List.take_zero,iY,List.map_nil,List.flatten_nil];exact ah.mem (Mem.cz aJ 1 hw)) ?_
  rintro⟨i,s1⟩ bb
  dsimp only
  simp only at bb
  refine Gc ?_
  refine Gs ?_
  refine Gc ?_
  refine aq rfl (fun h1=> ?_) (fun h1=> ?_)
  ·
   replace h1:=bz h1
   obtain⟨y,hy⟩:=get_some (xs:=r.at_.xs) (i:=i) (by omega)
   have D6:=C0.1 (m4 y (List.mem_of_getElem? hy))
   have dN:iY (r.at_.xs.take (i+1))=iY (r.at_.xs.take i)++[dt (y/256),dt y]:=Oy hy
   have Ef:=Oz (r.at_.xs.take i)
   have hnt:(r.at_.xs.take i).length≤64:=by rw[List.length_take];omega
   refine Gc ?_
   refine ae (aX rfl rfl i rfl (by omega)) ?_
   refine ae (bn (j:=0) rfl i hy rfl (by decide)) ?_
   refine Gs ?_
   refine Gc ?_
   iterate 3 refine Gs ?_
   refine ae (Ry.to (v':= .int .i64 (y/256)) (tm (p:=y.toNat) (Eq.trans (b:=some (Value.int .i64 y)) rfl (by rw[Int.toNat_of_nonneg D6.1])) rfl (by simp only[nb];omega) (by omega)) (by rw[show(8:Int).toNat=8 from rfl];congr 1;omega)) ?_
   refine ae (pB rfl (vq _)) ?_
   refine Gs ?_
   refine ae (pB rfl (vq _)) ?_
   refine mz (enc:=aJ) (vals:=[_,_]) [(dt (y/256)),(dt y)] rfl rfl rfl (by decide) (by decide) fun JT=> ?_
   refine jG (s:=s1) (ys:=[(dt (y/256)),(dt y)]) rfl rfl (by decide) (fun w hw=>gX (s:=⟨false,JT,0,2,2,none⟩) Tryz.underlying38 (by decide) ((inferInstance:Hd _ _ ⟨false,JT,0,2,2,none⟩ aJ 1 [(dt (y/256)),(dt y)]).h w hw)) (by simp only[List.length_cons,List.length_nil];omega) (by simp only[List.length_cons,List.length_nil];omega) fun JU adQ adR=> ?_
   refine Gs ?_
   refine dM (cs':=bZ (⟨2,(max 0 (r.at_.xs.length -1:Int)),r.gen,⟨JU,((iY (r.at_.xs.take i))++[(dt (y/256)),(dt y)])⟩⟩:dk)) rfl rfl (by show 3<4;decide) (by first|rfl|exact Sv.one _) rfl ?_
   refine Gc ?_
   iterate 2 refine Gs ?_
   refine Gi ?_
   exact bh (x:=(i,s1)) (i+1,JU) (by simp only;omega) (by simp only;omega) (Sub.cons rfl (Sub.cons rfl (Sub.cons rfl (Sub.cons rfl (Sub.cons rfl (Sub.nil _)))))) (fun w hw=>by
    simp only[dN];exact ah.mem hw)
  ·
   replace h1:=bz h1
   obtain rfl:i=r.at_.xs.length:=by omega
   rw[List.take_length]
   iterate 6 refine Gi ?_
   refine oH [Deep.ck (⟨s1,iY r.at_.xs⟩:Sl UInt8),ar b6 (bZ (⟨2,(max 0 (r.at_.xs.length -1:Int)),r.gen,⟨s1,iY r.at_.xs⟩⟩:dk)) 110] (fun w hw=>ah.mem (Mem.Hf (ah.mem hw:Mem _ [own aJ 1 s1 (iY r.at_.xs),ar b6 (bZ (⟨2,(max 0 (r.at_.xs.length -1:Int)),r.gen,⟨s1,iY r.at_.xs⟩⟩:dk)) 110] _))) ?_
   refine Gi ?_
   iterate 2 refine Gs ?_
   refine bp rfl trivial fun fP xU=> ?_
   refine ae (aU (v:=fP.val) rfl rfl) ?_
   refine ae (aU (v:= .int .i64 ((dZ (cA (⟨2,(max 0 (r.at_.xs.length -1:Int)),r.gen,⟨s1,iY r.at_.xs⟩⟩:dk)) n).2)) rfl rfl) ?_
   iterate 2 refine Gs ?_
   refine Gc ?_
   refine an (.inl rfl) (aZ rfl (al rfl) (al rfl)) (fun w1 hw=> ?_)
   exact⟨fP,by rw[hE];rfl,trivial,by
    have h1:Mem w [own aJ 1 fP (dZ (cA (⟨2,(max 0 (r.at_.xs.length -1:Int)),r.gen,⟨s1,iY r.at_.xs⟩⟩:dk)) n).1] _:=ah.mem hw
    rw[hE];exact h1⟩
instance adS{w0:World}{L:List aj}{r:cL}{n:Int}[hr:aS w0 L r]:bW Tryz.prog 123 w0 L [.agg (cn r), .int .i64 n] (Sv) (fun zz=> .tuple #[zz.val, .int .i64 ((dn (cM r) n).2)]) (fun zz=>own aJ 1 zz (dn (cM r) n).1::L) (fun zz=>True) (True):=⟨fun hp w hw=>(SZ w r n (hr.h w hw)).mono fun e w' ⟨x,h1,h2,h3⟩=>⟨x,h1,h2,hw.call h3⟩⟩
open Go.aL Go.Kb
open Go.RowKit
theorem S0(w:World)(xb:Nat)(xc:Cp)(xa:Sl Int)(xg:UInt64)(xl:Int)(xy:Bool)(dV:w.heap[xb]? =Option.some (.cells (aR (⟨⟨xc,xa,xg,xl⟩,xy⟩:aV)) 141 (0,0)))(dr:Deep.bk (hp w) xc):Calls Tryz.prog 87 #[.pointer (some ⟨xb,0,none⟩)] w fun e w'=>e= .returned (.int .i64 (kK (cv xc):Nat))∧Mem w [] w':=by
 have ra:od w xb (aR (⟨⟨xc,xa,xg,xl⟩,xy⟩:aV)) 141:=⟨dV⟩
 have rb:bT w xc:=⟨dr⟩
 have fJ:=dr.1.1.bd
 have cO:(cv xc).blocks.length=xc.blocks.xs.length:=dH _
 refine aW (args:=[_]) Tryz.func87 rfl Tryz.ntmps87 rfl ?_
 change Cw _ _ _ _ _ [(0, .pointer (some ⟨xb,0,none⟩))] []
 refine Gc ?_
 refine Gs ?_
 refine Gc ?_
 refine Gs ?_
 refine Gc ?_
 iterate 5 refine Gs ?_
 refine ae (Ry.to (v':=xc.blocks.sv.val) (lE rfl) rfl) ?_
 iterate 2 refine Gs ?_
 refine Gc ?_
 refine bK (X:=Nat) (fun zz=>[(13, .int .i64 (zz:Nat)),(3, .int .i64 ((((fm xc.blocks.xs).take zz).filter fun b=>b.bad).length:Nat)),(11,xc.blocks.sv.val),(12, .int .i64 (xc.blocks.xs.length:Nat))]) (fun zz=>[]) (fun zz=>zz≤xc.blocks.xs.length) (fun zz=>xc.blocks.xs.length -zz) 0 (Nat.zero_le _) (Sub.cons rfl (Sub.cons rfl (Sub.cons rfl (Sub.cons rfl (Sub.nil _))))) (fun w hw=>ah.mem hw) ?_
 rintro i bb
 refine Gc ?_
 refine Gs ?_
 refine Gc ?_
 refine aq rfl (fun h0=> ?_) (fun h0=> ?_)
 ·
  replace h0:=bz h0
  obtain⟨B,hB⟩:=get_some (xs:=xc.blocks.xs) (i:=i) (by omega)
  have pg:Mb B xc.blocks:=⟨List.mem_of_getElem? hB⟩
  have dN:=O1 (fK hB)
  have hle:(((fm xc.blocks.xs).take i).filter fun b=>b.bad).length≤i:=Nat.le_trans (List.length_filter_le _ _) (by rw[List.length_take];omega)
  refine Gc ?_
  refine ae (aX rfl rfl i rfl (by omega)) ?_
  refine ae (fH rfl i hB rfl) ?_
  have S1:Mb B xc.blocks:=⟨List.mem_of_getElem? hB⟩
  refine bx fun b5=> ?_
  refine Gs ?_
  refine Gc ?_
  iterate 2 refine Gs ?_
  refine Gc ?_
  refine aq rfl (fun h1=> ?_) (fun h1=> ?_)
  ·
   replace h1:=bz h1
   rw[if_pos (show(bv B).bad=true from h1)]at dN
   refine Gi ?_
   iterate 3 refine Gs ?_
   refine Gc ?_
   iterate 2 refine Gs ?_
   refine Gi ?_
   exact bh (x:=(i)) (i+1) (by first|omega|(simp only[];omega)) (by first|omega|(simp only[];omega)) (Sub.cons rfl (Sub.cons (look_eq rfl (by rw[dN];rfl)) (Sub.cons rfl (Sub.cons rfl (Sub.nil _))))) (fun w hw=>ah.mem hw)
  ·
   replace h1:=bz h1
   rw[if_neg (show ¬(bv B).bad=true by rw[show(bv B).bad=B.bad from rfl,h1];simp)]at dN
   refine Gc ?_
   iterate 2 refine Gs ?_
   refine Gi ?_
   exact bh (x:=(i)) (i+1) (by first|omega|(simp only[];omega)) (by first|omega|(simp only[];omega)) (Sub.cons rfl (Sub.cons (look_eq rfl (by rw[dN,Nat.add_zero])) (Sub.cons rfl (Sub.cons rfl (Sub.nil _))))) (fun w hw=>ah.mem hw)
 ·
  replace h0:=bz h0
  obtain rfl:i=xc.blocks.xs.length:=by omega
  have hz:kK (cv xc)=(((fm xc.blocks.xs).take xc.blocks.xs.length).filter fun b=>b.bad).length:=by rw[←cO];exact congrArg (fun l:List BV=>(l.filter fun b=>b.bad).length) (List.take_length).symm
  refine Gc ?_
  iterate 2 refine Gs ?_
  refine Gc ?_
  refine an (.inl rfl) (aK rfl (al rfl)) (fun w1 hw=> ?_)
  exact⟨congrArg (fun b=>Ending.returned (Value.int .i64 b)) (by rw[hz]),ah.mem hw⟩
instance adT{w0:World}{L:List aj}{xb:Nat}{xc:Cp}{xa:Sl Int}{xg:UInt64}{xl:Int}{xy:Bool}[dV:kx w0 L xb (aR (⟨⟨xc,xa,xg,xl⟩,xy⟩:aV)) 141][dr:aS w0 L xc]:bU Tryz.prog 87 w0 L [.pointer (some ⟨xb,0,none⟩)] (.int .i64 (kK (cv xc):Nat)) (True):=⟨fun hp w hw=>S0 w xb xc xa xg xl xy (dV.h w hw) (dr.h w hw)⟩
theorem S2(w:World)(xb:Nat)(xc:Cp)(xa:Sl Int)(xg:UInt64)(xl:Int)(xy:Bool)(b:Int)(dV:w.heap[xb]? =Option.some (.cells (aR (⟨⟨xc,xa,xg,xl⟩,xy⟩:aV)) 141 (0,0)))(dr:Deep.bk (hp w) xc)(ba:bg (cv xc)=true∧0≤b∧b<(cv xc).blocks.length):Calls Tryz.prog 124 #[.pointer (some ⟨xb,0,none⟩), .int .i64 b] w fun e w'=>e= .returned (.int .i64 (fy (cv xc) b))∧Mem w [] w':=by
 have ra:od w xb (aR (⟨⟨xc,xa,xg,xl⟩,xy⟩:aV)) 141:=⟨dV⟩
 have rb:bT w xc:=⟨dr⟩
 obtain⟨hk,xV,xW⟩:=ba
 have kv:dK xc:=pT hk
 have cO:(cv xc).blocks.length=xc.blocks.xs.length:=dH _
 obtain⟨B,hB⟩:=get_some (xs:=xc.blocks.xs) (i:=b.toNat) (by omega)
 have pg:Mb B xc.blocks:=⟨List.mem_of_getElem? hB⟩
 have dx:=na hB
 have eu:=eM.1 ((dE.1 hk).2.2.2.2 (bv B) (List.mem_of_getElem? (fK hB)))
 have fB:=ik.1 (dE.1 hk).1
 have nv:(aO (cv xc) b).used=B.used:=by rw[dx];rfl
 simp only[bv,cv]at eu fB
 refine aW (args:=[_,_]) Tryz.func124 rfl Tryz.ntmps124 rfl ?_
 change Cw _ _ _ _ _ [(0, .pointer (some ⟨xb,0,none⟩)),(1, .int .i64 b)] []
 refine Gc ?_
 refine Gs ?_
 refine Gc ?_
 iterate 5 refine Gs ?_
 refine ae (Ry.to (v':=xc.blocks.sv.val) (lE rfl) rfl) ?_
 refine Gs ?_
 refine ae (aX rfl rfl b.toNat (by omega) (by omega)) ?_
 refine ae (fH rfl b.toNat hB rfl) ?_
 have AE:Mb B xc.blocks:=⟨List.mem_of_getElem? hB⟩
 refine bx fun b5=> ?_
 refine Gs ?_
 refine Gc ?_
 iterate 2 refine Gs ?_
 refine Gc ?_
 refine aq rfl (fun h0=> ?_) (fun h0=> ?_)
 ·
  replace h0:=bz h0
  refine Gc ?_
  refine Gs ?_
  refine Gc ?_
  refine an (.inl rfl) (aK rfl (al rfl)) (fun w1 hw=> ?_)
  exact⟨congrArg (fun b=>Ending.returned (Value.int .i64 b)) ((by rw[fy,dx,if_pos (show(bv B).bad=true from h0)])),ah.mem hw⟩
 ·
  replace h0:=bz h0
  refine Gc ?_
  refine eF (by kernel_rfl) (by kernel_rfl) ?_
  iterate 5 refine Gq ?_
  refine aT (Ry.to (v':= .int .i64 xc.ag) (lE rfl) rfl) ?_
  iterate 4 refine Gq ?_
  refine Gc ?_
  refine an (.inl rfl) (aK rfl (al rfl)) (fun w1 hw=> ?_)
  exact⟨congrArg (fun b=>Ending.returned (Value.int .i64 b)) ((by rw[fy,dx,if_neg (show ¬(bv B).bad=true by rw[show(bv B).bad=B.bad from rfl,h0];simp)];rfl)),ah.mem hw⟩
instance adU{w0:World}{L:List aj}{xb:Nat}{xc:Cp}{xa:Sl Int}{xg:UInt64}{xl:Int}{xy:Bool}{b:Int}[dV:kx w0 L xb (aR (⟨⟨xc,xa,xg,xl⟩,xy⟩:aV)) 141][dr:aS w0 L xc]:bU Tryz.prog 124 w0 L [.pointer (some ⟨xb,0,none⟩), .int .i64 b] (.int .i64 (fy (cv xc) b)) (bg (cv xc)=true∧0≤b∧b<(cv xc).blocks.length):=⟨fun hp w hw=>S2 w xb xc xa xg xl xy b (dV.h w hw) (dr.h w hw) hp⟩
theorem S3(w:World)(er:Int):Calls Tryz.prog 172 #[.int .i64 er] w fun e w'=>e= .returned (.int .i64 (kp er))∧Mem w [] w':=by
 refine aW (args:=[_]) Tryz.func172 rfl Tryz.ntmps172 rfl ?_
 change Cw _ _ _ _ _ [(0, .int .i64 er)] []
 refine Gc ?_
 refine Gs ?_
 refine Gc ?_
 iterate 2 refine Gs ?_
 refine Gc ?_
 refine aq rfl (fun h0=> ?_) (fun h0=> ?_)
 ·
  replace h0:=bz h0
  refine Gc ?_
  refine Gs ?_
  refine Gc ?_
  refine an (.inl rfl) (aK rfl (al rfl)) (fun w1 hw=> ?_)
  exact⟨congrArg (fun b=>Ending.returned (Value.int .i64 b)) ((by rw[kp,if_pos h0])),ah.mem hw⟩
 ·
  replace h0:=bz h0
  refine Gc ?_
  iterate 2 refine Gs ?_
  refine Gc ?_
  refine an (.inl rfl) (aK rfl (al rfl)) (fun w1 hw=> ?_)
  exact⟨congrArg (fun b=>Ending.returned (Value.int .i64 b)) ((by rw[kp,if_neg h0])),ah.mem hw⟩
instance adV{w0:World}{L:List aj}{er:Int}:bU Tryz.prog 172 w0 L [.int .i64 er] (.int .i64 (kp er)) (True):=⟨fun hp w hw=>S3 w er⟩
theorem S4(w:World)(xb:Nat)(xc:Cp)(xa:Sl Int)(xg:UInt64)(xl:Int)(xy:Bool)(dV:w.heap[xb]? =Option.some (.cells (aR (⟨⟨xc,xa,xg,xl⟩,xy⟩:aV)) 141 (0,0)))(dr:Deep.bk (hp w) xc)(ba:xg.toNat<281474976710656):Calls Tryz.prog 167 #[.pointer (some ⟨xb,0,none⟩)] w fun e w'=>e= .returned (.bool (vI xg.toNat))∧Mem w [] w':=by
 have ra:od w xb (aR (⟨⟨xc,xa,xg,xl⟩,xy⟩:aV)) 141:=⟨dV⟩
 have rb:bT w xc:=⟨dr⟩
 refine aW (args:=[_]) Tryz.func167 rfl Tryz.ntmps167 rfl ?_
 change Cw _ _ _ _ _ [(0, .pointer (some ⟨xb,0,none⟩))] []
 refine Gc ?_
 refine Gs ?_
 refine Gc ?_
 iterate 4 refine Gs ?_
 refine ae (Ry.to (v':= .int .u64 (xg.toNat:Nat)) (lE rfl) rfl) ?_
 refine ae (uR (p:=xg.toNat) (q:=2) rfl rfl rfl rfl (by simp only[nb];omega)) ?_
 iterate 2 refine Gs ?_
 refine Gc ?_
 refine an (.inl rfl) (aK rfl (al rfl)) (fun w1 hw=> ?_)
 exact⟨congrArg (fun b=>Ending.returned (Value.bool b)) (by rw[vI];congr 1;simp only[eq_iff_iff];omega),ah.mem hw⟩
instance adW{w0:World}{L:List aj}{xb:Nat}{xc:Cp}{xa:Sl Int}{xg:UInt64}{xl:Int}{xy:Bool}[dV:kx w0 L xb (aR (⟨⟨xc,xa,xg,xl⟩,xy⟩:aV)) 141][dr:aS w0 L xc]:bU Tryz.prog 167 w0 L [.pointer (some ⟨xb,0,none⟩)] (.bool (vI xg.toNat)) (xg.toNat<281474976710656):=⟨fun hp w hw=>S4 w xb xc xa xg xl xy (dV.h w hw) (dr.h w hw) hp⟩
theorem S5(w:World)(xb:Nat)(xc:Cp)(xa:Sl Int)(xg:UInt64)(xl:Int)(xy:Bool)(b:Int)(dV:w.heap[xb]? =Option.some (.cells (aR (⟨⟨xc,xa,xg,xl⟩,xy⟩:aV)) 141 (0,0)))(dr:Deep.bk (hp w) xc)(ba:bg (cv xc)=true∧0≤b∧b<(cv xc).blocks.length):Calls Tryz.prog 144 #[.pointer (some ⟨xb,0,none⟩), .int .i64 b] w fun e w'=>e= .returned (.int .u64 ((l6 (cv xc) b):Nat))∧Mem w [] w':=by
 have ra:od w xb (aR (⟨⟨xc,xa,xg,xl⟩,xy⟩:aV)) 141:=⟨dV⟩
 have rb:bT w xc:=⟨dr⟩
 obtain⟨hk,xV,xW⟩:=ba
 have kv:dK xc:=pT hk
 have cO:(cv xc).blocks.length=xc.blocks.xs.length:=dH _
 obtain⟨B,hB⟩:=get_some (xs:=xc.blocks.xs) (i:=b.toNat) (by omega)
 have pg:Mb B xc.blocks:=⟨List.mem_of_getElem? hB⟩
 have dx:=na hB
 have eu:=eM.1 ((dE.1 hk).2.2.2.2 (bv B) (List.mem_of_getElem? (fK hB)))
 have fB:=ik.1 (dE.1 hk).1
 have nv:(aO (cv xc) b).used=B.used:=by rw[dx];rfl
 simp only[bv,cv]at eu fB
 have fA:=fk B.ag.xs
 have S6:l6 (cv xc) b=p6 (aE B.ag.xs):=by rw[l6,dx];rfl
 refine aW (args:=[_,_]) Tryz.func144 rfl Tryz.ntmps144 rfl ?_
 change Cw _ _ _ _ _ [(0, .pointer (some ⟨xb,0,none⟩)),(1, .int .i64 b)] []
 refine Gc ?_
 refine Gs ?_
 refine Gc ?_
 refine Gs ?_
 refine Gc ?_
 iterate 5 refine Gs ?_
 refine ae (Ry.to (v':=xc.blocks.sv.val) (lE rfl) rfl) ?_
 refine Gs ?_
 refine ae (aX rfl rfl b.toNat (by omega) (by omega)) ?_
 refine ae (aA rfl rfl) ?_
 refine ae (bn (j:=0) rfl b.toNat hB rfl (by decide)) ?_
 iterate 2 refine Gs ?_
 refine Gc ?_
 refine bK (X:=Nat) (fun zz=>[(21, .int .i64 (zz:Nat)),(5, .int .u64 ((p6 ((aE B.ag.xs).take zz)):Nat)),(19,B.ag.sv.val),(20, .int .i64 (B.ag.xs.length:Nat))]) (fun zz=>[]) (fun zz=>zz≤B.ag.xs.length) (fun zz=>B.ag.xs.length -zz) 0 (Nat.zero_le _) (Sub.cons rfl (Sub.cons rfl (Sub.cons rfl (Sub.cons rfl (Sub.nil _))))) (fun w hw=>ah.mem hw) ?_
 rintro i bb
 refine Gc ?_
 refine Gs ?_
 refine Gc ?_
 refine aq rfl (fun h0=> ?_) (fun h0=> ?_)
 ·
  replace h0:=bz h0
  obtain⟨y,hy⟩:=get_some (xs:=B.ag.xs) (i:=i) (by omega)
  have sM:Mb y B.ag:=⟨List.mem_of_getElem? hy⟩
  have dN:=O0 (ib hy)
  have uu:=Dg ((aE B.ag.xs).take i)
  have q6:=H7 y.xs
  refine Gc ?_
  refine ae (aX rfl rfl i rfl (by omega)) ?_
  refine ae (bn (j:=0) rfl i hy rfl (by decide)) ?_
  refine Gs ?_
  refine Gc ?_
  refine Gs ?_
  refine bp rfl trivial fun dg oh=> ?_
  have mN:dg.gen.toNat=(bJ y.xs).1.gen:=congrArg RV.gen oh
  refine Gs ?_
  refine ae (aU (v:= .agg (cn dg)) rfl rfl) ?_
  refine ae (aU (v:= .int .i64 ((bJ y.xs).2)) rfl rfl) ?_
  refine bx fun b8=> ?_
  iterate 2 refine Gs ?_
  refine Gc ?_
  iterate 2 refine Gs ?_
  refine Gc ?_
  refine aq rfl (fun h1=> ?_) (fun h1=> ?_)
  ·
   replace h1:=bz h1
   have hr:qR y.xs=dg.gen.toNat:=by rw[qR,if_pos h1,←mN]
   refine Gi ?_
   iterate 3 refine Gs ?_
   refine ae (tl rfl rfl) ?_
   refine Gs ?_
   refine Gc ?_
   iterate 2 refine Gs ?_
   refine Gi ?_
   exact bh (x:=(i)) (i+1) (by first|omega|(simp only[];omega)) (by first|omega|(simp only[];omega)) (Sub.cons rfl (Sub.cons (look_eq rfl (by rw[dN,hr];congr 1;omega)) (Sub.cons rfl (Sub.cons rfl (Sub.nil _))))) (fun w hw=>ah.mem hw)
  ·
   replace h1:=bz h1
   have hr:qR y.xs=0:=by rw[qR,if_neg h1]
   refine Gc ?_
   iterate 2 refine Gs ?_
   refine Gi ?_
   exact bh (x:=(i)) (i+1) (by first|omega|(simp only[];omega)) (by first|omega|(simp only[];omega)) (Sub.cons rfl (Sub.cons (look_eq rfl (by rw[dN,hr];congr 1;omega)) (Sub.cons rfl (Sub.cons rfl (Sub.nil _))))) (fun w hw=>ah.mem hw)
 ·
  replace h0:=bz h0
  obtain rfl:i=B.ag.xs.length:=by omega
  have hz:p6 (aE B.ag.xs)=(p6 ((aE B.ag.xs).take B.ag.xs.length)):=by rw[←fA,List.take_length]
  refine Gc ?_
  iterate 2 refine Gs ?_
  refine Gc ?_
  refine an (.inl rfl) (aK rfl (al rfl)) (fun w1 hw=> ?_)
  exact⟨by rw[S6,hz],ah.mem hw⟩
instance adX{w0:World}{L:List aj}{xb:Nat}{xc:Cp}{xa:Sl Int}{xg:UInt64}{xl:Int}{xy:Bool}{b:Int}[dV:kx w0 L xb (aR (⟨⟨xc,xa,xg,xl⟩,xy⟩:aV)) 141][dr:aS w0 L xc]:bU Tryz.prog 144 w0 L [.pointer (some ⟨xb,0,none⟩), .int .i64 b] (.int .u64 ((l6 (cv xc) b):Nat)) (bg (cv xc)=true∧0≤b∧b<(cv xc).blocks.length):=⟨fun hp w hw=>S5 w xb xc xa xg xl xy b (dV.h w hw) (dr.h w hw) hp⟩
theorem S7(w:World)(xb:Nat)(xc:Cp)(xa:Sl Int)(xg:UInt64)(xl:Int)(xy:Bool)(b:Int)(dV:w.heap[xb]? =Option.some (.cells (aR (⟨⟨xc,xa,xg,xl⟩,xy⟩:aV)) 141 (0,0)))(dr:Deep.bk (hp w) xc)(ba:bg (cv xc)=true∧0≤b∧b<(cv xc).blocks.length):Calls Tryz.prog 120 #[.pointer (some ⟨xb,0,none⟩), .int .i64 b] w fun e w'=>e= .returned (.bool (vH (cv xc) b))∧Mem w [] w':=by
 have ra:od w xb (aR (⟨⟨xc,xa,xg,xl⟩,xy⟩:aV)) 141:=⟨dV⟩
 have rb:bT w xc:=⟨dr⟩
 have S8:=ba
 obtain⟨hk,xV,xW⟩:=ba
 have kv:dK xc:=pT hk
 have cO:(cv xc).blocks.length=xc.blocks.xs.length:=dH _
 obtain⟨B,hB⟩:=get_some (xs:=xc.blocks.xs) (i:=b.toNat) (by omega)
 have pg:Mb B xc.blocks:=⟨List.mem_of_getElem? hB⟩
 have dx:=na hB
 have eu:=eM.1 ((dE.1 hk).2.2.2.2 (bv B) (List.mem_of_getElem? (fK hB)))
 have fB:=ik.1 (dE.1 hk).1
 have nv:(aO (cv xc) b).used=B.used:=by rw[dx];rfl
 simp only[bv,cv]at eu fB
 refine aW (args:=[_,_]) Tryz.func120 rfl Tryz.ntmps120 rfl ?_
 change Cw _ _ _ _ _ [(0, .pointer (some ⟨xb,0,none⟩)),(1, .int .i64 b)] []
 refine Gc ?_
 refine Gs ?_
 refine Gc ?_
 iterate 5 refine Gs ?_
 refine ae (Ry.to (v':=xc.blocks.sv.val) (lE rfl) rfl) ?_
 refine Gs ?_
 refine ae (aX rfl rfl b.toNat (by omega) (by omega)) ?_
 refine ae (fH rfl b.toNat hB rfl) ?_
 have AE:Mb B xc.blocks:=⟨List.mem_of_getElem? hB⟩
 refine bx fun b5=> ?_
 refine Gs ?_
 refine Gc ?_
 iterate 4 refine Gs ?_
 iterate 3 refine Gg ?_
 refine dG rfl rfl rfl (fun hg=>(Ry.yl (au (av hg rfl)))) ?_
 refine kU rfl rfl rfl (fun hg=>(Ry.yl (au rfl))) ?_
 refine kU rfl rfl rfl (fun hg=>(Ry.yl (bt (av hg rfl) rfl rfl))) ?_
 refine kU rfl rfl rfl (fun hg=>(Ry.yl (au (av hg rfl)))) ?_
 refine jF rfl rfl rfl (fun hg=>(Ry.yl (au rfl))) ?_
 refine jF rfl rfl rfl (fun hg=>(Ry.yl (au rfl))) ?_
 refine jF rfl rfl rfl (fun hg=>bX (cg (av hg rfl) (cg (av hg rfl) dO)) S8) ?_
 refine jF rfl rfl rfl (fun hg=>(Ry.yl (bt (av hg rfl) rfl rfl))) ?_
 refine kU rfl rfl rfl (fun hg=>(Ry.yl (nD (av hg rfl) (oA hg rfl) rfl))) ?_
 refine dG rfl rfl rfl (fun hg=>(Ry.yl (hM (av hg rfl) rfl (oA hg rfl)))) ?_
 iterate 2 refine Gs ?_
 refine Gc ?_
 refine an (.inl rfl) (aK rfl (al rfl)) (fun w1 hw=> ?_)
 exact⟨congrArg (fun b=>Ending.returned (Value.bool b)) ((by
  have e:decide ((0:Int)<((l6 (cv xc) b:Nat):Int))=decide (0<l6 (cv xc) b):=decide_eq_decide.2 (by omega)
  rw[vH,dx,e];rfl)),ah.mem hw⟩
instance adY{w0:World}{L:List aj}{xb:Nat}{xc:Cp}{xa:Sl Int}{xg:UInt64}{xl:Int}{xy:Bool}{b:Int}[dV:kx w0 L xb (aR (⟨⟨xc,xa,xg,xl⟩,xy⟩:aV)) 141][dr:aS w0 L xc]:bU Tryz.prog 120 w0 L [.pointer (some ⟨xb,0,none⟩), .int .i64 b] (.bool (vH (cv xc) b)) (bg (cv xc)=true∧0≤b∧b<(cv xc).blocks.length):=⟨fun hp w hw=>S7 w xb xc xa xg xl xy b (dV.h w hw) (dr.h w hw) hp⟩
theorem S9(w:World)(xb:Nat)(xc:Cp)(xa:Sl Int)(xg:UInt64)(xl:Int)(xy:Bool)(b:Int)(dV:w.heap[xb]? =Option.some (.cells (aR (⟨⟨xc,xa,xg,xl⟩,xy⟩:aV)) 141 (0,0)))(dr:Deep.bk (hp w) xc)(ba:bg (cv xc)=true∧2≤(cv xc).blocks.length∧(b=0∨b=1)):Calls Tryz.prog 122 #[.pointer (some ⟨xb,0,none⟩), .int .i64 b] w fun e w'=>e= .returned (.int .u64 ((fc (cv xc) b):Nat))∧Mem w [] w':=by
 have ra:od w xb (aR (⟨⟨xc,xa,xg,xl⟩,xy⟩:aV)) 141:=⟨dV⟩
 have rb:bT w xc:=⟨dr⟩
 obtain⟨hk,qa,JV⟩:=ba
 have uu:=Dg (aO (cv xc) (1 -b)).ag
 change l6 (cv xc) (1 -b)<_ at uu
 refine aW (args:=[_,_]) Tryz.func122 rfl Tryz.ntmps122 rfl ?_
 change Cw _ _ _ _ _ [(0, .pointer (some ⟨xb,0,none⟩)),(1, .int .i64 b)] []
 refine Gc ?_
 refine Gs ?_
 refine Gc ?_
 iterate 3 refine Gs ?_
 refine Gc ?_
 iterate 2 refine Gs ?_
 refine dQ (bX rfl ⟨hk,by omega,by omega⟩) ?_
 refine Gs ?_
 refine ae (Ry.to (v':= .int .u64 (((1 -b).toNat:Nat):Int)) (LF rfl (by omega) (by simp only[nb];omega)) (by congr 1;omega)) ?_
 refine ae (uR (p:=(l6 (cv xc) (1 -b))) (q:=((1 -b).toNat)) rfl rfl rfl rfl (by simp only[nb];omega)) ?_
 refine ae (tl rfl rfl) ?_
 refine Gs ?_
 refine Gc ?_
 refine an (.inl rfl) (aK rfl (al rfl)) (fun w1 hw=> ?_)
 exact⟨by rw[fc];congr 2;omega,ah.mem hw⟩
instance adZ{w0:World}{L:List aj}{xb:Nat}{xc:Cp}{xa:Sl Int}{xg:UInt64}{xl:Int}{xy:Bool}{b:Int}[dV:kx w0 L xb (aR (⟨⟨xc,xa,xg,xl⟩,xy⟩:aV)) 141][dr:aS w0 L xc]:bU Tryz.prog 122 w0 L [.pointer (some ⟨xb,0,none⟩), .int .i64 b] (.int .u64 ((fc (cv xc) b):Nat)) (bg (cv xc)=true∧2≤(cv xc).blocks.length∧(b=0∨b=1)):=⟨fun hp w hw=>S9 w xb xc xa xg xl xy b (dV.h w hw) (dr.h w hw) hp⟩
theorem Ta(w:World)(xb:Nat)(xc:Cp)(xa:Sl Int)(xg:UInt64)(xl:Int)(xy:Bool)(dV:w.heap[xb]? =Option.some (.cells (aR (⟨⟨xc,xa,xg,xl⟩,xy⟩:aV)) 141 (0,0)))(dr:Deep.bk (hp w) xc)(ba:bg (cv xc)=true∧2≤(cv xc).blocks.length∧(xl=0∨xl=1)):Calls Tryz.prog 151 #[.pointer (some ⟨xb,0,none⟩)] w fun e w'=>e= .returned (.int .i64 (sh (cv xc) xl))∧Mem w [] w':=by
 have ra:od w xb (aR (⟨⟨xc,xa,xg,xl⟩,xy⟩:aV)) 141:=⟨dV⟩
 have rb:bT w xc:=⟨dr⟩
 obtain⟨hk,qa,JV⟩:=ba
 have kv:dK xc:=pT hk
 have cO:(cv xc).blocks.length=xc.blocks.xs.length:=dH _
 obtain⟨Bo,eu⟩:=get_some (xs:=xc.blocks.xs) (i:=(1 -xl).toNat) (by omega)
 obtain⟨Bl,lA⟩:=get_some (xs:=xc.blocks.xs) (i:=xl.toNat) (by omega)
 have v9:=na eu
 have JW:=na lA
 refine aW (args:=[_]) Tryz.func151 rfl Tryz.ntmps151 rfl ?_
 change Cw _ _ _ _ _ [(0, .pointer (some ⟨xb,0,none⟩))] []
 refine Gc ?_
 refine Gs ?_
 refine Gc ?_
 refine eF (by kernel_rfl) (by kernel_rfl) ?_
 iterate 4 refine Gq ?_
 refine aT (Ry.to (v':= .int .i64 xl) (lE rfl) rfl) ?_
 iterate 4 refine Gq ?_
 refine aT (Ry.to (v':= .int .i64 xl) (lE rfl) rfl) ?_
 iterate 3 refine Gq ?_
 refine Gc ?_
 iterate 5 refine Gs ?_
 refine ae (Ry.to (v':=xc.blocks.sv.val) (lE rfl) rfl) ?_
 refine Gs ?_
 refine ae (aX rfl rfl ((1 -xl).toNat) (by omega) (by omega)) ?_
 refine ae (aA rfl rfl) ?_
 refine ae (bn (j:=3) rfl ((1 -xl).toNat) eu rfl (by decide)) ?_
 refine Gs ?_
 refine Gc ?_
 refine aq rfl (fun h0=> ?_) (fun h0=> ?_)
 ·
  replace h0:=bz h0
  refine Gc ?_
  iterate 2 refine Gs ?_
  refine dQ (bX rfl ⟨hk,by omega,by omega⟩) ?_
  refine Gs ?_
  refine Gc ?_
  refine an (.inl rfl) (aK rfl (al rfl)) (fun w1 hw=> ?_)
  exact⟨congrArg (fun b=>Ending.returned (Value.int .i64 b)) ((by rw[sh,v9,if_pos (show(bv Bo).bad=true from h0)])),ah.mem hw⟩
 ·
  replace h0:=bz h0
  refine Gc ?_
  iterate 5 refine Gs ?_
  refine ae (Ry.to (v':=xc.blocks.sv.val) (lE rfl) rfl) ?_
  refine Gs ?_
  refine ae (aX rfl rfl xl.toNat (by omega) (by omega)) ?_
  refine ae (aA rfl rfl) ?_
  refine ae (bn (j:=3) rfl xl.toNat lA rfl (by decide)) ?_
  refine Gs ?_
  iterate 2 refine Gg ?_
  refine dG rfl rfl rfl (fun hg=>bX (cg (av hg rfl) (cg (av hg rfl) dO)) ⟨hk,by omega,by omega⟩) ?_
  refine Gg ?_
  iterate 2 refine Gs ?_
  refine Gc ?_
  refine aq rfl (fun h1=> ?_) (fun h1=> ?_)
  ·
   replace h1:=bz h1
   refine Gc ?_
   iterate 2 refine Gs ?_
   refine dQ (bX rfl ⟨hk,by omega,by omega⟩) ?_
   refine Gs ?_
   refine Gc ?_
   refine an (.inl rfl) (aK rfl (al rfl)) (fun w1 hw=> ?_)
   exact⟨congrArg (fun b=>Ending.returned (Value.int .i64 b)) ((by rw[sh,v9,JW,if_neg (show ¬(bv Bo).bad=true by rw[show(bv Bo).bad=Bo.bad from rfl,h0];simp),if_pos ⟨h1.1,h1.2⟩])),ah.mem hw⟩
  ·
   replace h1:=bz h1
   refine Gc ?_
   iterate 5 refine Gs ?_
   refine ae (Ry.to (v':= .int .i64 xc.ag) (lE rfl) rfl) ?_
   refine Gs ?_
   refine Gc ?_
   refine an (.inl rfl) (aK rfl (al rfl)) (fun w1 hw=> ?_)
   exact⟨congrArg (fun b=>Ending.returned (Value.int .i64 b)) ((by
    rw[sh,v9,JW,if_neg (show ¬(bv Bo).bad=true by rw[show(bv Bo).bad=Bo.bad from rfl,h0];simp),if_neg]
    ·
     rfl
    ·
     rintro⟨g1,g2⟩
     rcases h1 with h|h
     ·
      exact absurd (h.symm.trans g1) (by simp)
     ·
      omega)),ah.mem hw⟩
instance ad0{w0:World}{L:List aj}{xb:Nat}{xc:Cp}{xa:Sl Int}{xg:UInt64}{xl:Int}{xy:Bool}[dV:kx w0 L xb (aR (⟨⟨xc,xa,xg,xl⟩,xy⟩:aV)) 141][dr:aS w0 L xc]:bU Tryz.prog 151 w0 L [.pointer (some ⟨xb,0,none⟩)] (.int .i64 (sh (cv xc) xl)) (bg (cv xc)=true∧2≤(cv xc).blocks.length∧(xl=0∨xl=1)):=⟨fun hp w hw=>Ta w xb xc xa xg xl xy (dV.h w hw) (dr.h w hw) hp⟩
open Go.aL Go.Kb
open Go.RowKit
theorem Tb(w:World)(c:Cp)(b:Int)(g:Int)(x:Sv)(xs:List UInt8)(hc:Deep.bk (hp w) c)(hx:bM aJ 1 (hp w) x xs)(ba:dK c):Calls Tryz.prog 149 #[.agg (aB c), .int .i64 b, .int .i64 g,x.val] w fun e w'=> ∃zz:Cp,e= .returned (.tuple #[.agg (aB zz), .int .i64 (kG (cv c) b g xs)])∧(cv zz=k8 (cv c) b g xs)∧Mem w [fz zz] w':=by
 have gy:bT w c:=⟨hc⟩
 have sI:Gv w x aJ 1 xs:=⟨hx⟩
 have kv:dK c:=ba
 obtain⟨kQ,kr,np⟩:=ba
 have o8:dJ=1099511627776:=rfl
 refine aW (args:=[_,_,_,_]) Tryz.func149 rfl Tryz.ntmps149 rfl ?_
 change Cw _ _ _ _ _ [(0, .agg (aB c)),(1, .int .i64 b),(2, .int .i64 g),(3,x.val)] []
 refine Gc ?_
 refine bL rfl fun b4=> ?_
 refine bx fun b8=> ?_
 refine Gs ?_
 refine Gc ?_
 refine Gs ?_
 refine bp rfl (by assumption) fun cf re=> ?_
 refine bx fun uy=> ?_
 refine Gs ?_
 refine Gc ?_
 iterate 5 refine Gs ?_
 iterate 2 refine Gg ?_
 iterate 2 refine Gs ?_
 iterate 4 refine Gg ?_
 iterate 2 refine Gs ?_
 iterate 5 refine Gg ?_
 iterate 2 refine Gs ?_
 iterate 3 refine Gg ?_
 refine Gs ?_
 refine Gc ?_
 refine aq rfl (fun h0=> ?_) (fun h0=> ?_)
 ·
  replace h0:=bz h0
  have hz: ¬qM (cv c) b g xs=true:=fun hk=>by
   obtain⟨k1,k2,k3,k4,k5⟩:=oS.1 hk
   rw[k1]at h0
   simp only[cv]at k3 k4 k5
   simp only[Bool.true_eq_false,false_or]at h0
   omega
  refine Gc ?_
  iterate 3 refine Gs ?_
  refine Gc ?_
  refine an (.inl rfl) (aZ rfl (bG rfl) (al rfl)) (fun w1 hw=> ?_)
  exact⟨cf,by rw[kG,if_neg hz],by rw[re,k8,if_neg (fun h=>hz h.1)],lZ cf (ah.mem hw)⟩
 ·
  replace h0:=bz h0
  have hk:qM (cv c) b g xs=true:=by
   cases k1:ko (cv c) b with
   |false=>rw[k1]at h0;simp at h0
   |true=>
    rw[k1]at h0
    simp only[Bool.true_eq_false,false_or]at h0
    exact oS.2 ⟨k1,by omega,by simp only[cv];omega,by simp only[cv];omega,by simp only[cv];omega⟩
  have hh:=(oS.1 hk).1
  have sH:=(lX.1 hh).2
  have cO:cf.blocks.xs.length=c.blocks.xs.length:=by have:=congrArg (fun v:CV=>v.blocks.length) re;simpa only[cv,dH]using this
  have xN:cf.ops=c.ops:=congrArg CV.ops re
  have mf:(cv c).blocks.length=c.blocks.xs.length:=dH _
  obtain⟨B,hB⟩:=get_some (xs:=cf.blocks.xs) (i:=b.toNat) (by omega)
  have lA:b.toNat<cf.blocks.xs.length:=(List.getElem?_eq_some_iff.1 hB).1
  have dx:bv B=aO (cv c) b:=by
   have h1:=zK hh
   have h2:=fK hB
   rw[show fm cf.blocks.xs=(cv c).blocks from congrArg CV.blocks re,h1]at h2
   exact(Option.some.inj h2).symm
  have eu:k7 c.ag c.size (bv B)=true:=by rw[dx];exact tO hh
  obtain⟨o1,o2,o3,o4,o5,o6⟩:=eM.1 eu
  have fB:=ik.1 (dE.1 (lX.1 hh).1).1
  have xO:=(dE.1 (lX.1 hh).1).2.1
  simp only[bv,cv]at o1 o2 o3 o4 o5 o6 fB xO
  have Jx:=fk B.ag.xs
  obtain⟨_,k2,k3,k4,k5⟩:=oS.1 hk
  simp only[cv]at k3 k4 k5
  refine Gc ?_
  iterate 2 refine Gs ?_
  refine Gc ?_
  refine aq rfl (fun h1=> ?_) (fun h1=> ?_)
  ·
   replace h1:=bz h1
   refine Gc ?_
   iterate 3 refine Gs ?_
   refine Gc ?_
   refine an (.inl rfl) (aZ rfl (bG rfl) (al rfl)) (fun w1 hw=> ?_)
   exact⟨cf,by rw[kG,if_pos hk,if_pos (show(cv c).off=true from h1)],by rw[re,k8,if_neg (fun h=>absurd (h1.symm.trans h.2.1) (by simp))],lZ cf (ah.mem hw)⟩
  ·
   replace h1:=bz h1
   have pn:(cv c).off=false:=h1
   refine Gc ?_
   iterate 3 refine Gs ?_
   refine ae (aX rfl rfl b.toNat (by omega) lA) ?_
   refine Gs ?_
   refine Gc ?_
   iterate 2 refine Gs ?_
   refine ae (aA rfl rfl) ?_
   refine ae (bn (j:=3) rfl b.toNat hB rfl (by decide)) ?_
   refine Gs ?_
   iterate 2 refine Gg ?_
   refine bD rfl rfl rfl (fun hg=>(Ry.yl (iV (av hg rfl)))) ?_
   refine bD rfl rfl rfl (fun hg=>(Ry.yl (aA (av hg rfl) rfl))) ?_
   refine bD rfl rfl rfl (fun hg=>(Ry.yl (bn (j:=1) (av hg rfl) b.toNat hB rfl (by decide)))) ?_
   refine Gg ?_
   refine Gs ?_
   refine Gc ?_
   refine aq rfl (fun h2=> ?_) (fun h2=> ?_)
   ·
    replace h2:=bz h2
    have fu:(aO (cv c) b).bad=true∨g≠(aO (cv c) b).used:=by rw[←dx];exact h2
    refine Gc ?_
    iterate 3 refine Gs ?_
    refine Gc ?_
    refine an (.inl rfl) (aZ rfl (bG rfl) (al rfl)) (fun w1 hw=> ?_)
    exact⟨cf,by rw[kG,if_pos hk,if_neg (by rw[pn];simp),if_pos fu],by rw[re,k8,if_neg (fun h=>fu.elim (fun g1=>absurd (g1.symm.trans h.2.2.1) (by simp)) (fun g1=>g1 h.2.2.2))],lZ cf (ah.mem hw)⟩
   ·
    replace h2:=bz h2
    have fu: ¬((aO (cv c) b).bad=true∨g≠(aO (cv c) b).used):=by
     rw[←dx]
     rintro(h|h)
     ·
      exact absurd (h2.1.symm.trans h) (by simp)
     ·
      exact h h2.2
    have hgu:g=B.used:=h2.2
    obtain⟨q,hq⟩:=get_some (xs:=(aE B.ag.xs)) (i:=g.toNat) (by omega)
    have yH:=o6 q (List.mem_of_getElem? hq)
    have cR:B.ag.xs≠[]:=fun e=>by
     have h9:(aE B.ag.xs).length=0:=by rw[e];rfl
     omega
    have mj:(cf.blocks.xs.set b.toNat ({B with used:=B.used+1}:Bk))[b.toNat]? =Option.some ({B with used:=B.used+1}:Bk):=List.getElem?_set_self lA
    have jJ:k8 (cv c) b g xs=pS (cv c) b g xs:=by
     rw[k8,if_pos ⟨hk,pn,by cases hb:(aO (cv c) b).bad with|false=>rfl|true=>exact absurd (.inl hb) fu,Decidable.not_not.1 fun h=>fu (.inr h)⟩]
    iterate 3 refine Gi ?_
    refine HC (pr:=fun rm:Sv=>rm.nil=false∧rm.sp=none∧B.ag.xs=cZ rm 0 (aE B.ag.xs)) (fun rm:Sv=>[own (bP (τ:=UInt8)) 1 B.ag.sv B.ag.xs,own aJ 1 rm (aE B.ag.xs).flatten,own bN 4 cf.blocks.sv cf.blocks.xs,aj.all ((cf.blocks.xs.eraseIdx b.toNat).map fun b:Bk=>dY b.ag),own cX 4 cf.bc.sv cf.bc.xs,ar uy (aB cf) 25,ar b8 (aB ep) 25,ar b4 (aB c) 25]) (fun w hw=>Hn hB cR (ah.mem hw)) fun rm sJ=> ?_
    obtain⟨hn,hs,wa⟩:=sJ
    have wb:B.ag.xs[g.toNat]? =Option.some ⟨(eV rm ((aE B.ag.xs).take g.toNat).flatten.length (((aE B.ag.xs).take g.toNat).flatten.length+q.length)),q⟩:=by rw[wa,rW,zO hq,Nat.zero_add]
    have JX: ∀r:List UInt8,r.length=q.length→B.ag.xs.map (fun x=>x.sv)=(cZ rm 0 ((aE B.ag.xs).set g.toNat r)).map (fun x=>x.sv):=fun r hr=>(congrArg (List.map fun x:Sl UInt8=>x.sv) wa).trans (Oc hq hr)
    refine Gi ?_
    refine Gs ?_
    refine dQ (bX rfl (by omega)) ?_
    refine Gs ?_
    refine ae (aU (v:= .agg (cX ((bR (cv c)).1))) rfl rfl) ?_
    refine ae (aU (v:= .bool ((bR (cv c)).2)) rfl rfl) ?_
    refine bx fun ql=> ?_
    iterate 2 refine Gs ?_
    refine Gc ?_
    iterate 4 refine Gs ?_
    refine dM (cs':=aB (⟨cf.ag,cf.size,cf.blocks,(cf.ops+1),cf.off,cf.bc⟩:Cp)) rfl rfl (by show 3<6;decide) (by first|rfl|exact Sv.one _) rfl ?_
    refine Gc ?_
    iterate 2 refine Gs ?_
    refine ae (aA rfl rfl) ?_
    refine ae (bn (j:=1) rfl b.toNat hB rfl (by decide)) ?_
    iterate 2 refine Gs ?_
    refine ae (aA rfl rfl) ?_
    refine jU (s:=cf.blocks.sv) (n:=1) (k:=b.toNat) (j:=1) (a:=B) (a':=({B with used:=B.used+1}:Bk)) (xs:=cf.blocks.xs) (enc:=bN) (c:=4) (v:= .int .i64 (B.used+1)) (by kernel_rfl) rfl rfl rfl hB (by simp[Value.cells,Value.oneCell']) (by rfl) (by decide) (by rfl) ?_
    refine Gc ?_
    iterate 2 refine Gs ?_
    refine ae (aA rfl rfl) ?_
    refine ae (Ry.to (v':=B.ag.sv.val) (bn (j:=0) rfl b.toNat mj rfl (by decide)) rfl) ?_
    refine Gs ?_
    refine ae (aX rfl rfl g.toNat (by omega) (by omega)) ?_
    refine ae (Ry.to (v':=(eV rm ((aE B.ag.xs).take g.toNat).flatten.length (((aE B.ag.xs).take g.toNat).flatten.length+q.length)).val) (bn (j:=0) rfl g.toNat wb rfl (by decide)) rfl) ?_
    refine Gs ?_
    refine NW (D:=(eV rm ((aE B.ag.xs).take g.toNat).flatten.length (((aE B.ag.xs).take g.toNat).flatten.length+q.length))) (S:=x) (rm:=rm) (k:=((aE B.ag.xs).take g.toNat).flatten.length) (xs:=(aE B.ag.xs).flatten) (ys:=xs) rfl hn hs rfl (by rw[vp (by omega)];omega) rfl (by decide) hn (by omega) (by simp only[eV];omega) (by have:=xq hq;have:=xr (aE B.ag.xs) (g.toNat+1);omega) ?_
    refine Gc ?_
    iterate 2 refine Gs ?_
    refine Gc ?_
    refine aq rfl (fun h3=> ?_) (fun h3=> ?_)
    ·
     replace h3:=bz h3
     have kt:vi (cv c) xs=xs:=by rw[vi,if_neg (by rw[h3];simp)]
     refine Gc ?_
     iterate 3 refine Gs ?_
     refine Gc ?_
     refine an (.inl rfl) (aZ rfl (bG rfl) (al rfl)) (fun w1 hw=> ?_)
     exact⟨(⟨cf.ag,cf.size,⟨cf.blocks.sv,cf.blocks.xs.set b.toNat ⟨⟨B.ag.sv,cZ rm 0 ((aE B.ag.xs).set g.toNat xs)⟩,B.used+1,B.bE,B.bad⟩⟩,cf.ops+1,cf.off,cf.bc⟩:Cp),by rw[kG,if_pos hk,if_neg (by rw[pn];simp),if_neg fu,if_neg (by rw[h3];simp)];rfl,by rw[Hs re dx,jJ,pS,kt,h3,Bool.false_and,show cf.off=(cv c).off from congrArg CV.off re,pn],(by
      rw[←zN hq (by omega)]at hw
      exact lZ (⟨cf.ag,cf.size,⟨cf.blocks.sv,cf.blocks.xs.set b.toNat ⟨⟨B.ag.sv,cZ rm 0 ((aE B.ag.xs).set g.toNat xs)⟩,B.used+1,B.bE,B.bad⟩⟩,cf.ops+1,cf.off,cf.bc⟩:Cp) (zP (rm:=rm) (l:=(aE B.ag.xs).set g.toNat xs) (B:=({B with used:=B.used+1}:Bk)) (B':=⟨⟨B.ag.sv,cZ rm 0 ((aE B.ag.xs).set g.toNat xs)⟩,B.used+1,B.bE,B.bad⟩) (sp:=B.ag.sv) (ps:=B.ag.xs) lA (JX _ (by omega)) hn rfl rfl (ah.mem hw)))⟩
    ·
     replace h3:=bz h3
     have kt:vi (cv c) xs=cU (~~~(bR (cv c)).1.mask) xs:=by rw[vi,if_pos h3]
     have mL:cU (~~~(bR (cv c)).1.mask) (xs.take 0)++xs.drop 0=xs:=by simp[cU]
     refine Gc ?_
     iterate 3 refine Gs ?_
     refine Gc ?_
     refine bK (X:=Nat) (fun zz=>[(96, .int .i64 (zz:Nat)),(2, .int .i64 g),(8, .pointer (some ⟨b8,0,none⟩)),(10, .pointer (some ⟨uy,0,none⟩)),(11, .pointer (some ⟨cf.blocks.sv.b,cf.blocks.sv.o+b.toNat*4,none⟩)),(12, .pointer (some ⟨ql,0,none⟩)),(95, .int .i64 c.size)]) (fun zz=>[ar ql (cX (bR (cv c)).1) 94,own (bP (τ:=UInt8)) 1 B.ag.sv B.ag.xs,own aJ 1 rm ((aE B.ag.xs).set g.toNat (cU (~~~(bR (cv c)).1.mask) (xs.take zz)++xs.drop zz)).flatten,own bN 4 cf.blocks.sv (cf.blocks.xs.set b.toNat ({B with used:=B.used+1}:Bk)),aj.all ((cf.blocks.xs.eraseIdx b.toNat).map fun b:Bk=>dY b.ag),own cX 4 cf.bc.sv cf.bc.xs,ar uy (aB (⟨cf.ag,cf.size,cf.blocks,(cf.ops+1),cf.off,cf.bc⟩:Cp)) 25,ar b8 (aB ep) 25,ar b4 (aB c) 25]) (fun zz=>zz≤xs.length) (fun zz=>xs.length -zz) 0 (Nat.zero_le _) (Sub.cons rfl (Sub.cons rfl (Sub.cons rfl (Sub.cons rfl (Sub.cons rfl (Sub.cons rfl (Sub.cons rfl (Sub.nil _)))))))) (fun w hw=>by
      rw[mL,zN hq (by omega)];exact ah.mem hw) ?_
     rintro i bb
     refine Gc ?_
     refine Gs ?_
     refine Gc ?_
     refine aq rfl (fun h4=> ?_) (fun h4=> ?_)
     ·
      replace h4:=bz h4
      have q6:(cU (~~~(bR (cv c)).1.mask) (xs.take i)++xs.drop i).length=xs.length:=CN (by omega)
      obtain⟨z,hz⟩:=get_some (xs:=xs) (i:=i) (by omega)
      have n8:((aE B.ag.xs).set g.toNat (cU (~~~(bR (cv c)).1.mask) (xs.take i)++xs.drop i)).flatten[((aE B.ag.xs).take g.toNat).flatten.length+i]? =Option.some z:=by
       have h9:=vo (l:=(aE B.ag.xs).set g.toNat (cU (~~~(bR (cv c)).1.mask) (xs.take i)++xs.drop i)) (i:=g.toNat) (j:=i) (List.getElem?_set_self (by omega)) (by omega)
       rw[CM]at h9
       rw[h9,Ht (by omega),hz]
      refine Gc ?_
      iterate 2 refine Gs ?_
      refine Gc ?_
      refine fw [15,1009] [[],[],[],[],[],[],[],[],[],[],[],[],[],[9],[9],[9]] [0,1,2,3,4,5,6,7,8,9,10,11,12,13,14,15] [own (bP (τ:=UInt8)) 1 B.ag.sv B.ag.xs,own bN 4 cf.blocks.sv (cf.blocks.xs.set b.toNat ({B with used:=B.used+1}:Bk)),ar ql (cX (bR (cv c)).1) 94] (fun _ hw=>ah.mem hw) (by kernel_rfl) (by kernel_rfl) ?_
      refine ak rfl (au rfl) ?_
      refine ak rfl (iV rfl) ?_
      refine ak rfl (aA rfl rfl) ?_
      refine ak rfl (Ry.to (v':=B.ag.sv.val) (bn (j:=0) rfl b.toNat mj rfl (by decide)) rfl) ?_
      refine ak rfl (au rfl) ?_
      refine ak rfl (aX rfl rfl g.toNat (by omega) (by omega)) ?_
      refine ak rfl (Ry.to (v':=(eV rm ((aE B.ag.xs).take g.toNat).flatten.length (((aE B.ag.xs).take g.toNat).flatten.length+q.length)).val) (bn (j:=0) rfl g.toNat wb rfl (by decide)) rfl) ?_
      refine ak rfl (au rfl) ?_
      obtain⟨Tc,Td⟩:=get_some (xs:=q) (i:=i) (by omega)
      refine ak rfl (jk (s:=(eV rm ((aE B.ag.xs).take g.toNat).flatten.length (((aE B.ag.xs).take g.toNat).flatten.length+q.length))) (i:=i) rfl rfl rfl (zQ hn hs (by omega)) (by simp only[eV];omega)) ?_
      refine jo rfl (bn (s:=rm) (enc:=aJ) (c:=1) (xs:=((aE B.ag.xs).set g.toNat (cU (~~~(bR (cv c)).1.mask) (xs.take i)++xs.drop i)).flatten) (a:=z) (j:=0) (v:= .int .u8 z.toNat) rfl (((aE B.ag.xs).take g.toNat).flatten.length+i) n8 (by rw[vp (by omega)];omega) (by decide)) ?_
      refine ak rfl (aA (o':=3) rfl rfl) ?_
      refine ak rfl (bl rfl) ?_
      refine ak rfl (N3 rfl) ?_
      refine ak rfl (Ho rfl rfl) ?_
      obtain⟨ad1,ad3⟩:=get_some (xs:=q) (i:=i) (by omega)
      refine ak rfl (jk (s:=(eV rm ((aE B.ag.xs).take g.toNat).flatten.length (((aE B.ag.xs).take g.toNat).flatten.length+q.length))) (i:=i) rfl rfl rfl (zQ hn hs (by omega)) (by simp only[eV];omega)) ?_
      refine cK rfl (tJ (s:=rm) (n:=1) (k:=((aE B.ag.xs).take g.toNat).flatten.length+i) (j:=0) (a:=z) (a':=z|||(~~~(bR (cv c)).1.mask)) (xs:=((aE B.ag.xs).set g.toNat (cU (~~~(bR (cv c)).1.mask) (xs.take i)++xs.drop i)).flatten) (enc:=aJ) (c:=1) (v:= .int .u8 (z|||(~~~(bR (cv c)).1.mask)).toNat) (by kernel_rfl) rfl rfl (by rw[vp (by omega)];omega) n8 (by simp[Value.cells,Value.oneCell']) rfl (by omega) (by rfl) ⟨fun _ hw=>ah.mem hw,?_⟩)
      refine Gc ?_
      iterate 2 refine Gs ?_
      refine Gi ?_
      exact bh (x:=(i)) (i+1) (by first|omega|(simp only[];omega)) (by first|omega|(simp only[];omega)) (Sub.cons rfl (Sub.cons rfl (Sub.cons rfl (Sub.cons rfl (Sub.cons rfl (Sub.cons rfl (Sub.cons rfl (Sub.nil _)))))))) (fun w hw=>by
       rw[Hu hq hz];exact ah.mem hw)
     ·
      replace h4:=bz h4
      obtain rfl:i=xs.length:=by omega
      have AL:cU (~~~(bR (cv c)).1.mask) (xs.take xs.length)++xs.drop xs.length=cU (~~~(bR (cv c)).1.mask) xs:=by rw[List.take_length,List.drop_length,List.append_nil]
      refine Gc ?_
      iterate 3 refine Gs ?_
      refine ae (aU (v:= .bool (((bR (cv c)).1).cut)) rfl rfl) ?_
      refine ae (aU (v:= .int .i64 (mG ((bR (cv c)).1))) rfl rfl) ?_
      iterate 2 refine Gs ?_
      refine Gc ?_
      iterate 2 refine Gs ?_
      refine dM (cs':=aB (⟨cf.ag,cf.size,cf.blocks,(cf.ops+1),((bR (cv c)).1).cut,cf.bc⟩:Cp)) rfl rfl (by show 4<6;decide) (by first|rfl|exact Sv.one _) rfl ?_
      refine Gc ?_
      iterate 4 refine Gs ?_
      refine Gc ?_
      refine an (.inl rfl) (aZ rfl (bG rfl) (al rfl)) (fun w1 hw=> ?_)
      exact⟨(⟨cf.ag,cf.size,⟨cf.blocks.sv,cf.blocks.xs.set b.toNat ⟨⟨B.ag.sv,cZ rm 0 ((aE B.ag.xs).set g.toNat (cU (~~~(bR (cv c)).1.mask) xs))⟩,B.used+1,B.bE,B.bad⟩⟩,cf.ops+1,(bR (cv c)).1.cut,cf.bc⟩:Cp),by rw[kG,if_pos hk,if_neg (by rw[pn];simp),if_neg fu,if_pos h3];rfl,by rw[Hs re dx,jJ,pS,kt,h3,Bool.true_and],(by
       rw[AL]at hw
       have hhl:(cU (~~~(bR (cv c)).1.mask) xs).length=xs.length:=by rw[cU,List.length_map]
       exact lZ (⟨cf.ag,cf.size,⟨cf.blocks.sv,cf.blocks.xs.set b.toNat ⟨⟨B.ag.sv,cZ rm 0 ((aE B.ag.xs).set g.toNat (cU (~~~(bR (cv c)).1.mask) xs))⟩,B.used+1,B.bE,B.bad⟩⟩,cf.ops+1,(bR (cv c)).1.cut,cf.bc⟩:Cp) (zP (rm:=rm) (l:=(aE B.ag.xs).set g.toNat (cU (~~~(bR (cv c)).1.mask) xs)) (B:=({B with used:=B.used+1}:Bk)) (B':=⟨⟨B.ag.sv,cZ rm 0 ((aE B.ag.xs).set g.toNat (cU (~~~(bR (cv c)).1.mask) xs))⟩,B.used+1,B.bE,B.bad⟩) (sp:=B.ag.sv) (ps:=B.ag.xs) lA (JX _ (by omega)) hn rfl rfl (ah.mem hw)))⟩
instance ad4{w0:World}{L:List aj}{c:Cp}{b:Int}{g:Int}{x:Sv}{xs:List UInt8}[hc:aS w0 L c][hx:cl w0 L aJ 1 x xs]:bW Tryz.prog 149 w0 L [.agg (aB c), .int .i64 b, .int .i64 g,x.val] (Cp) (fun zz=> .tuple #[.agg (aB zz), .int .i64 (kG (cv c) b g xs)]) (fun zz=>fz zz::L) (fun zz=>cv zz=k8 (cv c) b g xs) (dK c):=⟨fun hp w hw=>(Tb w c b g x xs (hc.h w hw) (hx.h w hw) hp).mono fun e w' ⟨x,h1,h2,h3⟩=>⟨x,h1,h2,hw.call h3⟩⟩
end Go.Proofs.YtaipiecplldinaaGreat
