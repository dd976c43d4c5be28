/- Part of a proof. -/
import Derived.Test.YtaipiecplldinaaGreatB3
import Derived.Test.YtaipiecplldinaaGreatB2
set_option maxRecDepth 20000
set_option linter.unusedSimpArgs false
set_option linter.unusedVariables false
namespace Go.Proofs.YtaipiecplldinaaGreat
open Go.aB Go.Kb
open Go.RowKit
theorem R7(w:World)(b:Sv)(bs:List UInt8)(hb:bP aM 1 (hp w) b bs):Calls Tryz.prog 155 #[.int .u32 0,b.val] w fun e w'=>e= .returned (.int .u32 (k7 bs:Nat))∧Mem w [] w':=by
 have ub:Gv w b aM 1 bs:=⟨hb⟩
 have hO:=hb.bd
 refine aX (args:=[_,_]) Tryz.func155 rfl Tryz.ntmps155 rfl ?_
 change Cw _ _ _ _ _ [(0, .int .u32 0),(1,b.val)] []
 refine Gc ?_
 refine Gs ?_
 refine Gc ?_
 refine Gs ?_
 refine ag (Ic (p:=0) rfl rfl (by decide)) ?_
 refine Gs ?_
 refine Gc ?_
 iterate 3 refine Gs ?_
 refine Gc ?_
 refine bS (X:=Nat) (fun zz=>[(13, .int .i64 (zz:Nat)),(5, .int .u32 (jq 4294967295 (bs.take zz):Nat)),(11,b.val),(12, .int .i64 (bs.length:Nat))]) (fun zz=>[]) (fun zz=>zz≤bs.length) (fun zz=>bs.length -zz) 0 (Nat.zero_le _) (Sub.cons rfl (Sub.cons rfl (Sub.cons rfl (Sub.cons rfl (Sub.nil _))))) (fun w hw=>ai.mem hw) ?_
 rintro i hi
 have bo:jq 4294967295 (bs.take i)<2^32:=zY (by decide) _
 refine Gc ?_
 refine Gs ?_
 refine Gc ?_
 refine au rfl (fun h0=> ?_) (fun h0=> ?_)
 ·
  replace h0:=bz h0
  obtain⟨y,he⟩:=get_some (xs:=bs) (i:=i) (by omega)
  have hy:=y.toNat_lt
  have dz:jq 4294967295 (bs.take i)^^^y.toNat<2^32:=Nat.xor_lt_two_pow (zY (by decide) _) (by omega)
  refine Gc ?_
  refine ag (bc rfl rfl i rfl (by omega)) ?_
  refine ag (bF (j:=0) rfl i he rfl (by decide)) ?_
  refine Gs ?_
  refine Gc ?_
  iterate 2 refine Gs ?_
  refine ag (qw rfl (by simp only[nb];omega)) ?_
  refine ag (Gw rfl rfl rfl rfl (by simp only[nb];omega) (by simp only[nb];omega)) ?_
  refine Gs ?_
  refine Gc ?_
  refine Gs ?_
  refine Gc ?_
  refine bS (X:=Nat) (fun zz=>[(21, .int .i64 (zz:Nat)),(5, .int .u32 ((lP (jq 4294967295 (bs.take i)^^^y.toNat) zz):Nat)),(11,b.val),(12, .int .i64 (bs.length:Nat)),(13, .int .i64 (i:Nat))]) (fun zz=>[]) (fun zz=>zz≤8) (fun zz=>8 -zz) 0 (Nat.zero_le _) (Sub.cons rfl (Sub.cons rfl (Sub.cons rfl (Sub.cons rfl (Sub.cons rfl (Sub.nil _)))))) (fun w hw=>ai.mem hw) ?_
  rintro k hk
  refine Gc ?_
  refine Gs ?_
  refine Gc ?_
  refine au rfl (fun h1=> ?_) (fun h1=> ?_)
  ·
   replace h1:=bz h1
   have tw:(lP (jq 4294967295 (bs.take i)^^^y.toNat) k)<2^32:=CW dz k
   have Ek:(lP (jq 4294967295 (bs.take i)^^^y.toNat) k)/2<2^32:=by omega
   refine Gc ?_
   refine Gs ?_
   refine ag (Ry.to (v':= .int .u32 (((lP (jq 4294967295 (bs.take i)^^^y.toNat) k)%2:Nat):Int)) (M7 (p:=(lP (jq 4294967295 (bs.take i)^^^y.toNat) k)) (q:=1) rfl rfl rfl rfl (by simp only[nb];omega) (by decide)) (by rw[Nat.and_one_is_mod])) ?_
   refine Gs ?_
   refine Gc ?_
   refine Gs ?_
   refine ag (s0 (p:=(lP (jq 4294967295 (bs.take i)^^^y.toNat) k)) rfl rfl (by simp only[nb];omega) (by omega)) ?_
   refine Gs ?_
   refine Gc ?_
   iterate 2 refine Gs ?_
   refine ag (ND (p:=3988292384) (q:=(lP (jq 4294967295 (bs.take i)^^^y.toNat) k)%2) rfl rfl rfl rfl (by simp only[nb];omega)) ?_
   refine ag (Ry.to (v':= .int .u32 ((lP (jq 4294967295 (bs.take i)^^^y.toNat) (k+1):Nat):Int)) (Gw (p:=(lP (jq 4294967295 (bs.take i)^^^y.toNat) k)/2^1) (q:=3988292384*((lP (jq 4294967295 (bs.take i)^^^y.toNat) k)%2)) rfl rfl rfl rfl (by simp only[nb];omega) (by simp only[nb];omega)) (by rw[lP,CU];rcases Nat.mod_two_eq_zero_or_one (lP (jq 4294967295 (bs.take i)^^^y.toNat) k)with h|h<;>rw[h]<;>rfl)) ?_
   refine Gs ?_
   refine Gc ?_
   iterate 2 refine Gs ?_
   refine Gi ?_
   exact bu (x:=(k)) (k+1) (by first|omega|(simp only[];omega)) (by first|omega|(simp only[];omega)) (Sub.cons rfl (Sub.cons rfl (Sub.cons rfl (Sub.cons rfl (Sub.cons rfl (Sub.nil _)))))) (fun w hw=>ai.mem hw)
  ·
   replace h1:=bz h1
   obtain rfl:k=8:=by omega
   refine Gc ?_
   iterate 2 refine Gs ?_
   refine Gi ?_
   exact bu (x:=(i)) (i+1) (by first|omega|(simp only[];omega)) (by first|omega|(simp only[];omega)) (Sub.cons rfl (Sub.cons (look_eq rfl (by rw[O3 he];rfl)) (Sub.cons rfl (Sub.cons rfl (Sub.nil _))))) (fun w hw=>ai.mem hw)
 ·
  replace h0:=bz h0
  obtain rfl:i=bs.length:=by omega
  refine Gc ?_
  refine Gs ?_
  refine ag (Ic (p:=jq 4294967295 (bs.take bs.length)) rfl rfl (zY (by decide) _)) ?_
  refine Gs ?_
  refine Gc ?_
  refine aq (.inl rfl) (aG rfl (al rfl)) (fun w1 hw=> ?_)
  exact⟨(by rw[List.take_length];rfl),ai.mem hw⟩
instance adQ{w0:World}{L:List aj}{b:Sv}{bs:List UInt8}[hb:cO w0 L aM 1 b bs]:cw Tryz.prog 155 w0 L [.int .u32 0,b.val] (.int .u32 (k7 bs:Nat)) (True):=⟨fun hp w hw=>R7 w b bs (hb.h w hw)⟩
theorem R8(w:World)(b:Sv)(bs:List UInt8)(hb:bP aM 1 (hp w) b bs):Calls Tryz.prog 135 #[b.val] w fun e w'=>e= .returned (.int .u32 (k7 bs:Nat))∧Mem w [] w':=by
 have ub:Gv w b aM 1 bs:=⟨hb⟩
 refine aX (args:=[_]) Tryz.func135 rfl Tryz.ntmps135 rfl ?_
 change Cw _ _ _ _ _ [(0,b.val)] []
 refine Gc ?_
 refine Gs ?_
 refine Gc ?_
 iterate 3 refine Gs ?_
 refine Gc ?_
 refine aq (.inl rfl) (aG rfl (al rfl)) (fun w1 hw=> ?_)
 exact⟨rfl,ai.mem hw⟩
instance adR{w0:World}{L:List aj}{b:Sv}{bs:List UInt8}[hb:cO w0 L aM 1 b bs]:cw Tryz.prog 135 w0 L [b.val] (.int .u32 (k7 bs:Nat)) (True):=⟨fun hp w hw=>R8 w b bs (hb.h w hw)⟩
theorem R9(w:World)(n:Nat)(many:Nat)(ba:n<2^64∧1≤many∧many≤8):Calls Tryz.prog 163 #[.int .u64 (n:Nat), .int .i64 (many:Nat)] w fun e w'=> ∃zz:Sv,e= .returned (zz.val)∧(True)∧Mem w [own aM 1 zz (be n many)] w':=by
 obtain⟨kQ,kg,ny⟩:=ba
 refine aX (args:=[_,_]) Tryz.func163 rfl Tryz.ntmps163 rfl ?_
 change Cw _ _ _ _ _ [(0, .int .u64 (n:Nat)),(1, .int .i64 (many:Nat))] []
 refine Gc ?_
 refine Gs ?_
 refine Gc ?_
 iterate 3 refine Gs ?_
 iterate 2 refine Gg ?_
 refine Gs ?_
 refine Gc ?_
 refine au rfl (fun h0=> ?_) (fun h0=> ?_)
 ·
  replace h0:=bz h0
  exfalso;omega
 ·
  replace h0:=bz h0
  refine Gc ?_
  refine Gs ?_
  refine rK (enc:=aM) (n:=many) (cap:=many) 0 rfl rfl rfl rfl rfl (by omega) (by omega) (by omega) fun AY=> ?_
  refine Gs ?_
  refine Gc ?_
  refine Gs ?_
  refine ag (Ry.to (v':= .int .i64 (many:Nat)) (ko rfl) (by simp)) ?_
  refine Gs ?_
  refine Gc ?_
  refine bS (X:=Nat) (fun zz=>[(17, .int .i64 (zz:Nat)),(5,(⟨false,AY,0,many,many,none⟩:Sv).val),(0, .int .u64 (n:Nat)),(1, .int .i64 (many:Nat)),(16, .int .i64 (many:Nat))]) (fun zz=>[own aM 1 ⟨false,AY,0,many,many,none⟩ (List.replicate (many -zz) (0:UInt8)++be n zz)]) (fun zz=>zz≤many) (fun zz=>many -zz) 0 (Nat.zero_le _) (Sub.cons rfl (Sub.cons rfl (Sub.cons rfl (Sub.cons rfl (Sub.cons rfl (Sub.nil _)))))) (fun w hw=>by rw[show List.replicate (many -0) (0:UInt8)++be n 0=List.replicate many 0 from by rw[be,List.append_nil,Nat.sub_zero]];exact ai.mem hw) ?_
  rintro i hi
  have dk:=gD n i
  have C1:(List.replicate (many -i) (0:UInt8)++be n i).length=many:=by rw[List.length_append,List.length_replicate,dk];omega
  refine Gc ?_
  refine Gs ?_
  refine Gc ?_
  refine au rfl (fun h1=> ?_) (fun h1=> ?_)
  ·
   replace h1:=bz h1
   refine Gc ?_
   iterate 2 refine Gs ?_
   refine Gc ?_
   iterate 7 refine Gs ?_
   refine ag (sX rfl rfl (by omega)) ?_
   refine ag (Ry.to (v':= .int .u64 ((n/256^i:Nat):Int)) (s0 (p:=n) rfl rfl (by simp only[nb];omega) (by omega)) (by rw[show(8*(i:Int)).toNat=8*i by omega,Nat.pow_mul])) ?_
   refine ag (uO rfl rfl) ?_
   refine ag (bc rfl rfl (many -1 -i) (by omega) (by omega)) ?_
   refine RF rfl rfl (by rw[List.getElem?_append_left (by rw[List.length_replicate];omega),List.getElem?_replicate,if_pos (by omega)]) rfl ?_
   refine Gc ?_
   iterate 2 refine Gs ?_
   refine Gi ?_
   exact bu (x:=(i)) (i+1) (by first|omega|(simp only[];omega)) (by first|omega|(simp only[];omega)) (Sub.cons rfl (Sub.cons rfl (Sub.cons rfl (Sub.cons rfl (Sub.cons rfl (Sub.nil _)))))) (fun w hw=>by rw[PQ (by omega)]at hw;exact ai.mem hw)
  ·
   replace h1:=bz h1
   have Sa:i=many:=by omega
   refine Gc ?_
   iterate 2 refine Gs ?_
   refine Gc ?_
   refine aq (.inl rfl) (aG rfl (al rfl)) (fun w1 hw=> ?_)
   exact⟨⟨false,AY,0,many,many,none⟩,rfl,trivial,by rw[Sa,Nat.sub_self,List.replicate_zero,List.nil_append]at hw;exact ai.mem hw⟩
instance adS{w0:World}{L:List aj}{n:Nat}{many:Nat}:cc Tryz.prog 163 w0 L [.int .u64 (n:Nat), .int .i64 (many:Nat)] (Sv) (fun zz=>zz.val) (fun zz=>own aM 1 zz (be n many)::L) (fun zz=>True) (n<2^64∧1≤many∧many≤8):=⟨fun hp w hw=>(R9 w n many hp).mono fun e w' ⟨x,h1,h2,h3⟩=>⟨x,h1,h2,hw.call h3⟩⟩
theorem Sb(w:World)(b:Sv)(bs:List UInt8)(hb:bP aM 1 (hp w) b bs)(ba:bs.length≤7):Calls Tryz.prog 134 #[b.val] w fun e w'=>e= .returned (.int .u64 (de bs:Nat))∧Mem w [] w':=by
 have ub:Gv w b aM 1 bs:=⟨hb⟩
 refine aX (args:=[_]) Tryz.func134 rfl Tryz.ntmps134 rfl ?_
 change Cw _ _ _ _ _ [(0,b.val)] []
 refine Gc ?_
 refine Gs ?_
 refine Gc ?_
 refine Gs ?_
 refine Gc ?_
 iterate 3 refine Gs ?_
 refine Gc ?_
 refine bS (X:=Nat) (fun zz=>[(8, .int .i64 (zz:Nat)),(3, .int .u64 (de (bs.take zz):Nat)),(6,b.val),(7, .int .i64 (bs.length:Nat))]) (fun zz=>[]) (fun zz=>zz≤bs.length) (fun zz=>bs.length -zz) 0 (Nat.zero_le _) (Sub.cons rfl (Sub.cons rfl (Sub.cons rfl (Sub.cons rfl (Sub.nil _))))) (fun w hw=>ai.mem hw) ?_
 rintro i hi
 refine Gc ?_
 refine Gs ?_
 refine Gc ?_
 refine au rfl (fun h0=> ?_) (fun h0=> ?_)
 ·
  replace h0:=bz h0
  obtain⟨y,he⟩:=get_some (xs:=bs) (i:=i) (by omega)
  have hy:=y.toNat_lt
  have bo:de (bs.take i)<256^6:=Nat.lt_of_lt_of_le (Cg bs i hi) (Nat.pow_le_pow_right (by decide) (by omega))
  refine Gc ?_
  refine ag (bc rfl rfl i rfl (by omega)) ?_
  refine ag (bF (j:=0) rfl i he rfl (by decide)) ?_
  refine Gs ?_
  refine Gc ?_
  refine Gs ?_
  refine ag (PO (p:=de (bs.take i)) rfl rfl rfl (by omega)) ?_
  refine Gs ?_
  refine ag (qw rfl (by simp only[nb];omega)) ?_
  refine ag (zh (p:=de (bs.take i)*256) (q:=y.toNat) rfl rfl rfl rfl (by simp only[nb];omega) (by simp only[nb];omega)) ?_
  refine Gs ?_
  refine Gc ?_
  iterate 2 refine Gs ?_
  refine Gi ?_
  exact bu (x:=(i)) (i+1) (by first|omega|(simp only[];omega)) (by first|omega|(simp only[];omega)) (Sub.cons rfl (Sub.cons (look_eq rfl (by rw[GJ he,GK _ _ hy])) (Sub.cons rfl (Sub.cons rfl (Sub.nil _))))) (fun w hw=>ai.mem hw)
 ·
  replace h0:=bz h0
  obtain rfl:i=bs.length:=by omega
  refine Gc ?_
  iterate 2 refine Gs ?_
  refine Gc ?_
  refine aq (.inl rfl) (aG rfl (al rfl)) (fun w1 hw=> ?_)
  exact⟨(by rw[List.take_length]),ai.mem hw⟩
instance adT{w0:World}{L:List aj}{b:Sv}{bs:List UInt8}[hb:cO w0 L aM 1 b bs]:cw Tryz.prog 134 w0 L [b.val] (.int .u64 (de bs:Nat)) (bs.length≤7):=⟨fun hp w hw=>Sb w b bs (hb.h w hw) hp⟩
theorem Sc(w:World)(n:Nat)(ba:n≤1000000000):Calls Tryz.prog 178 #[.slice none 0 0, .int .i64 (n:Nat)] w fun e w'=> ∃zz:Sv,e= .returned (zz.val)∧(True)∧Mem w [own aM 1 zz ([]:List UInt8)] w':=by
 refine aX (args:=[_,_]) Tryz.func178 rfl Tryz.ntmps178 rfl ?_
 change Cw _ _ _ _ _ [(0, .slice none 0 0),(1, .int .i64 (n:Nat))] []
 refine Gc ?_
 refine Gs ?_
 refine Gc ?_
 iterate 2 refine Gs ?_
 refine Gc ?_
 refine au rfl (fun h0=> ?_) (fun h0=> ?_)
 ·
  replace h0:=bz h0
  exfalso;omega
 ·
  replace h0:=bz h0
  refine Gc ?_
  iterate 2 refine Gs ?_
  refine ag (zZ rfl) ?_
  refine Gs ?_
  refine ag (sW rfl) ?_
  iterate 3 refine Gs ?_
  refine Gc ?_
  iterate 2 refine Gs ?_
  refine Gc ?_
  refine au rfl (fun h1=> ?_) (fun h1=> ?_)
  ·
   replace h1:=bz h1
   refine Gi ?_
   iterate 2 refine Gs ?_
   refine ag (zZ rfl) ?_
   refine ag (Ry.to (v':= .slice none 0 0) (rH (s:=Sv.none) (h:=0) rfl rfl rfl Sv.uK (Nat.le_refl _)) rfl) ?_
   refine Gs ?_
   refine HJ (enc:=aM) (k:=n) (0:UInt8) rfl rfl (by omega) (by omega) (by decide) rfl Tryz.underlying3 (by omega) (by omega) fun uc yf El=> ?_
   refine Gs ?_
   refine ag (sW rfl) ?_
   refine ag (rH (s:=⟨false,uc,0,n,yf,none⟩) (h:=0) rfl rfl rfl ⟨(fun h=>by cases h),El,by simp only;omega,fun _=>rfl⟩ (Nat.zero_le _)) ?_
   refine Gs ?_
   refine Gc ?_
   iterate 2 refine Gs ?_
   refine Gc ?_
   refine aq (.inl rfl) (aG rfl (al rfl)) (fun w1 hw=> ?_)
   refine⟨Sv.sub ⟨false,uc,0,n,yf,none⟩ 1 0 0,rfl,trivial,?_⟩
   have dW:=Mem.HI (i:=0) (k:=0) hw rfl (Nat.zero_le _)
   rw[List.take_zero]at dW
   exact dW
  ·
   replace h1:=bz h1
   have hn:n=0:=by omega
   refine Gc ?_
   iterate 2 refine Gs ?_
   refine Gc ?_
   refine aq (.inl rfl) (aG rfl (al rfl)) (fun w1 hw=> ?_)
   exact⟨Sv.none,rfl,trivial,(ai.mem hw:Mem w [] _).dA aM 1⟩
instance adU{w0:World}{L:List aj}{n:Nat}:cc Tryz.prog 178 w0 L [.slice none 0 0, .int .i64 (n:Nat)] (Sv) (fun zz=>zz.val) (fun zz=>own aM 1 zz ([]:List UInt8)::L) (fun zz=>True) (n≤1000000000):=⟨fun hp w hw=>(Sc w n hp).mono fun e w' ⟨x,h1,h2,h3⟩=>⟨x,h1,h2,hw.call h3⟩⟩
theorem Sd(w:World)(a:Sl (Sl UInt8))(ha:Deep.aY (hp w) a)(ba:(jf a.xs).length≤1000000):Calls Tryz.prog 164 #[a.sv.val] w fun e w'=> ∃zz:Sv,e= .returned (zz.val)∧(True)∧Mem w [own aM 1 zz (jf a.xs)] w':=by
 have vO:bV w a:=⟨ha⟩
 have yX:=ha.1.bd
 have dN:=O7 a.xs
 refine aX (args:=[_]) Tryz.func164 rfl Tryz.ntmps164 rfl ?_
 change Cw _ _ _ _ _ [(0,a.sv.val)] []
 refine Gc ?_
 refine Gs ?_
 refine Gc ?_
 refine Gs ?_
 refine Gc ?_
 iterate 3 refine Gs ?_
 refine Gc ?_
 refine bS (X:=Nat) (fun zz=>[(11, .int .i64 (zz:Nat)),(3, .int .i64 ((jf (a.xs.take zz)).length:Nat)),(0,a.sv.val),(9,a.sv.val),(10, .int .i64 (a.xs.length:Nat))]) (fun zz=>[]) (fun zz=>zz≤a.xs.length) (fun zz=>a.xs.length -zz) 0 (Nat.zero_le _) (Sub.cons rfl (Sub.cons rfl (Sub.cons rfl (Sub.cons rfl (Sub.cons rfl (Sub.nil _)))))) (fun w hw=>ai.mem hw) ?_
 rintro i hi
 have u2:=dN i
 have jZ:=dN (i+1)
 refine Gc ?_
 refine Gs ?_
 refine Gc ?_
 refine au rfl (fun h0=> ?_) (fun h0=> ?_)
 ·
  replace h0:=bz h0
  iterate 6 refine Gi ?_
  obtain⟨x,hx⟩:=get_some (xs:=a.xs) (i:=i) (by omega)
  refine ag (bc rfl rfl i rfl (by omega)) ?_
  refine ag (bF (j:=0) rfl i hx rfl (by decide)) ?_
  have Se:(jf (a.xs.take (i+1))).length=(jf (a.xs.take i)).length+x.xs.length:=by rw[z0 hx,List.length_append]
  have AZ:Mb x _:=⟨List.mem_of_getElem? hx⟩
  refine Gs ?_
  refine Gc ?_
  iterate 5 refine Gs ?_
  refine Gc ?_
  iterate 2 refine Gs ?_
  refine Gc ?_
  refine au rfl (fun h1=> ?_) (fun h1=> ?_)
  ·
   replace h1:=bz h1
   exfalso;omega
  ·
   replace h1:=bz h1
   refine Gc ?_
   iterate 2 refine Gs ?_
   refine Gi ?_
   exact bu (x:=(i)) (i+1) (by first|omega|(simp only[];omega)) (by first|omega|(simp only[];omega)) (Sub.cons rfl (Sub.cons (look_eq rfl (by rw[z0 hx,List.length_append];simp)) (Sub.cons rfl (Sub.cons rfl (Sub.cons rfl (Sub.nil _)))))) (fun w hw=>ai.mem hw)
 ·
  replace h0:=bz h0
  obtain rfl:i=a.xs.length:=by omega
  have kX:=dN a.xs.length
  refine Gc ?_
  refine Gs ?_
  refine bn rfl (by omega) fun sm Em=> ?_
  refine Gs ?_
  refine Gc ?_
  iterate 3 refine Gs ?_
  refine Gc ?_
  refine bS (X:=Nat×Sv) (fun zz=>[(27, .int .i64 (zz.1:Nat)),(6,zz.2.val),(25,a.sv.val),(26, .int .i64 (a.xs.length:Nat))]) (fun zz=>[own aM 1 zz.2 (jf (a.xs.take zz.1))]) (fun zz=>zz.1≤a.xs.length) (fun zz=>a.xs.length -zz.1) (0,sm) (Nat.zero_le _) (Sub.cons rfl (Sub.cons rfl (Sub.cons rfl (Sub.cons rfl (Sub.nil _))))) (fun w hw=>(ai.mem hw:Mem _ [own aM 1 sm ([]:List UInt8)] _)) ?_
  rintro⟨k,s1⟩ hk
  dsimp only
  simp only at hk
  have u2:=dN k
  have jZ:=dN (k+1)
  refine Gc ?_
  refine Gs ?_
  refine Gc ?_
  refine au rfl (fun h2=> ?_) (fun h2=> ?_)
  ·
   replace h2:=bz h2
   iterate 6 refine Gi ?_
   obtain⟨y,hy⟩:=get_some (xs:=a.xs) (i:=k) (by omega)
   refine ag (bc rfl rfl k rfl (by omega)) ?_
   refine ag (bF (j:=0) rfl k hy rfl (by decide)) ?_
   have Sg:(jf (a.xs.take (k+1))).length=(jf (a.xs.take k)).length+y.xs.length:=by rw[z0 hy,List.length_append]
   have Kf:Mb y _:=⟨List.mem_of_getElem? hy⟩
   refine Gs ?_
   refine Gc ?_
   iterate 2 refine Gs ?_
   refine kY (s:=s1) (ys:=y.xs) rfl rfl (by decide) (fun w hw=>jW (s:=y.sv) Tryz.underlying38 (by decide) ((inferInstance:Hd _ _ y.sv aM 1 y.xs).h w hw)) (by omega) (by omega) fun En Sh Si=> ?_
   refine Gs ?_
   refine Gc ?_
   iterate 2 refine Gs ?_
   refine Gi ?_
   exact bu (x:=(k,s1)) (k+1,En) (by simp only;omega) (by simp only;omega) (Sub.cons rfl (Sub.cons rfl (Sub.cons rfl (Sub.cons rfl (Sub.nil _))))) (fun w hw=>by rw[z0 hy];exact ai.mem hw)
  ·
   replace h2:=bz h2
   obtain rfl:k=a.xs.length:=by omega
   refine Gc ?_
   iterate 2 refine Gs ?_
   refine Gc ?_
   refine aq (.inl rfl) (aG rfl (al rfl)) (fun w1 hw=> ?_)
   exact⟨s1,rfl,trivial,by rw[List.take_length]at hw;exact ai.mem hw⟩
instance adV{w0:World}{L:List aj}{a:Sl (Sl UInt8)}[ha:aT w0 L a]:cc Tryz.prog 164 w0 L [a.sv.val] (Sv) (fun zz=>zz.val) (fun zz=>own aM 1 zz (jf a.xs)::L) (fun zz=>True) ((jf a.xs).length≤1000000):=⟨fun hp w hw=>(Sd w a (ha.h w hw) hp).mono fun e w' ⟨x,h1,h2,h3⟩=>⟨x,h1,h2,hw.call h3⟩⟩
theorem Sj(w:World)(s:Sv)(ss:List UInt8)(hs:bP aM 1 (hp w) s ss)(ba:ss.length≤1000000):Calls Tryz.prog 137 #[s.val] w fun e w'=> ∃zz:Sv,e= .returned (zz.val)∧(True)∧Mem w [own aM 1 zz ss] w':=by
 have tY:Gv w s aM 1 ss:=⟨hs⟩
 refine aX (args:=[_]) Tryz.func137 rfl Tryz.ntmps137 rfl ?_
 change Cw _ _ _ _ _ [(0,s.val)] []
 refine Gc ?_
 refine Gs ?_
 refine Gc ?_
 refine Gs ?_
 refine ag (qC Tryz.underlying38 rfl) ?_
 refine Gc ?_
 refine au rfl (fun h0=> ?_) (fun h0=> ?_)
 ·
  replace h0:=bz h0
  have e0:ss=[]:=List.length_eq_zero_iff.1 (by have:=hs.ok.nil h0;have:=hs.len;omega)
  refine Gc ?_
  refine Gs ?_
  refine Gc ?_
  refine aq (.inl rfl) (aG rfl (al rfl)) (fun w1 hw=> ?_)
  exact⟨Sv.none,rfl,trivial,by rw[e0];exact(ai.mem hw:Mem w [] _).dA aM 1⟩
 ·
  replace h0:=bz h0
  refine Gc ?_
  refine rM aM fun b5=> ?_
  refine Gs ?_
  refine kY (s:=⟨false,b5,0,0,0,none⟩) (ys:=ss) rfl rfl (by decide) (fun w hw=>jW (s:=s) Tryz.underlying38 (by decide) ((inferInstance:Hd _ _ s aM 1 ss).h w hw)) (by simp only[List.length_append,List.length_cons,List.length_nil];omega) (by simp only[List.length_append,List.length_cons,List.length_nil];omega) fun s7 tZ sg=> ?_
  refine Gs ?_
  refine Gc ?_
  refine aq (.inl rfl) (aG rfl (al rfl)) (fun w1 hw=> ?_)
  exact⟨s7,rfl,trivial,by simpa using hw⟩
instance adW{w0:World}{L:List aj}{s:Sv}{ss:List UInt8}[hs:cO w0 L aM 1 s ss]:cc Tryz.prog 137 w0 L [s.val] (Sv) (fun zz=>zz.val) (fun zz=>own aM 1 zz ss::L) (fun zz=>True) (ss.length≤1000000):=⟨fun hp w hw=>(Sj w s ss (hs.h w hw) hp).mono fun e w' ⟨x,h1,h2,h3⟩=>⟨x,h1,h2,hw.call h3⟩⟩
open Go.aB Go.Kb
open Go.RowKit
instance:eI Tryz.prog 110 (.agg (cA lU)):=⟨by kernel_rfl⟩
theorem Sk(w:World)(n:Int):Calls Tryz.prog 104 #[.int .i64 n] w fun e w'=>e= .returned (.bool (mG n))∧Mem w [] w':=by
 refine aX (args:=[_]) Tryz.func104 rfl Tryz.ntmps104 rfl ?_
 change Cw _ _ _ _ _ [(0, .int .i64 n)] []
 refine Gc ?_
 refine Gs ?_
 refine Gc ?_
 iterate 3 refine Gs ?_
 iterate 2 refine Gg ?_
 iterate 2 refine Gs ?_
 refine Gc ?_
 refine aq (.inl rfl) (aG rfl (al rfl)) (fun w1 hw=> ?_)
 exact⟨congrArg (fun b=>Ending.returned (Value.bool b)) (rfl),ai.mem hw⟩
instance adX{w0:World}{L:List aj}{n:Int}:cw Tryz.prog 104 w0 L [.int .i64 n] (.bool (mG n)) (True):=⟨fun hp w hw=>Sk w n⟩
theorem Sm(w:World)(n:Int):Calls Tryz.prog 59 #[.int .i64 n] w fun e w'=>e= .returned (.int .i64 (dO n))∧Mem w [] w':=by
 refine aX (args:=[_]) Tryz.func59 rfl Tryz.ntmps59 rfl ?_
 change Cw _ _ _ _ _ [(0, .int .i64 n)] []
 refine Gc ?_
 refine Gs ?_
 refine Gc ?_
 iterate 3 refine Gs ?_
 refine Gc ?_
 refine au rfl (fun h0=> ?_) (fun h0=> ?_)
 ·
  replace h0:=bz h0
  refine Gc ?_
  refine Gs ?_
  refine Gc ?_
  refine aq (.inl rfl) (aG rfl (al rfl)) (fun w1 hw=> ?_)
  exact⟨congrArg (fun b=>Ending.returned (Value.int .i64 b)) ((by rw[dO,if_neg (by rw[h0];simp)])),ai.mem hw⟩
 ·
  replace h0:=bz h0
  have hf:=tF.1 h0
  refine Gc ?_
  iterate 3 refine Gs ?_
  refine Gc ?_
  refine aq (.inl rfl) (aG rfl (al rfl)) (fun w1 hw=> ?_)
  exact⟨congrArg (fun b=>Ending.returned (Value.int .i64 b)) ((by rw[dO,if_pos h0])),ai.mem hw⟩
instance adY{w0:World}{L:List aj}{n:Int}:cw Tryz.prog 59 w0 L [.int .i64 n] (.int .i64 (dO n)) (True):=⟨fun hp w hw=>Sm w n⟩
theorem Sn(w:World)(x:dI)(n:Int)(hx:Deep.aY (hp w) x):Calls Tryz.prog 136 #[.agg (cA x), .int .i64 n] w fun e w'=>e= .returned (.bool (lV (cx x) n))∧Mem w [] w':=by
 have sq:bV w x:=⟨hx⟩
 refine aX (args:=[_,_]) Tryz.func136 rfl Tryz.ntmps136 rfl ?_
 change Cw _ _ _ _ _ [(0, .agg (cA x)),(1, .int .i64 n)] []
 refine Gc ?_
 refine bR rfl fun b2=> ?_
 refine Gs ?_
 refine Gc ?_
 refine gk (by kernel_rfl) (by kernel_rfl) ?_
 refine Gq ?_
 refine rE (cy rfl trivial) ?_
 refine Gq ?_
 iterate 3 refine Gh ?_
 refine eW rfl rfl rfl (fun hg=>(Ry.yl (aC (aF hg rfl)))) ?_
 refine B3 rfl rfl rfl (fun hg=>(Ry.yl (aH (o':=0) rfl rfl))) ?_
 refine B3 rfl rfl rfl (fun hg=>(Ry.yl (bG (aF hg rfl)))) ?_
 refine B3 rfl rfl rfl (fun hg=>(Ry.yl (cm (aF hg rfl) rfl rfl))) ?_
 refine eW rfl rfl rfl (fun hg=>(Ry.yl (lC (aF hg rfl) rfl (wR hg rfl)))) ?_
 iterate 2 refine Gq ?_
 iterate 3 refine Gh ?_
 iterate 2 refine Gq ?_
 iterate 3 refine Gh ?_
 iterate 2 refine Gq ?_
 iterate 3 refine Gh ?_
 iterate 2 refine Gq ?_
 iterate 4 refine Gh ?_
 refine eW rfl rfl rfl (fun hg=>cy (dw (aF hg rfl) gg) trivial) ?_
 refine Gh ?_
 iterate 2 refine Gq ?_
 refine Gc ?_
 refine aq (.inl rfl) (aG rfl (al rfl)) (fun w1 hw=> ?_)
 exact⟨congrArg (fun b=>Ending.returned (Value.bool b)) ((by simp only[lV,cx];rw[show decide ((x.gen.toNat:Int)<281474976710656)=decide (x.gen.toNat<281474976710656)from decide_eq_decide.2 (by omega)];rfl)),ai.mem hw⟩
instance adZ{w0:World}{L:List aj}{x:dI}{n:Int}[hx:aT w0 L x]:cw Tryz.prog 136 w0 L [.agg (cA x), .int .i64 n] (.bool (lV (cx x) n)) (True):=⟨fun hp w hw=>Sn w x n (hx.h w hw)⟩
theorem So(w:World)(b:Sv)(bs:List UInt8)(hb:bP aM 1 (hp w) b bs):Calls Tryz.prog 129 #[b.val] w fun e w'=>e= .returned (.bool (iM bs))∧Mem w [] w':=by
 have ub:Gv w b aM 1 bs:=⟨hb⟩
 have hO:=hb.bd
 refine aX (args:=[_]) Tryz.func129 rfl Tryz.ntmps129 rfl ?_
 change Cw _ _ _ _ _ [(0,b.val)] []
 refine Gc ?_
 refine Gs ?_
 refine Gc ?_
 iterate 3 refine Gs ?_
 refine Gc ?_
 refine bS (X:=Nat) (fun zz=>[(7, .int .i64 (zz:Nat)),(5,b.val),(6, .int .i64 (bs.length:Nat))]) (fun zz=>[]) (fun zz=>zz≤bs.length∧ ∀j x,j<zz→bs[j]? =Option.some x→x=255) (fun zz=>bs.length -zz) 0 ⟨Nat.zero_le _,fun j x hj=>by first|omega|(simp only[];omega)⟩ (Sub.cons rfl (Sub.cons rfl (Sub.cons rfl (Sub.nil _)))) (fun w hw=>ai.mem hw) ?_
 rintro i ⟨bh,aE⟩
 refine Gc ?_
 refine Gs ?_
 refine Gc ?_
 refine au rfl (fun h0=> ?_) (fun h0=> ?_)
 ·
  replace h0:=bz h0
  iterate 6 refine Gi ?_
  obtain⟨y,hy⟩:=get_some (xs:=bs) (i:=i) (by omega)
  refine ag (bc rfl rfl i rfl (by omega)) ?_
  refine ag (bF (j:=0) rfl i hy rfl (by decide)) ?_
  refine Gs ?_
  refine Gc ?_
  iterate 2 refine Gs ?_
  refine Gc ?_
  refine au rfl (fun h1=> ?_) (fun h1=> ?_)
  ·
   replace h1:=bz h1
   have hz:iM bs=false:=by
    cases hk:iM bs with
    |false=>rfl
    |true=>exact absurd (congrArg UInt8.toNat (xI.1 hk y (List.mem_of_getElem? hy))) (by intro e;exact h1 (by rw[e];rfl))
   refine Gc ?_
   refine Gs ?_
   refine Gc ?_
   refine aq (.inl rfl) (aG rfl (al rfl)) (fun w1 hw=> ?_)
   exact⟨congrArg (fun b=>Ending.returned (Value.bool b)) (hz.symm),ai.mem hw⟩
  ·
   replace h1:=bz h1
   have Eo:y=255:=UInt8.toNat_inj.1 (show y.toNat=255 by omega)
   refine Gc ?_
   iterate 2 refine Gs ?_
   refine Gi ?_
   exact bu (x:=(i)) (i+1) ⟨by first|omega|(simp only[];omega),fun j x hj hx=>if e:j=i then(by subst e;rw[hy]at hx;cases hx;exact Eo)else aE j x (by first|omega|(simp only[];omega)) hx⟩ (by first|omega|(simp only[];omega)) (Sub.cons rfl (Sub.cons rfl (Sub.cons rfl (Sub.nil _)))) (fun w hw=>ai.mem hw)
 ·
  replace h0:=bz h0
  obtain rfl:i=bs.length:=by omega
  have hz:iM bs=true:=xI.2 fun x hx=>by
   obtain⟨j,hj⟩:=List.getElem?_of_mem hx
   exact aE j x (List.getElem?_eq_some_iff.1 hj).1 hj
  refine Gc ?_
  refine Gs ?_
  refine Gc ?_
  refine aq (.inl rfl) (aG rfl (al rfl)) (fun w1 hw=> ?_)
  exact⟨congrArg (fun b=>Ending.returned (Value.bool b)) (hz.symm),ai.mem hw⟩
instance ad0{w0:World}{L:List aj}{b:Sv}{bs:List UInt8}[hb:cO w0 L aM 1 b bs]:cw Tryz.prog 129 w0 L [b.val] (.bool (iM bs)) (True):=⟨fun hp w hw=>So w b bs (hb.h w hw)⟩
open Go.aB Go.Kb
open Go.RowKit
instance:eI Tryz.prog 147 (.agg (dn j9)):=⟨by kernel_rfl⟩
theorem Sp(w:World)(n:Int):Calls Tryz.prog 83 #[.int .i64 n] w fun e w'=>e= .returned (.int .i64 (kb n))∧Mem w [] w':=by
 have Sr:mG n=true→24≤n∧n≤256:=fun h=>tF.1 h
 have hrb:0≤dO n∧dO n≤240:=by
  by_cases h:mG n=true
  ·
   have:=Sr h;rw[dO,if_pos h];omega
  ·
   rw[dO,if_neg h];omega
 refine aX (args:=[_]) Tryz.func83 rfl Tryz.ntmps83 rfl ?_
 change Cw _ _ _ _ _ [(0, .int .i64 n)] []
 refine Gc ?_
 refine Gs ?_
 refine Gc ?_
 iterate 2 refine Gs ?_
 refine ag (mY rfl rfl (by omega) (by omega)) ?_
 refine ag (BZ rfl rfl) ?_
 refine Gs ?_
 refine Gc ?_
 refine aq (.inl rfl) (aG rfl (al rfl)) (fun w1 hw=> ?_)
 exact⟨congrArg (fun b=>Ending.returned (Value.int .i64 b)) (rfl),ai.mem hw⟩
instance ad1{w0:World}{L:List aj}{n:Int}:cw Tryz.prog 83 w0 L [.int .i64 n] (.int .i64 (kb n)) (True):=⟨fun hp w hw=>Sp w n⟩
theorem Ss(w:World)(r:cV)(n:Int)(hr:Deep.aY (hp w) r):Calls Tryz.prog 147 #[.agg (dn r), .int .i64 n] w fun e w'=>e= .returned (.bool (lX (cW r) n))∧Mem w [] w':=by
 have St:bV w r:=⟨hr⟩
 have hO:=hr.1.bd
 refine aX (args:=[_,_]) Tryz.func147 rfl Tryz.ntmps147 rfl ?_
 change Cw _ _ _ _ _ [(0, .agg (dn r)),(1, .int .i64 n)] []
 refine Gc ?_
 refine bR rfl fun b2=> ?_
 refine Gs ?_
 refine Gc ?_
 refine gk (by kernel_rfl) (by kernel_rfl) ?_
 refine Gq ?_
 refine rE (cy rfl trivial) ?_
 iterate 2 refine Gq ?_
 iterate 3 refine Gh ?_
 iterate 2 refine Gq ?_
 iterate 4 refine Gh ?_
 refine hK rfl rfl rfl (fun hg=>cy (dw (aF hg rfl) gg) trivial) ?_
 refine Gh ?_
 refine Gq ?_
 refine Gc ?_
 refine au rfl (fun h0=> ?_) (fun h0=> ?_)
 ·
  replace h0:=bz h0
  have hz:lX (cW r) n=false:=by
   cases hk:lX (cW r) n with
   |false=>rfl
   |true=>
    obtain⟨g1,g2,g3,g4⟩:=tI.1 hk
    simp only[cW]at g2 g3
    omega
  refine Gc ?_
  refine Gs ?_
  refine Gc ?_
  refine aq (.inl rfl) (aG rfl (al rfl)) (fun w1 hw=> ?_)
  exact⟨congrArg (fun b=>Ending.returned (Value.bool b)) (hz.symm),ai.mem hw⟩
 ·
  replace h0:=bz h0
  have g0:dO n≠0∧r.gen.toNat<281474976710656∧(r.at_.xs.length:Int)≤kb n:=⟨by omega,by omega,by omega⟩
  refine Gc ?_
  iterate 4 refine Gs ?_
  refine Gc ?_
  refine bS (X:=Nat) (fun zz=>[(26, .int .i64 (zz:Nat)),(24,r.at_.sv.val),(25, .int .i64 (r.at_.xs.length:Nat))]) (fun zz=>[ar b2 (dn r) 147]) (fun zz=>zz≤r.at_.xs.length∧ ∀j x,j<zz→r.at_.xs[j]? =Option.some x→tH x=true) (fun zz=>r.at_.xs.length -zz) 0 ⟨Nat.zero_le _,fun j x hj=>by first|omega|(simp only[];omega)⟩ (Sub.cons rfl (Sub.cons rfl (Sub.cons rfl (Sub.nil _)))) (fun w hw=>ai.mem hw) ?_
  rintro i ⟨bh,aE⟩
  refine Gc ?_
  refine Gs ?_
  refine Gc ?_
  refine au rfl (fun h1=> ?_) (fun h1=> ?_)
  ·
   replace h1:=bz h1
   iterate 6 refine Gi ?_
   obtain⟨y,hy⟩:=get_some (xs:=r.at_.xs) (i:=i) (by omega)
   refine ag (bc rfl rfl i rfl (by omega)) ?_
   refine ag (bF (j:=0) rfl i hy rfl (by decide)) ?_
   refine Gs ?_
   refine Gc ?_
   iterate 3 refine Gs ?_
   iterate 2 refine Gg ?_
   refine Gs ?_
   refine Gc ?_
   refine au rfl (fun h2=> ?_) (fun h2=> ?_)
   ·
    replace h2:=bz h2
    have hz:lX (cW r) n=false:=by
     cases hk:lX (cW r) n with
     |false=>rfl
     |true=>
      have g:=Aj.1 ((tI.1 hk).2.2.2 y (List.mem_of_getElem? hy))
      omega
    refine Gc ?_
    refine Gs ?_
    refine Gc ?_
    refine aq (.inl rfl) (aG rfl (al rfl)) (fun w1 hw=> ?_)
    exact⟨congrArg (fun b=>Ending.returned (Value.bool b)) (hz.symm),ai.mem hw⟩
   ·
    replace h2:=bz h2
    have Ep:tH y=true:=Aj.2 ⟨by omega,by omega⟩
    refine Gc ?_
    iterate 2 refine Gs ?_
    refine Gi ?_
    exact bu (x:=(i)) (i+1) ⟨by first|omega|(simp only[];omega),fun j x hj hx=>if e:j=i then(by subst e;rw[hy]at hx;cases hx;exact Ep)else aE j x (by first|omega|(simp only[];omega)) hx⟩ (by first|omega|(simp only[];omega)) (Sub.cons rfl (Sub.cons rfl (Sub.cons rfl (Sub.nil _)))) (fun w hw=>ai.mem hw)
  ·
   replace h1:=bz h1
   obtain rfl:i=r.at_.xs.length:=by omega
   have hz:lX (cW r) n=true:=tI.2 ⟨g0.1,g0.2.1,g0.2.2,fun x hx=>by
    obtain⟨j,hj⟩:=List.getElem?_of_mem hx
    exact aE j x (List.getElem?_eq_some_iff.1 hj).1 hj⟩
   refine Gc ?_
   refine Gs ?_
   refine Gc ?_
   refine aq (.inl rfl) (aG rfl (al rfl)) (fun w1 hw=> ?_)
   exact⟨congrArg (fun b=>Ending.returned (Value.bool b)) (hz.symm),ai.mem hw⟩
instance ad3{w0:World}{L:List aj}{r:cV}{n:Int}[hr:aT w0 L r]:cw Tryz.prog 147 w0 L [.agg (dn r), .int .i64 n] (.bool (lX (cW r) n)) (True):=⟨fun hp w hw=>Ss w r n (hr.h w hw)⟩
open Go.aB Go.Kb
open Go.RowKit
instance:eI Tryz.prog 29 (.agg (bC ka)):=⟨by kernel_rfl⟩
theorem Su(w:World)(c:Cp)(hc:Deep.aY (hp w) c):Calls Tryz.prog 82 #[.agg (az c)] w fun e w'=>e= .returned (.bool (fY (cv c)))∧Mem w [] w':=by
 have iC:bV w c:=⟨hc⟩
 refine aX (args:=[_]) Tryz.func82 rfl Tryz.ntmps82 rfl ?_
 change Cw _ _ _ _ _ [(0, .agg (az c))] []
 refine Gc ?_
 refine bR rfl fun b1=> ?_
 refine Gs ?_
 refine Gc ?_
 iterate 3 refine Gs ?_
 iterate 4 refine Gg ?_
 iterate 2 refine Gs ?_
 iterate 3 refine Gg ?_
 iterate 2 refine Gs ?_
 iterate 3 refine Gg ?_
 iterate 2 refine Gs ?_
 refine Gc ?_
 refine aq (.inl rfl) (aG rfl (al rfl)) (fun w1 hw=> ?_)
 exact⟨congrArg (fun b=>Ending.returned (Value.bool b)) ((by simp only[fY,cv,dU];rfl)),ai.mem hw⟩
instance ad4{w0:World}{L:List aj}{c:Cp}[hc:aT w0 L c]:cw Tryz.prog 82 w0 L [.agg (az c)] (.bool (fY (cv c))) (True):=⟨fun hp w hw=>Su w c (hc.h w hw)⟩
theorem Sw(w:World)(c:Cp)(hc:Deep.aY (hp w) c)(ba:dC c):Calls Tryz.prog 84 #[.agg (az c)] w fun e w'=> ∃zz:Cp,e= .returned (.agg (az zz))∧(cv zz=cv c)∧Mem w [fz zz] w':=by
 have iC:bV w c:=⟨hc⟩
 refine aX (args:=[_]) Tryz.func84 rfl Tryz.ntmps84 rfl ?_
 change Cw _ _ _ _ _ [(0, .agg (az c))] []
 refine Gc ?_
 refine bR rfl fun b1=> ?_
 refine bH fun b2=> ?_
 refine Gc ?_
 iterate 3 refine Gs ?_
 refine bn rfl (by assumption) fun x9 yg=> ?_
 refine Gs ?_
 refine ag (aU (v:= .agg (az x9)) rfl rfl) ?_
 refine ag (aU (v:= .int .i64 (qJ (cv c) c.aS.xs)) rfl rfl) ?_
 refine bH fun b3=> ?_
 iterate 2 refine Gs ?_
 refine Gc ?_
 iterate 3 refine Gs ?_
 refine dS (cs':=az (⟨x9.ae,x9.size,x9.blocks,x9.ops,c.off,x9.aS⟩:Cp)) rfl rfl (by show 4<6;decide) (by first|rfl|exact Sv.one _) rfl ?_
 refine Gc ?_
 iterate 2 refine Gs ?_
 refine Gc ?_
 refine aq (.inl rfl) (aG rfl (bX rfl)) (fun w1 hw=> ?_)
 exact⟨(⟨x9.ae,x9.size,x9.blocks,x9.ops,c.off,x9.aS⟩:Cp),rfl,by
  have h9:cv (⟨x9.ae,x9.size,x9.blocks,x9.ops,c.off,x9.aS⟩:Cp)={cv x9 with off:=(cv c).off}:=rfl
  rw[h9,yg];exact PZ (cv c),by
  have h9:Mem w [fz x9] _:=ai.mem hw
  exact h9⟩
instance ad5{w0:World}{L:List aj}{c:Cp}[hc:aT w0 L c]:cc Tryz.prog 84 w0 L [.agg (az c)] (Cp) (fun zz=> .agg (az zz)) (fun zz=>fz zz::L) (fun zz=>cv zz=cv c) (dC c):=⟨fun hp w hw=>(Sw w c (hc.h w hw) hp).mono fun e w' ⟨x,h1,h2,h3⟩=>⟨x,h1,h2,hw.call h3⟩⟩
theorem Sx(w:World)(s:Sv)(ss:List Int)(hs:bP bD 1 (hp w) s ss)(ba:ss.length≤1000000):Calls Tryz.prog 92 #[s.val] w fun e w'=> ∃zz:Sv,e= .returned (zz.val)∧(True)∧Mem w [own bD 1 zz ss] w':=by
 have tY:Gv w s bD 1 ss:=⟨hs⟩
 refine aX (args:=[_]) Tryz.func92 rfl Tryz.ntmps92 rfl ?_
 change Cw _ _ _ _ _ [(0,s.val)] []
 refine Gc ?_
 refine Gs ?_
 refine Gc ?_
 refine Gs ?_
 refine ag (qC Tryz.underlying26 rfl) ?_
 refine Gc ?_
 refine au rfl (fun h0=> ?_) (fun h0=> ?_)
 ·
  replace h0:=bz h0
  have e0:ss=[]:=List.length_eq_zero_iff.1 (by have:=hs.ok.nil h0;have:=hs.len;omega)
  refine Gc ?_
  refine Gs ?_
  refine Gc ?_
  refine aq (.inl rfl) (aG rfl (al rfl)) (fun w1 hw=> ?_)
  exact⟨Sv.none,rfl,trivial,by rw[e0];exact(ai.mem hw:Mem w [] _).dA bD 1⟩
 ·
  replace h0:=bz h0
  refine Gc ?_
  refine rM bD fun b5=> ?_
  refine Gs ?_
  refine kY (s:=⟨false,b5,0,0,0,none⟩) (enc:=bD) (ys:=ss) rfl rfl (by decide) (fun w hw=>jW (s:=s) Tryz.underlying26 (by decide) ((inferInstance:cO _ _ bD 1 s ss).h w hw)) (by simp only[List.length_nil];omega) (by simp only[List.length_nil];omega) fun s7 tZ sg=> ?_
  refine Gs ?_
  refine Gc ?_
  refine aq (.inl rfl) (aG rfl (al rfl)) (fun w1 hw=> ?_)
  exact⟨s7,rfl,trivial,by rw[List.nil_append]at hw;exact ai.mem hw⟩
instance ad6{w0:World}{L:List aj}{s:Sv}{ss:List Int}[hs:cO w0 L bD 1 s ss]:cc Tryz.prog 92 w0 L [s.val] (Sv) (fun zz=>zz.val) (fun zz=>own bD 1 zz ss::L) (fun zz=>True) (ss.length≤1000000):=⟨fun hp w hw=>(Sx w s ss (hs.h w hw) hp).mono fun e w' ⟨x,h1,h2,h3⟩=>⟨x,h1,h2,hw.call h3⟩⟩
theorem Sy(w:World)(v:bJ)(hv:Deep.aY (hp w) v)(ba:dC v.ah∧v.at_.xs.length≤1000000):Calls Tryz.prog 44 #[.agg (bC v)] w fun e w'=> ∃zz:Cp×Sv,e= .returned (.agg (bC (⟨zz.1,⟨zz.2,v.at_.xs⟩,v.gen,v.last⟩:bJ)))∧(cv zz.1=cv v.ah)∧Mem w [fz zz.1,own bD 1 zz.2 v.at_.xs] w':=by
 have yh:bV w v:=⟨hv⟩
 obtain⟨kQ,kg⟩:=ba
 refine aX (args:=[_]) Tryz.func44 rfl Tryz.ntmps44 rfl ?_
 change Cw _ _ _ _ _ [(0, .agg (bC v))] []
 refine Gc ?_
 refine bR rfl fun b1=> ?_
 refine bH fun b2=> ?_
 refine Gc ?_
 refine oJ [2,5,7,9,1001,1004,5002,5005] [[],[],[1],[],[],[1,2,4],[1,2,4],[1,2,4,5],[1,2,4,5,7],[1,2,4,5,7]] [0,1,3,4,2,6,5,7,8,9] [] [] (by kernel_rfl) (fun _ hw=>ai.mem hw) (by kernel_rfl) (by kernel_rfl) ?_
 refine an rfl (aH (o':=0) rfl rfl) ?_
 refine jN rfl (gA rfl) ?_
 refine an rfl (aH (o':=6) rfl rfl) ?_
 refine jN rfl (bG rfl) ?_
 refine Hz rfl (mD rfl (by assumption) fun x5 Sz=>⟨fun _ hw=>ai.mem hw,fun _ hw=>ai.mem hw,?_⟩)
 refine an rfl (aH (o':=0) rfl rfl) ?_
 refine Hz rfl (mD rfl (by omega) fun x8 n7=>⟨fun _ hw=>ai.mem hw,fun _ hw=>ai.mem hw,?_⟩)
 refine dr rfl (Ht (cs':=bC ({v with ah:=x5}:bJ)) rfl rfl (by show 0+6≤9;decide) rfl ⟨fun _ hw=>ai.mem hw,?_⟩)
 refine an rfl (aH (o':=6) rfl rfl) ?_
 refine dr rfl (uY (cs':=bC (⟨x5,⟨x8,v.at_.xs⟩,v.gen,v.last⟩:bJ)) rfl rfl (by show 6<9;decide) (by first|rfl|exact Sv.one _) rfl ⟨fun _ hw=>ai.mem hw,?_⟩)
 refine Gc ?_
 iterate 2 refine Gs ?_
 refine Gc ?_
 refine aq (.inl rfl) (aG rfl (bX rfl)) (fun w1 hw=> ?_)
 exact⟨(x5,x8),rfl,Sz,ai.mem hw⟩
instance ad7{w0:World}{L:List aj}{v:bJ}[hv:aT w0 L v]:cc Tryz.prog 44 w0 L [.agg (bC v)] (Cp×Sv) (fun zz=> .agg (bC (⟨zz.1,⟨zz.2,v.at_.xs⟩,v.gen,v.last⟩:bJ))) (fun zz=>fz zz.1::own bD 1 zz.2 v.at_.xs::L) (fun zz=>cv zz.1=cv v.ah) (dC v.ah∧v.at_.xs.length≤1000000):=⟨fun hp w hw=>(Sy w v (hv.h w hw) hp).mono fun e w' ⟨x,h1,h2,h3⟩=>⟨x,h1,h2,hw.call h3⟩⟩
open Go.aB Go.Kb
open Go.RowKit
theorem SA(b:List UInt8)(w:World):(Instr.build 110 #[(0, .int .i64 ((b.getD 0 0).toNat:Int)),(1, .int .i64 ((b.getD 1 0).toNat:Int)),(2, .int .u64 ((de ((b.drop 2).take (8 -2)):Nat):Int))]).run Tryz.prog w= .ok (.agg (cA (qL b))) w:=by
 rw[←Io]
 unfold cA qL
 generalize UInt64.ofNat (de ((b.drop 2).take (8 -2)))=g
 kernel_rfl
theorem SB(w:World)(b:Sv)(bs:List UInt8)(hb:bP aM 1 (hp w) b bs):Calls Tryz.prog 96 #[b.val] w fun e w'=> ∃zz:dI,e= .returned (.tuple #[.agg (cA zz), .int .i64 ((cE bs).2)])∧(cx zz=(cE bs).1)∧Mem w [own aM 1 zz.body.sv zz.body.xs] w':=by
 have ub:Gv w b aM 1 bs:=⟨hb⟩
 have hO:=hb.bd
 have Er:bV w (qL bs):=⟨⟨bP.nil _ _ _,fun x hx=>by cases hx⟩⟩
 have hml:=Im bs
 have yi:=Dd bs
 have zr:=CY (kt bs)
 have eT:=PS bs
 refine aX (args:=[_]) Tryz.func96 rfl Tryz.ntmps96 rfl ?_
 change Cw _ _ _ _ _ [(0,b.val)] []
 refine Gc ?_
 refine bH fun b2=> ?_
 refine Gs ?_
 refine Gc ?_
 iterate 4 refine Gs ?_
 refine Gc ?_
 refine au rfl (fun h0=> ?_) (fun h0=> ?_)
 ·
  replace h0:=bz h0
  have hE:cE bs=(iL,3):=by rw[cE,if_pos h0]
  refine Gc ?_
  refine ag (cJ (v:= .agg (cA lU)) rfl (fun w=>by kernel_rfl)) ?_
  iterate 2 refine Gs ?_
  refine Gc ?_
  refine aq (.inl rfl) (bk rfl (bX rfl) (al rfl)) (fun w1 hw=> ?_)
  exact⟨lU,by rw[hE],by rw[hE];rfl,Mem.dA aM 1 (ai.mem hw:Mem w [] _)⟩
 ·
  replace h0:=bz h0
  have SC:=tF.1 h0
  have yj:dO bs.length=bs.length -16:=by rw[dO,if_pos h0]
  refine Gc ?_
  iterate 2 refine Gs ?_
  refine Gc ?_
  refine au rfl (fun h1=> ?_) (fun h1=> ?_)
  ·
   replace h1:=bz h1
   have hE:cE bs=(iL,0):=by rw[cE,if_neg (by rw[h0];simp),if_pos h1]
   refine Gc ?_
   refine ag (cJ (v:= .agg (cA lU)) rfl (fun w=>by kernel_rfl)) ?_
   iterate 2 refine Gs ?_
   refine Gc ?_
   refine aq (.inl rfl) (bk rfl (bX rfl) (al rfl)) (fun w1 hw=> ?_)
   exact⟨lU,by rw[hE],by rw[hE];rfl,Mem.dA aM 1 (ai.mem hw:Mem w [] _)⟩
  ·
   replace h1:=bz h1
   refine Gc ?_
   refine gk (by kernel_rfl) (by kernel_rfl) ?_
   iterate 4 refine Gq ?_
   have Kg:Rg 0 (bs.length -4) bs.length:=⟨by omega⟩
   refine bb (GO rfl rfl (bs.length -4) (by omega) Kg.h.2) ?_
   iterate 4 refine Gq ?_
   have A0:Rg (bs.length -4) bs.length bs.length:=⟨by omega⟩
   refine bb (zv rfl rfl (bs.length -4) (by omega) A0.h.1) ?_
   iterate 2 refine Gq ?_
   refine Gc ?_
   refine Gs ?_
   refine eS (cy (v:= .int .u64 ((de (vg bs):Nat):Int)) rfl (by rw[List.length_take,List.length_drop];omega)) ?_
   refine Gs ?_
   refine eS (cy (v:= .int .u32 ((k7 (kt bs):Nat):Int)) rfl trivial) ?_
   refine ag (qw rfl (by simp only[nb];omega)) ?_
   refine Gs ?_
   refine Gc ?_
   refine au rfl (fun h2=> ?_) (fun h2=> ?_)
   ·
    replace h2:=bz h2
    have hE:cE bs=(iL,4):=by rw[cE,if_neg (by rw[h0];simp),if_neg (by rw[h1];simp),if_pos (fun e=>h2 (by rw[e]))]
    refine Gc ?_
    refine ag (cJ (v:= .agg (cA lU)) rfl (fun w=>by kernel_rfl)) ?_
    iterate 2 refine Gs ?_
    refine Gc ?_
    refine aq (.inl rfl) (bk rfl (bX rfl) (al rfl)) (fun w1 hw=> ?_)
    exact⟨lU,by rw[hE],by rw[hE];rfl,Mem.dA aM 1 (ai.mem hw:Mem w [] _)⟩
   ·
    replace h2:=bz h2
    have xv: ¬de (vg bs)≠k7 (kt bs):=fun e=>e (by omega)
    refine Gc ?_
    refine iK [12,13] [[],[],[],[],[],[],[],[],[],[],[],[],[],[12]] [0,1,2,3,4,5,6,7,8,9,10,11,12,13] [] (fun _ hw=>ai.mem hw) (by kernel_rfl) (by kernel_rfl) ?_
    refine an rfl (aC rfl) ?_
    refine an rfl (bc rfl rfl 0 rfl (by omega)) ?_
    refine an rfl (bF (j:=0) rfl 0 (m0 (xs:=bs) (i:=0) (d:=0) (by omega)) rfl (by decide)) ?_
    refine an rfl (th rfl) ?_
    refine an rfl (aC rfl) ?_
    refine an rfl (bc rfl rfl 1 rfl (by omega)) ?_
    refine an rfl (bF (j:=0) rfl 1 (m0 (xs:=bs) (i:=1) (d:=0) (by omega)) rfl (by decide)) ?_
    refine an rfl (th rfl) ?_
    refine an rfl (aC rfl) ?_
    have Kh:Rg 2 8 bs.length:=⟨by omega⟩
    refine an rfl (zu rfl rfl rfl 2 8 rfl rfl Kh.h.1 Kh.h.2) ?_
    refine tu rfl (cy rfl (by simp;omega)) ?_
    refine an rfl (cJ (v:= .agg (cA (qL bs))) rfl (SA bs)) ?_
    refine dr rfl (OE fun b6=>⟨fun _ hw=>ai.mem hw,?_⟩)
    refine dr rfl (ng rfl rfl ⟨fun _ hw=>ai.mem hw,?_⟩)
    refine Gc ?_
    refine Gs ?_
    have Ki:Rg 8 10 bs.length:=⟨by omega⟩
    refine ag (zu rfl rfl rfl 8 10 rfl rfl Ki.h.1 Ki.h.2) ?_
    refine eS (cy (v:= .int .u64 ((gY bs:Nat):Int)) rfl (by rw[List.length_take];omega)) ?_
    refine ag (qw rfl (by simp only[nb];omega)) ?_
    refine Gs ?_
    refine Gc ?_
    iterate 6 refine Gs ?_
    refine bQ rfl rfl rfl (fun hg=>(Ry.yl (eR rfl))) ?_
    iterate 2 refine Gg ?_
    refine bQ rfl rfl rfl (fun hg=>cy (dw (aF hg rfl) (dw (aF hg rfl) gg)) trivial) ?_
    refine bQ rfl rfl rfl (fun hg=>(Ry.yl (ig (aF hg rfl)))) ?_
    refine Gs ?_
    refine Gc ?_
    refine au rfl (fun h3=> ?_) (fun h3=> ?_)
    ·
     replace h3:=bz h3
     have jC:nT bs=false:=by
      rw[De]at h3
      cases hk:nT bs with
      |false=>rfl
      |true=>
       simp only[nT,Bool.and_eq_true,decide_eq_true_eq]at hk
       rw[hk.2]at h3
       simp only[Bool.true_eq_false,or_false]at h3
       omega
     have hE:cE bs=(iL,2):=by rw[cE,if_neg (by rw[h0];simp),if_neg (by rw[h1];simp),if_neg xv,if_pos jC]
     refine Gc ?_
     refine ag (cJ (v:= .agg (cA lU)) rfl (fun w=>by kernel_rfl)) ?_
     iterate 2 refine Gs ?_
     refine Gc ?_
     refine aq (.inl rfl) (bk rfl (bX rfl) (al rfl)) (fun w1 hw=> ?_)
     exact⟨lU,by rw[hE],by rw[hE];rfl,Mem.dA aM 1 (ai.mem hw:Mem w [] _)⟩
    ·
     replace h3:=bz h3
     have jC:nT bs=true:=by
      rw[De]at h3
      simp only[nT,Bool.and_eq_true,decide_eq_true_eq]
      exact⟨by omega,h3.2⟩
     have hmr:(gY bs:Int)≤dO bs.length:=by simp only[nT,Bool.and_eq_true,decide_eq_true_eq]at jC;exact jC.1
     have si:(lW bs).length=(kt bs).length -(10+gY bs):=by rw[lW,List.length_take,List.length_drop];omega
     have gr:Gv w ((b.sub 1 0 (bs.length -4)).sub 1 (10+gY bs) (kt bs).length) aM 1 (lW bs):=⟨(hb.sub (lo:=0) (hi:=bs.length -4) (by omega) (by omega)).sub (lo:=10+gY bs) (hi:=(kt bs).length) (by omega) (Nat.le_refl _)⟩
     refine Gc ?_
     iterate 3 refine Gs ?_
     have SD:Rg (10+gY bs) ((kt bs).length) (kt bs).length:=⟨by omega⟩
     refine ag (zv rfl rfl (10+gY bs) rfl SD.h.1) ?_
     iterate 2 refine Gs ?_
     refine Gc ?_
     refine bS (X:=Nat) (fun zz=>[(69, .int .i64 (zz:Nat)),(0,b.val),(2, .pointer (some ⟨b2,0,none⟩)),(6, .pointer (some ⟨b6,0,none⟩)),(7, .int .i64 (gY bs:Nat)),(67,((b.sub 1 0 (bs.length -4)).sub 1 (10+gY bs) (kt bs).length).val),(68, .int .i64 ((lW bs).length:Nat))]) (fun zz=>[ar b6 (cA (qL bs)) 110,ar b2 (cA lU) 110]) (fun zz=>zz≤(lW bs).length∧ ∀j x,j<zz→(lW bs)[j]? =Option.some x→x=0) (fun zz=>(lW bs).length -zz) 0 ⟨Nat.zero_le _,fun j x hj=>by first|omega|(simp only[];omega)⟩ (Sub.cons rfl (Sub.cons rfl (Sub.cons rfl (Sub.cons rfl (Sub.cons rfl (Sub.cons rfl (Sub.cons rfl (Sub.nil _)))))))) (fun w hw=>ai.mem hw) ?_
     rintro i ⟨bh,aE⟩
     refine Gc ?_
     refine Gs ?_
     refine Gc ?_
     refine au rfl (fun h4=> ?_) (fun h4=> ?_)
     ·
      replace h4:=bz h4
      iterate 6 refine Gi ?_
      obtain⟨y,hy⟩:=get_some (xs:=(lW bs)) (i:=i) (by omega)
      refine ag (bc rfl rfl i rfl (by omega)) ?_
      refine ag (bF (j:=0) rfl i hy rfl (by decide)) ?_
      refine Gs ?_
      refine Gc ?_
      iterate 2 refine Gs ?_
      refine Gc ?_
      refine au rfl (fun h5=> ?_) (fun h5=> ?_)
      ·
       replace h5:=bz h5
       have rb:tG (lW bs)=false:=by
        cases hk:tG (lW bs)with
        |false=>rfl
        |true=>exact absurd (congrArg UInt8.toNat (Dc.1 hk y (List.mem_of_getElem? hy))) (by intro e;exact h5 (by rw[e];rfl))
       have hE:cE bs=(iL,2):=by rw[cE,if_neg (by rw[h0];simp),if_neg (by rw[h1];simp),if_neg xv,if_neg (by rw[jC];simp),if_pos rb]
       refine Gc ?_
       refine ag (cJ (v:= .agg (cA lU)) rfl (fun w=>by kernel_rfl)) ?_
       iterate 2 refine Gs ?_
       refine Gc ?_
       refine aq (.inl rfl) (bk rfl (bX rfl) (al rfl)) (fun w1 hw=> ?_)
       exact⟨lU,by rw[hE],by rw[hE];rfl,Mem.dA aM 1 (ai.mem hw:Mem w [] _)⟩
      ·
       replace h5:=bz h5
       have Eo:y=0:=UInt8.toNat_inj.1 (show y.toNat=0 by omega)
       refine Gc ?_
       iterate 2 refine Gs ?_
       refine Gi ?_
       exact bu (x:=(i)) (i+1) ⟨by first|omega|(simp only[];omega),fun j x hj hx=>if e:j=i then(by subst e;rw[hy]at hx;cases hx;exact Eo)else aE j x (by first|omega|(simp only[];omega)) hx⟩ (by first|omega|(simp only[];omega)) (Sub.cons rfl (Sub.cons rfl (Sub.cons rfl (Sub.cons rfl (Sub.cons rfl (Sub.cons rfl (Sub.cons rfl (Sub.nil _)))))))) (fun w hw=>ai.mem hw)
     ·
      replace h4:=bz h4
      obtain rfl:i=(lW bs).length:=by omega
      have rb:tG (lW bs)=true:=Dc.2 fun x hx=>by
       obtain⟨j,hj⟩:=List.getElem?_of_mem hx
       exact aE j x (List.getElem?_eq_some_iff.1 hj).1 hj
      have hE:cE bs=({qK bs with body:=((bs.drop 10).take (10+gY bs -10))},0):=by rw[cE,if_neg (by rw[h0];simp),if_neg (by rw[h1];simp),if_neg xv,if_neg (by rw[jC];simp),if_neg (by rw[rb];simp)]
      refine Gc ?_
      iterate 2 refine Gs ?_
      refine Gc ?_
      refine au rfl (fun h6=> ?_) (fun h6=> ?_)
      ·
       replace h6:=bz h6
       refine Gi ?_
       iterate 3 refine Gs ?_
       have Kj:Rg 10 (10+gY bs) bs.length:=⟨by omega⟩
       refine ag (zu rfl rfl rfl 10 (10+gY bs) rfl rfl Kj.h.1 Kj.h.2) ?_
       refine bn rfl (by simp only[List.length_take,List.length_drop];omega) fun Es ad8=> ?_
       refine Gs ?_
       refine dS (cs':=cA (⟨((bs.getD 0 0).toNat:Int),((bs.getD 1 0).toNat:Int),(UInt64.ofNat (de ((bs.drop 2).take (8 -2)))),⟨Es,((bs.drop 10).take ((10+gY bs) -10))⟩⟩:dI)) rfl rfl (by show 3<4;decide) (by first|rfl|exact Sv.one _) rfl ?_
       refine Gc ?_
       iterate 3 refine Gs ?_
       refine Gc ?_
       refine aq (.inl rfl) (bk rfl (bX rfl) (al rfl)) (fun w1 hw=> ?_)
       exact⟨⟨((bs.getD 0 0).toNat:Int),((bs.getD 1 0).toNat:Int),UInt64.ofNat (de ((bs.drop 2).take (8 -2))),⟨Es,((bs.drop 10).take (10+gY bs -10))⟩⟩,by rw[hE],by rw[hE];exact Ip bs Es ((bs.drop 10).take (10+gY bs -10)),ai.mem hw⟩
      ·
       replace h6:=bz h6
       have lr:gY bs=0:=by omega
       refine Gc ?_
       iterate 3 refine Gs ?_
       refine Gc ?_
       refine aq (.inl rfl) (bk rfl (bX rfl) (al rfl)) (fun w1 hw=> ?_)
       exact⟨qL bs,by rw[hE],by rw[hE,De,lr];simp[qK],Mem.dA aM 1 (ai.mem hw:Mem w [] _)⟩
instance ad9{w0:World}{L:List aj}{b:Sv}{bs:List UInt8}[hb:cO w0 L aM 1 b bs]:cc Tryz.prog 96 w0 L [b.val] (dI) (fun zz=> .tuple #[.agg (cA zz), .int .i64 ((cE bs).2)]) (fun zz=>own aM 1 zz.body.sv zz.body.xs::L) (fun zz=>cx zz=(cE bs).1) (True):=⟨fun hp w hw=>(SB w b bs (hb.h w hw)).mono fun e w' ⟨x,h1,h2,h3⟩=>⟨x,h1,h2,hw.call h3⟩⟩
open Go.aB Go.Kb
open Go.RowKit
theorem SE(w:World)(c:Cp)(id:Int)(n:Int)(hc:Deep.aY (hp w) c)(ba:aW (cv c)=true∧1≤n∧n≤1000000):Calls Tryz.prog 132 #[.agg (az c), .int .i64 id, .int .i64 n] w fun e w'=>e= .returned (.bool (lb (cv c) id n))∧Mem w [] w':=by
 have iC:bV w c:=⟨hc⟩
 obtain⟨hk,vP,sr⟩:=ba
 have dk:=dU c.blocks.xs
 have gM:=jg.1 (eo.1 hk).1
 simp only[cv,dk]at gM
 have yk:0≤((n -1)/c.ae):=Int.ediv_nonneg (by omega) (by omega)
 have Gd:((n -1)/c.ae)≤n -1:=Int.ediv_le_self _ (by omega)
 have lr:0≤((n -1)%c.ae):=Int.emod_nonneg _ (by omega)
 have re:((n -1)%c.ae)<c.ae:=Int.emod_lt_of_pos _ (by omega)
 have mM:=tE (c:=c) (b:=((n -1)/c.ae))
 have Et:(c.blocks.xs.getD ((n -1)/c.ae).toNat nj).used=(ak (cv c) ((n -1)/c.ae)).used:=congrArg BV.used mM
 refine aX (args:=[_,_,_]) Tryz.func132 rfl Tryz.ntmps132 rfl ?_
 change Cw _ _ _ _ _ [(0, .agg (az c)),(1, .int .i64 id),(2, .int .i64 n)] []
 refine Gc ?_
 refine bR rfl fun b3=> ?_
 refine Gs ?_
 refine Gc ?_
 refine gk (by kernel_rfl) (by kernel_rfl) ?_
 iterate 4 refine Gq ?_
 refine bb (mY rfl rfl (by omega) (by omega)) ?_
 iterate 4 refine Gq ?_
 refine bb (wN rfl rfl (by omega) (by omega)) ?_
 iterate 2 refine Gq ?_
 refine Gc ?_
 iterate 3 refine Gs ?_
 iterate 5 refine Gg ?_
 iterate 2 refine Gs ?_
 iterate 4 refine Gg ?_
 refine bQ rfl rfl rfl (fun hg=>(Ry.yl (bc (aF hg rfl) (aF hg rfl) (((n -1)/c.ae).toNat) (by simp only[Z0,Z1,Z2,Z3,Z4,Z5,Z6,Z7,Z8,Z9]at hg;omega) (by simp only[Z0,Z1,Z2,Z3,Z4,Z5,Z6,Z7,Z8,Z9]at hg;omega)))) ?_
 refine bQ rfl rfl rfl (fun hg=>(Ry.yl (aH (aF hg rfl) rfl))) ?_
 refine bQ rfl rfl rfl (fun hg=>(Ry.yl (bF (j:=1) (aF hg rfl) (((n -1)/c.ae).toNat) (m0 (xs:=c.blocks.xs) (i:=((n -1)/c.ae).toNat) (d:=nj) (by simp only[Z0,Z1,Z2,Z3,Z4,Z5,Z6,Z7,Z8,Z9]at hg;omega)) rfl (by decide)))) ?_
 refine Gg ?_
 refine Gs ?_
 refine Gc ?_
 refine au rfl (fun h0=> ?_) (fun h0=> ?_)
 ·
  replace h0:=bz h0
  have hz:lb (cv c) id n=false:=by
   cases qg:jv (cv c) (n -1)with
   |false=>rw[lb,qg];rfl
   |true=>
    obtain⟨g1,g2,g3⟩:=nn.1 qg
    change 2≤((n -1)/c.ae)at g1
    change((n -1)/c.ae)<((fy c.blocks.xs).length:Int)at g2
    change((n -1)%c.ae)<(ak (cv c) ((n -1)/c.ae)).used at g3
    rw[dk]at g2
    omega
  refine Gc ?_
  refine Gs ?_
  refine Gc ?_
  refine aq (.inl rfl) (aG rfl (al rfl)) (fun w1 hw=> ?_)
  exact⟨congrArg (fun b=>Ending.returned (Value.bool b)) (hz.symm),ai.mem hw⟩
 ·
  replace h0:=bz h0
  have bZ:jv (cv c) (n -1)=true:=nn.2 ⟨show 2≤((n -1)/c.ae) by omega,by simp only[cv,dk];omega,show((n -1)%c.ae)<(ak (cv c) ((n -1)/c.ae)).used by omega⟩
  obtain⟨B,hB⟩:=get_some (xs:=c.blocks.xs) (i:=((n -1)/c.ae).toNat) (by omega)
  have n8:Mb B c.blocks:=⟨List.mem_of_getElem? hB⟩
  have dQ:bv B=ak (cv c) ((n -1)/c.ae):=by rw[←mM];simp[List.getD,hB]
  have fj:=ez.1 ((eo.1 hk).2.2.2.2 (bv B) (List.mem_of_getElem? (gX hB)))
  have ib:=gW B.ae.xs
  have ym:(B.ae.xs.length:Int)=c.ae:=by have:=fj.1;simp only[bv,cv,ib]at this;exact this
  obtain⟨y,hy⟩:=get_some (xs:=B.ae.xs) (i:=((n -1)%c.ae).toNat) (by omega)
  have su:Mb y B.ae:=⟨List.mem_of_getElem? hy⟩
  have nu:bO (cv c) (n -1)=y.xs:=by
   show(ak (cv c) ((n -1)/c.ae)).ae.getD ((n -1)%c.ae).toNat []=y.xs
   rw[←dQ]
   simp[bv,List.getD,jr hy]
  refine Gc ?_
  iterate 3 refine Gs ?_
  refine ag (bc rfl rfl (((n -1)/c.ae).toNat) (by omega) (by omega)) ?_
  refine ag (aH rfl rfl) ?_
  refine ag (bF (j:=0) rfl (((n -1)/c.ae).toNat) hB rfl (by decide)) ?_
  have SF:Mb B _:=⟨List.mem_of_getElem? hB⟩
  refine Gs ?_
  refine ag (bc rfl rfl (((n -1)%c.ae).toNat) (by omega) (by omega)) ?_
  refine ag (bF (j:=0) rfl (((n -1)%c.ae).toNat) hy rfl (by decide)) ?_
  have SG:Mb y _:=⟨List.mem_of_getElem? hy⟩
  refine bn rfl trivial fun mN ud=> ?_
  have e1:mN.kind=(cE y.xs).1.kind:=congrArg PV.kind ud
  have e2:mN.id=(cE y.xs).1.id:=congrArg PV.id ud
  refine Gs ?_
  refine ag (aU (v:= .agg (cA mN)) rfl rfl) ?_
  refine ag (aU (v:= .int .i64 ((cE y.xs).2)) rfl rfl) ?_
  refine bH fun b9=> ?_
  iterate 2 refine Gs ?_
  refine Gc ?_
  iterate 3 refine Gs ?_
  iterate 3 refine Gg ?_
  iterate 2 refine Gs ?_
  iterate 4 refine Gg ?_
  iterate 2 refine Gs ?_
  refine Gc ?_
  refine aq (.inl rfl) (aG rfl (al rfl)) (fun w1 hw=> ?_)
  exact⟨congrArg (fun b=>Ending.returned (Value.bool b)) ((by rw[lb,bZ,nu,Am,←e1,←e2];rfl)),ai.mem hw⟩
instance aea{w0:World}{L:List aj}{c:Cp}{id:Int}{n:Int}[hc:aT w0 L c]:cw Tryz.prog 132 w0 L [.agg (az c), .int .i64 id, .int .i64 n] (.bool (lb (cv c) id n)) (aW (cv c)=true∧1≤n∧n≤1000000):=⟨fun hp w hw=>SE w c id n (hc.h w hw) hp⟩
open Go.aB Go.Kb
open Go.RowKit
def lu(n:Int):Value:= .int .i64 n
def nz(_:Unit):Value:= .agg #[]
instance:yb lu:=⟨fun h=>by simpa[lu]using h⟩
instance:ya Tryz.prog 3:=⟨Maps.int_keyed Tryz.underlying3⟩
instance:vL Tryz.prog 162 3 163:=⟨Tryz.underlying162⟩
instance:eI Tryz.prog 163 (.agg #[]):=⟨by kernel_rfl⟩
instance:fw (#[]:Array Value) 0:=⟨rfl,by simp⟩
theorem Eu{n:Int}(h: -9223372036854775808≤n∧n≤9223372036854775807): ∃l,keyOf Tryz.prog 3 (lu n)=some l:=⟨_,Maps.keyOf_int_mk Tryz.underlying3 (by simp[Lit.wf,IntKind.min,IntKind.max,IntKind.signed,IntKind.bits];omega)⟩
theorem SH(w:World)(c:Cp)(t:Sv)(ts:List Int)(hc:Deep.aY (hp w) c)(ht:bP bD 1 (hp w) t ts)(ba:aW (cv c)=true∧ ∀x∈ts,0≤x∧x≤65535):Calls Tryz.prog 91 #[.agg (az c),t.val] w fun e w'=>e= .returned (.bool (pT (cv c) ts))∧Mem w [] w':=by
 have iC:bV w c:=⟨hc⟩
 have A1:Gv w t bD 1 ts:=⟨ht⟩
 obtain⟨hk,mf⟩:=ba
 have hO:=ht.bd
 refine aX (args:=[_,_]) Tryz.func91 rfl Tryz.ntmps91 rfl ?_
 change Cw _ _ _ _ _ [(0, .agg (az c)),(1,t.val)] []
 refine Gc ?_
 refine bR rfl fun b2=> ?_
 refine Gs ?_
 refine Gc ?_
 iterate 2 refine Gs ?_
 refine RH lu nz rfl fun sA=> ?_
 refine Gs ?_
 refine Gc ?_
 iterate 3 refine Gs ?_
 refine Gc ?_
 refine bS (X:=Nat) (fun zz=>[(15, .int .i64 (zz:Nat)),(5, .map (some sA)),(2, .pointer (some ⟨b2,0,none⟩)),(13,t.val),(14, .int .i64 (ts.length:Nat))]) (fun zz=>[omap Tryz.prog 3 lu nz sA (jh ts zz),ar b2 (az c) 25]) (fun zz=>zz≤ts.length∧ ∀j,j<zz→oQ (cv c) ts j=true) (fun zz=>ts.length -zz) 0 ⟨Nat.zero_le _,fun j hj=>by first|omega|(simp only[];omega)⟩ (Sub.cons rfl (Sub.cons rfl (Sub.cons rfl (Sub.cons rfl (Sub.cons rfl (Sub.nil _)))))) (fun w hw=>by
  rw[←Is];exact ai.mem hw) ?_
 rintro i ⟨bh,aE⟩
 refine Gc ?_
 refine Gs ?_
 refine Gc ?_
 refine au rfl (fun h0=> ?_) (fun h0=> ?_)
 ·
  replace h0:=bz h0
  obtain⟨y,hy⟩:=get_some (xs:=ts) (i:=i) (by omega)
  have SI:=mf y (List.mem_of_getElem? hy)
  have mg:=oR hy
  have sB:=Eu (n:=y) (by omega)
  refine Gc ?_
  refine Gs ?_
  refine ag (bc rfl rfl i rfl (by omega)) ?_
  refine ag (bF (j:=0) rfl i hy rfl (by decide)) ?_
  iterate 2 refine Gs ?_
  refine Gc ?_
  iterate 2 refine Gs ?_
  refine Gc ?_
  refine au rfl (fun h1=> ?_) (fun h1=> ?_)
  ·
   replace h1:=bz h1
   subst h1
   have b0:oQ (cv c) ts i=true:=by rw[oQ,mg];rfl
   refine Gc ?_
   iterate 2 refine Gs ?_
   refine Gi ?_
   exact bu (x:=(i)) (i+1) ⟨by first|omega|(simp only[];omega),fun j hj=>if e:j=i then e▸b0 else aE j (by first|omega|(simp only[];omega))⟩ (by first|omega|(simp only[];omega)) (Sub.cons rfl (Sub.cons rfl (Sub.cons rfl (Sub.cons rfl (Sub.cons rfl (Sub.nil _)))))) (fun w hw=>by
    rw[Iu hy];exact ai.mem hw)
  ·
   replace h1:=bz h1
   refine Gc ?_
   iterate 2 refine Gs ?_
   refine ag (Ed (cN:=lu) (dE:=nz) (f:=jh ts i) (v:=y) (z:=()) rfl rfl sB) ?_
   refine Gs ?_
   refine ag (aU (v:= .agg #[]) rfl rfl) ?_
   refine ag (aU (v:= .bool ((jh ts i y).isSome)) rfl rfl) ?_
   refine bH fun b8=> ?_
   iterate 2 refine Gs ?_
   refine Gc ?_
   iterate 2 refine Gs ?_
   refine bQ rfl rfl rfl (fun hg=>(Ry.yl (eR rfl))) ?_
   iterate 2 refine Gg ?_
   refine bQ rfl rfl rfl (fun hg=>cy (dw (aF hg rfl) (dw (aF hg rfl) (dw (aF hg rfl) gg))) ⟨hk,by omega,by omega⟩) ?_
   refine bQ rfl rfl rfl (fun hg=>(Ry.yl (ig (aF hg rfl)))) ?_
   refine Gs ?_
   refine Gc ?_
   refine au rfl (fun h2=> ?_) (fun h2=> ?_)
   ·
    replace h2:=bz h2
    have hz:pT (cv c) ts=false:=by
     cases qg:pT (cv c) ts with
     |false=>rfl
     |true=>
      have g:=An.1 qg i (by omega)
      rw[oQ,mg]at g
      rw[xJ]at h2
      simp only[Bool.or_eq_true,Bool.and_eq_true,decide_eq_true_eq,Bool.not_eq_true',List.contains_eq_mem,decide_eq_false_iff_not]at g h2
      rcases g with g|g
      ·
       exact absurd g h1
      ·
       rcases h2 with h2|h2
       ·
        exact absurd h2.2 g.1
       ·
        rw[g.2]at h2;cases h2
    refine Gc ?_
    refine Gs ?_
    refine Gc ?_
    refine aq (.inl rfl) (aG rfl (al rfl)) (fun w1 hw=> ?_)
    exact⟨congrArg (fun b=>Ending.returned (Value.bool b)) (hz.symm),ai.mem hw⟩
   ·
    replace h2:=bz h2
    have b0:oQ (cv c) ts i=true:=by
     rw[xJ]at h2
     rw[oQ,mg]
     simp only[Bool.or_eq_true,Bool.and_eq_true,decide_eq_true_eq,Bool.not_eq_true',List.contains_eq_mem,decide_eq_false_iff_not]at h2⊢
     exact .inr ⟨fun hm=>h2.1 ⟨h1,hm⟩,h2.2⟩
    have dX:=Iv hy h1
    refine Gc ?_
    iterate 2 refine Gs ?_
    refine ag (cJ (v:= .agg #[]) rfl (fun w=>by kernel_rfl)) ?_
    refine Ef (cN:=lu) (dE:=nz) (v:=y) (u:=()) rfl rfl rfl sB ?_
    refine Gc ?_
    iterate 2 refine Gs ?_
    refine Gi ?_
    exact bu (x:=(i)) (i+1) ⟨by first|omega|(simp only[];omega),fun j hj=>if e:j=i then e▸b0 else aE j (by first|omega|(simp only[];omega))⟩ (by first|omega|(simp only[];omega)) (Sub.cons rfl (Sub.cons rfl (Sub.cons rfl (Sub.cons rfl (Sub.cons rfl (Sub.nil _)))))) (fun w hw=>by
     rw[←dX];exact ai.mem hw)
 ·
  replace h0:=bz h0
  obtain rfl:i=ts.length:=by omega
  have hz:pT (cv c) ts=true:=An.2 fun j hj=>aE j hj
  refine Gc ?_
  refine Gs ?_
  refine Gc ?_
  refine aq (.inl rfl) (aG rfl (al rfl)) (fun w1 hw=> ?_)
  exact⟨congrArg (fun b=>Ending.returned (Value.bool b)) (hz.symm),ai.mem hw⟩
instance aeb{w0:World}{L:List aj}{c:Cp}{t:Sv}{ts:List Int}[hc:aT w0 L c][ht:cO w0 L bD 1 t ts]:cw Tryz.prog 91 w0 L [.agg (az c),t.val] (.bool (pT (cv c) ts)) (aW (cv c)=true∧ ∀x∈ts,0≤x∧x≤65535):=⟨fun hp w hw=>SH w c t ts (hc.h w hw) (ht.h w hw) hp⟩
open Go.aB Go.Kb
open Go.RowKit
instance:eI Tryz.prog 50 (.agg (bq gp)):=⟨by kernel_rfl⟩
theorem SJ(u v:Int)(b:Bool)(w:World):(Instr.build 50 #[(1, .int .i64 u),(2, .int .i64 v),(3, .bool b)]).run Tryz.prog w= .ok (.agg (bq ⟨0,u,v,b⟩)) w:=by
 unfold bq
 kernel_rfl
theorem SK(w:World)(c:Cp)(l:Sl (Sl Int))(hc:Deep.aY (hp w) c)(hl:Deep.aY (hp w) l)(ba:oT (cv c) (aw l.xs)):Calls Tryz.prog 51 #[.agg (az c),l.sv.val] w fun e w'=> ∃zz:Sv,e= .returned (zz.val)∧(True)∧Mem w [own bq 4 zz (hU (cv c) (aw l.xs))] w':=by
 have iC:bV w c:=⟨hc⟩
 have nA:bV w l:=⟨hl⟩
 obtain⟨⟨hk,la⟩,pY,hH⟩:=ba
 have hO:=hl.1.bd
 have dk:=dU c.blocks.xs
 have nv:(cv c).blocks.length=c.blocks.xs.length:=dk
 have gM:=jg.1 (eo.1 hk).1
 simp only[cv,dk]at gM
 have tw:=vi (cv c) (aw l.xs)
 rw[nv]at tw
 have si:(List.replicate (c.blocks.xs.length -2) gp).length=c.blocks.xs.length -2:=List.length_replicate
 refine aX (args:=[_,_]) Tryz.func51 rfl Tryz.ntmps51 rfl ?_
 change Cw _ _ _ _ _ [(0, .agg (az c)),(1,l.sv.val)] []
 refine Gc ?_
 refine bR rfl fun b2=> ?_
 refine Gs ?_
 refine Gc ?_
 iterate 4 refine Gs ?_
 refine rK (enc:=bq) (n:=(c.blocks.xs.length -2)) (cap:=(c.blocks.xs.length -2)) gp rfl rfl rfl (by omega) (by omega) (by omega) (by omega) (by omega) fun n9=> ?_
 refine Gs ?_
 refine Gc ?_
 iterate 3 refine Gs ?_
 refine Gc ?_
 refine bS (X:=Nat×List aD) (fun zz=>[(22, .int .i64 (zz.1:Nat)),(5,(⟨false,n9,0,c.blocks.xs.length -2,c.blocks.xs.length -2,none⟩:Sv).val),(1,l.sv.val),(2, .pointer (some ⟨b2,0,none⟩)),(21, .int .i64 ((List.replicate (c.blocks.xs.length -2) gp).length:Nat))]) (fun zz=>[own bq 4 ⟨false,n9,0,c.blocks.xs.length -2,c.blocks.xs.length -2,none⟩ zz.2,ar b2 (az c) 25]) (fun zz=>zz.1≤c.blocks.xs.length -2∧zz.2.length=c.blocks.xs.length -2∧zz.2.take zz.1=(ji (cv c) (aw l.xs) 0).take zz.1) (fun zz=>c.blocks.xs.length -2 -zz.1) (0,List.replicate (c.blocks.xs.length -2) gp) ⟨Nat.zero_le _,by simp,by simp⟩ (Sub.cons rfl (Sub.cons rfl (Sub.cons rfl (Sub.cons rfl (Sub.cons rfl (Sub.nil _)))))) (fun w hw=>ai.mem hw) ?_
 rintro⟨i,zs⟩ ⟨bh,aE,bB⟩
 dsimp only
 simp only at bh aE bB
 refine Gc ?_
 refine Gs ?_
 refine Gc ?_
 refine au rfl (fun h0=> ?_) (fun h0=> ?_)
 ·
  replace h0:=bz h0
  obtain⟨B,hB⟩:=get_some (xs:=c.blocks.xs) (i:=i+2) (by omega)
  have n8:Mb B c.blocks:=⟨List.mem_of_getElem? hB⟩
  obtain⟨z,hz⟩:=get_some (xs:=zs) (i:=i) (by omega)
  have CQ:(zs.set i (⟨0,B.used,B.bp,B.bad⟩:aD)).take (i+1)=(ji (cv c) (aw l.xs) 0).take (i+1):=by
   have e1:=Ah (f:=id) (z':=(⟨0,B.used,B.bp,B.bad⟩:aD)) hz
   simp only[List.map_id]at e1
   rw[e1,bB,List.take_add_one,Qa,List.getElem?_map,List.getElem?_range (by omega),Option.map_some,show ak (cv c) ((i:Int)+2)=bv B from Dj (i:=i+2) hB]
   rfl
  refine Gc ?_
  iterate 2 refine Gs ?_
  refine Gc ?_
  iterate 4 refine Gs ?_
  refine ag (bc rfl rfl (i+2) rfl (by omega)) ?_
  refine ag (fW rfl (i+2) hB rfl) ?_
  have Kf:Mb B c.blocks:=⟨List.mem_of_getElem? hB⟩
  refine bH fun b7=> ?_
  refine Gs ?_
  refine Gc ?_
  iterate 8 refine Gs ?_
  refine ag (cJ (v:= .agg (bq (⟨0,B.used,B.bp,B.bad⟩:aD))) rfl (SJ B.used B.bp B.bad)) ?_
  refine ag (bc rfl rfl i rfl (by omega)) ?_
  refine jX (s:=⟨false,n9,0,c.blocks.xs.length -2,c.blocks.xs.length -2,none⟩) (n:=4) (k:=i) (j:=0) (a:=z) (a':=(⟨0,B.used,B.bp,B.bad⟩:aD)) (xs:=zs) (enc:=bq) (c:=4) (v:= .agg (bq (⟨0,B.used,B.bp,B.bad⟩:aD))) (by kernel_rfl) rfl rfl rfl hz (bx.one (enc:=bq) (c:=4) _) rfl (by decide) (by rfl) ?_
  refine Gc ?_
  iterate 2 refine Gs ?_
  refine Gi ?_
  exact bu (x:=(i,zs)) (i+1,zs.set i (⟨0,B.used,B.bp,B.bad⟩:aD)) ⟨by first|omega|(simp only[];omega),by rw[List.length_set];exact aE,CQ⟩ (by simp only;omega) (Sub.cons rfl (Sub.cons rfl (Sub.cons rfl (Sub.cons rfl (Sub.cons rfl (Sub.nil _)))))) (fun w hw=>ai.mem hw)
 ·
  replace h0:=bz h0
  obtain rfl:i=zs.length:=by omega
  rw[List.take_length,List.take_of_length_le (by rw[tw];omega)]at bB
  subst bB
  refine Gc ?_
  refine J9 lu nz fun A2=> ?_
  refine Gs ?_
  refine Gc ?_
  iterate 3 refine Gs ?_
  refine Gc ?_
  refine bS (X:=Nat) (fun zz=>[(45, .int .i64 (zz:Nat)),(5,(⟨false,n9,0,c.blocks.xs.length -2,c.blocks.xs.length -2,none⟩:Sv).val),(8, .map (some A2)),(2, .pointer (some ⟨b2,0,none⟩)),(43,l.sv.val),(44, .int .i64 (l.xs.length:Nat))]) (fun zz=>[omap Tryz.prog 3 lu nz A2 (jh (aw l.xs) (aw (l.xs.take zz)).length),own bq 4 ⟨false,n9,0,c.blocks.xs.length -2,c.blocks.xs.length -2,none⟩ (ji (cv c) (aw l.xs) (aw (l.xs.take zz)).length),ar b2 (az c) 25]) (fun zz=>zz≤l.xs.length) (fun zz=>l.xs.length -zz) 0 (Nat.zero_le _) (Sub.cons rfl (Sub.cons rfl (Sub.cons rfl (Sub.cons rfl (Sub.cons rfl (Sub.cons rfl (Sub.nil _))))))) (fun w hw=>by
   have e0:(aw (l.xs.take 0)).length=0:=by simp[aw]
   simp only[e0];rw[←Is];exact ai.mem hw) ?_
  rintro a ha1
  refine Gc ?_
  refine Gs ?_
  refine Gc ?_
  refine au rfl (fun h1=> ?_) (fun h1=> ?_)
  ·
   replace h1:=bz h1
   obtain⟨x,hx⟩:=get_some (xs:=l.xs) (i:=a) (by omega)
   have vQ:Mb x l:=⟨List.mem_of_getElem? hx⟩
   have dY:=(hl.2 x vQ.h).1.bd
   refine Gc ?_
   refine ag (bc rfl rfl a rfl (by omega)) ?_
   refine ag (bF (j:=0) rfl a hx rfl (by decide)) ?_
   have aec:Mb x _:=⟨List.mem_of_getElem? hx⟩
   refine Gs ?_
   refine Gc ?_
   iterate 3 refine Gs ?_
   refine Gc ?_
   refine bS (X:=Nat) (fun zz=>[(51, .int .i64 (zz:Nat)),(5,(⟨false,n9,0,c.blocks.xs.length -2,c.blocks.xs.length -2,none⟩:Sv).val),(8, .map (some A2)),(2, .pointer (some ⟨b2,0,none⟩)),(43,l.sv.val),(44, .int .i64 (l.xs.length:Nat)),(45, .int .i64 (a:Nat)),(49,x.sv.val),(50, .int .i64 (x.xs.length:Nat))]) (fun zz=>[omap Tryz.prog 3 lu nz A2 (jh (aw l.xs) ((aw (l.xs.take a)).length+zz)),own bq 4 ⟨false,n9,0,c.blocks.xs.length -2,c.blocks.xs.length -2,none⟩ (ji (cv c) (aw l.xs) ((aw (l.xs.take a)).length+zz)),ar b2 (az c) 25]) (fun zz=>zz≤x.xs.length) (fun zz=>x.xs.length -zz) 0 (Nat.zero_le _) (Sub.cons rfl (Sub.cons rfl (Sub.cons rfl (Sub.cons rfl (Sub.cons rfl (Sub.cons rfl (Sub.cons rfl (Sub.cons rfl (Sub.cons rfl (Sub.nil _)))))))))) (fun w hw=>ai.mem hw) ?_
   rintro j iY
   refine Gc ?_
   refine Gs ?_
   refine Gc ?_
   refine au rfl (fun h2=> ?_) (fun h2=> ?_)
   ·
    replace h2:=bz h2
    obtain⟨y,hy⟩:=get_some (xs:=x.xs) (i:=j) (by omega)
    have vR:=P9 hx hy
    have SL:=hH y (List.mem_of_getElem? vR)
    have mg:=oR vR
    have sB:=Eu (n:=y) (by omega)
    refine Gc ?_
    refine ag (bc rfl rfl j rfl (by omega)) ?_
    refine ag (bF (j:=0) rfl j hy rfl (by decide)) ?_
    refine Gs ?_
    refine Gc ?_
    iterate 2 refine Gs ?_
    refine ag (Ed (cN:=lu) (dE:=nz) (f:=jh (aw l.xs) ((aw (l.xs.take a)).length+j)) (v:=y) (z:=()) rfl rfl sB) ?_
    refine Gs ?_
    refine ag (aU (v:= .agg #[]) rfl rfl) ?_
    refine ag (aU (v:= .bool ((jh (aw l.xs) ((aw (l.xs.take a)).length+j) y).isSome)) rfl rfl) ?_
    refine bH fun iZ=> ?_
    iterate 2 refine Gs ?_
    refine Gc ?_
    iterate 3 refine Gs ?_
    refine Gg ?_
    refine Gs ?_
    refine Gc ?_
    refine au rfl (fun h3=> ?_) (fun h3=> ?_)
    ·
     replace h3:=bz h3
     have vS:oS (aw l.xs) ((aw (l.xs.take a)).length+j)=false:=by
      rw[oS,mg]
      rw[xJ]at h3
      rcases h3 with h|h
      ·
       simp[h]
      ·
       simp only[decide_eq_true_eq]at h;simp[h.2]
     have SM:jh (aw l.xs) (((aw (l.xs.take a)).length+j)+1)=jh (aw l.xs) ((aw (l.xs.take a)).length+j):=by
      rw[xJ]at h3
      rcases h3 with h|h
      ·
       exact Iu (h▸vR)
      ·
       exact P7 vR (by simpa using h)
     refine Gc ?_
     iterate 2 refine Gs ?_
     refine Gi ?_
     exact bu (x:=(j)) (j+1) (by first|omega|(simp only[];omega)) (by first|omega|(simp only[];omega)) (Sub.cons rfl (Sub.cons rfl (Sub.cons rfl (Sub.cons rfl (Sub.cons rfl (Sub.cons rfl (Sub.cons rfl (Sub.cons rfl (Sub.cons rfl (Sub.nil _)))))))))) (fun w hw=>by
      rw[←Nat.add_assoc,SM,P6 vS];exact ai.mem hw)
    ·
     replace h3:=bz h3
     have tg:y≠0:=h3.1
     obtain⟨b1,b2,b3,b4⟩:=SL.resolve_left tg
     change 2≤((y -1)/c.ae)at b3
     change((y -1)/c.ae)<((fy c.blocks.xs).length:Int)at b4
     rw[dk]at b4
     have vS:oS (aw l.xs) ((aw (l.xs.take a)).length+j)=true:=by
      rw[oS,mg]
      have h9:=h3.2
      rw[xJ]at h9
      simp only[decide_eq_false_iff_not]at h9
      simp only[Bool.and_eq_true,decide_eq_true_eq,Bool.not_eq_true',List.contains_eq_mem,decide_eq_false_iff_not]
      exact⟨tg,fun hm=>h9 ⟨tg,hm⟩⟩
     have dX:=Iv vR tg
     have xn:=vi (cv c) (aw l.xs) ((aw (l.xs.take a)).length+j)
     rw[nv]at xn
     obtain⟨z,hz⟩:=get_some (xs:=ji (cv c) (aw l.xs) ((aw (l.xs.take a)).length+j)) (i:=(((y -1)/c.ae) -2).toNat) (by omega)
     have nB:=P8 vS (i:=(((y -1)/c.ae) -2).toNat) (by rw[mg];show((y -1)/c.ae)=_;omega) hz
     have sf:=Qb hz
     have bZ:=(List.getElem?_eq_some_iff.1 vR).1
     refine Gc ?_
     iterate 2 refine Gs ?_
     refine ag (cJ (v:= .agg #[]) rfl (fun w=>by kernel_rfl)) ?_
     refine Ef (cN:=lu) (dE:=nz) (v:=y) (u:=()) rfl rfl rfl sB ?_
     refine Gc ?_
     iterate 5 refine Gs ?_
     refine ag (mY rfl rfl (by omega) (by omega)) ?_
     refine Gs ?_
     refine ag (bc rfl rfl ((((y -1)/c.ae) -2).toNat) (by omega) (by omega)) ?_
     refine ag (aH rfl rfl) ?_
     refine ag (bF (j:=0) rfl ((((y -1)/c.ae) -2).toNat) hz rfl (by decide)) ?_
     refine Gs ?_
     refine ag (bc rfl rfl ((((y -1)/c.ae) -2).toNat) (by omega) (by omega)) ?_
     refine ag (aH rfl rfl) ?_
     refine jX (s:=⟨false,n9,0,c.blocks.xs.length -2,c.blocks.xs.length -2,none⟩) (n:=1) (k:=(((y -1)/c.ae) -2).toNat) (j:=0) (a:=z) (a':={z with live:=z.live+1}) (xs:=(ji (cv c) (aw l.xs) ((aw (l.xs.take a)).length+j))) (enc:=bq) (c:=4) (v:= .int .i64 (z.live+1)) (by kernel_rfl) rfl rfl rfl hz (by simp[Value.cells,Value.oneCell']) (by rfl) (by decide) (by rfl) ?_
     refine Gc ?_
     iterate 2 refine Gs ?_
     refine Gi ?_
     exact bu (x:=(j)) (j+1) (by first|omega|(simp only[];omega)) (by first|omega|(simp only[];omega)) (Sub.cons rfl (Sub.cons rfl (Sub.cons rfl (Sub.cons rfl (Sub.cons rfl (Sub.cons rfl (Sub.cons rfl (Sub.cons rfl (Sub.cons rfl (Sub.nil _)))))))))) (fun w hw=>by
      rw[←Nat.add_assoc,←dX,nB];exact ai.mem hw)
   ·
    replace h2:=bz h2
    obtain rfl:j=x.xs.length:=by omega
    refine Gc ?_
    iterate 2 refine Gs ?_
    refine Gi ?_
    exact bu (x:=(a)) (a+1) (by first|omega|(simp only[];omega)) (by first|omega|(simp only[];omega)) (Sub.cons rfl (Sub.cons rfl (Sub.cons rfl (Sub.cons rfl (Sub.cons rfl (Sub.cons rfl (Sub.nil _))))))) (fun w hw=>by
     rw[IE hx,List.length_append];exact ai.mem hw)
  ·
   replace h1:=bz h1
   obtain rfl:a=l.xs.length:=by omega
   rw[List.take_length]
   refine Gc ?_
   iterate 2 refine Gs ?_
   refine Gc ?_
   refine aq (.inl rfl) (aG rfl (al rfl)) (fun w1 hw=> ?_)
   exact⟨⟨false,n9,0,c.blocks.xs.length -2,c.blocks.xs.length -2,none⟩,rfl,trivial,by rw[hU];exact ai.mem hw⟩
instance aed{w0:World}{L:List aj}{c:Cp}{l:Sl (Sl Int)}[hc:aT w0 L c][hl:aT w0 L l]:cc Tryz.prog 51 w0 L [.agg (az c),l.sv.val] (Sv) (fun zz=>zz.val) (fun zz=>own bq 4 zz (hU (cv c) (aw l.xs))::L) (fun zz=>True) (oT (cv c) (aw l.xs)):=⟨fun hp w hw=>(SK w c l (hc.h w hw) (hl.h w hw) hp).mono fun e w' ⟨x,h1,h2,h3⟩=>⟨x,h1,h2,hw.call h3⟩⟩
end Go.Proofs.YtaipiecplldinaaGreat
namespace Go.aB
open Go.RowKit
section
variable {P:Program} {N:ct} {w0:World} {env:Env} {L:List aj} {d:Option Tmp} {ty:TypeId} {ps:String} {af:Array Edge} {gd:Option (Nat×Bool)}
class kC(w0:World)(L:List aj)(b:Nat)(cs:outParam (Array Value))(T:outParam TypeId):Prop where
 h: ∀w,Mem w0 L w→w.heap[b]? =some (.cells cs T (0,0))
class ob(w0:World)(b:Nat)(cs:outParam (Array Value))(T:outParam TypeId):Prop where
 h:w0.heap[b]? =some (.cells cs T (0,0))
instance (priority:=high) kC.has {b i:Nat}{cs:Array Value}{T:TypeId}[q:Has L b cs T i]:kC w0 L b cs T:=⟨fun w hw=>hw.block q.h⟩
instance kC.vT{b:Nat}{cs:Array Value}{T:TypeId}[q:ob w0 b cs T]:kC w0 L b cs T:=⟨fun w hw=>by
 have bo:b<w0.heap.size:=by
  rcases Nat.lt_or_ge b w0.heap.size with h|h
  ·
   exact h
  ·
   have:=q.h;simp[Array.getElem?_eq_none h]at this
 rw[hw.below.block b bo];exact q.h⟩
theorem kC.cell{b:Nat}{cs:Array Value}{T:TypeId}(q:kC w0 L b cs T){w:World}(hw:Mem w0 L w)(o:Nat):w.cell? ⟨b,o,none⟩=cs[o]? :=by
 simp[World.cell?,q.h w hw]
theorem lv{t:TypeId}{x:Operand}{b o:Nat}{cs:Array Value}{T:TypeId}{v:Value}(hx:ev env x=some (.pointer (some ⟨b,o,none⟩)))[ht:gh P t][hi:kC w0 L b cs T][hc:cj cs o v]:
  Ry P N w0 env L ⟨d, .load t x,ty,ps,af,gd⟩ v:=uC ht hx fun w hw=>by rw[hi.cell hw];exact hc.h
theorem SN{t:TypeId}{x:Operand}{b o n:Nat}{cs sub:Array Value}{T:TypeId}(hx:ev env x=some (.pointer (some ⟨b,o,none⟩)))[ht:fc P t n][hi:kC w0 L b cs T][hs:mX cs o n sub]:
  Ry P N w0 env L ⟨d, .load t x,ty,ps,af,gd⟩ (.agg sub):=wL ht hx hs.size fun w hw j hj=>by rw[Addr.fI,hi.cell hw];exact hs.h j hj
end
section
variable {w0:World} {L:List aj}
theorem vU{w0 w:World}{L R1 R2 R3:List aj}{e1 e2 e3:aj}{i j k:Nat}(h1:L[i]? =some e1)(d1:L.eraseIdx i=R1)(h2:R1[j]? =some e2)(d2:R1.eraseIdx j=R2)(h3:R2[k]? =some e3)(d3:R2.eraseIdx k=R3)(h:Mem w0 L w):Mem w0 (e1::e2::e3::R3) w:=by
 subst d1;subst d2;subst d3
 exact h.perm ((mv h1).trans (((mv h2).trans ((mv h3).cons _)).cons _))
theorem SO{w0 w:World}{L R1 R2 R3 R4:List aj}{e1 e2 e3 e4:aj}{i j k l:Nat}(h1:L[i]? =some e1)(d1:L.eraseIdx i=R1)(h2:R1[j]? =some e2)(d2:R1.eraseIdx j=R2)(h3:R2[k]? =some e3)(d3:R2.eraseIdx k=R3)(h4:R3[l]? =some e4)(d4:R3.eraseIdx l=R4)(h:Mem w0 L w):Mem w0 (e1::e2::e3::e4::R4) w:=by
 subst d1;subst d2;subst d3;subst d4
 exact h.perm ((mv h1).trans (((mv h2).trans (((mv h3).trans ((mv h4).cons _)).cons _)).cons _))
end
instance (priority:=low) Hd.tail {w0:World}{L:List aj}{e:aj}{s:Sv}{α:Type}{enc:α→Array Value}{c:Nat}{xs:List α}[q:Hd w0 L s enc c xs]:Hd w0 (e::L) s enc c xs:=⟨fun w hw=>q.h w (hw.sub (List.sublist_cons_self _ _))⟩
instance (priority:=low) aT.tail {w0:World}{L:List aj}{e:aj}{τ:Type}[Deep τ]{a:τ}[q:aT w0 L a]:aT w0 (e::L) a:=⟨fun w hw=>q.h w (hw.sub (List.sublist_cons_self _ _))⟩
theorem SP{P:Program}{N:ct}{env:Env}{α:Type}{enc:α→Array Value}{c n:Nat}{t e:TypeId}{cC:Nat}{z:Value}{x y:Operand}{d:Option Tmp}{ty:TypeId}{ps:String}{af:Array Edge}{gd:Option (Nat×Bool)}{k k':IntKind}{ix iy:Int}[he:bx enc c][ht:eK P t e c cC][hz:eI P e z](x0:α)(h0:enc x0=z.cells)(hx:ev env x=some (.int k ix))(hy:ev env y=some (.int k' iy))(ex:ix=(n:Int))(ey:iy=(n:Int))(hb:cC*n≤281474976710656)(ij:n≤140737488355328):
  ∀a,cU N env a→qD P ⟨d, .makeSlice t x y,ty,ps,af,gd⟩ a.eval (pQ enc c n (List.replicate n x0)):=fun a ha w0 w L hw=>by
 subst ex ey
 obtain⟨w',h1,h2⟩:=Ce ht hz (k:=k) (k':=k') (n:=n) x0 h0 (Nat.le_refl _) hb ij w
 exact⟨w.heap.size,w',by simp only[execOp,ha.ev hx,ha.ev hy,Sem.run_bind,h1,Result.andThen,Sem.run_pure],hw.call h2⟩
def oc(f:FuncId):Array Value:= #[.func (.func f) #[] #[]]
instance:bx oc 1:=⟨fun _=>rfl,fun _=>by simp[oc,Value.oneCell']⟩
instance (f:FuncId):cj (oc f) 0 (.func (.func f) #[] #[]):=⟨rfl⟩
class pf(P:Program)(w0:World)(L:List aj)(f:FuncId)(jl:Array Value){α:outParam Type}(enc:outParam (α→Array Value))(R:outParam (α→Bool)):Prop where
 fn:aR P f
 h: ∀w,Mem w0 L w→ ∀x,Calls P f ((Value.agg (enc x)::jl.toList).toArray) w fun e w'=>e= .returned (.bool (R x))∧Mem w [] w'
theorem pf.at{P:Program}{w0:World}{L:List aj}{f:FuncId}{jl:Array Value}{α:Type}{enc:α→Array Value}{R:α→Bool}(q:pf P w0 L f jl enc R){w:World}(hw:Mem w0 L w):pf P w [] f jl enc R:=
 ⟨q.fn,fun w1 h1 x=>q.h w1 (by simpa using hw.call h1) x⟩
end Go.aB
namespace Go.Proofs.YtaipiecplldinaaGreat
open Go.aB Go.Kb
open Go.RowKit
instance:eI Tryz.prog 234 (.agg (da PM)):=⟨by kernel_rfl⟩
theorem Ev(x:aD)(p:Int)(w:World):(Instr.build 234 #[(0, .agg (bq x)),(1, .int .i64 p)]).run Tryz.prog w= .ok (.agg (da ⟨x,p⟩)) w:=by
 obtain⟨a,b,c,d⟩:=x
 unfold da bq
 kernel_rfl
theorem SQ(w:World)(a:Int):Calls Tryz.prog 198 #[.int .i64 a] w fun e w'=>e= .returned (.bool false)∧Mem w [] w':=by
 refine aX (args:=[_]) Tryz.func198 rfl Tryz.ntmps198 rfl ?_
 change Cw _ _ _ _ _ [(0, .int .i64 a)] []
 refine Gc ?_
 refine Gs ?_
 refine Gc ?_
 iterate 4 refine Gs ?_
 refine Gc ?_
 refine aq (.inl rfl) (aG rfl (al rfl)) (fun w1 hw=> ?_)
 exact⟨congrArg (fun b=>Ending.returned (Value.bool b)) ((by simp)),ai.mem hw⟩
instance aee{w0:World}{L:List aj}{a:Int}:cw Tryz.prog 198 w0 L [.int .i64 a] (.bool false) (True):=⟨fun hp w hw=>SQ w a⟩
theorem SR(w:World)(a:Int)(b:Int):Calls Tryz.prog 197 #[.int .i64 a, .int .i64 b] w fun e w'=>e= .returned (.int .i64 (rU a b))∧Mem w [] w':=by
 refine aX (args:=[_,_]) Tryz.func197 rfl Tryz.ntmps197 rfl ?_
 change Cw _ _ _ _ _ [(0, .int .i64 a),(1, .int .i64 b)] []
 refine Gc ?_
 refine Gs ?_
 refine Gc ?_
 iterate 3 refine Gs ?_
 refine Gc ?_
 iterate 3 refine Gs ?_
 refine Gc ?_
 refine Gs ?_
 refine Gc ?_
 refine au rfl (fun h0=> ?_) (fun h0=> ?_)
 ·
  exfalso;simp at h0
 ·
  replace h0:=bz h0
  refine Gc ?_
  refine Gs ?_
  refine Gc ?_
  refine au rfl (fun h2=> ?_) (fun h2=> ?_)
  ·
   exfalso;simp at h2
  ·
   replace h2:=bz h2
   refine Gc ?_
   iterate 3 refine Gs ?_
   refine Gc ?_
   refine au rfl (fun h3=> ?_) (fun h3=> ?_)
   ·
    replace h3:=bz h3
    refine Gc ?_
    refine Gs ?_
    refine Gc ?_
    refine aq (.inl rfl) (aG rfl (al rfl)) (fun w1 hw=> ?_)
    exact⟨congrArg (fun b=>Ending.returned (Value.int .i64 b)) ((by rw[rU,if_pos (by omega)])),ai.mem hw⟩
   ·
    replace h3:=bz h3
    refine Gc ?_
    iterate 3 refine Gs ?_
    refine Gc ?_
    refine au rfl (fun h4=> ?_) (fun h4=> ?_)
    ·
     replace h4:=bz h4
     refine Gc ?_
     refine Gs ?_
     refine Gc ?_
     refine aq (.inl rfl) (aG rfl (al rfl)) (fun w1 hw=> ?_)
     exact⟨congrArg (fun b=>Ending.returned (Value.int .i64 b)) ((by rw[rU,if_neg (by omega),if_pos (by omega)])),ai.mem hw⟩
    ·
     replace h4:=bz h4
     refine Gc ?_
     refine Gs ?_
     refine Gc ?_
     refine aq (.inl rfl) (aG rfl (al rfl)) (fun w1 hw=> ?_)
     exact⟨congrArg (fun b=>Ending.returned (Value.int .i64 b)) ((by rw[rU,if_neg (by omega),if_neg (by omega)])),ai.mem hw⟩
instance aef{w0:World}{L:List aj}{a:Int}{b:Int}:cw Tryz.prog 197 w0 L [.int .i64 a, .int .i64 b] (.int .i64 (rU a b)) (True):=⟨fun hp w hw=>SR w a b⟩
theorem Kk(w:World)(b:gH):Calls Tryz.prog 187 #[.agg (da b)] w fun e w'=>e= .returned (.bool (nW b.ae b.w))∧Mem w [] w':=by
 refine aX (args:=[_]) Tryz.func187 rfl Tryz.ntmps187 rfl ?_
 change Cw _ _ _ _ _ [(0, .agg (da b))] []
 refine Gc ?_
 refine bR rfl fun b1=> ?_
 refine Gs ?_
 refine Gc ?_
 iterate 5 refine Gs ?_
 refine Gg ?_
 refine gB rfl rfl rfl (fun hg=>(Ry.yl (aH (o':=1) (aF hg rfl) rfl))) ?_
 iterate 4 refine Gg ?_
 iterate 2 refine Gs ?_
 refine Gc ?_
 refine aq (.inl rfl) (aG rfl (al rfl)) (fun w1 hw=> ?_)
 exact⟨congrArg (fun b=>Ending.returned (Value.bool b)) (by simp only[nW,Bool.and_assoc]),ai.mem hw⟩
instance aeg{w0:World}{L:List aj}{b:gH}:cw Tryz.prog 187 w0 L [.agg (da b)] (.bool (nW b.ae b.w)) (True):=⟨fun hp w hw=>Kk w b⟩
theorem Kl(w:World)(b:gH):Calls Tryz.prog 185 #[.agg (da b)] w fun e w'=>e= .returned (.bool (nX b.w))∧Mem w [] w':=by
 refine aX (args:=[_]) Tryz.func185 rfl Tryz.ntmps185 rfl ?_
 change Cw _ _ _ _ _ [(0, .agg (da b))] []
 refine Gc ?_
 refine bR rfl fun b1=> ?_
 refine Gs ?_
 refine Gc ?_
 iterate 5 refine Gs ?_
 refine Gg ?_
 refine gB rfl rfl rfl (fun hg=>(Ry.yl (aH (o':=0) (aF hg rfl) rfl))) ?_
 iterate 2 refine Gg ?_
 iterate 2 refine Gs ?_
 refine Gg ?_
 refine gB rfl rfl rfl (fun hg=>(Ry.yl (aH (o':=1) (aF hg rfl) rfl))) ?_
 iterate 2 refine Gg ?_
 iterate 2 refine Gs ?_
 refine Gc ?_
 refine aq (.inl rfl) (aG rfl (al rfl)) (fun w1 hw=> ?_)
 exact⟨congrArg (fun b=>Ending.returned (Value.bool b)) (by simp only[nX,Bool.and_assoc]),ai.mem hw⟩
instance aeh{w0:World}{L:List aj}{b:gH}:cw Tryz.prog 185 w0 L [.agg (da b)] (.bool (nX b.w)) (True):=⟨fun hp w hw=>Kl w b⟩
theorem SS(w:World)(b:gH):Calls Tryz.prog 189 #[.agg (da b)] w fun e w'=>e= .returned (.bool (xK b.ae b.w))∧Mem w [] w':=by
 refine aX (args:=[_]) Tryz.func189 rfl Tryz.ntmps189 rfl ?_
 change Cw _ _ _ _ _ [(0, .agg (da b))] []
 refine Gc ?_
 refine bR rfl fun b1=> ?_
 refine Gs ?_
 refine Gc ?_
 iterate 3 refine Gs ?_
 refine Gc ?_
 refine au rfl (fun h0=> ?_) (fun h0=> ?_)
 ·
  replace h0:=bz h0
  refine Gc ?_
  iterate 5 refine Gs ?_
  refine Gc ?_
  refine aq (.inl rfl) (aG rfl (al rfl)) (fun w1 hw=> ?_)
  exact⟨congrArg (fun b=>Ending.returned (Value.bool b)) (by rw[xK,if_pos h0]),ai.mem hw⟩
 ·
  replace h0:=bz h0
  refine Gc ?_
  iterate 7 refine Gs ?_
  refine Gg ?_
  refine gB rfl rfl rfl (fun hg=>(Ry.yl (aH (o':=0) (aF hg rfl) rfl))) ?_
  iterate 2 refine Gg ?_
  iterate 2 refine Gs ?_
  refine Gg ?_
  refine gB rfl rfl rfl (fun hg=>(Ry.yl (aH (o':=0) (aF hg rfl) rfl))) ?_
  iterate 4 refine Gg ?_
  iterate 2 refine Gs ?_
  refine Gc ?_
  refine aq (.inl rfl) (aG rfl (al rfl)) (fun w1 hw=> ?_)
  exact⟨congrArg (fun b=>Ending.returned (Value.bool b)) (by rw[xK,if_neg (by rw[h0];simp)]),ai.mem hw⟩
theorem SU(w:World)(a:gH)(b:gH):Calls Tryz.prog 188 #[.agg (da a), .agg (da b)] w fun e w'=>e= .returned (.int .i64 (Dn a.w b.w))∧Mem w [] w':=by
 refine aX (args:=[_,_]) Tryz.func188 rfl Tryz.ntmps188 rfl ?_
 change Cw _ _ _ _ _ [(0, .agg (da a)),(1, .agg (da b))] []
 refine Gc ?_
 refine bR rfl fun b2=> ?_
 refine bR rfl fun b3=> ?_
 refine Gs ?_
 refine Gc ?_
 iterate 8 refine Gs ?_
 refine Gc ?_
 refine aq (.inl rfl) (aG rfl (al rfl)) (fun w1 hw=> ?_)
 exact⟨congrArg (fun b=>Ending.returned (Value.int .i64 b)) (rfl),ai.mem hw⟩
theorem SV(w:World)(a:gH)(b:gH):Calls Tryz.prog 186 #[.agg (da a), .agg (da b)] w fun e w'=>e= .returned (.int .i64 (xL a.w b.w))∧Mem w [] w':=by
 refine aX (args:=[_,_]) Tryz.func186 rfl Tryz.ntmps186 rfl ?_
 change Cw _ _ _ _ _ [(0, .agg (da a)),(1, .agg (da b))] []
 refine Gc ?_
 refine bR rfl fun b2=> ?_
 refine bR rfl fun b3=> ?_
 refine Gs ?_
 refine Gc ?_
 iterate 8 refine Gs ?_
 refine Gc ?_
 refine aq (.inl rfl) (aG rfl (al rfl)) (fun w1 hw=> ?_)
 exact⟨congrArg (fun b=>Ending.returned (Value.int .i64 b)) (rfl),ai.mem hw⟩
theorem SW(w:World)(a:gH)(b:gH):Calls Tryz.prog 191 #[.agg (da a), .agg (da b)] w fun e w'=>e= .returned (.int .i64 (Dp a.w b.w))∧Mem w [] w':=by
 refine aX (args:=[_,_]) Tryz.func191 rfl Tryz.ntmps191 rfl ?_
 change Cw _ _ _ _ _ [(0, .agg (da a)),(1, .agg (da b))] []
 refine Gc ?_
 refine bR rfl fun b2=> ?_
 refine bR rfl fun b3=> ?_
 refine Gs ?_
 refine Gc ?_
 iterate 8 refine Gs ?_
 refine Gc ?_
 refine aq (.inl rfl) (aG rfl (al rfl)) (fun w1 hw=> ?_)
 exact⟨congrArg (fun b=>Ending.returned (Value.int .i64 b)) (rfl),ai.mem hw⟩
theorem SX(w:World)(a:gH)(b:gH):Calls Tryz.prog 190 #[.agg (da a), .agg (da b)] w fun e w'=>e= .returned (.int .i64 (vj a.w b.w))∧Mem w [] w':=by
 refine aX (args:=[_,_]) Tryz.func190 rfl Tryz.ntmps190 rfl ?_
 change Cw _ _ _ _ _ [(0, .agg (da a)),(1, .agg (da b))] []
 refine Gc ?_
 refine bR rfl fun b2=> ?_
 refine bR rfl fun b3=> ?_
 refine Gs ?_
 refine Gc ?_
 iterate 6 refine Gs ?_
 refine ag (M5 rfl rfl Tryz.underlying4) ?_
 refine Gs ?_
 refine Gc ?_
 refine au rfl (fun h0=> ?_) (fun h0=> ?_)
 ·
  replace h0:=bz h0
  refine Gc ?_
  refine Gs ?_
  refine Gc ?_
  refine aq (.inl rfl) (aG rfl (al rfl)) (fun w1 hw=> ?_)
  exact⟨congrArg (fun b=>Ending.returned (Value.int .i64 b)) ((by rw[vj,if_pos (by simpa using h0)])),ai.mem hw⟩
 ·
  replace h0:=bz h0
  refine Gc ?_
  iterate 4 refine Gs ?_
  refine Gc ?_
  refine au rfl (fun h1=> ?_) (fun h1=> ?_)
  ·
   replace h1:=bz h1
   refine Gc ?_
   refine Gs ?_
   refine Gc ?_
   refine aq (.inl rfl) (aG rfl (al rfl)) (fun w1 hw=> ?_)
   exact⟨congrArg (fun b=>Ending.returned (Value.int .i64 b)) ((by rw[vj,if_neg (by simpa using h0),if_pos h1])),ai.mem hw⟩
  ·
   replace h1:=bz h1
   refine Gc ?_
   refine Gs ?_
   refine Gc ?_
   refine aq (.inl rfl) (aG rfl (al rfl)) (fun w1 hw=> ?_)
   exact⟨congrArg (fun b=>Ending.returned (Value.int .i64 b)) ((by rw[vj,if_neg (by simpa using h0),if_neg (by rw[h1];simp)])),ai.mem hw⟩
theorem SY(w:World)(l:Sv)(ls:List aD)(p:Int)(hl:bP bq 4 (hp w) l ls):Calls Tryz.prog 195 #[l.val, .int .i64 p] w fun e w'=>e= .returned (.bool (lY ls p))∧Mem w [] w':=by
 have nA:Gv w l bq 4 ls:=⟨hl⟩
 have qQ:c8=1099511627776:=rfl
 refine aX (args:=[_,_]) Tryz.func195 rfl Tryz.ntmps195 rfl ?_
 change Cw _ _ _ _ _ [(0,l.val),(1, .int .i64 p)] []
 refine Gc ?_
 refine Gs ?_
 refine Gc ?_
 iterate 4 refine Gs ?_
 iterate 3 refine Gg ?_
 iterate 2 refine Gs ?_
 iterate 2 refine Gg ?_
 iterate 2 refine Gs ?_
 iterate 2 refine Gg ?_
 refine Gs ?_
 refine Gc ?_
 refine au rfl (fun h0=> ?_) (fun h0=> ?_)
 ·
  replace h0:=bz h0
  have hz:lY ls p=false:=by
   cases hk:lY ls p with
   |false=>rfl
   |true=>have g:=vk.1 hk;omega
  refine Gc ?_
  refine Gs ?_
  refine Gc ?_
  refine aq (.inl rfl) (aG rfl (al rfl)) (fun w1 hw=> ?_)
  exact⟨congrArg (fun b=>Ending.returned (Value.bool b)) (hz.symm),ai.mem hw⟩
 ·
  replace h0:=bz h0
  refine Gc ?_
  iterate 3 refine Gs ?_
  refine Gc ?_
  refine bS (X:=Nat) (fun zz=>[(25, .int .i64 (zz:Nat)),(1, .int .i64 p),(23,l.val),(24, .int .i64 (ls.length:Nat))]) (fun zz=>[]) (fun zz=>zz≤ls.length∧ ∀j x,j<zz→ls[j]? =Option.some x→rV p x=true) (fun zz=>ls.length -zz) 0 ⟨Nat.zero_le _,fun j x hj=>by first|omega|(simp only[];omega)⟩ (Sub.cons rfl (Sub.cons rfl (Sub.cons rfl (Sub.cons rfl (Sub.nil _))))) (fun w hw=>ai.mem hw) ?_
  rintro i ⟨bh,aE⟩
  refine Gc ?_
  refine Gs ?_
  refine Gc ?_
  refine au rfl (fun h1=> ?_) (fun h1=> ?_)
  ·
   replace h1:=bz h1
   iterate 6 refine Gi ?_
   obtain⟨x,hx⟩:=get_some (xs:=ls) (i:=i) (by omega)
   refine ag (bc rfl rfl i rfl (by omega)) ?_
   refine ag (fW rfl i hx rfl) ?_
   refine bH fun b6=> ?_
   refine Gs ?_
   refine Gc ?_
   iterate 4 refine Gs ?_
   iterate 5 refine Gg ?_
   iterate 2 refine Gs ?_
   iterate 4 refine Gg ?_
   iterate 2 refine Gs ?_
   iterate 3 refine Gg ?_
   iterate 2 refine Gs ?_
   iterate 3 refine Gg ?_
   refine Gs ?_
   refine Gc ?_
   refine au rfl (fun h2=> ?_) (fun h2=> ?_)
   ·
    replace h2:=bz h2
    have hz:lY ls p=false:=by
     cases hk:lY ls p with
     |false=>rfl
     |true=>
      have g:=rW.1 ((vk.1 hk).2.2.2.2 x (List.mem_of_getElem? hx))
      omega
    refine Gc ?_
    refine Gs ?_
    refine Gc ?_
    refine aq (.inl rfl) (aG rfl (al rfl)) (fun w1 hw=> ?_)
    exact⟨congrArg (fun b=>Ending.returned (Value.bool b)) (hz.symm),ai.mem hw⟩
   ·
    replace h2:=bz h2
    have nZ:rV p x=true:=rW.2 ⟨by omega,by omega,by omega,by omega,by omega⟩
    refine Gc ?_
    iterate 2 refine Gs ?_
    refine Gi ?_
    exact bu (x:=(i)) (i+1) ⟨by first|omega|(simp only[];omega),fun j y hj hy=>if e:j=i then(by subst e;rw[hx]at hy;cases hy;exact nZ)else aE j y (by first|omega|(simp only[];omega)) hy⟩ (by first|omega|(simp only[];omega)) (Sub.cons rfl (Sub.cons rfl (Sub.cons rfl (Sub.cons rfl (Sub.nil _))))) (fun w hw=>ai.mem hw)
  ·
   replace h1:=bz h1
   obtain rfl:i=ls.length:=by omega
   have hz:lY ls p=true:=vk.2 ⟨by omega,by omega,by omega,by omega,fun x hx=>by
    obtain⟨j,hj⟩:=List.getElem?_of_mem hx
    exact aE j x (List.getElem?_eq_some_iff.1 hj).1 hj⟩
   refine Gc ?_
   refine Gs ?_
   refine Gc ?_
   refine aq (.inl rfl) (aG rfl (al rfl)) (fun w1 hw=> ?_)
   exact⟨congrArg (fun b=>Ending.returned (Value.bool b)) (hz.symm),ai.mem hw⟩
instance aei{w0:World}{L:List aj}{l:Sv}{ls:List aD}{p:Int}[hl:cO w0 L bq 4 l ls]:cw Tryz.prog 195 w0 L [l.val, .int .i64 p] (.bool (lY ls p)) (True):=⟨fun hp w hw=>SY w l ls p (hl.h w hw)⟩
def fF(f:FuncId):aD→aD→Int:=if f=188 then Dn else if f=186 then xL else if f=191 then Dp else vj
theorem SZ{f:FuncId}(h:f∈[188,186,191,190]):aR Tryz.prog f∧ ∀(w:World) (a b:gH),Calls Tryz.prog f #[.agg (da a), .agg (da b)] w fun e w'=>e= .returned (.int .i64 (fF f a.w b.w))∧Mem w [] w':=by
 simp only[List.mem_cons,List.not_mem_nil,or_false]at h
 rcases h with rfl|rfl|rfl|rfl
 ·
  exact⟨inferInstance,fun w a b=>SU w a b⟩
 ·
  exact⟨inferInstance,fun w a b=>SV w a b⟩
 ·
  exact⟨inferInstance,fun w a b=>SW w a b⟩
 ·
  exact⟨inferInstance,fun w a b=>SX w a b⟩
def jR(f:FuncId)(p:Int):aD→Bool:=if f=187 then nW p else if f=185 then nX else xK p
theorem S0{f:FuncId}(h:f∈[187,185,189]):aR Tryz.prog f∧ ∀(w:World) (b:gH),Calls Tryz.prog f #[.agg (da b)] w fun e w'=>e= .returned (.bool (jR f b.ae b.w))∧Mem w [] w':=by
 simp only[List.mem_cons,List.not_mem_nil,or_false]at h
 rcases h with rfl|rfl|rfl
 ·
  exact⟨inferInstance,fun w b=>Kk w b⟩
 ·
  exact⟨inferInstance,fun w b=>Kl w b⟩
 ·
  exact⟨inferInstance,fun w b=>SS w b⟩
theorem S1(w:World)(a:gH)(b:gH)(o:Sv)(os:List FuncId)(ho:bP oc 1 (hp w) o os)(ba: ∀f∈os,f∈[188,186,191,190]):Calls Tryz.prog 196 #[.agg (da a), .agg (da b),o.val] w fun e w'=>e= .returned (.bool (oU a.w b.w (os.map fF)))∧Mem w [] w':=by
 have S2:Gv w o oc 1 os:=⟨ho⟩
 have hO:=ho.bd
 refine aX (args:=[_,_,_]) Tryz.func196 rfl Tryz.ntmps196 rfl ?_
 change Cw _ _ _ _ _ [(0, .agg (da a)),(1, .agg (da b)),(2,o.val)] []
 refine Gc ?_
 refine bR rfl fun b3=> ?_
 refine bR rfl fun b4=> ?_
 refine Gs ?_
 refine Gc ?_
 iterate 3 refine Gs ?_
 refine Gc ?_
 refine bS (X:=Nat) (fun zz=>[(12, .int .i64 (zz:Nat)),(3, .pointer (some ⟨b3,0,none⟩)),(4, .pointer (some ⟨b4,0,none⟩)),(10,o.val),(11, .int .i64 (os.length:Nat))]) (fun zz=>[ar b4 (da b) 234,ar b3 (da a) 234]) (fun zz=>zz≤os.length∧oU a.w b.w (os.map fF)=oU a.w b.w ((os.drop zz).map fF)) (fun zz=>os.length -zz) 0 ⟨Nat.zero_le _,rfl⟩ (Sub.cons rfl (Sub.cons rfl (Sub.cons rfl (Sub.cons rfl (Sub.cons rfl (Sub.nil _)))))) (fun w hw=>ai.mem hw) ?_
 rintro i ⟨bh,aE⟩
 refine Gc ?_
 refine Gs ?_
 refine Gc ?_
 refine au rfl (fun h0=> ?_) (fun h0=> ?_)
 ·
  replace h0:=bz h0
  obtain⟨f,hf⟩:=get_some (xs:=os) (i:=i) (by omega)
  obtain⟨S3,S4⟩:=SZ (ba f (List.mem_of_getElem? hf))
  have bE:oU a.w b.w ((os.drop i).map fF)=if fF f a.w b.w≠0 then decide (fF f a.w b.w<0)else oU a.w b.w ((os.drop (i+1)).map fF):=by
   rw[vm hf,List.map_cons,oU]
  refine Gc ?_
  refine ag (bc rfl rfl i rfl (by omega)) ?_
  refine ag (bF (j:=0) rfl i hf rfl (by decide)) ?_
  refine Gs ?_
  refine Gc ?_
  iterate 3 refine Gs ?_
  refine eS (AU (f:=f) (vs:=[.agg (da a), .agg (da b)]) rfl rfl (fun w1 _=>S4 w1 a b)) ?_
  refine Gs ?_
  refine Gc ?_
  iterate 2 refine Gs ?_
  refine Gc ?_
  refine au rfl (fun h1=> ?_) (fun h1=> ?_)
  ·
   replace h1:=bz h1
   have hz:oU a.w b.w (os.map fF)=decide (fF f a.w b.w<0):=by rw[aE,bE,if_pos h1]
   refine Gc ?_
   iterate 3 refine Gs ?_
   refine Gc ?_
   refine aq (.inl rfl) (aG rfl (al rfl)) (fun w1 hw=> ?_)
   exact⟨congrArg (fun b=>Ending.returned (Value.bool b)) (hz.symm),ai.mem hw⟩
  ·
   replace h1:=bz h1
   rw[if_neg (by omega)]at bE
   refine Gc ?_
   iterate 2 refine Gs ?_
   refine Gi ?_
   exact bu (x:=(i)) (i+1) ⟨by first|omega|(simp only[];omega),by rw[aE,bE]⟩ (by first|omega|(simp only[];omega)) (Sub.cons rfl (Sub.cons rfl (Sub.cons rfl (Sub.cons rfl (Sub.cons rfl (Sub.nil _)))))) (fun w hw=>ai.mem hw)
 ·
  replace h0:=bz h0
  obtain rfl:i=os.length:=by omega
  have hz:oU a.w b.w (os.map fF)=false:=by rw[aE,List.drop_length];rfl
  refine Gc ?_
  refine Gs ?_
  refine Gc ?_
  refine aq (.inl rfl) (aG rfl (al rfl)) (fun w1 hw=> ?_)
  exact⟨congrArg (fun b=>Ending.returned (Value.bool b)) (hz.symm),ai.mem hw⟩
instance aej{w0:World}{L:List aj}{a:gH}{b:gH}{o:Sv}{os:List FuncId}[ho:cO w0 L oc 1 o os]:cw Tryz.prog 196 w0 L [.agg (da a), .agg (da b),o.val] (.bool (oU a.w b.w (os.map fF))) (∀f∈os,f∈[188,186,191,190]):=⟨fun hp w hw=>S1 w a b o os (ho.h w hw) hp⟩
theorem S5(w:World)(r:FuncId)(l:Sv)(ls:List aD)(p:Int)(o:Sv)(os:List FuncId)(hl:bP bq 4 (hp w) l ls)(ho:bP oc 1 (hp w) o os)(ba:r∈[187,185,189]∧ ∀f∈os,f∈[188,186,191,190]):Calls Tryz.prog 184 #[l.val, .int .i64 p, .func (.func r) #[] #[],o.val] w fun e w'=>e= .returned (.tuple #[.int .i64 ((fB ls p (jR r p) (os.map fF)).1), .bool ((fB ls p (jR r p) (os.map fF)).2)])∧Mem w [] w':=by
 have nA:Gv w l bq 4 ls:=⟨hl⟩
 have S2:Gv w o oc 1 os:=⟨ho⟩
 obtain⟨fR,S6⟩:=ba
 obtain⟨isr,S7⟩:=S0 fR
 have hO:=hl.bd
 refine aX (args:=[_,_,_,_]) Tryz.func184 rfl Tryz.ntmps184 rfl ?_
 change Cw _ _ _ _ _ [(0,l.val),(1, .int .i64 p),(2, .func (.func r) #[] #[]),(3,o.val)] []
 refine Gc ?_
 iterate 2 refine Gs ?_
 refine Gc ?_
 iterate 4 refine Gs ?_
 refine Gc ?_
 refine au rfl (fun h0=> ?_) (fun h0=> ?_)
 ·
  replace h0:=bz h0
  have hE:fB ls p (jR r p) (os.map fF)=(0,false):=if_neg (by rw[h0];simp)
  refine Gc ?_
  iterate 2 refine Gs ?_
  refine Gc ?_
  refine aq (.inl rfl) (bk rfl (al rfl) (al rfl)) (fun w1 hw=> ?_)
  exact⟨by rw[hE],ai.mem hw⟩
 ·
  replace h0:=bz h0
  have hE:fB ls p (jR r p) (os.map fF)=gq ls (jR r p) (os.map fF) ls.length:=if_pos h0
  refine Gc ?_
  iterate 2 refine Gs ?_
  refine Gc ?_
  iterate 3 refine Gs ?_
  refine Gc ?_
  refine bS (X:=Nat) (fun zz=>[(21, .int .i64 (zz:Nat)),(10, .int .i64 ((gq ls (jR r p) (os.map fF) zz).1)),(11, .bool ((gq ls (jR r p) (os.map fF) zz).2)),(0,l.val),(1, .int .i64 p),(2, .func (.func r) #[] #[]),(3,o.val),(19,l.val),(20, .int .i64 (ls.length:Nat))]) (fun zz=>[]) (fun zz=>zz≤ls.length) (fun zz=>ls.length -zz) 0 (Nat.zero_le _) (Sub.cons rfl (Sub.cons rfl (Sub.cons rfl (Sub.cons rfl (Sub.cons rfl (Sub.cons rfl (Sub.cons rfl (Sub.cons rfl (Sub.cons rfl (Sub.nil _)))))))))) (fun w hw=>ai.mem hw) ?_
  rintro i bh
  refine Gc ?_
  refine Gs ?_
  refine Gc ?_
  refine au rfl (fun h1=> ?_) (fun h1=> ?_)
  ·
   replace h1:=bz h1
   obtain⟨x,hx⟩:=get_some (xs:=ls) (i:=i) (by omega)
   have Ew:ls.getD i gp=x:=by simp[List.getD,hx]
   have hle:=Dq ls (jR r p) (os.map fF) i
   refine Gc ?_
   refine Gs ?_
   refine ag (bc rfl rfl i rfl (by omega)) ?_
   refine ag (fW rfl i hx rfl) ?_
   refine bH fun iZ=> ?_
   iterate 2 refine Gs ?_
   refine Gc ?_
   iterate 2 refine Gs ?_
   refine ag (cJ (v:= .agg (da ⟨x,p⟩)) rfl (Ev x p)) ?_
   refine bH fun AY=> ?_
   refine Gs ?_
   refine Gc ?_
   iterate 2 refine Gs ?_
   refine eS (AU (f:=r) (vs:=[.agg (da ⟨x,p⟩)]) rfl rfl (fun w1 _=>S7 w1 ⟨x,p⟩)) ?_
   refine Gs ?_
   refine Gc ?_
   refine au rfl (fun h2=> ?_) (fun h2=> ?_)
   ·
    replace h2:=bz h2
    have bE:(gq ls (jR r p) (os.map fF) (i+1))=(gq ls (jR r p) (os.map fF) i):=by rw[gq,vl,Ew,if_neg (by rw[h2];simp)]
    refine Gc ?_
    iterate 2 refine Gs ?_
    refine Gi ?_
    exact bu (x:=(i)) (i+1) (by first|omega|(simp only[];omega)) (by first|omega|(simp only[];omega)) (Sub.cons rfl (Sub.cons (look_eq rfl (by rw[bE])) (Sub.cons (look_eq rfl (by rw[bE])) (Sub.cons rfl (Sub.cons rfl (Sub.cons rfl (Sub.cons rfl (Sub.cons rfl (Sub.cons rfl (Sub.nil _)))))))))) (fun w hw=>ai.mem hw)
   ·
    replace h2:=bz h2
    refine Gc ?_
    refine gk (by kernel_rfl) (by kernel_rfl) ?_
    iterate 3 refine Gq ?_
    refine hK rfl rfl rfl (fun hg=>(Ry.yl (eR rfl))) ?_
    iterate 2 refine Gh ?_
    refine hK rfl rfl rfl (fun hg=>(Ry.yl (bc (aF hg rfl) (aF hg rfl) ((gq ls (jR r p) (os.map fF) i).1.toNat) (by omega) (by have:=hle.1;have:=hle.2.1;have:=(List.getElem?_eq_some_iff.1 hx).1;omega)))) ?_
    refine hK rfl rfl rfl (fun hg=>(Ry.yl (fW (aF hg rfl) ((gq ls (jR r p) (os.map fF) i).1.toNat) (m0 (d:=gp) (by have:=hle.1;have:=hle.2.1;have:=(List.getElem?_eq_some_iff.1 hx).1;omega)) rfl))) ?_
    refine Gh ?_
    refine hK rfl rfl rfl (fun hg=>(Ry.yl (cJ (v:= .agg (da ⟨(ls.getD (gq ls (jR r p) (os.map fF) i).1.toNat gp),p⟩)) (wO (aF hg rfl) (wO (aF hg rfl) Gp)) (Ev (ls.getD (gq ls (jR r p) (os.map fF) i).1.toNat gp) p)))) ?_
    refine Gh ?_
    refine hK rfl rfl rfl (fun hg=>cy (dw (aF hg rfl) (dw (aF hg rfl) (dw (aF hg rfl) gg))) S6) ?_
    refine Gq ?_
    refine Gc ?_
    refine au rfl (fun h3=> ?_) (fun h3=> ?_)
    ·
     replace h3:=bz h3
     have bE:(gq ls (jR r p) (os.map fF) (i+1))=((i:Int),true):=by
      rw[gq,vl,Ew,if_pos ⟨h2,h3⟩]
     refine Gi ?_
     iterate 3 refine Gs ?_
     refine Gc ?_
     iterate 2 refine Gs ?_
     refine Gi ?_
     exact bu (x:=(i)) (i+1) (by first|omega|(simp only[];omega)) (by first|omega|(simp only[];omega)) (Sub.cons rfl (Sub.cons (look_eq rfl (by rw[bE])) (Sub.cons (look_eq rfl (by rw[bE])) (Sub.cons rfl (Sub.cons rfl (Sub.cons rfl (Sub.cons rfl (Sub.cons rfl (Sub.cons rfl (Sub.nil _)))))))))) (fun w hw=>ai.mem hw)
    ·
     replace h3:=bz h3
     have bE:(gq ls (jR r p) (os.map fF) (i+1))=(gq ls (jR r p) (os.map fF) i):=by
      rw[gq,vl,Ew,if_neg]
      rintro⟨_,g⟩
      rcases g with g|g
      ·
       exact absurd (h3.1.symm.trans g) (by simp)
      ·
       exact absurd (h3.2.symm.trans g) (by simp)
     refine Gc ?_
     iterate 2 refine Gs ?_
     refine Gi ?_
     exact bu (x:=(i)) (i+1) (by first|omega|(simp only[];omega)) (by first|omega|(simp only[];omega)) (Sub.cons rfl (Sub.cons (look_eq rfl (by rw[bE])) (Sub.cons (look_eq rfl (by rw[bE])) (Sub.cons rfl (Sub.cons rfl (Sub.cons rfl (Sub.cons rfl (Sub.cons rfl (Sub.cons rfl (Sub.nil _)))))))))) (fun w hw=>ai.mem hw)
  ·
   replace h1:=bz h1
   obtain rfl:i=ls.length:=by omega
   refine Gc ?_
   iterate 4 refine Gs ?_
   refine Gc ?_
   refine aq (.inl rfl) (bk rfl (al rfl) (al rfl)) (fun w1 hw=> ?_)
   exact⟨by rw[hE],ai.mem hw⟩
instance aek{w0:World}{L:List aj}{r:FuncId}{l:Sv}{ls:List aD}{p:Int}{o:Sv}{os:List FuncId}[hl:cO w0 L bq 4 l ls][ho:cO w0 L oc 1 o os]:cw Tryz.prog 184 w0 L [l.val, .int .i64 p, .func (.func r) #[] #[],o.val] (.tuple #[.int .i64 ((fB ls p (jR r p) (os.map fF)).1), .bool ((fB ls p (jR r p) (os.map fF)).2)]) (r∈[187,185,189]∧ ∀f∈os,f∈[188,186,191,190]):=⟨fun hp w hw=>S5 w r l ls p o os (hl.h w hw) (ho.h w hw) hp⟩
theorem S8(w:World)(l:Sv)(ls:List aD)(p:Int)(hl:bP bq 4 (hp w) l ls):Calls Tryz.prog 174 #[l.val, .int .i64 p] w fun e w'=>e= .returned (.tuple #[.int .i64 ((eC ls p).1), .bool ((eC ls p).2)])∧Mem w [] w':=by
 have nA:Gv w l bq 4 ls:=⟨hl⟩
 refine aX (args:=[_,_]) Tryz.func174 rfl Tryz.ntmps174 rfl ?_
 change Cw _ _ _ _ _ [(0,l.val),(1, .int .i64 p)] []
 refine Gc ?_
 iterate 2 refine Gs ?_
 refine Gc ?_
 iterate 2 refine Gs ?_
 refine nO (enc:=oc) (vals:=[.func (.func 188) #[] #[], .func (.func 186) #[] #[]]) [188,186] rfl rfl rfl (by decide) (by decide) fun b8=> ?_
 refine eS (cy rfl (by decide)) ?_
 refine ag (aU rfl rfl) ?_
 refine ag (aU rfl rfl) ?_
 iterate 2 refine Gs ?_
 refine Gc ?_
 refine aq (.inl rfl) (bk rfl (al rfl) (al rfl)) (fun w1 hw=> ?_)
 exact⟨rfl,ai.mem hw⟩
instance ael{w0:World}{L:List aj}{l:Sv}{ls:List aD}{p:Int}[hl:cO w0 L bq 4 l ls]:cw Tryz.prog 174 w0 L [l.val, .int .i64 p] (.tuple #[.int .i64 ((eC ls p).1), .bool ((eC ls p).2)]) (True):=⟨fun hp w hw=>S8 w l ls p (hl.h w hw)⟩
theorem S9(w:World)(l:Sv)(ls:List aD)(p:Int)(hl:bP bq 4 (hp w) l ls):Calls Tryz.prog 171 #[l.val, .int .i64 p] w fun e w'=>e= .returned (.tuple #[.int .i64 ((eD ls p).1), .bool ((eD ls p).2)])∧Mem w [] w':=by
 have nA:Gv w l bq 4 ls:=⟨hl⟩
 refine aX (args:=[_,_]) Tryz.func171 rfl Tryz.ntmps171 rfl ?_
 change Cw _ _ _ _ _ [(0,l.val),(1, .int .i64 p)] []
 refine Gc ?_
 iterate 2 refine Gs ?_
 refine Gc ?_
 iterate 2 refine Gs ?_
 refine nO (enc:=oc) (vals:=[.func (.func 186) #[] #[]]) [186] rfl rfl rfl (by decide) (by decide) fun b8=> ?_
 refine eS (cy rfl (by decide)) ?_
 refine ag (aU rfl rfl) ?_
 refine ag (aU rfl rfl) ?_
 iterate 2 refine Gs ?_
 refine Gc ?_
 refine aq (.inl rfl) (bk rfl (al rfl) (al rfl)) (fun w1 hw=> ?_)
 exact⟨rfl,ai.mem hw⟩
instance aem{w0:World}{L:List aj}{l:Sv}{ls:List aD}{p:Int}[hl:cO w0 L bq 4 l ls]:cw Tryz.prog 171 w0 L [l.val, .int .i64 p] (.tuple #[.int .i64 ((eD ls p).1), .bool ((eD ls p).2)]) (True):=⟨fun hp w hw=>S9 w l ls p (hl.h w hw)⟩
theorem Ta(w:World)(l:Sv)(ls:List aD)(p:Int)(hl:bP bq 4 (hp w) l ls):Calls Tryz.prog 179 #[l.val, .int .i64 p] w fun e w'=>e= .returned (.tuple #[.int .i64 ((qO ls p).1), .bool ((qO ls p).2)])∧Mem w [] w':=by
 have nA:Gv w l bq 4 ls:=⟨hl⟩
 refine aX (args:=[_,_]) Tryz.func179 rfl Tryz.ntmps179 rfl ?_
 change Cw _ _ _ _ _ [(0,l.val),(1, .int .i64 p)] []
 refine Gc ?_
 iterate 2 refine Gs ?_
 refine Gc ?_
 iterate 2 refine Gs ?_
 refine nO (enc:=oc) (vals:=[.func (.func 190) #[] #[], .func (.func 191) #[] #[], .func (.func 186) #[] #[]]) [190,191,186] rfl rfl rfl (by decide) (by decide) fun b8=> ?_
 refine eS (cy rfl (by decide)) ?_
 refine ag (aU rfl rfl) ?_
 refine ag (aU rfl rfl) ?_
 iterate 2 refine Gs ?_
 refine Gc ?_
 refine aq (.inl rfl) (bk rfl (al rfl) (al rfl)) (fun w1 hw=> ?_)
 exact⟨rfl,ai.mem hw⟩
instance aen{w0:World}{L:List aj}{l:Sv}{ls:List aD}{p:Int}[hl:cO w0 L bq 4 l ls]:cw Tryz.prog 179 w0 L [l.val, .int .i64 p] (.tuple #[.int .i64 ((qO ls p).1), .bool ((qO ls p).2)]) (True):=⟨fun hp w hw=>Ta w l ls p (hl.h w hw)⟩
theorem Tb(w:World)(l:Sv)(ls:List aD)(p:Int)(hl:bP bq 4 (hp w) l ls):Calls Tryz.prog 182 #[l.val, .int .i64 p] w fun e w'=>e= .returned (.int .i64 (xM ls p))∧Mem w [] w':=by
 have nA:Gv w l bq 4 ls:=⟨hl⟩
 refine aX (args:=[_,_]) Tryz.func182 rfl Tryz.ntmps182 rfl ?_
 change Cw _ _ _ _ _ [(0,l.val),(1, .int .i64 p)] []
 refine Gc ?_
 refine Gs ?_
 refine Gc ?_
 iterate 4 refine Gs ?_
 refine Gc ?_
 refine au rfl (fun h0=> ?_) (fun h0=> ?_)
 ·
  replace h0:=bz h0
  have hE:xM ls p=0:=if_neg (by rw[h0];simp)
  refine Gc ?_
  refine Gs ?_
  refine Gc ?_
  refine aq (.inl rfl) (aG rfl (al rfl)) (fun w1 hw=> ?_)
  exact⟨congrArg (fun b=>Ending.returned (Value.int .i64 b)) (by rw[hE]),ai.mem hw⟩
 ·
  replace h0:=bz h0
  have hE:xM ls p=lf (ls.map (ld p)):=if_pos h0
  obtain⟨k1,k2,k3,k4,k5⟩:=vk.1 h0
  refine Gc ?_
  refine Gs ?_
  refine Gc ?_
  iterate 3 refine Gs ?_
  refine Gc ?_
  refine bS (X:=Nat) (fun zz=>[(15, .int .i64 (zz:Nat)),(5, .int .i64 (lf ((ls.take zz).map (ld p)))),(1, .int .i64 p),(13,l.val),(14, .int .i64 (ls.length:Nat))]) (fun zz=>[]) (fun zz=>zz≤ls.length) (fun zz=>ls.length -zz) 0 (Nat.zero_le _) (Sub.cons rfl (Sub.cons rfl (Sub.cons rfl (Sub.cons rfl (Sub.cons rfl (Sub.nil _)))))) (fun w hw=>ai.mem hw) ?_
  rintro i bh
  refine Gc ?_
  refine Gs ?_
  refine Gc ?_
  refine au rfl (fun h1=> ?_) (fun h1=> ?_)
  ·
   replace h1:=bz h1
   obtain⟨x,hx⟩:=get_some (xs:=ls) (i:=i) (by omega)
   have nZ:=rW.1 (k5 x (List.mem_of_getElem? hx))
   have dX:(lf ((ls.take (i+1)).map (ld p)))=(lf ((ls.take i).map (ld p)))+ld p x:=by rw[List.take_add_one,hx,List.map_append,Qc];simp[lf]
   have hsb:=IH p (ls.take i) (fun x hx=>k5 x (List.mem_of_mem_take hx)) (by omega)
   have mC:(ls.take i).length≤32:=by rw[List.length_take];omega
   have jD:((ls.take i).length:Int)*p≤512:=room_le mC (by omega) (by omega)
   refine Gc ?_
   refine ag (bc rfl rfl i rfl (by omega)) ?_
   refine ag (fW rfl i hx rfl) ?_
   refine bH fun b7=> ?_
   refine Gs ?_
   refine Gc ?_
   iterate 2 refine Gs ?_
   refine ag (cJ (v:= .agg (da ⟨x,p⟩)) rfl (Ev x p)) ?_
   refine bH fun b8=> ?_
   refine Gs ?_
   refine Gc ?_
   iterate 3 refine Gs ?_
   refine Gc ?_
   refine au rfl (fun h2=> ?_) (fun h2=> ?_)
   ·
    replace h2:=bz h2
    have hr:ld p x=p:=if_pos h2
    refine Gi ?_
    iterate 4 refine Gs ?_
    refine Gc ?_
    iterate 2 refine Gs ?_
    refine Gi ?_
    exact bu (x:=(i)) (i+1) (by first|omega|(simp only[];omega)) (by first|omega|(simp only[];omega)) (Sub.cons rfl (Sub.cons (look_eq rfl (by rw[dX,hr])) (Sub.cons rfl (Sub.cons rfl (Sub.cons rfl (Sub.nil _)))))) (fun w hw=>ai.mem hw)
   ·
    replace h2:=bz h2
    refine Gc ?_
    iterate 3 refine Gs ?_
    refine Gc ?_
    refine au rfl (fun h3=> ?_) (fun h3=> ?_)
    ·
     replace h3:=bz h3
     have hr:ld p x=p -x.used:=by rw[ld,if_neg (by rw[h2];simp),if_pos h3]
     refine Gi ?_
     iterate 4 refine Gs ?_
     refine ag (Ry.to (v':= .int .i64 x.used) (bG rfl) rfl) ?_
     iterate 3 refine Gs ?_
     refine Gc ?_
     iterate 2 refine Gs ?_
     refine Gi ?_
     exact bu (x:=(i)) (i+1) (by first|omega|(simp only[];omega)) (by first|omega|(simp only[];omega)) (Sub.cons rfl (Sub.cons (look_eq rfl (by rw[dX,hr])) (Sub.cons rfl (Sub.cons rfl (Sub.cons rfl (Sub.nil _)))))) (fun w hw=>ai.mem hw)
    ·
     replace h3:=bz h3
     have hr:ld p x=0:=by rw[ld,if_neg (by rw[h2];simp),if_neg (by rw[h3];simp)]
     refine Gc ?_
     iterate 2 refine Gs ?_
     refine Gi ?_
     exact bu (x:=(i)) (i+1) (by first|omega|(simp only[];omega)) (by first|omega|(simp only[];omega)) (Sub.cons rfl (Sub.cons (look_eq rfl (by rw[dX,hr,Int.add_zero])) (Sub.cons rfl (Sub.cons rfl (Sub.cons rfl (Sub.nil _)))))) (fun w hw=>ai.mem hw)
  ·
   replace h1:=bz h1
   obtain rfl:i=ls.length:=by omega
   refine Gc ?_
   iterate 2 refine Gs ?_
   refine Gc ?_
   refine aq (.inl rfl) (aG rfl (al rfl)) (fun w1 hw=> ?_)
   exact⟨congrArg (fun b=>Ending.returned (Value.int .i64 b)) (by rw[hE,List.take_length]),ai.mem hw⟩
instance aeo{w0:World}{L:List aj}{l:Sv}{ls:List aD}{p:Int}[hl:cO w0 L bq 4 l ls]:cw Tryz.prog 182 w0 L [l.val, .int .i64 p] (.int .i64 (xM ls p)) (True):=⟨fun hp w hw=>Tb w l ls p (hl.h w hw)⟩
open Go.aB Go.Kb
open Go.RowKit
theorem Tc(w:World)(n:Nat)(ba:n≤1000000000):Calls Tryz.prog 131 #[.slice none 0 0, .int .i64 (n:Nat)] w fun e w'=> ∃zz:Sv,e= .returned (zz.val)∧(True)∧Mem w [own (bT (τ:=UInt8)) 1 zz ([]:List (Sl UInt8))] w':=by
 refine aX (args:=[_,_]) Tryz.func131 rfl Tryz.ntmps131 rfl ?_
 change Cw _ _ _ _ _ [(0, .slice none 0 0),(1, .int .i64 (n:Nat))] []
 refine Gc ?_
 refine Gs ?_
 refine Gc ?_
 iterate 2 refine Gs ?_
 refine Gc ?_
 refine au rfl (fun h0=> ?_) (fun h0=> ?_)
 ·
  replace h0:=bz h0
  exfalso;omega
 ·
  replace h0:=bz h0
  refine Gc ?_
  iterate 2 refine Gs ?_
  refine ag (zZ rfl) ?_
  refine Gs ?_
  refine ag (sW rfl) ?_
  iterate 3 refine Gs ?_
  refine Gc ?_
  iterate 2 refine Gs ?_
  refine Gc ?_
  refine au rfl (fun h1=> ?_) (fun h1=> ?_)
  ·
   replace h1:=bz h1
   refine Gi ?_
   iterate 2 refine Gs ?_
   refine ag (zZ rfl) ?_
   refine ag (Ry.to (v':= .slice none 0 0) (rH (s:=Sv.none) (h:=0) rfl rfl rfl Sv.uK (Nat.le_refl _)) rfl) ?_
   refine Gs ?_
   refine HJ (enc:=(bT (τ:=UInt8))) (k:=n) (⟨Sv.none,[]⟩:Sl UInt8) rfl rfl (by omega) (by omega) (by decide) rfl Tryz.underlying3 (by omega) (by omega) fun uc yf El=> ?_
   refine Gs ?_
   refine ag (sW rfl) ?_
   refine ag (rH (s:=⟨false,uc,0,n,yf,none⟩) (h:=0) rfl rfl rfl ⟨(fun h=>by cases h),El,by simp only;omega,fun _=>rfl⟩ (Nat.zero_le _)) ?_
   refine Gs ?_
   refine Gc ?_
   iterate 2 refine Gs ?_
   refine Gc ?_
   refine aq (.inl rfl) (aG rfl (al rfl)) (fun w1 hw=> ?_)
   refine⟨Sv.sub ⟨false,uc,0,n,yf,none⟩ 1 0 0,rfl,trivial,?_⟩
   have dW:=Mem.HI (i:=0) (k:=0) hw rfl (Nat.zero_le _)
   rw[List.take_zero]at dW
   exact dW
  ·
   replace h1:=bz h1
   have hn:n=0:=by omega
   refine Gc ?_
   iterate 2 refine Gs ?_
   refine Gc ?_
   refine aq (.inl rfl) (aG rfl (al rfl)) (fun w1 hw=> ?_)
   exact⟨Sv.none,rfl,trivial,(ai.mem hw:Mem w [] _).dA (bT (τ:=UInt8)) 1⟩
instance aep{w0:World}{L:List aj}{n:Nat}:cc Tryz.prog 131 w0 L [.slice none 0 0, .int .i64 (n:Nat)] (Sv) (fun zz=>zz.val) (fun zz=>own (bT (τ:=UInt8)) 1 zz ([]:List (Sl UInt8))::L) (fun zz=>True) (n≤1000000000):=⟨fun hp w hw=>(Tc w n hp).mono fun e w' ⟨x,h1,h2,h3⟩=>⟨x,h1,h2,hw.call h3⟩⟩
theorem Td(w:World)(a:Sl (Sl (Sl UInt8)))(ha:Deep.aY (hp w) a)(ba:(eA a.xs).length≤1000000):Calls Tryz.prog 90 #[a.sv.val] w fun e w'=> ∃zz:Sv,e= .returned (zz.val)∧(True)∧Mem w [own (bT (τ:=UInt8)) 1 zz (eA a.xs)] w':=by
 have vO:bV w a:=⟨ha⟩
 have yX:=ha.1.bd
 have dN:=P0 a.xs
 refine aX (args:=[_]) Tryz.func90 rfl Tryz.ntmps90 rfl ?_
 change Cw _ _ _ _ _ [(0,a.sv.val)] []
 refine Gc ?_
 refine Gs ?_
 refine Gc ?_
 refine Gs ?_
 refine Gc ?_
 iterate 3 refine Gs ?_
 refine Gc ?_
 refine bS (X:=Nat) (fun zz=>[(11, .int .i64 (zz:Nat)),(3, .int .i64 ((eA (a.xs.take zz)).length:Nat)),(0,a.sv.val),(9,a.sv.val),(10, .int .i64 (a.xs.length:Nat))]) (fun zz=>[]) (fun zz=>zz≤a.xs.length) (fun zz=>a.xs.length -zz) 0 (Nat.zero_le _) (Sub.cons rfl (Sub.cons rfl (Sub.cons rfl (Sub.cons rfl (Sub.cons rfl (Sub.nil _)))))) (fun w hw=>ai.mem hw) ?_
 rintro i hi
 have u2:=dN i
 have jZ:=dN (i+1)
 refine Gc ?_
 refine Gs ?_
 refine Gc ?_
 refine au rfl (fun h0=> ?_) (fun h0=> ?_)
 ·
  replace h0:=bz h0
  iterate 6 refine Gi ?_
  obtain⟨x,hx⟩:=get_some (xs:=a.xs) (i:=i) (by omega)
  refine ag (bc rfl rfl i rfl (by omega)) ?_
  refine ag (bF (j:=0) rfl i hx rfl (by decide)) ?_
  have Se:(eA (a.xs.take (i+1))).length=(eA (a.xs.take i)).length+x.xs.length:=by rw[Ao hx,List.length_append]
  have AZ:Mb x _:=⟨List.mem_of_getElem? hx⟩
  refine Gs ?_
  refine Gc ?_
  iterate 5 refine Gs ?_
  refine Gc ?_
  iterate 2 refine Gs ?_
  refine Gc ?_
  refine au rfl (fun h1=> ?_) (fun h1=> ?_)
  ·
   replace h1:=bz h1
   exfalso;omega
  ·
   replace h1:=bz h1
   refine Gc ?_
   iterate 2 refine Gs ?_
   refine Gi ?_
   exact bu (x:=(i)) (i+1) (by first|omega|(simp only[];omega)) (by first|omega|(simp only[];omega)) (Sub.cons rfl (Sub.cons (look_eq rfl (by rw[Ao hx,List.length_append];simp)) (Sub.cons rfl (Sub.cons rfl (Sub.cons rfl (Sub.nil _)))))) (fun w hw=>ai.mem hw)
 ·
  replace h0:=bz h0
  obtain rfl:i=a.xs.length:=by omega
  have kX:=dN a.xs.length
  refine Gc ?_
  refine Gs ?_
  refine bn rfl (by omega) fun sm Em=> ?_
  refine Gs ?_
  refine Gc ?_
  iterate 3 refine Gs ?_
  refine Gc ?_
  refine bS (X:=Nat×Sv) (fun zz=>[(27, .int .i64 (zz.1:Nat)),(6,zz.2.val),(25,a.sv.val),(26, .int .i64 (a.xs.length:Nat))]) (fun zz=>[own (bT (τ:=UInt8)) 1 zz.2 (eA (a.xs.take zz.1))]) (fun zz=>zz.1≤a.xs.length) (fun zz=>a.xs.length -zz.1) (0,sm) (Nat.zero_le _) (Sub.cons rfl (Sub.cons rfl (Sub.cons rfl (Sub.cons rfl (Sub.nil _))))) (fun w hw=>(ai.mem hw:Mem _ [own (bT (τ:=UInt8)) 1 sm ([]:List (Sl UInt8))] _)) ?_
  rintro⟨k,s1⟩ hk
  dsimp only
  simp only at hk
  have u2:=dN k
  have jZ:=dN (k+1)
  refine Gc ?_
  refine Gs ?_
  refine Gc ?_
  refine au rfl (fun h2=> ?_) (fun h2=> ?_)
  ·
   replace h2:=bz h2
   iterate 6 refine Gi ?_
   obtain⟨y,hy⟩:=get_some (xs:=a.xs) (i:=k) (by omega)
   refine ag (bc rfl rfl k rfl (by omega)) ?_
   refine ag (bF (j:=0) rfl k hy rfl (by decide)) ?_
   have Sg:(eA (a.xs.take (k+1))).length=(eA (a.xs.take k)).length+y.xs.length:=by rw[Ao hy,List.length_append]
   have Kf:Mb y _:=⟨List.mem_of_getElem? hy⟩
   refine Gs ?_
   refine Gc ?_
   iterate 2 refine Gs ?_
   refine kY (s:=s1) (enc:=(bT (τ:=UInt8))) (ys:=y.xs) rfl rfl (by decide) (fun w hw=>jW (s:=y.sv) Tryz.underlying46 (by decide) ((inferInstance:cO _ _ (bT (τ:=UInt8)) 1 y.sv y.xs).h w hw)) (by omega) (by omega) fun En Sh Si=> ?_
   refine Gs ?_
   refine Gc ?_
   iterate 2 refine Gs ?_
   refine Gi ?_
   exact bu (x:=(k,s1)) (k+1,En) (by simp only;omega) (by simp only;omega) (Sub.cons rfl (Sub.cons rfl (Sub.cons rfl (Sub.cons rfl (Sub.nil _))))) (fun w hw=>by rw[Ao hy];exact ai.mem hw)
  ·
   replace h2:=bz h2
   obtain rfl:k=a.xs.length:=by omega
   refine Gc ?_
   iterate 2 refine Gs ?_
   refine Gc ?_
   refine aq (.inl rfl) (aG rfl (al rfl)) (fun w1 hw=> ?_)
   exact⟨s1,rfl,trivial,by rw[List.take_length]at hw;exact ai.mem hw⟩
instance Km{w0:World}{L:List aj}{a:Sl (Sl (Sl UInt8))}[ha:aT w0 L a]:cc Tryz.prog 90 w0 L [a.sv.val] (Sv) (fun zz=>zz.val) (fun zz=>own (bT (τ:=UInt8)) 1 zz (eA a.xs)::L) (fun zz=>True) ((eA a.xs).length≤1000000):=⟨fun hp w hw=>(Td w a (ha.h w hw) hp).mono fun e w' ⟨x,h1,h2,h3⟩=>⟨x,h1,h2,hw.call h3⟩⟩
theorem Te(w:World)(x:Sv)(xs:List Int)(y:Sv)(ys:List Int)(hx:bP bD 1 (hp w) x xs)(hy:bP bD 1 (hp w) y ys):Calls Tryz.prog 52 #[x.val,y.val] w fun e w'=>e= .returned (.bool (decide (xs=ys)))∧Mem w [] w':=by
 have sq:Gv w x bD 1 xs:=⟨hx⟩
 have Ey:Gv w y bD 1 ys:=⟨hy⟩
 have Kn:=hx.bd
 refine aX (args:=[_,_]) Tryz.func52 rfl Tryz.ntmps52 rfl ?_
 change Cw _ _ _ _ _ [(0,x.val),(1,y.val)] []
 refine Gc ?_
 refine Gs ?_
 refine Gc ?_
 iterate 5 refine Gs ?_
 refine Gc ?_
 refine au rfl (fun h0=> ?_) (fun h0=> ?_)
 ·
  replace h0:=bz h0
  have hz:decide (xs=ys)=false:=decide_eq_false fun e=>h0 (by rw[e])
  refine Gc ?_
  refine Gs ?_
  refine Gc ?_
  refine aq (.inl rfl) (aG rfl (al rfl)) (fun w1 hw=> ?_)
  exact⟨congrArg (fun b=>Ending.returned (Value.bool b)) (hz.symm),ai.mem hw⟩
 ·
  replace h0:=bz h0
  have la:xs.length=ys.length:=by omega
  refine Gc ?_
  iterate 3 refine Gs ?_
  refine Gc ?_
  refine bS (X:=Nat) (fun zz=>[(13, .int .i64 (zz:Nat)),(0,x.val),(1,y.val),(12, .int .i64 (xs.length:Nat))]) (fun zz=>[]) (fun zz=>zz≤xs.length∧ ∀j,j<zz→xs[j]? =ys[j]?) (fun zz=>xs.length -zz) 0 ⟨Nat.zero_le _,fun j hj=>by first|omega|(simp only[];omega)⟩ (Sub.cons rfl (Sub.cons rfl (Sub.cons rfl (Sub.cons rfl (Sub.nil _))))) (fun w hw=>ai.mem hw) ?_
  rintro i ⟨bh,aE⟩
  refine Gc ?_
  refine Gs ?_
  refine Gc ?_
  refine au rfl (fun h1=> ?_) (fun h1=> ?_)
  ·
   replace h1:=bz h1
   obtain⟨p,gV⟩:=get_some (xs:=xs) (i:=i) (by omega)
   obtain⟨q,mO⟩:=get_some (xs:=ys) (i:=i) (by omega)
   refine Gc ?_
   iterate 2 refine Gs ?_
   refine Gc ?_
   refine gk (by kernel_rfl) (by kernel_rfl) ?_
   iterate 2 refine Gq ?_
   refine bb (bc rfl rfl i rfl (by omega)) ?_
   refine bb (bF (j:=0) rfl i gV rfl (by decide)) ?_
   iterate 2 refine Gq ?_
   refine bb (bc rfl rfl i rfl (by omega)) ?_
   refine bb (bF (j:=0) rfl i mO rfl (by decide)) ?_
   refine Gq ?_
   refine Gc ?_
   refine au rfl (fun h2=> ?_) (fun h2=> ?_)
   ·
    replace h2:=bz h2
    have hz:decide (xs=ys)=false:=decide_eq_false fun e=>h2 (by rw[e]at gV;rw[gV]at mO;cases mO;rfl)
    refine Gc ?_
    refine Gs ?_
    refine Gc ?_
    refine aq (.inl rfl) (aG rfl (al rfl)) (fun w1 hw=> ?_)
    exact⟨congrArg (fun b=>Ending.returned (Value.bool b)) (hz.symm),ai.mem hw⟩
   ·
    replace h2:=bz h2
    refine Gc ?_
    iterate 2 refine Gs ?_
    refine Gi ?_
    exact bu (x:=(i)) (i+1) ⟨by first|omega|(simp only[];omega),fun j hj=>if e:j=i then(by subst e;rw[gV,mO,h2])else aE j (by first|omega|(simp only[];omega))⟩ (by first|omega|(simp only[];omega)) (Sub.cons rfl (Sub.cons rfl (Sub.cons rfl (Sub.cons rfl (Sub.nil _))))) (fun w hw=>ai.mem hw)
  ·
   replace h1:=bz h1
   obtain rfl:i=xs.length:=by omega
   have hz:decide (xs=ys)=true:=decide_eq_true (List.ext_getElem? fun j=>by
    rcases Nat.lt_or_ge j xs.length with hj|hj
    ·
     exact aE j hj
    ·
     rw[List.getElem?_eq_none hj,List.getElem?_eq_none (by omega)])
   refine Gc ?_
   refine Gs ?_
   refine Gc ?_
   refine aq (.inl rfl) (aG rfl (al rfl)) (fun w1 hw=> ?_)
   exact⟨congrArg (fun b=>Ending.returned (Value.bool b)) (hz.symm),ai.mem hw⟩
instance aeq{w0:World}{L:List aj}{x:Sv}{xs:List Int}{y:Sv}{ys:List Int}[hx:cO w0 L bD 1 x xs][hy:cO w0 L bD 1 y ys]:cw Tryz.prog 52 w0 L [x.val,y.val] (.bool (decide (xs=ys))) (True):=⟨fun hp w hw=>Te w x xs y ys (hx.h w hw) (hy.h w hw)⟩
open Go.aB Go.Kb
open Go.RowKit
theorem Tf(g:UInt64)(w:World):(Instr.build 147 #[(0, .int .u64 (g.toNat:Int))]).run Tryz.prog w= .ok (.agg (dn ⟨g,⟨Sv.none,[]⟩⟩)) w:=by
 unfold dn
 kernel_rfl
theorem Tg(w:World)(b:Sv)(bs:List UInt8)(hb:bP aM 1 (hp w) b bs):Calls Tryz.prog 130 #[b.val] w fun e w'=> ∃zz:cV,e= .returned (.tuple #[.agg (dn zz), .int .i64 ((bA bs).2)])∧(cW zz=(bA bs).1)∧Mem w [own bD 1 zz.at_.sv zz.at_.xs] w':=by
 have ub:Gv w b aM 1 bs:=⟨hb⟩
 refine aX (args:=[_]) Tryz.func130 rfl Tryz.ntmps130 rfl ?_
 change Cw _ _ _ _ _ [(0,b.val)] []
 refine Gc ?_
 refine bH fun b2=> ?_
 refine Gs ?_
 refine Gc ?_
 refine Gs ?_
 refine bn rfl trivial fun du vV=> ?_
 have Ko:du.kind=(cE bs).1.kind:=congrArg PV.kind vV
 have Kq:du.id=(cE bs).1.id:=congrArg PV.id vV
 have ph:du.gen.toNat=(cE bs).1.gen:=congrArg PV.gen vV
 have qY:du.body.xs=(cE bs).1.body:=congrArg PV.body vV
 have dk:=Dg bs
 rw[←qY]at dk
 refine Gs ?_
 refine ag (aU (v:= .agg (cA du)) rfl rfl) ?_
 refine ag (aU (v:= .int .i64 ((cE bs).2)) rfl rfl) ?_
 refine bH fun b4=> ?_
 iterate 2 refine Gs ?_
 refine Gc ?_
 iterate 2 refine Gs ?_
 refine Gc ?_
 refine au rfl (fun h0=> ?_) (fun h0=> ?_)
 ·
  replace h0:=bz h0
  have hE:bA bs=(fM,(cE bs).2):=by rw[bA,if_pos h0]
  refine Gc ?_
  refine ag (cJ (v:= .agg (dn j9)) rfl (fun w=>by kernel_rfl)) ?_
  iterate 3 refine Gs ?_
  refine Gc ?_
  refine aq (.inl rfl) (bk rfl (bX rfl) (al rfl)) (fun w1 hw=> ?_)
  exact⟨j9,by rw[hE],by rw[hE];rfl,Mem.dA bD 1 (ai.mem hw:Mem w [] _)⟩
 ·
  replace h0:=bz h0
  refine Gc ?_
  iterate 3 refine Gs ?_
  refine Gc ?_
  refine au rfl (fun h1=> ?_) (fun h1=> ?_)
  ·
   replace h1:=bz h1
   have hE:bA bs=(fM,6):=by rw[bA,if_neg (by omega),if_pos (by omega)]
   refine Gc ?_
   refine ag (cJ (v:= .agg (dn j9)) rfl (fun w=>by kernel_rfl)) ?_
   iterate 2 refine Gs ?_
   refine Gc ?_
   refine aq (.inl rfl) (bk rfl (bX rfl) (al rfl)) (fun w1 hw=> ?_)
   exact⟨j9,by rw[hE],by rw[hE];rfl,Mem.dA bD 1 (ai.mem hw:Mem w [] _)⟩
  ·
   replace h1:=bz h1
   refine Gc ?_
   iterate 3 refine Gs ?_
   refine ag (mY rfl rfl (by omega) (by omega)) ?_
   refine Gs ?_
   refine Gc ?_
   iterate 4 refine Gs ?_
   iterate 3 refine Gg ?_
   refine bQ rfl rfl rfl (fun hg=>(Ry.yl (Ci (p:=du.body.xs.length) (q:=2) (aF hg rfl) rfl rfl rfl (by simp only[Z0,Z1,Z2,Z3,Z4,Z5,Z6,Z7,Z8,Z9]at hg;omega)))) ?_
   refine Gg ?_
   iterate 2 refine Gs ?_
   iterate 3 refine Gg ?_
   refine bQ rfl rfl rfl (fun hg=>(Ry.yl (wM (aF hg rfl) rfl (by simp only[Z0,Z1,Z2,Z3,Z4,Z5,Z6,Z7,Z8,Z9]at hg;omega)))) ?_
   refine bQ rfl rfl rfl (fun hg=>(Ry.yl (sZ rfl (aF hg rfl)))) ?_
   refine Gg ?_
   refine Gs ?_
   refine Gc ?_
   refine au rfl (fun h2=> ?_) (fun h2=> ?_)
   ·
    replace h2:=bz h2
    have jC:qM (cE bs).1=false:=by
     cases hk:qM (cE bs).1 with
     |false=>rfl
     |true=>
      simp only[qM,Bool.and_eq_true,decide_eq_true_eq,←Ko,←Kq,←qY]at hk
      omega
    have hE:bA bs=(fM,2):=by rw[bA,if_neg (by omega),if_neg (by omega),if_pos jC]
    refine Gc ?_
    refine ag (cJ (v:= .agg (dn j9)) rfl (fun w=>by kernel_rfl)) ?_
    iterate 2 refine Gs ?_
    refine Gc ?_
    refine aq (.inl rfl) (bk rfl (bX rfl) (al rfl)) (fun w1 hw=> ?_)
    exact⟨j9,by rw[hE],by rw[hE];rfl,Mem.dA bD 1 (ai.mem hw:Mem w [] _)⟩
   ·
    replace h2:=bz h2
    have jC:qM (cE bs).1=true:=by
     simp only[qM,Bool.and_eq_true,decide_eq_true_eq,←Ko,←Kq,←qY]
     omega
    have hE:bA bs=(⟨du.gen.toNat,mH du.body.xs⟩,0):=by rw[bA,if_neg (by omega),if_neg (by omega),if_neg (by rw[jC];simp),ph,qY]
    have Kr:=Al du.body.xs
    refine Gc ?_
    iterate 2 refine Gs ?_
    refine ag (cJ (v:= .agg (dn ⟨du.gen,⟨Sv.none,[]⟩⟩)) rfl (Tf du.gen)) ?_
    refine bH fun b7=> ?_
    refine Gs ?_
    refine Gc ?_
    iterate 2 refine Gs ?_
    refine Gc ?_
    refine bS (X:=Nat×Sv) (fun zz=>[(49, .int .i64 (zz.1:Nat)),(7, .pointer (some ⟨b7,0,none⟩)),(2, .pointer (some ⟨b2,0,none⟩)),(4, .pointer (some ⟨b4,0,none⟩)),(48, .int .i64 ((du.body.xs.length/2):Nat))]) (fun zz=>[ar b7 (dn ⟨du.gen,⟨zz.2,(mH du.body.xs).take zz.1⟩⟩) 147,own bD 1 zz.2 ((mH du.body.xs).take zz.1),ar b4 (cA du) 110,own aM 1 du.body.sv du.body.xs,ar b2 (dn j9) 147]) (fun zz=>zz.1≤du.body.xs.length/2) (fun zz=>du.body.xs.length/2 -zz.1) (0,Sv.none) (Nat.zero_le _) (Sub.cons rfl (Sub.cons rfl (Sub.cons rfl (Sub.cons rfl (Sub.cons rfl (Sub.nil _)))))) (fun w hw=>by
     simp only[List.take_zero];exact ai.mem (Mem.dA bD 1 hw)) ?_
    rintro⟨i,s1⟩ bh
    dsimp only
    simp only at bh
    refine Gc ?_
    refine Gs ?_
    refine Gc ?_
    refine au rfl (fun h3=> ?_) (fun h3=> ?_)
    ·
     replace h3:=bz h3
     have dX:=PW (b:=du.body.xs) (i:=i) (by omega)
     refine Gc ?_
     iterate 2 refine Gs ?_
     refine Gc ?_
     refine oJ [19,20,22,1001,2019] [[],[],[],[],[],[],[],[],[],[],[],[],[],[],[],[],[],[],[],[],[1,19],[1,19,20],[1,19,20]] [0,1,2,3,4,5,6,7,8,9,10,11,12,13,14,15,16,17,18,19,20,21,22] [ar b4 (cA du) 110,own aM 1 du.body.sv du.body.xs] [(19,pQ bD 1 1 [(nU du.body.xs i)])] (by kernel_rfl) (fun _ hw=>ai.mem hw) (by kernel_rfl) (by kernel_rfl) ?_
     refine an rfl (aH (o':=1) rfl rfl) ?_
     refine jN rfl (bG rfl) ?_
     refine an rfl (aH (o':=3) rfl rfl) ?_
     refine an rfl (bG rfl) ?_
     refine an rfl (aC rfl) ?_
     refine an rfl (sX rfl rfl (by omega)) ?_
     refine an rfl (bc rfl rfl (2*i) rfl (by omega)) ?_
     refine an rfl (bF (j:=0) rfl (2*i) (m0 (xs:=du.body.xs) (i:=2*i) (d:=0) (by omega)) rfl (by decide)) ?_
     refine an rfl (th rfl) ?_
     refine an rfl (GL rfl rfl) ?_
     refine an rfl (aH (o':=3) rfl rfl) ?_
     refine an rfl (bG rfl) ?_
     refine an rfl (aC rfl) ?_
     refine an rfl (sX rfl rfl (by omega)) ?_
     refine an rfl (ox rfl rfl (by omega)) ?_
     refine an rfl (bc rfl rfl (2*i+1) rfl (by omega)) ?_
     refine an rfl (bF (j:=0) rfl (2*i+1) (m0 (xs:=du.body.xs) (i:=2*i+1) (d:=0) (by omega)) rfl (by decide)) ?_
     refine an rfl (th rfl) ?_
     refine an rfl (GM rfl rfl) ?_
     refine nh (m:=pQ bD 1 1 [(nU du.body.xs i)]) rfl rfl (CN (enc:=bD) (c:=1) (n:=1) (vals:=[.int .i64 (nU du.body.xs i)]) [(nU du.body.xs i)] rfl rfl rfl (by decide) (by decide)) (Cert.none rfl) fun A3=> ?_
     change Ln _ _ _ _ _ _ _ _ (cl _ _ (Sv.val ⟨false,A3,0,1,1,none⟩)) (own bD 1 ⟨false,A3,0,1,1,none⟩ [(nU du.body.xs i)]::_) _
     refine dr rfl (OG (s:=s1) (ys:=[(nU du.body.xs i)]) rfl rfl (by decide) (fun w hw=>jW (s:=⟨false,A3,0,1,1,none⟩) Tryz.underlying26 (by decide) ((inferInstance:Hd _ _ ⟨false,A3,0,1,1,none⟩ bD 1 [(nU du.body.xs i)]).h w hw)) (by simp only[List.length_take,List.length_cons,List.length_nil];omega) (by simp only[List.length_take,List.length_cons,List.length_nil];omega) fun Ks aer aes=>⟨fun _ hw=>ai.mem hw,?_⟩)
     refine an rfl (aH (o':=1) rfl rfl) ?_
     refine dr rfl (uY (cs':=dn (⟨du.gen,⟨Ks,(((mH du.body.xs).take i)++[(nU du.body.xs i)])⟩⟩:cV)) rfl rfl (by show 1<2;decide) (by first|rfl|exact Sv.one _) rfl ⟨fun _ hw=>ai.mem hw,?_⟩)
     refine Gc ?_
     iterate 2 refine Gs ?_
     refine Gi ?_
     exact bu (x:=(i,s1)) (i+1,Ks) (by simp only;omega) (by simp only;omega) (Sub.cons rfl (Sub.cons rfl (Sub.cons rfl (Sub.cons rfl (Sub.cons rfl (Sub.nil _)))))) (fun w hw=>by
      simp only[dX];exact ai.mem hw)
    ·
     replace h3:=bz h3
     obtain rfl:i=du.body.xs.length/2:=by omega
     rw[List.take_of_length_le (by omega)]at*
     refine Gc ?_
     iterate 3 refine Gs ?_
     refine Gc ?_
     refine aq (.inl rfl) (bk rfl (bX rfl) (al rfl)) (fun w1 hw=> ?_)
     exact⟨⟨du.gen,⟨s1,mH du.body.xs⟩⟩,by rw[hE],by rw[hE];rfl,ai.mem hw⟩
instance aet{w0:World}{L:List aj}{b:Sv}{bs:List UInt8}[hb:cO w0 L aM 1 b bs]:cc Tryz.prog 130 w0 L [b.val] (cV) (fun zz=> .tuple #[.agg (dn zz), .int .i64 ((bA bs).2)]) (fun zz=>own bD 1 zz.at_.sv zz.at_.xs::L) (fun zz=>cW zz=(bA bs).1) (True):=⟨fun hp w hw=>(Tg w b bs (hb.h w hw)).mono fun e w' ⟨x,h1,h2,h3⟩=>⟨x,h1,h2,hw.call h3⟩⟩
open Go.aB Go.Kb
open Go.RowKit
theorem Th(w:World)(l:Sl (Sl UInt8))(hl:Deep.aY (hp w) l):Calls Tryz.prog 89 #[l.sv.val] w fun e w'=> ∃zz:cV,e= .returned (.tuple #[.int .i64 ((eL (aI l.xs)).1), .agg (dn zz), .int .i64 ((eL (aI l.xs)).2.2)])∧(cW zz=(eL (aI l.xs)).2.1)∧Mem w [own bD 1 zz.at_.sv zz.at_.xs] w':=by
 have nA:bV w l:=⟨hl⟩
 have hO:=hl.1.bd
 have ib:=gW l.xs
 refine aX (args:=[_]) Tryz.func89 rfl Tryz.ntmps89 rfl ?_
 change Cw _ _ _ _ _ [(0,l.sv.val)] []
 refine Gc ?_
 refine Gs ?_
 refine bH fun b3=> ?_
 refine Gs ?_
 refine Gc ?_
 refine ag (cJ (v:= .agg (dn j9)) rfl (fun w=>by kernel_rfl)) ?_
 refine bH fun b6=> ?_
 iterate 4 refine Gs ?_
 refine Gc ?_
 iterate 3 refine Gs ?_
 refine Gc ?_
 refine bS (X:=Nat×cV) (fun zz=>[(16, .int .i64 (zz.1:Nat)),(5, .int .i64 ((cZ (aI l.xs) zz.1).at_)),(6, .pointer (some ⟨b6,0,none⟩)),(7, .bool ((cZ (aI l.xs) zz.1).found)),(8, .bool ((cZ (aI l.xs) zz.1).blank)),(3, .pointer (some ⟨b3,0,none⟩)),(14,l.sv.val),(15, .int .i64 (l.xs.length:Nat))]) (fun zz=>[ar b6 (dn zz.2) 147,own bD 1 zz.2.at_.sv zz.2.at_.xs,ar b3 (dn j9) 147]) (fun zz=>zz.1≤l.xs.length∧cW zz.2=(cZ (aI l.xs) zz.1).new) (fun zz=>l.xs.length -zz.1) (0,j9) ⟨Nat.zero_le _,rfl⟩ (Sub.cons rfl (Sub.cons rfl (Sub.cons rfl (Sub.cons rfl (Sub.cons rfl (Sub.cons rfl (Sub.cons rfl (Sub.cons rfl (Sub.nil _))))))))) (fun w hw=>by
  have h9:Mem _ [ar b6 (dn j9) 147,own bD 1 Sv.none [],ar b3 (dn j9) 147] _:=ai.mem (Mem.dA bD 1 hw)
  exact h9) ?_
 rintro⟨i,d⟩ ⟨bh,aE⟩
 dsimp only
 simp only at bh aE
 refine Gc ?_
 refine Gs ?_
 refine Gc ?_
 refine au rfl (fun h0=> ?_) (fun h0=> ?_)
 ·
  replace h0:=bz h0
  obtain⟨y,hy⟩:=get_some (xs:=l.xs) (i:=i) (by omega)
  have su:Mb y l:=⟨List.mem_of_getElem? hy⟩
  have Kt:=jr hy
  have Ku:d.gen.toNat=(cZ (aI l.xs) i).new.gen:=congrArg RV.gen aE
  refine Gc ?_
  refine Gs ?_
  refine ag (bc rfl rfl i rfl (by omega)) ?_
  refine ag (bF (j:=0) rfl i hy rfl (by decide)) ?_
  iterate 2 refine Gs ?_
  refine Gc ?_
  iterate 2 refine Gs ?_
  refine Gg ?_
  refine gB rfl rfl rfl (fun hg=>cy (dw (aF hg rfl) gg) trivial) ?_
  iterate 2 refine Gs ?_
  refine Gc ?_
  refine Gs ?_
  refine bn rfl trivial fun dm ly=> ?_
  have Kv:dm.gen.toNat=(bA y.xs).1.gen:=congrArg RV.gen ly
  refine Gs ?_
  refine ag (aU (v:= .agg (dn dm)) rfl rfl) ?_
  refine ag (aU (v:= .int .i64 ((bA y.xs).2)) rfl rfl) ?_
  refine bH fun od=> ?_
  iterate 2 refine Gs ?_
  refine Gc ?_
  iterate 3 refine Gs ?_
  refine Gg ?_
  refine gB rfl rfl rfl (fun hg=>(Ry.yl (ig (aF hg rfl)))) ?_
  refine gB rfl rfl rfl (fun hg=>(Ry.yl (aC (aF hg rfl)))) ?_
  refine qy rfl rfl rfl (fun hg=>(Ry.yl (aH (o':=0) rfl rfl))) ?_
  refine qy rfl rfl rfl (fun hg=>(Ry.yl (bG (aF hg rfl)))) ?_
  refine qy rfl rfl rfl (fun hg=>(Ry.yl (aH (o':=0) rfl rfl))) ?_
  refine qy rfl rfl rfl (fun hg=>(Ry.yl (bG (aF hg rfl)))) ?_
  refine qy rfl rfl rfl (fun hg=>(Ry.yl (cm (aF hg rfl) (aF hg rfl) rfl))) ?_
  refine gB rfl rfl rfl (fun hg=>(Ry.yl (lC (aF hg rfl) rfl (wR hg rfl)))) ?_
  refine Gs ?_
  refine Gc ?_
  refine au rfl (fun h1=> ?_) (fun h1=> ?_)
  ·
   replace h1:=bz h1
   have hq:(bA y.xs).2=0∧((cZ (aI l.xs) i).found=false∨(cZ (aI l.xs) i).new.gen≤(bA y.xs).1.gen):=⟨h1.1,h1.2.imp (fun h=>h) (fun h=>by rw[←Ku,←Kv];omega)⟩
   have rf:=Iq Kt hq
   refine iK [3] [[],[],[],[],[3]] [0,1,2,3,4] [ar od (dn dm) 147] (fun _ hw=>ai.mem hw) (by kernel_rfl) (by kernel_rfl) ?_
   refine an rfl (aC rfl) ?_
   refine an rfl (eR rfl) ?_
   refine an rfl (bj rfl) ?_
   refine dr rfl (ng rfl rfl ⟨fun _ hw=>ai.mem hw,?_⟩)
   refine an rfl (bj rfl) ?_
   refine Gc ?_
   iterate 2 refine Gs ?_
   refine Gi ?_
   exact bu (x:=(i,d)) (i+1,dm) ⟨by first|omega|(simp only[];omega),by rw[rf];exact ly⟩ (by simp only;omega) (Sub.cons rfl (Sub.cons (look_eq rfl (by simp only[rf])) (Sub.cons rfl (Sub.cons (look_eq rfl (by simp only[rf])) (Sub.cons (look_eq rfl (by simp only[rf])) (Sub.cons rfl (Sub.cons rfl (Sub.cons rfl (Sub.nil _))))))))) (fun w hw=>ai.mem hw)
  ·
   replace h1:=bz h1
   have hq: ¬((bA y.xs).2=0∧((cZ (aI l.xs) i).found=false∨(cZ (aI l.xs) i).new.gen≤(bA y.xs).1.gen)):=fun hq=>by
    rw[←Ku,←Kv]at hq
    rcases h1 with h|h
    ·
     exact h hq.1
    ·
     rcases hq.2 with g|g
     ·
      exact absurd (h.1.symm.trans g) (by simp)
     ·
      omega
   have rf:=Ir Kt hq
   refine Gc ?_
   iterate 2 refine Gs ?_
   refine Gi ?_
   exact bu (x:=(i,d)) (i+1,d) ⟨by first|omega|(simp only[];omega),by rw[rf];exact aE⟩ (by simp only;omega) (Sub.cons rfl (Sub.cons (look_eq rfl (by simp only[rf])) (Sub.cons rfl (Sub.cons (look_eq rfl (by simp only[rf])) (Sub.cons (look_eq rfl (by simp only[rf])) (Sub.cons rfl (Sub.cons rfl (Sub.cons rfl (Sub.nil _))))))))) (fun w hw=>ai.mem hw)
 ·
  replace h0:=bz h0
  obtain rfl:i=l.xs.length:=by omega
  rw[←ib]at aE
  refine Gc ?_
  iterate 2 refine Gs ?_
  refine Gc ?_
  refine au rfl (fun h2=> ?_) (fun h2=> ?_)
  ·
   replace h2:=bz h2
   have hE:eL (aI l.xs)=((cZ (aI l.xs) (aI l.xs).length).at_,(cZ (aI l.xs) (aI l.xs).length).new,0):=by rw[eL,if_pos (by rw[ib];exact h2)]
   refine Gi ?_
   refine iK [3] [[],[],[],[],[3]] [0,1,2,3,4] [ar b6 (dn d) 147] (fun _ hw=>ai.mem hw) (by kernel_rfl) (by kernel_rfl) ?_
   refine an rfl (aC rfl) ?_
   refine an rfl (eR rfl) ?_
   refine an rfl (bj rfl) ?_
   refine dr rfl (ng rfl rfl ⟨fun _ hw=>ai.mem hw,?_⟩)
   refine an rfl (bj rfl) ?_
   refine Gc ?_
   refine aq (.inl rfl) (rL rfl (al rfl) (bX rfl) (al rfl)) (fun w1 hw=> ?_)
   exact⟨d,by rw[hE,ib],by rw[hE];exact aE,ai.mem hw⟩
  ·
   replace h2:=bz h2
   refine Gc ?_
   iterate 2 refine Gs ?_
   refine Gc ?_
   refine au rfl (fun h3=> ?_) (fun h3=> ?_)
   ·
    replace h3:=bz h3
    have hE:eL (aI l.xs)=(0,fM,6):=by rw[eL,if_neg (by rw[ib,h2];simp),if_pos (by rw[ib];exact h3)]
    refine Gc ?_
    refine ag (cJ (v:= .agg (dn j9)) rfl (fun w=>by kernel_rfl)) ?_
    iterate 3 refine Gs ?_
    refine Gc ?_
    refine aq (.inl rfl) (rL rfl (al rfl) (bX rfl) (al rfl)) (fun w1 hw=> ?_)
    exact⟨j9,by rw[hE],by rw[hE];rfl,Mem.dA bD 1 (ai.mem hw:Mem w [] _)⟩
   ·
    replace h3:=bz h3
    have hE:eL (aI l.xs)=(0,fM,2):=by rw[eL,if_neg (by rw[ib,h2];simp),if_neg (by rw[ib,h3];simp)]
    refine Gc ?_
    refine ag (cJ (v:= .agg (dn j9)) rfl (fun w=>by kernel_rfl)) ?_
    iterate 3 refine Gs ?_
    refine Gc ?_
    refine aq (.inl rfl) (rL rfl (al rfl) (bX rfl) (al rfl)) (fun w1 hw=> ?_)
    exact⟨j9,by rw[hE],by rw[hE];rfl,Mem.dA bD 1 (ai.mem hw:Mem w [] _)⟩
instance Kw{w0:World}{L:List aj}{l:Sl (Sl UInt8)}[hl:aT w0 L l]:cc Tryz.prog 89 w0 L [l.sv.val] (cV) (fun zz=> .tuple #[.int .i64 ((eL (aI l.xs)).1), .agg (dn zz), .int .i64 ((eL (aI l.xs)).2.2)]) (fun zz=>own bD 1 zz.at_.sv zz.at_.xs::L) (fun zz=>cW zz=(eL (aI l.xs)).2.1) (True):=⟨fun hp w hw=>(Th w l (hl.h w hw)).mono fun e w' ⟨x,h1,h2,h3⟩=>⟨x,h1,h2,hw.call h3⟩⟩
open Go.aB Go.Kb
open Go.RowKit
theorem Ti(c:Cp)(s:Sl Int)(g:UInt64)(l:Int)(w:World):(Instr.build 29 #[(0, .agg (az c)),(1,s.sv.val),(2, .int .u64 (g.toNat:Int)),(3, .int .i64 l)]).run Tryz.prog w= .ok (.agg (bC ⟨c,s,g,l⟩)) w:=by
 obtain⟨s,xs⟩:=s
 obtain⟨a1,a2,⟨a3,a4⟩,a5,a6,⟨a7,a8⟩⟩:=c
 unfold bC az
 obtain⟨e,b,o,l,c,p⟩:=s
 obtain⟨e3,b3,o3,l3,c3,p3⟩:=a3
 obtain⟨e7,b7,o7,l7,c7,p7⟩:=a7
 cases e<;>cases e3<;>cases e7<;>kernel_rfl
theorem Tj(w:World)(c:Cp)(hc:Deep.aY (hp w) c):Calls Tryz.prog 43 #[.agg (az c)] w fun e w'=> ∃zz:bJ,e= .returned (.tuple #[.agg (bC zz), .int .i64 ((bt (cv c)).2)])∧(vv zz=(bt (cv c)).1∧((bt (cv c)).2=0→zz.ah=c))∧Mem w [own bD 1 zz.at_.sv zz.at_.xs] w':=by
 have iC:bV w c:=⟨hc⟩
 refine aX (args:=[_]) Tryz.func43 rfl Tryz.ntmps43 rfl ?_
 change Cw _ _ _ _ _ [(0, .agg (az c))] []
 refine Gc ?_
 refine bR rfl fun b1=> ?_
 refine bH fun b2=> ?_
 refine Gs ?_
 refine Gc ?_
 iterate 3 refine Gs ?_
 refine Gc ?_
 refine au rfl (fun h0=> ?_) (fun h0=> ?_)
 ·
  replace h0:=bz h0
  have hE:bt (cv c)=(ju,1):=by rw[bt,if_pos h0]
  have cD:(1:Int)≠0:=by decide
  refine Gc ?_
  refine ag (cJ (v:= .agg (bC ka)) rfl (fun w=>by kernel_rfl)) ?_
  iterate 2 refine Gs ?_
  refine Gc ?_
  refine aq (.inl rfl) (bk rfl (bX rfl) (al rfl)) (fun w1 hw=> ?_)
  exact⟨ka,by rw[hE],⟨by rw[hE];rfl,fun h=>absurd (by rw[hE]at h;exact h) cD⟩,Mem.dA bD 1 (ai.mem hw:Mem w [] _)⟩
 ·
  replace h0:=bz h0
  have mM:=iN.1 h0
  have hk:=mM.1
  have nv:(cv c).blocks.length=c.blocks.xs.length:=dU _
  have gM:=jg.1 (eo.1 hk).1
  obtain⟨B0,vW⟩:=get_some (xs:=c.blocks.xs) (i:=0) (by omega)
  obtain⟨B1,qh⟩:=get_some (xs:=c.blocks.xs) (i:=1) (by omega)
  have Tk:Mb B0 c.blocks:=⟨List.mem_of_getElem? vW⟩
  have Tl:Mb B1 c.blocks:=⟨List.mem_of_getElem? qh⟩
  have o0:=(ez.1 ((eo.1 hk).2.2.2.2 (bv B0) (List.mem_of_getElem? (gX vW)))).1
  have o1:=(ez.1 ((eo.1 hk).2.2.2.2 (bv B1) (List.mem_of_getElem? (gX qh)))).1
  have Ez:=gW B0.ae.xs
  have ht1:=gW B1.ae.xs
  simp only[bv,cv]at o0 o1 gM
  have hT:aI (eA [B0.ae,B1.ae])=(ak (cv c) 0).ae++(ak (cv c) 1).ae:=by
   rw[Di,show ak (cv c) 0=bv B0 from Dj vW,show ak (cv c) 1=bv B1 from Dj qh];rfl
  have nr:=Dh (l:=(ak (cv c) 0).ae++(ak (cv c) 1).ae) (by rw[←hT,Di,List.length_append];omega)
  have ib:((ak (cv c) 0).ae++(ak (cv c) 1).ae).length=B0.ae.xs.length+B1.ae.xs.length:=by rw[←hT,Di,List.length_append];omega
  have sC:0≤(bL (cv c)).1:=nr.1
  have vP:(bL (cv c)).1<c.ae+c.ae:=by have:=nr.2;rw[ib]at this;change(bL (cv c)).1<_ at this;omega
  have gva:Iw w (eA [B0.ae,B1.ae]):=⟨fun y hy=>by
   simp only[eA,List.map_cons,List.map_nil,List.flatten_cons,List.flatten_nil,List.append_nil,List.mem_append]at hy
   rcases hy with hy|hy
   ·
    exact(hc.1.2 B0 Tk.h).2 y hy
   ·
    exact(hc.1.2 B1 Tl.h).2 y hy⟩
  have aeu:0≤((bL (cv c)).1/c.ae):=Int.ediv_nonneg sC (by omega)
  have aev:((bL (cv c)).1/c.ae)<2:=Int.ediv_lt_of_lt_mul (by omega) (by omega)
  have b0:=Iz ((ak (cv c) 0).ae++(ak (cv c) 1).ae)
  have Et:(c.blocks.xs.getD ((bL (cv c)).1/c.ae).toNat nj).used=(ak (cv c) ((bL (cv c)).1/c.ae)).used:=congrArg BV.used (tE (c:=c))
  refine Gc ?_
  iterate 2 refine Gs ?_
  refine Gc ?_
  refine au rfl (fun h1=> ?_) (fun h1=> ?_)
  ·
   replace h1:=bz h1
   have hE:bt (cv c)=(ju,7):=by rw[bt,if_neg (by rw[h0];simp),if_pos (show(cv c).off=true from h1)]
   have cD:(7:Int)≠0:=by decide
   refine Gc ?_
   refine ag (cJ (v:= .agg (bC ka)) rfl (fun w=>by kernel_rfl)) ?_
   iterate 2 refine Gs ?_
   refine Gc ?_
   refine aq (.inl rfl) (bk rfl (bX rfl) (al rfl)) (fun w1 hw=> ?_)
   exact⟨ka,by rw[hE],⟨by rw[hE];rfl,fun h=>absurd (by rw[hE]at h;exact h) cD⟩,Mem.dA bD 1 (ai.mem hw:Mem w [] _)⟩
  ·
   replace h1:=bz h1
   have nI: ¬(cv c).off=true:=by rw[show(cv c).off=c.off from rfl,h1];simp
   refine Gc ?_
   refine oJ [10,11,12,17,19,2010,2017,4011,4012] [[],[],[],[],[],[],[],[],[],[],[],[10],[10,11],[10,11,12],[10,11,12],[10,11,12],[10,11,12],[],[10,11,12,17],[10,11,12,17],[10,11,12,17,19]] [0,1,2,3,4,5,6,7,8,9,10,11,12,13,14,15,16,17,18,19,20] [ar b1 (az c) 25] [(10,pQ (bT (τ:=Sl UInt8)) 1 2 [B0.ae,B1.ae]),(17,j6 Tryz.prog 147)] (by kernel_rfl) (fun _ hw=>ai.mem hw) (by kernel_rfl) (by kernel_rfl) ?_
   refine an rfl (aH (o':=2) rfl rfl) ?_
   refine an rfl (bG rfl) ?_
   refine an rfl (bc rfl rfl 0 rfl (by omega)) ?_
   refine an rfl (aH rfl rfl) ?_
   refine an rfl (bF (j:=0) rfl 0 vW rfl (by decide)) ?_
   refine an rfl (aH (o':=2) rfl rfl) ?_
   refine an rfl (bG rfl) ?_
   refine an rfl (bc rfl rfl 1 rfl (by omega)) ?_
   refine an rfl (aH rfl rfl) ?_
   refine an rfl (bF (j:=0) rfl 1 qh rfl (by decide)) ?_
   refine nh (m:=pQ (bT (τ:=Sl UInt8)) 1 2 [B0.ae,B1.ae]) rfl rfl (CN (enc:=(bT (τ:=Sl UInt8))) (c:=1) (n:=2) (vals:=[B0.ae.sv.val,B1.ae.sv.val]) [B0.ae,B1.ae] rfl (by simp only[List.map_cons,List.map_nil,Sv.iq];rfl) rfl (by decide) (by decide)) (Cert.one (i:=17) rfl rfl rfl jo (Cert.none rfl)) fun A4=> ?_
   change Ln _ _ _ _ _ _ _ _ (cl _ _ (Sv.val ⟨false,A4,0,2,2,none⟩)) (own (bT (τ:=Sl UInt8)) 1 ⟨false,A4,0,2,2,none⟩ [B0.ae,B1.ae]::_) _
   refine qH (hc:=Km (a:=(⟨⟨false,A4,0,2,2,none⟩,[B0.ae,B1.ae]⟩:Sl (Sl (Sl UInt8))))) (CL:=fun e_=>Km (a:=(⟨⟨false,A4,0,2,2,none⟩,[B0.ae,B1.ae]⟩:Sl (Sl (Sl UInt8))))) rfl rfl (by simp only[eA,List.map_cons,List.map_nil,List.flatten_cons,List.flatten_nil,List.length_append,List.length_nil];omega) (fun e x w hw=>ai.mem hw) (Cert.one (i:=17) rfl rfl rfl jo (Cert.none rfl)) fun og qi=>⟨fun _ hw=>ai.mem hw,?_⟩
   refine qH (hc:=Kw (l:=(⟨og,(eA [B0.ae,B1.ae])⟩:Sl (Sl UInt8)))) (CL:=fun e_=>Kw (l:=(⟨og,(eA [B0.ae,B1.ae])⟩:Sl (Sl UInt8)))) rfl rfl trivial (fun e x w hw=>ai.mem hw) (Cert.one (i:=17) rfl rfl rfl jo (Cert.none rfl)) fun dm ly=>⟨fun _ hw=>ai.mem hw,?_⟩
   have fR:(eL (aI (eA [B0.ae,B1.ae]))).1=(bL (cv c)).1:=by rw[hT];rfl
   have EA:(eL (aI (eA [B0.ae,B1.ae]))).2.2=(bL (cv c)).2.2:=by rw[hT];rfl
   have yn:cW dm=(bL (cv c)).2.1:=by rw[ly,hT];rfl
   have mf:dm.gen.toNat=(bL (cv c)).2.1.gen:=congrArg RV.gen yn
   have vD:dm.at_.xs=(bL (cv c)).2.1.at_:=congrArg RV.at_ yn
   refine an rfl (aC rfl) ?_
   refine an rfl (aU (v:= .int .i64 ((eL (aI (eA [B0.ae,B1.ae]))).1)) rfl rfl) ?_
   refine an rfl (aU (v:= .agg (dn dm)) rfl rfl) ?_
   refine an rfl (aU (v:= .int .i64 ((eL (aI (eA [B0.ae,B1.ae]))).2.2)) rfl rfl) ?_
   refine nh (m:=j6 Tryz.prog 147) rfl rfl jo (Cert.none rfl) fun b5=> ?_
   change Ln _ _ _ _ _ _ _ _ (cl _ _ (.pointer (some ⟨b5,0,none⟩))) (ar b5 (dn j9) 147::_) _
   refine an rfl (bj rfl) ?_
   refine dr rfl (ng rfl rfl ⟨fun _ hw=>ai.mem hw,?_⟩)
   refine an rfl (bj rfl) ?_
   refine Gc ?_
   iterate 2 refine Gs ?_
   refine Gc ?_
   refine au rfl (fun h2=> ?_) (fun h2=> ?_)
   ·
    replace h2:=bz h2
    rw[EA]at h2
    have hE:bt (cv c)=(ju,(bL (cv c)).2.2):=by rw[bt,if_neg (by rw[h0];simp),if_neg nI,if_pos h2]
    have cD:=h2
    refine Gc ?_
    refine ag (cJ (v:= .agg (bC ka)) rfl (fun w=>by kernel_rfl)) ?_
    iterate 3 refine Gs ?_
    refine Gc ?_
    refine aq (.inl rfl) (bk rfl (bX rfl) (al rfl)) (fun w1 hw=> ?_)
    exact⟨ka,by rw[hE,EA],⟨by rw[hE];rfl,fun h=>absurd (by rw[hE]at h;exact h) cD⟩,Mem.dA bD 1 (ai.mem hw:Mem w [] _)⟩
   ·
    replace h2:=bz h2
    rw[EA]at h2
    refine Gc ?_
    iterate 3 refine Gs ?_
    refine ag (mY rfl rfl (by omega) (by omega)) ?_
    refine Gs ?_
    refine Gc ?_
    refine gk (by kernel_rfl) (by kernel_rfl) ?_
    iterate 3 refine Gq ?_
    refine bb (wN rfl rfl (by omega) (by omega)) ?_
    iterate 3 refine Gq ?_
    refine bb (bc rfl rfl (((eL (aI (eA [B0.ae,B1.ae]))).1/c.ae).toNat) (by rw[fR];omega) (by rw[fR];omega)) ?_
    refine bb (aH rfl rfl) ?_
    refine bb (bF (j:=1) rfl (((eL (aI (eA [B0.ae,B1.ae]))).1/c.ae).toNat) (m0 (xs:=c.blocks.xs) (i:=((eL (aI (eA [B0.ae,B1.ae]))).1/c.ae).toNat) (d:=nj) (by rw[fR];omega)) rfl (by decide)) ?_
    iterate 2 refine Gq ?_
    refine hK rfl rfl rfl (fun hg=>(Ry.yl (eR rfl))) ?_
    iterate 2 refine Gh ?_
    refine hK rfl rfl rfl (fun hg=>cy (dw (aF hg rfl) (dw (aF hg rfl) gg)) ⟨hk,fun x hx=>b0 x (by rw[vD]at hx;exact hx)⟩) ?_
    refine hK rfl rfl rfl (fun hg=>(Ry.yl (ig (aF hg rfl)))) ?_
    refine Gq ?_
    refine Gc ?_
    refine au rfl (fun h3=> ?_) (fun h3=> ?_)
    ·
     replace h3:=bz h3
     have ue:ku (cv c)=false:=by
      rw[vD]at h3
      cases qg:ku (cv c)with
      |false=>rfl
      |true=>
       simp only[ku,Bool.and_eq_true,decide_eq_true_eq]at qg
       rw[qg.2]at h3
       simp only[Bool.true_eq_false,or_false]at h3
       have:=qg.1
       rw[fR,Et]at h3
       exact absurd this (by simp only[cv]at*;omega)
     have hE:bt (cv c)=(ju,2):=by rw[bt,if_neg (by rw[h0];simp),if_neg nI,if_neg (by omega),if_pos ue]
     have cD:(2:Int)≠0:=by decide
     refine Gc ?_
     refine ag (cJ (v:= .agg (bC ka)) rfl (fun w=>by kernel_rfl)) ?_
     iterate 2 refine Gs ?_
     refine Gc ?_
     refine aq (.inl rfl) (bk rfl (bX rfl) (al rfl)) (fun w1 hw=> ?_)
     exact⟨ka,by rw[hE],⟨by rw[hE];rfl,fun h=>absurd (by rw[hE]at h;exact h) cD⟩,Mem.dA bD 1 (ai.mem hw:Mem w [] _)⟩
    ·
     replace h3:=bz h3
     have ue:ku (cv c)=true:=by
      rw[vD,fR,Et]at h3
      simp only[ku,Bool.and_eq_true,decide_eq_true_eq]
      exact⟨by have:=h3.1;simp only[cv]at*;omega,h3.2⟩
     have hE:bt (cv c)=(⟨cv c,(bL (cv c)).2.1.at_,(bL (cv c)).2.1.gen,(bL (cv c)).1/c.ae⟩,0):=by rw[bt,if_neg (by rw[h0];simp),if_neg nI,if_neg (by omega),if_neg (by rw[ue];simp)];rfl
     refine Gc ?_
     iterate 6 refine Gs ?_
     refine ag (cJ (v:= .agg (bC ⟨c,dm.at_,dm.gen,((eL (aI (eA [B0.ae,B1.ae]))).1/c.ae)⟩)) rfl (Ti c dm.at_ dm.gen ((eL (aI (eA [B0.ae,B1.ae]))).1/c.ae))) ?_
     iterate 2 refine Gs ?_
     refine Gc ?_
     refine aq (.inl rfl) (bk rfl (bX rfl) (al rfl)) (fun w1 hw=> ?_)
     exact⟨⟨c,dm.at_,dm.gen,(eL (aI (eA [B0.ae,B1.ae]))).1/c.ae⟩,by rw[hE],⟨by rw[hE];simp only[vv,vD,mf,fR],fun _=>rfl⟩,ai.mem hw⟩
instance aew{w0:World}{L:List aj}{c:Cp}[hc:aT w0 L c]:cc Tryz.prog 43 w0 L [.agg (az c)] (bJ) (fun zz=> .tuple #[.agg (bC zz), .int .i64 ((bt (cv c)).2)]) (fun zz=>own bD 1 zz.at_.sv zz.at_.xs::L) (fun zz=>vv zz=(bt (cv c)).1∧((bt (cv c)).2=0→zz.ah=c)) (True):=⟨fun hp w hw=>(Tj w c (hc.h w hw)).mono fun e w' ⟨x,h1,h2,h3⟩=>⟨x,h1,h2,hw.call h3⟩⟩
open Go.aB Go.Kb
open Go.RowKit
theorem Tm(w:World)(c:Cp)(hc:Deep.aY (hp w) c):Calls Tryz.prog 12 #[.agg (az c)] w fun e w'=> ∃zz:bJ,e= .returned (.tuple #[.agg (bC zz), .int .i64 ((bt (cv c)).2)])∧(vv zz=(if(bt (cv c)).2=0 then(bt (cv c)).1 else ju))∧Mem w [fz zz.ah,own bD 1 zz.at_.sv zz.at_.xs] w':=by
 have iC:bV w c:=⟨hc⟩
 refine aX (args:=[_]) Tryz.func12 rfl Tryz.ntmps12 rfl ?_
 change Cw _ _ _ _ _ [(0, .agg (az c))] []
 refine Gc ?_
 refine bR rfl fun b1=> ?_
 refine bH fun b2=> ?_
 refine Gs ?_
 refine Gc ?_
 refine Gs ?_
 refine bn rfl trivial fun x8 n7=> ?_
 obtain⟨Kx,Ky⟩:=n7
 have Tn:=IB (cv c)
 have To:x8.at_.xs=(bt (cv c)).1.at_:=congrArg VV.at_ Kx
 rw[←To]at Tn
 refine Gs ?_
 refine ag (aU (v:= .agg (bC x8)) rfl rfl) ?_
 refine ag (aU (v:= .int .i64 ((bt (cv c)).2)) rfl rfl) ?_
 refine bH fun b4=> ?_
 iterate 2 refine Gs ?_
 refine Gc ?_
 iterate 2 refine Gs ?_
 refine Gc ?_
 refine au rfl (fun h0=> ?_) (fun h0=> ?_)
 ·
  replace h0:=bz h0
  refine Gc ?_
  refine ag (cJ (v:= .agg (bC ka)) rfl (fun w=>by kernel_rfl)) ?_
  iterate 3 refine Gs ?_
  refine Gc ?_
  refine aq (.inl rfl) (bk rfl (bX rfl) (al rfl)) (fun w1 hw=> ?_)
  exact⟨ka,rfl,by rw[if_neg h0];rfl,P5 (Mem.dA bD 1 (ai.mem hw:Mem w [] _))⟩
 ·
  replace h0:=bz h0
  have uf:(bt (cv c)).2=0:=h0
  have ec:IC x8.ah c:=⟨Ky uf⟩
  have jD:dC x8.ah:=by rw[Ky uf];exact oP (iN.1 (Dk uf)).1
  iterate 3 refine Gi ?_
  refine pL [Deep.bY x8.at_,ar b4 (bC x8) 29,ar b2 (bC ka) 29,ar b1 (az c) 25] (fun w hw=>ai.mem (Mem.HM (ai.mem hw:Mem _ [own bD 1 x8.at_.sv x8.at_.xs,ar b4 (bC x8) 29,ar b2 (bC ka) 29,ar b1 (az c) 25] _))) ?_
  refine Gi ?_
  refine Gs ?_
  refine bn rfl ⟨by assumption,by omega⟩ fun aA jE=> ?_
  iterate 2 refine Gs ?_
  refine Gc ?_
  refine aq (.inl rfl) (bk rfl (bX rfl) (al rfl)) (fun w1 hw=> ?_)
  exact⟨(⟨aA.1,⟨aA.2,x8.at_.xs⟩,x8.gen,x8.last⟩:bJ),by rw[uf],by
   rw[if_pos uf,←Kx]
   simp only[vv,jE],ai.mem hw⟩
instance aex{w0:World}{L:List aj}{c:Cp}[hc:aT w0 L c]:cc Tryz.prog 12 w0 L [.agg (az c)] (bJ) (fun zz=> .tuple #[.agg (bC zz), .int .i64 ((bt (cv c)).2)]) (fun zz=>fz zz.ah::own bD 1 zz.at_.sv zz.at_.xs::L) (fun zz=>vv zz=(if(bt (cv c)).2=0 then(bt (cv c)).1 else ju)) (True):=⟨fun hp w hw=>(Tm w c (hc.h w hw)).mono fun e w' ⟨x,h1,h2,h3⟩=>⟨x,h1,h2,hw.call h3⟩⟩
theorem Tp(w:World)(v:bJ)(hv:Deep.aY (hp w) v):Calls Tryz.prog 19 #[.agg (bC v)] w fun e w'=>e= .returned (.bool (kc (vv v)))∧Mem w [] w':=by
 have yh:bV w v:=⟨hv⟩
 refine aX (args:=[_]) Tryz.func19 rfl Tryz.ntmps19 rfl ?_
 change Cw _ _ _ _ _ [(0, .agg (bC v))] []
 refine Gc ?_
 refine bR rfl fun b1=> ?_
 refine Gs ?_
 refine Gc ?_
 refine Gs ?_
 refine ag (gA rfl) ?_
 refine bH fun b3=> ?_
 refine Gs ?_
 refine Gc ?_
 refine Gs ?_
 refine dS (cs':=az (⟨v.ah.ae,v.ah.size,v.ah.blocks,v.ah.ops,false,v.ah.aS⟩:Cp)) rfl rfl (by show 4<6;decide) (by first|rfl|exact Sv.one _) rfl ?_
 refine Gc ?_
 refine Gs ?_
 refine bn rfl trivial fun du vV=> ?_
 obtain⟨EB,aey⟩:=vV
 have Tq:du.gen.toNat=(bt {(vv v).ah with off:=false}).1.gen:=congrArg VV.gen EB
 have vX:du.last=(bt {(vv v).ah with off:=false}).1.last:=congrArg VV.last EB
 have Ts:du.at_.xs=(bt {(vv v).ah with off:=false}).1.at_:=congrArg VV.at_ EB
 refine Gs ?_
 refine ag (aU (v:= .agg (bC du)) rfl rfl) ?_
 refine ag (aU (v:= .int .i64 ((bt (cv (⟨v.ah.ae,v.ah.size,v.ah.blocks,v.ah.ops,false,v.ah.aS⟩:Cp))).2)) rfl rfl) ?_
 refine bH fun b4=> ?_
 iterate 2 refine Gs ?_
 refine Gc ?_
 iterate 3 refine Gs ?_
 iterate 5 refine Gg ?_
 iterate 2 refine Gs ?_
 iterate 5 refine Gg ?_
 iterate 2 refine Gs ?_
 iterate 4 refine Gg ?_
 refine gB rfl rfl rfl (fun hg=>cy (dw (aF hg rfl) (dw (aF hg rfl) gg)) trivial) ?_
 iterate 2 refine Gs ?_
 refine Gc ?_
 refine aq (.inl rfl) (aG rfl (al rfl)) (fun w1 hw=> ?_)
 exact⟨congrArg (fun b=>Ending.returned (Value.bool b)) ((by rw[show decide (((du.gen.toNat:Nat):Int)=((v.gen.toNat:Nat):Int))=decide (du.gen.toNat=v.gen.toNat)from decide_eq_decide.2 (by omega),kc,←Tq,←vX,←Ts];rfl)),ai.mem hw⟩
instance aez{w0:World}{L:List aj}{v:bJ}[hv:aT w0 L v]:cw Tryz.prog 19 w0 L [.agg (bC v)] (.bool (kc (vv v))) (True):=⟨fun hp w hw=>Tp w v (hv.h w hw)⟩
open Go.aB Go.Kb
open Go.RowKit
theorem Tt(w:World)(v:bJ)(id:Int)(hv:Deep.aY (hp w) v)(ba:aW (cv v.ah)=true∧ ∃y,v.at_.xs[id.toNat]? =Option.some y∧0≤id∧1≤y∧y≤1000000∧2≤(y -1)/(cv v.ah).ae∧(y -1)/(cv v.ah).ae<((cv v.ah).blocks.length:Int)):Calls Tryz.prog 49 #[.agg (bC v), .int .i64 id] w fun e w'=> ∃zz:Sv,e= .returned (zz.val)∧(True)∧Mem w [own aM 1 zz (iO (cv v.ah) (v.at_.xs.getD id.toNat 0))] w':=by
 have yh:bV w v:=⟨hv⟩
 obtain⟨hk,y,hy,kO,Ee,hy2,g1,g2⟩:=ba
 have mg:v.at_.xs.getD id.toNat 0=y:=oR hy
 have eT:=(List.getElem?_eq_some_iff.1 hy).1
 have dk:=dU v.ah.blocks.xs
 have gM:=jg.1 (eo.1 hk).1
 simp only[cv,dk]at gM
 have yk:0≤((y -1)/v.ah.ae):=Int.ediv_nonneg (by omega) (by omega)
 have lr:0≤((y -1)%v.ah.ae):=Int.emod_nonneg _ (by omega)
 have re:((y -1)%v.ah.ae)<v.ah.ae:=Int.emod_lt_of_pos _ (by omega)
 have mM:=tE (c:=v.ah) (b:=((y -1)/v.ah.ae))
 change 2≤((y -1)/v.ah.ae)at g1
 change((y -1)/v.ah.ae)<((fy v.ah.blocks.xs).length:Int)at g2
 rw[dk]at g2
 obtain⟨B,hB⟩:=get_some (xs:=v.ah.blocks.xs) (i:=((y -1)/v.ah.ae).toNat) (by omega)
 have n8:Mb B v.ah.blocks:=⟨List.mem_of_getElem? hB⟩
 have dQ:bv B=ak (cv v.ah) ((y -1)/v.ah.ae):=by rw[←mM];simp[List.getD,hB]
 have fj:=ez.1 ((eo.1 hk).2.2.2.2 (bv B) (List.mem_of_getElem? (gX hB)))
 have ib:=gW B.ae.xs
 have ym:(B.ae.xs.length:Int)=v.ah.ae:=by have:=fj.1;simp only[bv,cv,ib]at this;exact this
 obtain⟨z,hz⟩:=get_some (xs:=B.ae.xs) (i:=((y -1)%v.ah.ae).toNat) (by omega)
 have sk:Mb z B.ae:=⟨List.mem_of_getElem? hz⟩
 have nu:bO (cv v.ah) (y -1)=z.xs:=by
  show(ak (cv v.ah) ((y -1)/v.ah.ae)).ae.getD ((y -1)%v.ah.ae).toNat []=z.xs
  rw[←dQ]
  simp[bv,List.getD,jr hz]
 refine aX (args:=[_,_]) Tryz.func49 rfl Tryz.ntmps49 rfl ?_
 change Cw _ _ _ _ _ [(0, .agg (bC v)),(1, .int .i64 id)] []
 refine Gc ?_
 refine bR rfl fun b2=> ?_
 refine Gs ?_
 refine Gc ?_
 iterate 3 refine Gs ?_
 refine ag (bc rfl rfl id.toNat (by omega) (by omega)) ?_
 refine ag (bF (j:=0) rfl id.toNat hy rfl (by decide)) ?_
 iterate 2 refine Gs ?_
 refine Gc ?_
 refine oJ [18,22,23,2022,4018] [[],[],[],[],[],[],[],[],[],[],[],[],[],[],[],[],[],[],[],[18],[18],[18],[],[18,22],[18,22,23]] [0,1,2,3,4,5,6,7,8,9,10,11,12,13,14,15,16,17,18,19,20,21,22,23,24] [ar b2 (bC v) 29] [(22,j6 Tryz.prog 110)] (by kernel_rfl) (fun _ hw=>ai.mem hw) (by kernel_rfl) (by kernel_rfl) ?_
 refine an rfl (aH (o':=0) rfl rfl) ?_
 refine an rfl (aH (o':=2) rfl rfl) ?_
 refine an rfl (bG rfl) ?_
 refine an rfl (aC rfl) ?_
 refine an rfl (aH (o':=0) rfl rfl) ?_
 refine an rfl (aH (o':=0) rfl rfl) ?_
 refine an rfl (bG rfl) ?_
 refine an rfl (mY rfl rfl (by omega) (by omega)) ?_
 refine an rfl (bc rfl rfl (((y -1)/v.ah.ae).toNat) (by omega) (by omega)) ?_
 refine an rfl (aH rfl rfl) ?_
 refine an rfl (bF (j:=0) rfl (((y -1)/v.ah.ae).toNat) hB rfl (by decide)) ?_
 refine an rfl (aC rfl) ?_
 refine an rfl (aH (o':=0) rfl rfl) ?_
 refine an rfl (aH (o':=0) rfl rfl) ?_
 refine an rfl (bG rfl) ?_
 refine an rfl (wN rfl rfl (by omega) (by omega)) ?_
 refine an rfl (bc rfl rfl (((y -1)%v.ah.ae).toNat) (by omega) (by omega)) ?_
 refine an rfl (bF (j:=0) rfl (((y -1)%v.ah.ae).toNat) hz rfl (by decide)) ?_
 refine qH rfl rfl trivial (fun e x w hw=>ai.mem hw) (Cert.one (i:=22) rfl rfl rfl jo (Cert.none rfl)) fun jm sD=>⟨fun _ hw=>ai.mem hw,?_⟩
 have e1:jm.body.xs=(cE z.xs).1.body:=congrArg PV.body sD
 refine an rfl (aC rfl) ?_
 refine an rfl (aU (v:= .agg (cA jm)) rfl rfl) ?_
 refine an rfl (aU (v:= .int .i64 ((cE z.xs).2)) rfl rfl) ?_
 refine nh (m:=j6 Tryz.prog 110) rfl rfl jo (Cert.none rfl) fun b6=> ?_
 change Ln _ _ _ _ _ _ _ _ (cl _ _ (.pointer (some ⟨b6,0,none⟩))) (ar b6 (cA lU) 110::_) _
 refine dr rfl (ng rfl rfl ⟨fun _ hw=>ai.mem hw,?_⟩)
 refine an rfl (bj rfl) ?_
 refine Gc ?_
 iterate 2 refine Gs ?_
 refine Gc ?_
 refine au rfl (fun h0=> ?_) (fun h0=> ?_)
 ·
  replace h0:=bz h0
  have hE:(iO (cv v.ah) (v.at_.xs.getD id.toNat 0))=[]:=by rw[mg,iO,nu,if_neg h0]
  refine Gc ?_
  refine Gs ?_
  refine Gc ?_
  refine aq (.inl rfl) (aG rfl (al rfl)) (fun w1 hw=> ?_)
  exact⟨Sv.none,rfl,trivial,by rw[hE];exact Mem.dA aM 1 (ai.mem hw:Mem w [] _)⟩
 ·
  replace h0:=bz h0
  have uf:(cE z.xs).2=0:=h0
  have hE:(iO (cv v.ah) (v.at_.xs.getD id.toNat 0))=jm.body.xs:=by rw[mg,iO,nu,if_pos uf,e1]
  refine Gc ?_
  iterate 3 refine Gs ?_
  refine Gc ?_
  refine aq (.inl rfl) (aG rfl (al rfl)) (fun w1 hw=> ?_)
  exact⟨jm.body.sv,rfl,trivial,by rw[hE];exact ai.mem hw⟩
instance Kz{w0:World}{L:List aj}{v:bJ}{id:Int}[hv:aT w0 L v]:cc Tryz.prog 49 w0 L [.agg (bC v), .int .i64 id] (Sv) (fun zz=>zz.val) (fun zz=>own aM 1 zz (iO (cv v.ah) (v.at_.xs.getD id.toNat 0))::L) (fun zz=>True) (aW (cv v.ah)=true∧ ∃y,v.at_.xs[id.toNat]? =Option.some y∧0≤id∧1≤y∧y≤1000000∧2≤(y -1)/(cv v.ah).ae∧(y -1)/(cv v.ah).ae<((cv v.ah).blocks.length:Int)):=⟨fun hp w hw=>(Tt w v id (hv.h w hw) hp).mono fun e w' ⟨x,h1,h2,h3⟩=>⟨x,h1,h2,hw.call h3⟩⟩
open Go.aB Go.Kb
open Go.RowKit
open Go.aB Go.Kb
open Go.RowKit
theorem Tu(w:World)(x:dI)(n:Int)(hx:Deep.aY (hp w) x):Calls Tryz.prog 148 #[.agg (cA x), .int .i64 n] w fun e w'=> ∃zz:Sv,e= .returned (.tuple #[zz.val, .int .i64 ((dh (cx x) n).2)])∧(True)∧Mem w [own aM 1 zz (dh (cx x) n).1] w':=by
 have sq:bV w x:=⟨hx⟩
 refine aX (args:=[_,_]) Tryz.func148 rfl Tryz.ntmps148 rfl ?_
 change Cw _ _ _ _ _ [(0, .agg (cA x)),(1, .int .i64 n)] []
 refine Gc ?_
 refine bR rfl fun b2=> ?_
 iterate 2 refine Gs ?_
 refine Gc ?_
 iterate 4 refine Gs ?_
 refine Gc ?_
 refine au rfl (fun h0=> ?_) (fun h0=> ?_)
 ·
  replace h0:=bz h0
  have hE:dh (cx x) n=([],1):=by rw[dh,if_neg (by rw[h0];simp)]
  refine Gc ?_
  iterate 2 refine Gs ?_
  refine Gc ?_
  refine aq (.inl rfl) (bk rfl (al rfl) (al rfl)) (fun w1 hw=> ?_)
  exact⟨Sv.none,by rw[hE];rfl,trivial,by rw[hE];exact Mem.dA aM 1 (ai.mem hw:Mem w [] _)⟩
 ·
  replace h0:=bz h0
  have hE:dh (cx x) n=((iu (cx x) n.toNat)++be (k7 (iu (cx x) n.toNat)) 4,0):=by rw[dh,if_pos h0]
  obtain⟨m1,m2,m3,m4,m5,m6⟩:=vf.1 h0
  have SC:=tF.1 m1
  have yj:dO n=n -16:=by rw[dO,if_pos m1]
  simp only[cx]at m2 m3 m4 m5 m6
  have HK:(List.replicate (n.toNat -4) (0:UInt8)).length=n.toNat -4:=List.length_replicate
  have dk:x.body.xs.length+16≤n.toNat:=by omega
  have hg6:=gD x.gen.toNat 6
  have hm2:=gD x.body.xs.length 2
  have zr:=CY (iu (cx x) n.toNat)
  have bZ:(iu (cx x) n.toNat).length=n.toNat -4:=PU (by simp only[cx];omega)
  refine Gc ?_
  iterate 2 refine Gs ?_
  refine rK (enc:=aM) (n:=(n.toNat -4)) (cap:=(n.toNat -4)) 0 rfl rfl rfl (by omega) (by omega) (by omega) (by omega) (by omega) fun iZ=> ?_
  refine Gs ?_
  iterate 3 refine Gi ?_
  have yo:=Ai (b:=iZ) (n:=(n.toNat -4)) (by omega)
  refine iK [9,11] [[],[],[],[],[],[],[],[],[],[],[9],[9]] [0,1,2,3,4,5,6,7,8,9,10,11] [ar b2 (cA x) 110] (fun _ hw=>ai.mem hw) (by kernel_rfl) (by kernel_rfl) ?_
  refine an rfl (aC rfl) ?_
  refine an rfl (aC rfl) ?_
  refine an rfl (aH (o':=0) rfl rfl) ?_
  refine an rfl (bG rfl) ?_
  refine an rfl (qv rfl (vd _)) ?_
  refine an rfl (aH (o':=1) rfl rfl) ?_
  refine an rfl (bG rfl) ?_
  refine an rfl (qv rfl (vd _)) ?_
  refine an rfl (kH (s:=⟨false,iZ,0,(n.toNat -4),(n.toNat -4),none⟩) (i:=0) rfl rfl rfl yo (by simp only;omega)) ?_
  refine dr rfl (tt (s:=⟨false,iZ,0,(n.toNat -4),(n.toNat -4),none⟩) (n:=1) (k:=0) (j:=0) (a:=0) (a':=cG x.kind) (xs:=(List.replicate (n.toNat -4) (0:UInt8))) (enc:=aM) (c:=1) (v:= .int .u8 (cG x.kind).toNat) (by kernel_rfl) rfl rfl rfl (by rw[List.getElem?_replicate,if_pos (by omega)]) (by simp[Value.cells,Value.oneCell']) rfl (by omega) (by rfl) ⟨fun _ hw=>ai.mem hw,?_⟩)
  refine an rfl (kH (s:=⟨false,iZ,0,(n.toNat -4),(n.toNat -4),none⟩) (i:=1) rfl rfl rfl yo (by simp only;omega)) ?_
  refine dr rfl (tt (s:=⟨false,iZ,0,(n.toNat -4),(n.toNat -4),none⟩) (n:=1) (k:=1) (j:=0) (a:=0) (a':=cG x.id) (xs:=((List.replicate (n.toNat -4) (0:UInt8)).set 0 (cG x.kind))) (enc:=aM) (c:=1) (v:= .int .u8 (cG x.id).toNat) (by kernel_rfl) rfl rfl rfl (by rw[List.getElem?_set_ne (by decide),List.getElem?_replicate,if_pos (by omega)]) (by simp[Value.cells,Value.oneCell']) rfl (by omega) (by rfl) ⟨fun _ hw=>ai.mem hw,?_⟩)
  iterate 3 refine Gi ?_
  refine pL [own aM 1 ⟨false,iZ,0,(n.toNat -4),(n.toNat -4),none⟩ ([cG x.kind,cG x.id]++List.replicate ((n.toNat -4) -2) (0:UInt8)),ar b2 (cA x) 110] (fun w hw=>by
   rw[PT (by omega)]at hw
   exact ai.mem hw) ?_
  refine iK [4,5] [[],[],[],[],[],[4]] [0,1,2,3,4,5] [ar b2 (cA x) 110] (fun _ hw=>ai.mem hw) (by kernel_rfl) (by kernel_rfl) ?_
  refine an rfl (aC rfl) ?_
  have Tw:Rg 2 8 (List.replicate (n.toNat -4) (0:UInt8)).length:=⟨by omega⟩
  refine an rfl (zp (s:=⟨false,iZ,0,(n.toNat -4),(n.toNat -4),none⟩) (l:=2) (h:=8) rfl rfl rfl rfl rfl yo (by omega) (by simp only;omega)) ?_
  refine an rfl (aH (o':=2) rfl rfl) ?_
  refine an rfl (bG rfl) ?_
  refine dr rfl (mD (vs:=[_, .int .i64 ((6:Nat):Int)]) rfl ⟨by omega,by omega,by omega⟩ fun dm ly=>⟨fun _ hw=>ai.mem hw,?_⟩)
  refine dr rfl (C4 (D:=Sv.sub ⟨false,iZ,0,(n.toNat -4),(n.toNat -4),none⟩ 1 2 8) (S:=dm) (rm:=⟨false,iZ,0,(n.toNat -4),(n.toNat -4),none⟩) (k:=2) (xs:=([cG x.kind,cG x.id]++List.replicate ((n.toNat -4) -2) (0:UInt8))) (ys:=(be x.gen.toNat 6)) rfl rfl rfl rfl (by simp only[Sv.sub];rw[if_neg (by omega)]) rfl (by decide) rfl (by simp only[Sv.sub,gD];omega) (by simp only[List.length_append,gD,List.length_replicate,List.length_cons,List.length_nil];omega) ⟨fun _ hw=>ai.mem hw,?_⟩)
  iterate 3 refine Gi ?_
  refine pL [own aM 1 ⟨false,iZ,0,(n.toNat -4),(n.toNat -4),none⟩ ([cG x.kind,cG x.id]++(be x.gen.toNat 6)++List.replicate ((n.toNat -4) -2 -(be x.gen.toNat 6).length) (0:UInt8)),ar b2 (cA x) 110] (fun w hw=>by
   rw[Df (A:=[cG x.kind,cG x.id]) (k:=2) rfl]at hw
   exact ai.mem hw) ?_
  refine iK [6,7] [[],[],[],[],[],[],[],[6]] [0,1,2,3,4,5,6,7] [ar b2 (cA x) 110] (fun _ hw=>ai.mem hw) (by kernel_rfl) (by kernel_rfl) ?_
  refine an rfl (aC rfl) ?_
  have aeA:Rg 8 10 (List.replicate (n.toNat -4) (0:UInt8)).length:=⟨by omega⟩
  refine an rfl (zp (s:=⟨false,iZ,0,(n.toNat -4),(n.toNat -4),none⟩) (l:=8) (h:=10) rfl rfl rfl rfl rfl yo (by omega) (by simp only;omega)) ?_
  refine an rfl (aH (o':=3) rfl rfl) ?_
  refine an rfl (bG rfl) ?_
  refine an rfl (ko rfl) ?_
  refine an rfl (qw rfl (by simp only[nb];omega)) ?_
  refine dr rfl (mD (vs:=[_, .int .i64 ((2:Nat):Int)]) rfl ⟨by omega,by omega,by omega⟩ fun Tx aeB=>⟨fun _ hw=>ai.mem hw,?_⟩)
  refine dr rfl (C4 (D:=Sv.sub ⟨false,iZ,0,(n.toNat -4),(n.toNat -4),none⟩ 1 8 10) (S:=Tx) (rm:=⟨false,iZ,0,(n.toNat -4),(n.toNat -4),none⟩) (k:=8) (xs:=([cG x.kind,cG x.id]++(be x.gen.toNat 6)++List.replicate ((n.toNat -4) -2 -(be x.gen.toNat 6).length) (0:UInt8))) (ys:=(be x.body.xs.length 2)) rfl rfl rfl rfl (by simp only[Sv.sub];rw[if_neg (by omega)]) rfl (by decide) rfl (by simp only[Sv.sub,gD];omega) (by simp only[List.length_append,gD,List.length_replicate,List.length_cons,List.length_nil];omega) ⟨fun _ hw=>ai.mem hw,?_⟩)
  iterate 3 refine Gi ?_
  refine pL [own aM 1 ⟨false,iZ,0,(n.toNat -4),(n.toNat -4),none⟩ ([cG x.kind,cG x.id]++(be x.gen.toNat 6)++(be x.body.xs.length 2)++List.replicate ((n.toNat -4) -2 -(be x.gen.toNat 6).length -(be x.body.xs.length 2).length) (0:UInt8)),ar b2 (cA x) 110] (fun w hw=>by
   rw[Df (A:=[cG x.kind,cG x.id]++(be x.gen.toNat 6)) (k:=8) (by simp[gD])]at hw
   exact ai.mem hw) ?_
  refine iK [4] [[],[],[],[],[]] [0,1,2,3,4] [ar b2 (cA x) 110] (fun _ hw=>ai.mem hw) (by kernel_rfl) (by kernel_rfl) ?_
  refine an rfl (aC rfl) ?_
  have aeC:Rg 10 ((List.replicate (n.toNat -4) (0:UInt8)).length) (List.replicate (n.toNat -4) (0:UInt8)).length:=⟨by omega⟩
  refine an rfl (pH (s:=⟨false,iZ,0,(n.toNat -4),(n.toNat -4),none⟩) (l:=10) (n:=(n.toNat -4)) rfl rfl rfl yo rfl (by omega)) ?_
  refine an rfl (aH (o':=3) rfl rfl) ?_
  refine an rfl (bG rfl) ?_
  refine dr rfl (C4 (D:=Sv.sub ⟨false,iZ,0,(n.toNat -4),(n.toNat -4),none⟩ 1 10 (n.toNat -4)) (S:=x.body.sv) (rm:=⟨false,iZ,0,(n.toNat -4),(n.toNat -4),none⟩) (k:=10) (xs:=([cG x.kind,cG x.id]++(be x.gen.toNat 6)++(be x.body.xs.length 2)++List.replicate ((n.toNat -4) -2 -(be x.gen.toNat 6).length -(be x.body.xs.length 2).length) (0:UInt8))) (ys:=x.body.xs) rfl rfl rfl rfl (by simp only[Sv.sub];rw[if_neg (by omega)]) rfl (by decide) rfl (by simp only[Sv.sub,gD];omega) (by simp only[List.length_append,gD,List.length_replicate,List.length_cons,List.length_nil];omega) ⟨fun _ hw=>ai.mem hw,?_⟩)
  iterate 3 refine Gi ?_
  refine pL [own aM 1 ⟨false,iZ,0,(n.toNat -4),(n.toNat -4),none⟩ (iu (cx x) n.toNat),ar b2 (cA x) 110] (fun w hw=>by
   rw[Df (A:=[cG x.kind,cG x.id]++(be x.gen.toNat 6)++(be x.body.xs.length 2)) (k:=10) (by simp[gD]),show([cG x.kind,cG x.id]++(be x.gen.toNat 6)++(be x.body.xs.length 2)++x.body.xs++List.replicate ((n.toNat -4) -2 -(be x.gen.toNat 6).length -(be x.body.xs.length 2).length -x.body.xs.length) (0:UInt8))=(iu (cx x) n.toNat)from by
    simp only[iu,cx,gD]
    congr 2<;>omega]at hw
   exact ai.mem hw) ?_
  refine Gi ?_
  iterate 3 refine Gs ?_
  refine ag (qw rfl (by simp only[nb];omega)) ?_
  refine bn (vs:=[_, .int .i64 ((4:Nat):Int)]) rfl ⟨by omega,by omega,by omega⟩ fun vY Ty=> ?_
  refine nO (enc:=(bT (τ:=UInt8))) [(⟨⟨false,iZ,0,(n.toNat -4),(n.toNat -4),none⟩,(iu (cx x) n.toNat)⟩:Sl UInt8),⟨vY,be (k7 (iu (cx x) n.toNat)) 4⟩] (vals:=[(⟨false,iZ,0,(n.toNat -4),(n.toNat -4),none⟩:Sv).val,vY.val]) rfl (by simp only[List.map_cons,List.map_nil,Sv.iq];rfl) rfl (by decide) (by decide) fun b48=> ?_
  refine O6 (τ:=Sl UInt8) (xs:=[(⟨⟨false,iZ,0,(n.toNat -4),(n.toNat -4),none⟩,(iu (cx x) n.toNat)⟩:Sl UInt8),⟨vY,be (k7 (iu (cx x) n.toNat)) 4⟩]) fun Tz CS g48=> ?_
  have KA:jf Tz.xs=(dh (cx x) n).1:=by rw[CS,hE];simp[jf]
  have hf9:(dh (cx x) n).1.length≤1000:=by rw[hE,List.length_append,gD];omega
  refine bn rfl (by rw[KA];omega) fun TA aeD=> ?_
  iterate 2 refine Gs ?_
  refine Gc ?_
  refine aq (.inl rfl) (bk rfl (al rfl) (al rfl)) (fun w1 hw=> ?_)
  exact⟨TA,by rw[hE],trivial,by rw[←KA];exact ai.mem hw⟩
instance aeE{w0:World}{L:List aj}{x:dI}{n:Int}[hx:aT w0 L x]:cc Tryz.prog 148 w0 L [.agg (cA x), .int .i64 n] (Sv) (fun zz=> .tuple #[zz.val, .int .i64 ((dh (cx x) n).2)]) (fun zz=>own aM 1 zz (dh (cx x) n).1::L) (fun zz=>True) (True):=⟨fun hp w hw=>(Tu w x n (hx.h w hw)).mono fun e w' ⟨x,h1,h2,h3⟩=>⟨x,h1,h2,hw.call h3⟩⟩
open Go.aB Go.Kb
open Go.RowKit
theorem TB(i:Int)(g:UInt64)(w:World):(Instr.build 110 #[(0, .int .i64 2),(1, .int .i64 i),(2, .int .u64 (g.toNat:Int))]).run Tryz.prog w= .ok (.agg (cA ⟨2,i,g,⟨Sv.none,[]⟩⟩)) w:=by
 unfold cA
 kernel_rfl
theorem TC(w:World)(r:cV)(n:Int)(hr:Deep.aY (hp w) r):Calls Tryz.prog 123 #[.agg (dn r), .int .i64 n] w fun e w'=> ∃zz:Sv,e= .returned (.tuple #[zz.val, .int .i64 ((cM (cW r) n).2)])∧(True)∧Mem w [own aM 1 zz (cM (cW r) n).1] w':=by
 have St:bV w r:=⟨hr⟩
 have hO:=hr.1.bd
 refine aX (args:=[_,_]) Tryz.func123 rfl Tryz.ntmps123 rfl ?_
 change Cw _ _ _ _ _ [(0, .agg (dn r)),(1, .int .i64 n)] []
 refine Gc ?_
 refine bR rfl fun b2=> ?_
 iterate 2 refine Gs ?_
 refine Gc ?_
 iterate 4 refine Gs ?_
 refine Gc ?_
 refine au rfl (fun h0=> ?_) (fun h0=> ?_)
 ·
  replace h0:=bz h0
  have hE:cM (cW r) n=([],1):=by rw[cM,if_neg (by rw[h0];simp)]
  refine Gc ?_
  iterate 2 refine Gs ?_
  refine Gc ?_
  refine aq (.inl rfl) (bk rfl (al rfl) (al rfl)) (fun w1 hw=> ?_)
  exact⟨Sv.none,by rw[hE];rfl,trivial,by rw[hE];exact Mem.dA aM 1 (ai.mem hw:Mem w [] _)⟩
 ·
  replace h0:=bz h0
  have hE:cM (cW r) n=dh (⟨2,(max 0 (r.at_.xs.length -1:Int)),r.gen.toNat,fA r.at_.xs⟩:PV) n:=by rw[cM,if_pos h0];rfl
  obtain⟨m1,m2,m3,m4⟩:=tI.1 h0
  have hmf:kb n≤64:=by rw[kb];omega
  simp only[cW]at m2 m3 m4
  refine Gc ?_
  iterate 4 refine Gs ?_
  refine ag (sZ rfl rfl) ?_
  iterate 2 refine Gs ?_
  refine ag (cJ (v:= .agg (cA (⟨2,(max 0 (r.at_.xs.length -1:Int)),r.gen,⟨Sv.none,[]⟩⟩:dI))) rfl (TB _ r.gen)) ?_
  refine bH fun b6=> ?_
  refine Gs ?_
  refine Gc ?_
  iterate 4 refine Gs ?_
  refine Gc ?_
  refine bS (X:=Nat×Sv) (fun zz=>[(24, .int .i64 (zz.1:Nat)),(6, .pointer (some ⟨b6,0,none⟩)),(1, .int .i64 n),(22,r.at_.sv.val),(23, .int .i64 (r.at_.xs.length:Nat))]) (fun zz=>[ar b6 (cA (⟨2,(max 0 (r.at_.xs.length -1:Int)),r.gen,⟨zz.2,fA (r.at_.xs.take zz.1)⟩⟩:dI)) 110,own aM 1 zz.2 (fA (r.at_.xs.take zz.1)),ar b2 (dn r) 147]) (fun zz=>zz.1≤r.at_.xs.length) (fun zz=>r.at_.xs.length -zz.1) (0,Sv.none) (Nat.zero_le _) (Sub.cons rfl (Sub.cons rfl (Sub.cons rfl (Sub.cons rfl (Sub.cons rfl (Sub.nil _)))))) (fun w hw=>by
   simp only[List.take_zero,fA,List.map_nil,List.flatten_nil];exact ai.mem (Mem.dA aM 1 hw)) ?_
  rintro⟨i,s1⟩ bh
  dsimp only
  simp only at bh
  refine Gc ?_
  refine Gs ?_
  refine Gc ?_
  refine au rfl (fun h1=> ?_) (fun h1=> ?_)
  ·
   replace h1:=bz h1
   obtain⟨y,hy⟩:=get_some (xs:=r.at_.xs) (i:=i) (by omega)
   have Ep:=Aj.1 (m4 y (List.mem_of_getElem? hy))
   have dX:fA (r.at_.xs.take (i+1))=fA (r.at_.xs.take i)++[cG (y/256),cG y]:=PX hy
   have Kr:=vh (r.at_.xs.take i)
   have hnt:(r.at_.xs.take i).length≤64:=by rw[List.length_take];omega
   refine Gc ?_
   refine ag (bc rfl rfl i rfl (by omega)) ?_
   refine ag (bF (j:=0) rfl i hy rfl (by decide)) ?_
   refine Gs ?_
   refine Gc ?_
   iterate 3 refine Gs ?_
   refine ag (Ry.to (v':= .int .i64 (y/256)) (s0 (p:=y.toNat) (Eq.trans (b:=some (Value.int .i64 y)) rfl (by rw[Int.toNat_of_nonneg Ep.1])) rfl (by simp only[nb];omega) (by omega)) (by rw[show(8:Int).toNat=8 from rfl];congr 1;omega)) ?_
   refine ag (qv rfl (vd _)) ?_
   refine Gs ?_
   refine ag (qv rfl (vd _)) ?_
   refine nO (enc:=aM) (vals:=[_,_]) [(cG (y/256)),(cG y)] rfl rfl rfl (by decide) (by decide) fun KB=> ?_
   refine kY (s:=s1) (ys:=[(cG (y/256)),(cG y)]) rfl rfl (by decide) (fun w hw=>jW (s:=⟨false,KB,0,2,2,none⟩) Tryz.underlying38 (by decide) ((inferInstance:Hd _ _ ⟨false,KB,0,2,2,none⟩ aM 1 [(cG (y/256)),(cG y)]).h w hw)) (by simp only[List.length_cons,List.length_nil];omega) (by simp only[List.length_cons,List.length_nil];omega) fun KC aeF aeG=> ?_
   refine Gs ?_
   refine dS (cs':=cA (⟨2,(max 0 (r.at_.xs.length -1:Int)),r.gen,⟨KC,((fA (r.at_.xs.take i))++[(cG (y/256)),(cG y)])⟩⟩:dI)) rfl rfl (by show 3<4;decide) (by first|rfl|exact Sv.one _) rfl ?_
   refine Gc ?_
   iterate 2 refine Gs ?_
   refine Gi ?_
   exact bu (x:=(i,s1)) (i+1,KC) (by simp only;omega) (by simp only;omega) (Sub.cons rfl (Sub.cons rfl (Sub.cons rfl (Sub.cons rfl (Sub.cons rfl (Sub.nil _)))))) (fun w hw=>by
    simp only[dX];exact ai.mem hw)
  ·
   replace h1:=bz h1
   obtain rfl:i=r.at_.xs.length:=by omega
   rw[List.take_length]
   iterate 6 refine Gi ?_
   refine pL [Deep.bY (⟨s1,fA r.at_.xs⟩:Sl UInt8),ar b6 (cA (⟨2,(max 0 (r.at_.xs.length -1:Int)),r.gen,⟨s1,fA r.at_.xs⟩⟩:dI)) 110] (fun w hw=>ai.mem (Mem.HM (ai.mem hw:Mem _ [own aM 1 s1 (fA r.at_.xs),ar b6 (cA (⟨2,(max 0 (r.at_.xs.length -1:Int)),r.gen,⟨s1,fA r.at_.xs⟩⟩:dI)) 110] _))) ?_
   refine Gi ?_
   iterate 2 refine Gs ?_
   refine bn rfl trivial fun jS TD=> ?_
   refine ag (aU (v:=jS.val) rfl rfl) ?_
   refine ag (aU (v:= .int .i64 ((dh (cx (⟨2,(max 0 (r.at_.xs.length -1:Int)),r.gen,⟨s1,fA r.at_.xs⟩⟩:dI)) n).2)) rfl rfl) ?_
   iterate 2 refine Gs ?_
   refine Gc ?_
   refine aq (.inl rfl) (bk rfl (al rfl) (al rfl)) (fun w1 hw=> ?_)
   exact⟨jS,by rw[hE];rfl,trivial,by
    have h1:Mem w [own aM 1 jS (dh (cx (⟨2,(max 0 (r.at_.xs.length -1:Int)),r.gen,⟨s1,fA r.at_.xs⟩⟩:dI)) n).1] _:=ai.mem hw
    rw[hE];exact h1⟩
instance aeH{w0:World}{L:List aj}{r:cV}{n:Int}[hr:aT w0 L r]:cc Tryz.prog 123 w0 L [.agg (dn r), .int .i64 n] (Sv) (fun zz=> .tuple #[zz.val, .int .i64 ((cM (cW r) n).2)]) (fun zz=>own aM 1 zz (cM (cW r) n).1::L) (fun zz=>True) (True):=⟨fun hp w hw=>(TC w r n (hr.h w hw)).mono fun e w' ⟨x,h1,h2,h3⟩=>⟨x,h1,h2,hw.call h3⟩⟩
open Go.aB Go.Kb
open Go.RowKit
theorem TE(w:World)(xb:Nat)(xc:Cp)(xa:Sl Int)(xg:UInt64)(xl:Int)(xy:Bool)(dY:w.heap[xb]? =Option.some (.cells (aK (⟨⟨xc,xa,xg,xl⟩,xy⟩:aP)) 141 (0,0)))(dz:Deep.aY (hp w) xc):Calls Tryz.prog 87 #[.pointer (some ⟨xb,0,none⟩)] w fun e w'=>e= .returned (.int .i64 (kv (cv xc):Nat))∧Mem w [] w':=by
 have rh:ob w xb (aK (⟨⟨xc,xa,xg,xl⟩,xy⟩:aP)) 141:=⟨dY⟩
 have ri:bV w xc:=⟨dz⟩
 have hO:=dz.1.1.bd
 have dk:(cv xc).blocks.length=xc.blocks.xs.length:=dU _
 refine aX (args:=[_]) Tryz.func87 rfl Tryz.ntmps87 rfl ?_
 change Cw _ _ _ _ _ [(0, .pointer (some ⟨xb,0,none⟩))] []
 refine Gc ?_
 refine Gs ?_
 refine Gc ?_
 refine Gs ?_
 refine Gc ?_
 iterate 5 refine Gs ?_
 refine ag (Ry.to (v':=xc.blocks.sv.val) (lv rfl) rfl) ?_
 iterate 2 refine Gs ?_
 refine Gc ?_
 refine bS (X:=Nat) (fun zz=>[(13, .int .i64 (zz:Nat)),(3, .int .i64 ((((fy xc.blocks.xs).take zz).filter fun b=>b.bad).length:Nat)),(11,xc.blocks.sv.val),(12, .int .i64 (xc.blocks.xs.length:Nat))]) (fun zz=>[]) (fun zz=>zz≤xc.blocks.xs.length) (fun zz=>xc.blocks.xs.length -zz) 0 (Nat.zero_le _) (Sub.cons rfl (Sub.cons rfl (Sub.cons rfl (Sub.cons rfl (Sub.nil _))))) (fun w hw=>ai.mem hw) ?_
 rintro i bh
 refine Gc ?_
 refine Gs ?_
 refine Gc ?_
 refine au rfl (fun h0=> ?_) (fun h0=> ?_)
 ·
  replace h0:=bz h0
  obtain⟨B,hB⟩:=get_some (xs:=xc.blocks.xs) (i:=i) (by omega)
  have n8:Mb B xc.blocks:=⟨List.mem_of_getElem? hB⟩
  have dX:=Qo (gX hB)
  have hle:(((fy xc.blocks.xs).take i).filter fun b=>b.bad).length≤i:=Nat.le_trans (List.length_filter_le _ _) (by rw[List.length_take];omega)
  refine Gc ?_
  refine ag (bc rfl rfl i rfl (by omega)) ?_
  refine ag (fW rfl i hB rfl) ?_
  have TF:Mb B xc.blocks:=⟨List.mem_of_getElem? hB⟩
  refine bH fun b5=> ?_
  refine Gs ?_
  refine Gc ?_
  iterate 2 refine Gs ?_
  refine Gc ?_
  refine au rfl (fun h1=> ?_) (fun h1=> ?_)
  ·
   replace h1:=bz h1
   rw[if_pos (show(bv B).bad=true from h1)]at dX
   refine Gi ?_
   iterate 3 refine Gs ?_
   refine Gc ?_
   iterate 2 refine Gs ?_
   refine Gi ?_
   exact bu (x:=(i)) (i+1) (by first|omega|(simp only[];omega)) (by first|omega|(simp only[];omega)) (Sub.cons rfl (Sub.cons (look_eq rfl (by rw[dX];rfl)) (Sub.cons rfl (Sub.cons rfl (Sub.nil _))))) (fun w hw=>ai.mem hw)
  ·
   replace h1:=bz h1
   rw[if_neg (show ¬(bv B).bad=true by rw[show(bv B).bad=B.bad from rfl,h1];simp)]at dX
   refine Gc ?_
   iterate 2 refine Gs ?_
   refine Gi ?_
   exact bu (x:=(i)) (i+1) (by first|omega|(simp only[];omega)) (by first|omega|(simp only[];omega)) (Sub.cons rfl (Sub.cons (look_eq rfl (by rw[dX,Nat.add_zero])) (Sub.cons rfl (Sub.cons rfl (Sub.nil _))))) (fun w hw=>ai.mem hw)
 ·
  replace h0:=bz h0
  obtain rfl:i=xc.blocks.xs.length:=by omega
  have hz:kv (cv xc)=(((fy xc.blocks.xs).take xc.blocks.xs.length).filter fun b=>b.bad).length:=by rw[←dk];exact congrArg (fun l:List BV=>(l.filter fun b=>b.bad).length) (List.take_length).symm
  refine Gc ?_
  iterate 2 refine Gs ?_
  refine Gc ?_
  refine aq (.inl rfl) (aG rfl (al rfl)) (fun w1 hw=> ?_)
  exact⟨congrArg (fun b=>Ending.returned (Value.int .i64 b)) (by rw[hz]),ai.mem hw⟩
instance aeI{w0:World}{L:List aj}{xb:Nat}{xc:Cp}{xa:Sl Int}{xg:UInt64}{xl:Int}{xy:Bool}[dY:kC w0 L xb (aK (⟨⟨xc,xa,xg,xl⟩,xy⟩:aP)) 141][dz:aT w0 L xc]:cw Tryz.prog 87 w0 L [.pointer (some ⟨xb,0,none⟩)] (.int .i64 (kv (cv xc):Nat)) (True):=⟨fun hp w hw=>TE w xb xc xa xg xl xy (dY.h w hw) (dz.h w hw)⟩
theorem TG(w:World)(xb:Nat)(xc:Cp)(xa:Sl Int)(xg:UInt64)(xl:Int)(xy:Bool)(b:Int)(dY:w.heap[xb]? =Option.some (.cells (aK (⟨⟨xc,xa,xg,xl⟩,xy⟩:aP)) 141 (0,0)))(dz:Deep.aY (hp w) xc)(ba:aW (cv xc)=true∧0≤b∧b<(cv xc).blocks.length):Calls Tryz.prog 124 #[.pointer (some ⟨xb,0,none⟩), .int .i64 b] w fun e w'=>e= .returned (.int .i64 (eE (cv xc) b))∧Mem w [] w':=by
 have rh:ob w xb (aK (⟨⟨xc,xa,xg,xl⟩,xy⟩:aP)) 141:=⟨dY⟩
 have ri:bV w xc:=⟨dz⟩
 obtain⟨hk,nC,ug⟩:=ba
 have jD:dC xc:=oP hk
 have dk:(cv xc).blocks.length=xc.blocks.xs.length:=dU _
 obtain⟨B,hB⟩:=get_some (xs:=xc.blocks.xs) (i:=b.toNat) (by omega)
 have n8:Mb B xc.blocks:=⟨List.mem_of_getElem? hB⟩
 have dQ:=pW hB
 have fj:=ez.1 ((eo.1 hk).2.2.2.2 (bv B) (List.mem_of_getElem? (gX hB)))
 have gM:=jg.1 (eo.1 hk).1
 have nD:(ak (cv xc) b).used=B.used:=by rw[dQ];rfl
 simp only[bv,cv]at fj gM
 refine aX (args:=[_,_]) Tryz.func124 rfl Tryz.ntmps124 rfl ?_
 change Cw _ _ _ _ _ [(0, .pointer (some ⟨xb,0,none⟩)),(1, .int .i64 b)] []
 refine Gc ?_
 refine Gs ?_
 refine Gc ?_
 iterate 5 refine Gs ?_
 refine ag (Ry.to (v':=xc.blocks.sv.val) (lv rfl) rfl) ?_
 refine Gs ?_
 refine ag (bc rfl rfl b.toNat (by omega) (by omega)) ?_
 refine ag (fW rfl b.toNat hB rfl) ?_
 have AZ:Mb B xc.blocks:=⟨List.mem_of_getElem? hB⟩
 refine bH fun b5=> ?_
 refine Gs ?_
 refine Gc ?_
 iterate 2 refine Gs ?_
 refine Gc ?_
 refine au rfl (fun h0=> ?_) (fun h0=> ?_)
 ·
  replace h0:=bz h0
  refine Gc ?_
  refine Gs ?_
  refine Gc ?_
  refine aq (.inl rfl) (aG rfl (al rfl)) (fun w1 hw=> ?_)
  exact⟨congrArg (fun b=>Ending.returned (Value.int .i64 b)) ((by rw[eE,dQ,if_pos (show(bv B).bad=true from h0)])),ai.mem hw⟩
 ·
  replace h0:=bz h0
  refine Gc ?_
  refine gk (by kernel_rfl) (by kernel_rfl) ?_
  iterate 5 refine Gq ?_
  refine bb (Ry.to (v':= .int .i64 xc.ae) (lv rfl) rfl) ?_
  iterate 4 refine Gq ?_
  refine Gc ?_
  refine aq (.inl rfl) (aG rfl (al rfl)) (fun w1 hw=> ?_)
  exact⟨congrArg (fun b=>Ending.returned (Value.int .i64 b)) ((by rw[eE,dQ,if_neg (show ¬(bv B).bad=true by rw[show(bv B).bad=B.bad from rfl,h0];simp)];rfl)),ai.mem hw⟩
instance aeJ{w0:World}{L:List aj}{xb:Nat}{xc:Cp}{xa:Sl Int}{xg:UInt64}{xl:Int}{xy:Bool}{b:Int}[dY:kC w0 L xb (aK (⟨⟨xc,xa,xg,xl⟩,xy⟩:aP)) 141][dz:aT w0 L xc]:cw Tryz.prog 124 w0 L [.pointer (some ⟨xb,0,none⟩), .int .i64 b] (.int .i64 (eE (cv xc) b)) (aW (cv xc)=true∧0≤b∧b<(cv xc).blocks.length):=⟨fun hp w hw=>TG w xb xc xa xg xl xy b (dY.h w hw) (dz.h w hw) hp⟩
theorem TH(w:World)(er:Int):Calls Tryz.prog 172 #[.int .i64 er] w fun e w'=>e= .returned (.int .i64 (iR er))∧Mem w [] w':=by
 refine aX (args:=[_]) Tryz.func172 rfl Tryz.ntmps172 rfl ?_
 change Cw _ _ _ _ _ [(0, .int .i64 er)] []
 refine Gc ?_
 refine Gs ?_
 refine Gc ?_
 iterate 2 refine Gs ?_
 refine Gc ?_
 refine au rfl (fun h0=> ?_) (fun h0=> ?_)
 ·
  replace h0:=bz h0
  refine Gc ?_
  refine Gs ?_
  refine Gc ?_
  refine aq (.inl rfl) (aG rfl (al rfl)) (fun w1 hw=> ?_)
  exact⟨congrArg (fun b=>Ending.returned (Value.int .i64 b)) ((by rw[iR,if_pos h0])),ai.mem hw⟩
 ·
  replace h0:=bz h0
  refine Gc ?_
  iterate 2 refine Gs ?_
  refine Gc ?_
  refine aq (.inl rfl) (aG rfl (al rfl)) (fun w1 hw=> ?_)
  exact⟨congrArg (fun b=>Ending.returned (Value.int .i64 b)) ((by rw[iR,if_neg h0])),ai.mem hw⟩
instance aeK{w0:World}{L:List aj}{er:Int}:cw Tryz.prog 172 w0 L [.int .i64 er] (.int .i64 (iR er)) (True):=⟨fun hp w hw=>TH w er⟩
theorem TI(w:World)(xb:Nat)(xc:Cp)(xa:Sl Int)(xg:UInt64)(xl:Int)(xy:Bool)(dY:w.heap[xb]? =Option.some (.cells (aK (⟨⟨xc,xa,xg,xl⟩,xy⟩:aP)) 141 (0,0)))(dz:Deep.aY (hp w) xc)(ba:xg.toNat<281474976710656):Calls Tryz.prog 167 #[.pointer (some ⟨xb,0,none⟩)] w fun e w'=>e= .returned (.bool (vq xg.toNat))∧Mem w [] w':=by
 have rh:ob w xb (aK (⟨⟨xc,xa,xg,xl⟩,xy⟩:aP)) 141:=⟨dY⟩
 have ri:bV w xc:=⟨dz⟩
 refine aX (args:=[_]) Tryz.func167 rfl Tryz.ntmps167 rfl ?_
 change Cw _ _ _ _ _ [(0, .pointer (some ⟨xb,0,none⟩))] []
 refine Gc ?_
 refine Gs ?_
 refine Gc ?_
 iterate 4 refine Gs ?_
 refine ag (Ry.to (v':= .int .u64 (xg.toNat:Nat)) (lv rfl) rfl) ?_
 refine ag (wQ (p:=xg.toNat) (q:=2) rfl rfl rfl rfl (by simp only[nb];omega)) ?_
 iterate 2 refine Gs ?_
 refine Gc ?_
 refine aq (.inl rfl) (aG rfl (al rfl)) (fun w1 hw=> ?_)
 exact⟨congrArg (fun b=>Ending.returned (Value.bool b)) (by rw[vq];congr 1;simp only[eq_iff_iff];omega),ai.mem hw⟩
instance aeL{w0:World}{L:List aj}{xb:Nat}{xc:Cp}{xa:Sl Int}{xg:UInt64}{xl:Int}{xy:Bool}[dY:kC w0 L xb (aK (⟨⟨xc,xa,xg,xl⟩,xy⟩:aP)) 141][dz:aT w0 L xc]:cw Tryz.prog 167 w0 L [.pointer (some ⟨xb,0,none⟩)] (.bool (vq xg.toNat)) (xg.toNat<281474976710656):=⟨fun hp w hw=>TI w xb xc xa xg xl xy (dY.h w hw) (dz.h w hw) hp⟩
theorem TJ(w:World)(xb:Nat)(xc:Cp)(xa:Sl Int)(xg:UInt64)(xl:Int)(xy:Bool)(b:Int)(dY:w.heap[xb]? =Option.some (.cells (aK (⟨⟨xc,xa,xg,xl⟩,xy⟩:aP)) 141 (0,0)))(dz:Deep.aY (hp w) xc)(ba:aW (cv xc)=true∧0≤b∧b<(cv xc).blocks.length):Calls Tryz.prog 144 #[.pointer (some ⟨xb,0,none⟩), .int .i64 b] w fun e w'=>e= .returned (.int .u64 ((jx (cv xc) b):Nat))∧Mem w [] w':=by
 have rh:ob w xb (aK (⟨⟨xc,xa,xg,xl⟩,xy⟩:aP)) 141:=⟨dY⟩
 have ri:bV w xc:=⟨dz⟩
 obtain⟨hk,nC,ug⟩:=ba
 have jD:dC xc:=oP hk
 have dk:(cv xc).blocks.length=xc.blocks.xs.length:=dU _
 obtain⟨B,hB⟩:=get_some (xs:=xc.blocks.xs) (i:=b.toNat) (by omega)
 have n8:Mb B xc.blocks:=⟨List.mem_of_getElem? hB⟩
 have dQ:=pW hB
 have fj:=ez.1 ((eo.1 hk).2.2.2.2 (bv B) (List.mem_of_getElem? (gX hB)))
 have gM:=jg.1 (eo.1 hk).1
 have nD:(ak (cv xc) b).used=B.used:=by rw[dQ];rfl
 simp only[bv,cv]at fj gM
 have ib:=gW B.ae.xs
 have TK:jx (cv xc) b=pX (aI B.ae.xs):=by rw[jx,dQ];rfl
 refine aX (args:=[_,_]) Tryz.func144 rfl Tryz.ntmps144 rfl ?_
 change Cw _ _ _ _ _ [(0, .pointer (some ⟨xb,0,none⟩)),(1, .int .i64 b)] []
 refine Gc ?_
 refine Gs ?_
 refine Gc ?_
 refine Gs ?_
 refine Gc ?_
 iterate 5 refine Gs ?_
 refine ag (Ry.to (v':=xc.blocks.sv.val) (lv rfl) rfl) ?_
 refine Gs ?_
 refine ag (bc rfl rfl b.toNat (by omega) (by omega)) ?_
 refine ag (aH rfl rfl) ?_
 refine ag (bF (j:=0) rfl b.toNat hB rfl (by decide)) ?_
 iterate 2 refine Gs ?_
 refine Gc ?_
 refine bS (X:=Nat) (fun zz=>[(21, .int .i64 (zz:Nat)),(5, .int .u64 ((pX ((aI B.ae.xs).take zz)):Nat)),(19,B.ae.sv.val),(20, .int .i64 (B.ae.xs.length:Nat))]) (fun zz=>[]) (fun zz=>zz≤B.ae.xs.length) (fun zz=>B.ae.xs.length -zz) 0 (Nat.zero_le _) (Sub.cons rfl (Sub.cons rfl (Sub.cons rfl (Sub.cons rfl (Sub.nil _))))) (fun w hw=>ai.mem hw) ?_
 rintro i bh
 refine Gc ?_
 refine Gs ?_
 refine Gc ?_
 refine au rfl (fun h0=> ?_) (fun h0=> ?_)
 ·
  replace h0:=bz h0
  obtain⟨y,hy⟩:=get_some (xs:=B.ae.xs) (i:=i) (by omega)
  have su:Mb y B.ae:=⟨List.mem_of_getElem? hy⟩
  have dX:=Qn (jr hy)
  have yi:=Du ((aI B.ae.xs).take i)
  have si:=IQ y.xs
  refine Gc ?_
  refine ag (bc rfl rfl i rfl (by omega)) ?_
  refine ag (bF (j:=0) rfl i hy rfl (by decide)) ?_
  refine Gs ?_
  refine Gc ?_
  refine Gs ?_
  refine bn rfl trivial fun og qi=> ?_
  have ph:og.gen.toNat=(bA y.xs).1.gen:=congrArg RV.gen qi
  refine Gs ?_
  refine ag (aU (v:= .agg (dn og)) rfl rfl) ?_
  refine ag (aU (v:= .int .i64 ((bA y.xs).2)) rfl rfl) ?_
  refine bH fun b8=> ?_
  iterate 2 refine Gs ?_
  refine Gc ?_
  iterate 2 refine Gs ?_
  refine Gc ?_
  refine au rfl (fun h1=> ?_) (fun h1=> ?_)
  ·
   replace h1:=bz h1
   have hr:jw y.xs=og.gen.toNat:=by rw[jw,if_pos h1,←ph]
   refine Gi ?_
   iterate 3 refine Gs ?_
   refine ag (sZ rfl rfl) ?_
   refine Gs ?_
   refine Gc ?_
   iterate 2 refine Gs ?_
   refine Gi ?_
   exact bu (x:=(i)) (i+1) (by first|omega|(simp only[];omega)) (by first|omega|(simp only[];omega)) (Sub.cons rfl (Sub.cons (look_eq rfl (by rw[dX,hr];congr 1;omega)) (Sub.cons rfl (Sub.cons rfl (Sub.nil _))))) (fun w hw=>ai.mem hw)
  ·
   replace h1:=bz h1
   have hr:jw y.xs=0:=by rw[jw,if_neg h1]
   refine Gc ?_
   iterate 2 refine Gs ?_
   refine Gi ?_
   exact bu (x:=(i)) (i+1) (by first|omega|(simp only[];omega)) (by first|omega|(simp only[];omega)) (Sub.cons rfl (Sub.cons (look_eq rfl (by rw[dX,hr];congr 1;omega)) (Sub.cons rfl (Sub.cons rfl (Sub.nil _))))) (fun w hw=>ai.mem hw)
 ·
  replace h0:=bz h0
  obtain rfl:i=B.ae.xs.length:=by omega
  have hz:pX (aI B.ae.xs)=(pX ((aI B.ae.xs).take B.ae.xs.length)):=by rw[←ib,List.take_length]
  refine Gc ?_
  iterate 2 refine Gs ?_
  refine Gc ?_
  refine aq (.inl rfl) (aG rfl (al rfl)) (fun w1 hw=> ?_)
  exact⟨by rw[TK,hz],ai.mem hw⟩
instance aeM{w0:World}{L:List aj}{xb:Nat}{xc:Cp}{xa:Sl Int}{xg:UInt64}{xl:Int}{xy:Bool}{b:Int}[dY:kC w0 L xb (aK (⟨⟨xc,xa,xg,xl⟩,xy⟩:aP)) 141][dz:aT w0 L xc]:cw Tryz.prog 144 w0 L [.pointer (some ⟨xb,0,none⟩), .int .i64 b] (.int .u64 ((jx (cv xc) b):Nat)) (aW (cv xc)=true∧0≤b∧b<(cv xc).blocks.length):=⟨fun hp w hw=>TJ w xb xc xa xg xl xy b (dY.h w hw) (dz.h w hw) hp⟩
theorem TL(w:World)(xb:Nat)(xc:Cp)(xa:Sl Int)(xg:UInt64)(xl:Int)(xy:Bool)(b:Int)(dY:w.heap[xb]? =Option.some (.cells (aK (⟨⟨xc,xa,xg,xl⟩,xy⟩:aP)) 141 (0,0)))(dz:Deep.aY (hp w) xc)(ba:aW (cv xc)=true∧0≤b∧b<(cv xc).blocks.length):Calls Tryz.prog 120 #[.pointer (some ⟨xb,0,none⟩), .int .i64 b] w fun e w'=>e= .returned (.bool (vp (cv xc) b))∧Mem w [] w':=by
 have rh:ob w xb (aK (⟨⟨xc,xa,xg,xl⟩,xy⟩:aP)) 141:=⟨dY⟩
 have ri:bV w xc:=⟨dz⟩
 have TM:=ba
 obtain⟨hk,nC,ug⟩:=ba
 have jD:dC xc:=oP hk
 have dk:(cv xc).blocks.length=xc.blocks.xs.length:=dU _
 obtain⟨B,hB⟩:=get_some (xs:=xc.blocks.xs) (i:=b.toNat) (by omega)
 have n8:Mb B xc.blocks:=⟨List.mem_of_getElem? hB⟩
 have dQ:=pW hB
 have fj:=ez.1 ((eo.1 hk).2.2.2.2 (bv B) (List.mem_of_getElem? (gX hB)))
 have gM:=jg.1 (eo.1 hk).1
 have nD:(ak (cv xc) b).used=B.used:=by rw[dQ];rfl
 simp only[bv,cv]at fj gM
 refine aX (args:=[_,_]) Tryz.func120 rfl Tryz.ntmps120 rfl ?_
 change Cw _ _ _ _ _ [(0, .pointer (some ⟨xb,0,none⟩)),(1, .int .i64 b)] []
 refine Gc ?_
 refine Gs ?_
 refine Gc ?_
 iterate 5 refine Gs ?_
 refine ag (Ry.to (v':=xc.blocks.sv.val) (lv rfl) rfl) ?_
 refine Gs ?_
 refine ag (bc rfl rfl b.toNat (by omega) (by omega)) ?_
 refine ag (fW rfl b.toNat hB rfl) ?_
 have AZ:Mb B xc.blocks:=⟨List.mem_of_getElem? hB⟩
 refine bH fun b5=> ?_
 refine Gs ?_
 refine Gc ?_
 iterate 4 refine Gs ?_
 iterate 3 refine Gg ?_
 refine gB rfl rfl rfl (fun hg=>(Ry.yl (aC (aF hg rfl)))) ?_
 refine qy rfl rfl rfl (fun hg=>(Ry.yl (aC rfl))) ?_
 refine qy rfl rfl rfl (fun hg=>(Ry.yl (cm (aF hg rfl) rfl rfl))) ?_
 refine qy rfl rfl rfl (fun hg=>(Ry.yl (aC (aF hg rfl)))) ?_
 refine qx rfl rfl rfl (fun hg=>(Ry.yl (aC rfl))) ?_
 refine qx rfl rfl rfl (fun hg=>(Ry.yl (aC rfl))) ?_
 refine qx rfl rfl rfl (fun hg=>cy (dw (aF hg rfl) (dw (aF hg rfl) gg)) TM) ?_
 refine qx rfl rfl rfl (fun hg=>(Ry.yl (cm (aF hg rfl) rfl rfl))) ?_
 refine qy rfl rfl rfl (fun hg=>(Ry.yl (wK (aF hg rfl) (wR hg rfl) rfl))) ?_
 refine gB rfl rfl rfl (fun hg=>(Ry.yl (lC (aF hg rfl) rfl (wR hg rfl)))) ?_
 iterate 2 refine Gs ?_
 refine Gc ?_
 refine aq (.inl rfl) (aG rfl (al rfl)) (fun w1 hw=> ?_)
 exact⟨congrArg (fun b=>Ending.returned (Value.bool b)) ((by
  have e:decide ((0:Int)<((jx (cv xc) b:Nat):Int))=decide (0<jx (cv xc) b):=decide_eq_decide.2 (by omega)
  rw[vp,dQ,e];rfl)),ai.mem hw⟩
instance aeN{w0:World}{L:List aj}{xb:Nat}{xc:Cp}{xa:Sl Int}{xg:UInt64}{xl:Int}{xy:Bool}{b:Int}[dY:kC w0 L xb (aK (⟨⟨xc,xa,xg,xl⟩,xy⟩:aP)) 141][dz:aT w0 L xc]:cw Tryz.prog 120 w0 L [.pointer (some ⟨xb,0,none⟩), .int .i64 b] (.bool (vp (cv xc) b)) (aW (cv xc)=true∧0≤b∧b<(cv xc).blocks.length):=⟨fun hp w hw=>TL w xb xc xa xg xl xy b (dY.h w hw) (dz.h w hw) hp⟩
theorem TN(w:World)(xb:Nat)(xc:Cp)(xa:Sl Int)(xg:UInt64)(xl:Int)(xy:Bool)(b:Int)(dY:w.heap[xb]? =Option.some (.cells (aK (⟨⟨xc,xa,xg,xl⟩,xy⟩:aP)) 141 (0,0)))(dz:Deep.aY (hp w) xc)(ba:aW (cv xc)=true∧2≤(cv xc).blocks.length∧(b=0∨b=1)):Calls Tryz.prog 122 #[.pointer (some ⟨xb,0,none⟩), .int .i64 b] w fun e w'=>e= .returned (.int .u64 ((fg (cv xc) b):Nat))∧Mem w [] w':=by
 have rh:ob w xb (aK (⟨⟨xc,xa,xg,xl⟩,xy⟩:aP)) 141:=⟨dY⟩
 have ri:bV w xc:=⟨dz⟩
 obtain⟨hk,pY,KD⟩:=ba
 have yi:=Du (ak (cv xc) (1 -b)).ae
 change jx (cv xc) (1 -b)<_ at yi
 refine aX (args:=[_,_]) Tryz.func122 rfl Tryz.ntmps122 rfl ?_
 change Cw _ _ _ _ _ [(0, .pointer (some ⟨xb,0,none⟩)),(1, .int .i64 b)] []
 refine Gc ?_
 refine Gs ?_
 refine Gc ?_
 iterate 3 refine Gs ?_
 refine Gc ?_
 iterate 2 refine Gs ?_
 refine eS (cy rfl ⟨hk,by omega,by omega⟩) ?_
 refine Gs ?_
 refine ag (Ry.to (v':= .int .u64 (((1 -b).toNat:Nat):Int)) (Nb rfl (by omega) (by simp only[nb];omega)) (by congr 1;omega)) ?_
 refine ag (wQ (p:=(jx (cv xc) (1 -b))) (q:=((1 -b).toNat)) rfl rfl rfl rfl (by simp only[nb];omega)) ?_
 refine ag (sZ rfl rfl) ?_
 refine Gs ?_
 refine Gc ?_
 refine aq (.inl rfl) (aG rfl (al rfl)) (fun w1 hw=> ?_)
 exact⟨by rw[fg];congr 2;omega,ai.mem hw⟩
instance aeO{w0:World}{L:List aj}{xb:Nat}{xc:Cp}{xa:Sl Int}{xg:UInt64}{xl:Int}{xy:Bool}{b:Int}[dY:kC w0 L xb (aK (⟨⟨xc,xa,xg,xl⟩,xy⟩:aP)) 141][dz:aT w0 L xc]:cw Tryz.prog 122 w0 L [.pointer (some ⟨xb,0,none⟩), .int .i64 b] (.int .u64 ((fg (cv xc) b):Nat)) (aW (cv xc)=true∧2≤(cv xc).blocks.length∧(b=0∨b=1)):=⟨fun hp w hw=>TN w xb xc xa xg xl xy b (dY.h w hw) (dz.h w hw) hp⟩
theorem TO(w:World)(xb:Nat)(xc:Cp)(xa:Sl Int)(xg:UInt64)(xl:Int)(xy:Bool)(dY:w.heap[xb]? =Option.some (.cells (aK (⟨⟨xc,xa,xg,xl⟩,xy⟩:aP)) 141 (0,0)))(dz:Deep.aY (hp w) xc)(ba:aW (cv xc)=true∧2≤(cv xc).blocks.length∧(xl=0∨xl=1)):Calls Tryz.prog 151 #[.pointer (some ⟨xb,0,none⟩)] w fun e w'=>e= .returned (.int .i64 (rX (cv xc) xl))∧Mem w [] w':=by
 have rh:ob w xb (aK (⟨⟨xc,xa,xg,xl⟩,xy⟩:aP)) 141:=⟨dY⟩
 have ri:bV w xc:=⟨dz⟩
 obtain⟨hk,pY,KD⟩:=ba
 have jD:dC xc:=oP hk
 have dk:(cv xc).blocks.length=xc.blocks.xs.length:=dU _
 obtain⟨Bo,fj⟩:=get_some (xs:=xc.blocks.xs) (i:=(1 -xl).toNat) (by omega)
 obtain⟨Bl,lp⟩:=get_some (xs:=xc.blocks.xs) (i:=xl.toNat) (by omega)
 have vZ:=pW fj
 have KE:=pW lp
 refine aX (args:=[_]) Tryz.func151 rfl Tryz.ntmps151 rfl ?_
 change Cw _ _ _ _ _ [(0, .pointer (some ⟨xb,0,none⟩))] []
 refine Gc ?_
 refine Gs ?_
 refine Gc ?_
 refine gk (by kernel_rfl) (by kernel_rfl) ?_
 iterate 4 refine Gq ?_
 refine bb (Ry.to (v':= .int .i64 xl) (lv rfl) rfl) ?_
 iterate 4 refine Gq ?_
 refine bb (Ry.to (v':= .int .i64 xl) (lv rfl) rfl) ?_
 iterate 3 refine Gq ?_
 refine Gc ?_
 iterate 5 refine Gs ?_
 refine ag (Ry.to (v':=xc.blocks.sv.val) (lv rfl) rfl) ?_
 refine Gs ?_
 refine ag (bc rfl rfl ((1 -xl).toNat) (by omega) (by omega)) ?_
 refine ag (aH rfl rfl) ?_
 refine ag (bF (j:=3) rfl ((1 -xl).toNat) fj rfl (by decide)) ?_
 refine Gs ?_
 refine Gc ?_
 refine au rfl (fun h0=> ?_) (fun h0=> ?_)
 ·
  replace h0:=bz h0
  refine Gc ?_
  iterate 2 refine Gs ?_
  refine eS (cy rfl ⟨hk,by omega,by omega⟩) ?_
  refine Gs ?_
  refine Gc ?_
  refine aq (.inl rfl) (aG rfl (al rfl)) (fun w1 hw=> ?_)
  exact⟨congrArg (fun b=>Ending.returned (Value.int .i64 b)) ((by rw[rX,vZ,if_pos (show(bv Bo).bad=true from h0)])),ai.mem hw⟩
 ·
  replace h0:=bz h0
  refine Gc ?_
  iterate 5 refine Gs ?_
  refine ag (Ry.to (v':=xc.blocks.sv.val) (lv rfl) rfl) ?_
  refine Gs ?_
  refine ag (bc rfl rfl xl.toNat (by omega) (by omega)) ?_
  refine ag (aH rfl rfl) ?_
  refine ag (bF (j:=3) rfl xl.toNat lp rfl (by decide)) ?_
  refine Gs ?_
  iterate 2 refine Gg ?_
  refine gB rfl rfl rfl (fun hg=>cy (dw (aF hg rfl) (dw (aF hg rfl) gg)) ⟨hk,by omega,by omega⟩) ?_
  refine Gg ?_
  iterate 2 refine Gs ?_
  refine Gc ?_
  refine au rfl (fun h1=> ?_) (fun h1=> ?_)
  ·
   replace h1:=bz h1
   refine Gc ?_
   iterate 2 refine Gs ?_
   refine eS (cy rfl ⟨hk,by omega,by omega⟩) ?_
   refine Gs ?_
   refine Gc ?_
   refine aq (.inl rfl) (aG rfl (al rfl)) (fun w1 hw=> ?_)
   exact⟨congrArg (fun b=>Ending.returned (Value.int .i64 b)) ((by rw[rX,vZ,KE,if_neg (show ¬(bv Bo).bad=true by rw[show(bv Bo).bad=Bo.bad from rfl,h0];simp),if_pos ⟨h1.1,h1.2⟩])),ai.mem hw⟩
  ·
   replace h1:=bz h1
   refine Gc ?_
   iterate 5 refine Gs ?_
   refine ag (Ry.to (v':= .int .i64 xc.ae) (lv rfl) rfl) ?_
   refine Gs ?_
   refine Gc ?_
   refine aq (.inl rfl) (aG rfl (al rfl)) (fun w1 hw=> ?_)
   exact⟨congrArg (fun b=>Ending.returned (Value.int .i64 b)) ((by
    rw[rX,vZ,KE,if_neg (show ¬(bv Bo).bad=true by rw[show(bv Bo).bad=Bo.bad from rfl,h0];simp),if_neg]
    ·
     rfl
    ·
     rintro⟨g1,g2⟩
     rcases h1 with h|h
     ·
      exact absurd (h.symm.trans g1) (by simp)
     ·
      omega)),ai.mem hw⟩
instance aeP{w0:World}{L:List aj}{xb:Nat}{xc:Cp}{xa:Sl Int}{xg:UInt64}{xl:Int}{xy:Bool}[dY:kC w0 L xb (aK (⟨⟨xc,xa,xg,xl⟩,xy⟩:aP)) 141][dz:aT w0 L xc]:cw Tryz.prog 151 w0 L [.pointer (some ⟨xb,0,none⟩)] (.int .i64 (rX (cv xc) xl)) (aW (cv xc)=true∧2≤(cv xc).blocks.length∧(xl=0∨xl=1)):=⟨fun hp w hw=>TO w xb xc xa xg xl xy (dY.h w hw) (dz.h w hw) hp⟩
open Go.aB Go.Kb
open Go.RowKit
theorem TP(w:World)(c:Cp)(b:Int)(g:Int)(x:Sv)(xs:List UInt8)(hc:Deep.aY (hp w) c)(hx:bP aM 1 (hp w) x xs)(ba:dC c):Calls Tryz.prog 149 #[.agg (az c), .int .i64 b, .int .i64 g,x.val] w fun e w'=> ∃zz:Cp,e= .returned (.tuple #[.agg (az zz), .int .i64 (jt (cv c) b g xs)])∧(cv zz=ff (cv c) b g xs)∧Mem w [fz zz] w':=by
 have iC:bV w c:=⟨hc⟩
 have sq:Gv w x aM 1 xs:=⟨hx⟩
 have jD:dC c:=ba
 obtain⟨kQ,kg,ny⟩:=ba
 have qQ:c8=1099511627776:=rfl
 refine aX (args:=[_,_,_,_]) Tryz.func149 rfl Tryz.ntmps149 rfl ?_
 change Cw _ _ _ _ _ [(0, .agg (az c)),(1, .int .i64 b),(2, .int .i64 g),(3,x.val)] []
 refine Gc ?_
 refine bR rfl fun b4=> ?_
 refine bH fun b8=> ?_
 refine Gs ?_
 refine Gc ?_
 refine Gs ?_
 refine bn rfl (by assumption) fun ca rj=> ?_
 refine bH fun lz=> ?_
 refine Gs ?_
 refine Gc ?_
 iterate 5 refine Gs ?_
 iterate 2 refine Gg ?_
 iterate 2 refine Gs ?_
 iterate 4 refine Gg ?_
 iterate 2 refine Gs ?_
 iterate 5 refine Gg ?_
 iterate 2 refine Gs ?_
 iterate 3 refine Gg ?_
 refine Gs ?_
 refine Gc ?_
 refine au rfl (fun h0=> ?_) (fun h0=> ?_)
 ·
  replace h0:=bz h0
  have hz: ¬lQ (cv c) b g xs=true:=fun hk=>by
   obtain⟨k1,k2,k3,k4,k5⟩:=j7.1 hk
   rw[k1]at h0
   simp only[cv]at k3 k4 k5
   simp only[Bool.true_eq_false,false_or]at h0
   omega
  refine Gc ?_
  iterate 3 refine Gs ?_
  refine Gc ?_
  refine aq (.inl rfl) (bk rfl (bX rfl) (al rfl)) (fun w1 hw=> ?_)
  exact⟨ca,by rw[jt,if_neg hz],by rw[rj,ff,if_neg (fun h=>hz h.1)],lT ca (ai.mem hw)⟩
 ·
  replace h0:=bz h0
  have hk:lQ (cv c) b g xs=true:=by
   cases k1:gG (cv c) b with
   |false=>rw[k1]at h0;simp at h0
   |true=>
    rw[k1]at h0
    simp only[Bool.true_eq_false,false_or]at h0
    exact j7.2 ⟨k1,by omega,by simp only[cv];omega,by simp only[cv];omega,by simp only[cv];omega⟩
  have hh:=(j7.1 hk).1
  have AX:=(ir.1 hh).2
  have dk:ca.blocks.xs.length=c.blocks.xs.length:=by have:=congrArg (fun v:CV=>v.blocks.length) rj;simpa only[cv,dU]using this
  have yd:ca.ops=c.ops:=congrArg CV.ops rj
  have nv:(cv c).blocks.length=c.blocks.xs.length:=dU _
  obtain⟨B,hB⟩:=get_some (xs:=ca.blocks.xs) (i:=b.toNat) (by omega)
  have lp:b.toNat<ca.blocks.xs.length:=(List.getElem?_eq_some_iff.1 hB).1
  have dQ:bv B=ak (cv c) b:=by
   have h1:=z9 hh
   have h2:=gX hB
   rw[show fy ca.blocks.xs=(cv c).blocks from congrArg CV.blocks rj,h1]at h2
   exact(Option.some.inj h2).symm
  have fj:k8 c.ae c.size (bv B)=true:=by rw[dQ];exact nS hh
  obtain⟨o1,o2,o3,o4,o5,o6⟩:=ez.1 fj
  have gM:=jg.1 (eo.1 (ir.1 hh).1).1
  have ye:=(eo.1 (ir.1 hh).1).2.1
  simp only[bv,cv]at o1 o2 o3 o4 o5 o6 gM ye
  have Ke:=gW B.ae.xs
  obtain⟨_,k2,k3,k4,k5⟩:=j7.1 hk
  simp only[cv]at k3 k4 k5
  refine Gc ?_
  iterate 2 refine Gs ?_
  refine Gc ?_
  refine au rfl (fun h1=> ?_) (fun h1=> ?_)
  ·
   replace h1:=bz h1
   refine Gc ?_
   iterate 3 refine Gs ?_
   refine Gc ?_
   refine aq (.inl rfl) (bk rfl (bX rfl) (al rfl)) (fun w1 hw=> ?_)
   exact⟨ca,by rw[jt,if_pos hk,if_pos (show(cv c).off=true from h1)],by rw[rj,ff,if_neg (fun h=>absurd (h1.symm.trans h.2.1) (by simp))],lT ca (ai.mem hw)⟩
  ·
   replace h1:=bz h1
   have mP:(cv c).off=false:=h1
   refine Gc ?_
   iterate 3 refine Gs ?_
   refine ag (bc rfl rfl b.toNat (by omega) lp) ?_
   refine Gs ?_
   refine Gc ?_
   iterate 2 refine Gs ?_
   refine ag (aH rfl rfl) ?_
   refine ag (bF (j:=3) rfl b.toNat hB rfl (by decide)) ?_
   refine Gs ?_
   iterate 2 refine Gg ?_
   refine bQ rfl rfl rfl (fun hg=>(Ry.yl (je (aF hg rfl)))) ?_
   refine bQ rfl rfl rfl (fun hg=>(Ry.yl (aH (aF hg rfl) rfl))) ?_
   refine bQ rfl rfl rfl (fun hg=>(Ry.yl (bF (j:=1) (aF hg rfl) b.toNat hB rfl (by decide)))) ?_
   refine Gg ?_
   refine Gs ?_
   refine Gc ?_
   refine au rfl (fun h2=> ?_) (fun h2=> ?_)
   ·
    replace h2:=bz h2
    have dW:(ak (cv c) b).bad=true∨g≠(ak (cv c) b).used:=by rw[←dQ];exact h2
    refine Gc ?_
    iterate 3 refine Gs ?_
    refine Gc ?_
    refine aq (.inl rfl) (bk rfl (bX rfl) (al rfl)) (fun w1 hw=> ?_)
    exact⟨ca,by rw[jt,if_pos hk,if_neg (by rw[mP];simp),if_pos dW],by rw[rj,ff,if_neg (fun h=>dW.elim (fun g1=>absurd (g1.symm.trans h.2.2.1) (by simp)) (fun g1=>g1 h.2.2.2))],lT ca (ai.mem hw)⟩
   ·
    replace h2:=bz h2
    have dW: ¬((ak (cv c) b).bad=true∨g≠(ak (cv c) b).used):=by
     rw[←dQ]
     rintro(h|h)
     ·
      exact absurd (h2.1.symm.trans h) (by simp)
     ·
      exact h h2.2
    have hgu:g=B.used:=h2.2
    obtain⟨q,hq⟩:=get_some (xs:=(aI B.ae.xs)) (i:=g.toNat) (by omega)
    have y2:=o6 q (List.mem_of_getElem? hq)
    have cD:B.ae.xs≠[]:=fun e=>by
     have h9:(aI B.ae.xs).length=0:=by rw[e];rfl
     omega
    have qh:(ca.blocks.xs.set b.toNat ({B with used:=B.used+1}:Bk))[b.toNat]? =Option.some ({B with used:=B.used+1}:Bk):=List.getElem?_set_self lp
    have g9:ff (cv c) b g xs=hQ (cv c) b g xs:=by
     rw[ff,if_pos ⟨hk,mP,by cases hb:(ak (cv c) b).bad with|false=>rfl|true=>exact absurd (.inl hb) dW,Decidable.not_not.1 fun h=>dW (.inr h)⟩]
    iterate 3 refine Gi ?_
    refine Ib (pr:=fun rm:Sv=>rm.nil=false∧rm.sp=none∧B.ae.xs=c6 rm 0 (aI B.ae.xs)) (fun rm:Sv=>[own (bT (τ:=UInt8)) 1 B.ae.sv B.ae.xs,own aM 1 rm (aI B.ae.xs).flatten,own bI 4 ca.blocks.sv ca.blocks.xs,aj.all ((ca.blocks.xs.eraseIdx b.toNat).map fun b:Bk=>ei b.ae),own cY 4 ca.aS.sv ca.aS.xs,ar lz (az ca) 25,ar b8 (az fx) 25,ar b4 (az c) 25]) (fun w hw=>HU hB cD (ai.mem hw)) fun rm yj=> ?_
    obtain⟨hn,hs,v5⟩:=yj
    have v7:B.ae.xs[g.toNat]? =Option.some ⟨(eZ rm ((aI B.ae.xs).take g.toNat).flatten.length (((aI B.ae.xs).take g.toNat).flatten.length+q.length)),q⟩:=by rw[v5,rT,Ac hq,Nat.zero_add]
    have KF: ∀r:List UInt8,r.length=q.length→B.ae.xs.map (fun x=>x.sv)=(c6 rm 0 ((aI B.ae.xs).set g.toNat r)).map (fun x=>x.sv):=fun r hr=>(congrArg (List.map fun x:Sl UInt8=>x.sv) v5).trans (PF hq hr)
    refine Gi ?_
    refine Gs ?_
    refine eS (cy rfl (by omega)) ?_
    refine Gs ?_
    refine ag (aU (v:= .agg (cY ((bw (cv c)).1))) rfl rfl) ?_
    refine ag (aU (v:= .bool ((bw (cv c)).2)) rfl rfl) ?_
    refine bH fun sA=> ?_
    iterate 2 refine Gs ?_
    refine Gc ?_
    iterate 4 refine Gs ?_
    refine dS (cs':=az (⟨ca.ae,ca.size,ca.blocks,(ca.ops+1),ca.off,ca.aS⟩:Cp)) rfl rfl (by show 3<6;decide) (by first|rfl|exact Sv.one _) rfl ?_
    refine Gc ?_
    iterate 2 refine Gs ?_
    refine ag (aH rfl rfl) ?_
    refine ag (bF (j:=1) rfl b.toNat hB rfl (by decide)) ?_
    iterate 2 refine Gs ?_
    refine ag (aH rfl rfl) ?_
    refine jX (s:=ca.blocks.sv) (n:=1) (k:=b.toNat) (j:=1) (a:=B) (a':=({B with used:=B.used+1}:Bk)) (xs:=ca.blocks.xs) (enc:=bI) (c:=4) (v:= .int .i64 (B.used+1)) (by kernel_rfl) rfl rfl rfl hB (by simp[Value.cells,Value.oneCell']) (by rfl) (by decide) (by rfl) ?_
    refine Gc ?_
    iterate 2 refine Gs ?_
    refine ag (aH rfl rfl) ?_
    refine ag (Ry.to (v':=B.ae.sv.val) (bF (j:=0) rfl b.toNat qh rfl (by decide)) rfl) ?_
    refine Gs ?_
    refine ag (bc rfl rfl g.toNat (by omega) (by omega)) ?_
    refine ag (Ry.to (v':=(eZ rm ((aI B.ae.xs).take g.toNat).flatten.length (((aI B.ae.xs).take g.toNat).flatten.length+q.length)).val) (bF (j:=0) rfl g.toNat v7 rfl (by decide)) rfl) ?_
    refine Gs ?_
    refine Pr (D:=(eZ rm ((aI B.ae.xs).take g.toNat).flatten.length (((aI B.ae.xs).take g.toNat).flatten.length+q.length))) (S:=x) (rm:=rm) (k:=((aI B.ae.xs).take g.toNat).flatten.length) (xs:=(aI B.ae.xs).flatten) (ys:=xs) rfl hn hs rfl (by rw[vc (by omega)];omega) rfl (by decide) hn (by omega) (by simp only[eZ];omega) (by have:=xE hq;have:=xF (aI B.ae.xs) (g.toNat+1);omega) ?_
    refine Gc ?_
    iterate 2 refine Gs ?_
    refine Gc ?_
    refine au rfl (fun h3=> ?_) (fun h3=> ?_)
    ·
     replace h3:=bz h3
     have ky:lS (cv c) xs=xs:=by rw[lS,if_neg (by rw[h3];simp)]
     refine Gc ?_
     iterate 3 refine Gs ?_
     refine Gc ?_
     refine aq (.inl rfl) (bk rfl (bX rfl) (al rfl)) (fun w1 hw=> ?_)
     exact⟨(⟨ca.ae,ca.size,⟨ca.blocks.sv,ca.blocks.xs.set b.toNat ⟨⟨B.ae.sv,c6 rm 0 ((aI B.ae.xs).set g.toNat xs)⟩,B.used+1,B.bp,B.bad⟩⟩,ca.ops+1,ca.off,ca.aS⟩:Cp),by rw[jt,if_pos hk,if_neg (by rw[mP];simp),if_neg dW,if_neg (by rw[h3];simp)];rfl,by rw[HZ rj dQ,g9,hQ,ky,h3,Bool.false_and,show ca.off=(cv c).off from congrArg CV.off rj,mP],(by
      rw[←Ab hq (by omega)]at hw
      exact lT (⟨ca.ae,ca.size,⟨ca.blocks.sv,ca.blocks.xs.set b.toNat ⟨⟨B.ae.sv,c6 rm 0 ((aI B.ae.xs).set g.toNat xs)⟩,B.used+1,B.bp,B.bad⟩⟩,ca.ops+1,ca.off,ca.aS⟩:Cp) (Ad (rm:=rm) (l:=(aI B.ae.xs).set g.toNat xs) (B:=({B with used:=B.used+1}:Bk)) (B':=⟨⟨B.ae.sv,c6 rm 0 ((aI B.ae.xs).set g.toNat xs)⟩,B.used+1,B.bp,B.bad⟩) (sp:=B.ae.sv) (ps:=B.ae.xs) lp (KF _ (by omega)) hn rfl rfl (ai.mem hw)))⟩
    ·
     replace h3:=bz h3
     have ky:lS (cv c) xs=cI (~~~(bw (cv c)).1.mask) xs:=by rw[lS,if_pos h3]
     have lr:cI (~~~(bw (cv c)).1.mask) (xs.take 0)++xs.drop 0=xs:=by simp[cI]
     refine Gc ?_
     iterate 3 refine Gs ?_
     refine Gc ?_
     refine bS (X:=Nat) (fun zz=>[(96, .int .i64 (zz:Nat)),(2, .int .i64 g),(8, .pointer (some ⟨b8,0,none⟩)),(10, .pointer (some ⟨lz,0,none⟩)),(11, .pointer (some ⟨ca.blocks.sv.b,ca.blocks.sv.o+b.toNat*4,none⟩)),(12, .pointer (some ⟨sA,0,none⟩)),(95, .int .i64 c.size)]) (fun zz=>[ar sA (cY (bw (cv c)).1) 94,own (bT (τ:=UInt8)) 1 B.ae.sv B.ae.xs,own aM 1 rm ((aI B.ae.xs).set g.toNat (cI (~~~(bw (cv c)).1.mask) (xs.take zz)++xs.drop zz)).flatten,own bI 4 ca.blocks.sv (ca.blocks.xs.set b.toNat ({B with used:=B.used+1}:Bk)),aj.all ((ca.blocks.xs.eraseIdx b.toNat).map fun b:Bk=>ei b.ae),own cY 4 ca.aS.sv ca.aS.xs,ar lz (az (⟨ca.ae,ca.size,ca.blocks,(ca.ops+1),ca.off,ca.aS⟩:Cp)) 25,ar b8 (az fx) 25,ar b4 (az c) 25]) (fun zz=>zz≤xs.length) (fun zz=>xs.length -zz) 0 (Nat.zero_le _) (Sub.cons rfl (Sub.cons rfl (Sub.cons rfl (Sub.cons rfl (Sub.cons rfl (Sub.cons rfl (Sub.cons rfl (Sub.nil _)))))))) (fun w hw=>by
      rw[lr,Ab hq (by omega)];exact ai.mem hw) ?_
     rintro i bh
     refine Gc ?_
     refine Gs ?_
     refine Gc ?_
     refine au rfl (fun h4=> ?_) (fun h4=> ?_)
     ·
      replace h4:=bz h4
      have si:(cI (~~~(bw (cv c)).1.mask) (xs.take i)++xs.drop i).length=xs.length:=C7 (by omega)
      obtain⟨z,hz⟩:=get_some (xs:=xs) (i:=i) (by omega)
      have rb:((aI B.ae.xs).set g.toNat (cI (~~~(bw (cv c)).1.mask) (xs.take i)++xs.drop i)).flatten[((aI B.ae.xs).take g.toNat).flatten.length+i]? =Option.some z:=by
       have h9:=vb (l:=(aI B.ae.xs).set g.toNat (cI (~~~(bw (cv c)).1.mask) (xs.take i)++xs.drop i)) (i:=g.toNat) (j:=i) (List.getElem?_set_self (by omega)) (by omega)
       rw[C6]at h9
       rw[h9,H2 (by omega),hz]
      refine Gc ?_
      iterate 2 refine Gs ?_
      refine Gc ?_
      refine iK [15,1009] [[],[],[],[],[],[],[],[],[],[],[],[],[],[9],[9],[9]] [0,1,2,3,4,5,6,7,8,9,10,11,12,13,14,15] [own (bT (τ:=UInt8)) 1 B.ae.sv B.ae.xs,own bI 4 ca.blocks.sv (ca.blocks.xs.set b.toNat ({B with used:=B.used+1}:Bk)),ar sA (cY (bw (cv c)).1) 94] (fun _ hw=>ai.mem hw) (by kernel_rfl) (by kernel_rfl) ?_
      refine an rfl (aC rfl) ?_
      refine an rfl (je rfl) ?_
      refine an rfl (aH rfl rfl) ?_
      refine an rfl (Ry.to (v':=B.ae.sv.val) (bF (j:=0) rfl b.toNat qh rfl (by decide)) rfl) ?_
      refine an rfl (aC rfl) ?_
      refine an rfl (bc rfl rfl g.toNat (by omega) (by omega)) ?_
      refine an rfl (Ry.to (v':=(eZ rm ((aI B.ae.xs).take g.toNat).flatten.length (((aI B.ae.xs).take g.toNat).flatten.length+q.length)).val) (bF (j:=0) rfl g.toNat v7 rfl (by decide)) rfl) ?_
      refine an rfl (aC rfl) ?_
      obtain⟨TQ,TR⟩:=get_some (xs:=q) (i:=i) (by omega)
      refine an rfl (kH (s:=(eZ rm ((aI B.ae.xs).take g.toNat).flatten.length (((aI B.ae.xs).take g.toNat).flatten.length+q.length))) (i:=i) rfl rfl rfl (Ae hn hs (by omega)) (by simp only[eZ];omega)) ?_
      refine jN rfl (bF (s:=rm) (enc:=aM) (c:=1) (xs:=((aI B.ae.xs).set g.toNat (cI (~~~(bw (cv c)).1.mask) (xs.take i)++xs.drop i)).flatten) (a:=z) (j:=0) (v:= .int .u8 z.toNat) rfl (((aI B.ae.xs).take g.toNat).flatten.length+i) rb (by rw[vc (by omega)];omega) (by decide)) ?_
      refine an rfl (aH (o':=3) rfl rfl) ?_
      refine an rfl (bG rfl) ?_
      refine an rfl (Px rfl) ?_
      refine an rfl (HV rfl rfl) ?_
      obtain⟨aeQ,aeR⟩:=get_some (xs:=q) (i:=i) (by omega)
      refine an rfl (kH (s:=(eZ rm ((aI B.ae.xs).take g.toNat).flatten.length (((aI B.ae.xs).take g.toNat).flatten.length+q.length))) (i:=i) rfl rfl rfl (Ae hn hs (by omega)) (by simp only[eZ];omega)) ?_
      refine dr rfl (tt (s:=rm) (n:=1) (k:=((aI B.ae.xs).take g.toNat).flatten.length+i) (j:=0) (a:=z) (a':=z|||(~~~(bw (cv c)).1.mask)) (xs:=((aI B.ae.xs).set g.toNat (cI (~~~(bw (cv c)).1.mask) (xs.take i)++xs.drop i)).flatten) (enc:=aM) (c:=1) (v:= .int .u8 (z|||(~~~(bw (cv c)).1.mask)).toNat) (by kernel_rfl) rfl rfl (by rw[vc (by omega)];omega) rb (by simp[Value.cells,Value.oneCell']) rfl (by omega) (by rfl) ⟨fun _ hw=>ai.mem hw,?_⟩)
      refine Gc ?_
      iterate 2 refine Gs ?_
      refine Gi ?_
      exact bu (x:=(i)) (i+1) (by first|omega|(simp only[];omega)) (by first|omega|(simp only[];omega)) (Sub.cons rfl (Sub.cons rfl (Sub.cons rfl (Sub.cons rfl (Sub.cons rfl (Sub.cons rfl (Sub.cons rfl (Sub.nil _)))))))) (fun w hw=>by
       rw[H3 hq hz];exact ai.mem hw)
     ·
      replace h4:=bz h4
      obtain rfl:i=xs.length:=by omega
      have A5:cI (~~~(bw (cv c)).1.mask) (xs.take xs.length)++xs.drop xs.length=cI (~~~(bw (cv c)).1.mask) xs:=by rw[List.take_length,List.drop_length,List.append_nil]
      refine Gc ?_
      iterate 3 refine Gs ?_
      refine ag (aU (v:= .bool (((bw (cv c)).1).cut)) rfl rfl) ?_
      refine ag (aU (v:= .int .i64 (kr ((bw (cv c)).1))) rfl rfl) ?_
      iterate 2 refine Gs ?_
      refine Gc ?_
      iterate 2 refine Gs ?_
      refine dS (cs':=az (⟨ca.ae,ca.size,ca.blocks,(ca.ops+1),((bw (cv c)).1).cut,ca.aS⟩:Cp)) rfl rfl (by show 4<6;decide) (by first|rfl|exact Sv.one _) rfl ?_
      refine Gc ?_
      iterate 4 refine Gs ?_
      refine Gc ?_
      refine aq (.inl rfl) (bk rfl (bX rfl) (al rfl)) (fun w1 hw=> ?_)
      exact⟨(⟨ca.ae,ca.size,⟨ca.blocks.sv,ca.blocks.xs.set b.toNat ⟨⟨B.ae.sv,c6 rm 0 ((aI B.ae.xs).set g.toNat (cI (~~~(bw (cv c)).1.mask) xs))⟩,B.used+1,B.bp,B.bad⟩⟩,ca.ops+1,(bw (cv c)).1.cut,ca.aS⟩:Cp),by rw[jt,if_pos hk,if_neg (by rw[mP];simp),if_neg dW,if_pos h3];rfl,by rw[HZ rj dQ,g9,hQ,ky,h3,Bool.true_and],(by
       rw[A5]at hw
       have hhl:(cI (~~~(bw (cv c)).1.mask) xs).length=xs.length:=by rw[cI,List.length_map]
       exact lT (⟨ca.ae,ca.size,⟨ca.blocks.sv,ca.blocks.xs.set b.toNat ⟨⟨B.ae.sv,c6 rm 0 ((aI B.ae.xs).set g.toNat (cI (~~~(bw (cv c)).1.mask) xs))⟩,B.used+1,B.bp,B.bad⟩⟩,ca.ops+1,(bw (cv c)).1.cut,ca.aS⟩:Cp) (Ad (rm:=rm) (l:=(aI B.ae.xs).set g.toNat (cI (~~~(bw (cv c)).1.mask) xs)) (B:=({B with used:=B.used+1}:Bk)) (B':=⟨⟨B.ae.sv,c6 rm 0 ((aI B.ae.xs).set g.toNat (cI (~~~(bw (cv c)).1.mask) xs))⟩,B.used+1,B.bp,B.bad⟩) (sp:=B.ae.sv) (ps:=B.ae.xs) lp (KF _ (by omega)) hn rfl rfl (ai.mem hw)))⟩
instance aeS{w0:World}{L:List aj}{c:Cp}{b:Int}{g:Int}{x:Sv}{xs:List UInt8}[hc:aT w0 L c][hx:cO w0 L aM 1 x xs]:cc Tryz.prog 149 w0 L [.agg (az c), .int .i64 b, .int .i64 g,x.val] (Cp) (fun zz=> .tuple #[.agg (az zz), .int .i64 (jt (cv c) b g xs)]) (fun zz=>fz zz::L) (fun zz=>cv zz=ff (cv c) b g xs) (dC c):=⟨fun hp w hw=>(TP w c b g x xs (hc.h w hw) (hx.h w hw) hp).mono fun e w' ⟨x,h1,h2,h3⟩=>⟨x,h1,h2,hw.call h3⟩⟩
open Go.aB Go.Kb
open Go.RowKit
theorem TS(w:World)(c:Cp)(b:Int)(hc:Deep.aY (hp w) c)(ba:dC c):Calls Tryz.prog 145 #[.agg (az c), .int .i64 b] w fun e w'=> ∃zz:Cp,e= .returned (.tuple #[.agg (az zz), .int .i64 (dH (cv c) b)])∧(cv zz=gn (cv c) b)∧Mem w [fz zz] w':=by
 have iC:bV w c:=⟨hc⟩
 have jD:dC c:=ba
 obtain⟨kQ,kg,ny⟩:=ba
 have qQ:c8=1099511627776:=rfl
 have mM:=tE (c:=c) (b:=b)
 have hwe:(c.blocks.xs.getD b.toNat nj).bp=(ak (cv c) b).bp:=congrArg BV.bp mM
 refine aX (args:=[_,_]) Tryz.func145 rfl Tryz.ntmps145 rfl ?_
 change Cw _ _ _ _ _ [(0, .agg (az c)),(1, .int .i64 b)] []
 refine Gc ?_
 refine bR rfl fun b2=> ?_
 refine bH fun b4=> ?_
 refine Gs ?_
 refine Gc ?_
 refine Gs ?_
 refine bn rfl (by assumption) fun aA jE=> ?_
 refine bH fun b6=> ?_
 refine Gs ?_
 refine Gc ?_
 iterate 5 refine Gs ?_
 iterate 3 refine Gg ?_
 iterate 2 refine Gs ?_
 iterate 3 refine Gg ?_
 refine bQ rfl rfl rfl (fun hg=>(Ry.yl (bc (aF hg rfl) (aF hg rfl) b.toNat (by simp only[Z0,Z1,Z2,Z3,Z4,Z5,Z6,Z7,Z8,Z9]at hg;have:=(C9 hg.1).1;omega) (by simp only[Z0,Z1,Z2,Z3,Z4,Z5,Z6,Z7,Z8,Z9]at hg;exact(C9 hg.1).2)))) ?_
 refine bQ rfl rfl rfl (fun hg=>(Ry.yl (aH (aF hg rfl) rfl))) ?_
 refine bQ rfl rfl rfl (fun hg=>(Ry.yl (bF (j:=2) (aF hg rfl) b.toNat (m0 (xs:=c.blocks.xs) (i:=b.toNat) (d:=nj) (by simp only[Z0,Z1,Z2,Z3,Z4,Z5,Z6,Z7,Z8,Z9]at hg;exact(C9 hg.1).2)) rfl (by decide)))) ?_
 refine Gg ?_
 refine Gs ?_
 refine Gc ?_
 refine au rfl (fun h0=> ?_) (fun h0=> ?_)
 ·
  replace h0:=bz h0
  have hz: ¬mE (cv c) b=true:=fun hk=>by
   obtain⟨k1,k2,k3⟩:=oN.1 hk
   rw[k1]at h0
   simp only[cv]at k2
   simp only[Bool.true_eq_false,false_or]at h0
   omega
  refine Gc ?_
  iterate 3 refine Gs ?_
  refine Gc ?_
  refine aq (.inl rfl) (bk rfl (bX rfl) (al rfl)) (fun w1 hw=> ?_)
  exact⟨aA,by rw[dH,if_neg hz],by rw[jE,gn,if_neg (fun h=>hz h.1)],lT aA (ai.mem hw)⟩
 ·
  replace h0:=bz h0
  have hk:mE (cv c) b=true:=by
   cases k1:gG (cv c) b with
   |false=>rw[k1]at h0;simp at h0
   |true=>
    rw[k1]at h0
    simp only[Bool.true_eq_false,false_or]at h0
    exact oN.2 ⟨k1,by simp only[cv];omega,by omega⟩
  have hh:=(oN.1 hk).1
  have AX:=(ir.1 hh).2
  have dk:aA.blocks.xs.length=c.blocks.xs.length:=by have:=congrArg (fun v:CV=>v.blocks.length) jE;simpa only[cv,dU]using this
  have yd:aA.ops=c.ops:=congrArg CV.ops jE
  have nv:(cv c).blocks.length=c.blocks.xs.length:=dU _
  obtain⟨B,hB⟩:=get_some (xs:=aA.blocks.xs) (i:=b.toNat) (by omega)
  have lp:b.toNat<aA.blocks.xs.length:=(List.getElem?_eq_some_iff.1 hB).1
  have dQ:bv B=ak (cv c) b:=by
   have h1:=z9 hh
   have h2:=gX hB
   rw[show fy aA.blocks.xs=(cv c).blocks from congrArg CV.blocks jE,h1]at h2
   exact(Option.some.inj h2).symm
  have fj:k8 c.ae c.size (bv B)=true:=by rw[dQ];exact nS hh
  obtain⟨o1,o2,o3,o4,o5,o6⟩:=ez.1 fj
  have gM:=jg.1 (eo.1 (ir.1 hh).1).1
  have ye:=(eo.1 (ir.1 hh).1).2.1
  simp only[bv,cv]at o1 o2 o3 o4 o5 o6 gM ye
  have Ke:=gW B.ae.xs
  obtain⟨_,k2,k3⟩:=oN.1 hk
  rw[←dQ]at k3
  simp only[cv,bv]at k2 k3
  refine Gc ?_
  iterate 2 refine Gs ?_
  refine Gc ?_
  refine au rfl (fun h1=> ?_) (fun h1=> ?_)
  ·
   replace h1:=bz h1
   refine Gc ?_
   iterate 3 refine Gs ?_
   refine Gc ?_
   refine aq (.inl rfl) (bk rfl (bX rfl) (al rfl)) (fun w1 hw=> ?_)
   exact⟨aA,by rw[dH,if_pos hk,if_pos (show(cv c).off=true from h1)],by rw[jE,gn,if_neg (fun h=>absurd (h1.symm.trans h.2.1) (by simp))],lT aA (ai.mem hw)⟩
  ·
   replace h1:=bz h1
   have mP:(cv c).off=false:=h1
   refine Gc ?_
   iterate 3 refine Gs ?_
   refine ag (bc rfl rfl b.toNat (by omega) lp) ?_
   refine Gs ?_
   refine Gc ?_
   iterate 2 refine Gs ?_
   refine ag (aH rfl rfl) ?_
   refine ag (bF (j:=3) rfl b.toNat hB rfl (by decide)) ?_
   refine Gc ?_
   refine au rfl (fun h2=> ?_) (fun h2=> ?_)
   ·
    replace h2:=bz h2
    have dW:(ak (cv c) b).bad=true:=by rw[←dQ];exact h2
    refine Gc ?_
    iterate 3 refine Gs ?_
    refine Gc ?_
    refine aq (.inl rfl) (bk rfl (bX rfl) (al rfl)) (fun w1 hw=> ?_)
    exact⟨aA,by rw[dH,if_pos hk,if_neg (by rw[mP];simp),if_pos dW],by rw[jE,gn,if_neg (fun h=>absurd (dW.symm.trans h.2.2) (by simp))],lT aA (ai.mem hw)⟩
   ·
    replace h2:=bz h2
    have dW:(ak (cv c) b).bad=false:=by rw[←dQ];exact h2
    have cD:B.ae.xs≠[]:=fun e=>by
     have h9:(aI B.ae.xs).length=0:=by rw[e];rfl
     omega
    have qh:(aA.blocks.xs.set b.toNat ({B with bp:=B.bp+1}:Bk))[b.toNat]? =Option.some ({B with bp:=B.bp+1}:Bk):=List.getElem?_set_self lp
    have g9:gn (cv c) b=k9 (cv c) b:=by
     rw[gn,if_pos ⟨hk,mP,dW⟩]
    have xr: ∀x∈(aI B.ae.xs),((fun _:List UInt8=>fL c.size) x).length=x.length:=fun x hx=>by have:=o6 x hx;simp only[fL,List.length_replicate];omega
    have EC: ∀x∈(aI B.ae.xs),((cI (bw (cv c)).1.mask) x).length=x.length:=fun x _=>by rw[cI,List.length_map]
    iterate 3 refine Gi ?_
    refine Ib (pr:=fun rm:Sv=>rm.nil=false∧rm.sp=none∧B.ae.xs=c6 rm 0 (aI B.ae.xs)) (fun rm:Sv=>[own (bT (τ:=UInt8)) 1 B.ae.sv B.ae.xs,own aM 1 rm (aI B.ae.xs).flatten,own bI 4 aA.blocks.sv aA.blocks.xs,aj.all ((aA.blocks.xs.eraseIdx b.toNat).map fun b:Bk=>ei b.ae),own cY 4 aA.aS.sv aA.aS.xs,ar b6 (az aA) 25,ar b4 (az fx) 25,ar b2 (az c) 25]) (fun w hw=>HU hB cD (ai.mem hw)) fun rm yj=> ?_
    obtain⟨hn,hs,v5⟩:=yj
    have KG: ∀f:List UInt8→List UInt8,(∀x∈(aI B.ae.xs),(f x).length=x.length)→B.ae.xs.map (fun x=>x.sv)=(c6 rm 0 ((aI B.ae.xs).map f)).map (fun x=>x.sv):=fun f hf=>(congrArg (List.map fun x:Sl UInt8=>x.sv) v5).trans (PI hf)
    refine Gi ?_
    refine Gs ?_
    refine eS (cy rfl (by omega)) ?_
    refine Gs ?_
    refine ag (aU (v:= .agg (cY ((bw (cv c)).1))) rfl rfl) ?_
    refine ag (aU (v:= .bool ((bw (cv c)).2)) rfl rfl) ?_
    refine bH fun b8=> ?_
    iterate 2 refine Gs ?_
    refine Gc ?_
    iterate 4 refine Gs ?_
    refine dS (cs':=az (⟨aA.ae,aA.size,aA.blocks,(aA.ops+1),aA.off,aA.aS⟩:Cp)) rfl rfl (by show 3<6;decide) (by first|rfl|exact Sv.one _) rfl ?_
    refine Gc ?_
    iterate 2 refine Gs ?_
    refine ag (aH rfl rfl) ?_
    refine ag (bF (j:=2) rfl b.toNat hB rfl (by decide)) ?_
    iterate 2 refine Gs ?_
    refine ag (aH rfl rfl) ?_
    refine jX (s:=aA.blocks.sv) (n:=1) (k:=b.toNat) (j:=2) (a:=B) (a':=({B with bp:=B.bp+1}:Bk)) (xs:=aA.blocks.xs) (enc:=bI) (c:=4) (v:= .int .i64 (B.bp+1)) (by kernel_rfl) rfl rfl rfl hB (by simp[Value.cells,Value.oneCell']) (by rfl) (by decide) (by rfl) ?_
    try simp only[List.set_set]
    refine Gc ?_
    iterate 2 refine Gs ?_
    refine Gc ?_
    refine au rfl (fun h3=> ?_) (fun h3=> ?_)
    ·
     replace h3:=bz h3
     have ky:oO (cv c) (aI B.ae.xs)=(aI B.ae.xs).map (fun _:List UInt8=>fL c.size):=by rw[oO,if_neg (by rw[h3];simp)];rfl
     have ED:(aA.blocks.xs.set b.toNat ({B with bp:=B.bp+1,used:=0}:Bk))[b.toNat]? =Option.some ({B with bp:=B.bp+1,used:=0}:Bk):=List.getElem?_set_self lp
     refine Gc ?_
     iterate 2 refine Gs ?_
     refine ag (aH rfl rfl) ?_
     refine jX (s:=aA.blocks.sv) (n:=1) (k:=b.toNat) (j:=1) (a:=({B with bp:=B.bp+1}:Bk)) (a':=({B with bp:=B.bp+1,used:=0}:Bk)) (xs:=(aA.blocks.xs.set b.toNat ({B with bp:=B.bp+1}:Bk))) (enc:=bI) (c:=4) (v:= .int .i64 0) (by kernel_rfl) rfl rfl rfl qh (by simp[Value.cells,Value.oneCell']) (by rfl) (by decide) (by rfl) ?_
     try simp only[List.set_set]
     refine Gc ?_
     iterate 3 refine Gs ?_
     refine Gc ?_
     refine bS (X:=Nat) (fun zz=>[(71, .int .i64 (zz:Nat)),(4, .pointer (some ⟨b4,0,none⟩)),(6, .pointer (some ⟨b6,0,none⟩)),(7, .pointer (some ⟨aA.blocks.sv.b,aA.blocks.sv.o+b.toNat*4,none⟩)),(70, .int .i64 c.ae)]) (fun zz=>[ar b8 (cY (bw (cv c)).1) 94,own (bT (τ:=UInt8)) 1 B.ae.sv B.ae.xs,own aM 1 rm (mixed (fun _:List UInt8=>fL c.size) (aI B.ae.xs) zz).flatten,own bI 4 aA.blocks.sv (aA.blocks.xs.set b.toNat ({B with bp:=B.bp+1,used:=0}:Bk)),aj.all ((aA.blocks.xs.eraseIdx b.toNat).map fun b:Bk=>ei b.ae),own cY 4 aA.aS.sv aA.aS.xs,ar b6 (az (⟨aA.ae,aA.size,aA.blocks,(aA.ops+1),aA.off,aA.aS⟩:Cp)) 25,ar b4 (az fx) 25,ar b2 (az c) 25]) (fun zz=>zz≤(aI B.ae.xs).length) (fun zz=>(aI B.ae.xs).length -zz) 0 (Nat.zero_le _) (Sub.cons rfl (Sub.cons rfl (Sub.cons rfl (Sub.cons rfl (Sub.cons rfl (Sub.nil _)))))) (fun w hw=>by
      rw[H4];exact ai.mem hw) ?_
     rintro k bh
     refine Gc ?_
     refine Gs ?_
     refine Gc ?_
     refine au rfl (fun h4=> ?_) (fun h4=> ?_)
     ·
      replace h4:=bz h4
      obtain⟨q,hq⟩:=get_some (xs:=(aI B.ae.xs)) (i:=k) (by omega)
      have y2:=o6 q (List.mem_of_getElem? hq)
      have v7:B.ae.xs[k]? =Option.some ⟨(eZ rm ((aI B.ae.xs).take k).flatten.length (((aI B.ae.xs).take k).flatten.length+q.length)),q⟩:=by rw[v5,rT,Ac hq,Nat.zero_add]
      refine Gc ?_
      iterate 2 refine Gs ?_
      refine Gc ?_
      iterate 2 refine Gs ?_
      refine ag (aH rfl rfl) ?_
      refine ag (Ry.to (v':=B.ae.sv.val) (bF (j:=0) rfl b.toNat ED rfl (by decide)) rfl) ?_
      refine Gs ?_
      refine ag (bc rfl rfl k rfl (by omega)) ?_
      refine ag (Ry.to (v':= .slice (some ⟨rm.b,rm.o+((aI B.ae.xs).take k).flatten.length,none⟩) q.length q.length) (bF (j:=0) rfl k v7 rfl (by decide)) (PJ hn hs (by omega))) ?_
      refine bn rfl ⟨by have h9:=congrArg List.length (C8 (f:=(fun _:List UInt8=>fL c.size)) hq);have h8:=xF (mixed (fun _:List UInt8=>fL c.size) (aI B.ae.xs) k) (k+1);have h7:=xE (xG (f:=(fun _:List UInt8=>fL c.size)) hq);rw[Ag xr (by omega)]at h7;omega,by omega⟩ fun x81 aeT=> ?_
      refine Gc ?_
      iterate 2 refine Gs ?_
      refine Gi ?_
      exact bu (x:=(k)) (k+1) (by first|omega|(simp only[];omega)) (by first|omega|(simp only[];omega)) (Sub.cons rfl (Sub.cons rfl (Sub.cons rfl (Sub.cons rfl (Sub.cons rfl (Sub.nil _)))))) (fun w hw=>by
       rw[PH hq xr (n:=q.length) (by simp only[fL];congr 1;omega) rfl];exact ai.mem hw)
     ·
      replace h4:=bz h4
      refine Gc ?_
      iterate 3 refine Gs ?_
      refine Gc ?_
      refine aq (.inl rfl) (bk rfl (bX rfl) (al rfl)) (fun w1 hw=> ?_)
      exact⟨(⟨aA.ae,aA.size,⟨aA.blocks.sv,aA.blocks.xs.set b.toNat ⟨⟨B.ae.sv,c6 rm 0 ((aI B.ae.xs).map (fun _:List UInt8=>fL c.size))⟩,0,B.bp+1,B.bad⟩⟩,aA.ops+1,aA.off,aA.aS⟩:Cp),by rw[dH,if_pos hk,if_neg (by rw[mP];simp),if_neg (by rw[dW];simp),if_neg (by rw[h3];simp)];rfl,by rw[H6 jE dQ,g9,k9,←dQ,show(bv B).ae=(aI B.ae.xs)from rfl,ky,h3,Bool.false_and,if_neg (by simp),show aA.off=(cv c).off from congrArg CV.off jE,mP],(by
       rw[H5 (by omega)]at hw
       exact lT (⟨aA.ae,aA.size,⟨aA.blocks.sv,aA.blocks.xs.set b.toNat ⟨⟨B.ae.sv,c6 rm 0 ((aI B.ae.xs).map (fun _:List UInt8=>fL c.size))⟩,0,B.bp+1,B.bad⟩⟩,aA.ops+1,aA.off,aA.aS⟩:Cp) (Ad (rm:=rm) (l:=(aI B.ae.xs).map (fun _:List UInt8=>fL c.size)) (B:=({B with bp:=B.bp+1,used:=0}:Bk)) (B':=⟨⟨B.ae.sv,c6 rm 0 ((aI B.ae.xs).map (fun _:List UInt8=>fL c.size))⟩,0,B.bp+1,B.bad⟩) (sp:=B.ae.sv) (ps:=B.ae.xs) lp (KG _ xr) hn rfl rfl (ai.mem hw)))⟩
    ·
     replace h3:=bz h3
     have ky:oO (cv c) (aI B.ae.xs)=(aI B.ae.xs).map (cI (bw (cv c)).1.mask):=by rw[oO,if_pos h3]
     have ED:(aA.blocks.xs.set b.toNat ({B with bp:=B.bp+1,used:=c.ae}:Bk))[b.toNat]? =Option.some ({B with bp:=B.bp+1,used:=c.ae}:Bk):=List.getElem?_set_self lp
     refine Gc ?_
     iterate 4 refine Gs ?_
     refine ag (aH rfl rfl) ?_
     refine jX (s:=aA.blocks.sv) (n:=1) (k:=b.toNat) (j:=1) (a:=({B with bp:=B.bp+1}:Bk)) (a':=({B with bp:=B.bp+1,used:=c.ae}:Bk)) (xs:=(aA.blocks.xs.set b.toNat ({B with bp:=B.bp+1}:Bk))) (enc:=bI) (c:=4) (v:= .int .i64 c.ae) (by kernel_rfl) rfl rfl rfl qh (by simp[Value.cells,Value.oneCell']) (by rfl) (by decide) (by rfl) ?_
     try simp only[List.set_set]
     refine Gc ?_
     iterate 3 refine Gs ?_
     refine Gc ?_
     refine bS (X:=Nat) (fun zz=>[(91, .int .i64 (zz:Nat)),(2, .pointer (some ⟨b2,0,none⟩)),(4, .pointer (some ⟨b4,0,none⟩)),(6, .pointer (some ⟨b6,0,none⟩)),(7, .pointer (some ⟨aA.blocks.sv.b,aA.blocks.sv.o+b.toNat*4,none⟩)),(8, .pointer (some ⟨b8,0,none⟩)),(90, .int .i64 c.ae)]) (fun zz=>[ar b8 (cY (bw (cv c)).1) 94,own (bT (τ:=UInt8)) 1 B.ae.sv B.ae.xs,own aM 1 rm (mixed (cI (bw (cv c)).1.mask) (aI B.ae.xs) zz).flatten,own bI 4 aA.blocks.sv (aA.blocks.xs.set b.toNat ({B with bp:=B.bp+1,used:=c.ae}:Bk)),aj.all ((aA.blocks.xs.eraseIdx b.toNat).map fun b:Bk=>ei b.ae),own cY 4 aA.aS.sv aA.aS.xs,ar b6 (az (⟨aA.ae,aA.size,aA.blocks,(aA.ops+1),aA.off,aA.aS⟩:Cp)) 25,ar b4 (az fx) 25,ar b2 (az c) 25]) (fun zz=>zz≤(aI B.ae.xs).length) (fun zz=>(aI B.ae.xs).length -zz) 0 (Nat.zero_le _) (Sub.cons rfl (Sub.cons rfl (Sub.cons rfl (Sub.cons rfl (Sub.cons rfl (Sub.cons rfl (Sub.cons rfl (Sub.nil _)))))))) (fun w hw=>by
      rw[H4];exact ai.mem hw) ?_
     rintro k Ek
     refine Gc ?_
     refine Gs ?_
     refine Gc ?_
     refine au rfl (fun h5=> ?_) (fun h5=> ?_)
     ·
      replace h5:=bz h5
      obtain⟨q,hq⟩:=get_some (xs:=(aI B.ae.xs)) (i:=k) (by omega)
      have y2:=o6 q (List.mem_of_getElem? hq)
      have v7:B.ae.xs[k]? =Option.some ⟨(eZ rm ((aI B.ae.xs).take k).flatten.length (((aI B.ae.xs).take k).flatten.length+q.length)),q⟩:=by rw[v5,rT,Ac hq,Nat.zero_add]
      refine Gc ?_
      iterate 2 refine Gs ?_
      refine Gc ?_
      iterate 3 refine Gs ?_
      refine Gc ?_
      refine bS (X:=Nat) (fun zz=>[(96, .int .i64 (zz:Nat)),(2, .pointer (some ⟨b2,0,none⟩)),(4, .pointer (some ⟨b4,0,none⟩)),(6, .pointer (some ⟨b6,0,none⟩)),(7, .pointer (some ⟨aA.blocks.sv.b,aA.blocks.sv.o+b.toNat*4,none⟩)),(8, .pointer (some ⟨b8,0,none⟩)),(11, .int .i64 (k:Nat)),(90, .int .i64 c.ae),(91, .int .i64 (k:Nat)),(95, .int .i64 c.size)]) (fun zz=>[ar b8 (cY (bw (cv c)).1) 94,own (bT (τ:=UInt8)) 1 B.ae.sv B.ae.xs,own aM 1 rm ((mixed (cI (bw (cv c)).1.mask) (aI B.ae.xs) k).set k (cI (bw (cv c)).1.mask (q.take zz)++q.drop zz)).flatten,own bI 4 aA.blocks.sv (aA.blocks.xs.set b.toNat ({B with bp:=B.bp+1,used:=c.ae}:Bk)),aj.all ((aA.blocks.xs.eraseIdx b.toNat).map fun b:Bk=>ei b.ae),own cY 4 aA.aS.sv aA.aS.xs,ar b6 (az (⟨aA.ae,aA.size,aA.blocks,(aA.ops+1),aA.off,aA.aS⟩:Cp)) 25,ar b4 (az fx) 25,ar b2 (az c) 25]) (fun zz=>zz≤q.length) (fun zz=>q.length -zz) 0 (Nat.zero_le _) (Sub.cons rfl (Sub.cons rfl (Sub.cons rfl (Sub.cons rfl (Sub.cons rfl (Sub.cons rfl (Sub.cons rfl (Sub.cons rfl (Sub.cons rfl (Sub.cons rfl (Sub.nil _))))))))))) (fun w hw=>by
       rw[List.take_zero,List.drop_zero,cI,List.map_nil,List.nil_append,tC (xG hq)];exact ai.mem hw) ?_
      rintro j iY
      refine Gc ?_
      refine Gs ?_
      refine Gc ?_
      refine au rfl (fun h6=> ?_) (fun h6=> ?_)
      ·
       replace h6:=bz h6
       have si:(cI (bw (cv c)).1.mask (q.take j)++q.drop j).length=q.length:=C7 (by omega)
       obtain⟨z,hz⟩:=get_some (xs:=q) (i:=j) (by omega)
       have rb:((mixed (cI (bw (cv c)).1.mask) (aI B.ae.xs) k).set k (cI (bw (cv c)).1.mask (q.take j)++q.drop j)).flatten[((aI B.ae.xs).take k).flatten.length+j]? =Option.some z:=by
        have h9:=vb (l:=(mixed (cI (bw (cv c)).1.mask) (aI B.ae.xs) k).set k (cI (bw (cv c)).1.mask (q.take j)++q.drop j)) (i:=k) (j:=j) (List.getElem?_set_self (List.getElem?_eq_some_iff.1 (xG (f:=(cI (bw (cv c)).1.mask)) hq)).1) (by omega)
        rw[C6,Ag EC (by omega)]at h9
        rw[h9,H2 (by omega),hz]
       refine Gc ?_
       iterate 2 refine Gs ?_
       refine Gc ?_
       refine iK [14,1009] [[],[],[],[],[],[],[],[],[],[],[],[],[9],[9],[9]] [0,1,2,3,4,5,6,7,8,9,10,11,12,13,14] [own (bT (τ:=UInt8)) 1 B.ae.sv B.ae.xs,own bI 4 aA.blocks.sv (aA.blocks.xs.set b.toNat ({B with bp:=B.bp+1,used:=c.ae}:Bk)),ar b8 (cY (bw (cv c)).1) 94] (fun _ hw=>ai.mem hw) (by kernel_rfl) (by kernel_rfl) ?_
       refine an rfl (aC rfl) ?_
       refine an rfl (je rfl) ?_
       refine an rfl (aH rfl rfl) ?_
       refine an rfl (Ry.to (v':=B.ae.sv.val) (bF (j:=0) rfl b.toNat ED rfl (by decide)) rfl) ?_
       refine an rfl (aC rfl) ?_
       refine an rfl (bc rfl rfl k rfl (by omega)) ?_
       refine an rfl (Ry.to (v':=(eZ rm ((aI B.ae.xs).take k).flatten.length (((aI B.ae.xs).take k).flatten.length+q.length)).val) (bF (j:=0) rfl k v7 rfl (by decide)) rfl) ?_
       refine an rfl (aC rfl) ?_
       obtain⟨TQ,TR⟩:=get_some (xs:=q) (i:=j) (by omega)
       refine an rfl (kH (s:=(eZ rm ((aI B.ae.xs).take k).flatten.length (((aI B.ae.xs).take k).flatten.length+q.length))) (i:=j) rfl rfl rfl (Ae hn hs (by omega)) (by simp only[eZ];omega)) ?_
       refine jN rfl (bF (s:=rm) (enc:=aM) (c:=1) (xs:=((mixed (cI (bw (cv c)).1.mask) (aI B.ae.xs) k).set k (cI (bw (cv c)).1.mask (q.take j)++q.drop j)).flatten) (a:=z) (j:=0) (v:= .int .u8 z.toNat) rfl (((aI B.ae.xs).take k).flatten.length+j) rb (by rw[vc (by omega)];omega) (by decide)) ?_
       refine an rfl (aH (o':=3) rfl rfl) ?_
       refine an rfl (bG rfl) ?_
       refine an rfl (HV rfl rfl) ?_
       obtain⟨aeU,aeV⟩:=get_some (xs:=q) (i:=j) (by omega)
       refine an rfl (kH (s:=(eZ rm ((aI B.ae.xs).take k).flatten.length (((aI B.ae.xs).take k).flatten.length+q.length))) (i:=j) rfl rfl rfl (Ae hn hs (by omega)) (by simp only[eZ];omega)) ?_
       refine dr rfl (tt (s:=rm) (n:=1) (k:=((aI B.ae.xs).take k).flatten.length+j) (j:=0) (a:=z) (a':=z|||(bw (cv c)).1.mask) (xs:=((mixed (cI (bw (cv c)).1.mask) (aI B.ae.xs) k).set k (cI (bw (cv c)).1.mask (q.take j)++q.drop j)).flatten) (enc:=aM) (c:=1) (v:= .int .u8 (z|||(bw (cv c)).1.mask).toNat) (by kernel_rfl) rfl rfl (by rw[vc (by omega)];omega) rb (by simp[Value.cells,Value.oneCell']) rfl (by omega) (by rfl) ⟨fun _ hw=>ai.mem hw,?_⟩)
       refine Gc ?_
       iterate 2 refine Gs ?_
       refine Gi ?_
       exact bu (x:=(j)) (j+1) (by first|omega|(simp only[];omega)) (by first|omega|(simp only[];omega)) (Sub.cons rfl (Sub.cons rfl (Sub.cons rfl (Sub.cons rfl (Sub.cons rfl (Sub.cons rfl (Sub.cons rfl (Sub.cons rfl (Sub.cons rfl (Sub.cons rfl (Sub.nil _))))))))))) (fun w hw=>by
        rw[H3 (xG hq) hz,Ag EC (by omega)];exact ai.mem hw)
      ·
       replace h6:=bz h6
       obtain rfl:j=q.length:=by omega
       refine Gc ?_
       iterate 2 refine Gs ?_
       refine Gi ?_
       exact bu (x:=(k)) (k+1) (by first|omega|(simp only[];omega)) (by first|omega|(simp only[];omega)) (Sub.cons rfl (Sub.cons rfl (Sub.cons rfl (Sub.cons rfl (Sub.cons rfl (Sub.cons rfl (Sub.cons rfl (Sub.nil _)))))))) (fun w hw=>by
        rw[←C8 hq]
        rw[List.take_length,List.drop_length,List.append_nil]at hw
        exact ai.mem hw)
     ·
      replace h5:=bz h5
      refine Gc ?_
      iterate 3 refine Gs ?_
      refine ag (aU (v:= .bool (((bw (cv c)).1).cut)) rfl rfl) ?_
      refine ag (aU (v:= .int .i64 (kr ((bw (cv c)).1))) rfl rfl) ?_
      iterate 2 refine Gs ?_
      refine Gc ?_
      iterate 2 refine Gs ?_
      refine dS (cs':=az (⟨aA.ae,aA.size,aA.blocks,(aA.ops+1),((bw (cv c)).1).cut,aA.aS⟩:Cp)) rfl rfl (by show 4<6;decide) (by first|rfl|exact Sv.one _) rfl ?_
      refine Gc ?_
      iterate 4 refine Gs ?_
      refine Gc ?_
      refine aq (.inl rfl) (bk rfl (bX rfl) (al rfl)) (fun w1 hw=> ?_)
      exact⟨(⟨aA.ae,aA.size,⟨aA.blocks.sv,aA.blocks.xs.set b.toNat ⟨⟨B.ae.sv,c6 rm 0 ((aI B.ae.xs).map (cI (bw (cv c)).1.mask))⟩,c.ae,B.bp+1,B.bad⟩⟩,aA.ops+1,(bw (cv c)).1.cut,aA.aS⟩:Cp),by rw[dH,if_pos hk,if_neg (by rw[mP];simp),if_neg (by rw[dW];simp),if_pos h3];rfl,by rw[H6 jE dQ,g9,k9,←dQ,show(bv B).ae=(aI B.ae.xs)from rfl,ky,h3,Bool.true_and,if_pos rfl];rfl,(by
       rw[H5 (by omega)]at hw
       exact lT (⟨aA.ae,aA.size,⟨aA.blocks.sv,aA.blocks.xs.set b.toNat ⟨⟨B.ae.sv,c6 rm 0 ((aI B.ae.xs).map (cI (bw (cv c)).1.mask))⟩,c.ae,B.bp+1,B.bad⟩⟩,aA.ops+1,(bw (cv c)).1.cut,aA.aS⟩:Cp) (Ad (rm:=rm) (l:=(aI B.ae.xs).map (cI (bw (cv c)).1.mask)) (B:=({B with bp:=B.bp+1,used:=c.ae}:Bk)) (B':=⟨⟨B.ae.sv,c6 rm 0 ((aI B.ae.xs).map (cI (bw (cv c)).1.mask))⟩,c.ae,B.bp+1,B.bad⟩) (sp:=B.ae.sv) (ps:=B.ae.xs) lp (KG _ EC) hn rfl rfl (ai.mem hw)))⟩
instance aeW{w0:World}{L:List aj}{c:Cp}{b:Int}[hc:aT w0 L c]:cc Tryz.prog 145 w0 L [.agg (az c), .int .i64 b] (Cp) (fun zz=> .tuple #[.agg (az zz), .int .i64 (dH (cv c) b)]) (fun zz=>fz zz::L) (fun zz=>cv zz=gn (cv c) b) (dC c):=⟨fun hp w hw=>(TS w c b (hc.h w hw) hp).mono fun e w' ⟨x,h1,h2,h3⟩=>⟨x,h1,h2,hw.call h3⟩⟩
open Go.aB Go.Kb
open Go.RowKit
theorem TT(w:World):(Instr.build 110 #[(0, .int .i64 1)]).run Tryz.prog w= .ok (.agg (cA ⟨1,0,0,⟨Sv.none,[]⟩⟩)) w:=by kernel_rfl
theorem TU(w0 w:World)(L:List aj)(k:Nat)(xc:Cp)(xa:Sl Int)(xg:UInt64)(xl:Int)(xy:Bool)(b:Int)(er:Int)(hw:Mem w0 (ar k (aK (⟨⟨xc,xa,xg,xl⟩,xy⟩:aP)) 141::fz xc::L) w)(ba:aW (cv xc)=true):Calls Tryz.prog 146 #[.pointer (some ⟨k,0,none⟩), .int .i64 b, .int .i64 er] w fun e w'=> ∃zz:Cp,e= .returned (.tuple #[])∧(cv zz=hY (cv xc) b er)∧Mem w0 (ar k (aK (⟨⟨zz,xa,xg,xl⟩,xy⟩:aP)) 141::fz zz::L) w':=by
 have jD:dC xc:=oP ba
 refine jL (args:=[_,_,_]) Tryz.func146 rfl Tryz.ntmps146 rfl hw ?_
 change Cw _ _ _ _ _ [(0, .pointer (some ⟨k,0,none⟩)),(1, .int .i64 b),(2, .int .i64 er)] (ar k (aK (⟨⟨xc,xa,xg,xl⟩,xy⟩:aP)) 141::fz xc::L)
 refine Gc ?_
 iterate 2 refine Gs ?_
 refine Gc ?_
 refine au rfl (fun h0=> ?_) (fun h0=> ?_)
 ·
  replace h0:=bz h0
  have hE:hY (cv xc) b er=j8 (cv xc) b:=by rw[hY,if_pos h0]
  refine Gi ?_
  iterate 5 refine Gs ?_
  refine ag (Ry.to (v':= .agg (az xc)) (gA rfl) rfl) ?_
  refine Gs ?_
  refine bn rfl (by assumption) fun aA jE=> ?_
  refine Gs ?_
  refine ag (aU (v:= .agg (az aA)) rfl rfl) ?_
  refine ag (aU (v:= .int .i64 (mF (cv xc) b)) rfl rfl) ?_
  iterate 3 refine Gs ?_
  refine wS (cs':=aK (⟨⟨aA,xa,xg,xl⟩,xy⟩:aP)) rfl rfl (by show 0+6≤10;decide) rfl ?_
  refine Gi ?_
  refine aq (.inr rfl) (Ec rfl) (fun w1 hw=> ?_)
  exact⟨aA,rfl,by rw[hE,jE],ai.mem hw⟩
 ·
  replace h0:=bz h0
  have hE:hY (cv xc) b er=(cv xc):=by rw[hY,if_neg h0]
  refine Gi ?_
  refine aq (.inr rfl) (Ec rfl) (fun w1 hw=> ?_)
  exact⟨xc,rfl,by rw[hE],ai.mem hw⟩
instance aeX{w0:World}{L R1 L2:List aj}{i0 i1:Nat}{k:Nat}{xc:Cp}{xa:Sl Int}{xg:UInt64}{xl:Int}{xy:Bool}{b:Int}{er:Int}[q0:Has L k (aK (⟨⟨xc,xa,xg,xl⟩,xy⟩:aP)) 141 i0][d0:df L i0 R1][q1:At R1 (fz xc) i1][d1:df R1 i1 L2]:cc Tryz.prog 146 w0 L [.pointer (some ⟨k,0,none⟩), .int .i64 b, .int .i64 er] (Cp) (fun zz=> .tuple #[]) (fun zz=>ar k (aK (⟨⟨zz,xa,xg,xl⟩,xy⟩:aP)) 141::fz zz::L2) (fun zz=>cv zz=hY (cv xc) b er) (aW (cv xc)=true):=⟨fun hp w hw=>TU w0 w L2 k xc xa xg xl xy b er (ra q0.h d0.h q1.h d1.h hw) hp⟩
theorem TV(w0 w:World)(L:List aj)(k:Nat)(xc:Cp)(xa:Sl Int)(xg:UInt64)(xl:Int)(xy:Bool)(b:Int)(y:Sv)(ys:List UInt8)[hy:Hd w0 L y aM 1 ys](hw:Mem w0 (ar k (aK (⟨⟨xc,xa,xg,xl⟩,xy⟩:aP)) 141::fz xc::L) w)(ba:aW (cv xc)=true∧0≤b∧b<(cv xc).blocks.length):Calls Tryz.prog 125 #[.pointer (some ⟨k,0,none⟩), .int .i64 b,y.val] w fun e w'=> ∃zz:Cp,e= .returned (.int .i64 (bM (cv xc) b ys))∧(cv zz=bU (cv xc) b ys)∧Mem w0 (ar k (aK (⟨⟨zz,xa,xg,xl⟩,xy⟩:aP)) 141::fz zz::L) w':=by
 obtain⟨hk,nC,ug⟩:=ba
 have jD:dC xc:=oP hk
 have dk:(cv xc).blocks.length=xc.blocks.xs.length:=dU _
 obtain⟨B,hB⟩:=get_some (xs:=xc.blocks.xs) (i:=b.toNat) (by omega)
 have n8:Mb B xc.blocks:=⟨List.mem_of_getElem? hB⟩
 have dQ:=pW hB
 have fj:=ez.1 ((eo.1 hk).2.2.2.2 (bv B) (List.mem_of_getElem? (gX hB)))
 have gM:=jg.1 (eo.1 hk).1
 have nD:(ak (cv xc) b).used=B.used:=by rw[dQ];rfl
 simp only[bv,cv]at fj gM
 refine jL (args:=[_,_,_]) Tryz.func125 rfl Tryz.ntmps125 rfl hw ?_
 change Cw _ _ _ _ _ [(0, .pointer (some ⟨k,0,none⟩)),(1, .int .i64 b),(2,y.val)] (ar k (aK (⟨⟨xc,xa,xg,xl⟩,xy⟩:aP)) 141::fz xc::L)
 refine Gc ?_
 refine Gs ?_
 refine Gc ?_
 refine oJ [17,21,22,2021,4017] [[],[],[],[],[],[],[],[],[],[],[],[],[],[],[],[],[],[],[17],[17],[17],[],[17,21],[17,21,22]] [0,1,2,3,4,5,6,7,8,9,10,11,12,13,14,15,16,17,18,19,20,21,22,23] [ar k (aK (⟨⟨xc,xa,xg,xl⟩,xy⟩:aP)) 141,fz xc] [(21,j6 Tryz.prog 25)] (by kernel_rfl) (fun _ hw=>ai.mem hw) (by kernel_rfl) (by kernel_rfl) ?_
 refine an rfl (aC rfl) ?_
 refine an rfl (je rfl) ?_
 refine an rfl (aH (o':=0) rfl rfl) ?_
 refine an rfl (aH (o':=0) rfl rfl) ?_
 refine an rfl (Ry.to (v':= .agg (az xc)) (gA rfl) rfl) ?_
 refine an rfl (aC rfl) ?_
 refine an rfl (aC rfl) ?_
 refine an rfl (je rfl) ?_
 refine an rfl (aH (o':=0) rfl rfl) ?_
 refine an rfl (aH (o':=0) rfl rfl) ?_
 refine an rfl (aH (o':=2) rfl rfl) ?_
 refine an rfl (Ry.to (v':=xc.blocks.sv.val) (bG rfl) rfl) ?_
 refine an rfl (aC rfl) ?_
 refine an rfl (bc rfl rfl b.toNat (by omega) (by omega)) ?_
 refine an rfl (aH rfl rfl) ?_
 refine an rfl (bF (j:=1) rfl b.toNat hB rfl (by decide)) ?_
 refine an rfl (aC rfl) ?_
 refine qH rfl rfl (by assumption) (fun e x w hw=>ai.mem hw) (Cert.one (i:=21) rfl rfl rfl jo (Cert.none rfl)) fun og qi=>⟨fun _ hw=>ai.mem hw,?_⟩
 refine an rfl (aC rfl) ?_
 refine an rfl (aU (v:= .agg (az og)) rfl rfl) ?_
 refine an rfl (aU (v:= .int .i64 (jt (cv xc) b B.used ys)) rfl rfl) ?_
 refine nh (m:=j6 Tryz.prog 25) rfl rfl jo (Cert.none rfl) fun b7=> ?_
 change Ln _ _ _ _ _ _ _ _ (cl _ _ (.pointer (some ⟨b7,0,none⟩))) (ar b7 (az fx) 25::_) _
 refine dr rfl (ng rfl rfl ⟨fun _ hw=>ai.mem hw,?_⟩)
 refine an rfl (bj rfl) ?_
 refine Gc ?_
 iterate 5 refine Gs ?_
 refine wS (cs':=aK (⟨⟨og,xa,xg,xl⟩,xy⟩:aP)) rfl rfl (by show 0+6≤10;decide) rfl ?_
 refine Gc ?_
 iterate 3 refine Gs ?_
 refine bn rfl (by rw[qi];exact Ds hk _ _ _) fun kD sE=> ?_
 refine Gc ?_
 iterate 2 refine Gs ?_
 refine Gc ?_
 refine aq (.inl rfl) (aG rfl (al rfl)) (fun w1 hw=> ?_)
 exact⟨kD,by rw[bM,nD],by rw[sE,qi,bU,bM,nD],ai.mem hw⟩
instance aeY{w0:World}{L R1 L2:List aj}{i0 i1:Nat}{k:Nat}{xc:Cp}{xa:Sl Int}{xg:UInt64}{xl:Int}{xy:Bool}{b:Int}{y:Sv}{ys:List UInt8}[q0:Has L k (aK (⟨⟨xc,xa,xg,xl⟩,xy⟩:aP)) 141 i0][d0:df L i0 R1][q1:At R1 (fz xc) i1][d1:df R1 i1 L2][hy:Hd w0 L2 y aM 1 ys]:cc Tryz.prog 125 w0 L [.pointer (some ⟨k,0,none⟩), .int .i64 b,y.val] (Cp) (fun zz=> .int .i64 (bM (cv xc) b ys)) (fun zz=>ar k (aK (⟨⟨zz,xa,xg,xl⟩,xy⟩:aP)) 141::fz zz::L2) (fun zz=>cv zz=bU (cv xc) b ys) (aW (cv xc)=true∧0≤b∧b<(cv xc).blocks.length):=⟨fun hp w hw=>TV w0 w L2 k xc xa xg xl xy b y ys (ra q0.h d0.h q1.h d1.h hw) hp⟩
theorem TW(w0 w:World)(L:List aj)(k:Nat)(xc:Cp)(xa:Sl Int)(xg:UInt64)(xl:Int)(xy:Bool)(b:Int)(hw:Mem w0 (ar k (aK (⟨⟨xc,xa,xg,xl⟩,xy⟩:aP)) 141::fz xc::L) w)(ba:aW (cv xc)=true∧0≤b∧b<(cv xc).blocks.length):Calls Tryz.prog 121 #[.pointer (some ⟨k,0,none⟩), .int .i64 b] w fun e w'=> ∃zz:Cp,e= .returned (.int .i64 (dH (cv xc) b))∧(cv zz=dF (cv xc) b)∧Mem w0 (ar k (aK (⟨⟨zz,xa,xg,xl⟩,xy⟩:aP)) 141::fz zz::L) w':=by
 obtain⟨hk,nC,ug⟩:=ba
 have jD:dC xc:=oP hk
 have dk:(cv xc).blocks.length=xc.blocks.xs.length:=dU _
 obtain⟨B,hB⟩:=get_some (xs:=xc.blocks.xs) (i:=b.toNat) (by omega)
 have n8:Mb B xc.blocks:=⟨List.mem_of_getElem? hB⟩
 have dQ:=pW hB
 have fj:=ez.1 ((eo.1 hk).2.2.2.2 (bv B) (List.mem_of_getElem? (gX hB)))
 have gM:=jg.1 (eo.1 hk).1
 have nD:(ak (cv xc) b).used=B.used:=by rw[dQ];rfl
 simp only[bv,cv]at fj gM
 refine jL (args:=[_,_]) Tryz.func121 rfl Tryz.ntmps121 rfl hw ?_
 change Cw _ _ _ _ _ [(0, .pointer (some ⟨k,0,none⟩)),(1, .int .i64 b)] (ar k (aK (⟨⟨xc,xa,xg,xl⟩,xy⟩:aP)) 141::fz xc::L)
 refine Gc ?_
 refine Gs ?_
 refine Gc ?_
 iterate 4 refine Gs ?_
 refine ag (Ry.to (v':= .agg (az xc)) (gA rfl) rfl) ?_
 refine Gs ?_
 refine bn rfl (by assumption) fun kR v8=> ?_
 refine Gs ?_
 refine ag (aU (v:= .agg (az kR)) rfl rfl) ?_
 refine ag (aU (v:= .int .i64 (dH (cv xc) b)) rfl rfl) ?_
 refine bH fun b5=> ?_
 iterate 2 refine Gs ?_
 refine Gc ?_
 iterate 5 refine Gs ?_
 refine wS (cs':=aK (⟨⟨kR,xa,xg,xl⟩,xy⟩:aP)) rfl rfl (by show 0+6≤10;decide) rfl ?_
 refine Gc ?_
 iterate 3 refine Gs ?_
 refine bn rfl (by rw[v8];exact Dt hk _) fun uh EE=> ?_
 refine Gc ?_
 iterate 2 refine Gs ?_
 refine Gc ?_
 refine aq (.inl rfl) (aG rfl (al rfl)) (fun w1 hw=> ?_)
 exact⟨uh,rfl,by rw[EE,v8,dF],ai.mem hw⟩
instance aeZ{w0:World}{L R1 L2:List aj}{i0 i1:Nat}{k:Nat}{xc:Cp}{xa:Sl Int}{xg:UInt64}{xl:Int}{xy:Bool}{b:Int}[q0:Has L k (aK (⟨⟨xc,xa,xg,xl⟩,xy⟩:aP)) 141 i0][d0:df L i0 R1][q1:At R1 (fz xc) i1][d1:df R1 i1 L2]:cc Tryz.prog 121 w0 L [.pointer (some ⟨k,0,none⟩), .int .i64 b] (Cp) (fun zz=> .int .i64 (dH (cv xc) b)) (fun zz=>ar k (aK (⟨⟨zz,xa,xg,xl⟩,xy⟩:aP)) 141::fz zz::L2) (fun zz=>cv zz=dF (cv xc) b) (aW (cv xc)=true∧0≤b∧b<(cv xc).blocks.length):=⟨fun hp w hw=>TW w0 w L2 k xc xa xg xl xy b (ra q0.h d0.h q1.h d1.h hw) hp⟩
theorem TX(w0 w:World)(L:List aj)(k:Nat)(xc:Cp)(xa:Sl Int)(xg:UInt64)(xl:Int)(xy:Bool)(b:Int)(hw:Mem w0 (ar k (aK (⟨⟨xc,xa,xg,xl⟩,xy⟩:aP)) 141::fz xc::L) w)(ba:aW (cv xc)=true∧0≤b∧b<(cv xc).blocks.length):Calls Tryz.prog 173 #[.pointer (some ⟨k,0,none⟩), .int .i64 b] w fun e w'=> ∃zz:Cp,e= .returned (.int .i64 ((dD (cv xc) b).2))∧(cv zz=(dD (cv xc) b).1)∧Mem w0 (ar k (aK (⟨⟨zz,xa,xg,xl⟩,xy⟩:aP)) 141::fz zz::L) w':=by
 obtain⟨hk,nC,ug⟩:=ba
 refine jL (args:=[_,_]) Tryz.func173 rfl Tryz.ntmps173 rfl hw ?_
 change Cw _ _ _ _ _ [(0, .pointer (some ⟨k,0,none⟩)),(1, .int .i64 b)] (ar k (aK (⟨⟨xc,xa,xg,xl⟩,xy⟩:aP)) 141::fz xc::L)
 refine Gc ?_
 refine Gs ?_
 refine Gc ?_
 refine bS (X:=Cp) (fun zz=>[(0, .pointer (some ⟨k,0,none⟩)),(1, .int .i64 b)]) (fun zz=>ar k (aK (⟨⟨zz,xa,xg,xl⟩,xy⟩:aP)) 141::fz zz::L) (fun zz=>dD (cv xc) b=dD (cv zz) b∧aW (cv zz)=true∧dJ (cv xc) (cv zz)) (fun zz=>(eE (cv zz) b).toNat) xc ⟨rfl,hk, .db _⟩ (Sub.cons rfl (Sub.cons rfl (Sub.nil _))) (fun w hw=>ai.mem hw) ?_
 rintro d ⟨bh,aE,bB⟩
 have KH:=bB.len
 refine Gc ?_
 iterate 2 refine Gs ?_
 refine eS (cy rfl ⟨aE,by omega,by omega⟩) ?_
 refine Gs ?_
 refine Gc ?_
 refine au rfl (fun h0=> ?_) (fun h0=> ?_)
 ·
  replace h0:=bz h0
  have bE:=Qh (c:=cv d) (b:=b) h0
  refine Gc ?_
  refine ag (cJ (v:= .agg (cA ⟨1,0,0,⟨Sv.none,[]⟩⟩)) rfl TT) ?_
  iterate 5 refine Gs ?_
  refine ag (Ry.to (v':= .int .i64 d.size) (bG rfl) rfl) ?_
  refine bn rfl trivial fun fZ ua=> ?_
  refine Gs ?_
  refine ag (aU (v:=fZ.val) rfl rfl) ?_
  refine ag (aU (v:= .int .i64 ((dh (cx (⟨1,0,0,⟨Sv.none,[]⟩⟩:dI)) d.size).2)) rfl rfl) ?_
  iterate 2 refine Gs ?_
  refine Gc ?_
  iterate 3 refine Gs ?_
  refine bn rfl ⟨aE,by omega,by omega⟩ fun jF pj=> ?_
  have TY:cv jF=bU (cv d) b (iP (cv d)):=pj
  clear pj
  have pj:=TY
  refine Gs ?_
  refine Gc ?_
  iterate 2 refine Gs ?_
  refine Gc ?_
  refine au rfl (fun h1=> ?_) (fun h1=> ?_)
  ·
   replace h1:=bz h1
   have dK:bM (cv d) b (iP (cv d))≠0:=h1
   refine Gc ?_
   iterate 2 refine Gs ?_
   refine Gc ?_
   refine aq (.inl rfl) (aG rfl (al rfl)) (fun w1 hw=> ?_)
   exact⟨jF,by rw[bh,bE,if_pos dK];rfl,by rw[pj,bh,bE,if_pos dK],ai.mem hw⟩
  ·
   replace h1:=bz h1
   have dK:bM (cv d) b (iP (cv d))=0:=h1
   iterate 2 refine Gi ?_
   exact bu (x:=(d)) jF ⟨by rw[bh,pj,bE,if_neg (by first|omega|(simp only[];omega))],by rw[pj];exact ke aE _ _,by rw[pj];exact bB.trans (iQ _ _ _)⟩ (by have h9:=IL (c:=cv d) (b:=b) (p:=iP (cv d)) (by first|omega|(simp only[];omega));rw[pj];omega) (Sub.cons rfl (Sub.cons rfl (Sub.nil _))) (fun w hw=>ai.mem hw)
 ·
  replace h0:=bz h0
  have A6:=Qi (c:=cv d) (b:=b) (by omega)
  refine Gc ?_
  iterate 2 refine Gs ?_
  refine bn rfl ⟨aE,by omega,by omega⟩ fun ay rk=> ?_
  refine Gs ?_
  refine Gc ?_
  refine aq (.inl rfl) (aG rfl (al rfl)) (fun w1 hw=> ?_)
  exact⟨ay,by rw[bh,A6],by rw[rk,bh,A6],ai.mem hw⟩
instance ae0{w0:World}{L R1 L2:List aj}{i0 i1:Nat}{k:Nat}{xc:Cp}{xa:Sl Int}{xg:UInt64}{xl:Int}{xy:Bool}{b:Int}[q0:Has L k (aK (⟨⟨xc,xa,xg,xl⟩,xy⟩:aP)) 141 i0][d0:df L i0 R1][q1:At R1 (fz xc) i1][d1:df R1 i1 L2]:cc Tryz.prog 173 w0 L [.pointer (some ⟨k,0,none⟩), .int .i64 b] (Cp) (fun zz=> .int .i64 ((dD (cv xc) b).2)) (fun zz=>ar k (aK (⟨⟨zz,xa,xg,xl⟩,xy⟩:aP)) 141::fz zz::L2) (fun zz=>cv zz=(dD (cv xc) b).1) (aW (cv xc)=true∧0≤b∧b<(cv xc).blocks.length):=⟨fun hp w hw=>TX w0 w L2 k xc xa xg xl xy b (ra q0.h d0.h q1.h d1.h hw) hp⟩
end Go.Proofs.YtaipiecplldinaaGreat
