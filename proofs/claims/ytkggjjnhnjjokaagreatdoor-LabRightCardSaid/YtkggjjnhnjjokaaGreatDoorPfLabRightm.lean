/- The law LabRight holds, and its card: any text is a script or not, and any step has its line, or none, as the document says. It holds of all arguments that can be read, where the listed variables of the library hold what the text lays; its arguments read behind the call as they did. -/
import Derived.Test.YtkggjjnhnjjokaaGreatDoorRows
import Derived.Test.YtkggjjnhnjjokaaGreatDoorI7
import Derived.Test.YtkggjjnhnjjokaaGreatDoorTie
import Derived.Test.YtkggjjnhnjjokaaGreatDoorCards
import Derived.Lib.LaidU8
set_option maxRecDepth 20000
set_option linter.unusedSimpArgs false
set_option linter.unusedVariables false
namespace Go.Proofs.YtkggjjnhnjjokaaGreatDoor
open Go.ay Go.Kb Go.ChangeShapes Go.WideShapes Go.ChangeAt Go.RowKit
def sr:List (String×DataW Unit):=[("math/bits.deBruijn32tab",Rows.laid_math_bits_deBruijn32tab),("math/bits.deBruijn64tab",Rows.laid_math_bits_deBruijn64tab),("internal/strconv.uint64pow10",Rows.laid_internal_strconv_uint64pow10),("unicode/utf8.acceptRanges",Rows.laid_unicode_utf8_acceptRanges),("strconv.ErrRange",Rows.laid_strconv_ErrRange),("strconv.ErrSyntax",Rows.laid_strconv_ErrSyntax),("unicode/utf8.first",Rows.laid_unicode_utf8_first)]
theorem acd: ∃g,Tryz.prog.globalNamed "internal/strconv.uint64pow10" =some g∧(Tryz.prog.globals[g]?).map (·.type)=some 385:=⟨Option.get (Tryz.prog.globalNamed "internal/strconv.uint64pow10") (by kernel_rfl),by kernel_rfl,by kernel_rfl⟩
theorem ace{W:World}(h:laidMetH Tryz.prog sr W):Lib.TabIs Tryz.prog W "internal/strconv.uint64pow10" .u64 Lib.pow10Tab:=by
 rw[MakeChecks.laidMetH_plain _ _ _ (by kernel_rfl)]at h;obtain⟨g',t',cs,fuel,p,p8,zM,vR,hd⟩:=Lib.laidMet.reads h (n:= "internal/strconv.uint64pow10") (d:=Lib.tabData .u64 Lib.pow10Tab) (.tail _ (.tail _ (.head _)))
 obtain⟨g,acf,acg⟩:=acd;obtain rfl:=amn (acf.symm.trans p8);obtain rfl:=amn (acg.symm.trans zM);unfold Lib.TabIs;rw[vR,←Lib.cells_of_tab Tryz.underlying385 Tryz.underlying61 (by kernel_rfl) (by kernel_rfl) hd]
theorem ach{W:World}(hs:W.ShapedOpen Tryz.prog)(h:laidMetH Tryz.prog sr W):Tabs W:=⟨ace h,Tryz.Tq.s1_3 W hs⟩
theorem aci{P:Program}{w:World}{fuel:Nat}{t:TypeId}{cs:List Value}{n:String}{d:DataW Unit}{p:List MemPlace}(ht: ∃ms,P.underlying t=some (.interface ms))(h:DataW.trod (fun _=>()) P w 0 (fun _=>true) false fuel t cs=some (.iface n d,p)): ∃u v,cs=[.iface u v]:=by
 obtain⟨ms,ht⟩:=ht
 cases fuel with
 |zero=>simp[DataW.trod]at h
 |succ m=>
  unfold DataW.trod at h;rw[ht]at h;split at h<;>simp_all
theorem QN{W:World}(h:laidMetH Tryz.prog sr W){n s:String}{d:DataW Unit}(hm:(n,DataW.iface s d)∈sr)(hg: ∃g,Tryz.prog.globalNamed n=some g/\(Tryz.prog.globals[g]?).map (·.type)=some 303): ∃tp p,W.var? Tryz.prog n=some #[.iface tp p]:=by
 rw[MakeChecks.laidMetH_plain _ _ _ (by kernel_rfl)]at h;obtain⟨g',t',cs,fuel,p,p8,zM,vR,hd⟩:=Lib.laidMet.reads h hm;obtain⟨g,h1,h2⟩:=hg;obtain rfl:=amn (h1.symm.trans p8);obtain rfl:=amn (h2.symm.trans zM);obtain⟨u,v,e⟩:=aci ⟨_,Tryz.underlying303⟩ hd;exact⟨u,v,by rw[vR];exact congrArg some (Array.toList_inj.1 e)⟩
theorem acj{W:World}(hs:W.ShapedOpen Tryz.prog)(h:laidMetH Tryz.prog sr W):gS W:=
 {ach hs h with
  CM:=QN h (n:= "strconv.ErrSyntax") (.tail _ (.tail _ (.tail _ (.tail _ (.tail _ (.head _)))))) ⟨Option.get (Tryz.prog.globalNamed "strconv.ErrSyntax") (by kernel_rfl),by kernel_rfl,by kernel_rfl⟩
  CN:=QN h (n:= "strconv.ErrRange") (.tail _ (.tail _ (.tail _ (.tail _ (.head _))))) ⟨Option.get (Tryz.prog.globalNamed "strconv.ErrRange") (by kernel_rfl),by kernel_rfl,by kernel_rfl⟩}
theorem Tryz.own:ownKnob Tryz.prog.godebug=none:=by kernel_rfl
theorem Tryz.laidOut:laidOutB Tryz.prog=true:=by kernel_rfl
set_option maxRecDepth 100000 in
theorem ack{H:Type}{enc:TypeId×Value->H}(W:World)(base:Nat)(vs:List Value)(hs:W.ShapedOpen Tryz.prog)(hL:laidMetH Tryz.prog sr W)(hl:vs.length=2)(h: ∀(j:Nat) t v,Tryz.f6.params[j]? =some t->vs[j]? =some v->Arg H enc Tryz.prog W base t v):
  Calls Tryz.prog 6 vs.toArray W fun e W'=>e= .returned (.bool true)/\Mem W [] W':=by
 rw[Tryz.params6]at h;obtain⟨v0,v1,rfl⟩:=QI hl;obtain⟨x0,rfl,b0⟩:=(h 0 9 v0 rfl rfl).str Tryz.underlying9;obtain⟨x1,rfl,-⟩:=(h 1 73 v1 rfl rfl).agg (inferInstance:eX Tryz.prog 73 _) aO;exact abU W (tb:=acj hs hL) x0 x1
set_option maxRecDepth 100000 in
theorem acm(os:Os)(started:os.Started)(H:Type)(enc:TypeId×Value->H):
  ReturnsInHanded {} Tryz.checked os 6 .any (fun w args=>(Rows.labRightSpec.pre enc Tryz.prog Tryz.f6 Rows.labRightRow.domain false w args/\laidMetH Tryz.prog sr w)/\sizedMet enc Tryz.prog Tryz.f6 (OpenSpec.ofChange Rows.labRightSpec) false w args) (Rows.labRightSpec.post enc Tryz.prog Tryz.f6 false true false false):=
 ab4 (C:=Tryz.checked) (laid:=sr) Tryz.own started (by kernel_rfl) Tryz.func6
  (ChangeSpec.witness_shaped (enc:=enc) (C:=Tryz.checked) (os:=os) (X:=fun w _=>laidMetH Tryz.prog sr w) false (World.laidAll Tryz.prog os sr) #[.string ⟨#[]⟩, .agg #[.int .i64 0, .int .i64 0, .int .i64 0, .int .u8 0, .int .u8 0, .int .u8 0, .int .u8 0, .int .u8 0, .int .u8 0, .int .u8 0, .int .u8 0, .int .u8 0, .int .u8 0, .int .u8 0, .int .u8 0, .int .u8 0, .int .u8 0, .int .u8 0, .int .u8 0, .int .u16 0, .int .u8 0, .int .u8 0, .int .u8 0, .int .u8 0, .int .u8 0, .int .u8 0, .int .u8 0, .int .u8 0, .int .u8 0, .int .u8 0, .int .u8 0, .int .u8 0, .int .u8 0, .int .u8 0, .int .u8 0, .int .u8 0, .int .i64 0, .int .i64 0]] 24 (World.laidAll_os _ _ _)
   (World.shaped_of_ZipB (by kernel_rfl) (by kernel_rfl)) (by kernel_rfl) (by kernel_rfl) (by kernel_rfl)
   (by rw[MakeChecks.laidMetH_plain _ _ _ (by kernel_rfl)];exact laidMet_laidAll _ (by kernel_rfl) (by kernel_rfl)))
  Tryz.laidOut (by kernel_rfl) rfl Tryz.underlying4 rfl (fun ds hd=>by obtain⟨d0,d1,rfl⟩:=QI (hd.trans (by kernel_rfl));rfl)
  (fun W base vs hs hL hl h=>ack W base vs hs hL (hl.trans (by kernel_rfl)) h)
theorem acn:Tryz.prog.inPlace 6=Rows.labRightRow.inPlace:=by kernel_rfl
theorem aco:Tryz.prog.unfollowed 6=Rows.labRightRow.unfollowed:=by kernel_rfl
theorem acp:Tryz.prog.recurses 6=Rows.labRightRow.recurses:=by kernel_rfl
theorem acq:Tryz.prog.varsNamed 6=Rows.labRightRow.named:=by kernel_rfl
theorem acr:joinedFacts Tryz.prog 6 Tryz.f6 Rows.labRightSpec Rows.labRightRow=true:=by
 unfold joinedFacts;rw[acn,aco,acp,acq];kernel_rfl
theorem acs:Rows.LabRightSaid:=
 OpenClaim.holds_of_wide 6 Tryz.f6 rfl rfl rfl rfl rfl rfl rfl ⟨rfl,rfl,rfl,rfl,rfl⟩ rfl rfl rfl rfl rfl (by kernel_rfl) Tryz.func6 acr
  (of_decide_eq_true (by kernel_rfl)) (by unfold Func.isWrapper;first|(rw[if_pos (by decide+kernel)];kernel_rfl)|(rw[if_neg (by decide+kernel)];exact⟨rfl,rfl⟩))
  (fun os started H enc _=>acm os started H enc)
theorem acu:Rows.labRightRow.wfByText (OpenSpec.ofChange Rows.labRightSpec)=true:=by kernel_rfl
theorem acv:Tryz.prog.mainIs=some (true, "52e7e4c474082fcaf5d11505ba5fca5241dca959981d0ff9b7a78ac1e7b0d2be".toList):=by kernel_rfl
theorem acw:Tryz.prog.funcNamed "byway/bywaylaw22.LabRight" =some 6:=by kernel_rfl
theorem acx:true=Tryz.prog.looks []:=by kernel_rfl
theorem acy:false=Rows.labRightRow.goesBy Tryz.prog:=by kernel_rfl
theorem acz:Tryz.prog.wantsStandIn 9=false:=by kernel_rfl
theorem acA:Tryz.prog.wantsStandIn 73=false:=by kernel_rfl
theorem labRight_holds:Rows.LabRightCardSaid:=
 Claim7.holds_tied_plain_at .later [] [.data, .data, .data, .data, .sentinel, .sentinel, .pinned] true (true, "52e7e4c474082fcaf5d11505ba5fca5241dca959981d0ff9b7a78ac1e7b0d2be") true
  acs (fun _ h=>by cases h) acu (fun _ h=>by cases h) labRight_row_tie rfl ⟨rfl,rfl⟩ acv rfl
  (fun f fn hf BA=>by
   obtain rfl:f=6:=amn (acw.symm.trans hf)|>.symm;obtain rfl:fn=Tryz.f6:=(amn (Tryz.func6.symm.trans BA)).symm;exact⟨acx,fun j t ht=>by
    rw[Tryz.params6]at ht;have hm:t∈[9,73]:=by
     obtain⟨hj,e⟩:=anE.1 ht;rw[←e];exact Array.mem_toList_iff.2 (Array.getElem_mem hj)
    simp only[amA,aoP,or_false]at hm;rcases hm with rfl|rfl
    ·
     exact acz
    exact acA⟩)
  acy
end Go.Proofs.YtkggjjnhnjjokaaGreatDoor
