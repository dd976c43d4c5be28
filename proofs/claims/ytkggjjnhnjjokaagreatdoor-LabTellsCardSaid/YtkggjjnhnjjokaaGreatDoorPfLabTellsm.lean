/- The law LabTells holds, and its card: what a script of steps tells is what its fib does, step by step; laid as lines it is read as it was, and tells the same. It holds of all arguments that can be read, where the listed variables of the library hold what the text lays; its arguments read behind the call as they did. -/
import Derived.Test.YtkggjjnhnjjokaaGreatDoorRows
import Derived.Test.YtkggjjnhnjjokaaGreatDoorH8
import Derived.Test.YtkggjjnhnjjokaaGreatDoorTie
import Derived.Test.YtkggjjnhnjjokaaGreatDoorCards
import Derived.Lib.LaidU8
set_option maxRecDepth 20000
set_option linter.unusedSimpArgs false
set_option linter.unusedVariables false
namespace Go.Proofs.YtkggjjnhnjjokaaGreatDoor
open Go.ax Go.Kb Go.ChangeShapes Go.WideShapes Go.ChangeAt Go.RowKit Go.Proofs.Tryz
def vt:List (String×DataW Unit):=[("math/bits.deBruijn32tab",Rows.laid_math_bits_deBruijn32tab),("math/bits.deBruijn64tab",Rows.laid_math_bits_deBruijn64tab),("internal/strconv.uint64pow10",Rows.laid_internal_strconv_uint64pow10),("unicode/utf8.acceptRanges",Rows.laid_unicode_utf8_acceptRanges),("strconv.ErrRange",Rows.laid_strconv_ErrRange),("strconv.ErrSyntax",Rows.laid_strconv_ErrSyntax),("unicode/utf8.first",Rows.laid_unicode_utf8_first)]
theorem ake: ∃g,prog.globalNamed "internal/strconv.uint64pow10" =some g∧(prog.globals[g]?).map (·.type)=some 385:=⟨Option.get (prog.globalNamed "internal/strconv.uint64pow10") kRq,kRq,kRq⟩
theorem akf{W:World}(h:laidMetH prog vt W):Lib.TabIs prog W "internal/strconv.uint64pow10" .u64 Lib.pow10Tab:=by
 rw[MakeChecks.laidMetH_plain _ _ _ kRq]at h;obtain⟨g',t',cs,fuel,p,sR,CF,y5,hd⟩:=Lib.laidMet.reads h (n:= "internal/strconv.uint64pow10") (d:=Lib.tabData .u64 Lib.pow10Tab) (.tail _ (.tail _ (.head _)))
 obtain⟨g,akg,akh⟩:=ake;obtain rfl:=at1 (akg.symm.trans sR);obtain rfl:=at1 (akh.symm.trans CF);unfold Lib.TabIs;rw[y5,←Lib.cells_of_tab underlying385 underlying61 kRq kRq hd]
theorem aki{W:World}(hs:W.ShapedOpen prog)(h:laidMetH prog vt W):Tabs W:=⟨akf h,Tryz.aau.s1_3 W hs⟩
theorem akj{P:Program}{w:World}{fuel:Nat}{t:TypeId}{cs:List Value}{n:String}{d:DataW Unit}{p:List MemPlace}(ht: ∃ms,P.underlying t=some (.interface ms))(h:DataW.trod (fun _=>()) P w 0 (fun _=>true) false fuel t cs=some (.iface n d,p)): ∃u v,cs=[.iface u v]:=by
 obtain⟨ms,ht⟩:=ht
 cases fuel with
 |zero=>simp[DataW.trod]at h
 |succ m=>
  unfold DataW.trod at h;rw[ht]at h;split at h<;>simp_all
theorem Yf{W:World}(h:laidMetH prog vt W){n s:String}{d:DataW Unit}(hm:(n,DataW.iface s d)∈vt)(hg: ∃g,prog.globalNamed n=some g/\(prog.globals[g]?).map (·.type)=some 303): ∃tp p,W.var? prog n=some #[.iface tp p]:=by
 rw[MakeChecks.laidMetH_plain _ _ _ kRq]at h;obtain⟨g',t',cs,fuel,p,sR,CF,y5,hd⟩:=Lib.laidMet.reads h hm;obtain⟨g,h1,h2⟩:=hg;obtain rfl:=at1 (h1.symm.trans sR);obtain rfl:=at1 (h2.symm.trans CF);obtain⟨u,v,e⟩:=akj ⟨_,underlying303⟩ hd;exact⟨u,v,by rw[y5];exact congrArg some (Array.toList_inj.1 e)⟩
theorem akk{W:World}(hs:W.ShapedOpen prog)(h:laidMetH prog vt W):iH W:=
 {aki hs h with
  Gx:=Yf h (n:= "strconv.ErrSyntax") (.tail _ (.tail _ (.tail _ (.tail _ (.tail _ (.head _)))))) ⟨Option.get (prog.globalNamed "strconv.ErrSyntax") kRq,kRq,kRq⟩
  Gy:=Yf h (n:= "strconv.ErrRange") (.tail _ (.tail _ (.tail _ (.tail _ (.head _))))) ⟨Option.get (prog.globalNamed "strconv.ErrRange") kRq,kRq,kRq⟩}
theorem Tryz.own:ownKnob prog.godebug=none:=kRq
theorem Tryz.laidOut:laidOutB prog=true:=kRq
set_option maxRecDepth 100000 in
theorem akl{H:Type}{enc:TypeId×Value->H}(W:World)(base:Nat)(vs:List Value)(hs:W.ShapedOpen prog)(hL:laidMetH prog vt W)(hl:vs.length=3)(h: ∀(j:Nat) t v,f7.params[j]? =some t->vs[j]? =some v->Arg H enc prog W base t v):
  Calls prog 7 vs.toArray W fun e W'=>e= .returned (.bool true)/\Mem W [] W':=by
 rw[params7]at h;obtain⟨v0,v1,v2,rfl⟩:=Ya hl;obtain⟨x0,rfl⟩:=Yb (t:=5) underlying5 (h 0 5 v0 rfl rfl).ok;obtain⟨x1,rfl⟩:=Yb (t:=5) underlying5 (h 1 5 v1 rfl rfl).ok;obtain⟨x2,rfl,g2⟩:=(h 2 74 v2 rfl rfl).sl underlying74 aO;exact ajI W (tb:=akk hs hL) x0 x1 x2 g2
set_option maxRecDepth 100000 in
theorem akm(os:Os)(started:os.Started)(H:Type)(enc:TypeId×Value->H):
  ReturnsInHanded {} checked os 7 .any (fun w args=>(Rows.labTellsSpec.pre enc prog f7 Rows.labTellsRow.domain false w args/\laidMetH prog vt w)/\sizedMet enc prog f7 (OpenSpec.ofChange Rows.labTellsSpec) false w args) (Rows.labTellsSpec.post enc prog f7 false true false false):=
 aj6 (C:=checked) (laid:=vt) Tryz.own started kRq func7
  (ChangeSpec.witness_shaped (enc:=enc) (C:=checked) (os:=os) (X:=fun w _=>laidMetH prog vt w) false (World.laidAll prog os vt) #[.int .u8 0, .int .u8 0, .slice none 0 0] 24 (World.laidAll_os _ _ _)
   (World.shaped_of_ZipB kRq kRq) kRq kRq kRq
   (by rw[MakeChecks.laidMetH_plain _ _ _ kRq];exact laidMet_laidAll _ kRq kRq))
  Tryz.laidOut kRq rfl underlying4 rfl (fun ds hd=>by obtain⟨d0,d1,d2,rfl⟩:=Ya (hd.trans kRq);rfl)
  (fun W base vs hs hL hl h=>akl W base vs hs hL (hl.trans kRq) h)
theorem akn:prog.inPlace 7=Rows.labTellsRow.inPlace:=kRq
theorem ako:prog.unfollowed 7=Rows.labTellsRow.unfollowed:=kRq
theorem akp:prog.recurses 7=Rows.labTellsRow.recurses:=kRq
theorem akq:prog.varsNamed 7=Rows.labTellsRow.named:=kRq
theorem akr:joinedFacts prog 7 f7 Rows.labTellsSpec Rows.labTellsRow=true:=by
 unfold joinedFacts;rw[akn,ako,akp,akq];kernel_rfl
theorem aks:Rows.LabTellsSaid:=
 OpenClaim.holds_of_wide 7 f7 rfl rfl rfl rfl rfl rfl rfl ⟨rfl,rfl,rfl,rfl,rfl⟩ rfl rfl rfl rfl rfl kRq func7 akr
  (of_decide_eq_true kRq) (by unfold Func.isWrapper;first|(rw[if_pos (by decide+kernel)];kernel_rfl)|(rw[if_neg (by decide+kernel)];exact⟨rfl,rfl⟩))
  (fun os started H enc _=>akm os started H enc)
theorem akt:Rows.labTellsRow.wfByText (OpenSpec.ofChange Rows.labTellsSpec)=true:=kRq
theorem aku:prog.mainIs=some (true, "52e7e4c474082fcaf5d11505ba5fca5241dca959981d0ff9b7a78ac1e7b0d2be".toList):=kRq
theorem akv:prog.funcNamed "byway/bywaylaw22.LabTells" =some 7:=kRq
theorem akw:true=prog.looks []:=kRq
theorem akx:false=Rows.labTellsRow.goesBy prog:=kRq
theorem Yg:prog.wantsStandIn 5=false:=kRq
theorem aky:prog.wantsStandIn 74=false:=kRq
theorem labTells_holds:Rows.LabTellsCardSaid:=
 Claim7.holds_tied_plain_at .later [] [.data, .data, .data, .data, .sentinel, .sentinel, .pinned] true (true, "52e7e4c474082fcaf5d11505ba5fca5241dca959981d0ff9b7a78ac1e7b0d2be") true
  aks (fun _ h=>by cases h) akt (fun _ h=>by cases h) labTells_row_tie rfl ⟨rfl,rfl⟩ aku rfl
  (fun f fn hf EN=>by
   obtain rfl:f=7:=at1 (akv.symm.trans hf)|>.symm;obtain rfl:fn=f7:=(at1 (func7.symm.trans EN)).symm;exact⟨akw,fun j t ht=>by
    rw[params7]at ht;have hm:t∈[5,5,74]:=by
     obtain⟨hj,e⟩:=avF.1 ht;rw[←e];exact Array.mem_toList_iff.2 (Array.getElem_mem hj)
    simp only[auc,avO,or_false]at hm;rcases hm with rfl|rfl|rfl
    ·exact Yg
    ·exact Yg
    exact aky⟩)
  akx
end Go.Proofs.YtkggjjnhnjjokaaGreatDoor
