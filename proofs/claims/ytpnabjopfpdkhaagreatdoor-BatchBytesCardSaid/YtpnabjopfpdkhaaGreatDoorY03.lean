/- Lemmas. -/
import Derived.Test.YtpnabjopfpdkhaaGreatDoorY02
import Derived.Maps.Own
import Derived.Maps.OwnSet
import Derived.Maps.Views
import Derived.StringKeys
set_option linter.all false
set_option maxHeartbeats 4000000
set_option maxRecDepth 20000
namespace Go.Proofs.YtpnabjopfpdkhaaGreatDoor
open Tryz RowKit
variable {N a n x y z:Nat} {w:World} {lv:Value}
theorem ltV1 (h:a<n):(a<n+x)=True:=by simp;omega
theorem ltV2 (h:a<n):(a<n+x+y)=True:=by simp;omega
theorem ltV3 (h:a<n):(a<n+x+y+z)=True:=by simp;omega
theorem ltV4 {u:Nat} (h:a<n):(a<n+x+y+z+u)=True:=by simp;omega
theorem ltV5 {u v:Nat} (h:a<n):(a<n+x+y+z+u+v)=True:=by simp;omega
attribute [go_sem] ltV1 ltV2 ltV3 ltV4 ltV5
def tokInfo:(prog.info? 186).map (fun i=>(i.zero,i.size,i.bytes))=some (some (.agg #[.int .i64 0,.int .i64 0,.string ⟨#[]⟩,.int .i64 0]),4,40):=by kernel_rfl
def tokens_big (s:ByteArray) (hs:4096<(s.size:Int)) (w:World) :
  Calls prog 96 #[.string s] w fun e w'=>e=.returned (.tuple #[.slice none 0 0,.int .i64 5,.int .i64 4096])/\Ext w w':=by
 go_enter func96,ntmps96
 go_wp2
 go_ret3;exact⟨rfl,zf⟩
def qdT (w:World) (r:List (Tok × Nat) × Int × Nat) (e:Ending) (w':World):Prop :=
 (r.2.1=0/\∃ g cap,e=.returned (.tuple #[.slice (some ⟨g,0,none⟩) r.1.length cap,.int .i64 0,.int .i64 0])/\w'.ownsRow w.heap.size 186 4 (.slice (some ⟨g,0,none⟩) r.1.length cap) r.1.length (qat r.1)/\Ext w w') \/
 (r.2.1≠0/\e=.returned (.tuple #[.slice none 0 0,.int .i64 r.2.1,.int .i64 (r.2.2:Int)])/\Ext w w')
def qgN {w':World} {r:List (Tok × Nat) × Int × Nat} {v:Value} (h0:r.2.1=0) (hl:0<r.1.length) (hown:w'.ownsRow (w.heap.size+1) 186 4 v r.1.length (qat r.1)) (hx:Ext w w') :
  qdT w r (.returned (.tuple #[v,.int .i64 0,.int .i64 0])) w':=by
 obtain⟨g,cap,rfl,_,_⟩:=hown.form hl;exact Or.inl ⟨h0,g,cap,rfl,hown.mono Y,hx⟩
def qbv (l:List (Tok × Nat)) (t:Tok) (k:Nat):qat (l++[(t,k)])=qat l++[.int .i64 t.k,.int .i64 (k:Int),.string t.s,.int .i64 t.i]:=by rw[qeV];rfl
def qcb {wr w1 w2:World} {v:Value} (hN:N=w.heap.size) (hb:Below N w wr) (hx:Ext (wr.setCell ⟨N,1,none⟩ v) w1) (hg:w1.grownBy w2 lv.ownBlock) (hl:∀ k,lv.ownBlock=some k->N<k):Ext w w2:=by
 subst hN;have h1:Ext w wr:=Ext.of_below hb;have h2:Ext w (wr.setCell ⟨w.heap.size,1,none⟩ v):=h1.setCell (Nat.le_refl _) v;exact(h2.trans hx).grown hg (fun k hk=>Nat.le_of_lt (hl k hk))
def news_split {d1 d2:Nat} {os1 os2:Array Obj} {cs:Array Value} {t:TypeId} (hN:N=w.heap.size+os1.size) :
  ∀ j u,cs.toList[j]?=some u->(more ((more w d1 os1).alloc (.cells cs t)) d2 os2).cell? ((⟨N,0,none⟩:Addr).add j)=some u:=by
 intro j u h;have hN':N=(more w d1 os1).heap.size:=by rw[more_size];exact hN
 subst hN';rw[Addr.add_lit,qcw _ _ _ _ _ zy];simp only[World.cell?,heap_alloc_new]
 simpa using h
def lex_grown {b:Nat} {s:ByteArray} {k:Nat} {w':World} {row:Option Nat} (h:LexAt b s k lv w) (hg:w.grownBy w' row) (hne:row≠some b):LexAt b s k lv w':=by
 obtain⟨h1,h2,h3,h4,h5⟩:=hg;unfold LexAt;rw[h5 b h.lt (fun e=>hne e.symm)];exact h
def LexAt.setL {b:Nat} {s:ByteArray} {k:Nat} (h:LexAt b s k lv w) (v:Value):LexAt b s k v (w.setCell ⟨b,2,none⟩ v):=by
 unfold LexAt at h ⊢;simp[World.setCell,Array.getElem?_modify,h]
def qaq {cs:Array Value} {t:TypeId} (hN:N=w.heap.size):∀ j u,cs.toList[j]?=some u->(w.alloc (.cells cs t)).cell? ((⟨N,0,none⟩:Addr).add j)=some u:=by
 intro j u h;subst hN;rw[Addr.add_lit];simp only[World.cell?,heap_alloc_new]
 simpa using h
def tokens_x (s:ByteArray) (hs:(s.size:Int)<=4096) (res:List (Tok × Nat) × Int × Nat) (HR:Hid (lexG s.data.toList (s.size+1) 0 []=res)) (w:World):Calls prog 96 #[.string s] w (qdT w res):=by
 go_enter func96,ntmps96;go_wp2_with fail
 go_loopg [] (s.size+1) (fun g wr=>∃ (k:Nat) (acc:List (Tok × Nat)) (lv:Value),k<=s.size/\s.size+1<=k+g/\acc.length<=1024/\lexG s.data.toList g k acc=res/\LexAt w.heap.size s k lv wr/\wr.ownsRow (w.heap.size+1) 186 4 lv acc.length (qat acc)/\Below w.heap.size w wr)
 case atStart=>exact⟨0,[],.slice none 0 0,Nat.zero_le _,Y,zy,HR.out,(by unfold LexAt;exact heap_alloc_new _ _),World.ownsRow_nil _ _ _ _,(Below.refl _ _).alloc (Nat.le_refl _) _⟩
 case round =>
  obtain⟨k,acc,lv,hk,hkg,hac,hlex,hL,hown,hbl⟩:=hrel;have hb:=hL.lt;have hs':s.size<=maxLen:=jq;have hlen:s.data.toList.length=s.size:=zy;obtain⟨g,rfl⟩:∃ g,gk=g+1:=⟨gk-1,Y⟩
  rw[lexG,hlen] at hlex;obtain⟨i0,hi,hz0,hz1,hz2⟩:=info_parts tokInfo;have HOWN:=J hown;have HBL:=J hbl;have HL:=J hL;by_cases hend:k+skipL false (s.data.toList.drop k)=s.size
  . rw[if_pos Y] at hlex;have N:=J (next_end w.heap.size s k _ lv hk hs' rfl hend wr hL);have HLEX:=J hlex;obtain⟨c0,c1,c2,f1,f2⟩:=hL.cells;unfold tokV tok0 at N;rw[hend] at N;clear hL hown hbl hend hlex hlen
    go_wp2_with (first
     | (go_at_call 109;refine N.out.mono ?_;rintro e _ ⟨rfl,d,os,rfl⟩)
     | (at_builtin;refine wpList_append_own_at _ rfl _ _ 156 rfl (w.heap.size+1) 186 i0 (.agg #[.int .i64 0,.int .i64 0,.string ⟨#[]⟩,.int .i64 0]) 4 40 underlying156 hi hz0 hz1 hz2 rfl zw lv acc.length (qat acc) rfl ?c0 ⟨wr.heap.size+os.size+1,0,none⟩ 1 1 [.int .i64 0,.int .i64 (s.size:Int),.string ⟨#[]⟩,.int .i64 0] rfl rfl ?c1 ?c2 ?c3 ?c4 ?c5 ?_))
    case c0=>exact((own_more (ownsRow_setCell_below HOWN.out zy _) _ _).alloc _).alloc _
    case c1=>exact qaq jf
    case c2=>intro u hu;simp at hu;rcases hu with rfl | rfl | rfl | rfl<;>rfl
    case c3=>unfold maxLen;omega
    case c4=>omega
    case c5=>simp[more_size];omega
    intro v' w1 hown' hgrow _ hblk
    go_wp2
    go_ret3;have hl:=HLEX.out;subst hl;refine qgN rfl zy ?_ (qcb rfl HBL.out zf hgrow (fun k hk=>(HOWN.out.lt k hk).1));rw[qbv]
    simpa [tok0] using hown'
  . -- MORE
    have hle:=qch false (s.data.toList.drop k);obtain⟨sk,hsk⟩:∃ sk,skipL false (s.data.toList.drop k)=sk:=⟨_,rfl⟩
    rw[hsk] at hlex hend hle;have hlt:k+sk<s.size:=(by simp at hle;omega)
    obtain⟨r,n1,er,hr⟩:∃ r n1 er,oneF (s.data.toList.drop (k+sk))=(r,n1,er):=⟨_,_,_,rfl⟩
    rw[if_neg Y,hr] at hlex;dsimp only at hlex;have N:=J (next_any w.heap.size s k sk lv hk Y hsk hlt n1 r er hr wr hL);obtain⟨m,hm⟩:∃ m,k+sk=m:=⟨_,rfl⟩
    rw[hm] at N hlex hlt hr;obtain⟨c0,c1,c2,f1,f2⟩:=hL.cells;by_cases her:er=0
    . subst her;rw[if_neg zy] at hlex;by_cases hfull:acc.length=1024
      . rw[if_pos hfull] at hlex;have HLEX:=J hlex;have HF:=J hfull;rw[hfull] at hown;rcases Go.Joins.ownsRow_forms hown with ⟨rfl,h0⟩ | ⟨g1,cap,rfl⟩
        . omega
        clear hL hown hbl hlex hlen hm hr hsk hfull HOWN
        go_wp2_with (go_at_call 109;refine N.out.mono ?_;rintro e _ ⟨rfl,k2,hk2,d,os,rfl⟩;have HK2:=J hk2;clear hk2)
        refine qaa 5 58 (List.replicate 5 false) zv zv rfl ?_;refine zh ?_
        repeat(refine Lex.step rfl ?_;intro K hK;unfold StepG;go_simp;(first
          | refine hK _ ?_);clear hK K)
        refine zd ?_;intro dd oo;go_wp2_with fail;rw[ends_normal];go_wp2_with fail;go_ret3;have hl:=HLEX.out;subst hl;exact Or.inr ⟨zy,rfl,qcb rfl HBL.out zf (lv:=.slice none 0 0) (grown_refl _ _) (by intro k hk;simp[Value.ownBlock] at hk)⟩
      . rw[if_neg hfull] at hlex;have HLEX:=J hlex;have hF:((acc.length:Int)==1024)=false:=zg;have hbd:=oneF_bd _ r n1 zg hr;have HBD:Hid (1<=n1/\m+n1<=s.size/\s.size+1<=k+g+1/\k<=m/\acc.length+1<=1024):=J ⟨hbd.1,by have:=hbd.2;simp at this;omega,Y,Y,Y⟩
        obtain⟨len,cap,p,rfl,hlen2⟩:∃ len cap p,lv=.slice p len cap/\len=acc.length:=by
         rcases Go.Joins.ownsRow_forms hown with ⟨rfl,h0⟩ | ⟨g1,cap,rfl⟩
         . exact⟨_,_,_,rfl,h0.symm⟩
         . exact⟨_,_,_,rfl,rfl⟩
        subst hlen2;clear hL hown hbl hlex hlen hm hr hsk hfull hbd
        go_wp2_with (go_at_call 109;refine N.out.mono ?_;rintro e _ ⟨rfl,k2,hk2,d,os,rfl⟩;have HK2:=J hk2;clear hk2)
        refine qaa 7 58 [true,false,false,false,false,false,false] zv zv rfl ?_;refine zh ?_;refine Lex.stepP rfl rfl ?_;intro K hK;go_simp;refine hK _ ?_;clear hK K
        iterate 5 (refine Lex.step rfl ?_;intro K hK;unfold StepG;go_simp;refine hK _ ?_;clear hK K)
        refine Lex.sliceLit 54 (.cells #[.int .i64 r.k,.int .i64 (m:Int),.string r.s,.int .i64 r.i] 186) 1 1 rfl rfl (fun d os=>?_) ?_
        . unfold StepG;go_simp;exact⟨(Ext.refl _).alloc _,NewSl.of_alloc _ _ _ _ _ _ _ jf⟩
        refine Lex.nil fun WW hE=>?_
        intro u hu;obtain⟨d1,os1,d2,os2,rfl,rfl⟩:=hu.split hE;clear hu hE;go_simp;unfold FillH
        go_wp2_with (at_builtin;refine wpList_append_own_at _ rfl _ _ 156 rfl (w.heap.size+1) 186 i0 (.agg #[.int .i64 0,.int .i64 0,.string ⟨#[]⟩,.int .i64 0]) 4 40 underlying156 hi hz0 hz1 hz2 rfl zw (.slice p acc.length cap) acc.length (qat acc) rfl ?c0 ⟨_,0,none⟩ 1 1 [.int .i64 r.k,.int .i64 (m:Int),.string r.s,.int .i64 r.i] rfl rfl ?c1 ?c2 ?c3 ?c4 ?c5 ?_)
        case c0=>repeat(first | (with_reducible exact ownsRow_setCell_below HOWN.out zy _) | (with_reducible apply own_more) | (with_reducible refine World.ownsRow.alloc ?_ _))
        case c1=>exact news_split jf
        case c2=>intro u hu;simp at hu;rcases hu with rfl | rfl | rfl | rfl<;>rfl
        case c3=>have:=HBD.out;unfold maxLen;omega
        case c4=>have:=HBD.out;omega
        case c5=>simp[more_size];omega
        intro v' w1 hown' hgrow _ hblk;have k2e:=HK2.out trivial;subst k2e
        have HL1:LexAt w.heap.size s (m+n1) (.slice p acc.length cap) w1:=by
         refine lex_grown ?_ hgrow (fun e=>Nat.lt_irrefl _ ((HOWN.out.lt _ e).1))
         repeat(first | (with_reducible apply LexAt.more) | (with_reducible apply LexAt.alloc) | (with_reducible exact LexAt.set HL.out _ _ rfl))
        obtain⟨c0,c1,c2,f1,f2⟩:=HL1.cells;have hb1:=HL1.lt;have hx:Ext w w1:=qcb rfl HBL.out zf hgrow (fun k hk=>(HOWN.out.lt k hk).1);obtain⟨g1,cap1,rfl,_,_⟩:=hown'.form Y;have HOWN1:=J hown';have HX:=J hx;have HLL:=J HL1;clear hown' hgrow hblk HL1 hx HL HOWN HBL N;go_wp2_with fail
        first | rw[ends_normal] | skip
        go_wp2_with fail
        go_roundg g
        case measure=>omega
        case rel =>
         have hq:=HBD.out;refine ⟨m+n1,acc++[(r,m)],_,Y,Y,zg,HLEX.out,HLL.out.setL _,?_,(HX.out.setCell (Nat.le_refl _) _).below⟩;rw[qbv];have:=ownsRow_setCell_below HOWN1.out (a:=⟨w.heap.size,2,none⟩) zy (.slice (some ⟨g1,0,none⟩) (acc.length+1) cap1)
         simpa using this
    . rw[if_pos her] at hlex;have HLEX:=J hlex;have he1:(er==0)=false:=(by simpa using her)
      have he2:(er !=0)=true:=(by simpa using her)
      have HE:=J her;clear hL hown hbl hlex hlen hm hr hsk her
      go_wp2_with (go_at_call 109;refine N.out.mono ?_;rintro e _ ⟨rfl,k2,hk2,d,os,rfl⟩;have HK2:=J hk2;clear hk2)
      refine qaa 6 58 (List.replicate 6 false) zv zv rfl ?_;refine zh ?_
      repeat(refine Lex.step rfl ?_;intro K hK;unfold StepG;go_simp;(first
        | refine hK _ ?_);clear hK K)
      refine zd ?_;intro dd oo;go_wp2_with fail;rw[ends_normal];go_wp2_with fail;go_ret3;have hl:=HLEX.out;subst hl;exact Or.inr ⟨HE.out,rfl,qcb rfl HBL.out zf (lv:=.slice none 0 0) (grown_refl _ _) (by intro k hk;simp[Value.ownBlock] at hk)⟩
def qfJ (s:ByteArray) (res:List (Tok × Nat) × Int × Nat) (hr:lexF s.data.toList=res) (w:World):Calls prog 96 #[.string s] w (qdT w res):=by
 have hl:s.data.toList.length=s.size:=zy;unfold lexF at hr;by_cases h:4096<s.data.toList.length
 . rw[if_pos h] at hr;subst hr;exact(tokens_big s Y w).mono fun e w' ⟨h1,h2⟩=>Or.inr ⟨zy,h1,h2⟩
 . rw[if_neg h,hl] at hr;exact tokens_x s Y res (J hr) w
attribute [go_sem] more_more Array.size_append
open Go.Maps (Keyed string_keyed IsMap)
def closeTab:List (List UInt8 × Int):=[([111,114],0),([97,110,100],1),([61,61],2),([33,61],2),([60],2),([60,61],2),([62],2),([62,61],2),([46,46],3),([43],4),([45],4),([42],5),([47],5),([37],5)]
def qcp (l:List UInt8):Option Int:=(closeTab.find? fun p=>p.1==l).map fun p=>p.2
def closeD:DataW Unit:=closeTab.foldl (fun D p=>D.put (.string p.1) (.lit (.int .i64 p.2))) (.map [])
def lawSM:Keyed prog 9:=string_keyed underlying9
def zeroIM (w:World):(zeroValue 3).run prog w=.ok (.int .i64 0) w:=by kernel_rfl
def close_mem (l:List UInt8):(l=[111,114]\/l=[97,110,100]\/l=[61,61]\/l=[33,61]\/l=[60]\/l=[60,61]\/l=[62]\/l=[62,61]\/l=[46,46]\/l=[43]\/l=[45]\/l=[42]\/l=[47]\/l=[37])\/(([111,114]==l)=false/\([97,110,100]==l)=false/\([61,61]==l)=false/\([33,61]==l)=false/\([60]==l)=false/\([60,61]==l)=false/\([62]==l)=false/\([62,61]==l)=false/\([46,46]==l)=false/\([43]==l)=false/\([45]==l)=false/\([42]==l)=false/\([47]==l)=false/\([37]==l)=false):=by
 by_cases h:l=[111,114]\/l=[97,110,100]\/l=[61,61]\/l=[33,61]\/l=[60]\/l=[60,61]\/l=[62]\/l=[62,61]\/l=[46,46]\/l=[43]\/l=[45]\/l=[42]\/l=[47]\/l=[37]
 . exact Or.inl h
 . right
   have k:∀ x:List UInt8,l≠x->(x==l)=false:=fun x hx=>by simpa using fun e=>hx e.symm
   simp only[not_or] at h;obtain⟨a0,a1,a2,a3,a4,a5,a6,a7,a8,a9,a10,a11,a12,a13⟩:=h;exact⟨k _ a0,k _ a1,k _ a2,k _ a3,k _ a4,k _ a5,k _ a6,k _ a7,k _ a8,k _ a9,k _ a10,k _ a11,k _ a12,k _ a13⟩
def closeKeys:Bool:=match closeD with
 | .map es=>es.all fun p=>match p.1 with
  | .string a=>closeTab.any fun q=>q.1==a
  | _=>false
 | _=>false
def closeKeys_ok:closeKeys=true:=by kernel_rfl
def close_key (l:List UInt8):Maps.has closeD (.string l)=(qcp l).isSome/\closeD.atKey (.string l) (.lit (.int .i64 0))=.lit (.int .i64 ((qcp l).getD 0)):=by
 rcases close_mem l with h | h
 . rcases h with rfl | rfl | rfl | rfl | rfl | rfl | rfl | rfl | rfl | rfl | rfl | rfl | rfl | rfl<;>exact⟨zv,zv⟩
 obtain⟨a0,a1,a2,a3,a4,a5,a6,a7,a8,a9,a10,a11,a12,a13⟩:=h
 have hn:qcp l=none:=by
  unfold qcp closeTab;simp only[List.find?_cons,List.find?_nil,a0,a1,a2,a3,a4,a5,a6,a7,a8,a9,a10,a11,a12,a13];rfl
 rw[hn]
 have hno:∀ a:List UInt8,(closeTab.any fun q=>q.1==a)=true->(a==l)=false:=by
  intro a ha;simp only[closeTab,List.any_cons,List.any_nil,Bool.or_false,Bool.or_eq_true,beq_iff_eq] at ha;rcases ha with rfl | rfl | rfl | rfl | rfl | rfl | rfl | rfl | rfl | rfl | rfl | rfl | rfl | rfl
  all_goals assumption
 have hk:=closeKeys_ok;unfold closeKeys at hk
 cases hD:closeD with
 | map es =>
  rw[hD] at hk
  have hf:∀ p∈es,p.1.sameKey (.string l)=false:=by
   intro p hp;have h1:=List.all_eq_true.1 hk p hp;rcases p with ⟨k,d⟩
   cases k with
   | string a=>exact hno a h1
   | _=>cases h1
  refine ⟨?_,?_⟩
  . rw[Maps.has_eq];rw[List.any_eq_false.2 (fun p hp=>by rw[hf p hp];simp)];rfl
  . unfold DataW.atKey
    dsimp only;rw[List.find?_eq_none.2 (fun p hp=>by rw[hf p hp];simp)];rfl
 | _=>rw[hD] at hk;cases hk
def qha (w:World):Calls prog 230 #[] w fun e w'=>∃ B,e=.returned (.map (some B))/\w'.ownsMap prog 9 (plainElem prog 3) B 14 closeD/\Ext w w':=by
 have hmm:=@run_makeMap prog;have HO0:=World.ownsMap_made w prog 9 (plainElem (H:=Unit) prog 3);have HX0:Ext w (w.alloc (.map #[] 0)):=(Ext.refl w).alloc _;obtain⟨w1,hr1,HO1,hg1⟩:=HO0.update lawSM underlying283 jq (key:=.string ⟨#[111,114]⟩) (val:=.int .i64 0) (WideMaps.keyOf_string_mk underlying9 zw) (plainElem_int underlying3 zw);have HX1:Ext w w1:=HX0.grown hg1 (fun k hk=>by simp at hk;omega);obtain⟨w2,hr2,HO2,hg2⟩:=HO1.update lawSM underlying283 jq (key:=.string ⟨#[97,110,100]⟩) (val:=.int .i64 1) (WideMaps.keyOf_string_mk underlying9 zw) (plainElem_int underlying3 zw);have HX2:Ext w w2:=HX1.grown hg2 (fun k hk=>by simp at hk;omega);obtain⟨w3,hr3,HO3,hg3⟩:=HO2.update lawSM underlying283 jq (key:=.string ⟨#[61,61]⟩) (val:=.int .i64 2) (WideMaps.keyOf_string_mk underlying9 zw) (plainElem_int underlying3 zw);have HX3:Ext w w3:=HX2.grown hg3 (fun k hk=>by simp at hk;omega);obtain⟨w4,hr4,HO4,hg4⟩:=HO3.update lawSM underlying283 jq (key:=.string ⟨#[33,61]⟩) (val:=.int .i64 2) (WideMaps.keyOf_string_mk underlying9 zw) (plainElem_int underlying3 zw);have HX4:Ext w w4:=HX3.grown hg4 (fun k hk=>by simp at hk;omega);obtain⟨w5,hr5,HO5,hg5⟩:=HO4.update lawSM underlying283 jq (key:=.string ⟨#[60]⟩) (val:=.int .i64 2) (WideMaps.keyOf_string_mk underlying9 zw) (plainElem_int underlying3 zw);have HX5:Ext w w5:=HX4.grown hg5 (fun k hk=>by simp at hk;omega)
 obtain⟨w6,hr6,HO6,hg6⟩:=HO5.update lawSM underlying283 jq (key:=.string ⟨#[60,61]⟩) (val:=.int .i64 2) (WideMaps.keyOf_string_mk underlying9 zw) (plainElem_int underlying3 zw);have HX6:Ext w w6:=HX5.grown hg6 (fun k hk=>by simp at hk;omega);obtain⟨w7,hr7,HO7,hg7⟩:=HO6.update lawSM underlying283 jq (key:=.string ⟨#[62]⟩) (val:=.int .i64 2) (WideMaps.keyOf_string_mk underlying9 zw) (plainElem_int underlying3 zw);have HX7:Ext w w7:=HX6.grown hg7 (fun k hk=>by simp at hk;omega);obtain⟨w8,hr8,HO8,hg8⟩:=HO7.update lawSM underlying283 jq (key:=.string ⟨#[62,61]⟩) (val:=.int .i64 2) (WideMaps.keyOf_string_mk underlying9 zw) (plainElem_int underlying3 zw);have HX8:Ext w w8:=HX7.grown hg8 (fun k hk=>by simp at hk;omega);obtain⟨w9,hr9,HO9,hg9⟩:=HO8.update lawSM underlying283 jq (key:=.string ⟨#[46,46]⟩) (val:=.int .i64 3) (WideMaps.keyOf_string_mk underlying9 zw) (plainElem_int underlying3 zw);have HX9:Ext w w9:=HX8.grown hg9 (fun k hk=>by simp at hk;omega);obtain⟨w10,hr10,HO10,hg10⟩:=HO9.update lawSM underlying283 jq (key:=.string ⟨#[43]⟩) (val:=.int .i64 4) (WideMaps.keyOf_string_mk underlying9 zw) (plainElem_int underlying3 zw);have HX10:Ext w w10:=HX9.grown hg10 (fun k hk=>by simp at hk;omega);obtain⟨w11,hr11,HO11,hg11⟩:=HO10.update lawSM underlying283 jq (key:=.string ⟨#[45]⟩) (val:=.int .i64 4) (WideMaps.keyOf_string_mk underlying9 zw) (plainElem_int underlying3 zw)
 have HX11:Ext w w11:=HX10.grown hg11 (fun k hk=>by simp at hk;omega);obtain⟨w12,hr12,HO12,hg12⟩:=HO11.update lawSM underlying283 jq (key:=.string ⟨#[42]⟩) (val:=.int .i64 5) (WideMaps.keyOf_string_mk underlying9 zw) (plainElem_int underlying3 zw);have HX12:Ext w w12:=HX11.grown hg12 (fun k hk=>by simp at hk;omega);obtain⟨w13,hr13,HO13,hg13⟩:=HO12.update lawSM underlying283 jq (key:=.string ⟨#[47]⟩) (val:=.int .i64 5) (WideMaps.keyOf_string_mk underlying9 zw) (plainElem_int underlying3 zw);have HX13:Ext w w13:=HX12.grown hg13 (fun k hk=>by simp at hk;omega);obtain⟨w14,hr14,HO14,hg14⟩:=HO13.update lawSM underlying283 jq (key:=.string ⟨#[37]⟩) (val:=.int .i64 5) (WideMaps.keyOf_string_mk underlying9 zw) (plainElem_int underlying3 zw);have HX14:Ext w w14:=HX13.grown hg14 (fun k hk=>by simp at hk;omega);clear HO0 HO1 HO2 HO3 HO4 HO5 HO6 HO7 HO8 HO9 HO10 HO11 HO12 HO13 HX0 HX1 HX2 HX3 HX4 HX5 HX6 HX7 HX8 HX9 HX10 HX11 HX12 HX13 hg1 hg2 hg3 hg4 hg5 hg6 hg7 hg8 hg9 hg10 hg11 hg12 hg13 hg14;have H1:=J HO14;have H2:=J HX14;clear HO14 HX14;go_enter func230,ntmps230;go_wp2_with fail;go_ret;exact⟨_,rfl,H1.out,H2.out⟩
def qbf (k:Int) (s:ByteArray):Int:=if k<0\/11<k then -1 else if k<11 then 6 else(qcp s.data.toList).getD (-1)
def look_close {B:Nat} (h:w.ownsMap prog 9 (plainElem (H:=Unit) prog 3) B 14 closeD) (s:ByteArray) (hs:s.size<=maxLen) :
  (Instr.lookup 283 (.map (some B)) (.string s) true).run prog w=.ok (.tuple #[.int .i64 ((qcp s.data.toList).getD 0),.bool (qcp s.data.toList).isSome]) w:=by
 obtain⟨v,ps,hr,hv⟩:=h.look_ok lawSM underlying283 (zeroIM w) (plainElem_int underlying3 zw) (WideMaps.keyOf_string_mk underlying9 hs);obtain⟨h7,h8⟩:=close_key s.data.toList;rw[h7] at hr;rw[h8] at hv;obtain⟨a,rfl,ha,_⟩:=plainElem_int_inv underlying3 hv;simp only[Prod.mk.injEq,DataW.lit.injEq,Lit.int.injEq,true_and] at ha;rw[hr,<-ha.1]
def CloMap:Fact:=fun v W=>∃ B,v=.map (some B)/\W.ownsMap prog 9 (plainElem (H:=Unit) prog 3) B 14 closeD
def CloMap.upc:Upc CloMap:=by
 rintro v W W' hx ⟨B,hv,ho⟩;have hb:=hx.below;exact⟨B,hv,ho.kept (row:=none) ⟨hb.os,hb.tape,hb.output,hb.size,fun k hk _=>hb.block k hk⟩ zy⟩
def close_any (zk za zb zc zx zi:Int) (zs zt:ByteArray) (hs:zs.size<=maxLen) (w:World):Calls prog 222 #[.agg #[.int .i64 zk,.int .i64 za,.int .i64 zb,.int .i64 zc,.int .i64 zx,.int .i64 zi,.string zs,.string zt]] w fun e w'=>e=.returned (.int .i64 (qbf zk zs))/\Ext w w':=by
 by_cases h0:zk<0
 . have hc:qbf zk zs=-1:=by unfold qbf;rw[if_pos (Or.inl h0)]
   rw[hc];go_enter func222,ntmps222;go_wp2_with fail;go_ret;exact⟨rfl,jz⟩
 by_cases h1:11<zk
 . have hc:qbf zk zs=-1:=by unfold qbf;rw[if_pos (Or.inr h1)]
   rw[hc];have h2:0<=zk:=Y;clear h0;go_enter func222,ntmps222;go_wp2_with fail;go_ret;exact⟨rfl,jz⟩
 by_cases h3:zk<11
 . have hc:qbf zk zs=6:=by unfold qbf;rw[if_neg Y,if_pos h3]
   rw[hc];have h2:0<=zk:=Y;have h4:zk<=11:=Y;clear h0 h1;go_enter func222,ntmps222;go_wp2_with fail;go_ret;exact⟨rfl,jz⟩
 have h5:zk=11:=Y;subst h5;have hc:qbf 11 zs=(qcp zs.data.toList).getD (-1):=rfl;rw[hc];have CL:=J qha;obtain⟨O,hO⟩:∃ O,qcp zs.data.toList=O:=⟨_,rfl⟩
 have LK:=J (fun (w:World) (B:Nat) h=>look_close (w:=w) (B:=B) h zs hs);rw[hO] at LK ⊢;clear hO h0 h1 h3 hc hs;go_enter func222,ntmps222;go_wp2_with fail;refine qaa 9 28 (List.replicate 9 false) zv zv rfl ?_;refine zh ?_;refine Lex.gap 19 CloMap rfl CloMap.upc rfl (fun d os=>?_) ?_
 . unfold StepG;go_simp;exact(CL.out _).mono fun e w' ⟨B,he,ho,hx⟩=>⟨_,he,hx,B,rfl,ho⟩
 iterate 2 (refine Lex.step rfl ?_;intro K hK;unfold StepG;go_simp;refine hK _ ?_;clear hK K)
 refine Lex.go1 (.tuple #[.int .i64 (O.getD 0),.bool O.isSome]) 19 CloMap rfl (fun u d os hu=>?_) ?_
 . obtain⟨B,rfl,ho⟩:=hu;have hlk:=LK.out _ _ ho;clear ho;unfold StepG;go_simp
 go_simp
 iterate 5 (refine Lex.step rfl ?_;intro K hK;unfold StepG;go_simp;refine hK _ ?_;clear hK K)
 refine Lex.nil fun WW hE=>?_
 intro u hu;obtain⟨dd,oo,rfl⟩:=hE;clear hu;go_simp;unfold FillH;go_wp2_with fail
 try rw[ends_normal]
 cases O with
 | none =>
  go_wp2_with fail;go_ret
  exact⟨rfl,jz⟩
 | some v =>
  go_wp2_with fail;go_ret
  exact⟨rfl,jz⟩
def shA (k:Int):Bool:=[5,6,7,8,9,10,23,27,28,11,22,20,21,24,25].contains k
def shB (k:Int):Bool:=[11,22].contains k
def shBB (k:Int):Bool:=[24,25,26].contains k
def shBC (k:Int):Bool:=[24].contains k
def shS (k:Int):Bool:=[4,20,21,25].contains k
def shT (k:Int):Bool:=[25].contains k
def qcm (k:Int):Bool:=[0,1,2,3,4,5,6,7,8,9,10,11,20,21,22,23,24,25,26,27,28].contains k
def kind_cases (k:Int):(k=0\/k=1\/k=2\/k=3\/k=4\/k=5\/k=6\/k=7\/k=8\/k=9\/k=10\/k=11\/k=20\/k=21\/k=22\/k=23\/k=24\/k=25\/k=26\/k=27\/k=28)\/((k==0)=false/\(k==1)=false/\(k==2)=false/\(k==3)=false/\(k==4)=false/\(k==5)=false/\(k==6)=false/\(k==7)=false/\(k==8)=false/\(k==9)=false/\(k==10)=false/\(k==11)=false/\(k==20)=false/\(k==21)=false/\(k==22)=false/\(k==23)=false/\(k==24)=false/\(k==25)=false/\(k==26)=false/\(k==27)=false/\(k==28)=false):=by
 by_cases h:k=0\/k=1\/k=2\/k=3\/k=4\/k=5\/k=6\/k=7\/k=8\/k=9\/k=10\/k=11\/k=20\/k=21\/k=22\/k=23\/k=24\/k=25\/k=26\/k=27\/k=28
 . exact Or.inl h
 . right
   simp only[not_or] at h;simp only[beq_eq_false_iff_ne,ne_eq];exact h
def sh_none (k:Int) (h:(k==0)=false/\(k==1)=false/\(k==2)=false/\(k==3)=false/\(k==4)=false/\(k==5)=false/\(k==6)=false/\(k==7)=false/\(k==8)=false/\(k==9)=false/\(k==10)=false/\(k==11)=false/\(k==20)=false/\(k==21)=false/\(k==22)=false/\(k==23)=false/\(k==24)=false/\(k==25)=false/\(k==26)=false/\(k==27)=false/\(k==28)=false):qcm k=false/\shA k=false/\shB k=false/\shBB k=false/\shBC k=false/\shS k=false/\shT k=false:=by
 obtain⟨a0,a1,a2,a3,a4,a5,a6,a7,a8,a9,a10,a11,a20,a21,a22,a23,a24,a25,a26,a27,a28⟩:=h;have c:∀ (x:Int) (l:List Int),(x::l).contains k=(k==x||l.contains k):=fun x l=>by rw[List.contains_cons]
 have n:([]:List Int).contains k=false:=rfl;refine ⟨?_,?_,?_,?_,?_,?_,?_⟩
 . unfold qcm;simp only[c,n,a0,a1,a2,a3,a4,a5,a6,a7,a8,a9,a10,a11,a20,a21,a22,a23,a24,a25,a26,a27,a28,Bool.or_self]
 . unfold shA;simp only[c,n,a5,a6,a7,a8,a9,a10,a23,a27,a28,a11,a22,a20,a21,a24,a25,Bool.or_self]
 . unfold shB;simp only[c,n,a11,a22,Bool.or_self]
 . unfold shBB;simp only[c,n,a24,a25,a26,Bool.or_self]
 . unfold shBC;simp only[c,n,a24,Bool.or_self]
 . unfold shS;simp only[c,n,a4,a20,a21,a25,Bool.or_self]
 . unfold shT;simp only[c,n,a25,Bool.or_self]
def shape_any (k:Int) (w:World):Calls prog 197 #[.int .i64 k] w fun e w'=>e=.returned (.tuple #[.agg #[.bool (shA k),.bool (shB k),.bool (shBB k),.bool (shBC k),.bool (shS k),.bool (shT k)],.bool (qcm k)])/\Ext w w':=by
 rcases kind_cases k with h | h
 . rcases h with rfl | rfl | rfl | rfl | rfl | rfl | rfl | rfl | rfl | rfl | rfl | rfl | rfl | rfl | rfl | rfl | rfl | rfl | rfl | rfl | rfl
   all_goals
    go_enter func197,ntmps197;go_wp2_with fail;refine bodyPost_ret (by simp[results,results197,go_sem];rfl) rfl ⟨?_,jz⟩
    kernel_rfl
 . obtain⟨s0,s1,s2,s3,s4,s5,s6⟩:=sh_none k h;rw[s0,s1,s2,s3,s4,s5,s6];obtain⟨a0,a1,a2,a3,a4,a5,a6,a7,a8,a9,a10,a11,a20,a21,a22,a23,a24,a25,a26,a27,a28⟩:=h;go_enter func197,ntmps197;go_wp2_with fail;exact bodyPost_ret (v:=.tuple #[.agg #[.bool false,.bool false,.bool false,.bool false,.bool false,.bool false],.bool false]) (by simp[results,results197,go_sem]) rfl ⟨rfl,jz⟩
def numOk (k c i:Int):Bool :=
 if k=2 then decide (0<=i) else if k=1 then(i==0||i==1) else if k=24 then(i==1||(i==0&&c==-1)) else if k=25\/k=26 then(decide (0<=i)&&decide (i<=64)) else i==0
def num_any (zk za zb zc zx zi:Int) (zs zt:ByteArray) (w:World):Calls prog 198 #[.agg #[.int .i64 zk,.int .i64 za,.int .i64 zb,.int .i64 zc,.int .i64 zx,.int .i64 zi,.string zs,.string zt]] w fun e w'=>e=.returned (.bool (numOk zk zc zi))/\Ext w w':=by
 by_cases h2:zk=2
 . subst h2;have hr:numOk 2 zc zi=decide (0<=zi):=rfl;rw[hr];by_cases hi:0<=zi
   . rw[decide_eq_true hi];go_enter func198,ntmps198;go_wp2_with fail;go_ret;exact⟨ret_bool jv,jz⟩
   . rw[decide_eq_false hi];have hi2:zi<0:=Y;clear hi;go_enter func198,ntmps198;go_wp2_with fail;go_ret;exact⟨ret_bool jv,jz⟩
 by_cases h1:zk=1
 . subst h1;have hr:numOk 1 zc zi=(zi==0||zi==1):=rfl;rw[hr];cases q0:(zi==0)<;>cases q1:(zi==1)
   all_goals
    go_enter func198,ntmps198;go_wp2_with fail;go_ret;exact⟨ret_bool jv,jz⟩
 by_cases h24:zk=24
 . subst h24;have hr:numOk 24 zc zi=(zi==1||(zi==0&&zc==-1)):=rfl;rw[hr];cases q1:(zi==1)<;>cases q0:(zi==0)<;>cases qc:(zc==-1)
   all_goals
    go_enter func198,ntmps198;go_wp2_with fail;go_ret;exact⟨ret_bool jv,jz⟩
 have q2:(zk==2)=false:=by simpa using h2
 have q1:(zk==1)=false:=by simpa using h1
 have q24:(zk==24)=false:=by simpa using h24
 by_cases h25:zk=25\/zk=26
 . have hr:numOk zk zc zi=(decide (0<=zi)&&decide (zi<=64)):=by unfold numOk;rw[if_neg h2,if_neg h1,if_neg h24,if_pos h25]
   rw[hr];clear q2 q1 q24 h2 h1 h24 hr;by_cases hi:0<=zi
   . rw[decide_eq_true hi];by_cases hj:zi<=64
     . rw[decide_eq_true hj];rcases h25 with rfl | rfl
       all_goals
        go_enter func198,ntmps198;go_wp2_with fail;go_ret;exact⟨ret_bool jv,jz⟩
     . rw[decide_eq_false hj];have hj2:64<zi:=Y;clear hj;rcases h25 with rfl | rfl
       all_goals
        go_enter func198,ntmps198;go_wp2_with fail;go_ret;exact⟨ret_bool jv,jz⟩
   . rw[decide_eq_false hi];have hi2:zi<0:=Y;clear hi;rcases h25 with rfl | rfl
     all_goals
      go_enter func198,ntmps198;go_wp2_with fail;go_ret;exact⟨ret_bool jv,jz⟩
 have hr:numOk zk zc zi=(zi==0):=by unfold numOk;rw[if_neg h2,if_neg h1,if_neg h24,if_neg h25]
 rw[hr];have q25:(zk==25)=false:=by simp;exact fun e=>h25 (Or.inl e)
 have q26:(zk==26)=false:=by simp;exact fun e=>h25 (Or.inr e)
 clear h2 h1 h24 h25 hr;cases q0:(zi==0)
 all_goals
  go_enter func198,ntmps198;go_wp2_with fail;go_ret;exact⟨ret_bool jv,jz⟩
def tokcM {base g cap:Nat} {l:List (Tok × Nat)} (h:w.ownsRow base 186 4 (.slice (some ⟨g,0,none⟩) n cap) n (qat l)) (j:Nat) (u:Value) (hj:(qat l)[j]?=some u):w.cell? ⟨g,j,none⟩=some u:=by
 have:=h.cells (g:=g) rfl j u hj
 rwa [Addr.add_lit,Nat.zero_add] at this
def nameR (r:List (Tok × Nat) × Int × Nat) (s:ByteArray):Bool:=r.2.1==0&&(match r.1 with | [t,_]=>t.1.k==1&&t.1.s.toList==s.toList | _=>false)
def nameOk (s:ByteArray):Bool:=nameR (lexF s.data.toList) s
def name1_ok (s:ByteArray) (w:World):Calls prog 220 #[.string s] w fun e w'=>e=.returned (.bool (nameOk s))/\Ext w w':=by
 unfold nameOk;obtain⟨l,e,x,hl⟩:∃ l e x,lexF s.data.toList=(l,e,x):=⟨_,_,_,rfl⟩
 have T:=J (qfJ s _ hl);rw[hl];clear hl;by_cases he:e=0;rotate_left
 . have q0:(e==0)=false:=by simpa using he
   have hr:nameR (l,e,x) s=false:=by
    unfold nameR;dsimp only;rw[q0,Bool.false_and]
   clear q0;rw[hr];have HE:=J he;have q:(e==0)=false:=by simpa using he
   clear hr he;go_enter func220,ntmps220
   go_wp2_with (((with_reducible refine (T.out _).mono ?_);rintro e' w1 (⟨h2,_⟩ | ⟨_,he,d1,os1,rfl⟩);exact absurd h2 HE.out;dsimp only at he;subst he))
   go_ret;exact⟨rfl,jz⟩
 subst he;by_cases h2:l.length=2;rotate_left
 . have hr:nameR (l,0,x) s=false:=by
     unfold nameR
     match l,h2 with
     | [],_=>rfl
     | [_],_=>rfl
     | [_,_],h=>exact absurd rfl h
     | _::_::_::_,_=>rfl
   rw[hr];have q:(((l.length:Nat):Int)==2)=false:=beq_eq_false_iff_ne.2 Y;clear hr h2;go_enter func220,ntmps220
   go_wp2_with (((with_reducible refine (T.out _).mono ?_);rintro e' w1 (⟨_,g,cap,he,hrow,d1,os1,rfl⟩ | ⟨h2,_⟩);rotate_left;exact absurd rfl h2;dsimp only at he;subst he;clear hrow))
   go_ret;exact⟨rfl,jz⟩
 match l,h2 with
 | [((⟨tk,ts,ti⟩:Tok),p0),t1],_ =>
  have hr:nameR ([((⟨tk,ts,ti⟩:Tok),p0),t1],0,x) s=(tk==1&&ts.toList==s.toList):=rfl;rw[hr];cases q1:(tk==1)<;>cases q2:(ts.toList==s.toList)
  all_goals
   go_enter func220,ntmps220
   go_wp2_with (((with_reducible refine (T.out _).mono ?_);rintro e' w1 (⟨_,g,cap,he,hrow,hx⟩ | ⟨h2,_⟩);rotate_left;exact absurd rfl h2;dsimp only[List.length_cons,List.length_nil] at he hrow;subst he;have hgs:=(hrow.lt g rfl).2;have k0:=tokcM hrow 0 _ rfl;have k2:=tokcM hrow 2 _ rfl;clear hrow;have HX:=J hx;clear hx))
   go_ret;exact⟨rfl,HX.out.trans zf⟩
def qbh (s:ByteArray):Bool:=(qbW s.data.toList).2==0
def quoted_any (s:ByteArray) (w:World):Calls prog 221 #[.string s] w fun e w'=>e=.returned (.bool (qbh s))/\Ext w w':=by
 unfold qbh;obtain⟨q,er,hq⟩:∃ q er,qbW s.data.toList=(q,er):=⟨_,_,rfl⟩
 have Q:=J (quote_any s q er hq);rw[hq];dsimp only;clear hq;cases h:(er==0)
 all_goals
  go_enter func221,ntmps221
  go_wp2_with (((with_reducible refine (Q.out _).mono ?_);rintro e' _ ⟨rfl,d1,os1,rfl⟩))
  go_ret;exact⟨rfl,jz⟩
def txt2 (k:Int) (s:ByteArray) (bS:Bool):Bool:=if (k==3)=true then qbh s else if (k==11)=true then decide (0<=qbf k s) else if bS=true then nameOk s else s.toList.isEmpty
def txt1 (t:ByteArray) (bT:Bool):Bool:=if bT=true then(!t.toList.isEmpty&&nameOk t) else t.toList.isEmpty
def texts_x (zk za zb zc zx zi:Int) (zs zt:ByteArray) (hs:zs.size<=maxLen) (b0 b1 b2 b3 bS bT:Bool) (w:World) :
  Calls prog 199 #[.agg #[.int .i64 zk,.int .i64 za,.int .i64 zb,.int .i64 zc,.int .i64 zx,.int .i64 zi,.string zs,.string zt],.agg #[.bool b0,.bool b1,.bool b2,.bool b3,.bool bS,.bool bT]] w fun e w'=>e=.returned (.bool (txt1 zt bT&&txt2 zk zs bS))/\Ext w w':=by
 have NMT:=J (fun w1=>name1_ok zt w1);have NMS:=J (fun w1=>name1_ok zs w1);have QS:=J (fun w1=>quoted_any zs w1);have CL:=J (fun w1=>close_any zk za zb zc zx zi zs zt hs w1);obtain⟨NT,hNT⟩:∃ NT,nameOk zt=NT:=⟨_,rfl⟩
 obtain⟨NS,hNS⟩:∃ NS,nameOk zs=NS:=⟨_,rfl⟩
 obtain⟨QQ,hQ⟩:∃ QQ,qbh zs=QQ:=⟨_,rfl⟩
 obtain⟨CC,hC⟩:∃ CC,qbf zk zs=CC:=⟨_,rfl⟩
 rw[hNT] at NMT;rw[hNS] at NMS;rw[hQ] at QS;rw[hC] at CL;have ht:txt1 zt bT=(if bT=true then(!zt.toList.isEmpty&&NT) else zt.toList.isEmpty):=by unfold txt1;rw[hNT]
 rw[ht];clear ht hNT;cases bT
 . rw[if_neg zy];cases qt:zt.toList.isEmpty
   . rw[Bool.false_and];go_enter func199,ntmps199
     go_wp2_with (((with_reducible refine (NMT.out _).mono ?_);rintro e' _ ⟨rfl,d1,os1,rfl⟩))
     go_ret;exact⟨ret_bool jv,jz⟩
   . rw[Bool.true_and];cases q3:(zk==3);rotate_left
     . rw[show txt2 zk zs bS=QQ from by unfold txt2;rw[q3,hQ];rfl];go_enter func199,ntmps199
       go_wp2_with (first | (((with_reducible refine (NMT.out _).mono ?_);rintro e' _ ⟨rfl,d1,os1,rfl⟩)) | (((with_reducible refine (QS.out _).mono ?_);rintro e' _ ⟨rfl,d3,os3,rfl⟩)))
       go_ret;exact⟨ret_bool jv,jz⟩
     cases q11:(zk==11);rotate_left
     . rw[show txt2 zk zs bS=decide (0<=CC) from by unfold txt2;rw[q3,q11,hC];rfl];by_cases hc0:0<=CC
       . rw[decide_eq_true hc0];go_enter func199,ntmps199
         go_wp2_with (first | (((with_reducible refine (NMT.out _).mono ?_);rintro e' _ ⟨rfl,d1,os1,rfl⟩)) | (((with_reducible refine (CL.out _).mono ?_);rintro e' _ ⟨rfl,d4,os4,rfl⟩)))
         go_ret;exact⟨ret_bool jv,jz⟩
       . rw[decide_eq_false hc0];have hc1:CC<0:=Y;clear hc0;go_enter func199,ntmps199
         go_wp2_with (first | (((with_reducible refine (NMT.out _).mono ?_);rintro e' _ ⟨rfl,d1,os1,rfl⟩)) | (((with_reducible refine (CL.out _).mono ?_);rintro e' _ ⟨rfl,d4,os4,rfl⟩)))
         go_ret;exact⟨ret_bool jv,jz⟩
     cases bS
     . rw[show txt2 zk zs false=zs.toList.isEmpty from by unfold txt2;rw[q3,q11];rfl];cases qs:zs.toList.isEmpty
       all_goals
        go_enter func199,ntmps199
        go_wp2_with (((with_reducible refine (NMT.out _).mono ?_);rintro e' _ ⟨rfl,d1,os1,rfl⟩))
        go_ret;exact⟨ret_bool jv,jz⟩
     . rw[show txt2 zk zs true=NS from by unfold txt2;rw[q3,q11,hNS];rfl];go_enter func199,ntmps199
       go_wp2_with (first | (((with_reducible refine (NMT.out _).mono ?_);rintro e' _ ⟨rfl,d1,os1,rfl⟩)) | (((with_reducible refine (NMS.out _).mono ?_);rintro e' _ ⟨rfl,d2,os2,rfl⟩)))
       go_ret;exact⟨ret_bool jv,jz⟩
 . rw[if_pos rfl];cases qt:zt.toList.isEmpty
   . rw[Bool.not_false,Bool.true_and];cases NT
     . rw[Bool.false_and];go_enter func199,ntmps199
       go_wp2_with (((with_reducible refine (NMT.out _).mono ?_);rintro e' _ ⟨rfl,d1,os1,rfl⟩))
       go_ret;exact⟨ret_bool jv,jz⟩
     . rw[Bool.true_and];cases q3:(zk==3);rotate_left
       . rw[show txt2 zk zs bS=QQ from by unfold txt2;rw[q3,hQ];rfl];go_enter func199,ntmps199
         go_wp2_with (first | (((with_reducible refine (NMT.out _).mono ?_);rintro e' _ ⟨rfl,d1,os1,rfl⟩)) | (((with_reducible refine (QS.out _).mono ?_);rintro e' _ ⟨rfl,d3,os3,rfl⟩)))
         go_ret;exact⟨ret_bool jv,jz⟩
       cases q11:(zk==11);rotate_left
       . rw[show txt2 zk zs bS=decide (0<=CC) from by unfold txt2;rw[q3,q11,hC];rfl];by_cases hc0:0<=CC
         . rw[decide_eq_true hc0];go_enter func199,ntmps199
           go_wp2_with (first | (((with_reducible refine (NMT.out _).mono ?_);rintro e' _ ⟨rfl,d1,os1,rfl⟩)) | (((with_reducible refine (CL.out _).mono ?_);rintro e' _ ⟨rfl,d4,os4,rfl⟩)))
           go_ret;exact⟨ret_bool jv,jz⟩
         . rw[decide_eq_false hc0];have hc1:CC<0:=Y;clear hc0;go_enter func199,ntmps199
           go_wp2_with (first | (((with_reducible refine (NMT.out _).mono ?_);rintro e' _ ⟨rfl,d1,os1,rfl⟩)) | (((with_reducible refine (CL.out _).mono ?_);rintro e' _ ⟨rfl,d4,os4,rfl⟩)))
           go_ret;exact⟨ret_bool jv,jz⟩
       cases bS
       . rw[show txt2 zk zs false=zs.toList.isEmpty from by unfold txt2;rw[q3,q11];rfl];cases qs:zs.toList.isEmpty
         all_goals
          go_enter func199,ntmps199
          go_wp2_with (((with_reducible refine (NMT.out _).mono ?_);rintro e' _ ⟨rfl,d1,os1,rfl⟩))
          go_ret;exact⟨ret_bool jv,jz⟩
       . rw[show txt2 zk zs true=NS from by unfold txt2;rw[q3,q11,hNS];rfl];go_enter func199,ntmps199
         go_wp2_with (first | (((with_reducible refine (NMT.out _).mono ?_);rintro e' _ ⟨rfl,d1,os1,rfl⟩)) | (((with_reducible refine (NMS.out _).mono ?_);rintro e' _ ⟨rfl,d2,os2,rfl⟩)))
         go_ret;exact⟨ret_bool jv,jz⟩
   . rw[Bool.not_true,Bool.false_and,Bool.false_and];go_enter func199,ntmps199
     go_wp2_with (((with_reducible refine (NMT.out _).mono ?_);rintro e' _ ⟨rfl,d1,os1,rfl⟩))
     go_ret;exact⟨ret_bool jv,jz⟩
end Go.Proofs.YtpnabjopfpdkhaaGreatDoor
namespace Go.Proofs.YtpnabjopfpdkhaaGreatDoor
open Tryz RowKit
variable {W w w':World} {H c k n:Nat} {nv:Value} {ns:List Nd} {fi:Int} {g:Nat->Nat}
attribute [go_sem] more_more Array.size_append
structure CkSt (W:World) (c H:Nat) (nv:Value) (ns:List Nd) (fi:Int) (n:Nat) (g:Nat->Nat) (w:World):Prop where
 ext:Ext W w
 cell:w.heap[c]?=some (.cells #[nv,.int .i64 fi,.slice (some ⟨H,0,none⟩) n n] 248 (0,0))
 had:w.rowIs H 3 n (fun j=>.int .i64 (g j:Int))
 row:w.ownsRow 0 166 8 nv n (qac ns)
 base:W.heap.size<=H/\H≠c/\nv.ownBlock≠some H/\ns.length=n
def CkSt.of_ext (h:CkSt W c H nv ns fi n g w) (hx:Ext w w'):CkSt W c H nv ns fi n g w' :=
 ⟨h.ext.trans hx,(hx.below.block _ (Array.getElem?_eq_some_iff.1 h.cell).1).trans h.cell,h.had.of_block (hx.below.block _ h.had.lt),own_ext h.row hx,h.base⟩
def CkSt.alloc (h:CkSt W c H nv ns fi n g w) (b:Obj):CkSt W c H nv ns fi n g (w.alloc b):=h.of_ext ((Ext.refl w).alloc b)
def CkSt.more (h:CkSt W c H nv ns fi n g w) (d:Nat) (os:Array Obj):CkSt W c H nv ns fi n g (more w d os):=h.of_ext ((Ext.refl w).more d os)
def CkSt.facts (h:CkSt W c H nv ns fi n g w) :
  w.cell? ⟨c,0,none⟩=some nv/\w.cell? ⟨c,1,none⟩=some (.int .i64 fi)/\w.cell? ⟨c,2,none⟩=some (.slice (some ⟨H,0,none⟩) n n)/\c<w.heap.size/\H<w.heap.size:=by
 have h1:=h.cell;refine ⟨?_,?_,?_,(Array.getElem?_eq_some_iff.1 h1).1,h.had.lt⟩<;>simp[World.cell?,h1]
def CkSt.set (h:CkSt W c H nv ns fi n g w) (k:Nat) (v:Int) (g':Nat->Nat) (hg:∀ j,(g' j:Int)=if j=k then v else(g j:Int)) :
  CkSt W c H nv ns fi n g' (w.setCell ⟨H,k,none⟩ (.int .i64 v)):=by
 obtain⟨b1,b2,b4,b5⟩:=h.base;refine ⟨h.ext.setCell b1 _,by rw[heap_set_other _ _ _ _ _ (Ne.symm b2)];exact h.cell,(h.had.set k _).congr fun j _=>?_,?_,h.base⟩
 . rw[hg j];split<;>rfl
 . exact own_block h.row fun j hj _=>heap_set_other _ _ _ _ _ (fun e=>b4 (by rw[<-e];exact hj))
def CkSt.congr {g':Nat->Nat} (h:CkSt W c H nv ns fi n g w) (e:∀ j,j<n->g j=g' j):CkSt W c H nv ns fi n g' w :=
 ⟨h.ext,h.cell,h.had.congr fun j hj=>by rw[e j hj],h.row,h.base⟩
def Fr (H:Nat) (w w':World):Prop:=∀ q,q<w.heap.size->q≠H->w'.heap[q]?=w.heap[q]?
def Fr.refl (H:Nat) (w:World):Fr H w w:=fun _ _ _=>rfl
def KB (k:Nat) (cs:Array Value) (T:TypeId) (w:World):Prop:=w.heap[k]?=some (.cells cs T (0,0))
def KB.lt {cs:Array Value} {T:TypeId} (h:KB k cs T w):k<w.heap.size:=(Array.getElem?_eq_some_iff.1 h).1
def KB.kept {cs:Array Value} {T:TypeId} (h:KB k cs T w) (hf:Fr H w w') (hn:k≠H):KB k cs T w':=(hf k h.lt hn).trans h
def KB.of_ext {cs:Array Value} {T:TypeId} (h:KB k cs T w) (hx:Ext w w'):KB k cs T w':=(hx.below.block _ h.lt).trans h
def KB.new (w:World) (cs:Array Value) (T:TypeId):KB w.heap.size cs T (w.alloc (.cells cs T (0,0))):=heap_alloc_new _ _
def KB.cell {cs:Array Value} {T:TypeId} (h:KB k cs T w) (j:Nat) (v:Value) (hj:cs[j]?=some v):w.cell? ⟨k,j,none⟩=some v:=by
 unfold KB at h;simp[World.cell?,h,hj]
def qcD (ns:List Nd) (k:Int):Int:=match ns[k.toNat]? with | some z=>z.k | none=>0
def qam (ns:List Nd) (k f t:Int) (st:Bool):Bool:=decide (f<=k)&&decide (k<t)&&(st==decide (20<=qcD ns k))
def blkB (ns:List Nd) (k i:Int):Bool:=k==-1||qam ns k 0 i true
def pone (a k:Int):Nat:=if a=k then 1 else 0
def addB (A:Bool) (k:Int) (g:Nat->Nat):Nat->Nat:=fun j=>g j+if A=true then pone k j else 0
def qgM (A:Bool) (k:Int) (g:Nat->Nat) (j m:Nat) (h:g j<=m):addB A k g j<=m+1:=by
 unfold addB pone;split<;>(try split)<;>omega
def qcK (h:CkSt W c H nv ns fi n g w) (k f t:Int) (st:Bool) (h0:0<=f) (ht:t<=(n:Int)) (hb:∀ j,j<n->g j<=9000) :
  Calls prog 200 #[.pointer (some ⟨c,0,none⟩),.int .i64 k,.int .i64 f,.int .i64 t,.bool st] w fun e w'=>e=.returned (.bool (qam ns k f t st))/\CkSt W c H nv ns fi n (addB (qam ns k f t st) k g) w'/\Fr H w w':=by
 have HS:=J h;have HC0:=J (h.congr (g':=addB false k g) fun j _=>by simp[addB]);obtain⟨c0,c1,c2,lc,lH⟩:=h.facts;by_cases hf:f<=k;rotate_left
 . have hr:qam ns k f t st=false:=by unfold qam;rw[decide_eq_false hf];rfl
   rw[hr];have q1:k<f:=Y;clear h hb c0 c1 c2 hf hr h0 ht;go_enter func200,ntmps200;go_wp2_with fail;go_ret;exact⟨rfl,HC0.out,Fr.refl _ _⟩
 by_cases hk:k<t;rotate_left
 . have hr:qam ns k f t st=false:=by unfold qam;rw[decide_eq_false hk];simp
   rw[hr];have q1:f<=k:=hf;have q2:t<=k:=Y;clear h hb c0 c1 c2 hf hr h0 ht hk;go_enter func200,ntmps200;go_wp2_with fail;go_ret;exact⟨rfl,HC0.out,Fr.refl _ _⟩
 obtain⟨j,rfl⟩:∃ j:Nat,k=(j:Int):=⟨k.toNat,Y⟩
 have hj:j<n:=Y;obtain⟨z,hz⟩:∃ z,ns[j]?=some z:=⟨_,List.getElem?_eq_getElem (by rw[h.base.2.2.2];exact hj)⟩
 have hp:∃ G cap,nv=.slice (some ⟨G,0,none⟩) n cap:=by
  rcases Go.Joins.ownsRow_forms h.row with ⟨_,h0⟩ | ⟨g1,c1,h0⟩
  . omega
  . exact⟨g1,c1,h0⟩
 obtain⟨G,cap,rfl⟩:=hp;have a0:=(nd_at h.row hz).1;have hG:=(h.row.lt G rfl).2;have hkd:qcD ns (j:Int)=z.k:=by unfold qcD;rw[show((j:Int)).toNat=j from rfl,hz]
 obtain⟨zk,hzk⟩:∃ zk,z.k=zk:=⟨_,rfl⟩
 rw[hzk] at a0 hkd;have hr:qam ns (j:Int) f t st=(st==decide (20<=zk)):=by unfold qam;rw[decide_eq_true hf,decide_eq_true hk,hkd];simp
 rw[hr];have hc:=h.had.cell hj;have hfz:=h.had.frozen j;have hgj:(g j:Int)<=9000:=by have:=hb j hj;omega
 have hgj0:0<=(g j:Int):=Y;obtain⟨q,hq⟩:∃ q:Nat,g j=q:=⟨_,rfl⟩
 have HQ:=J hq;simp only[hq] at hc hgj hgj0;have hj0:0<=(j:Int):=Y;have hjn:(j:Int)<(n:Int):=Y;clear h hb hq hj hz hzk hkd hr c1 ht h0;cases st<;>by_cases hz20:20<=zk
 . rw[decide_eq_true hz20,show((false:Bool)==true)=false from rfl];go_enter func200,ntmps200;go_wp2_with fail;go_ret;exact⟨rfl,HC0.out,Fr.refl _ _⟩
 . rw[decide_eq_false hz20,show((false:Bool)==false)=true from rfl];have hz2:zk<20:=Y;clear hz20;go_enter func200,ntmps200;go_wp2_with fail;go_ret;refine ⟨rfl,HS.out.set j _ _ fun i=>?_,fun q _ hq=>heap_set_other _ _ _ _ _ hq⟩;unfold addB pone;rw[if_pos rfl];by_cases e:i=j
   . subst e;rw[if_pos rfl,if_pos rfl,HQ.out];omega
   . rw[if_neg e,if_neg Y];rfl
 . rw[decide_eq_true hz20,show((true:Bool)==true)=true from rfl];go_enter func200,ntmps200;go_wp2_with fail;go_ret;refine ⟨rfl,HS.out.set j _ _ fun i=>?_,fun q _ hq=>heap_set_other _ _ _ _ _ hq⟩;unfold addB pone;rw[if_pos rfl];by_cases e:i=j
   . subst e;rw[if_pos rfl,if_pos rfl,HQ.out];omega
   . rw[if_neg e,if_neg Y];rfl
 . rw[decide_eq_false hz20,show((true:Bool)==false)=false from rfl];have hzd:decide (20<=zk)=false:=decide_eq_false hz20;have hz2:zk<20:=Y;clear hz20;go_enter func200,ntmps200;go_wp2_with fail;go_ret;exact⟨rfl,HC0.out,Fr.refl _ _⟩
def qdL (h:CkSt W c H nv ns fi n g w) (k i:Int) (ht:i<=(n:Int)) (hb:∀ j,j<n->g j<=9000) :
  Calls prog 170 #[.pointer (some ⟨c,0,none⟩),.int .i64 k,.int .i64 i] w fun e w'=>e=.returned (.bool (blkB ns k i))/\CkSt W c H nv ns fi n (addB (blkB ns k i) k g) w'/\Fr H w w':=by
 by_cases hk:k=-1
 . subst hk;have HC0:=J (h.congr (g':=addB true (-1) g) fun j _=>by unfold addB pone;rw[if_pos rfl,if_neg Y];rfl);rw[show blkB ns (-1) i=true from rfl];clear h hb ht;go_enter func170,ntmps170;go_wp2_with fail;go_ret;exact⟨rfl,HC0.out,Fr.refl _ _⟩
 . have T:=J (qcK h k 0 i true Y ht hb);rw[show blkB ns k i=qam ns k 0 i true from by unfold blkB;rw[show(k==-1)=false from by simpa using hk];rfl];obtain⟨A,hA⟩:∃ A,qam ns k 0 i true=A:=⟨_,rfl⟩
   rw[hA] at T ⊢;have q:(k==-1)=false:=by simpa using hk
   clear h hb ht hA hk;go_enter func170,ntmps170
   go_wp2_with (((with_reducible refine T.out.mono ?_);rintro e' w1 ⟨rfl,h1,h2⟩;have H1:=J h1;have H2:=J h2;clear h1 h2))
   go_ret;exact⟨rfl,H1.out,H2.out⟩
end Go.Proofs.YtpnabjopfpdkhaaGreatDoor
