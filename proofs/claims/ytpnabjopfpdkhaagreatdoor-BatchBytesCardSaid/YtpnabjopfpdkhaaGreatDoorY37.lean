/- Lemmas. -/
import Derived.Test.YtpnabjopfpdkhaaGreatDoorY35
import Derived.Lib.ConvBytes
import Derived.Laws.CopyOwn
import Derived.Great.BuildSlice
import Derived.Deep.RegionHeld3
import Derived.Deep.MidRow
set_option linter.all false
set_option maxHeartbeats 4000000
set_option maxRecDepth 20000
namespace Go.Proofs.YtpnabjopfpdkhaaGreatDoor
open Tryz RowKit
variable {w w':World} {N k:Nat} {v:Value} {bs:Nat->Nat} {a b c:Int}
attribute [go_sem] more_more Array.size_append
def upd {α:Type} (f:Nat->α) (k:Nat) (x:α):Nat->α:=fun j=>if j=k then x else f j
def nilV:Nat->Value:=fun _=>.slice none 0 0
def zeroV:Nat->Int:=fun _=>0
def trC_set (v:Nat->Value) (V:Nat->Int) (k:Nat) (hk:k<16) (x:Value):(trC v V).setIfInBounds k x=trC (upd v k x) V:=by
 match k,hk with
 | 0,_=>rfl
 | 1,_=>rfl
 | 2,_=>rfl
 | 3,_=>rfl
 | 4,_=>rfl
 | 5,_=>rfl
 | 6,_=>rfl
 | 7,_=>rfl
 | 8,_=>rfl
 | 9,_=>rfl
 | 10,_=>rfl
 | 11,_=>rfl
 | 12,_=>rfl
 | 13,_=>rfl
 | 14,_=>rfl
 | 15,_=>rfl
 | k+16,h=>exact absurd h Y
def TrBlk.setLeaf {v:Nat->Value} {V:Nat->Int} (h:TrBlk w N v V) (k:Nat) (hk:k<16) (x:Value):TrBlk (w.setCell ⟨N,k,none⟩ x) N (upd v k x) V:=by
 unfold TrBlk at h ⊢;rw[<-trC_set v V k hk x];simp[World.setCell,Array.getElem?_modify,h]
def TrBlk.frozen {v:Nat->Value} {V:Nat->Int} (h:TrBlk w N v V) (j:Nat):w.frozen? ⟨N,j,none⟩=false:=by
 unfold TrBlk at h;simp[World.frozen?,h]
def TrBlk.other {v:Nat->Value} {V:Nat->Int} (h:TrBlk w N v V) {M i:Nat} (hne:N≠M) (x:Value):TrBlk (w.setCell ⟨M,i,none⟩ x) N v V:=by
 unfold TrBlk at h ⊢;rw[Go.Deep.blk_setCell_other _ _ _ _ hne];exact h
def own_lf {base n:Nat} {l:List It} (h:w.ownsRow base 154 5 v n (qaE l)) (hn:l.length=n) (ho:∀ x∈l,ItOk x):∃ b,LfAt w b v l/\(0<l.length->∃ cur fz,w.heap[b]?=some (.cells cur 154 fz))/\(0<l.length->base<=b):=by
 rcases h.2 with ⟨rfl,h0⟩ | ⟨g,cap,cur,rfl,hb,hh,hc,hcm,_⟩
 . have hl:l=[]:=List.eq_nil_of_length_eq_zero Y;subst hl;exact⟨0,LfAt.nil _ _,fun q=>by simp at q,fun q=>by simp at q⟩
 . subst hn;refine ⟨g,⟨ho,_,cap,rfl,hc,fun _=>⟨0,rfl,fun j x hj=>?_⟩⟩,fun _=>⟨cur,_,hh⟩,fun _=>hb⟩;obtain⟨g0,g1,g2,g3,g4⟩:=qeM l j x hj;have h0:=h.cells (g:=g) rfl _ _ g0;have h1:=h.cells (g:=g) rfl _ _ g1;have h2:=h.cells (g:=g) rfl _ _ g2;have h3:=h.cells (g:=g) rfl _ _ g3;have h4:=h.cells (g:=g) rfl _ _ g4;simp only[Addr.add_lit,Nat.zero_add,Nat.add_zero] at h0 h1 h2 h3 h4 ⊢;exact⟨h0,h1,h2,h3,h4⟩
def results_cellY {fn:Func} {p:Tmp} {ty:TypeId} (h:fn.results=#[.cell p ty]) (tmps:Array Value) (w:World) (a:Addr) (r:Value)
  (hp:tmps.getD p undef=.pointer (some a)) (hl:(loadVar ty a).run prog w=.ok r w) :
  (results fn tmps).run prog w=.ok r w:=by
 have hp':tmps[p]?.getD undef=.pointer (some a):=by simpa using hp
 simp[results,h,hp',asAddr,hl]
def tr_load {v:Nat->Value} {V:Nat->Int} (h:TrBlk w N v V):(loadVar 63 ⟨N,0,none⟩).run prog w=.ok (.agg (trC v V)) w :=
 run_loadVar_row w N 63 63 (trC v V) (0,0) _ h underlying63 rfl zv
def TrBlk.setRow {v:Nat->Value} {V:Nat->Int} (h:TrBlk w N v V) (v':Nat->Value) (V':Nat->Int):TrBlk (w.setRow N (trC v' V')) N v' V':=setRow_heap w N _ _ _ _ h
def trC_one (v:Nat->Value) (V:Nat->Int) (h:∀ k,k<16->(v k).oneCell'=true):(trC v V).all (·.oneCell')=true:=by
 rw[Array.all_eq_true'];intro x hx;simp only[trC,Array.mem_def,List.mem_cons,List.not_mem_nil,or_false] at hx;rcases hx with rfl | rfl | rfl | rfl | rfl | rfl | rfl | rfl | rfl | rfl | rfl | rfl | rfl | rfl | rfl | rfl | rfl | rfl | rfl | rfl | rfl | rfl | rfl | rfl | rfl | rfl | rfl | rfl | rfl | rfl | rfl | rfl
 all_goals first | (exact h _ zw) | rfl
structure ItIn (x:It):Prop where
 k:x.k.size<=140737488351232
 vs:x.vs.size<=140737488351232
 vk:In64I x.vk
 vi:In64I x.vi
 ver:In64I x.ver
def LfIn (w:World) (b:Nat) (v:Value) (l:List It):Prop :=
 (∀ x∈l,ItIn x)/\l.length<=140737488351232/\∃ p cap,v=.slice p l.length cap/\l.length<=cap/\(0<l.length->∃ off,p=some ⟨b,off,none⟩/\ItsAt w b off l)
def LfIn.ext {b:Nat} {l:List It} (h:LfIn w b v l) (hx:Ext w w'):LfIn w' b v l:=by
 obtain⟨h0,h00,p,cap,h1,h2,h3⟩:=h;exact⟨h0,h00,p,cap,h1,h2,fun hl=>by obtain⟨off,e,hi⟩:=h3 hl;exact⟨off,e,hi.ext hx⟩⟩
def cutS (n:Nat) (s:ByteArray):ByteArray:=if n<s.size then s.extract 0 n else s
def cutS_le (n:Nat) (s:ByteArray):(cutS n s).size<=n:=by
 unfold cutS;split
 . simp;omega
 . omega
def oneFY (x:It):It:=⟨cutS 60 x.k,x.vk,x.vi,cutS 200 x.vs,x.ver⟩
def oneF_ok {x:It} (h:ItIn x):ItOk (oneFY x):=⟨Nat.le_trans (cutS_le 60 _) zw,Nat.le_trans (cutS_le 200 _) zw,h.vk,h.vi,h.ver⟩
def fewF (l:List It):List It:=(l.take 66).map oneFY
def fewF_ok {l:List It} (h:∀ x∈l,ItIn x):∀ x∈fewF l,ItOk x:=by
 intro x hx;unfold fewF at hx;obtain⟨y,hy,rfl⟩:=List.mem_map.1 hx;exact oneF_ok (h y (List.mem_of_mem_take hy))
def short_any (s:ByteArray) (hm:s.size<=140737488351232) (w:World):Calls prog 107 #[.string s] w fun e w'=>e=.returned (.string (cutS 60 s))/\w=w':=by
 unfold cutS;by_cases h:60<s.size
 . have hI:(60:Int)<s.size:=Y;have hI2:(60:Int)<=s.size:=Y;rw[if_pos h];go_enter func107,ntmps107;go_wp2_with fail;go_ret;exact⟨rfl,rfl⟩
 . have hI:¬ ((60:Int)<s.size):=Y;rw[if_neg h];go_enter func107,ntmps107;go_wp2_with fail;go_ret;exact⟨rfl,rfl⟩
def one_anyY (x:It) (hx:ItIn x) (w:World):Calls prog 94 #[itV x] w fun e w'=>e=.returned (itV (oneFY x))/\Ext w w':=by
 have SC:=J fun W=>short_any x.k hx.k W
 have hm:=hx.vs;unfold oneFY;obtain⟨xk,xvk,xvi,xvs,xver⟩:=x;dsimp only at SC hm ⊢;unfold itV;obtain⟨ck,hck⟩:∃ ck,cutS 60 xk=ck:=⟨_,rfl⟩
 rw[hck] at SC;dsimp only;rw[hck];clear hck hx;unfold cutS;by_cases h:200<xvs.size
 . have hI:(200:Int)<xvs.size:=Y;have hI2:(200:Int)<=xvs.size:=Y;rw[if_pos h];go_enter func94,ntmps94
   go_wp2_with (go_at_call 107;refine (SC.out _).mono ?_;rintro e _ ⟨rfl,rfl⟩)
   refine bodyPost_ret (v:=.agg #[.string ck,.int .i64 xvk,.int .i64 xvi,.string (xvs.extract 0 200),.int .i64 xver]) (by simp[results,results94,go_sem]) rfl ⟨rfl,?_⟩;exact((Ext.refl _).alloc _).alloc _
 . have hI:¬ ((200:Int)<xvs.size):=Y;rw[if_neg h];go_enter func94,ntmps94
   go_wp2_with (go_at_call 107;refine (SC.out _).mono ?_;rintro e _ ⟨rfl,rfl⟩)
   refine bodyPost_ret (v:=.agg #[.string ck,.int .i64 xvk,.int .i64 xvi,.string xvs,.int .i64 xver]) (by simp[results,results94,go_sem]) rfl ⟨rfl,?_⟩;exact((Ext.refl _).alloc _).alloc _
def items_core {w0:World} (b:Nat) (p:Option Addr) (n cap:Nat) (l:List It) (hn:l.length=n) (h0:∀ x∈l,ItIn x) (hm:n<=140737488351232) (hcap:n<=cap) (hp:0<n->∃ off,p=some ⟨b,off,none⟩/\ItsAt w0 b off l) (n':Nat) (hn':n'=min n 66) (w:World) (hw:w0=w) :
  Calls prog 82 #[.slice p n cap] w fun e w'=>∃ v',e=.returned v'/\w'.ownsRow w.heap.size 154 5 v' n' (qaE (fewF l))/\Ext w w':=by
 subst hw;obtain⟨i1,hi1,hy0,hy1,hy2⟩:=info_parts itInfo;have HN:=J hn;have HO:=J h0;have HP:=J hp;have HN':=J hn';have hn66:n'<=66:=Y;have hnn:n'<=n:=Y;have hnI:(n':Int)<=66:=Y;clear hn h0 hp;have key:∀ (_:True),True:=fun _=>trivial
 by_cases h66:66<n
 . have hI:(66:Int)<n:=Y;have hI2:(66:Int)<=cap:=Y;obtain rfl:n'=66:=by omega
   clear hn' key;go_enter func82,ntmps82;go_wp2_with fail;go_loopw [3,4] (fun out ii wr=>∃ (k:Nat),ii=.int .i64 (k:Int)/\k<=66/\Hid (wr.ownsRow w0.heap.size 154 5 out k (qaE ((l.map oneFY).take k))/\Ext w0 wr)) (fun _ ii _=>66-(intOf ii).toNat)
   case atStart=>exact⟨0,rfl,Nat.zero_le _,J ⟨World.ownsRow_nil _ _ _ _,Ext.refl _⟩⟩
   case round =>
    obtain⟨k,rfl,hk,hH⟩:=hrel;have HEX:=J hH.out.2;by_cases hlt:k<66
    . obtain⟨x,hx⟩:=get_at HN.out (show k<n by omega);obtain⟨off,rfl,hi⟩:=HP.out Y;obtain⟨a0,a1,a2,a3,a4⟩:=(hi.ext HEX.out) k x hx;have hg:=rcell_lt a0;have hxi:=HO.out x (List.mem_of_getElem? hx);have OC:=J fun W=>one_anyY x hxi W
      unfold itV at OC;have hkI:(k:Int)<66:=Y;have hk0:(0:Int)<=(k:Int):=Y;have HX:=J hx;clear hx hi hxi
      go_wp2_with (first
       | (go_at_call 94;refine (OC.out _).mono ?_;rintro e _ ⟨rfl,d1,os1,rfl⟩)
       | (at_builtin;refine wpList_append_own_at _ rfl _ _ 59 rfl w0.heap.size 154 i1 (.agg #[.string ⟨#[]⟩,.int .i64 0,.int .i64 0,.string ⟨#[]⟩,.int .i64 0]) 5 56 underlying59 hi1 hy0 hy1 hy2 rfl zw _ k (qaE ((l.map oneFY).take k)) rfl ((own_more hH.out.1 d1 os1).alloc _) ⟨wr.heap.size+os1.size,0,none⟩ 1 1 (itL (oneFY x)) rfl rfl ?c1 ?c2 ?c3 ?c4 ?c5 ?_))
      case c1=>exact news_it jf
      case c2=>intro u hu;simp[itL] at hu;rcases hu with rfl | rfl | rfl | rfl | rfl<;>rfl
      case c3=>unfold maxLen;omega
      case c4=>omega
      case c5=>have:=HEX.out.size;simp[more_size];omega
      intro v' w1 hown' hgrow' _ _;have HX1:Hid (Ext w0 w1):=J (((HEX.out.more d1 os1).alloc _).grown hgrow' (fun k hk=>(hH.out.1.lt k hk).1));have HO1:=J hown';clear hown' hgrow';go_wp2_with fail;go_roundw
      case rel =>
       refine ⟨k+1,by go_num,Y,J ⟨?_,HX1.out⟩⟩;rw[show(l.map oneFY).take (k+1)=(l.map oneFY).take k++[oneFY x] by rw[List.take_add_one];simp[HX.out],qct];exact HO1.out
      case measure=>simp[intOf];omega
    . have hks:k=66:=Y;subst hks
      have HFF:=J (show fewF l=(l.map oneFY).take 66 by
       unfold fewF
       rw[List.map_take])
      go_wp2_with fail;go_ret;refine ⟨_,rfl,?_,HEX.out⟩;rw[HFF.out];exact hH.out.1
 . have hI:¬ ((66:Int)<n):=Y;obtain rfl:n'=n:=by omega
   clear hn' key;go_enter func82,ntmps82;go_wp2_with fail;go_loopw [3,4] (fun out ii wr=>∃ (k:Nat),ii=.int .i64 (k:Int)/\k<=n'/\Hid (wr.ownsRow w0.heap.size 154 5 out k (qaE ((l.map oneFY).take k))/\Ext w0 wr)) (fun _ ii _=>n'-(intOf ii).toNat)
   case atStart=>exact⟨0,rfl,Nat.zero_le _,J ⟨World.ownsRow_nil _ _ _ _,Ext.refl _⟩⟩
   case round =>
    obtain⟨k,rfl,hk,hH⟩:=hrel;have HEX:=J hH.out.2;by_cases hlt:k<n'
    . obtain⟨x,hx⟩:=get_at HN.out (show k<n' by omega);obtain⟨off,rfl,hi⟩:=HP.out Y;obtain⟨a0,a1,a2,a3,a4⟩:=(hi.ext HEX.out) k x hx;have hg:=rcell_lt a0;have hxi:=HO.out x (List.mem_of_getElem? hx);have OC:=J fun W=>one_anyY x hxi W
      unfold itV at OC;have hkI:(k:Int)<(n':Int):=Y;have hk0:(0:Int)<=(k:Int):=Y;have HX:=J hx;clear hx hi hxi
      go_wp2_with (first
       | (go_at_call 94;refine (OC.out _).mono ?_;rintro e _ ⟨rfl,d1,os1,rfl⟩)
       | (at_builtin;refine wpList_append_own_at _ rfl _ _ 59 rfl w0.heap.size 154 i1 (.agg #[.string ⟨#[]⟩,.int .i64 0,.int .i64 0,.string ⟨#[]⟩,.int .i64 0]) 5 56 underlying59 hi1 hy0 hy1 hy2 rfl zw _ k (qaE ((l.map oneFY).take k)) rfl ((own_more hH.out.1 d1 os1).alloc _) ⟨wr.heap.size+os1.size,0,none⟩ 1 1 (itL (oneFY x)) rfl rfl ?c1 ?c2 ?c3 ?c4 ?c5 ?_))
      case c1=>exact news_it jf
      case c2=>intro u hu;simp[itL] at hu;rcases hu with rfl | rfl | rfl | rfl | rfl<;>rfl
      case c3=>unfold maxLen;omega
      case c4=>omega
      case c5=>have:=HEX.out.size;simp[more_size];omega
      intro v' w1 hown' hgrow' _ _;have HX1:Hid (Ext w0 w1):=J (((HEX.out.more d1 os1).alloc _).grown hgrow' (fun k hk=>(hH.out.1.lt k hk).1));have HO1:=J hown';clear hown' hgrow';go_wp2_with fail;go_roundw
      case rel =>
       refine ⟨k+1,by go_num,Y,J ⟨?_,HX1.out⟩⟩;rw[show(l.map oneFY).take (k+1)=(l.map oneFY).take k++[oneFY x] by rw[List.take_add_one];simp[HX.out],qct];exact HO1.out
      case measure=>simp[intOf];omega
    . have hks:k=n':=Y;subst hks
      have HFF:=J (show fewF l=(l.map oneFY).take k by
       unfold fewF
       rw[List.take_of_length_le jj,List.take_of_length_le (by have:=HN.out;simp;omega)])
      go_wp2_with fail;go_ret;refine ⟨_,rfl,?_,HEX.out⟩;rw[HFF.out];exact hH.out.1
def items_any (b:Nat) (v:Value) (l:List It) (w:World) (h:LfIn w b v l):Calls prog 82 #[v] w fun e w'=>∃ v',e=.returned v'/\w'.ownsRow w.heap.size 154 5 v' (fewF l).length (qaE (fewF l))/\Ext w w':=by
 obtain⟨h0,hm,p,cap,rfl,hcap,hp⟩:=h;exact items_core b p l.length cap l rfl h0 hm hcap hp _ (by unfold fewF;simp;omega) w rfl
def LvsTo (k:Nat) (w:World) (bs:Nat->Nat) (v:Nat->Value) (T:Nat->List It):Prop:=∀ j,j<k->LfAt w (bs j) (v j) (T j)/\(0<(T j).length->∃ cur fz,w.heap[bs j]?=some (.cells cur 154 fz))
def LvsTo.ext {v:Nat->Value} {T:Nat->List It} (h:LvsTo k w bs v T) (hx:Ext w w'):LvsTo k w' bs v T:=fun j hj=>⟨(h j hj).1.ext hx,fun hl=>by
 obtain⟨cur,fz,hc⟩:=(h j hj).2 hl
 exact⟨cur,fz,by rw[hx.below.block _ (qbc hc)];exact hc⟩⟩
def LvsTo.other {v:Nat->Value} {T:Nat->List It} (h:LvsTo k w bs v T) {M i:Nat} {v2:Nat->Value} {V2:Nat->Int} (hM:TrBlk w M v2 V2) (x:Value):LvsTo k (w.setCell ⟨M,i,none⟩ x) bs v T:=fun j hj=>by
 have hne:0<(T j).length->bs j≠M:=fun hl e=>by
  obtain⟨cur,fz,hc⟩:=(h j hj).2 hl;unfold TrBlk at hM;rw[e,hM] at hc;simp at hc
 refine ⟨(h j hj).1.of_block fun hl=>Go.Deep.blk_setCell_other _ _ _ _ (hne hl),fun hl=>?_⟩;obtain⟨cur,fz,hc⟩:=(h j hj).2 hl;exact⟨cur,fz,by rw[Go.Deep.blk_setCell_other _ _ _ _ (hne hl)];exact hc⟩
def LvsTo.otherRow {v:Nat->Value} {T:Nat->List It} (h:LvsTo k w bs v T) {M:Nat} {v2:Nat->Value} {V2:Nat->Int} (hM:TrBlk w M v2 V2) (x:Array Value):LvsTo k (w.setRow M x) bs v T:=fun j hj=>by
 have hne:0<(T j).length->bs j≠M:=fun hl e=>by
  obtain⟨cur,fz,hc⟩:=(h j hj).2 hl;unfold TrBlk at hM;rw[e,hM] at hc;simp at hc
 refine ⟨(h j hj).1.of_block fun hl=>setRow_other _ _ _ _ (hne hl),fun hl=>?_⟩;obtain⟨cur,fz,hc⟩:=(h j hj).2 hl;exact⟨cur,fz,by rw[setRow_other _ _ _ _ (hne hl)];exact hc⟩
def LvsTo.snoc {b:Nat} {v:Nat->Value} {T:Nat->List It} {x:Value} (h:LvsTo k w bs v T) (h1:LfAt w b x (T k)) (h2:0<(T k).length->∃ cur fz,w.heap[b]?=some (.cells cur 154 fz)):LvsTo (k+1) w (upd bs k b) (upd v k x) T:=fun j hj=>by
 unfold upd;by_cases e:j=k
 . rw[if_pos e,if_pos e,e];exact⟨h1,h2⟩
 . rw[if_neg e,if_neg e];exact h j Y
def LvsTo.all {v:Nat->Value} {T:Nat->List It} (h:LvsTo 16 w bs v T):LvsAt w bs v T/\LvTy w bs T:=⟨fun k hk=>(h k hk).1,fun k hk hl=>(h k hk).2 hl⟩
def LvsAt.one {v:Nat->Value} {T:Nat->List It} (h:LvsAt w bs v T):∀ k,k<16->(v k).oneCell'=true:=fun k hk=>by
 obtain⟨_,p,cap,e,_⟩:=h k hk;rw[e];rfl
def own_sl {base n size:Nat} {e:TypeId} {xs:List Value} (h:w.ownsRow base e size v n xs):∃ p c,v=.slice p n c:=by
 rcases Go.Joins.ownsRow_forms h with ⟨rfl,h0⟩ | ⟨g1,c,rfl⟩
 . exact⟨none,0,by rw[h0]⟩
 . exact⟨_,_,rfl⟩
def TrunkPost (w w':World) (e:Ending) (T:Nat->List It) (V:Nat->Int):Prop :=
 ∃ bs v,e=.returned (.agg (trC v V))/\LvsAt w' bs v T/\LvTy w' bs T/\Ext w w'
def few_any (bs:Nat->Nat) (v:Nat->Value) (T:Nat->List It) (V:Nat->Int) (w:World) (h:∀ k,k<16->LfIn w (bs k) (v k) (T k)) :
  Calls prog 69 #[.agg (trC v V)] w fun e w'=>TrunkPost w w' e (fun k=>fewF (T k)) V:=by
 have HL:=J h;clear h;unfold trC;go_enter func69,ntmps69;go_wp2_with fail;obtain⟨N,hN⟩:∃ N,w.heap.size=N:=⟨_,rfl⟩
 have HN:=J hN;go_loopw [3] (fun ii wr=>∃ (k:Nat) (bs':Nat->Nat) (v':Nat->Value),ii=.int .i64 (k:Int)/\k<=16/\Hid (TrBlk wr N v' V/\TrBlk wr (N+1) nilV zeroV/\LvsTo k wr bs' v' (fun k=>fewF (T k))/\(∀ j,k<=j->v' j=v j)/\Ext w wr)) (fun ii _=>16-(intOf ii).toNat)
 case atStart =>
  refine ⟨0,bs,v,rfl,Nat.zero_le _,J ⟨?_,?_,fun j hj=>absurd hj (Nat.not_lt_zero j),fun j _=>rfl,((Ext.refl _).alloc _).alloc _⟩⟩
  . unfold TrBlk;rw[<-hN];exact(heap_alloc_old _ _ zy).trans (heap_alloc_new w _)
  . unfold TrBlk;rw[<-hN];have:=heap_alloc_new (w.alloc (.cells (trC v V) 63)) (.cells (trC nilV zeroV) 63);rw[World.size_alloc] at this;exact this
 case round =>
  obtain⟨k,bs',v',rfl,hk16,hH⟩:=hrel;have HEX:=J hH.out.2.2.2.2;rw[hN];have hNw:N<wr.heap.size:=qbc hH.out.1;by_cases hk:k<16
  . have IC:=J fun (W:World) (hx:Ext w W)=>items_any (bs k) (v k) (T k) W ((HL.out k hk).ext hx)
    have hcl:=hH.out.1.leaf k hk;rw[hH.out.2.2.2.1 k (Nat.le_refl _)] at hcl;have hfz:=hH.out.1.frozen k;have hkI:(k:Int)<16:=Y;have hk0:(0:Int)<=(k:Int):=Y;clear hN
    go_wp2_with (go_at_call 82;refine (IC.out _ HEX.out).mono ?_;rintro e w1 ⟨lv,rfl,hown,hx⟩;obtain⟨p1,c1,rfl⟩:=own_sl hown;have HO:=J (own_lf hown rfl (fewF_ok (HL.out k hk).1));have HX:=J hx;obtain⟨d1,os1,rfl⟩:=hx;clear hown)
    go_roundw
    case rel =>
     obtain⟨b1,h1,h2,_⟩:=HO.out;have hb1:=hH.out.1.ext HX.out;refine ⟨k+1,upd bs' k b1,upd v' k (.slice p1 (fewF (T k)).length c1),by go_num,Y,J ⟨?_,?_,?_,?_,?_⟩⟩
     . exact(more_setCell _ _ _ _ _ _ hNw) ▸ hb1.setLeaf k hk _
     . exact(more_setCell _ _ _ _ _ _ hNw) ▸ (hH.out.2.1.ext HX.out).other Y _
     . exact(more_setCell _ _ _ _ _ _ hNw) ▸ (((hH.out.2.2.1.ext HX.out).snoc (T:=fun k=>fewF (T k)) h1 h2).other hb1 _)
     . intro j hj;unfold upd;rw[if_neg Y];exact hH.out.2.2.2.1 j Y
     . exact(more_setCell _ _ _ _ _ _ hNw) ▸ (HEX.out.trans HX.out).setCell (by rw[HN.out];exact Nat.le_refl _) _
    case measure=>simp[intOf];omega
  . have hkn:k=16:=Y;subst hkn;have HLA:=J hH.out.2.2.1.all;have hb2:N+1<wr.heap.size:=qbc hH.out.2.1;clear hN
    go_wp2_with (first
     | (refine wpList_load_row rfl 63 _ rfl N rfl 63 (trC v' V) (0,0) _ hH.out.1 underlying63 rfl zv ?_)
     | (refine wpList_store_rowTo rfl 63 _ _ rfl rfl (N+1) (trC v' V) rfl rfl 63 (trC nilV zeroV) hH.out.2.1 zv rfl (trC_one v' V HLA.out.1.one) ?_))
    refine bodyPost_ret (v:=.agg (trC v' V)) (results_cellY rfl _ _ ⟨N+1,0,none⟩ _ rfl (tr_load (hH.out.2.1.setRow v' V))) rfl ⟨bs',v',rfl,?_,?_,HEX.out.setRow (by rw[HN.out];omega) _⟩
    . exact(hH.out.2.2.1.otherRow hH.out.2.1 _).all.1
    . exact(hH.out.2.2.1.otherRow hH.out.2.1 _).all.2
def StrsAt (w:World) (v:Value) (l:List ByteArray):Prop :=
 (∃ p cap,v=.slice p 0 cap/\l=[])\/∃ b off cap,v=.slice (some ⟨b,off,none⟩) l.length cap/\l.length<=cap/\∀ j u,l[j]?=some u->w.cell? ⟨b,off+j,none⟩=some (.string u)
def StrsAt.ext {l:List ByteArray} (h:StrsAt w v l) (hx:Ext w w'):StrsAt w' v l:=by
 rcases h with h | ⟨b,off,cap,h1,h2,h3⟩
 . exact Or.inl h
 . exact Or.inr ⟨b,off,cap,h1,h2,fun j u hj=>cell_ext (h3 j u hj) hx⟩
def stC (v:Nat->Value) (V:Nat->Int) (a b c:Int):Array Value:=#[v 0,v 1,v 2,v 3,v 4,v 5,v 6,v 7,v 8,v 9,v 10,v 11,v 12,v 13,v 14,v 15,.int .i64 (V 0),.int .i64 (V 1),.int .i64 (V 2),.int .i64 (V 3),.int .i64 (V 4),.int .i64 (V 5),.int .i64 (V 6),.int .i64 (V 7),.int .i64 (V 8),.int .i64 (V 9),.int .i64 (V 10),.int .i64 (V 11),.int .i64 (V 12),.int .i64 (V 13),.int .i64 (V 14),.int .i64 (V 15),.int .i64 a,.int .i64 b,.int .i64 c]
def StBlk (w:World) (N:Nat) (v:Nat->Value) (V:Nat->Int) (a b c:Int):Prop:=w.heap[N]?=some (.cells (stC v V a b c) 65 (0,0))
def StBlk.ext {v:Nat->Value} {V:Nat->Int} (h:StBlk w N v V a b c) (hx:Ext w w'):StBlk w' N v V a b c:=by
 unfold StBlk at h ⊢;rw[hx.below.block N (qbc h)];exact h
def stC_ext (v:Nat->Value) (V:Nat->Int) (a b c:Int):stC v V a b c=trC v V++#[.int .i64 a,.int .i64 b,.int .i64 c]:=rfl
def stC_tr (v:Nat->Value) (V:Nat->Int) (a b c:Int):∀ j u,(trC v V).toList[j]?=some u->(stC v V a b c)[0+j]?=some u:=by
 intro j u h;rw[Nat.zero_add,stC_ext,Array.getElem?_append,if_pos (by have:=(List.getElem?_eq_some_iff.1 h).1;simpa using this)];rw[<-Array.getElem?_toList];exact h
def StBlk.cell {v:Nat->Value} {V:Nat->Int} (h:StBlk w N v V a b c) (j:Nat):w.cell? ⟨N,j,none⟩=(stC v V a b c)[j]?:=cell_of_row w N j _ _ _ h
def qaR {P:Program} {ops:Array Oper} {rest:List Oper} {o:Oper} {a:Act} {Q:Exit->Act->World->Prop} (hgd:o.guard=none) (ty:TypeId) (x:Operand) (ho:o.op=.load ty x)
  (g off:Nat) (hx:a.eval x=.pointer (some ⟨g,off,none⟩)) (t:TypeId) (cs sub:Array Value) (fr:Nat × Nat) (d:TypeDesc) (hg:w.heap[g]?=some (.cells cs t fr))
  (hu:P.underlying ty=some d) (hd:(match d with | .struct _ | .array _ _=>true | _=>false)=true) (hi:(P.info? ty).map (·.size)=some sub.size) (hl:∀ j v,sub.toList[j]?=some v->cs[off+j]?=some v)
  (h:wpList P ops Q rest (a.put o.dst (.agg sub)) w):wpList P ops Q (o::rest) a w :=
 qei hgd ty x ho g off hx t cs sub.toList fr d hg hu hd (by simpa using hi) hl jx
def putC (C:Array Value):Nat->List Value->Array Value
 | _,[]=>C
 | o,v::r=>putC (C.setIfInBounds o v) (o+1) r
def qcz (g:Nat) (t:TypeId) (fr:Nat × Nat):∀ (vs:List Value) (o:Nat) (w:World) (C:Array Value),w.heap[g]?=some (.cells C t fr)->w.setCells g o vs=w.setRow g (putC C o vs)
 | [],o,w,C,h=>(setRow_self w g C t fr h).symm
 | v::r,o,w,C,h=>by
  unfold World.setCells;rw[setCell_eq_setRow w g o C t fr v h,qcz g t fr r (o+1) _ _ (setRow_heap w g C _ t fr h),setRow_setRow];rfl
def putC_st (v v':Nat->Value) (V:Nat->Int) (a b c:Int):putC (stC v V a b c) 0 (trC v' V).toList=stC v' V a b c:=by kernel_rfl
def st_there {v:Nat->Value} {V:Nat->Int} {W:World} (h:StBlk W N v V a b c):W.there N 0 32:=by
 intro j hj;refine ⟨?_,?_⟩
 . rw[Nat.zero_add,h.cell];have:j<(stC v V a b c).size:=Nat.lt_of_lt_of_le hj (by simp[stC]);rw[Array.getElem?_eq_getElem this];rfl
 . unfold StBlk at h;simp[World.frozen?,h]
def StBlk.setT {v v2:Nat->Value} {V V2:Nat->Int} {a2 b2 c2:Int} (h:StBlk w N v V a b c):StBlk (w.setRow N (stC v2 V2 a2 b2 c2)) N v2 V2 a2 b2 c2:=by
 unfold StBlk at h ⊢;exact setRow_heap w N _ _ _ _ h
def StBlk.otherRow {M:Nat} {v:Nat->Value} {V:Nat->Int} (h:StBlk w N v V a b c) (hne:N≠M) (x:Array Value):StBlk (w.setRow M x) N v V a b c:=by
 unfold StBlk at h ⊢;rw[setRow_other _ _ _ _ hne];exact h
def st_loadS {v:Nat->Value} {V:Nat->Int} (h:StBlk w N v V a b c):(loadVar 65 ⟨N,0,none⟩).run prog w=.ok (.agg (stC v V a b c)) w :=
 run_loadVar_row (P:=prog) w N 65 _ _ _ _ h underlying65 rfl zv
def stC_one (v:Nat->Value) (V:Nat->Int) (a b c:Int) (h:∀ k,k<16->(v k).oneCell'=true):(stC v V a b c).all (·.oneCell')=true:=by
 rw[stC_ext,Array.all_append,trC_one v V h];simp[Value.oneCell']
def LvsAt.rowT {v:Nat->Value} {T:Nat->List It} (h:LvsAt w bs v T) (hy:LvTy w bs T) {M:Nat} {C:Array Value} {t:TypeId} {fr:Nat × Nat} (hM:w.heap[M]?=some (.cells C t fr)) (ht:t≠154) (x:Array Value):LvsAt (w.setRow M x) bs v T/\LvTy (w.setRow M x) bs T:=by
 have hne:∀ j,j<16->0<(T j).length->bs j≠M:=fun j hj hl e=>by
  obtain⟨cur,fz,hc⟩:=hy j hj hl;rw[e,hM] at hc;simp at hc;exact ht hc.2.1
 refine ⟨fun j hj=>(h j hj).of_block fun hl=>setRow_other _ _ _ _ (hne j hj hl),fun j hj hl=>?_⟩;obtain⟨cur,fz,hc⟩:=hy j hj hl;exact⟨cur,fz,by rw[setRow_other _ _ _ _ (hne j hj hl)];exact hc⟩
def StorePost (w w':World) (e:Ending) (T:Nat->List It) (V:Nat->Int) (a b c:Int):Prop :=
 ∃ bs v,e=.returned (.agg (stC v V a b c))/\LvsAt w' bs v T/\LvTy w' bs T/\Ext w w'
def qaU {P:Program} {ops:Array Oper} {rest:List Oper} {op:Oper} {a:Act} {Q:Exit->Act->World->Prop} (hgd:op.guard=none) (ty:TypeId) (x y:Operand) (ho:op.op=.store ty x y)
  (g off:Nat) (cells C C':Array Value) (t:TypeId) (fr:Nat × Nat) (hx:a.eval x=.pointer (some ⟨g,off,none⟩)) (hy:a.eval y=.agg cells) (hg:w.heap[g]?=some (.cells C t fr))
  (ht:w.there g off cells.size) (hi:(P.info? ty).map (·.size)=some cells.size) (h1:cells.all (·.oneCell')=true) (hC:putC C off cells.toList=C')
  (h:wpList P ops Q rest (a.put op.dst undef) (w.setRow g C')):wpList P ops Q (op::rest) a w :=
 wpList_store_mid hgd ty x y ho g off cells hx hy ht hi h1 (by rw[qcz g t fr _ _ _ _ hg,hC];exact h)
def few13_any (bs:Nat->Nat) (v:Nat->Value) (T:Nat->List It) (V:Nat->Int) (a b c:Int) (w:World) (h:∀ k,k<16->LfIn w (bs k) (v k) (T k)) :
  Calls prog 50 #[.agg (stC v V a b c)] w fun e w'=>StorePost w w' e (fun k=>fewF (T k)) V a b c:=by
 have FW:=J fun (W:World) (hx:Ext w W)=>few_any bs v T V W (fun k hk=>(h k hk).ext hx)
 obtain⟨T2,hT2⟩:∃ T2:Nat->List It,(fun k=>fewF (T k))=T2:=⟨_,rfl⟩
 rw[hT2] at FW ⊢;clear h hT2;go_enter func50,ntmps50
 go_wp2_with (first
  | (refine qaR rfl 63 _ rfl w.heap.size 0 rfl 65 (stC v V a b c) (trC v V) (0,0) _ ((heap_alloc_old _ _ zy).trans (heap_alloc_new w _)) underlying63 rfl zv (stC_tr v V a b c) ?_)
  | (go_at_call 69;refine (FW.out _ zby).mono ?_;rintro e w1 ⟨bs2,v2,rfl,hl,hy,hx⟩;have HX1:=J (((Ext.refl w).alloc _).alloc _ |>.trans hx);have HL:=J hl;have HY:=J hy;have HB1:Hid (StBlk w1 w.heap.size v V a b c):=J (StBlk.ext (show StBlk ((w.alloc (.cells (stC v V a b c) 65)).alloc _) w.heap.size v V a b c from(heap_alloc_old _ _ zy).trans (heap_alloc_new w _)) hx);have HB2:Hid (∃ v0 V0,StBlk w1 (w.heap.size+1) v0 V0 0 0 0):=J ⟨nilV,zeroV,StBlk.ext (by unfold StBlk;have:=heap_alloc_new (w.alloc (.cells (stC v V a b c) 65)) (.cells (stC nilV zeroV 0 0 0) 65);rw[World.size_alloc] at this;exact this) hx⟩;clear hl hy hx)
  | (refine qaU rfl 63 _ _ rfl w.heap.size 0 (trC v2 V) _ (stC v2 V a b c) _ _ rfl rfl HB1.out (st_there HB1.out) zv (trC_one v2 V HL.out.one) (putC_st v v2 V a b c) ?_)
  | (refine wpList_load_row rfl 65 _ rfl w.heap.size rfl 65 (stC v2 V a b c) (0,0) _ HB1.out.setT underlying65 rfl zv ?_)
  | (obtain⟨v0,V0,hb2⟩:=HB2.out;have HBR:=J (StBlk.otherRow hb2 (Nat.succ_ne_self _) (stC v2 V a b c));clear hb2;refine wpList_store_rowTo rfl 65 _ _ rfl rfl (w.heap.size+1) (stC v2 V a b c) rfl rfl 65 (stC v0 V0 0 0 0) HBR.out zv rfl (stC_one v2 V a b c HL.out.one) ?_))
 obtain⟨hl1,hy1⟩:=LvsAt.rowT HL.out HY.out HB1.out zw (stC v2 V a b c);obtain⟨hl2,hy2⟩:=LvsAt.rowT hl1 hy1 HBR.out zw (stC v2 V a b c);have hld:=st_loadS (HBR.out.setT (v2:=v2) (V2:=V) (a2:=a) (b2:=b) (c2:=c));have hxx:=(HX1.out.setRow (g:=w.heap.size) (Nat.le_refl _) (stC v2 V a b c)).setRow (g:=w.heap.size+1) (Nat.le_succ _) (stC v2 V a b c);exact bodyPost_ret (v:=.agg (stC v2 V a b c)) (results_cellY (p:=2) (ty:=65) rfl _ _ ⟨w.heap.size+1,0,none⟩ _ rfl hld) rfl ⟨bs2,v2,rfl,hl2,hy2,hxx⟩
end Go.Proofs.YtpnabjopfpdkhaaGreatDoor
