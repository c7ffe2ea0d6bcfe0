/- Lemmas. -/
import Derived.Test.YtpnabjopfpdkhaaGreatDoorA03
set_option linter.unusedSimpArgs false
set_option linter.unusedVariables false
set_option maxHeartbeats 2000000
set_option maxRecDepth 20000
namespace Go.Proofs.YtpnabjopfpdkhaaGreatDoor
open Go.RowKit
def twoL:List ByteArray:=[⟨#[61,61]⟩,⟨#[33,61]⟩,⟨#[60,61]⟩,⟨#[62,61]⟩,⟨#[46,46]⟩]
def twoV:Value:=.agg (twoL.map Value.string).toArray
def singles:ByteArray:=⟨#[40,41,123,125,44,59,61,60,62,43,45,42,47,37]⟩
def signF (l:List UInt8):Tok × Nat × Int :=
 match twoL.find? (fun p=>Lib.hasPrefix l p.data.toList) with
 | some p=>(⟨4,p,0⟩,2,0)
 | none=>(match l with
  | []=>(tok0,0,3)
  | c::_=>if singles.data.toList.contains c=true then(⟨4,⟨#[c]⟩,0⟩,1,0) else(tok0,0,3))
theorem two_index (k:Nat) (hk:k<5) (w:World):(Instr.index 233 twoV (.int .i64 (k:Int))).run Tryz.prog w=.ok (.string (twoL.getD k ⟨#[]⟩)) w:=by
 have h:k=0∨k=1∨k=2∨k=3∨k=4:=by omega
 rcases h with rfl | rfl | rfl | rfl | rfl
 all_goals
  clear hk
  show(Instr.index _ _ _).run _ _=_
  kernel_rfl
theorem lex_same {b:Nat} {s:ByteArray} {k:Nat} {lv:Value} {w:World} (h:LexAt b s k lv w):w.setCell ⟨b,1,none⟩ (.int .i64 (k:Int))=w:=by
 have h2:=h.set k (k:Int) rfl
 have e:(w.setCell ⟨b,1,none⟩ (.int .i64 (k:Int))).heap=w.heap:=by
  apply Array.ext_getElem?
  intro j
  by_cases hj:b=j
  · subst hj
    unfold LexAt at h h2;rw[h,h2]
  · exact Below.heap_setCell _ _ _ _ (fun e=>hj e.symm)
 unfold World.setCell at e ⊢;simp only at e;rw[e]
theorem first_byte (t:ByteArray) (h:0<t.size):t.extract 0 1=⟨#[t[0]]⟩:=by
 apply ByteArray.ext
 apply Array.ext'
 have hl:0<t.data.toList.length:=by simpa using h
 have e1:(t.extract 0 1).data.toList=t.data.toList.take 1:=by simp[List.extract_eq_take_drop]
 rw[e1];have h2:=List.drop_eq_getElem_cons hl;rw[List.drop_zero] at h2;rw[h2];rfl
theorem qcV (u:UInt8) (j:Nat) (h:j<14) (e:(u.toNat:Int)=((singles[j]'h).toNat:Int)):u=singles[j]'h:=UInt8.toNat_inj.1 zac
theorem qcS (u:UInt8) (j:Nat) (h:j<14) (e:¬ (u.toNat:Int)=((singles[j]'h).toNat:Int)):¬ u=singles[j]'h:=fun e'=>e (by rw[e'])
theorem qeD (u:UInt8) (j:Nat) (h:j<14) (e:u=singles[j]'h):singles.data.toList.contains u=true:=by
 have hl:j<singles.data.toList.length:=h
 rw[List.contains_iff_mem,e];exact List.getElem_mem hl
theorem single_step (u:UInt8) (j:Nat) (h:j<14) (hf:(singles.data.toList.take j).contains u=false) (e:¬ u=singles[j]'h):(singles.data.toList.take (j+1)).contains u=false:=by
 have hl:j<singles.data.toList.length:=h
 rw[List.take_succ_eq_append_getElem hl,List.contains_eq_mem] at *;simp only[List.mem_append,List.mem_singleton,decide_eq_false_iff_not,not_or] at *
 exact⟨hf,e⟩
theorem find_none (l:List UInt8) (k:Nat) (hk:k<5) (h:(twoL.take k).find? (fun p=>Lib.hasPrefix l p.data.toList)=none) (hn:Lib.hasPrefix l (twoL.getD k ⟨#[]⟩).data.toList=false):(twoL.take (k+1)).find? (fun p=>Lib.hasPrefix l p.data.toList)=none:=by
 have hl:k<twoL.length:=hk
 have e:twoL.take (k+1)=twoL.take k++[twoL.getD k ⟨#[]⟩]:=by
  rw[List.take_succ_eq_append_getElem hl]
  congr 2
  simp[List.getD,List.getElem?_eq_getElem hl]
 rw[e,List.find?_append,h];simp only[Option.none_or,List.find?_cons,hn,List.find?_nil]
theorem find_some (l:List UInt8) (k:Nat) (hk:k<5) (h:(twoL.take k).find? (fun p=>Lib.hasPrefix l p.data.toList)=none) (hn:Lib.hasPrefix l (twoL.getD k ⟨#[]⟩).data.toList=true):twoL.find? (fun p=>Lib.hasPrefix l p.data.toList)=some (twoL.getD k ⟨#[]⟩):=by
 have hl:k<twoL.length:=hk
 have e:twoL=twoL.take k++(twoL.getD k ⟨#[]⟩::twoL.drop (k+1)):=by
  have h1:=List.take_append_drop k twoL;rw[List.drop_eq_getElem_cons hl] at h1
  have h2:twoL.getD k ⟨#[]⟩=twoL[k]:=by simp[List.getD,List.getElem?_eq_getElem hl]
  rw[h2];exact h1.symm
 rw[e,List.find?_append,h];simp only[Option.none_or,List.find?_cons];rw[←e,hn]
theorem sign_any (b:Nat) (s t:ByteArray) (k n:Nat) (lv:Value) (hk:k<s.size) (hs:(s.size:Int)≤4611686018427387904) (ht:s.extract k s.size=t) (h0:0<t.size) (r:Tok) (e:Int) (hr:signF t.data.toList=(r,n,e)) (w:World) (h:LexAt b s k lv w) :
  Calls Tryz.prog 124 #[.pointer (some ⟨b,0,none⟩)] w fun e' w'=>e'=.returned (.tuple #[tokV r 0,.int .i64 e])∧Ext (w.setCell ⟨b,1,none⟩ (.int .i64 ((k+n:Nat):Int))) w':=by
 have HL:=Lib.hid h;have hb:=h.lt
 obtain⟨c0,c1,c2,f1,f2⟩:=h.cells
 have hk2:(k:Int)≤9223372036854775800:=by omega
 have hs3:s.size≤maxLen:=by unfold maxLen;omega
 unfold maxLen at hs3;clear hs;unfold tokV;have HR:=Lib.hid hr
 obtain⟨V,hV⟩:∃ V,twoV=V:=⟨_,rfl⟩
 have hV2:(Value.agg #[.string ⟨#[61,61]⟩,.string ⟨#[33,61]⟩,.string ⟨#[60,61]⟩,.string ⟨#[62,61]⟩,.string ⟨#[46,46]⟩])=V:=by rw[←hV];rfl
 have HI:=Lib.hid two_index;rw[hV] at HI;clear h hr hV;go_enter Tryz.func124,Tryz.ntmps124;go_wp2_with fail;refine qaa 8 54 (List.replicate 8 false) zaf zaf rfl ?_;refine yac ?_
 repeat(refine Lex.step rfl ?_;intro K hK;unfold StepG;go_simp;(first
   | refine hK _ ?_);clear hK K)
 refine yaa ?_;intro dd oo;go_wp2_with fail;rw[ends_normal];go_wp2_with fail;clear hV2 ht
 go_loop [18] (fun ii=>∃ j:Nat,ii=.int .i64 j∧j≤5∧(twoL.take j).find? (fun p=>Lib.hasPrefix t.data.toList p.data.toList)=none) (fun ii=>5-(intOf ii).toNat)
 case atStart=>exact⟨0,rfl,by omega,rfl⟩
 case round =>
  obtain⟨j,rfl,hj,hf⟩:=hrel
  have HF:=Lib.hid hf;clear hf
  by_cases hlt:j<5
  · have hi:=HI.out j hlt
    have hno:=Lib.hid (find_none t.data.toList j hlt HF.out);have hso:=Lib.hid (find_some t.data.toList j hlt HF.out);generalize twoL.getD j ⟨#[]⟩=x at hi hno hso
    cases hq:Lib.hasPrefix t.data.toList x.data.toList
    · clear HR
      go_wp2_with (go_at_call 154;refine (Tryz.strings_HasPrefix _ _ _).mono ?_;rintro e _ ⟨rfl,rfl⟩)
      go_round
      case rel=>exact⟨j+1,by go_num,by omega,hno.out hq⟩
      case measure=>simp[intOf]<;>omega
    · have h1:=HR.out
      unfold signF at h1;rw[hso.out hq] at h1;simp only[Prod.mk.injEq] at h1
      obtain⟨rfl,rfl,rfl⟩:=h1
      clear HR
      go_wp2_with (go_at_call 154;refine (Tryz.strings_HasPrefix _ _ _).mono ?_;rintro e _ ⟨rfl,rfl⟩)
      refine bodyPost_ret (v:=.tuple #[.agg #[.int .i64 4,.int .i64 0,.string x,.int .i64 0],.int .i64 0]) (by simp[results,Tryz.results124,go_sem]) rfl ?_
      exact⟨rfl,zab⟩
  · have hj5:j=5:=by omega
    subst hj5
    have hfn:twoL.find? (fun p=>Lib.hasPrefix t.data.toList p.data.toList)=none:=HF.out
    have h1:=HR.out;unfold signF at h1;rw[hfn] at h1
    have hct:t.data.toList=t[0]::t.data.toList.drop 1:=by
     have hl':0<t.data.toList.length:=by simpa using h0
     have:=List.drop_eq_getElem_cons hl'
     rw[List.drop_zero] at this;exact this
    rw[hct] at h1;dsimp only at h1;have H1:=Lib.hid h1
    obtain⟨u,hu⟩:∃ u,t[0]=u:=⟨_,rfl⟩
    clear HR hfn HF HI h1 hct;rw[hu] at H1
    cases hct:singles.data.toList.contains u
    · have h1:=H1.out
      rw[hct] at h1;rw[if_neg zaj] at h1;simp only[Prod.mk.injEq] at h1
      obtain⟨rfl,rfl,rfl⟩:=h1
      have HC:=Lib.hid hct;clear H1 hct
      go_wp2
      go_loopw [34] (fun ii wr=>∃ (j:Nat) (d:Nat) (os:Array Obj),ii=.int .i64 j∧j≤14∧(singles.data.toList.take j).contains u=false∧wr=more (w.alloc (.cells #[.int .i64 0,.int .i64 0,.string ⟨#[]⟩,.int .i64 0] 186)) d os) (fun ii _=>14-(intOf ii).toNat)
      case atStart=>exact⟨0,_,_,rfl,by omega,rfl,rfl⟩
      case round =>
       obtain⟨j,d,os,rfl,hj,hf,rfl⟩:=hrel
       have HF:=Lib.hid hf;clear hf
       by_cases hlt:j<14
       · go_wp2_with fail
         refine qaa 4 54 (List.replicate 4 false) zaf zaf rfl ?_;refine yac ?_
         repeat(refine Lex.step rfl ?_;intro K hK;unfold StepG;go_simp;(first
           | refine hK _ ?_);clear hK K)
         refine yaa ?_;intro dd oo;go_wp2_with fail;rw[ends_normal];go_wp2_with fail
         · rename_i hqt
           have hq:=qcV u j hlt (by simp only[beq_iff_eq] at hqt;exact hqt);exact absurd (qeD u j hlt hq) (by rw[HC.out];simp)
         · rename_i hqt
           have hq:=qcS u j hlt (by simp only[beq_eq_false_iff_ne,ne_eq] at hqt;exact hqt);go_roundw
           case rel=>exact⟨j+1,_,_,by go_num,by omega,single_step u j hlt HF.out hq,rfl⟩
           case measure=>simp[intOf]<;>omega
       · have hj14:j=14:=by omega
         subst hj14
         go_wp2
         refine bodyPost_ret (v:=.tuple #[.agg #[.int .i64 0,.int .i64 0,.string ⟨#[]⟩,.int .i64 0],.int .i64 3]) (by simp[results,Tryz.results124,go_sem]) rfl ?_;refine ⟨rfl,?_⟩;rw[Nat.add_zero,lex_same HL.out]
         repeat(first | exact Ext.refl _ | apply Ext.alloc | apply Ext.more)
    · have h1:=H1.out
      rw[hct] at h1;rw[if_pos rfl] at h1;simp only[Prod.mk.injEq] at h1
      obtain⟨rfl,rfl,rfl⟩:=h1
      have HC:=Lib.hid hct
      have hx:t.extract 0 1=⟨#[u]⟩:=by rw[←hu];exact first_byte t h0
      clear H1 hct
      go_wp2
      go_loopw [34] (fun ii wr=>∃ (j:Nat) (d:Nat) (os:Array Obj),ii=.int .i64 j∧j≤14∧(singles.data.toList.take j).contains u=false∧wr=more (w.alloc (.cells #[.int .i64 0,.int .i64 0,.string ⟨#[]⟩,.int .i64 0] 186)) d os) (fun ii _=>14-(intOf ii).toNat)
      case atStart=>exact⟨0,_,_,rfl,by omega,rfl,rfl⟩
      case round =>
       obtain⟨j,d,os,rfl,hj,hf,rfl⟩:=hrel
       have HF:=Lib.hid hf;clear hf
       by_cases hlt:j<14
       · go_wp2_with fail
         refine qaa 4 54 (List.replicate 4 false) zaf zaf rfl ?_;refine yac ?_
         repeat(refine Lex.step rfl ?_;intro K hK;unfold StepG;go_simp;(first
           | refine hK _ ?_);clear hK K)
         refine yaa ?_;intro dd oo;go_wp2_with fail;rw[ends_normal];go_wp2_with fail
         · rename_i hqt
           have hq:=qcV u j hlt (by simp only[beq_iff_eq] at hqt;exact hqt);refine bodyPost_ret (v:=.tuple #[.agg #[.int .i64 4,.int .i64 0,.string ⟨#[u]⟩,.int .i64 0],.int .i64 0]) (by simp[results,Tryz.results124,hx,go_sem]) rfl ?_
           exact⟨rfl,zab⟩
         · rename_i hqt
           have hq:=qcS u j hlt (by simp only[beq_eq_false_iff_ne,ne_eq] at hqt;exact hqt);go_roundw
           case rel=>exact⟨j+1,_,_,by go_num,by omega,single_step u j hlt HF.out hq,rfl⟩
           case measure=>simp[intOf]<;>omega
       · have hj14:j=14:=by omega
         subst hj14;exact absurd HC.out (by rw[show singles.data.toList=singles.data.toList.take 14 from rfl,HF.out];simp)
end Go.Proofs.YtpnabjopfpdkhaaGreatDoor
