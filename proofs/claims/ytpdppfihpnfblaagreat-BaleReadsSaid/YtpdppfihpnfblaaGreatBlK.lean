/- The kinds of bale's things: laid by wip/kinds_bl.py. -/
import Derived.Test.YtpdppfihpnfblaaGreatBlE
namespace Go.Proofs.YtpdppfihpnfblaaGreat.H
open Go.RowKit Go.Shelf Go.Proofs.YtpdppfihpnfblaaGreat.PA Go.Proofs.YtpdppfihpnfblaaGreatW.PrintWords Go.Proofs.YtpdppfihpnfblaaGreatW.PrintLast Go.Proofs.YtpdppfihpnfblaaGreatW.PrintMore
set_option linter.unusedVariables false
set_option linter.unusedSimpArgs false
structure Src where
  name : ByteArray
  time : Int
  at_ : Int
def zSrc : Src := ⟨⟨#[]⟩, 0, 0⟩
def kSrc : Kd Src := Kd.iso (Kd.pair Kd.string (Kd.pair (Kd.int .i64) (Kd.int .i64))) (fun x : Src => (x.name, x.time, x.at_))
theorem kSrc_open {w : World} {x : Src} {cs : List Value} (h : kSrc.K w x cs) : cs = [.string x.name, .int .i64 x.time, .int .i64 x.at_] := by
  obtain ⟨_, _, rfl, rfl, ⟨_, _, rfl, rfl, rfl⟩⟩ := h
  exact rfl
theorem kSrc_mkM (w : World) (base : Nat) (ok : Nat → Prop) (x : Src) : kSrc.M w base ok x [.string x.name, .int .i64 x.time, .int .i64 x.at_] := ⟨[.string x.name], [.int .i64 x.time, .int .i64 x.at_], rfl, rfl, ⟨[.int .i64 x.time], [.int .i64 x.at_], rfl, rfl, rfl⟩⟩
theorem kSrc_openM {w : World} {base : Nat} {ok : Nat → Prop} {x : Src} {cs : List Value} (h : kSrc.M w base ok x cs) : cs = [.string x.name, .int .i64 x.time, .int .i64 x.at_] := by
  obtain ⟨_, _, rfl, rfl, ⟨_, _, rfl, rfl, rfl⟩⟩ := h
  exact rfl
structure Sen where
  name : ByteArray
  floor : Int
  seqs : List Int
def zSen : Sen := ⟨⟨#[]⟩, 0, []⟩
def kSen : Kd Sen := Kd.iso (Kd.pair Kd.string (Kd.pair (Kd.int .i64) (Kd.slice 3 (Kd.int .i64)))) (fun x : Sen => (x.name, x.floor, x.seqs))
theorem kSen_open {w : World} {x : Sen} {cs : List Value} (h : kSen.K w x cs) : ∃ A_seqs c_seqs, cs = [.string x.name, .int .i64 x.floor, .slice A_seqs x.seqs.length c_seqs] ∧ x.seqs.length ≤ c_seqs ∧ Kd.C (Kd.int .i64) w A_seqs x.seqs.length x.seqs := by
  obtain ⟨_, _, rfl, rfl, ⟨_, _, rfl, rfl, ⟨A_seqs, c_seqs, rfl, l_seqs, g_seqs⟩⟩⟩ := h
  exact ⟨A_seqs, c_seqs, rfl, l_seqs, g_seqs⟩
theorem kSen_mkM (w : World) (base : Nat) (ok : Nat → Prop) (x : Sen) {v_seqs : Value} (g_seqs : Kd.R (Kd.int .i64) 3 w base ok v_seqs x.seqs) : kSen.M w base ok x [.string x.name, .int .i64 x.floor, v_seqs] := ⟨[.string x.name], [.int .i64 x.floor, v_seqs], rfl, rfl, ⟨[.int .i64 x.floor], [v_seqs], rfl, rfl, ⟨v_seqs, rfl, g_seqs⟩⟩⟩
theorem kSen_openM {w : World} {base : Nat} {ok : Nat → Prop} {x : Sen} {cs : List Value} (h : kSen.M w base ok x cs) : ∃ v_seqs, cs = [.string x.name, .int .i64 x.floor, v_seqs] ∧ Kd.R (Kd.int .i64) 3 w base ok v_seqs x.seqs := by
  obtain ⟨_, _, rfl, rfl, ⟨_, _, rfl, rfl, ⟨v_seqs, rfl, g_seqs⟩⟩⟩ := h
  exact ⟨v_seqs, rfl, g_seqs⟩
structure Lab where
  name : ByteArray
  value : ByteArray
def zLab : Lab := ⟨⟨#[]⟩, ⟨#[]⟩⟩
def kLab : Kd Lab := Kd.iso (Kd.pair Kd.string Kd.string) (fun x : Lab => (x.name, x.value))
theorem kLab_open {w : World} {x : Lab} {cs : List Value} (h : kLab.K w x cs) : cs = [.string x.name, .string x.value] := by
  obtain ⟨_, _, rfl, rfl, rfl⟩ := h
  exact rfl
theorem kLab_mkM (w : World) (base : Nat) (ok : Nat → Prop) (x : Lab) : kLab.M w base ok x [.string x.name, .string x.value] := ⟨[.string x.name], [.string x.value], rfl, rfl, rfl⟩
theorem kLab_openM {w : World} {base : Nat} {ok : Nat → Prop} {x : Lab} {cs : List Value} (h : kLab.M w base ok x cs) : cs = [.string x.name, .string x.value] := by
  obtain ⟨_, _, rfl, rfl, rfl⟩ := h
  exact rfl
structure VatS where
  kind : Int
  many : Int
  high : Int
  low : Int
  last : Int
  time : Int
  seq : Int
  source : ByteArray
  samples : List Int
  members : List ByteArray
def zVatS : VatS := ⟨0, 0, 0, 0, 0, 0, 0, ⟨#[]⟩, [], []⟩
def kVatS : Kd VatS := Kd.iso (Kd.pair (Kd.int .i64) (Kd.pair (Kd.int .i64) (Kd.pair (Kd.int .i64) (Kd.pair (Kd.int .i64) (Kd.pair (Kd.int .i64) (Kd.pair (Kd.int .i64) (Kd.pair (Kd.int .i64) (Kd.pair Kd.string (Kd.pair (Kd.slice 3 (Kd.int .i64)) (Kd.slice 9 Kd.string)))))))))) (fun x : VatS => (x.kind, x.many, x.high, x.low, x.last, x.time, x.seq, x.source, x.samples, x.members))
theorem kVatS_open {w : World} {x : VatS} {cs : List Value} (h : kVatS.K w x cs) : ∃ A_samples c_samples A_members c_members, cs = [.int .i64 x.kind, .int .i64 x.many, .int .i64 x.high, .int .i64 x.low, .int .i64 x.last, .int .i64 x.time, .int .i64 x.seq, .string x.source, .slice A_samples x.samples.length c_samples, .slice A_members x.members.length c_members] ∧ x.samples.length ≤ c_samples ∧ Kd.C (Kd.int .i64) w A_samples x.samples.length x.samples ∧ x.members.length ≤ c_members ∧ Kd.C Kd.string w A_members x.members.length x.members := by
  obtain ⟨_, _, rfl, rfl, ⟨_, _, rfl, rfl, ⟨_, _, rfl, rfl, ⟨_, _, rfl, rfl, ⟨_, _, rfl, rfl, ⟨_, _, rfl, rfl, ⟨_, _, rfl, rfl, ⟨_, _, rfl, rfl, ⟨_, _, rfl, ⟨A_samples, c_samples, rfl, l_samples, g_samples⟩, ⟨A_members, c_members, rfl, l_members, g_members⟩⟩⟩⟩⟩⟩⟩⟩⟩⟩ := h
  exact ⟨A_samples, c_samples, A_members, c_members, rfl, l_samples, g_samples, l_members, g_members⟩
theorem kVatS_mk (w : World) (x : VatS) {A_samples : Option Addr} {c_samples : Nat} (l_samples : x.samples.length ≤ c_samples) (g_samples : Kd.C (Kd.int .i64) w A_samples x.samples.length x.samples) {A_members : Option Addr} {c_members : Nat} (l_members : x.members.length ≤ c_members) (g_members : Kd.C Kd.string w A_members x.members.length x.members) : kVatS.K w x [.int .i64 x.kind, .int .i64 x.many, .int .i64 x.high, .int .i64 x.low, .int .i64 x.last, .int .i64 x.time, .int .i64 x.seq, .string x.source, .slice A_samples x.samples.length c_samples, .slice A_members x.members.length c_members] := ⟨[.int .i64 x.kind], [.int .i64 x.many, .int .i64 x.high, .int .i64 x.low, .int .i64 x.last, .int .i64 x.time, .int .i64 x.seq, .string x.source, .slice A_samples x.samples.length c_samples, .slice A_members x.members.length c_members], rfl, rfl, ⟨[.int .i64 x.many], [.int .i64 x.high, .int .i64 x.low, .int .i64 x.last, .int .i64 x.time, .int .i64 x.seq, .string x.source, .slice A_samples x.samples.length c_samples, .slice A_members x.members.length c_members], rfl, rfl, ⟨[.int .i64 x.high], [.int .i64 x.low, .int .i64 x.last, .int .i64 x.time, .int .i64 x.seq, .string x.source, .slice A_samples x.samples.length c_samples, .slice A_members x.members.length c_members], rfl, rfl, ⟨[.int .i64 x.low], [.int .i64 x.last, .int .i64 x.time, .int .i64 x.seq, .string x.source, .slice A_samples x.samples.length c_samples, .slice A_members x.members.length c_members], rfl, rfl, ⟨[.int .i64 x.last], [.int .i64 x.time, .int .i64 x.seq, .string x.source, .slice A_samples x.samples.length c_samples, .slice A_members x.members.length c_members], rfl, rfl, ⟨[.int .i64 x.time], [.int .i64 x.seq, .string x.source, .slice A_samples x.samples.length c_samples, .slice A_members x.members.length c_members], rfl, rfl, ⟨[.int .i64 x.seq], [.string x.source, .slice A_samples x.samples.length c_samples, .slice A_members x.members.length c_members], rfl, rfl, ⟨[.string x.source], [.slice A_samples x.samples.length c_samples, .slice A_members x.members.length c_members], rfl, rfl, ⟨[.slice A_samples x.samples.length c_samples], [.slice A_members x.members.length c_members], rfl, ⟨A_samples, c_samples, rfl, l_samples, g_samples⟩, ⟨A_members, c_members, rfl, l_members, g_members⟩⟩⟩⟩⟩⟩⟩⟩⟩⟩
theorem kVatS_mkM (w : World) (base : Nat) (ok : Nat → Prop) (x : VatS) {v_samples : Value} (g_samples : Kd.R (Kd.int .i64) 3 w base ok v_samples x.samples) {v_members : Value} (g_members : Kd.R Kd.string 9 w base ok v_members x.members) : kVatS.M w base ok x [.int .i64 x.kind, .int .i64 x.many, .int .i64 x.high, .int .i64 x.low, .int .i64 x.last, .int .i64 x.time, .int .i64 x.seq, .string x.source, v_samples, v_members] := ⟨[.int .i64 x.kind], [.int .i64 x.many, .int .i64 x.high, .int .i64 x.low, .int .i64 x.last, .int .i64 x.time, .int .i64 x.seq, .string x.source, v_samples, v_members], rfl, rfl, ⟨[.int .i64 x.many], [.int .i64 x.high, .int .i64 x.low, .int .i64 x.last, .int .i64 x.time, .int .i64 x.seq, .string x.source, v_samples, v_members], rfl, rfl, ⟨[.int .i64 x.high], [.int .i64 x.low, .int .i64 x.last, .int .i64 x.time, .int .i64 x.seq, .string x.source, v_samples, v_members], rfl, rfl, ⟨[.int .i64 x.low], [.int .i64 x.last, .int .i64 x.time, .int .i64 x.seq, .string x.source, v_samples, v_members], rfl, rfl, ⟨[.int .i64 x.last], [.int .i64 x.time, .int .i64 x.seq, .string x.source, v_samples, v_members], rfl, rfl, ⟨[.int .i64 x.time], [.int .i64 x.seq, .string x.source, v_samples, v_members], rfl, rfl, ⟨[.int .i64 x.seq], [.string x.source, v_samples, v_members], rfl, rfl, ⟨[.string x.source], [v_samples, v_members], rfl, rfl, ⟨[v_samples], [v_members], rfl, ⟨v_samples, rfl, g_samples⟩, ⟨v_members, rfl, g_members⟩⟩⟩⟩⟩⟩⟩⟩⟩⟩
theorem kVatS_openM {w : World} {base : Nat} {ok : Nat → Prop} {x : VatS} {cs : List Value} (h : kVatS.M w base ok x cs) : ∃ v_samples v_members, cs = [.int .i64 x.kind, .int .i64 x.many, .int .i64 x.high, .int .i64 x.low, .int .i64 x.last, .int .i64 x.time, .int .i64 x.seq, .string x.source, v_samples, v_members] ∧ Kd.R (Kd.int .i64) 3 w base ok v_samples x.samples ∧ Kd.R Kd.string 9 w base ok v_members x.members := by
  obtain ⟨_, _, rfl, rfl, ⟨_, _, rfl, rfl, ⟨_, _, rfl, rfl, ⟨_, _, rfl, rfl, ⟨_, _, rfl, rfl, ⟨_, _, rfl, rfl, ⟨_, _, rfl, rfl, ⟨_, _, rfl, rfl, ⟨_, _, rfl, ⟨v_samples, rfl, g_samples⟩, ⟨v_members, rfl, g_members⟩⟩⟩⟩⟩⟩⟩⟩⟩⟩ := h
  exact ⟨v_samples, v_members, rfl, g_samples, g_members⟩
structure Cel where
  metric : ByteArray
  labels : List Lab
  policy : Int
  start : Int
  rev : Int
  dirty : Bool
  vat : VatS
def zCel : Cel := ⟨⟨#[]⟩, [], 0, 0, 0, false, zVatS⟩
def kCel : Kd Cel := Kd.iso (Kd.pair Kd.string (Kd.pair (Kd.slice 98 kLab) (Kd.pair (Kd.int .i64) (Kd.pair (Kd.int .i64) (Kd.pair (Kd.int .i64) (Kd.pair Kd.bool kVatS)))))) (fun x : Cel => (x.metric, x.labels, x.policy, x.start, x.rev, x.dirty, x.vat))
theorem kCel_open {w : World} {x : Cel} {cs : List Value} (h : kCel.K w x cs) : ∃ A_labels c_labels A_vsamples c_vsamples A_vmembers c_vmembers, cs = [.string x.metric, .slice A_labels x.labels.length c_labels, .int .i64 x.policy, .int .i64 x.start, .int .i64 x.rev, .bool x.dirty, .int .i64 x.vat.kind, .int .i64 x.vat.many, .int .i64 x.vat.high, .int .i64 x.vat.low, .int .i64 x.vat.last, .int .i64 x.vat.time, .int .i64 x.vat.seq, .string x.vat.source, .slice A_vsamples x.vat.samples.length c_vsamples, .slice A_vmembers x.vat.members.length c_vmembers] ∧ x.labels.length ≤ c_labels ∧ Kd.C kLab w A_labels x.labels.length x.labels ∧ x.vat.samples.length ≤ c_vsamples ∧ Kd.C (Kd.int .i64) w A_vsamples x.vat.samples.length x.vat.samples ∧ x.vat.members.length ≤ c_vmembers ∧ Kd.C Kd.string w A_vmembers x.vat.members.length x.vat.members := by
  obtain ⟨_, _, rfl, rfl, ⟨_, _, rfl, ⟨A_labels, c_labels, rfl, l_labels, g_labels⟩, ⟨_, _, rfl, rfl, ⟨_, _, rfl, rfl, ⟨_, _, rfl, rfl, ⟨_, _, rfl, rfl, ⟨_, _, rfl, rfl, ⟨_, _, rfl, rfl, ⟨_, _, rfl, rfl, ⟨_, _, rfl, rfl, ⟨_, _, rfl, rfl, ⟨_, _, rfl, rfl, ⟨_, _, rfl, rfl, ⟨_, _, rfl, rfl, ⟨_, _, rfl, ⟨A_vsamples, c_vsamples, rfl, l_vsamples, g_vsamples⟩, ⟨A_vmembers, c_vmembers, rfl, l_vmembers, g_vmembers⟩⟩⟩⟩⟩⟩⟩⟩⟩⟩⟩⟩⟩⟩⟩⟩ := h
  exact ⟨A_labels, c_labels, A_vsamples, c_vsamples, A_vmembers, c_vmembers, rfl, l_labels, g_labels, l_vsamples, g_vsamples, l_vmembers, g_vmembers⟩
theorem kCel_mkM (w : World) (base : Nat) (ok : Nat → Prop) (x : Cel) {v_labels : Value} (g_labels : Kd.R kLab 98 w base ok v_labels x.labels) {v_vsamples : Value} (g_vsamples : Kd.R (Kd.int .i64) 3 w base ok v_vsamples x.vat.samples) {v_vmembers : Value} (g_vmembers : Kd.R Kd.string 9 w base ok v_vmembers x.vat.members) : kCel.M w base ok x [.string x.metric, v_labels, .int .i64 x.policy, .int .i64 x.start, .int .i64 x.rev, .bool x.dirty, .int .i64 x.vat.kind, .int .i64 x.vat.many, .int .i64 x.vat.high, .int .i64 x.vat.low, .int .i64 x.vat.last, .int .i64 x.vat.time, .int .i64 x.vat.seq, .string x.vat.source, v_vsamples, v_vmembers] := ⟨[.string x.metric], [v_labels, .int .i64 x.policy, .int .i64 x.start, .int .i64 x.rev, .bool x.dirty, .int .i64 x.vat.kind, .int .i64 x.vat.many, .int .i64 x.vat.high, .int .i64 x.vat.low, .int .i64 x.vat.last, .int .i64 x.vat.time, .int .i64 x.vat.seq, .string x.vat.source, v_vsamples, v_vmembers], rfl, rfl, ⟨[v_labels], [.int .i64 x.policy, .int .i64 x.start, .int .i64 x.rev, .bool x.dirty, .int .i64 x.vat.kind, .int .i64 x.vat.many, .int .i64 x.vat.high, .int .i64 x.vat.low, .int .i64 x.vat.last, .int .i64 x.vat.time, .int .i64 x.vat.seq, .string x.vat.source, v_vsamples, v_vmembers], rfl, ⟨v_labels, rfl, g_labels⟩, ⟨[.int .i64 x.policy], [.int .i64 x.start, .int .i64 x.rev, .bool x.dirty, .int .i64 x.vat.kind, .int .i64 x.vat.many, .int .i64 x.vat.high, .int .i64 x.vat.low, .int .i64 x.vat.last, .int .i64 x.vat.time, .int .i64 x.vat.seq, .string x.vat.source, v_vsamples, v_vmembers], rfl, rfl, ⟨[.int .i64 x.start], [.int .i64 x.rev, .bool x.dirty, .int .i64 x.vat.kind, .int .i64 x.vat.many, .int .i64 x.vat.high, .int .i64 x.vat.low, .int .i64 x.vat.last, .int .i64 x.vat.time, .int .i64 x.vat.seq, .string x.vat.source, v_vsamples, v_vmembers], rfl, rfl, ⟨[.int .i64 x.rev], [.bool x.dirty, .int .i64 x.vat.kind, .int .i64 x.vat.many, .int .i64 x.vat.high, .int .i64 x.vat.low, .int .i64 x.vat.last, .int .i64 x.vat.time, .int .i64 x.vat.seq, .string x.vat.source, v_vsamples, v_vmembers], rfl, rfl, ⟨[.bool x.dirty], [.int .i64 x.vat.kind, .int .i64 x.vat.many, .int .i64 x.vat.high, .int .i64 x.vat.low, .int .i64 x.vat.last, .int .i64 x.vat.time, .int .i64 x.vat.seq, .string x.vat.source, v_vsamples, v_vmembers], rfl, rfl, ⟨[.int .i64 x.vat.kind], [.int .i64 x.vat.many, .int .i64 x.vat.high, .int .i64 x.vat.low, .int .i64 x.vat.last, .int .i64 x.vat.time, .int .i64 x.vat.seq, .string x.vat.source, v_vsamples, v_vmembers], rfl, rfl, ⟨[.int .i64 x.vat.many], [.int .i64 x.vat.high, .int .i64 x.vat.low, .int .i64 x.vat.last, .int .i64 x.vat.time, .int .i64 x.vat.seq, .string x.vat.source, v_vsamples, v_vmembers], rfl, rfl, ⟨[.int .i64 x.vat.high], [.int .i64 x.vat.low, .int .i64 x.vat.last, .int .i64 x.vat.time, .int .i64 x.vat.seq, .string x.vat.source, v_vsamples, v_vmembers], rfl, rfl, ⟨[.int .i64 x.vat.low], [.int .i64 x.vat.last, .int .i64 x.vat.time, .int .i64 x.vat.seq, .string x.vat.source, v_vsamples, v_vmembers], rfl, rfl, ⟨[.int .i64 x.vat.last], [.int .i64 x.vat.time, .int .i64 x.vat.seq, .string x.vat.source, v_vsamples, v_vmembers], rfl, rfl, ⟨[.int .i64 x.vat.time], [.int .i64 x.vat.seq, .string x.vat.source, v_vsamples, v_vmembers], rfl, rfl, ⟨[.int .i64 x.vat.seq], [.string x.vat.source, v_vsamples, v_vmembers], rfl, rfl, ⟨[.string x.vat.source], [v_vsamples, v_vmembers], rfl, rfl, ⟨[v_vsamples], [v_vmembers], rfl, ⟨v_vsamples, rfl, g_vsamples⟩, ⟨v_vmembers, rfl, g_vmembers⟩⟩⟩⟩⟩⟩⟩⟩⟩⟩⟩⟩⟩⟩⟩⟩
theorem kCel_openM {w : World} {base : Nat} {ok : Nat → Prop} {x : Cel} {cs : List Value} (h : kCel.M w base ok x cs) : ∃ v_labels v_vsamples v_vmembers, cs = [.string x.metric, v_labels, .int .i64 x.policy, .int .i64 x.start, .int .i64 x.rev, .bool x.dirty, .int .i64 x.vat.kind, .int .i64 x.vat.many, .int .i64 x.vat.high, .int .i64 x.vat.low, .int .i64 x.vat.last, .int .i64 x.vat.time, .int .i64 x.vat.seq, .string x.vat.source, v_vsamples, v_vmembers] ∧ Kd.R kLab 98 w base ok v_labels x.labels ∧ Kd.R (Kd.int .i64) 3 w base ok v_vsamples x.vat.samples ∧ Kd.R Kd.string 9 w base ok v_vmembers x.vat.members := by
  obtain ⟨_, _, rfl, rfl, ⟨_, _, rfl, ⟨v_labels, rfl, g_labels⟩, ⟨_, _, rfl, rfl, ⟨_, _, rfl, rfl, ⟨_, _, rfl, rfl, ⟨_, _, rfl, rfl, ⟨_, _, rfl, rfl, ⟨_, _, rfl, rfl, ⟨_, _, rfl, rfl, ⟨_, _, rfl, rfl, ⟨_, _, rfl, rfl, ⟨_, _, rfl, rfl, ⟨_, _, rfl, rfl, ⟨_, _, rfl, rfl, ⟨_, _, rfl, ⟨v_vsamples, rfl, g_vsamples⟩, ⟨v_vmembers, rfl, g_vmembers⟩⟩⟩⟩⟩⟩⟩⟩⟩⟩⟩⟩⟩⟩⟩⟩ := h
  exact ⟨v_labels, v_vsamples, v_vmembers, rfl, g_labels, g_vsamples, g_vmembers⟩
structure Bat where
  number : Int
  now : Int
  text : ByteArray
def zBat : Bat := ⟨0, 0, ⟨#[]⟩⟩
def kBat : Kd Bat := Kd.iso (Kd.pair (Kd.int .i64) (Kd.pair (Kd.int .i64) Kd.string)) (fun x : Bat => (x.number, x.now, x.text))
theorem kBat_open {w : World} {x : Bat} {cs : List Value} (h : kBat.K w x cs) : cs = [.int .i64 x.number, .int .i64 x.now, .string x.text] := by
  obtain ⟨_, _, rfl, rfl, ⟨_, _, rfl, rfl, rfl⟩⟩ := h
  exact rfl
theorem kBat_mk (w : World) (x : Bat) : kBat.K w x [.int .i64 x.number, .int .i64 x.now, .string x.text] := ⟨[.int .i64 x.number], [.int .i64 x.now, .string x.text], rfl, rfl, ⟨[.int .i64 x.now], [.string x.text], rfl, rfl, rfl⟩⟩
theorem kBat_mkM (w : World) (base : Nat) (ok : Nat → Prop) (x : Bat) : kBat.M w base ok x [.int .i64 x.number, .int .i64 x.now, .string x.text] := ⟨[.int .i64 x.number], [.int .i64 x.now, .string x.text], rfl, rfl, ⟨[.int .i64 x.now], [.string x.text], rfl, rfl, rfl⟩⟩
theorem kBat_openM {w : World} {base : Nat} {ok : Nat → Prop} {x : Bat} {cs : List Value} (h : kBat.M w base ok x cs) : cs = [.int .i64 x.number, .int .i64 x.now, .string x.text] := by
  obtain ⟨_, _, rfl, rfl, ⟨_, _, rfl, rfl, rfl⟩⟩ := h
  exact rfl
structure Emi where
  key : ByteArray
  policy : ByteArray
  kind : Int
  start : Int
  rev : Int
  final : Bool
  rkind : Int
  count : Int
  sum : Int
  min : Int
  max : Int
  q0 : Int
  q1 : Int
  q2 : Int
  over : Bool
def zEmi : Emi := ⟨⟨#[]⟩, ⟨#[]⟩, 0, 0, 0, false, 0, 0, 0, 0, 0, 0, 0, 0, false⟩
def kEmi : Kd Emi := Kd.iso (Kd.pair Kd.string (Kd.pair Kd.string (Kd.pair (Kd.int .i64) (Kd.pair (Kd.int .i64) (Kd.pair (Kd.int .i64) (Kd.pair Kd.bool (Kd.pair (Kd.int .i64) (Kd.pair (Kd.int .i64) (Kd.pair (Kd.int .i64) (Kd.pair (Kd.int .i64) (Kd.pair (Kd.int .i64) (Kd.pair (Kd.int .i64) (Kd.pair (Kd.int .i64) (Kd.pair (Kd.int .i64) Kd.bool)))))))))))))) (fun x : Emi => (x.key, x.policy, x.kind, x.start, x.rev, x.final, x.rkind, x.count, x.sum, x.min, x.max, x.q0, x.q1, x.q2, x.over))
theorem kEmi_open {w : World} {x : Emi} {cs : List Value} (h : kEmi.K w x cs) : cs = [.string x.key, .string x.policy, .int .i64 x.kind, .int .i64 x.start, .int .i64 x.rev, .bool x.final, .int .i64 x.rkind, .int .i64 x.count, .int .i64 x.sum, .int .i64 x.min, .int .i64 x.max, .int .i64 x.q0, .int .i64 x.q1, .int .i64 x.q2, .bool x.over] := by
  obtain ⟨_, _, rfl, rfl, ⟨_, _, rfl, rfl, ⟨_, _, rfl, rfl, ⟨_, _, rfl, rfl, ⟨_, _, rfl, rfl, ⟨_, _, rfl, rfl, ⟨_, _, rfl, rfl, ⟨_, _, rfl, rfl, ⟨_, _, rfl, rfl, ⟨_, _, rfl, rfl, ⟨_, _, rfl, rfl, ⟨_, _, rfl, rfl, ⟨_, _, rfl, rfl, ⟨_, _, rfl, rfl, rfl⟩⟩⟩⟩⟩⟩⟩⟩⟩⟩⟩⟩⟩⟩ := h
  exact rfl
theorem kEmi_mkM (w : World) (base : Nat) (ok : Nat → Prop) (x : Emi) : kEmi.M w base ok x [.string x.key, .string x.policy, .int .i64 x.kind, .int .i64 x.start, .int .i64 x.rev, .bool x.final, .int .i64 x.rkind, .int .i64 x.count, .int .i64 x.sum, .int .i64 x.min, .int .i64 x.max, .int .i64 x.q0, .int .i64 x.q1, .int .i64 x.q2, .bool x.over] := ⟨[.string x.key], [.string x.policy, .int .i64 x.kind, .int .i64 x.start, .int .i64 x.rev, .bool x.final, .int .i64 x.rkind, .int .i64 x.count, .int .i64 x.sum, .int .i64 x.min, .int .i64 x.max, .int .i64 x.q0, .int .i64 x.q1, .int .i64 x.q2, .bool x.over], rfl, rfl, ⟨[.string x.policy], [.int .i64 x.kind, .int .i64 x.start, .int .i64 x.rev, .bool x.final, .int .i64 x.rkind, .int .i64 x.count, .int .i64 x.sum, .int .i64 x.min, .int .i64 x.max, .int .i64 x.q0, .int .i64 x.q1, .int .i64 x.q2, .bool x.over], rfl, rfl, ⟨[.int .i64 x.kind], [.int .i64 x.start, .int .i64 x.rev, .bool x.final, .int .i64 x.rkind, .int .i64 x.count, .int .i64 x.sum, .int .i64 x.min, .int .i64 x.max, .int .i64 x.q0, .int .i64 x.q1, .int .i64 x.q2, .bool x.over], rfl, rfl, ⟨[.int .i64 x.start], [.int .i64 x.rev, .bool x.final, .int .i64 x.rkind, .int .i64 x.count, .int .i64 x.sum, .int .i64 x.min, .int .i64 x.max, .int .i64 x.q0, .int .i64 x.q1, .int .i64 x.q2, .bool x.over], rfl, rfl, ⟨[.int .i64 x.rev], [.bool x.final, .int .i64 x.rkind, .int .i64 x.count, .int .i64 x.sum, .int .i64 x.min, .int .i64 x.max, .int .i64 x.q0, .int .i64 x.q1, .int .i64 x.q2, .bool x.over], rfl, rfl, ⟨[.bool x.final], [.int .i64 x.rkind, .int .i64 x.count, .int .i64 x.sum, .int .i64 x.min, .int .i64 x.max, .int .i64 x.q0, .int .i64 x.q1, .int .i64 x.q2, .bool x.over], rfl, rfl, ⟨[.int .i64 x.rkind], [.int .i64 x.count, .int .i64 x.sum, .int .i64 x.min, .int .i64 x.max, .int .i64 x.q0, .int .i64 x.q1, .int .i64 x.q2, .bool x.over], rfl, rfl, ⟨[.int .i64 x.count], [.int .i64 x.sum, .int .i64 x.min, .int .i64 x.max, .int .i64 x.q0, .int .i64 x.q1, .int .i64 x.q2, .bool x.over], rfl, rfl, ⟨[.int .i64 x.sum], [.int .i64 x.min, .int .i64 x.max, .int .i64 x.q0, .int .i64 x.q1, .int .i64 x.q2, .bool x.over], rfl, rfl, ⟨[.int .i64 x.min], [.int .i64 x.max, .int .i64 x.q0, .int .i64 x.q1, .int .i64 x.q2, .bool x.over], rfl, rfl, ⟨[.int .i64 x.max], [.int .i64 x.q0, .int .i64 x.q1, .int .i64 x.q2, .bool x.over], rfl, rfl, ⟨[.int .i64 x.q0], [.int .i64 x.q1, .int .i64 x.q2, .bool x.over], rfl, rfl, ⟨[.int .i64 x.q1], [.int .i64 x.q2, .bool x.over], rfl, rfl, ⟨[.int .i64 x.q2], [.bool x.over], rfl, rfl, rfl⟩⟩⟩⟩⟩⟩⟩⟩⟩⟩⟩⟩⟩⟩
theorem kEmi_openM {w : World} {base : Nat} {ok : Nat → Prop} {x : Emi} {cs : List Value} (h : kEmi.M w base ok x cs) : cs = [.string x.key, .string x.policy, .int .i64 x.kind, .int .i64 x.start, .int .i64 x.rev, .bool x.final, .int .i64 x.rkind, .int .i64 x.count, .int .i64 x.sum, .int .i64 x.min, .int .i64 x.max, .int .i64 x.q0, .int .i64 x.q1, .int .i64 x.q2, .bool x.over] := by
  obtain ⟨_, _, rfl, rfl, ⟨_, _, rfl, rfl, ⟨_, _, rfl, rfl, ⟨_, _, rfl, rfl, ⟨_, _, rfl, rfl, ⟨_, _, rfl, rfl, ⟨_, _, rfl, rfl, ⟨_, _, rfl, rfl, ⟨_, _, rfl, rfl, ⟨_, _, rfl, rfl, ⟨_, _, rfl, rfl, ⟨_, _, rfl, rfl, ⟨_, _, rfl, rfl, ⟨_, _, rfl, rfl, rfl⟩⟩⟩⟩⟩⟩⟩⟩⟩⟩⟩⟩⟩⟩ := h
  exact rfl
theorem infoSrc1 : (Tryz.prog.info? 119).map (fun i => (i.zero, i.size, i.bytes)) = some (some (.agg #[.string ⟨#[]⟩, .int .i64 0, .int .i64 0]), 3, 32) := by kernel_rfl
theorem infoSrc2 : (Tryz.prog.info? 85).map (fun i => (i.zero, i.size, i.bytes)) = some (some (.agg #[.string ⟨#[]⟩, .int .i64 0, .int .i64 0]), 3, 32) := by kernel_rfl
theorem infoSen1 : (Tryz.prog.info? 122).map (fun i => (i.zero, i.size, i.bytes)) = some (some (.agg #[.string ⟨#[]⟩, .int .i64 0, .slice none 0 0]), 3, 48) := by kernel_rfl
theorem infoSen2 : (Tryz.prog.info? 88).map (fun i => (i.zero, i.size, i.bytes)) = some (some (.agg #[.string ⟨#[]⟩, .int .i64 0, .slice none 0 0]), 3, 48) := by kernel_rfl
theorem infoLab1 : (Tryz.prog.info? 98).map (fun i => (i.zero, i.size, i.bytes)) = some (some (.agg #[.string ⟨#[]⟩, .string ⟨#[]⟩]), 2, 32) := by kernel_rfl
theorem infoCel1 : (Tryz.prog.info? 104).map (fun i => (i.zero, i.size, i.bytes)) = some (some (.agg #[.string ⟨#[]⟩, .slice none 0 0, .int .i64 0, .int .i64 0, .int .i64 0, .bool false, .int .i64 0, .int .i64 0, .int .i64 0, .int .i64 0, .int .i64 0, .int .i64 0, .int .i64 0, .string ⟨#[]⟩, .slice none 0 0, .slice none 0 0]), 16, 192) := by kernel_rfl
theorem infoCel2 : (Tryz.prog.info? 96).map (fun i => (i.zero, i.size, i.bytes)) = some (some (.agg #[.string ⟨#[]⟩, .slice none 0 0, .int .i64 0, .int .i64 0, .int .i64 0, .bool false, .int .i64 0, .int .i64 0, .int .i64 0, .int .i64 0, .int .i64 0, .int .i64 0, .int .i64 0, .string ⟨#[]⟩, .slice none 0 0, .slice none 0 0]), 16, 192) := by kernel_rfl
theorem infoEmi1 : (Tryz.prog.info? 30).map (fun i => (i.zero, i.size, i.bytes)) = some (some (.agg #[.string ⟨#[]⟩, .string ⟨#[]⟩, .int .i64 0, .int .i64 0, .int .i64 0, .bool false, .int .i64 0, .int .i64 0, .int .i64 0, .int .i64 0, .int .i64 0, .int .i64 0, .int .i64 0, .int .i64 0, .bool false]), 15, 136) := by kernel_rfl
end Go.Proofs.YtpdppfihpnfblaaGreat.H
