/- Nothing: a name that rows open. Conditions: none. -/
namespace Go.Proofs.Ytlhpflicchchlaa.Opens
end Go.Proofs.Ytlhpflicchchlaa.Opens
